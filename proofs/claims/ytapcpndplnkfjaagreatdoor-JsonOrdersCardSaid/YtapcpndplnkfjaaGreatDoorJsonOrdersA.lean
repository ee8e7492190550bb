/- What the law rests on, part 1: joined by a program of this session (claimx.py). -/
import Derived.Test.YtapcpndplnkfjaaGreatDoorProg
import Derived.Test.YtapcpndplnkfjaaGreatDoorWWords
import Derived.Test.YtapcpndplnkfjaaGreatDoorWLast
import Derived.Test.YtapcpndplnkfjaaGreatDoorWTab
import Derived.Test.YtapcpndplnkfjaaGreatDoorWFour
import Derived.Test.YtapcpndplnkfjaaGreatDoorWQPut
import Derived.Test.YtapcpndplnkfjaaGreatDoorWApart
import Derived.Test.YtapcpndplnkfjaaGreatDoorWArr
import Derived.Test.YtapcpndplnkfjaaGreatDoorWZeros
import Derived.Test.YtapcpndplnkfjaaGreatDoorWFoot
import Derived.Test.YtapcpndplnkfjaaGreatDoorWKept
import Derived.Test.YtapcpndplnkfjaaGreatDoorWShare
import Derived.Test.YtapcpndplnkfjaaGreatDoorWN
import Derived.Test.YtapcpndplnkfjaaGreatDoorWFootNe
import Derived.Test.YtapcpndplnkfjaaGreatDoorWAt
import Derived.Test.YtapcpndplnkfjaaGreatDoorWEqStruct
import Derived.Test.YtapcpndplnkfjaaGreatDoorWRepsOne
import Derived.Test.YtapcpndplnkfjaaGreatDoorWInv
import Derived.Test.YtapcpndplnkfjaaGreatDoorWInvWords
import Derived.Test.YtapcpndplnkfjaaGreatDoorWGuard
import Derived.Test.YtapcpndplnkfjaaGreatDoorWNEv
import Derived.Test.YtapcpndplnkfjaaGreatDoorWMore
import Derived.Test.YtapcpndplnkfjaaGreatDoorCards
import Derived.Test.YtapcpndplnkfjaaGreatDoorTie
import Derived.Shelf.Strings.Builder1
import Derived.Shelf.Strings.Builder2
import Derived.Shelf.Strings.OnBuilder
import Derived.Shelf.Strings.Trim
import Derived.Shelf.Small.Utf8
import Derived.Shelf.Small.Strs
import Derived.Shelf.Small.Wraps
import Derived.Shelf.Strings.BuilderF
import Derived.Shelf.Strings.BuilderK
import Derived.Shelf.Strings.BuilderRune
import Derived.Shelf.Strings.Builder2Cap
import Derived.Shelf.Strconv.Itoa0
import Derived.Shelf.Strconv.Itoa1
import Derived.Shelf.LaysM
import Derived.Shelf.Strconv.Itoa2
import Derived.Shelf.Strconv.Itoa3
import Derived.Shelf.Strings.Search1
import Derived.Shelf.Strings.Search2
import Derived.Shelf.Strings.Search3
import Derived.Shelf.Strings.Shaped
import Derived.Shelf.Strings.Prefix
import Derived.Shelf.Unicode.Latin
import Derived.Shelf.Strings.Runes
import Derived.Shelf.Strings.AsciiSet
import Derived.Shelf.Unicode.DecodeSlow
import Derived.Shelf.Unicode.DecodeAny
import Derived.Shelf.Unicode.CaseLookup
import Derived.Shelf.Unicode.CaseConvert
import Derived.Shelf.Unicode.CaseTo
import Derived.Shelf.Unicode.CaseLaid
import Derived.Shelf.Strings.MapAny
import Derived.Shelf.Strings.CaseAny
import Derived.Shelf.Strings.BuilderCap
import Derived.Shelf.Slices.Equal
import Derived.Shelf.Slices.Empties2
import Derived.Shelf.Strings.SlTrimAscii
import Derived.WalkSmall
import Derived.WalkKit
import Derived.Lib.Hide
import Derived.Laws.RangeAny
import Derived.LoopTactic
import Derived.Below
import Derived.Deep.Draws
import Derived.Deep.AppendLies
import Derived.Maps.AppendAt
import Derived.OwnWalk
import Derived.Laws.BytesArg
import Derived.Laws.MakeOwn
import Derived.Laws.OwnMore
import Derived.Deep.OwnRows
import Derived.Tactics
import Derived.Lib.ConvBytes
import Derived.Laws.Slices
import Derived.KernelRfl
import Derived.RowKit3
import Derived.Deep.LoopGhost
import Derived.Deep.QuietTactic
import Derived.BigQuiet
import Derived.WideLaws
import Derived.Deep.DeepCutAuto
import Derived.Deep.CutBlock
import Derived.Deep.RegionHeld3
import Derived.Laws.Rows
import Derived.Lib.AppendStr
import Derived.ArgAppend
import Derived.Laws.IdiomCopy
import Derived.OrdersHeld
import Derived.Laws.BitsLemmas
import Derived.RowKit
import Derived.WalkLawsBesides
import Derived.OneCell
import Derived.StillTailTactics
import Derived.IntWalk
import Derived.MapKept
import Derived.RegionTactic
import Derived.ChangeAlike
import Derived.Shelf.Spec.SlicesInsertGrow
import Derived.Laws.CopyRow
import Derived.Shelf.Spec.SearchS
import Derived.Laws.Runes
import Derived.Scope
import Derived.Handy
import Derived.BigRegion
import Derived.RegionCalls
import Derived.Lib.QuoteLoop
import Derived.Lib.AppendZeros
import Derived.Lib.SliceRun
import Derived.Lib.ItoaLen
import Derived.PinnedBridge
import Derived.Lay
import Derived.LaidSub
import Derived.ProofKit
import Derived.OpenShut
import Derived.ShutString
import Derived.Deep.DeepHandedRow
import Derived.Lib.LaidTab
import Derived.Lib.LaidU8
import Derived.Lib.LaidCase
import Derived.Lib.SmallJoins
import Derived.Stop.LaidErr
import Derived.Stop.Joined
import Derived.ChangeOld
import Derived.SizedLaws
namespace Go.Proofs
open Go.Shelf
def Tryz.lays169_ren : Go.Shelf.Ren := ⟨fun | 169 => 86 | n => n, fun | 70 => 124 | 9 => 9 | 0 => 0 | 72 => 126 | 37 => 38 | 127 => 153 | 3 => 3 | 5 => 5 | n => n, fun | n => n⟩
theorem Tryz.lays169 : Go.Proofs.Lays.n169 Tryz.prog Tryz.lays169_ren := {
  mixed := by kernel_rfl
  f169 := Tryz.func86.trans (congrArg some (by kernel_rfl))
  t0 := Tryz.underlying0
  a0 := Tryz.isAgg0
  z0 := Tryz.sizeOf0
  v0 := Tryz.zeroValue0
  t3 := Tryz.underlying3
  a3 := Tryz.isAgg3
  z3 := Tryz.sizeOf3
  v3 := Tryz.zeroValue3
  t9 := Tryz.underlying9
  a9 := Tryz.isAgg9
  z9 := Tryz.sizeOf9
  v9 := Tryz.zeroValue9
  t37 := Tryz.underlying38
  a37 := Tryz.isAgg38
  z37 := Tryz.sizeOf38
  v37 := Tryz.zeroValue38
  t70 := Tryz.underlying124
  a70 := Tryz.isAgg124
  z70 := Tryz.sizeOf124
  v70 := Tryz.zeroValue124
  t72 := Tryz.underlying126
  a72 := Tryz.isAgg126
  z72 := Tryz.sizeOf126
  v72 := Tryz.zeroValue126
  t127 := Tryz.underlying153
  a127 := Tryz.isAgg153
  z127 := Tryz.sizeOf153
  v127 := Tryz.zeroValue153 }
theorem Tryz.Builder_Extra_169 : Builder.Extra Tryz.prog Tryz.lays169_ren := {
  sizeBuilder := by kernel_rfl
  liesBuilder := by kernel_rfl
  t5 := Tryz.underlying5
  a5 := Tryz.isAgg5
  z5 := Tryz.sizeOf5
  v5 := Tryz.zeroValue5
  infoByte := by kernel_rfl
  cellsByte := by kernel_rfl
  sizeByte := by kernel_rfl
  neB5 := by decide }
open Go.RowKit in
theorem Tryz.Builder_String_any (B b : Nat) (l : List UInt8) (w : World) (h : Lib.IsBuilder 126 5 B b (Lib.byteCells l) w) (hBw : B ≤ w.heap.size) :
    Calls Tryz.prog 86 #[.pointer (some ⟨b, 0, none⟩)] w fun e w' => e = .returned (.string ⟨l.toArray⟩) ∧ Below B w w' := Any.Builder_String_any Tryz.lays169 Tryz.Builder_Extra_169 B b l w h hBw
def Tryz.lays159_ren : Go.Shelf.Ren := ⟨fun | 159 => 177 | 165 => 87 | 166 => 85 | 167 => 84 | 169 => 86 | 230 => 183 | 204 => 184 | 240 => 114 | 241 => 115 | 197 => 136 | 118 => 187 | 168 => 188 | 270 => 189 | 262 => 190 | 276 => 143 | 277 => 144 | 260 => 153 | 242 => 192 | 313 => 193 | 278 => 194 | 274 => 195 | 275 => 196 | n => n, fun | 9 => 9 | 4 => 4 | 3 => 3 | 5 => 5 | 72 => 126 | 0 => 0 | 76 => 130 | 75 => 128 | 107 => 201 | 70 => 124 | 20 => 20 | 37 => 38 | 127 => 153 | 21 => 21 | 105 => 165 | 164 => 172 | 162 => 212 | 203 => 210 | 119 => 189 | 46 => 132 | 139 => 192 | 138 => 191 | 51 => 196 | 160 => 213 | 208 => 219 | 206 => 217 | 80 => 115 | n => n, fun | 13 => 7 | 3 => 2 | 4 => 3 | n => n⟩
theorem Tryz.lays159 : Go.Proofs.Lays.n159 Tryz.prog Tryz.lays159_ren := {
  mixed := by kernel_rfl
  f118 := Tryz.func187.trans (congrArg some (by kernel_rfl))
  f159 := Tryz.func177.trans (congrArg some (by kernel_rfl))
  f165 := Tryz.func87.trans (congrArg some (by kernel_rfl))
  f166 := Tryz.func85.trans (congrArg some (by kernel_rfl))
  f167 := Tryz.func84.trans (congrArg some (by kernel_rfl))
  f168 := Tryz.func188.trans (congrArg some (by kernel_rfl))
  f169 := Tryz.func86.trans (congrArg some (by kernel_rfl))
  f197 := Tryz.func136.trans (congrArg some (by kernel_rfl))
  f204 := Tryz.func184.trans (congrArg some (by kernel_rfl))
  f230 := Tryz.func183.trans (congrArg some (by kernel_rfl))
  f240 := Tryz.func114.trans (congrArg some (by kernel_rfl))
  f241 := Tryz.func115.trans (congrArg some (by kernel_rfl))
  f242 := Tryz.func192.trans (congrArg some (by kernel_rfl))
  f260 := Tryz.func153.trans (congrArg some (by kernel_rfl))
  f262 := Tryz.func190.trans (congrArg some (by kernel_rfl))
  f270 := Tryz.func189.trans (congrArg some (by kernel_rfl))
  f274 := Tryz.func195.trans (congrArg some (by kernel_rfl))
  f275 := Tryz.func196.trans (congrArg some (by kernel_rfl))
  f276 := Tryz.func143.trans (congrArg some (by kernel_rfl))
  f277 := Tryz.func144.trans (congrArg some (by kernel_rfl))
  f278 := Tryz.func194.trans (congrArg some (by kernel_rfl))
  f313 := Tryz.func193.trans (congrArg some (by kernel_rfl))
  t0 := Tryz.underlying0
  a0 := Tryz.isAgg0
  z0 := Tryz.sizeOf0
  v0 := Tryz.zeroValue0
  t3 := Tryz.underlying3
  a3 := Tryz.isAgg3
  z3 := Tryz.sizeOf3
  v3 := Tryz.zeroValue3
  t4 := Tryz.underlying4
  a4 := Tryz.isAgg4
  z4 := Tryz.sizeOf4
  v4 := Tryz.zeroValue4
  t5 := Tryz.underlying5
  a5 := Tryz.isAgg5
  z5 := Tryz.sizeOf5
  v5 := Tryz.zeroValue5
  t9 := Tryz.underlying9
  a9 := Tryz.isAgg9
  z9 := Tryz.sizeOf9
  v9 := Tryz.zeroValue9
  t20 := Tryz.underlying20
  a20 := Tryz.isAgg20
  z20 := Tryz.sizeOf20
  v20 := Tryz.zeroValue20
  t21 := Tryz.underlying21
  a21 := Tryz.isAgg21
  z21 := Tryz.sizeOf21
  v21 := Tryz.zeroValue21
  t37 := Tryz.underlying38
  a37 := Tryz.isAgg38
  z37 := Tryz.sizeOf38
  v37 := Tryz.zeroValue38
  t46 := Tryz.underlying132
  a46 := Tryz.isAgg132
  z46 := Tryz.sizeOf132
  v46 := Tryz.zeroValue132
  t51 := Tryz.underlying196
  a51 := Tryz.isAgg196
  z51 := Tryz.sizeOf196
  v51 := Tryz.zeroValue196
  t70 := Tryz.underlying124
  a70 := Tryz.isAgg124
  z70 := Tryz.sizeOf124
  v70 := Tryz.zeroValue124
  t72 := Tryz.underlying126
  a72 := Tryz.isAgg126
  z72 := Tryz.sizeOf126
  v72 := Tryz.zeroValue126
  t75 := Tryz.underlying128
  a75 := Tryz.isAgg128
  z75 := Tryz.sizeOf128
  v75 := Tryz.zeroValue128
  t76 := Tryz.underlying130
  a76 := Tryz.isAgg130
  z76 := Tryz.sizeOf130
  v76 := Tryz.zeroValue130
  t105 := Tryz.underlying165
  a105 := Tryz.isAgg165
  z105 := Tryz.sizeOf165
  v105 := Tryz.zeroValue165
  t107 := Tryz.underlying201
  a107 := Tryz.isAgg201
  z107 := Tryz.sizeOf201
  v107 := Tryz.zeroValue201
  t119 := Tryz.underlying189
  a119 := Tryz.isAgg189
  z119 := Tryz.sizeOf189
  t127 := Tryz.underlying153
  a127 := Tryz.isAgg153
  z127 := Tryz.sizeOf153
  v127 := Tryz.zeroValue153
  t138 := Tryz.underlying191
  a138 := Tryz.isAgg191
  z138 := Tryz.sizeOf191
  v138 := Tryz.zeroValue191
  t139 := Tryz.underlying192
  a139 := Tryz.isAgg192
  z139 := Tryz.sizeOf192
  v139 := Tryz.zeroValue192
  t160 := Tryz.underlying213
  a160 := Tryz.isAgg213
  z160 := Tryz.sizeOf213
  v160 := Tryz.zeroValue213
  t162 := Tryz.underlying212
  a162 := Tryz.isAgg212
  z162 := Tryz.sizeOf212
  v162 := Tryz.zeroValue212
  t164 := Tryz.underlying172
  a164 := Tryz.isAgg172
  z164 := Tryz.sizeOf172
  v164 := Tryz.zeroValue172
  t203 := Tryz.underlying210
  a203 := Tryz.isAgg210
  z203 := Tryz.sizeOf210
  v203 := Tryz.zeroValue210
  t206 := Tryz.underlying217
  a206 := Tryz.isAgg217
  z206 := Tryz.sizeOf217
  v206 := Tryz.zeroValue217
  t208 := Tryz.underlying219
  a208 := Tryz.isAgg219
  z208 := Tryz.sizeOf219
  v208 := Tryz.zeroValue219
  g3 := by kernel_rfl
  g4 := by kernel_rfl
  g13 := by kernel_rfl }
theorem Tryz.Builder_Extra_159 : Builder.Extra Tryz.prog Tryz.lays159_ren := {
  sizeBuilder := by kernel_rfl
  liesBuilder := by kernel_rfl
  t5 := Tryz.underlying5
  a5 := Tryz.isAgg5
  z5 := Tryz.sizeOf5
  v5 := Tryz.zeroValue5
  infoByte := by kernel_rfl
  cellsByte := by kernel_rfl
  sizeByte := by kernel_rfl
  neB5 := by decide }
def Tryz.lays156_ren : Go.Shelf.Ren := ⟨fun | 156 => 58 | 165 => 87 | 166 => 85 | 169 => 86 | 240 => 114 | 241 => 115 | 276 => 143 | 277 => 144 | n => n, fun | 31 => 26 | 9 => 9 | 3 => 3 | 4 => 4 | 0 => 0 | 20 => 20 | 72 => 126 | 76 => 130 | 70 => 124 | 37 => 38 | 75 => 128 | 127 => 153 | 164 => 172 | 5 => 5 | 80 => 115 | n => n, fun | n => n⟩
theorem Tryz.lays156 : Go.Proofs.Lays.n156 Tryz.prog Tryz.lays156_ren := {
  mixed := by kernel_rfl
  f156 := Tryz.func58.trans (congrArg some (by kernel_rfl))
  f165 := Tryz.func87.trans (congrArg some (by kernel_rfl))
  f166 := Tryz.func85.trans (congrArg some (by kernel_rfl))
  f169 := Tryz.func86.trans (congrArg some (by kernel_rfl))
  f240 := Tryz.func114.trans (congrArg some (by kernel_rfl))
  f241 := Tryz.func115.trans (congrArg some (by kernel_rfl))
  f276 := Tryz.func143.trans (congrArg some (by kernel_rfl))
  f277 := Tryz.func144.trans (congrArg some (by kernel_rfl))
  t0 := Tryz.underlying0
  a0 := Tryz.isAgg0
  z0 := Tryz.sizeOf0
  v0 := Tryz.zeroValue0
  t3 := Tryz.underlying3
  a3 := Tryz.isAgg3
  z3 := Tryz.sizeOf3
  v3 := Tryz.zeroValue3
  t4 := Tryz.underlying4
  a4 := Tryz.isAgg4
  z4 := Tryz.sizeOf4
  v4 := Tryz.zeroValue4
  t9 := Tryz.underlying9
  a9 := Tryz.isAgg9
  z9 := Tryz.sizeOf9
  v9 := Tryz.zeroValue9
  t20 := Tryz.underlying20
  a20 := Tryz.isAgg20
  z20 := Tryz.sizeOf20
  v20 := Tryz.zeroValue20
  t31 := Tryz.underlying26
  a31 := Tryz.isAgg26
  z31 := Tryz.sizeOf26
  v31 := Tryz.zeroValue26
  t37 := Tryz.underlying38
  a37 := Tryz.isAgg38
  z37 := Tryz.sizeOf38
  v37 := Tryz.zeroValue38
  t70 := Tryz.underlying124
  a70 := Tryz.isAgg124
  z70 := Tryz.sizeOf124
  v70 := Tryz.zeroValue124
  t72 := Tryz.underlying126
  a72 := Tryz.isAgg126
  z72 := Tryz.sizeOf126
  v72 := Tryz.zeroValue126
  t75 := Tryz.underlying128
  a75 := Tryz.isAgg128
  z75 := Tryz.sizeOf128
  v75 := Tryz.zeroValue128
  t76 := Tryz.underlying130
  a76 := Tryz.isAgg130
  z76 := Tryz.sizeOf130
  v76 := Tryz.zeroValue130
  t127 := Tryz.underlying153
  a127 := Tryz.isAgg153
  z127 := Tryz.sizeOf153
  v127 := Tryz.zeroValue153
  t164 := Tryz.underlying172
  a164 := Tryz.isAgg172
  z164 := Tryz.sizeOf172
  v164 := Tryz.zeroValue172 }
theorem Tryz.Builder_Extra_156 : Builder.Extra Tryz.prog Tryz.lays156_ren := {
  sizeBuilder := by kernel_rfl
  liesBuilder := by kernel_rfl
  t5 := Tryz.underlying5
  a5 := Tryz.isAgg5
  z5 := Tryz.sizeOf5
  v5 := Tryz.zeroValue5
  infoByte := by kernel_rfl
  cellsByte := by kernel_rfl
  sizeByte := by kernel_rfl
  neB5 := by decide }
open Go.RowKit in
theorem Tryz.strings_Join_none (a : Option Addr) (c : Nat) (sep : ByteArray) (w : World) :
    Calls Tryz.prog 58 #[.slice a 0 c, .string sep] w fun e w' => e = .returned (.string ⟨#[]⟩) ∧ w' = w := Any.strings_Join_none Tryz.lays156 Tryz.Builder_Extra_156 a c sep w
open Go.RowKit in
theorem Tryz.strings_Join (bk o c : Nat) (xs : List ByteArray) (sep : ByteArray) (w : World) (hcells : ∀ (j : Nat) x, xs[j]? = some x → w.cell? ⟨bk, o + j, none⟩ = some (.string x)) (hbk : bk < w.heap.size) (hN : xs.length ≤ 140737488355328) (hcap : xs.length ≤ c) (hlen : (Lib.join (xs.map (·.data.toList)) sep.data.toList).length ≤ 140737488355328) :
    Calls Tryz.prog 58 #[.slice (some ⟨bk, o, none⟩) xs.length c, .string sep] w fun e w' => e = .returned (.string ⟨(Lib.join (xs.map (·.data.toList)) sep.data.toList).toArray⟩) ∧ Below w.heap.size w w' := Any.strings_Join Tryz.lays156 Tryz.Builder_Extra_156 bk o c xs sep w hcells hbk hN hcap hlen
def Tryz.lays161_ren : Go.Shelf.Ren := ⟨fun | 161 => 71 | 231 => 102 | 227 => 103 | 233 => 104 | 235 => 105 | 228 => 135 | 197 => 136 | 151 => 137 | 260 => 153 | 152 => 154 | 137 => 147 | 119 => 169 | 224 => 170 | 225 => 171 | 217 => 162 | 266 => 178 | n => n, fun | 9 => 9 | 4 => 4 | 3 => 3 | 5 => 5 | 117 => 142 | 116 => 141 | 0 => 0 | 124 => 145 | 105 => 165 | 21 => 21 | 119 => 189 | 46 => 132 | 139 => 192 | 138 => 191 | n => n, fun | 3 => 2 | 4 => 3 | n => n⟩
theorem Tryz.lays161 : Go.Proofs.Lays.n161 Tryz.prog Tryz.lays161_ren := {
  mixed := by kernel_rfl
  f119 := Tryz.func169.trans (congrArg some (by kernel_rfl))
  f137 := Tryz.func147.trans (congrArg some (by kernel_rfl))
  f151 := Tryz.func137.trans (congrArg some (by kernel_rfl))
  f152 := Tryz.func154.trans (congrArg some (by kernel_rfl))
  f161 := Tryz.func71.trans (congrArg some (by kernel_rfl))
  f197 := Tryz.func136.trans (congrArg some (by kernel_rfl))
  f217 := Tryz.func162.trans (congrArg some (by kernel_rfl))
  f224 := Tryz.func170.trans (congrArg some (by kernel_rfl))
  f225 := Tryz.func171.trans (congrArg some (by kernel_rfl))
  f227 := Tryz.func103.trans (congrArg some (by kernel_rfl))
  f228 := Tryz.func135.trans (congrArg some (by kernel_rfl))
  f231 := Tryz.func102.trans (congrArg some (by kernel_rfl))
  f233 := Tryz.func104.trans (congrArg some (by kernel_rfl))
  f235 := Tryz.func105.trans (congrArg some (by kernel_rfl))
  f260 := Tryz.func153.trans (congrArg some (by kernel_rfl))
  f266 := Tryz.func178.trans (congrArg some (by kernel_rfl))
  t0 := Tryz.underlying0
  a0 := Tryz.isAgg0
  z0 := Tryz.sizeOf0
  v0 := Tryz.zeroValue0
  t3 := Tryz.underlying3
  a3 := Tryz.isAgg3
  z3 := Tryz.sizeOf3
  v3 := Tryz.zeroValue3
  t4 := Tryz.underlying4
  a4 := Tryz.isAgg4
  z4 := Tryz.sizeOf4
  v4 := Tryz.zeroValue4
  t5 := Tryz.underlying5
  a5 := Tryz.isAgg5
  z5 := Tryz.sizeOf5
  v5 := Tryz.zeroValue5
  t9 := Tryz.underlying9
  a9 := Tryz.isAgg9
  z9 := Tryz.sizeOf9
  v9 := Tryz.zeroValue9
  t21 := Tryz.underlying21
  a21 := Tryz.isAgg21
  z21 := Tryz.sizeOf21
  v21 := Tryz.zeroValue21
  t46 := Tryz.underlying132
  a46 := Tryz.isAgg132
  z46 := Tryz.sizeOf132
  v46 := Tryz.zeroValue132
  t105 := Tryz.underlying165
  a105 := Tryz.isAgg165
  z105 := Tryz.sizeOf165
  v105 := Tryz.zeroValue165
  t116 := Tryz.underlying141
  a116 := Tryz.isAgg141
  z116 := Tryz.sizeOf141
  t117 := Tryz.underlying142
  a117 := Tryz.isAgg142
  z117 := Tryz.sizeOf142
  v117 := Tryz.zeroValue142
  t119 := Tryz.underlying189
  a119 := Tryz.isAgg189
  z119 := Tryz.sizeOf189
  t124 := Tryz.underlying145
  a124 := Tryz.isAgg145
  z124 := Tryz.sizeOf145
  v124 := Tryz.zeroValue145
  t138 := Tryz.underlying191
  a138 := Tryz.isAgg191
  z138 := Tryz.sizeOf191
  v138 := Tryz.zeroValue191
  t139 := Tryz.underlying192
  a139 := Tryz.isAgg192
  z139 := Tryz.sizeOf192
  v139 := Tryz.zeroValue192
  g3 := by kernel_rfl
  g4 := by kernel_rfl }
def Tryz.lays162_ren : Go.Shelf.Ren := ⟨fun | 162 => 152 | 232 => 166 | 227 => 103 | 234 => 167 | 236 => 168 | 228 => 135 | 271 => 180 | 151 => 137 | 120 => 186 | 197 => 136 | 152 => 154 | 260 => 153 | 137 => 147 | 119 => 169 | 224 => 170 | 225 => 171 | 217 => 162 | 266 => 178 | n => n, fun | 9 => 9 | 4 => 4 | 3 => 3 | 5 => 5 | 117 => 142 | 116 => 141 | 0 => 0 | 124 => 145 | 21 => 21 | 105 => 165 | 46 => 132 | 119 => 189 | 139 => 192 | 138 => 191 | n => n, fun | 3 => 2 | 4 => 3 | n => n⟩
theorem Tryz.lays162 : Go.Proofs.Lays.n162 Tryz.prog Tryz.lays162_ren := {
  mixed := by kernel_rfl
  f119 := Tryz.func169.trans (congrArg some (by kernel_rfl))
  f120 := Tryz.func186.trans (congrArg some (by kernel_rfl))
  f137 := Tryz.func147.trans (congrArg some (by kernel_rfl))
  f151 := Tryz.func137.trans (congrArg some (by kernel_rfl))
  f152 := Tryz.func154.trans (congrArg some (by kernel_rfl))
  f162 := Tryz.func152.trans (congrArg some (by kernel_rfl))
  f197 := Tryz.func136.trans (congrArg some (by kernel_rfl))
  f217 := Tryz.func162.trans (congrArg some (by kernel_rfl))
  f224 := Tryz.func170.trans (congrArg some (by kernel_rfl))
  f225 := Tryz.func171.trans (congrArg some (by kernel_rfl))
  f227 := Tryz.func103.trans (congrArg some (by kernel_rfl))
  f228 := Tryz.func135.trans (congrArg some (by kernel_rfl))
  f232 := Tryz.func166.trans (congrArg some (by kernel_rfl))
  f234 := Tryz.func167.trans (congrArg some (by kernel_rfl))
  f236 := Tryz.func168.trans (congrArg some (by kernel_rfl))
  f260 := Tryz.func153.trans (congrArg some (by kernel_rfl))
  f266 := Tryz.func178.trans (congrArg some (by kernel_rfl))
  f271 := Tryz.func180.trans (congrArg some (by kernel_rfl))
  t0 := Tryz.underlying0
  a0 := Tryz.isAgg0
  z0 := Tryz.sizeOf0
  v0 := Tryz.zeroValue0
  t3 := Tryz.underlying3
  a3 := Tryz.isAgg3
  z3 := Tryz.sizeOf3
  v3 := Tryz.zeroValue3
  t4 := Tryz.underlying4
  a4 := Tryz.isAgg4
  z4 := Tryz.sizeOf4
  v4 := Tryz.zeroValue4
  t5 := Tryz.underlying5
  a5 := Tryz.isAgg5
  z5 := Tryz.sizeOf5
  v5 := Tryz.zeroValue5
  t9 := Tryz.underlying9
  a9 := Tryz.isAgg9
  z9 := Tryz.sizeOf9
  v9 := Tryz.zeroValue9
  t21 := Tryz.underlying21
  a21 := Tryz.isAgg21
  z21 := Tryz.sizeOf21
  v21 := Tryz.zeroValue21
  t46 := Tryz.underlying132
  a46 := Tryz.isAgg132
  z46 := Tryz.sizeOf132
  v46 := Tryz.zeroValue132
  t105 := Tryz.underlying165
  a105 := Tryz.isAgg165
  z105 := Tryz.sizeOf165
  v105 := Tryz.zeroValue165
  t116 := Tryz.underlying141
  a116 := Tryz.isAgg141
  z116 := Tryz.sizeOf141
  t117 := Tryz.underlying142
  a117 := Tryz.isAgg142
  z117 := Tryz.sizeOf142
  v117 := Tryz.zeroValue142
  t119 := Tryz.underlying189
  a119 := Tryz.isAgg189
  z119 := Tryz.sizeOf189
  t124 := Tryz.underlying145
  a124 := Tryz.isAgg145
  z124 := Tryz.sizeOf145
  v124 := Tryz.zeroValue145
  t138 := Tryz.underlying191
  a138 := Tryz.isAgg191
  z138 := Tryz.sizeOf191
  v138 := Tryz.zeroValue191
  t139 := Tryz.underlying192
  a139 := Tryz.isAgg192
  z139 := Tryz.sizeOf192
  v139 := Tryz.zeroValue192
  g3 := by kernel_rfl
  g4 := by kernel_rfl }
def Tryz.lays106_ren : Go.Shelf.Ren := ⟨fun | 106 => 53 | 213 => 82 | 265 => 112 | n => n, fun | 9 => 9 | 3 => 3 | n => n, fun | n => n⟩
theorem Tryz.lays106 : Go.Proofs.Lays.n106 Tryz.prog Tryz.lays106_ren := {
  mixed := by kernel_rfl
  f106 := Tryz.func53.trans (congrArg some (by kernel_rfl))
  f213 := Tryz.func82.trans (congrArg some (by kernel_rfl))
  f265 := Tryz.func112.trans (congrArg some (by kernel_rfl))
  t3 := Tryz.underlying3
  a3 := Tryz.isAgg3
  z3 := Tryz.sizeOf3
  v3 := Tryz.zeroValue3
  t9 := Tryz.underlying9
  a9 := Tryz.isAgg9
  z9 := Tryz.sizeOf9
  v9 := Tryz.zeroValue9 }
open Go.RowKit in
theorem Tryz.strings_Compare (a b : ByteArray) (w : World) :
    Calls Tryz.prog 53 #[.string a, .string b] w fun e w' => e = .returned (.int .i64 (Lib.compareBytes a.data.toList b.data.toList)) ∧ w' = w := Any.strings_Compare Tryz.lays106 a b w
def Tryz.lays137_ren : Go.Shelf.Ren := ⟨fun | 137 => 147 | 217 => 162 | 266 => 178 | n => n, fun | 9 => 9 | 5 => 5 | 3 => 3 | n => n, fun | n => n⟩
theorem Tryz.lays137 : Go.Proofs.Lays.n137 Tryz.prog Tryz.lays137_ren := {
  mixed := by kernel_rfl
  f137 := Tryz.func147.trans (congrArg some (by kernel_rfl))
  f217 := Tryz.func162.trans (congrArg some (by kernel_rfl))
  f266 := Tryz.func178.trans (congrArg some (by kernel_rfl))
  t3 := Tryz.underlying3
  a3 := Tryz.isAgg3
  z3 := Tryz.sizeOf3
  v3 := Tryz.zeroValue3
  t5 := Tryz.underlying5
  a5 := Tryz.isAgg5
  z5 := Tryz.sizeOf5
  v5 := Tryz.zeroValue5
  t9 := Tryz.underlying9
  a9 := Tryz.isAgg9
  z9 := Tryz.sizeOf9
  v9 := Tryz.zeroValue9 }
open Go.RowKit in
theorem Tryz.strings_IndexByte (s : ByteArray) (c : Int) (w : World) :
    Calls Tryz.prog 147 #[.string s, .int .u8 c] w fun e w' => e = .returned (.int .i64 (Lib.indexByte s.data.toList c.toNat.toUInt8)) ∧ w' = w := Any.strings_IndexByte Tryz.lays137 s c w
def Tryz.lays103_ren : Go.Shelf.Ren := ⟨fun | 103 => 145 | 210 => 160 | 206 => 121 | n => n, fun | 9 => 9 | 4 => 4 | 24 => 175 | 3 => 3 | n => n, fun | n => n⟩
theorem Tryz.lays103 : Go.Proofs.Lays.n103 Tryz.prog Tryz.lays103_ren := {
  mixed := by kernel_rfl
  f103 := Tryz.func145.trans (congrArg some (by kernel_rfl))
  f206 := Tryz.func121.trans (congrArg some (by kernel_rfl))
  f210 := Tryz.func160.trans (congrArg some (by kernel_rfl))
  t3 := Tryz.underlying3
  a3 := Tryz.isAgg3
  z3 := Tryz.sizeOf3
  v3 := Tryz.zeroValue3
  t4 := Tryz.underlying4
  a4 := Tryz.isAgg4
  z4 := Tryz.sizeOf4
  v4 := Tryz.zeroValue4
  t9 := Tryz.underlying9
  a9 := Tryz.isAgg9
  z9 := Tryz.sizeOf9
  v9 := Tryz.zeroValue9
  t24 := Tryz.underlying175
  a24 := Tryz.isAgg175
  z24 := Tryz.sizeOf175
  v24 := Tryz.zeroValue175 }
open Go.RowKit in
theorem Tryz.strings_CutPrefix (s p : ByteArray) (w : World) :
    Calls Tryz.prog 145 #[.string s, .string p] w fun e w' => e = .returned (.tuple #[.string ⟨(Lib.trimPrefix s.data.toList p.data.toList).toArray⟩, .bool (Lib.hasPrefix s.data.toList p.data.toList)]) ∧ w' = w := Any.strings_CutPrefix Tryz.lays103 s p w
def Tryz.lays215_ren : Go.Shelf.Ren := ⟨fun | 215 => 80 | n => n, fun | 3 => 3 | 4 => 4 | n => n, fun | n => n⟩
theorem Tryz.lays215 : Go.Proofs.Lays.n215 Tryz.prog Tryz.lays215_ren := {
  mixed := by kernel_rfl
  f215 := Tryz.func80.trans (congrArg some (by kernel_rfl))
  t3 := Tryz.underlying3
  a3 := Tryz.isAgg3
  z3 := Tryz.sizeOf3
  v3 := Tryz.zeroValue3
  t4 := Tryz.underlying4
  a4 := Tryz.isAgg4
  z4 := Tryz.sizeOf4
  v4 := Tryz.zeroValue4 }
open Go.RowKit in
theorem Tryz.cmp_isNaN_int (x : Int) (w : World) :
    Calls Tryz.prog 80 #[.int .i64 x] w fun e w' => e = .returned (.bool false) ∧ w' = w := Any.cmp_isNaN_int Tryz.lays215 x w
def Tryz.lays122_ren : Go.Shelf.Ren := ⟨fun | 122 => 50 | 215 => 80 | n => n, fun | 3 => 3 | 4 => 4 | n => n, fun | n => n⟩
theorem Tryz.lays122 : Go.Proofs.Lays.n122 Tryz.prog Tryz.lays122_ren := {
  mixed := by kernel_rfl
  f122 := Tryz.func50.trans (congrArg some (by kernel_rfl))
  f215 := Tryz.func80.trans (congrArg some (by kernel_rfl))
  t3 := Tryz.underlying3
  a3 := Tryz.isAgg3
  z3 := Tryz.sizeOf3
  v3 := Tryz.zeroValue3
  t4 := Tryz.underlying4
  a4 := Tryz.isAgg4
  z4 := Tryz.sizeOf4
  v4 := Tryz.zeroValue4 }
open Go.RowKit in
theorem Tryz.cmp_Compare_int (x y : Int) (w : World) :
    Calls Tryz.prog 50 #[.int .i64 x, .int .i64 y] w fun e w' => e = .returned (.int .i64 (Lib.compareInt x y)) ∧ w' = w := Any.cmp_Compare_int Tryz.lays122 x y w
def Tryz.laysM171_ren : Go.Shelf.Ren := ⟨fun | 171 => 83 | 243 => 113 | 246 => 142 | 283 => 156 | 284 => 157 | 285 => 158 | 286 => 159 | 129 => 173 | 317 => 172 | 318 => 174 | 319 => 175 | 320 => 176 | 337 => 181 | 338 => 182 | n => n, fun | 3 => 3 | 9 => 9 | 2 => 2 | 4 => 4 | 171 => 181 | 0 => 0 | 53 => 89 | 37 => 38 | 5 => 5 | 173 => 184 | 212 => 195 | 51 => 196 | 20 => 20 | 213 => 197 | 46 => 132 | 232 => 202 | 233 => 203 | n => n, fun | 17 => 4 | 18 => 5 | 19 => 6 | n => n⟩
theorem Tryz.laysM171 : Go.Proofs.LaysM.n171 Tryz.prog Tryz.laysM171_ren := {
  mixed := by kernel_rfl
  f129 := Tryz.func173.trans (congrArg some (by kernel_rfl))
  f171 := Tryz.func83.trans (congrArg some (by kernel_rfl))
  f243 := Tryz.func113.trans (congrArg some (by kernel_rfl))
  f246 := Tryz.func142.trans (congrArg some (by kernel_rfl))
  f283 := Tryz.func156.trans (congrArg some (by kernel_rfl))
  f284 := Tryz.func157.trans (congrArg some (by kernel_rfl))
  f285 := Tryz.func158.trans (congrArg some (by kernel_rfl))
  f286 := Tryz.func159.trans (congrArg some (by kernel_rfl))
  f317 := Tryz.func172.trans (congrArg some (by kernel_rfl))
  f318 := Tryz.func174.trans (congrArg some (by kernel_rfl))
  f319 := Tryz.func175.trans (congrArg some (by kernel_rfl))
  f320 := Tryz.func176.trans (congrArg some (by kernel_rfl))
  f337 := Tryz.func181.trans (congrArg some (by kernel_rfl))
  f338 := Tryz.func182.trans (congrArg some (by kernel_rfl))
  t0 := Tryz.underlying0
  a0 := Tryz.isAgg0
  z0 := Tryz.sizeOf0
  v0 := Tryz.zeroValue0
  t2 := Tryz.underlying2
  a2 := Tryz.isAgg2
  z2 := Tryz.sizeOf2
  v2 := Tryz.zeroValue2
  t3 := Tryz.underlying3
  a3 := Tryz.isAgg3
  z3 := Tryz.sizeOf3
  v3 := Tryz.zeroValue3
  t4 := Tryz.underlying4
  a4 := Tryz.isAgg4
  z4 := Tryz.sizeOf4
  v4 := Tryz.zeroValue4
  t5 := Tryz.underlying5
  a5 := Tryz.isAgg5
  z5 := Tryz.sizeOf5
  v5 := Tryz.zeroValue5
  t9 := Tryz.underlying9
  a9 := Tryz.isAgg9
  z9 := Tryz.sizeOf9
  v9 := Tryz.zeroValue9
  t20 := Tryz.underlying20
  a20 := Tryz.isAgg20
  z20 := Tryz.sizeOf20
  v20 := Tryz.zeroValue20
  t37 := Tryz.underlying38
  a37 := Tryz.isAgg38
  z37 := Tryz.sizeOf38
  v37 := Tryz.zeroValue38
  t46 := Tryz.underlying132
  a46 := Tryz.isAgg132
  z46 := Tryz.sizeOf132
  v46 := Tryz.zeroValue132
  t51 := Tryz.underlying196
  a51 := Tryz.isAgg196
  z51 := Tryz.sizeOf196
  v51 := Tryz.zeroValue196
  t53 := Tryz.underlying89
  a53 := Tryz.isAgg89
  z53 := Tryz.sizeOf89
  v53 := Tryz.zeroValue89
  t171 := Tryz.underlying181
  a171 := Tryz.isAgg181
  z171 := Tryz.sizeOf181
  v171 := Tryz.zeroValue181
  t173 := Tryz.underlying184
  a173 := Tryz.isAgg184
  z173 := Tryz.sizeOf184
  v173 := Tryz.zeroValue184
  t212 := Tryz.underlying195
  a212 := Tryz.isAgg195
  z212 := Tryz.sizeOf195
  v212 := Tryz.zeroValue195
  t213 := Tryz.underlying197
  a213 := Tryz.isAgg197
  z213 := Tryz.sizeOf197
  t232 := Tryz.underlying202
  a232 := Tryz.isAgg202
  z232 := Tryz.sizeOf202
  v232 := Tryz.zeroValue202
  t233 := Tryz.underlying203
  a233 := Tryz.isAgg203
  z233 := Tryz.sizeOf203
  v233 := Tryz.zeroValue203
  g17 := by kernel_rfl
  g18 := by kernel_rfl
  g19 := by kernel_rfl
  i0 := by kernel_rfl
  i2 := by kernel_rfl
  i3 := by kernel_rfl
  i4 := by kernel_rfl
  i5 := by kernel_rfl
  i9 := by kernel_rfl
  i20 := by kernel_rfl
  i37 := by kernel_rfl
  i46 := by kernel_rfl
  i51 := by kernel_rfl
  i53 := by kernel_rfl
  i171 := by kernel_rfl
  i173 := by kernel_rfl
  i212 := by kernel_rfl
  i232 := by kernel_rfl
  i233 := by kernel_rfl
  m17 := by kernel_rfl
  m18 := by kernel_rfl
  m19 := by kernel_rfl }
open Go.RowKit Go.Sort Go.Lib in
theorem Tryz.strconv_Itoa (n : Int) (h0 : -9223372036854775808 ≤ n) (h1 : n ≤ 9223372036854775807) (w : World) (htab : Lib.TabIs Tryz.prog w "internal/strconv.uint64pow10" .u64 Lib.pow10Tab) :
    Calls Tryz.prog 83 #[.int .i64 n] w fun e w' => e = .returned (.string ⟨(Lib.itoa n).toArray⟩) ∧ ∃ k os, w' = grow (w.drewN k) os := Any.strconv_Itoa Tryz.laysM171 n h0 h1 w htab
def Tryz.lays144_ren : Go.Shelf.Ren := ⟨fun | 144 => 150 | 143 => 165 | 219 => 179 | 217 => 162 | 225 => 171 | 224 => 170 | 267 => 185 | 266 => 178 | 314 => 191 | n => n, fun | 9 => 9 | 4 => 4 | 3 => 3 | 5 => 5 | 46 => 132 | 146 => 207 | 51 => 196 | n => n, fun | 1 => 1 | n => n⟩
theorem Tryz.lays144 : Go.Proofs.Lays.n144 Tryz.prog Tryz.lays144_ren := {
  mixed := by kernel_rfl
  f143 := Tryz.func165.trans (congrArg some (by kernel_rfl))
  f144 := Tryz.func150.trans (congrArg some (by kernel_rfl))
  f217 := Tryz.func162.trans (congrArg some (by kernel_rfl))
  f219 := Tryz.func179.trans (congrArg some (by kernel_rfl))
  f224 := Tryz.func170.trans (congrArg some (by kernel_rfl))
  f225 := Tryz.func171.trans (congrArg some (by kernel_rfl))
  f266 := Tryz.func178.trans (congrArg some (by kernel_rfl))
  f267 := Tryz.func185.trans (congrArg some (by kernel_rfl))
  f314 := Tryz.func191.trans (congrArg some (by kernel_rfl))
  t3 := Tryz.underlying3
  a3 := Tryz.isAgg3
  z3 := Tryz.sizeOf3
  v3 := Tryz.zeroValue3
  t4 := Tryz.underlying4
  a4 := Tryz.isAgg4
  z4 := Tryz.sizeOf4
  v4 := Tryz.zeroValue4
  t5 := Tryz.underlying5
  a5 := Tryz.isAgg5
  z5 := Tryz.sizeOf5
  v5 := Tryz.zeroValue5
  t9 := Tryz.underlying9
  a9 := Tryz.isAgg9
  z9 := Tryz.sizeOf9
  v9 := Tryz.zeroValue9
  t46 := Tryz.underlying132
  a46 := Tryz.isAgg132
  z46 := Tryz.sizeOf132
  v46 := Tryz.zeroValue132
  t51 := Tryz.underlying196
  a51 := Tryz.isAgg196
  z51 := Tryz.sizeOf196
  v51 := Tryz.zeroValue196
  t146 := Tryz.underlying207
  a146 := Tryz.isAgg207
  z146 := Tryz.sizeOf207
  v146 := Tryz.zeroValue207
  g1 := by kernel_rfl }
open Go.RowKit Go.Lib in
theorem Tryz.strings_Contains_one (s : ByteArray) (c : UInt8) (w : World) :
    Calls Tryz.prog 150 #[.string s, .string ⟨#[c]⟩] w fun e w' => e = .returned (.bool (decide (0 ≤ Lib.indexByte s.data.toList c))) ∧ w' = w := Any.strings_Contains_one Tryz.lays144 s c w
open Go.RowKit Go.Lib in
theorem Tryz.strings_Contains (s sub : ByteArray) (m : Int) (w : World) (hs : s.size < 4294967281) (hm : w.cell? ⟨1, 0, none⟩ = some (.int .i64 m)) :
    Calls Tryz.prog 150 #[.string s, .string sub] w fun e w' => e = .returned (.bool (Lib.contains s.data.toList sub.data.toList)) ∧ w' = w := Any.strings_Contains Tryz.lays144 s sub m w hs hm
def Tryz.lays99_ren : Go.Shelf.Ren := ⟨fun | 99 => 98 | 206 => 121 | n => n, fun | 9 => 9 | 4 => 4 | 3 => 3 | n => n, fun | n => n⟩
theorem Tryz.lays99 : Go.Proofs.Lays.n99 Tryz.prog Tryz.lays99_ren := {
  mixed := by kernel_rfl
  f99 := Tryz.func98.trans (congrArg some (by kernel_rfl))
  f206 := Tryz.func121.trans (congrArg some (by kernel_rfl))
  t3 := Tryz.underlying3
  a3 := Tryz.isAgg3
  z3 := Tryz.sizeOf3
  v3 := Tryz.zeroValue3
  t4 := Tryz.underlying4
  a4 := Tryz.isAgg4
  z4 := Tryz.sizeOf4
  v4 := Tryz.zeroValue4
  t9 := Tryz.underlying9
  a9 := Tryz.isAgg9
  z9 := Tryz.sizeOf9
  v9 := Tryz.zeroValue9 }
open Go.RowKit Go.Lib in
theorem Tryz.strings_HasPrefix (s p : ByteArray) (w : World) :
    Calls Tryz.prog 98 #[.string s, .string p] w fun e w' => e = .returned (.bool (Lib.hasPrefix s.data.toList p.data.toList)) ∧ w' = w := Any.strings_HasPrefix Tryz.lays99 s p w
def Tryz.lays152_ren : Go.Shelf.Ren := ⟨fun | 152 => 154 | 137 => 147 | 119 => 169 | 224 => 170 | 225 => 171 | 217 => 162 | 266 => 178 | n => n, fun | 9 => 9 | 21 => 21 | 3 => 3 | 4 => 4 | 5 => 5 | 0 => 0 | 46 => 132 | n => n, fun | n => n⟩
theorem Tryz.lays152 : Go.Proofs.Lays.n152 Tryz.prog Tryz.lays152_ren := {
  mixed := by kernel_rfl
  f119 := Tryz.func169.trans (congrArg some (by kernel_rfl))
  f137 := Tryz.func147.trans (congrArg some (by kernel_rfl))
  f152 := Tryz.func154.trans (congrArg some (by kernel_rfl))
  f217 := Tryz.func162.trans (congrArg some (by kernel_rfl))
  f224 := Tryz.func170.trans (congrArg some (by kernel_rfl))
  f225 := Tryz.func171.trans (congrArg some (by kernel_rfl))
  f266 := Tryz.func178.trans (congrArg some (by kernel_rfl))
  t0 := Tryz.underlying0
  a0 := Tryz.isAgg0
  z0 := Tryz.sizeOf0
  v0 := Tryz.zeroValue0
  t3 := Tryz.underlying3
  a3 := Tryz.isAgg3
  z3 := Tryz.sizeOf3
  v3 := Tryz.zeroValue3
  t4 := Tryz.underlying4
  a4 := Tryz.isAgg4
  z4 := Tryz.sizeOf4
  v4 := Tryz.zeroValue4
  t5 := Tryz.underlying5
  a5 := Tryz.isAgg5
  z5 := Tryz.sizeOf5
  v5 := Tryz.zeroValue5
  t9 := Tryz.underlying9
  a9 := Tryz.isAgg9
  z9 := Tryz.sizeOf9
  v9 := Tryz.zeroValue9
  t21 := Tryz.underlying21
  a21 := Tryz.isAgg21
  z21 := Tryz.sizeOf21
  v21 := Tryz.zeroValue21
  t46 := Tryz.underlying132
  a46 := Tryz.isAgg132
  z46 := Tryz.sizeOf132
  v46 := Tryz.zeroValue132 }
open Go.RowKit Go.Lib in
theorem Tryz.strings_IndexRune_ascii (s : ByteArray) (r : Int) (w : World) (h0 : 0 ≤ r) (h1 : r < 128) :
    Calls Tryz.prog 154 #[.string s, .int .i32 r] w fun e w' => e = .returned (.int .i64 (Lib.indexByte s.data.toList r.toNat.toUInt8)) ∧ w' = w := Any.strings_IndexRune_ascii Tryz.lays152 s r w h0 h1
def Tryz.lays260_ren : Go.Shelf.Ren := ⟨fun | 260 => 153 | n => n, fun | 9 => 9 | 21 => 21 | 3 => 3 | 4 => 4 | 5 => 5 | 119 => 189 | 0 => 0 | 46 => 132 | 139 => 192 | 138 => 191 | n => n, fun | 3 => 2 | 4 => 3 | n => n⟩
theorem Tryz.lays260 : Go.Proofs.Lays.n260 Tryz.prog Tryz.lays260_ren := {
  mixed := by kernel_rfl
  f260 := Tryz.func153.trans (congrArg some (by kernel_rfl))
  t0 := Tryz.underlying0
  a0 := Tryz.isAgg0
  z0 := Tryz.sizeOf0
  v0 := Tryz.zeroValue0
  t3 := Tryz.underlying3
  a3 := Tryz.isAgg3
  z3 := Tryz.sizeOf3
  v3 := Tryz.zeroValue3
  t4 := Tryz.underlying4
  a4 := Tryz.isAgg4
  z4 := Tryz.sizeOf4
  v4 := Tryz.zeroValue4
  t5 := Tryz.underlying5
  a5 := Tryz.isAgg5
  z5 := Tryz.sizeOf5
  v5 := Tryz.zeroValue5
  t9 := Tryz.underlying9
  a9 := Tryz.isAgg9
  z9 := Tryz.sizeOf9
  v9 := Tryz.zeroValue9
  t21 := Tryz.underlying21
  a21 := Tryz.isAgg21
  z21 := Tryz.sizeOf21
  v21 := Tryz.zeroValue21
  t46 := Tryz.underlying132
  a46 := Tryz.isAgg132
  z46 := Tryz.sizeOf132
  v46 := Tryz.zeroValue132
  t119 := Tryz.underlying189
  a119 := Tryz.isAgg189
  z119 := Tryz.sizeOf189
  t138 := Tryz.underlying191
  a138 := Tryz.isAgg191
  z138 := Tryz.sizeOf191
  v138 := Tryz.zeroValue191
  t139 := Tryz.underlying192
  a139 := Tryz.isAgg192
  z139 := Tryz.sizeOf192
  v139 := Tryz.zeroValue192
  g3 := by kernel_rfl
  g4 := by kernel_rfl }
def Tryz.lays197_ren : Go.Shelf.Ren := ⟨fun | 197 => 136 | 260 => 153 | n => n, fun | 9 => 9 | 21 => 21 | 3 => 3 | 4 => 4 | 5 => 5 | 105 => 165 | 119 => 189 | 0 => 0 | 46 => 132 | 139 => 192 | 138 => 191 | n => n, fun | 3 => 2 | 4 => 3 | n => n⟩
theorem Tryz.lays197 : Go.Proofs.Lays.n197 Tryz.prog Tryz.lays197_ren := {
  mixed := by kernel_rfl
  f197 := Tryz.func136.trans (congrArg some (by kernel_rfl))
  f260 := Tryz.func153.trans (congrArg some (by kernel_rfl))
  t0 := Tryz.underlying0
  a0 := Tryz.isAgg0
  z0 := Tryz.sizeOf0
  v0 := Tryz.zeroValue0
  t3 := Tryz.underlying3
  a3 := Tryz.isAgg3
  z3 := Tryz.sizeOf3
  v3 := Tryz.zeroValue3
  t4 := Tryz.underlying4
  a4 := Tryz.isAgg4
  z4 := Tryz.sizeOf4
  v4 := Tryz.zeroValue4
  t5 := Tryz.underlying5
  a5 := Tryz.isAgg5
  z5 := Tryz.sizeOf5
  v5 := Tryz.zeroValue5
  t9 := Tryz.underlying9
  a9 := Tryz.isAgg9
  z9 := Tryz.sizeOf9
  v9 := Tryz.zeroValue9
  t21 := Tryz.underlying21
  a21 := Tryz.isAgg21
  z21 := Tryz.sizeOf21
  v21 := Tryz.zeroValue21
  t46 := Tryz.underlying132
  a46 := Tryz.isAgg132
  z46 := Tryz.sizeOf132
  v46 := Tryz.zeroValue132
  t105 := Tryz.underlying165
  a105 := Tryz.isAgg165
  z105 := Tryz.sizeOf165
  v105 := Tryz.zeroValue165
  t119 := Tryz.underlying189
  a119 := Tryz.isAgg189
  z119 := Tryz.sizeOf189
  t138 := Tryz.underlying191
  a138 := Tryz.isAgg191
  z138 := Tryz.sizeOf191
  v138 := Tryz.zeroValue191
  t139 := Tryz.underlying192
  a139 := Tryz.isAgg192
  z139 := Tryz.sizeOf192
  v139 := Tryz.zeroValue192
  g3 := by kernel_rfl
  g4 := by kernel_rfl }
open Go.RowKit Go.Lib in
theorem Tryz.utf8_DecodeRuneInString (s : ByteArray) (w : World) (hT : Lib.Utf8Tabs 2 3 w) :
    Calls Tryz.prog 136 #[.string s] w fun e w' => e = .returned (.tuple #[.int .i32 (Lib.decodeGo s).1, .int .i64 (Lib.decodeGo s).2]) ∧ Below w.heap.size w w' := Any.utf8_DecodeRuneInString Tryz.lays197 s w hT
open Go.RowKit Go.Lib in
theorem Tryz.strings_ToLower_any (s : ByteArray) (w : World) (hs : s.size < 35184372088832) (hV : CaseVar 7 caseA w) (hT : Lib.Utf8Tabs 2 3 w) :
    Calls Tryz.prog 177 #[.string s] w fun e w' => e = .returned (.string ⟨(Lib.toLowerD s.data.toList).toArray⟩) ∧ Below w.heap.size w w' := Any.strings_ToLower_any Tryz.lays159 Tryz.Builder_Extra_159 s w hs hV hT
end Go.Proofs
namespace Go.Proofs
open Go.Shelf Go.RowKit
set_option linter.unusedVariables false
def Tryz.lays166_ren : Go.Shelf.Ren := ⟨fun | 166 => 85 | 240 => 114 | 276 => 143 | n => n, fun | 0 => 0 | 3 => 3 | 4 => 4 | 5 => 5 | 9 => 9 | 20 => 20 | 37 => 38 | 70 => 124 | 72 => 126 | 164 => 172 | 138 => 191 | 75 => 128 | 80 => 115 | n => n, fun | n => n⟩
theorem Tryz.lays166 : Go.Proofs.Lays.n166 Tryz.prog Tryz.lays166_ren := {
  mixed := by kernel_rfl
  f166 := Tryz.func85.trans (congrArg some (by kernel_rfl))
  f240 := Tryz.func114.trans (congrArg some (by kernel_rfl))
  f276 := Tryz.func143.trans (congrArg some (by kernel_rfl))
  t0 := Tryz.underlying0
  a0 := Tryz.isAgg0
  z0 := Tryz.sizeOf0
  v0 := Tryz.zeroValue0
  t3 := Tryz.underlying3
  a3 := Tryz.isAgg3
  z3 := Tryz.sizeOf3
  v3 := Tryz.zeroValue3
  t4 := Tryz.underlying4
  a4 := Tryz.isAgg4
  z4 := Tryz.sizeOf4
  v4 := Tryz.zeroValue4
  t9 := Tryz.underlying9
  a9 := Tryz.isAgg9
  z9 := Tryz.sizeOf9
  v9 := Tryz.zeroValue9
  t20 := Tryz.underlying20
  a20 := Tryz.isAgg20
  z20 := Tryz.sizeOf20
  v20 := Tryz.zeroValue20
  t37 := Tryz.underlying38
  a37 := Tryz.isAgg38
  z37 := Tryz.sizeOf38
  v37 := Tryz.zeroValue38
  t70 := Tryz.underlying124
  a70 := Tryz.isAgg124
  z70 := Tryz.sizeOf124
  v70 := Tryz.zeroValue124
  t72 := Tryz.underlying126
  a72 := Tryz.isAgg126
  z72 := Tryz.sizeOf126
  v72 := Tryz.zeroValue126
  t75 := Tryz.underlying128
  a75 := Tryz.isAgg128
  z75 := Tryz.sizeOf128
  v75 := Tryz.zeroValue128
  t164 := Tryz.underlying172
  a164 := Tryz.isAgg172
  z164 := Tryz.sizeOf172
  v164 := Tryz.zeroValue172
}
theorem Tryz.Builder_Extra_166 : Builder.Extra Tryz.prog Tryz.lays166_ren where
  sizeBuilder := by kernel_rfl
  liesBuilder := by kernel_rfl
  t5 := Tryz.underlying5
  a5 := Tryz.isAgg5
  z5 := Tryz.sizeOf5
  v5 := Tryz.zeroValue5
  infoByte := by kernel_rfl
  cellsByte := by kernel_rfl
  sizeByte := by kernel_rfl
  neB5 := by decide
theorem Tryz.Builder_WriteString (B b : Nat) (bs : List Value) (s : ByteArray) (w : World) (h : Lib.IsBuilder 126 5 B b bs w) (hlen : bs.length + s.size ≤ 140737488355328) (hBw : B ≤ w.heap.size) :
    Calls Tryz.prog 85 #[.pointer (some ⟨b, 0, none⟩), .string s] w fun e w' => e = .returned (.tuple #[.int .i64 s.size, .nilIface]) ∧ (Lib.BuilderAt 126 5 B b (.pointer (some ⟨b, 0, none⟩)) (bs ++ Lib.strCells s) w' ∧ Below B w w') := Any.Builder_WriteString Tryz.lays166 Tryz.Builder_Extra_166 B b bs s w h hlen hBw
end Go.Proofs
namespace Go.Proofs
open Go.Shelf Go.RowKit
set_option linter.unusedVariables false
def Tryz.lays167_ren : Go.Shelf.Ren := ⟨fun | 167 => 84 | 240 => 114 | 276 => 143 | n => n, fun | 0 => 0 | 3 => 3 | 4 => 4 | 5 => 5 | 9 => 9 | 20 => 20 | 37 => 38 | 70 => 124 | 72 => 126 | 164 => 172 | 138 => 191 | 75 => 128 | 80 => 115 | n => n, fun  | n => n⟩
theorem Tryz.lays167 : Go.Proofs.Lays.n167 Tryz.prog Tryz.lays167_ren := {
  mixed := by kernel_rfl
  f167 := Tryz.func84.trans (congrArg some (by kernel_rfl))
  f240 := Tryz.func114.trans (congrArg some (by kernel_rfl))
  f276 := Tryz.func143.trans (congrArg some (by kernel_rfl))
  t0 := Tryz.underlying0
  a0 := Tryz.isAgg0
  z0 := Tryz.sizeOf0
  v0 := Tryz.zeroValue0
  t4 := Tryz.underlying4
  a4 := Tryz.isAgg4
  z4 := Tryz.sizeOf4
  v4 := Tryz.zeroValue4
  t5 := Tryz.underlying5
  a5 := Tryz.isAgg5
  z5 := Tryz.sizeOf5
  v5 := Tryz.zeroValue5
  t9 := Tryz.underlying9
  a9 := Tryz.isAgg9
  z9 := Tryz.sizeOf9
  v9 := Tryz.zeroValue9
  t20 := Tryz.underlying20
  a20 := Tryz.isAgg20
  z20 := Tryz.sizeOf20
  v20 := Tryz.zeroValue20
  t37 := Tryz.underlying38
  a37 := Tryz.isAgg38
  z37 := Tryz.sizeOf38
  v37 := Tryz.zeroValue38
  t70 := Tryz.underlying124
  a70 := Tryz.isAgg124
  z70 := Tryz.sizeOf124
  v70 := Tryz.zeroValue124
  t72 := Tryz.underlying126
  a72 := Tryz.isAgg126
  z72 := Tryz.sizeOf126
  v72 := Tryz.zeroValue126
  t75 := Tryz.underlying128
  a75 := Tryz.isAgg128
  z75 := Tryz.sizeOf128
  v75 := Tryz.zeroValue128
  t164 := Tryz.underlying172
  a164 := Tryz.isAgg172
  z164 := Tryz.sizeOf172
  v164 := Tryz.zeroValue172
}
theorem Tryz.Builder_Extra_167 : Builder.Extra Tryz.prog Tryz.lays167_ren where
  sizeBuilder := by kernel_rfl
  liesBuilder := by kernel_rfl
  t5 := Tryz.underlying5
  a5 := Tryz.isAgg5
  z5 := Tryz.sizeOf5
  v5 := Tryz.zeroValue5
  infoByte := by kernel_rfl
  cellsByte := by kernel_rfl
  sizeByte := by kernel_rfl
  neB5 := by decide
theorem Tryz.Builder_WriteByte (B b : Nat) (bs : List Value) (c : Int) (w : World) (h : Lib.IsBuilder 126 5 B b bs w) (hlen : bs.length + 1 ≤ 140737488355328) (hBw : B ≤ w.heap.size) :
    Calls Tryz.prog 84 #[.pointer (some ⟨b, 0, none⟩), .int .u8 c] w fun e w' => e = .returned .nilIface ∧ (Lib.BuilderAt 126 5 B b (.pointer (some ⟨b, 0, none⟩)) (bs ++ [.int .u8 c]) w' ∧ Below B w w') := Any.Builder_WriteByte Tryz.lays167 Tryz.Builder_Extra_167 B b bs c w h hlen hBw
end Go.Proofs
namespace Go.Proofs.YtapcpndplnkfjaaGreatDoor
open Go.RowKit Go.Proofs.YtapcpndplnkfjaaGreatDoorW.PrintWords
theorem beq_nil_isEmpty (l : List UInt8) : (l == []) = l.isEmpty := by cases l <;> rfl
theorem bytesLess_gtr : ∀ a b : List UInt8, (!Op.bytesLess a b && !(a == b)) = Op.bytesLess b a
  | [], [] => rfl
  | [], _ :: _ => rfl
  | _ :: _, [] => rfl
  | x :: a, y :: b => by
    have ih := bytesLess_gtr a b
    simp only [Op.bytesLess]
    by_cases h : x < y
    · have h2 : ¬ y < x := by rw [UInt8.lt_iff_toNat_lt] at *; omega
      have h3 : y ≠ x := fun e => by subst e; exact h2 h
      simp [h, h2, h3]
    · by_cases h2 : y < x
      · have h3 : x ≠ y := fun e => by subst e; exact h h2
        simp [h, h2, h3]
      · have h3 : x = y := by rw [← UInt8.toNat_inj]; rw [UInt8.lt_iff_toNat_lt] at *; omega
        subst h3
        simp only [h, beq_self_eq_true, Bool.true_and, decide_false, Bool.false_or, ← ih]
        simp
theorem drawn_same {w w' : World} (h : w' = w) : Drawn0 w w' := by subst h; exact Drawn0.refl _
def strings_TrimLeft.f (a0 a1 : ByteArray) : Option ByteArray :=
  if a1.size < 100 ∧ a1.data.toList.all (fun b => decide (b.toNat < 128)) = true then some ⟨(Lib.trimLeftS a0.data.toList a1.data.toList).toArray⟩ else none
theorem strings_TrimLeft.calls (a0 : ByteArray) (a1 : ByteArray) (r : ByteArray) (w : World) (h : strings_TrimLeft.f a0 a1 = some r) :
    Calls Tryz.prog 71 #[.string a0, .string a1] w fun e w' => e = .returned (.string r) ∧ Below w.heap.size w w' := by
  unfold strings_TrimLeft.f at h
  split at h
  · rename_i hc
    obtain rfl := Option.some.inj h
    exact Any.strings_TrimLeft_laid Tryz.lays161 (by kernel_rfl) a0 a1 w (by omega) (ascii_of_all hc.2)
  · exact absurd h (by simp)
def strings_TrimRight.f (a0 a1 : ByteArray) : Option ByteArray :=
  if (a1.size < 100 ∧ a0.size ≤ 9223372036854775807) ∧ a1.data.toList.all (fun b => decide (b.toNat < 128)) = true then some ⟨(Lib.trimRightS a0.data.toList a1.data.toList).toArray⟩ else none
theorem strings_TrimRight.calls (a0 : ByteArray) (a1 : ByteArray) (r : ByteArray) (w : World) (h : strings_TrimRight.f a0 a1 = some r) :
    Calls Tryz.prog 152 #[.string a0, .string a1] w fun e w' => e = .returned (.string r) ∧ Below w.heap.size w w' := by
  unfold strings_TrimRight.f at h
  split at h
  · rename_i hc
    obtain rfl := Option.some.inj h
    exact Any.strings_TrimRight_laid Tryz.lays162 (by kernel_rfl) a0 a1 w hc.1.2 (by omega) (ascii_of_all hc.2)
  · exact absurd h (by simp)
def strings_Contains.f (a0 a1 : ByteArray) : Option Bool :=
  match a1.data.toList with
  | [c] => some (decide (0 ≤ Lib.indexByte a0.data.toList c))
  | _ => none
theorem strings_Contains.calls (a0 : ByteArray) (a1 : ByteArray) (r : Bool) (w : World) (h : strings_Contains.f a0 a1 = some r) :
    Calls Tryz.prog 150 #[.string a0, .string a1] w fun e w' => e = .returned (.bool r) ∧ Drawn0 w w' := by
  unfold strings_Contains.f at h
  split at h
  · rename_i c hc
    obtain rfl := Option.some.inj h
    obtain rfl : a1 = ⟨#[c]⟩ := by
      obtain ⟨⟨l⟩⟩ := a1
      simp at hc
      subst hc; rfl
    exact (Tryz.strings_Contains_one a0 c w).mono fun e w' hh => ⟨hh.1, drawn_same hh.2⟩
  · exact absurd h (by simp)
def strings_Compare.f (a0 a1 : ByteArray) : Option Int := some (Lib.compareBytes a0.data.toList a1.data.toList)
theorem strings_Compare.calls (a0 : ByteArray) (a1 : ByteArray) (r : Int) (w : World) (h : strings_Compare.f a0 a1 = some r) :
    Calls Tryz.prog 53 #[.string a0, .string a1] w fun e w' => e = .returned (.int .i64 r) ∧ Drawn0 w w' := by
  obtain rfl := Option.some.inj h
  exact (Tryz.strings_Compare a0 a1 w).mono fun e w' hh => ⟨hh.1, drawn_same hh.2⟩
def strings_CutPrefix.f (a0 a1 : ByteArray) : Option (ByteArray × Bool) := some (⟨(Lib.trimPrefix a0.data.toList a1.data.toList).toArray⟩, Lib.hasPrefix a0.data.toList a1.data.toList)
theorem strings_CutPrefix.calls (a0 a1 r1 : ByteArray) (r2 : Bool) (w : World) (h : strings_CutPrefix.f a0 a1 = some (r1, r2)) :
    Calls Tryz.prog 145 #[.string a0, .string a1] w fun e w' => e = .returned (.tuple #[.string r1, .bool r2]) ∧ Drawn0 w w' := by
  unfold strings_CutPrefix.f at h
  injection h with h
  injection h with h1 h2
  subst h1 h2
  exact (Tryz.strings_CutPrefix a0 a1 w).mono fun e w' hh => ⟨hh.1, drawn_same hh.2⟩
def strings_HasPrefix.f (a0 a1 : ByteArray) : Option Bool := some (Lib.hasPrefix a0.data.toList a1.data.toList)
theorem strings_HasPrefix.calls (a0 a1 : ByteArray) (r : Bool) (w : World) (h : strings_HasPrefix.f a0 a1 = some r) :
    Calls Tryz.prog 98 #[.string a0, .string a1] w fun e w' => e = .returned (.bool r) ∧ Drawn0 w w' := by
  obtain rfl := Option.some.inj h
  exact (Tryz.strings_HasPrefix a0 a1 w).mono fun e w' hh => ⟨hh.1, drawn_same hh.2⟩
def strings_IndexByte.f (a0 : ByteArray) (a1 : Int) : Option Int := some (Lib.indexByte a0.data.toList a1.toNat.toUInt8)
theorem strings_IndexByte.calls (a0 : ByteArray) (a1 r : Int) (w : World) (h : strings_IndexByte.f a0 a1 = some r) :
    Calls Tryz.prog 147 #[.string a0, .int .u8 a1] w fun e w' => e = .returned (.int .i64 r) ∧ Drawn0 w w' := by
  obtain rfl := Option.some.inj h
  exact (Tryz.strings_IndexByte a0 a1 w).mono fun e w' hh => ⟨hh.1, drawn_same hh.2⟩
end Go.Proofs.YtapcpndplnkfjaaGreatDoor
namespace Go.Proofs.YtapcpndplnkfjaaGreatDoor.NumP
def isD (c : UInt8) : Bool := decide (48 ≤ c.toNat ∧ c.toNat ≤ 57)
def isZ (c : UInt8) : Bool := c == 48
def val (l : List UInt8) : Int := l.foldl (fun n c => 10 * n + ((c.toNat : Int) - 48)) 0
def lstrip (l : List UInt8) : List UInt8 := l.dropWhile isZ
def rstrip (l : List UInt8) : List UInt8 := (l.reverse.dropWhile isZ).reverse
def pow (l : List UInt8) : Int := if (lstrip l).length > 10 then 1099511627776 else val (lstrip l)
abbrev NumV := Bool × List UInt8 × Int
def zero : NumV := (false, [], 0)
def form (d : Bool) (D : List UInt8) (e : Int) : NumV :=
  if rstrip (lstrip D) = [] then zero else (d, rstrip (lstrip D), e + (lstrip D).length - (rstrip (lstrip D)).length)
def right (n : NumV) : Bool :=
  if n.2.1 = [] then !n.1 && n.2.2 == 0
  else n.2.1.all isD && n.2.1.head? != some 48 && n.2.1.getLast? != some 48 && decide (n.2.1.length ≤ 40) && decide (-999 ≤ n.2.2) && decide (n.2.2 ≤ 999)
def dropSign (l : List UInt8) : List UInt8 := if l.head? = some 45 then l.tail else l
def dotP (r : List UInt8) : List UInt8 := if r.head? = some 46 then r.tail.takeWhile isD else []
def dotR (r : List UInt8) : List UInt8 := if r.head? = some 46 then r.tail.dropWhile isD else r
def dotB (r : List UInt8) : Bool := r.head? == some 46 && (dotP r).isEmpty
def isE (r : List UInt8) : Bool := r.head? == some 101 || r.head? == some 69
def isS (r : List UInt8) : Bool := r.head? == some 43 || r.head? == some 45
def expT (r : List UInt8) : List UInt8 := if isS r.tail then r.tail.tail else r.tail
def expL (r : List UInt8) : Bool := isE r && r.tail.head? == some 45
def expP (r : List UInt8) : List UInt8 := if isE r then (expT r).takeWhile isD else []
def expR (r : List UInt8) : List UInt8 := if isE r then (expT r).dropWhile isD else r
def expB (r : List UInt8) : Bool := isE r && (expP r).isEmpty
def wholeB (W : List UInt8) : Bool := W.isEmpty || (decide (1 < W.length) && W.head? == some 48)
def down (l : List UInt8) : Bool := l.head? == some 45
def whole (l : List UInt8) : List UInt8 := (dropSign l).takeWhile isD
def rest1 (l : List UInt8) : List UInt8 := (dropSign l).dropWhile isD
def rest2 (l : List UInt8) : List UInt8 := dotR (rest1 l)
def rest3 (l : List UInt8) : List UInt8 := expR (rest2 l)
def bad (l : List UInt8) : Bool := wholeB (whole l) || dotB (rest1 l) || expB (rest2 l)
def ok (l : List UInt8) : Bool := !bad l && (rest3 l).isEmpty
def num (l : List UInt8) : NumV :=
  form (down l) (whole l ++ dotP (rest1 l)) ((if expL (rest2 l) then - pow (expP (rest2 l)) else pow (expP (rest2 l))) - (dotP (rest1 l)).length)
def parse (l : List UInt8) : NumV × Int :=
  if ok l then (if right (num l) then (num l, 0) else (zero, 13)) else (zero, 11)
def sgn (d : Bool) : List UInt8 := if d then [45] else []
theorem takeWhile_all (p : UInt8 → Bool) (l : List UInt8) : (l.takeWhile p).all p = true := by
  induction l with
  | nil => rfl
  | cons c t ih => by_cases h : p c = true <;> simp [h, ih]
end Go.Proofs.YtapcpndplnkfjaaGreatDoor.NumP
namespace Go.Proofs.YtapcpndplnkfjaaGreatDoor
open Go.RowKit Go.Proofs.YtapcpndplnkfjaaGreatDoorW.PrintWords
theorem trimLeft_zero (l : List UInt8) : Lib.trimLeftS l [48] = NumP.lstrip l := by
  unfold Lib.trimLeftS NumP.lstrip
  congr 1; funext c
  rw [Bool.eq_iff_iff]; simp [NumP.isZ]
theorem val_take (l : List UInt8) (k : Nat) (h : k < l.length) : NumP.val (l.take (k + 1)) = 10 * NumP.val (l.take k) + ((l[k].toNat : Int) - 48) := by
  unfold NumP.val; rw [List.take_succ_eq_append_getElem h, List.foldl_append]; rfl
theorem val_bd (l : List UInt8) (hd : l.all NumP.isD = true) : ∀ k, k ≤ l.length → 0 ≤ NumP.val (l.take k) ∧ NumP.val (l.take k) < 10 ^ k
  | 0, _ => by simp [NumP.val]
  | k + 1, h => by
    have ih := val_bd l hd k (by omega)
    rw [val_take l k (by omega)]
    have hc : NumP.isD l[k] = true := List.all_eq_true.1 hd _ (List.getElem_mem _)
    simp only [NumP.isD, decide_eq_true_eq] at hc
    have : (10 : Int) ^ (k + 1) = 10 * 10 ^ k := by rw [Int.pow_succ]; omega
    omega
theorem pow_le (k : Nat) (h : k ≤ 10) : (10 : Int) ^ k ≤ 10000000000 := by
  match k, h with
  | 0, _ => decide
  | 1, _ => decide
  | 2, _ => decide
  | 3, _ => decide
  | 4, _ => decide
  | 5, _ => decide
  | 6, _ => decide
  | 7, _ => decide
  | 8, _ => decide
  | 9, _ => decide
  | 10, _ => decide
def num_power.f (a0 : ByteArray) : Option Int := if a0.data.toList.all NumP.isD = true then some (NumP.pow a0.data.toList) else none
theorem dropAll (p q : UInt8 → Bool) (l : List UInt8) (h : l.all q = true) : (l.dropWhile p).all q = true := by
  rw [List.all_eq_true] at *
  intro c hc
  exact h c ((List.dropWhile_sublist p).subset hc)
set_option maxRecDepth 100000 in
set_option maxHeartbeats 1000000 in
theorem num_power.calls (a0 : ByteArray) (r : Int) (w : World) (h : num_power.f a0 = some r) :
    Calls Tryz.prog 132 #[.string a0] w fun e w' => e = .returned (.int .i64 r) ∧ Below w.heap.size w w' := by
  unfold num_power.f at h
  split at h
  case isFalse => exact absurd h (by simp)
  rename_i hd
  obtain rfl := Option.some.inj h
  clear h
  have hT : strings_TrimLeft.f a0 ⟨#[48]⟩ = some ⟨(NumP.lstrip a0.data.toList).toArray⟩ := by
    unfold strings_TrimLeft.f
    rw [if_pos (by decide), trimLeft_zero]
  have hzd := dropAll NumP.isZ NumP.isD _ hd
  change (NumP.lstrip a0.data.toList).all NumP.isD = true at hzd
  unfold NumP.pow
  generalize NumP.lstrip a0.data.toList = z at *
  by_cases hlen : z.length > 10
  · rw [if_pos hlen]
    go_enter Tryz.func132, Tryz.ntmps132
    go_wp2_with fail
    refine (strings_TrimLeft.calls _ _ _ _ hT).mono ?_
    rintro e w1 ⟨rfl, hb⟩
    have HT := Lib.hid hT
    clear hT
    have hs : ((10 : Int) < ((⟨z.toArray⟩ : ByteArray).size : Int)) = True := by simp [ByteArray.size]; omega
    go_wp2
    go_ret
    exact ⟨rfl, hb⟩
  · rw [if_neg hlen]
    have hnl : z.length ≤ 10 := by omega
    clear hlen
    go_enter Tryz.func132, Tryz.ntmps132
    go_wp2_with fail
    refine (strings_TrimLeft.calls _ _ _ _ hT).mono ?_
    rintro e w1 ⟨rfl, hb⟩
    have HT := Lib.hid hT
    clear hT
    obtain ⟨s, hs⟩ : ∃ s : ByteArray, s = ⟨z.toArray⟩ := ⟨_, rfl⟩
    have hz : z = s.data.toList := by rw [hs]
    have hsz : s.size = z.length := by rw [hs]; simp [ByteArray.size]
    rw [← hs]
    subst hz
    clear hs HT
    have hle : (s.size : Int) ≤ 10 := by omega
    have HSZ := Lib.hid hsz
    clear hsz
    go_wp2
    go_loopw [3] (fun n w' => ∃ k : Nat, k ≤ s.size ∧ w' = w1.iter s k ∧ n = .int .i64 (NumP.val (s.data.toList.take k))) (fun _ w' => s.size - w'.iterPos w1.heap.size)
    case atStart => exact ⟨0, Nat.zero_le _, rfl, rfl⟩
    case round =>
      obtain ⟨k, hk, rfl, rfl⟩ := hrel
      have hb1 := val_bd s.data.toList hzd k (by have := HSZ.out; omega)
      have hp1 := pow_le k (by omega)
      have v0 : 0 ≤ NumP.val (s.data.toList.take k) := hb1.1
      have v1 : NumP.val (s.data.toList.take k) ≤ 10000000000 := by omega
      clear hb1 hp1
      by_cases hp : k < s.size
      · have hd1 : NumP.isD s[k] = true := List.all_eq_true.1 hzd _ (by exact List.getElem_mem (l := s.data.toList) (n := k) (by simpa using hp))
        simp only [NumP.isD, decide_eq_true_eq] at hd1
        have HV := Lib.hid (val_take s.data.toList k (by have := HSZ.out; omega))
        have hnx : ∀ ty, (Instr.next (.pointer (some ⟨w1.heap.size, 0, none⟩)) true ty).run Tryz.prog (w1.iter s k) = _ := fun ty => run_next_ascii w1 s k ty hp (by omega)
        have hc0 : 48 ≤ ((s[k]'hp).toNat : Int) := by omega
        have hc1 : ((s[k]'hp).toNat : Int) ≤ 57 := by omega
        clear hd1
        go_wp2
        go_roundw
        case rel => exact ⟨k + 1, by omega, rfl, by rw [HV.out]; simp; go_num⟩
        case measure => simp; omega
      · have hnx : ∀ ty, (Instr.next (.pointer (some ⟨w1.heap.size, 0, none⟩)) true ty).run Tryz.prog (w1.iter s k) = _ := fun ty => run_next_end w1 s k ty hp
        go_wp2
        go_ret
        refine ⟨?_, below_alloc hb _⟩
        rw [List.take_of_length_le (by have := HSZ.out; omega)]; rfl
end Go.Proofs.YtapcpndplnkfjaaGreatDoor
namespace Go.Proofs.YtapcpndplnkfjaaGreatDoor.Pa
open Go.RowKit Go.Proofs.YtapcpndplnkfjaaGreatDoorW.PrintWords Go.Proofs.YtapcpndplnkfjaaGreatDoorW.PrintLast Go.Proofs.YtapcpndplnkfjaaGreatDoorW.PrintMore
attribute [local go_sem] max2_int min2_int max_two min_two max_three min_three max_four min_four
set_option linter.unusedVariables false
set_option linter.unusedSimpArgs false
def errW : Option Int → Value
  | none => .nilIface
  | some c => .iface 0 (.int .i64 c)
theorem errW_none : errW none = .nilIface := rfl
theorem errW_some (c : Int) : errW (some c) = .iface 0 (.int .i64 c) := rfl
end Go.Proofs.YtapcpndplnkfjaaGreatDoor.Pa
namespace Go.Proofs.YtapcpndplnkfjaaGreatDoor.Pa
open Go.RowKit Go.Proofs.YtapcpndplnkfjaaGreatDoorW.PrintWords Go.Proofs.YtapcpndplnkfjaaGreatDoorW.PrintLast Go.Proofs.YtapcpndplnkfjaaGreatDoorW.PrintMore
attribute [local go_sem] max2_int min2_int max_two min_two max_three min_three max_four min_four
set_option linter.unusedVariables false
set_option linter.unusedSimpArgs false
theorem eqA24 (d : Nat) (w : World) (x0 y0 : Bool) (x1 y1 : ByteArray) (x2 y2 : Int) :
    (Op.equalIn (d + 2) 24 (.agg #[.bool x0, .string x1, .int .i64 x2]) (.agg #[.bool y0, .string y1, .int .i64 y2])).run Tryz.prog w = .ok (x0 == y0 && (x1.toList == y1.toList && (x2 == y2))) w := by
  refine eqA_of Tryz.underlying24 (by kernel_rfl) ?_
  refine eqf_cons (by rfl) (by go_simp; rfl) (by go_simp; rfl) (by go_simp) ?_
  refine eqf_cons (by rfl) (by go_simp; rfl) (by go_simp; rfl) (by go_simp) ?_
  exact eqf_last (by rfl) (by go_simp; rfl) (by go_simp; rfl) (by go_simp)
end Go.Proofs.YtapcpndplnkfjaaGreatDoor.Pa
namespace Go.Proofs.YtapcpndplnkfjaaGreatDoor.Pa
open Go.RowKit Go.Proofs.YtapcpndplnkfjaaGreatDoorW.PrintWords Go.Proofs.YtapcpndplnkfjaaGreatDoorW.PrintLast Go.Proofs.YtapcpndplnkfjaaGreatDoorW.PrintMore
attribute [local go_sem] max2_int min2_int max_two min_two max_three min_three max_four min_four
set_option linter.unusedVariables false
set_option linter.unusedSimpArgs false
attribute [local go_sem high] eqA24
def num_form.f (a0 : Bool) (a1 : ByteArray) (a2 : Int) : Option (Bool × ByteArray × Int) := (strings_TrimLeft.f a1 (⟨#[48]⟩ : ByteArray)).bind fun t102 => ((strings_TrimRight.f t102 (⟨#[48]⟩ : ByteArray)).bind fun t103 => (if t103.toList = ([] : List UInt8) then (some (false, (⟨#[]⟩ : ByteArray), 0)) else (some (a0, t103, wrap64 ((wrap64 (a2 + (t102.size : Int))) - (t103.size : Int))))))
set_option maxHeartbeats 8000000 in
set_option maxRecDepth 100000 in
theorem num_form.calls (a0 : Bool) (a1 : ByteArray) (a2 : Int) (r1 : Bool) (r2 : ByteArray) (r3 : Int) (w : World) (h : num_form.f a0 a1 a2 = some (r1, r2, r3)) :
    Calls Tryz.prog 133 #[.bool a0, .string a1, .int .i64 a2] w fun e w' => e = .returned (.agg #[.bool r1, .string r2, .int .i64 r3]) ∧ Below w.heap.size w w' := by
  have hu24 := Tryz.underlying24
  have HB := Aside0.mk (Below.refl w.heap.size w)
  have H : ((strings_TrimLeft.f a1 (⟨#[48]⟩ : ByteArray)).bind fun t102 => ((strings_TrimRight.f t102 (⟨#[48]⟩ : ByteArray)).bind fun t103 => (if t103.toList = ([] : List UInt8) then (some (false, (⟨#[]⟩ : ByteArray), 0)) else (some (a0, t103, wrap64 ((wrap64 (a2 + (t102.size : Int))) - (t103.size : Int))))))) = some (r1, r2, r3) := h
  clear h
  replace H := Option.bind_eq_some_iff.mp H
  obtain ⟨t102, A40, H⟩ := H
  replace H : ((strings_TrimRight.f t102 (⟨#[48]⟩ : ByteArray)).bind fun t103 => (if t103.toList = ([] : List UInt8) then (some (false, (⟨#[]⟩ : ByteArray), 0)) else (some (a0, t103, wrap64 ((wrap64 (a2 + (t102.size : Int))) - (t103.size : Int)))))) = some (r1, r2, r3) := H
  have A4 := Aside0.mk A40
  clear A40
  replace H := Option.bind_eq_some_iff.mp H
  obtain ⟨t103, A50, H⟩ := H
  replace H : (if t103.toList = ([] : List UInt8) then (some (false, (⟨#[]⟩ : ByteArray), 0)) else (some (a0, t103, wrap64 ((wrap64 (a2 + (t102.size : Int))) - (t103.size : Int))))) = some (r1, r2, r3) := H
  have A5 := Aside0.mk A50
  clear A50
  by_cases c6 : t103.toList = ([] : List UInt8)
  · rw [if_pos c6] at H
    have c6b0 : (t103.toList == ([] : List UInt8)) = true := beq_iff_eq.mpr c6
    have c6b7 : t103.toList.isEmpty = true := by rw [← beq_nil_isEmpty]; exact c6b0
    have c6b1 : (t103.toList != ([] : List UInt8)) = false := bne_eq_false_iff_eq.mpr c6
    clear c6
    simp only [Option.some.injEq, Prod.mk.injEq] at H
    obtain ⟨rfl, rfl, rfl⟩ := H
    go_enter Tryz.func133, Tryz.ntmps133
    go_wp2_with (first | ((with_reducible refine gate_dst (N := 6) rfl ?_); refine box_event ?hg (N := 6) ?hd (cs := #[.bool false, .string (⟨#[]⟩ : ByteArray), .int .i64 0]) (t := 24) ?hr ?_; (case hd => rfl); (case hg => rfl); (case hr => first | (go_simp; done) | (go_simp; rfl)); intro gb101 hg w7 hbox hb; have n0_ := Aside0.mk (below_step (by repeat (first | (with_reducible first | exact HB.out | apply below_alloc | apply pw_below_drewN | apply below_drew1) | exact HB.out)) hb); have n1_ := Aside0.mk (hbox); have n2_ := Aside0.mk ((by rw [hg]; exact (below_size (by repeat (first | (with_reducible first | exact HB.out | apply below_alloc | apply pw_below_drewN | apply below_drew1) | exact HB.out))) : w.heap.size ≤ gb101)); have n3_ := Aside0.mk ((by rw [hg]; exact (below_size (by repeat (first | (with_reducible first | exact HB.out | apply below_alloc | apply pw_below_drewN | apply below_drew1) | exact HB.out))) : w.heap.size ≤ gb101)); clear HB; have HB := n0_; have BK101 := n1_; have GW101 := n2_; have GE101 := n3_; clear n0_ n1_ n2_ n3_; clear hb hbox hg) | ((with_reducible refine gate_callee (f := 71) rfl ?_); refine goesL_ (some 9) rfl rfl Tryz.func71 (by kernel_rfl) rfl #[.string a1, .string (⟨#[48]⟩ : ByteArray)] rfl (by (try simp only [List.map_toArray, List.map_cons, List.map_nil]); first | done | rfl | (simp only [List.length_drop, List.length_take]; rfl)) ?_; (with_reducible refine (strings_TrimLeft.calls a1 (⟨#[48]⟩ : ByteArray) t102 _ A4.out).mono ?_); rintro e w8 ⟨rfl, hb⟩; refine ⟨_, rfl, ?_⟩; have n0_ := Aside0.mk (blk_below (g := gb101) (o := .cells #[.bool false, .string (⟨#[]⟩ : ByteArray), .int .i64 0] 24 (0, 0)) (by (with_reducible repeat (first | refine blk_drewN ?_ _ | refine blk_drew ?_ | refine blk_alloc ?_ _)); exact BK101.out) hb); have n1_ := Aside0.mk (below_step (by repeat (first | (with_reducible first | exact HB.out | apply below_alloc | apply pw_below_drewN | apply below_drew1 | refine below_set ?_ GE101.out) | exact HB.out)) hb); clear BK101; clear HB; have BK101 := n0_; have HB := n1_; clear n0_ n1_; (try clear hb); (try clear hb2); (try clear hk); (try clear hi)) | ((with_reducible refine gate_callee (f := 152) rfl ?_); refine goesL_ (some 11) rfl rfl Tryz.func152 (by kernel_rfl) rfl #[.string t102, .string (⟨#[48]⟩ : ByteArray)] rfl (by (try simp only [List.map_toArray, List.map_cons, List.map_nil]); first | done | rfl | (simp only [List.length_drop, List.length_take]; rfl)) ?_; (with_reducible refine (strings_TrimRight.calls t102 (⟨#[48]⟩ : ByteArray) t103 _ A5.out).mono ?_); rintro e w9 ⟨rfl, hb⟩; refine ⟨_, rfl, ?_⟩; have n0_ := Aside0.mk (blk_below (g := gb101) (o := .cells #[.bool false, .string (⟨#[]⟩ : ByteArray), .int .i64 0] 24 (0, 0)) (by (with_reducible repeat (first | refine blk_drewN ?_ _ | refine blk_drew ?_ | refine blk_alloc ?_ _)); exact BK101.out) hb); have n1_ := Aside0.mk (below_step (by repeat (first | (with_reducible first | exact HB.out | apply below_alloc | apply pw_below_drewN | apply below_drew1 | refine below_set ?_ GE101.out) | exact HB.out)) hb); clear BK101; clear HB; have BK101 := n0_; have HB := n1_; clear n0_ n1_; (try clear hb); (try clear hb2); (try clear hk); (try clear hi); have hcz10_0 : w9.cell? ⟨gb101, 0, none⟩ = some (.bool false) := (blk_cell BK101.out 0).trans rfl; have hcz10_1 : w9.cell? ⟨gb101, 1, none⟩ = some (.string (⟨#[]⟩ : ByteArray)) := (blk_cell BK101.out 1).trans rfl; have hcz10_2 : w9.cell? ⟨gb101, 2, none⟩ = some (.int .i64 0) := (blk_cell BK101.out 2).trans rfl; have hfz10_0 := blk_frozen BK101.out 0; have hfz10_1 := blk_frozen BK101.out 1; have hfz10_2 := blk_frozen BK101.out 2))
    refine bodyPost_ret (results_cell_row rfl _ _ gb101 24 #[.bool false, .string (⟨#[]⟩ : ByteArray), .int .i64 0] (0, 0) _ rfl (by (with_reducible repeat (first | refine blk_drewN ?_ _ | refine blk_drew ?_ | refine blk_alloc ?_ _)); refine blk_put (cs := #[.bool false, .string (⟨#[]⟩ : ByteArray), .int .i64 0]) ?_ 2 _ rfl; (with_reducible repeat (first | refine blk_drewN ?_ _ | refine blk_drew ?_ | refine blk_alloc ?_ _)); refine blk_put (cs := #[.bool false, .string (⟨#[]⟩ : ByteArray), .int .i64 0]) ?_ 1 _ rfl; (with_reducible repeat (first | refine blk_drewN ?_ _ | refine blk_drew ?_ | refine blk_alloc ?_ _)); refine blk_put (cs := #[.bool false, .string (⟨#[]⟩ : ByteArray), .int .i64 0]) ?_ 0 _ rfl; (with_reducible repeat (first | refine blk_drewN ?_ _ | refine blk_drew ?_ | refine blk_alloc ?_ _)); exact BK101.out) Tryz.underlying24 rfl (by kernel_rfl)) rfl ?_
    try simp only [beq_nil_isEmpty, bytesLess_gtr]
    exact ⟨by first | rfl | (simp [errW_none, errW_some] <;> rfl) | (simp [*, errW_none, errW_some] <;> rfl), by repeat (first | (with_reducible first | exact HB.out | apply below_alloc | apply pw_below_drewN | apply below_drew1 | refine below_set ?_ GE101.out) | exact HB.out)⟩
  · rw [if_neg c6] at H
    have c6b0 : (t103.toList == ([] : List UInt8)) = false := beq_eq_false_iff_ne.mpr c6
    have c6b7 : t103.toList.isEmpty = false := by rw [← beq_nil_isEmpty]; exact c6b0
    have c6b1 : (t103.toList != ([] : List UInt8)) = true := bne_iff_ne.mpr c6
    simp only [Option.some.injEq, Prod.mk.injEq] at H
    obtain ⟨rfl, rfl, rfl⟩ := H
    go_enter Tryz.func133, Tryz.ntmps133
    go_wp2_with (first | ((with_reducible refine gate_dst (N := 6) rfl ?_); refine box_event ?hg (N := 6) ?hd (cs := #[.bool false, .string (⟨#[]⟩ : ByteArray), .int .i64 0]) (t := 24) ?hr ?_; (case hd => rfl); (case hg => rfl); (case hr => first | (go_simp; done) | (go_simp; rfl)); intro gb101 hg w11 hbox hb; have n0_ := Aside0.mk (below_step (by repeat (first | (with_reducible first | exact HB.out | apply below_alloc | apply pw_below_drewN | apply below_drew1) | exact HB.out)) hb); have n1_ := Aside0.mk (hbox); have n2_ := Aside0.mk ((by rw [hg]; exact (below_size (by repeat (first | (with_reducible first | exact HB.out | apply below_alloc | apply pw_below_drewN | apply below_drew1) | exact HB.out))) : w.heap.size ≤ gb101)); have n3_ := Aside0.mk ((by rw [hg]; exact (below_size (by repeat (first | (with_reducible first | exact HB.out | apply below_alloc | apply pw_below_drewN | apply below_drew1) | exact HB.out))) : w.heap.size ≤ gb101)); clear HB; have HB := n0_; have BK101 := n1_; have GW101 := n2_; have GE101 := n3_; clear n0_ n1_ n2_ n3_; clear hb hbox hg) | ((with_reducible refine gate_callee (f := 71) rfl ?_); refine goesL_ (some 9) rfl rfl Tryz.func71 (by kernel_rfl) rfl #[.string a1, .string (⟨#[48]⟩ : ByteArray)] rfl (by (try simp only [List.map_toArray, List.map_cons, List.map_nil]); first | done | rfl | (simp only [List.length_drop, List.length_take]; rfl)) ?_; (with_reducible refine (strings_TrimLeft.calls a1 (⟨#[48]⟩ : ByteArray) t102 _ A4.out).mono ?_); rintro e w12 ⟨rfl, hb⟩; refine ⟨_, rfl, ?_⟩; have n0_ := Aside0.mk (blk_below (g := gb101) (o := .cells #[.bool false, .string (⟨#[]⟩ : ByteArray), .int .i64 0] 24 (0, 0)) (by (with_reducible repeat (first | refine blk_drewN ?_ _ | refine blk_drew ?_ | refine blk_alloc ?_ _)); exact BK101.out) hb); have n1_ := Aside0.mk (below_step (by repeat (first | (with_reducible first | exact HB.out | apply below_alloc | apply pw_below_drewN | apply below_drew1 | refine below_set ?_ GE101.out) | exact HB.out)) hb); clear BK101; clear HB; have BK101 := n0_; have HB := n1_; clear n0_ n1_; (try clear hb); (try clear hb2); (try clear hk); (try clear hi)) | ((with_reducible refine gate_callee (f := 152) rfl ?_); refine goesL_ (some 11) rfl rfl Tryz.func152 (by kernel_rfl) rfl #[.string t102, .string (⟨#[48]⟩ : ByteArray)] rfl (by (try simp only [List.map_toArray, List.map_cons, List.map_nil]); first | done | rfl | (simp only [List.length_drop, List.length_take]; rfl)) ?_; (with_reducible refine (strings_TrimRight.calls t102 (⟨#[48]⟩ : ByteArray) t103 _ A5.out).mono ?_); rintro e w13 ⟨rfl, hb⟩; refine ⟨_, rfl, ?_⟩; have n0_ := Aside0.mk (blk_below (g := gb101) (o := .cells #[.bool false, .string (⟨#[]⟩ : ByteArray), .int .i64 0] 24 (0, 0)) (by (with_reducible repeat (first | refine blk_drewN ?_ _ | refine blk_drew ?_ | refine blk_alloc ?_ _)); exact BK101.out) hb); have n1_ := Aside0.mk (below_step (by repeat (first | (with_reducible first | exact HB.out | apply below_alloc | apply pw_below_drewN | apply below_drew1 | refine below_set ?_ GE101.out) | exact HB.out)) hb); clear BK101; clear HB; have BK101 := n0_; have HB := n1_; clear n0_ n1_; (try clear hb); (try clear hb2); (try clear hk); (try clear hi); have hcz14_0 : w13.cell? ⟨gb101, 0, none⟩ = some (.bool false) := (blk_cell BK101.out 0).trans rfl; have hcz14_1 : w13.cell? ⟨gb101, 1, none⟩ = some (.string (⟨#[]⟩ : ByteArray)) := (blk_cell BK101.out 1).trans rfl; have hcz14_2 : w13.cell? ⟨gb101, 2, none⟩ = some (.int .i64 0) := (blk_cell BK101.out 2).trans rfl; have hfz14_0 := blk_frozen BK101.out 0; have hfz14_1 := blk_frozen BK101.out 1; have hfz14_2 := blk_frozen BK101.out 2))
    refine bodyPost_ret (results_cell_row rfl _ _ gb101 24 #[.bool a0, .string t103, .int .i64 (wrap64 ((wrap64 (a2 + (t102.size : Int))) - (t103.size : Int)))] (0, 0) _ rfl (by (with_reducible repeat (first | refine blk_drewN ?_ _ | refine blk_drew ?_ | refine blk_alloc ?_ _)); refine blk_put (cs := #[.bool a0, .string t103, .int .i64 0]) ?_ 2 _ rfl; (with_reducible repeat (first | refine blk_drewN ?_ _ | refine blk_drew ?_ | refine blk_alloc ?_ _)); refine blk_put (cs := #[.bool a0, .string (⟨#[]⟩ : ByteArray), .int .i64 0]) ?_ 1 _ rfl; (with_reducible repeat (first | refine blk_drewN ?_ _ | refine blk_drew ?_ | refine blk_alloc ?_ _)); refine blk_put (cs := #[.bool false, .string (⟨#[]⟩ : ByteArray), .int .i64 0]) ?_ 0 _ rfl; (with_reducible repeat (first | refine blk_drewN ?_ _ | refine blk_drew ?_ | refine blk_alloc ?_ _)); exact BK101.out) Tryz.underlying24 rfl (by kernel_rfl)) rfl ?_
    try simp only [beq_nil_isEmpty, bytesLess_gtr]
    exact ⟨by first | rfl | (simp [errW_none, errW_some] <;> rfl) | (simp [*, errW_none, errW_some] <;> rfl), by repeat (first | (with_reducible first | exact HB.out | apply below_alloc | apply pw_below_drewN | apply below_drew1 | refine below_set ?_ GE101.out) | exact HB.out)⟩
def num_run.f (a0 : ByteArray) : Option (ByteArray × ByteArray) := (strings_TrimLeft.f a0 (⟨#[48, 49, 50, 51, 52, 53, 54, 55, 56, 57]⟩ : ByteArray)).bind fun t104 => (if 0 ≤ (wrap64 ((a0.size : Int) - (t104.size : Int))) then (if (wrap64 ((a0.size : Int) - (t104.size : Int))) ≤ (a0.size : Int) then (some (a0.extract 0 ((wrap64 ((a0.size : Int) - (t104.size : Int))) : Int).toNat, t104)) else (none)) else (none))
set_option maxHeartbeats 8000000 in
set_option maxRecDepth 100000 in
theorem num_run.calls (a0 : ByteArray) (r1 : ByteArray) (r2 : ByteArray) (w : World) (h : num_run.f a0 = some (r1, r2)) :
    Calls Tryz.prog 151 #[.string a0] w fun e w' => e = .returned (.tuple #[.string r1, .string r2]) ∧ Below w.heap.size w w' := by
  have HB := Aside0.mk (Below.refl w.heap.size w)
  have H : ((strings_TrimLeft.f a0 (⟨#[48, 49, 50, 51, 52, 53, 54, 55, 56, 57]⟩ : ByteArray)).bind fun t104 => (if 0 ≤ (wrap64 ((a0.size : Int) - (t104.size : Int))) then (if (wrap64 ((a0.size : Int) - (t104.size : Int))) ≤ (a0.size : Int) then (some (a0.extract 0 ((wrap64 ((a0.size : Int) - (t104.size : Int))) : Int).toNat, t104)) else (none)) else (none))) = some (r1, r2) := h
  clear h
  replace H := Option.bind_eq_some_iff.mp H
  obtain ⟨t104, A20, H⟩ := H
  replace H : (if 0 ≤ (wrap64 ((a0.size : Int) - (t104.size : Int))) then (if (wrap64 ((a0.size : Int) - (t104.size : Int))) ≤ (a0.size : Int) then (some (a0.extract 0 ((wrap64 ((a0.size : Int) - (t104.size : Int))) : Int).toNat, t104)) else (none)) else (none)) = some (r1, r2) := H
  have A2 := Aside0.mk A20
  clear A20
  obtain ⟨ji3, hji3⟩ : ∃ j_ : Int, (wrap64 ((a0.size : Int) - (t104.size : Int))) = j_ := ⟨_, rfl⟩
  replace H : (if 0 ≤ (ji3) then (if (ji3) ≤ (a0.size : Int) then (some (a0.extract 0 ((ji3) : Int).toNat, t104)) else (none)) else (none)) = some (r1, r2) := by first | (rw [hji3] at H; exact H) | (simp only [hji3] at H ⊢; exact H)
  (try rw [hji3] at A2)
  have hji3w : (IntKind.i64.wrap ((a0.size : Int) - (t104.size : Int))) = ji3 := (i64_w _).trans hji3
  by_cases c4 : 0 ≤ (ji3)
  · rw [if_pos c4] at H
    have c4b0 := eq_true c4
    have c4b1 : decide (0 ≤ (ji3)) = true := decide_eq_true c4
    clear c4
    by_cases c5 : (ji3) ≤ (a0.size : Int)
    · rw [if_pos c5] at H
      have c5b0 := eq_true c5
      have c5b1 : decide ((ji3) ≤ (a0.size : Int)) = true := decide_eq_true c5
      clear c5
      simp only [Option.some.injEq, Prod.mk.injEq] at H
      obtain ⟨rfl, rfl⟩ := H
      go_enter Tryz.func151, Tryz.ntmps151
      go_wp2_with (first | ((with_reducible refine gate_callee (f := 71) rfl ?_); refine goesL_ (some 6) rfl rfl Tryz.func71 (by kernel_rfl) rfl #[.string a0, .string (⟨#[48, 49, 50, 51, 52, 53, 54, 55, 56, 57]⟩ : ByteArray)] rfl (by (try simp only [List.map_toArray, List.map_cons, List.map_nil]); first | done | rfl | (simp only [List.length_drop, List.length_take]; rfl)) ?_; (with_reducible refine (strings_TrimLeft.calls a0 (⟨#[48, 49, 50, 51, 52, 53, 54, 55, 56, 57]⟩ : ByteArray) t104 _ A2.out).mono ?_); rintro e w6 ⟨rfl, hb⟩; refine ⟨_, rfl, ?_⟩; have n0_ := Aside0.mk (below_step (by repeat (first | (with_reducible first | exact HB.out | apply below_alloc | apply pw_below_drewN | apply below_drew1) | exact HB.out)) hb); clear HB; have HB := n0_; clear n0_; (try clear hb); (try clear hb2); (try clear hk); (try clear hi)))
      go_ret2
      try simp only [beq_nil_isEmpty, bytesLess_gtr]
      exact ⟨by first | rfl | (simp [errW_none, errW_some] <;> rfl) | (simp only [← hji3]; first | rfl | (simp [errW_none, errW_some] <;> rfl)) | (simp [*, errW_none, errW_some] <;> rfl), by repeat (first | (with_reducible first | exact HB.out | apply below_alloc | apply pw_below_drewN | apply below_drew1) | exact HB.out)⟩
    · rw [if_neg c5] at H
      exact absurd H (by simp)
  · rw [if_neg c4] at H
    exact absurd H (by simp)
def num_Right.f (a0_0 : Bool) (a0_1 : ByteArray) (a0_2 : Int) : Option (Bool) := if a0_1.toList = ([] : List UInt8) then (some (!a0_0 && (a0_1.toList == ([] : List UInt8) && (a0_2 == 0)))) else ((num_run.f a0_1).bind fun bt106 => (if bt106.2.toList = ([] : List UInt8) then (if 0 < (bt106.1.size : Int) then (if (bt bt106.1 0) = 48 then (some false) else (if 0 ≤ (wrap64 ((bt106.1.size : Int) - 1)) then (if (wrap64 ((bt106.1.size : Int) - 1)) < (bt106.1.size : Int) then (if (bt bt106.1 (wrap64 ((bt106.1.size : Int) - 1))) = 48 then (some false) else (if (bt106.1.size : Int) ≤ 40 then (if a0_2 ≥ (-999) then (some (decide (a0_2 ≤ 999))) else (some false)) else (some false))) else (none)) else (none))) else (none)) else (some false)))
set_option maxHeartbeats 8000000 in
set_option maxRecDepth 100000 in
theorem num_Right.calls (a0_0 : Bool) (a0_1 : ByteArray) (a0_2 : Int) (r : Bool) (w : World) (h : num_Right.f a0_0 a0_1 a0_2 = some r) :
    Calls Tryz.prog 134 #[.agg #[.bool a0_0, .string a0_1, .int .i64 a0_2]] w fun e w' => e = .returned (.bool r) ∧ Below w.heap.size w w' := by
  have hu24 := Tryz.underlying24
  have HB := Aside0.mk (Below.refl w.heap.size w)
  have H : (if a0_1.toList = ([] : List UInt8) then (some (!a0_0 && (a0_1.toList == ([] : List UInt8) && (a0_2 == 0)))) else ((num_run.f a0_1).bind fun bt106 => (if bt106.2.toList = ([] : List UInt8) then (if 0 < (bt106.1.size : Int) then (if (bt bt106.1 0) = 48 then (some false) else (if 0 ≤ (wrap64 ((bt106.1.size : Int) - 1)) then (if (wrap64 ((bt106.1.size : Int) - 1)) < (bt106.1.size : Int) then (if (bt bt106.1 (wrap64 ((bt106.1.size : Int) - 1))) = 48 then (some false) else (if (bt106.1.size : Int) ≤ 40 then (if a0_2 ≥ (-999) then (some (decide (a0_2 ≤ 999))) else (some false)) else (some false))) else (none)) else (none))) else (none)) else (some false)))) = some r := h
  clear h
  by_cases c2 : a0_1.toList = ([] : List UInt8)
  · rw [if_pos c2] at H
    have c2b0 : (a0_1.toList == ([] : List UInt8)) = true := beq_iff_eq.mpr c2
    have c2b7 : a0_1.toList.isEmpty = true := by rw [← beq_nil_isEmpty]; exact c2b0
    have c2b1 : (a0_1.toList != ([] : List UInt8)) = false := bne_eq_false_iff_eq.mpr c2
    clear c2
    obtain rfl := Option.some.inj H
    go_enter Tryz.func134, Tryz.ntmps134
    go_wp2_with (first | ((with_reducible refine gate_dst (N := 1) rfl ?_); (try (refine gate_guard (by rfl) ?_; dsimp only)); refine box_event ?hg (N := 1) ?hd (cs := #[.bool a0_0, .string a0_1, .int .i64 a0_2]) (t := 24) ?hr ?_; (case hd => rfl); (case hg => rfl); (case hr => first | (go_simp; done) | (go_simp; rfl)); intro gb105 hg w3 hbox hb; have n0_ := Aside0.mk (below_step (by repeat (first | (with_reducible first | exact HB.out | apply below_alloc | apply pw_below_drewN | apply below_drew1) | exact HB.out)) hb); have n1_ := Aside0.mk (hbox); have n2_ := Aside0.mk ((by rw [hg]; exact (below_size (by repeat (first | (with_reducible first | exact HB.out | apply below_alloc | apply pw_below_drewN | apply below_drew1) | exact HB.out))) : w.heap.size ≤ gb105)); have n3_ := Aside0.mk ((by rw [hg]; exact (below_size (by repeat (first | (with_reducible first | exact HB.out | apply below_alloc | apply pw_below_drewN | apply below_drew1) | exact HB.out))) : w.heap.size ≤ gb105)); clear HB; have HB := n0_; have BK105 := n1_; have GW105 := n2_; have GE105 := n3_; clear n0_ n1_ n2_ n3_; clear hb hbox hg; have hcz4_0 : w3.cell? ⟨gb105, 0, none⟩ = some (.bool a0_0) := (blk_cell BK105.out 0).trans rfl; have hcz4_1 : w3.cell? ⟨gb105, 1, none⟩ = some (.string a0_1) := (blk_cell BK105.out 1).trans rfl; have hcz4_2 : w3.cell? ⟨gb105, 2, none⟩ = some (.int .i64 a0_2) := (blk_cell BK105.out 2).trans rfl; have hfz4_0 := blk_frozen BK105.out 0; have hfz4_1 := blk_frozen BK105.out 1; have hfz4_2 := blk_frozen BK105.out 2))
    go_ret
    try simp only [beq_nil_isEmpty, bytesLess_gtr]
    exact ⟨by first | rfl | (simp [errW_none, errW_some] <;> rfl) | (simp [*, errW_none, errW_some] <;> rfl), by repeat (first | (with_reducible first | exact HB.out | apply below_alloc | apply pw_below_drewN | apply below_drew1 | refine below_set ?_ GE105.out) | exact HB.out)⟩
  · rw [if_neg c2] at H
    have c2b0 : (a0_1.toList == ([] : List UInt8)) = false := beq_eq_false_iff_ne.mpr c2
    have c2b7 : a0_1.toList.isEmpty = false := by rw [← beq_nil_isEmpty]; exact c2b0
    have c2b1 : (a0_1.toList != ([] : List UInt8)) = true := bne_iff_ne.mpr c2
    replace H := Option.bind_eq_some_iff.mp H
    obtain ⟨⟨t106, t107⟩, A50, H⟩ := H
    replace H : (if t107.toList = ([] : List UInt8) then (if 0 < (t106.size : Int) then (if (bt t106 0) = 48 then (some false) else (if 0 ≤ (wrap64 ((t106.size : Int) - 1)) then (if (wrap64 ((t106.size : Int) - 1)) < (t106.size : Int) then (if (bt t106 (wrap64 ((t106.size : Int) - 1))) = 48 then (some false) else (if (t106.size : Int) ≤ 40 then (if a0_2 ≥ (-999) then (some (decide (a0_2 ≤ 999))) else (some false)) else (some false))) else (none)) else (none))) else (none)) else (some false)) = some r := H
    have A5 := Aside0.mk A50
    clear A50
    by_cases c6 : t107.toList = ([] : List UInt8)
    · rw [if_pos c6] at H
      have c6b0 : (t107.toList == ([] : List UInt8)) = true := beq_iff_eq.mpr c6
      have c6b7 : t107.toList.isEmpty = true := by rw [← beq_nil_isEmpty]; exact c6b0
      have c6b1 : (t107.toList != ([] : List UInt8)) = false := bne_eq_false_iff_eq.mpr c6
      clear c6
      by_cases c7 : 0 < (t106.size : Int)
      · rw [if_pos c7] at H
        have c7b0 : decide (0 < (t106.size : Int)) = true := decide_eq_true c7
        have c7b1 : decide (0 < t106.size) = true := decide_eq_true (by omega)
        clear c7
        by_cases c9 : (bt t106 0) = 48
        · rw [if_pos c9] at H
          have c9b0 : ((bt t106 0) == 48) = true := beq_iff_eq.mpr c9
          have c9b1 : ((bt t106 0) != 48) = false := bne_eq_false_iff_eq.mpr c9
          clear c9
          obtain rfl := Option.some.inj H
          go_enter Tryz.func134, Tryz.ntmps134
          go_wp2_with (first | ((with_reducible refine gate_dst (N := 1) rfl ?_); (try (refine gate_guard (by rfl) ?_; dsimp only)); refine box_event ?hg (N := 1) ?hd (cs := #[.bool a0_0, .string a0_1, .int .i64 a0_2]) (t := 24) ?hr ?_; (case hd => rfl); (case hg => rfl); (case hr => first | (go_simp; done) | (go_simp; rfl)); intro gb105 hg w10 hbox hb; have n0_ := Aside0.mk (below_step (by repeat (first | (with_reducible first | exact HB.out | apply below_alloc | apply pw_below_drewN | apply below_drew1) | exact HB.out)) hb); have n1_ := Aside0.mk (hbox); have n2_ := Aside0.mk ((by rw [hg]; exact (below_size (by repeat (first | (with_reducible first | exact HB.out | apply below_alloc | apply pw_below_drewN | apply below_drew1) | exact HB.out))) : w.heap.size ≤ gb105)); have n3_ := Aside0.mk ((by rw [hg]; exact (below_size (by repeat (first | (with_reducible first | exact HB.out | apply below_alloc | apply pw_below_drewN | apply below_drew1) | exact HB.out))) : w.heap.size ≤ gb105)); clear HB; have HB := n0_; have BK105 := n1_; have GW105 := n2_; have GE105 := n3_; clear n0_ n1_ n2_ n3_; clear hb hbox hg; have hcz11_0 : w10.cell? ⟨gb105, 0, none⟩ = some (.bool a0_0) := (blk_cell BK105.out 0).trans rfl; have hcz11_1 : w10.cell? ⟨gb105, 1, none⟩ = some (.string a0_1) := (blk_cell BK105.out 1).trans rfl; have hcz11_2 : w10.cell? ⟨gb105, 2, none⟩ = some (.int .i64 a0_2) := (blk_cell BK105.out 2).trans rfl; have hfz11_0 := blk_frozen BK105.out 0; have hfz11_1 := blk_frozen BK105.out 1; have hfz11_2 := blk_frozen BK105.out 2) | ((with_reducible refine gate_callee (f := 151) rfl ?_); refine goesL_ (some 14) rfl rfl Tryz.func151 (by kernel_rfl) rfl #[.string a0_1] rfl (by (try simp only [List.map_toArray, List.map_cons, List.map_nil]); first | done | rfl | (simp only [List.length_drop, List.length_take]; rfl)) ?_; (with_reducible refine (num_run.calls a0_1 t106 t107 _ A5.out).mono ?_); rintro e w12 ⟨rfl, hb⟩; refine ⟨_, rfl, ?_⟩; have n0_ := Aside0.mk (blk_below (g := gb105) (o := .cells #[.bool a0_0, .string a0_1, .int .i64 a0_2] 24 (0, 0)) (by (with_reducible repeat (first | refine blk_drewN ?_ _ | refine blk_drew ?_ | refine blk_alloc ?_ _)); exact BK105.out) hb); have n1_ := Aside0.mk (below_step (by repeat (first | (with_reducible first | exact HB.out | apply below_alloc | apply pw_below_drewN | apply below_drew1 | refine below_set ?_ GE105.out) | exact HB.out)) hb); clear BK105; clear HB; have BK105 := n0_; have HB := n1_; clear n0_ n1_; (try clear hb); (try clear hb2); (try clear hk); (try clear hi); have p8 : 0 ≤ (0 : Int) := (by omega); have q8 : 0 < t106.size := (by have : (0 : Int) < (t106.size : Int) := of_decide_eq_true (by first | (with_reducible assumption) | assumption); omega); have hx8 : ∀ h : 0 < t106.size, ((t106[0]'h).toNat : Int) = bt t106 0 := bt_at t106 0; clear p8; have qi8 : (0 < (t106.size : Int)) = True := eq_true (of_decide_eq_true (by first | (with_reducible assumption) | assumption)); replace q8 := eq_true q8))
          go_ret
          try simp only [beq_nil_isEmpty, bytesLess_gtr]
          exact ⟨by first | rfl | (simp [errW_none, errW_some] <;> rfl) | (simp [*, errW_none, errW_some] <;> rfl), by repeat (first | (with_reducible first | exact HB.out | apply below_alloc | apply pw_below_drewN | apply below_drew1 | refine below_set ?_ GE105.out) | exact HB.out)⟩
        · rw [if_neg c9] at H
          have c9b0 : ((bt t106 0) == 48) = false := beq_eq_false_iff_ne.mpr c9
          have c9b1 : ((bt t106 0) != 48) = true := bne_iff_ne.mpr c9
          obtain ⟨ji13, hji13⟩ : ∃ j_ : Int, (wrap64 ((t106.size : Int) - 1)) = j_ := ⟨_, rfl⟩
          replace H : (if 0 ≤ (ji13) then (if (ji13) < (t106.size : Int) then (if (bt t106 (ji13)) = 48 then (some false) else (if (t106.size : Int) ≤ 40 then (if a0_2 ≥ (-999) then (some (decide (a0_2 ≤ 999))) else (some false)) else (some false))) else (none)) else (none)) = some r := by first | (rw [hji13] at H; exact H) | (simp only [hji13] at H ⊢; exact H)
          (try rw [hji13] at A5)
          have hji13w : (IntKind.i64.wrap ((t106.size : Int) - 1)) = ji13 := (i64_w _).trans hji13
          by_cases c14 : 0 ≤ (ji13)
          · rw [if_pos c14] at H
            have c14b0 : decide (0 ≤ (ji13)) = true := decide_eq_true c14
            clear c14
            by_cases c15 : (ji13) < (t106.size : Int)
            · rw [if_pos c15] at H
              have c15b0 : decide ((ji13) < (t106.size : Int)) = true := decide_eq_true c15
              clear c15
              by_cases c17 : (bt t106 (ji13)) = 48
              · rw [if_pos c17] at H
                have c17b0 : ((bt t106 (ji13)) == 48) = true := beq_iff_eq.mpr c17
                have c17b1 : ((bt t106 (ji13)) != 48) = false := bne_eq_false_iff_eq.mpr c17
                clear c17
                obtain rfl := Option.some.inj H
                go_enter Tryz.func134, Tryz.ntmps134
                go_wp2_with (first | ((with_reducible refine gate_dst (N := 1) rfl ?_); (try (refine gate_guard (by rfl) ?_; dsimp only)); refine box_event ?hg (N := 1) ?hd (cs := #[.bool a0_0, .string a0_1, .int .i64 a0_2]) (t := 24) ?hr ?_; (case hd => rfl); (case hg => rfl); (case hr => first | (go_simp; done) | (go_simp; rfl)); intro gb105 hg w18 hbox hb; have n0_ := Aside0.mk (below_step (by repeat (first | (with_reducible first | exact HB.out | apply below_alloc | apply pw_below_drewN | apply below_drew1) | exact HB.out)) hb); have n1_ := Aside0.mk (hbox); have n2_ := Aside0.mk ((by rw [hg]; exact (below_size (by repeat (first | (with_reducible first | exact HB.out | apply below_alloc | apply pw_below_drewN | apply below_drew1) | exact HB.out))) : w.heap.size ≤ gb105)); have n3_ := Aside0.mk ((by rw [hg]; exact (below_size (by repeat (first | (with_reducible first | exact HB.out | apply below_alloc | apply pw_below_drewN | apply below_drew1) | exact HB.out))) : w.heap.size ≤ gb105)); clear HB; have HB := n0_; have BK105 := n1_; have GW105 := n2_; have GE105 := n3_; clear n0_ n1_ n2_ n3_; clear hb hbox hg; have hcz19_0 : w18.cell? ⟨gb105, 0, none⟩ = some (.bool a0_0) := (blk_cell BK105.out 0).trans rfl; have hcz19_1 : w18.cell? ⟨gb105, 1, none⟩ = some (.string a0_1) := (blk_cell BK105.out 1).trans rfl; have hcz19_2 : w18.cell? ⟨gb105, 2, none⟩ = some (.int .i64 a0_2) := (blk_cell BK105.out 2).trans rfl; have hfz19_0 := blk_frozen BK105.out 0; have hfz19_1 := blk_frozen BK105.out 1; have hfz19_2 := blk_frozen BK105.out 2) | ((with_reducible refine gate_callee (f := 151) rfl ?_); refine goesL_ (some 14) rfl rfl Tryz.func151 (by kernel_rfl) rfl #[.string a0_1] rfl (by (try simp only [List.map_toArray, List.map_cons, List.map_nil]); first | done | rfl | (simp only [List.length_drop, List.length_take]; rfl)) ?_; (with_reducible refine (num_run.calls a0_1 t106 t107 _ A5.out).mono ?_); rintro e w20 ⟨rfl, hb⟩; refine ⟨_, rfl, ?_⟩; have n0_ := Aside0.mk (blk_below (g := gb105) (o := .cells #[.bool a0_0, .string a0_1, .int .i64 a0_2] 24 (0, 0)) (by (with_reducible repeat (first | refine blk_drewN ?_ _ | refine blk_drew ?_ | refine blk_alloc ?_ _)); exact BK105.out) hb); have n1_ := Aside0.mk (below_step (by repeat (first | (with_reducible first | exact HB.out | apply below_alloc | apply pw_below_drewN | apply below_drew1 | refine below_set ?_ GE105.out) | exact HB.out)) hb); clear BK105; clear HB; have BK105 := n0_; have HB := n1_; clear n0_ n1_; (try clear hb); (try clear hb2); (try clear hk); (try clear hi); have p8 : 0 ≤ (0 : Int) := (by omega); have q8 : 0 < t106.size := (by have : (0 : Int) < (t106.size : Int) := of_decide_eq_true (by first | (with_reducible assumption) | assumption); omega); have hx8 : ∀ h : 0 < t106.size, ((t106[0]'h).toNat : Int) = bt t106 0 := bt_at t106 0; clear p8; have qi8 : (0 < (t106.size : Int)) = True := eq_true (of_decide_eq_true (by first | (with_reducible assumption) | assumption)); replace q8 := eq_true q8; have p16 : 0 ≤ ((ji13) : Int) := of_decide_eq_true (by first | (with_reducible assumption) | assumption); have q16 : (ji13) < (t106.size : Int) := of_decide_eq_true (by first | (with_reducible assumption) | assumption); have hx16 := bt_at t106 (ji13); replace p16 := eq_true p16; replace q16 := eq_true q16))
                go_ret
                try simp only [beq_nil_isEmpty, bytesLess_gtr]
                exact ⟨by first | rfl | (simp [errW_none, errW_some] <;> rfl) | (simp only [← hji13]; first | rfl | (simp [errW_none, errW_some] <;> rfl)) | (simp [*, errW_none, errW_some] <;> rfl), by repeat (first | (with_reducible first | exact HB.out | apply below_alloc | apply pw_below_drewN | apply below_drew1 | refine below_set ?_ GE105.out) | exact HB.out)⟩
              · rw [if_neg c17] at H
                have c17b0 : ((bt t106 (ji13)) == 48) = false := beq_eq_false_iff_ne.mpr c17
                have c17b1 : ((bt t106 (ji13)) != 48) = true := bne_iff_ne.mpr c17
                by_cases c21 : (t106.size : Int) ≤ 40
                · rw [if_pos c21] at H
                  have c21b0 : decide ((t106.size : Int) ≤ 40) = true := decide_eq_true c21
                  have c21b1 : decide (t106.size ≤ 40) = true := decide_eq_true (by omega)
                  clear c21
                  by_cases c22 : a0_2 ≥ (-999)
                  · rw [if_pos c22] at H
                    have c22b0 : decide ((-999) ≤ a0_2) = true := decide_eq_true c22
                    clear c22
                    obtain rfl := Option.some.inj H
                    go_enter Tryz.func134, Tryz.ntmps134
                    go_wp2_with (first | ((with_reducible refine gate_dst (N := 1) rfl ?_); (try (refine gate_guard (by rfl) ?_; dsimp only)); refine box_event ?hg (N := 1) ?hd (cs := #[.bool a0_0, .string a0_1, .int .i64 a0_2]) (t := 24) ?hr ?_; (case hd => rfl); (case hg => rfl); (case hr => first | (go_simp; done) | (go_simp; rfl)); intro gb105 hg w23 hbox hb; have n0_ := Aside0.mk (below_step (by repeat (first | (with_reducible first | exact HB.out | apply below_alloc | apply pw_below_drewN | apply below_drew1) | exact HB.out)) hb); have n1_ := Aside0.mk (hbox); have n2_ := Aside0.mk ((by rw [hg]; exact (below_size (by repeat (first | (with_reducible first | exact HB.out | apply below_alloc | apply pw_below_drewN | apply below_drew1) | exact HB.out))) : w.heap.size ≤ gb105)); have n3_ := Aside0.mk ((by rw [hg]; exact (below_size (by repeat (first | (with_reducible first | exact HB.out | apply below_alloc | apply pw_below_drewN | apply below_drew1) | exact HB.out))) : w.heap.size ≤ gb105)); clear HB; have HB := n0_; have BK105 := n1_; have GW105 := n2_; have GE105 := n3_; clear n0_ n1_ n2_ n3_; clear hb hbox hg; have hcz24_0 : w23.cell? ⟨gb105, 0, none⟩ = some (.bool a0_0) := (blk_cell BK105.out 0).trans rfl; have hcz24_1 : w23.cell? ⟨gb105, 1, none⟩ = some (.string a0_1) := (blk_cell BK105.out 1).trans rfl; have hcz24_2 : w23.cell? ⟨gb105, 2, none⟩ = some (.int .i64 a0_2) := (blk_cell BK105.out 2).trans rfl; have hfz24_0 := blk_frozen BK105.out 0; have hfz24_1 := blk_frozen BK105.out 1; have hfz24_2 := blk_frozen BK105.out 2) | ((with_reducible refine gate_callee (f := 151) rfl ?_); refine goesL_ (some 14) rfl rfl Tryz.func151 (by kernel_rfl) rfl #[.string a0_1] rfl (by (try simp only [List.map_toArray, List.map_cons, List.map_nil]); first | done | rfl | (simp only [List.length_drop, List.length_take]; rfl)) ?_; (with_reducible refine (num_run.calls a0_1 t106 t107 _ A5.out).mono ?_); rintro e w25 ⟨rfl, hb⟩; refine ⟨_, rfl, ?_⟩; have n0_ := Aside0.mk (blk_below (g := gb105) (o := .cells #[.bool a0_0, .string a0_1, .int .i64 a0_2] 24 (0, 0)) (by (with_reducible repeat (first | refine blk_drewN ?_ _ | refine blk_drew ?_ | refine blk_alloc ?_ _)); exact BK105.out) hb); have n1_ := Aside0.mk (below_step (by repeat (first | (with_reducible first | exact HB.out | apply below_alloc | apply pw_below_drewN | apply below_drew1 | refine below_set ?_ GE105.out) | exact HB.out)) hb); clear BK105; clear HB; have BK105 := n0_; have HB := n1_; clear n0_ n1_; (try clear hb); (try clear hb2); (try clear hk); (try clear hi); have p8 : 0 ≤ (0 : Int) := (by omega); have q8 : 0 < t106.size := (by have : (0 : Int) < (t106.size : Int) := of_decide_eq_true (by first | (with_reducible assumption) | assumption); omega); have hx8 : ∀ h : 0 < t106.size, ((t106[0]'h).toNat : Int) = bt t106 0 := bt_at t106 0; clear p8; have qi8 : (0 < (t106.size : Int)) = True := eq_true (of_decide_eq_true (by first | (with_reducible assumption) | assumption)); replace q8 := eq_true q8; have p16 : 0 ≤ ((ji13) : Int) := of_decide_eq_true (by first | (with_reducible assumption) | assumption); have q16 : (ji13) < (t106.size : Int) := of_decide_eq_true (by first | (with_reducible assumption) | assumption); have hx16 := bt_at t106 (ji13); replace p16 := eq_true p16; replace q16 := eq_true q16; have hcz26_0 : w25.cell? ⟨gb105, 0, none⟩ = some (.bool a0_0) := (blk_cell BK105.out 0).trans rfl; have hcz26_1 : w25.cell? ⟨gb105, 1, none⟩ = some (.string a0_1) := (blk_cell BK105.out 1).trans rfl; have hcz26_2 : w25.cell? ⟨gb105, 2, none⟩ = some (.int .i64 a0_2) := (blk_cell BK105.out 2).trans rfl; have hfz26_0 := blk_frozen BK105.out 0; have hfz26_1 := blk_frozen BK105.out 1; have hfz26_2 := blk_frozen BK105.out 2))
                    go_ret
                    try simp only [beq_nil_isEmpty, bytesLess_gtr]
                    exact ⟨by first | rfl | (simp [errW_none, errW_some] <;> rfl) | (simp only [← hji13]; first | rfl | (simp [errW_none, errW_some] <;> rfl)) | (simp [*, errW_none, errW_some] <;> rfl), by repeat (first | (with_reducible first | exact HB.out | apply below_alloc | apply pw_below_drewN | apply below_drew1 | refine below_set ?_ GE105.out) | exact HB.out)⟩
                  · rw [if_neg c22] at H
                    have c22b0 : decide ((-999) ≤ a0_2) = false := decide_eq_false c22
                    clear c22
                    obtain rfl := Option.some.inj H
                    go_enter Tryz.func134, Tryz.ntmps134
                    go_wp2_with (first | ((with_reducible refine gate_dst (N := 1) rfl ?_); (try (refine gate_guard (by rfl) ?_; dsimp only)); refine box_event ?hg (N := 1) ?hd (cs := #[.bool a0_0, .string a0_1, .int .i64 a0_2]) (t := 24) ?hr ?_; (case hd => rfl); (case hg => rfl); (case hr => first | (go_simp; done) | (go_simp; rfl)); intro gb105 hg w27 hbox hb; have n0_ := Aside0.mk (below_step (by repeat (first | (with_reducible first | exact HB.out | apply below_alloc | apply pw_below_drewN | apply below_drew1) | exact HB.out)) hb); have n1_ := Aside0.mk (hbox); have n2_ := Aside0.mk ((by rw [hg]; exact (below_size (by repeat (first | (with_reducible first | exact HB.out | apply below_alloc | apply pw_below_drewN | apply below_drew1) | exact HB.out))) : w.heap.size ≤ gb105)); have n3_ := Aside0.mk ((by rw [hg]; exact (below_size (by repeat (first | (with_reducible first | exact HB.out | apply below_alloc | apply pw_below_drewN | apply below_drew1) | exact HB.out))) : w.heap.size ≤ gb105)); clear HB; have HB := n0_; have BK105 := n1_; have GW105 := n2_; have GE105 := n3_; clear n0_ n1_ n2_ n3_; clear hb hbox hg; have hcz28_0 : w27.cell? ⟨gb105, 0, none⟩ = some (.bool a0_0) := (blk_cell BK105.out 0).trans rfl; have hcz28_1 : w27.cell? ⟨gb105, 1, none⟩ = some (.string a0_1) := (blk_cell BK105.out 1).trans rfl; have hcz28_2 : w27.cell? ⟨gb105, 2, none⟩ = some (.int .i64 a0_2) := (blk_cell BK105.out 2).trans rfl; have hfz28_0 := blk_frozen BK105.out 0; have hfz28_1 := blk_frozen BK105.out 1; have hfz28_2 := blk_frozen BK105.out 2) | ((with_reducible refine gate_callee (f := 151) rfl ?_); refine goesL_ (some 14) rfl rfl Tryz.func151 (by kernel_rfl) rfl #[.string a0_1] rfl (by (try simp only [List.map_toArray, List.map_cons, List.map_nil]); first | done | rfl | (simp only [List.length_drop, List.length_take]; rfl)) ?_; (with_reducible refine (num_run.calls a0_1 t106 t107 _ A5.out).mono ?_); rintro e w29 ⟨rfl, hb⟩; refine ⟨_, rfl, ?_⟩; have n0_ := Aside0.mk (blk_below (g := gb105) (o := .cells #[.bool a0_0, .string a0_1, .int .i64 a0_2] 24 (0, 0)) (by (with_reducible repeat (first | refine blk_drewN ?_ _ | refine blk_drew ?_ | refine blk_alloc ?_ _)); exact BK105.out) hb); have n1_ := Aside0.mk (below_step (by repeat (first | (with_reducible first | exact HB.out | apply below_alloc | apply pw_below_drewN | apply below_drew1 | refine below_set ?_ GE105.out) | exact HB.out)) hb); clear BK105; clear HB; have BK105 := n0_; have HB := n1_; clear n0_ n1_; (try clear hb); (try clear hb2); (try clear hk); (try clear hi); have p8 : 0 ≤ (0 : Int) := (by omega); have q8 : 0 < t106.size := (by have : (0 : Int) < (t106.size : Int) := of_decide_eq_true (by first | (with_reducible assumption) | assumption); omega); have hx8 : ∀ h : 0 < t106.size, ((t106[0]'h).toNat : Int) = bt t106 0 := bt_at t106 0; clear p8; have qi8 : (0 < (t106.size : Int)) = True := eq_true (of_decide_eq_true (by first | (with_reducible assumption) | assumption)); replace q8 := eq_true q8; have p16 : 0 ≤ ((ji13) : Int) := of_decide_eq_true (by first | (with_reducible assumption) | assumption); have q16 : (ji13) < (t106.size : Int) := of_decide_eq_true (by first | (with_reducible assumption) | assumption); have hx16 := bt_at t106 (ji13); replace p16 := eq_true p16; replace q16 := eq_true q16; have hcz30_0 : w29.cell? ⟨gb105, 0, none⟩ = some (.bool a0_0) := (blk_cell BK105.out 0).trans rfl; have hcz30_1 : w29.cell? ⟨gb105, 1, none⟩ = some (.string a0_1) := (blk_cell BK105.out 1).trans rfl; have hcz30_2 : w29.cell? ⟨gb105, 2, none⟩ = some (.int .i64 a0_2) := (blk_cell BK105.out 2).trans rfl; have hfz30_0 := blk_frozen BK105.out 0; have hfz30_1 := blk_frozen BK105.out 1; have hfz30_2 := blk_frozen BK105.out 2))
                    go_ret
                    try simp only [beq_nil_isEmpty, bytesLess_gtr]
                    exact ⟨by first | rfl | (simp [errW_none, errW_some] <;> rfl) | (simp only [← hji13]; first | rfl | (simp [errW_none, errW_some] <;> rfl)) | (simp [*, errW_none, errW_some] <;> rfl), by repeat (first | (with_reducible first | exact HB.out | apply below_alloc | apply pw_below_drewN | apply below_drew1 | refine below_set ?_ GE105.out) | exact HB.out)⟩
                · rw [if_neg c21] at H
                  have c21b0 : decide ((t106.size : Int) ≤ 40) = false := decide_eq_false c21
                  have c21b1 : decide (t106.size ≤ 40) = false := decide_eq_false (by omega)
                  clear c21
                  obtain rfl := Option.some.inj H
                  go_enter Tryz.func134, Tryz.ntmps134
                  go_wp2_with (first | ((with_reducible refine gate_dst (N := 1) rfl ?_); (try (refine gate_guard (by rfl) ?_; dsimp only)); refine box_event ?hg (N := 1) ?hd (cs := #[.bool a0_0, .string a0_1, .int .i64 a0_2]) (t := 24) ?hr ?_; (case hd => rfl); (case hg => rfl); (case hr => first | (go_simp; done) | (go_simp; rfl)); intro gb105 hg w31 hbox hb; have n0_ := Aside0.mk (below_step (by repeat (first | (with_reducible first | exact HB.out | apply below_alloc | apply pw_below_drewN | apply below_drew1) | exact HB.out)) hb); have n1_ := Aside0.mk (hbox); have n2_ := Aside0.mk ((by rw [hg]; exact (below_size (by repeat (first | (with_reducible first | exact HB.out | apply below_alloc | apply pw_below_drewN | apply below_drew1) | exact HB.out))) : w.heap.size ≤ gb105)); have n3_ := Aside0.mk ((by rw [hg]; exact (below_size (by repeat (first | (with_reducible first | exact HB.out | apply below_alloc | apply pw_below_drewN | apply below_drew1) | exact HB.out))) : w.heap.size ≤ gb105)); clear HB; have HB := n0_; have BK105 := n1_; have GW105 := n2_; have GE105 := n3_; clear n0_ n1_ n2_ n3_; clear hb hbox hg; have hcz32_0 : w31.cell? ⟨gb105, 0, none⟩ = some (.bool a0_0) := (blk_cell BK105.out 0).trans rfl; have hcz32_1 : w31.cell? ⟨gb105, 1, none⟩ = some (.string a0_1) := (blk_cell BK105.out 1).trans rfl; have hcz32_2 : w31.cell? ⟨gb105, 2, none⟩ = some (.int .i64 a0_2) := (blk_cell BK105.out 2).trans rfl; have hfz32_0 := blk_frozen BK105.out 0; have hfz32_1 := blk_frozen BK105.out 1; have hfz32_2 := blk_frozen BK105.out 2) | ((with_reducible refine gate_callee (f := 151) rfl ?_); refine goesL_ (some 14) rfl rfl Tryz.func151 (by kernel_rfl) rfl #[.string a0_1] rfl (by (try simp only [List.map_toArray, List.map_cons, List.map_nil]); first | done | rfl | (simp only [List.length_drop, List.length_take]; rfl)) ?_; (with_reducible refine (num_run.calls a0_1 t106 t107 _ A5.out).mono ?_); rintro e w33 ⟨rfl, hb⟩; refine ⟨_, rfl, ?_⟩; have n0_ := Aside0.mk (blk_below (g := gb105) (o := .cells #[.bool a0_0, .string a0_1, .int .i64 a0_2] 24 (0, 0)) (by (with_reducible repeat (first | refine blk_drewN ?_ _ | refine blk_drew ?_ | refine blk_alloc ?_ _)); exact BK105.out) hb); have n1_ := Aside0.mk (below_step (by repeat (first | (with_reducible first | exact HB.out | apply below_alloc | apply pw_below_drewN | apply below_drew1 | refine below_set ?_ GE105.out) | exact HB.out)) hb); clear BK105; clear HB; have BK105 := n0_; have HB := n1_; clear n0_ n1_; (try clear hb); (try clear hb2); (try clear hk); (try clear hi); have p8 : 0 ≤ (0 : Int) := (by omega); have q8 : 0 < t106.size := (by have : (0 : Int) < (t106.size : Int) := of_decide_eq_true (by first | (with_reducible assumption) | assumption); omega); have hx8 : ∀ h : 0 < t106.size, ((t106[0]'h).toNat : Int) = bt t106 0 := bt_at t106 0; clear p8; have qi8 : (0 < (t106.size : Int)) = True := eq_true (of_decide_eq_true (by first | (with_reducible assumption) | assumption)); replace q8 := eq_true q8; have p16 : 0 ≤ ((ji13) : Int) := of_decide_eq_true (by first | (with_reducible assumption) | assumption); have q16 : (ji13) < (t106.size : Int) := of_decide_eq_true (by first | (with_reducible assumption) | assumption); have hx16 := bt_at t106 (ji13); replace p16 := eq_true p16; replace q16 := eq_true q16))
                  go_ret
                  try simp only [beq_nil_isEmpty, bytesLess_gtr]
                  exact ⟨by first | rfl | (simp [errW_none, errW_some] <;> rfl) | (simp only [← hji13]; first | rfl | (simp [errW_none, errW_some] <;> rfl)) | (simp [*, errW_none, errW_some] <;> rfl), by repeat (first | (with_reducible first | exact HB.out | apply below_alloc | apply pw_below_drewN | apply below_drew1 | refine below_set ?_ GE105.out) | exact HB.out)⟩
            · rw [if_neg c15] at H
              exact absurd H (by simp)
          · rw [if_neg c14] at H
            exact absurd H (by simp)
      · rw [if_neg c7] at H
        exact absurd H (by simp)
    · rw [if_neg c6] at H
      have c6b0 : (t107.toList == ([] : List UInt8)) = false := beq_eq_false_iff_ne.mpr c6
      have c6b7 : t107.toList.isEmpty = false := by rw [← beq_nil_isEmpty]; exact c6b0
      have c6b1 : (t107.toList != ([] : List UInt8)) = true := bne_iff_ne.mpr c6
      obtain rfl := Option.some.inj H
      go_enter Tryz.func134, Tryz.ntmps134
      go_wp2_with (first | ((with_reducible refine gate_dst (N := 1) rfl ?_); (try (refine gate_guard (by rfl) ?_; dsimp only)); refine box_event ?hg (N := 1) ?hd (cs := #[.bool a0_0, .string a0_1, .int .i64 a0_2]) (t := 24) ?hr ?_; (case hd => rfl); (case hg => rfl); (case hr => first | (go_simp; done) | (go_simp; rfl)); intro gb105 hg w34 hbox hb; have n0_ := Aside0.mk (below_step (by repeat (first | (with_reducible first | exact HB.out | apply below_alloc | apply pw_below_drewN | apply below_drew1) | exact HB.out)) hb); have n1_ := Aside0.mk (hbox); have n2_ := Aside0.mk ((by rw [hg]; exact (below_size (by repeat (first | (with_reducible first | exact HB.out | apply below_alloc | apply pw_below_drewN | apply below_drew1) | exact HB.out))) : w.heap.size ≤ gb105)); have n3_ := Aside0.mk ((by rw [hg]; exact (below_size (by repeat (first | (with_reducible first | exact HB.out | apply below_alloc | apply pw_below_drewN | apply below_drew1) | exact HB.out))) : w.heap.size ≤ gb105)); clear HB; have HB := n0_; have BK105 := n1_; have GW105 := n2_; have GE105 := n3_; clear n0_ n1_ n2_ n3_; clear hb hbox hg; have hcz35_0 : w34.cell? ⟨gb105, 0, none⟩ = some (.bool a0_0) := (blk_cell BK105.out 0).trans rfl; have hcz35_1 : w34.cell? ⟨gb105, 1, none⟩ = some (.string a0_1) := (blk_cell BK105.out 1).trans rfl; have hcz35_2 : w34.cell? ⟨gb105, 2, none⟩ = some (.int .i64 a0_2) := (blk_cell BK105.out 2).trans rfl; have hfz35_0 := blk_frozen BK105.out 0; have hfz35_1 := blk_frozen BK105.out 1; have hfz35_2 := blk_frozen BK105.out 2) | ((with_reducible refine gate_callee (f := 151) rfl ?_); refine goesL_ (some 14) rfl rfl Tryz.func151 (by kernel_rfl) rfl #[.string a0_1] rfl (by (try simp only [List.map_toArray, List.map_cons, List.map_nil]); first | done | rfl | (simp only [List.length_drop, List.length_take]; rfl)) ?_; (with_reducible refine (num_run.calls a0_1 t106 t107 _ A5.out).mono ?_); rintro e w36 ⟨rfl, hb⟩; refine ⟨_, rfl, ?_⟩; have n0_ := Aside0.mk (blk_below (g := gb105) (o := .cells #[.bool a0_0, .string a0_1, .int .i64 a0_2] 24 (0, 0)) (by (with_reducible repeat (first | refine blk_drewN ?_ _ | refine blk_drew ?_ | refine blk_alloc ?_ _)); exact BK105.out) hb); have n1_ := Aside0.mk (below_step (by repeat (first | (with_reducible first | exact HB.out | apply below_alloc | apply pw_below_drewN | apply below_drew1 | refine below_set ?_ GE105.out) | exact HB.out)) hb); clear BK105; clear HB; have BK105 := n0_; have HB := n1_; clear n0_ n1_; (try clear hb); (try clear hb2); (try clear hk); (try clear hi)))
      go_ret
      try simp only [beq_nil_isEmpty, bytesLess_gtr]
      exact ⟨by first | rfl | (simp [errW_none, errW_some] <;> rfl) | (simp [*, errW_none, errW_some] <;> rfl), by repeat (first | (with_reducible first | exact HB.out | apply below_alloc | apply pw_below_drewN | apply below_drew1 | refine below_set ?_ GE105.out) | exact HB.out)⟩
def IsS160 (w0 W : World) (g : Nat) (f0 : ByteArray) (f1 : Bool) : Prop := W.heap[g]? = some (.cells #[.string f0, .bool f1] 160 (0, 0)) ∧ w0.heap.size ≤ g
theorem IsS160.grown {w0 W : World} {g : Nat} {f0 : ByteArray} {f1 : Bool} {W1 : World} {row : Option Nat} (h : IsS160 w0 W g f0 f1) (hw : W.grownBy W1 row) (hne : some g ≠ row) : IsS160 w0 W1 g f0 f1 := by
  obtain ⟨hb, hg⟩ := h
  exact ⟨blk_grown hb hw hne, hg⟩
theorem IsS160.kept {w0 W : World} {g : Nat} {f0 : ByteArray} {f1 : Bool} {W1 : World} {S : Nat → Prop} (h : IsS160 w0 W g f0 f1) (hk : Kept W W1 S) (hne : ¬ S g) : IsS160 w0 W1 g f0 f1 := by
  obtain ⟨hb, hg⟩ := h
  exact ⟨blk_kept hb hk hne, hg⟩
theorem IsS160.below {w0 W : World} {g : Nat} {f0 : ByteArray} {f1 : Bool} {W1 : World} (h : IsS160 w0 W g f0 f1) (hw : Below W.heap.size W W1) : IsS160 w0 W1 g f0 f1 := h.grown (grown_of_below hw none) (by simp)
theorem IsS160.alloc {w0 W : World} {g : Nat} {f0 : ByteArray} {f1 : Bool} (h : IsS160 w0 W g f0 f1) (o : Obj) : IsS160 w0 (W.alloc o) g f0 f1 := h.below (below_alloc (Below.refl _ _) o)
theorem IsS160.drewN {w0 W : World} {g : Nat} {f0 : ByteArray} {f1 : Bool} (h : IsS160 w0 W g f0 f1) (m : Nat) : IsS160 w0 (W.drewN m) g f0 f1 := h
theorem IsS160.drew {w0 W : World} {g : Nat} {f0 : ByteArray} {f1 : Bool} (h : IsS160 w0 W g f0 f1) : IsS160 w0 W.drew g f0 f1 := h
theorem IsS160.apart {w0 W : World} {g : Nat} {f0 : ByteArray} {f1 : Bool} {α : Type} {d : Kd α} {e : Nat} {base : Nat} {ok : Nat → Prop} {v : Value} {xs : List α} (h : IsS160 w0 W g f0 f1) (ho : d.R e W base ok v xs) (ht : ∀ q, q ∈ e :: d.E → q ≠ 160) : d.R e W base (fun k => ok k ∧ k ≠ g) v xs := by
  obtain ⟨hb, hg⟩ := h
  exact Kd.R_types ho hb ht
theorem IsS160.lt {w0 W : World} {g : Nat} {f0 : ByteArray} {f1 : Bool} (h : IsS160 w0 W g f0 f1) : g < W.heap.size := by
  obtain ⟨hb, hg⟩ := h
  exact blk_lt hb
theorem IsS160.ge {w0 W : World} {g : Nat} {f0 : ByteArray} {f1 : Bool} (h : IsS160 w0 W g f0 f1) : w0.heap.size ≤ g := by
  obtain ⟨hb, hg⟩ := h
  exact hg
theorem IsS160.far {w0 W : World} {g : Nat} {f0 : ByteArray} {f1 : Bool} {p : Addr} (h : IsS160 w0 W g f0 f1) (hne : g ≠ p.block) (u : Value) : IsS160 w0 (W.setCell p u) g f0 f1 := by
  obtain ⟨hb, hg⟩ := h
  exact ⟨blk_far hb hne u, hg⟩
theorem cellS160_0 {W : World} {g : Nat} {f0 : ByteArray} {f1 : Bool} (h : W.heap[g]? = some (.cells #[.string f0, .bool f1] 160 (0, 0))) : W.cell? ⟨g, 0, none⟩ = some (.string f0) := (blk_cell h 0).trans rfl
theorem IsS160.set_0 {w0 W : World} {g : Nat} {f0 : ByteArray} {f1 : Bool} (h : IsS160 w0 W g f0 f1) (x : ByteArray) : IsS160 w0 (W.setCell ⟨g, 0, none⟩ (.string x)) g x f1 := by
  obtain ⟨hb, hg⟩ := h
  exact ⟨by simpa using blk_set hb 0 (.string x), hg⟩
theorem cellS160_1 {W : World} {g : Nat} {f0 : ByteArray} {f1 : Bool} (h : W.heap[g]? = some (.cells #[.string f0, .bool f1] 160 (0, 0))) : W.cell? ⟨g, 1, none⟩ = some (.bool f1) := (blk_cell h 1).trans rfl
theorem IsS160.set_1 {w0 W : World} {g : Nat} {f0 : ByteArray} {f1 : Bool} (h : IsS160 w0 W g f0 f1) (x : Bool) : IsS160 w0 (W.setCell ⟨g, 1, none⟩ (.bool x)) g f0 x := by
  obtain ⟨hb, hg⟩ := h
  exact ⟨by simpa using blk_set hb 1 (.bool x), hg⟩
def num_reader_sign.f (s0_0 : ByteArray) (s0_1 : Bool) (a1 : ByteArray) : Option (ByteArray × ByteArray × Bool) := if s0_0.toList = ([] : List UInt8) then (some ((⟨#[]⟩ : ByteArray), s0_0, s0_1)) else (if 0 ≤ 1 then (if 1 ≤ (s0_0.size : Int) then ((strings_Contains.f a1 (s0_0.extract 0 1)).bind fun t108 => (if t108 = true then (some (s0_0.extract 0 1, s0_0.extract 1 s0_0.size, s0_1)) else (some ((⟨#[]⟩ : ByteArray), s0_0, s0_1)))) else (none)) else (none))
set_option maxHeartbeats 8000000 in
set_option maxRecDepth 100000 in
theorem num_reader_sign.calls (g : Nat) (s0_0 : ByteArray) (s0_1 : Bool) (a1 : ByteArray) (r1 : ByteArray) (r2 : ByteArray) (r3 : Bool) (w0 w : World) (hI : IsS160 w0 w g s0_0 s0_1) (hB : Below w0.heap.size w0 w) (h : num_reader_sign.f s0_0 s0_1 a1 = some (r1, r2, r3)) :
    Calls Tryz.prog 127 #[.pointer (some ⟨g, 0, none⟩), .string a1] w fun e w' => e = .returned (.string r1) ∧ IsS160 w0 w' g r2 r3 ∧ Below w0.heap.size w0 w' ∧ KeepBut w w' g none := by
  have HI0 := Aside0.mk hI
  have HK := Aside0.mk (KeepBut.refl w g none)
  have HL := Aside0.mk hB.size
  clear hI
  have HW0 := Aside0.mk hB.size
  have HB := Aside0.mk hB
  clear hB
  have H : (if s0_0.toList = ([] : List UInt8) then (some ((⟨#[]⟩ : ByteArray), s0_0, s0_1)) else (if 0 ≤ 1 then (if 1 ≤ (s0_0.size : Int) then ((strings_Contains.f a1 (s0_0.extract 0 1)).bind fun t108 => (if t108 = true then (some (s0_0.extract 0 1, s0_0.extract 1 s0_0.size, s0_1)) else (some ((⟨#[]⟩ : ByteArray), s0_0, s0_1)))) else (none)) else (none))) = some (r1, r2, r3) := h
  clear h
  by_cases c3 : s0_0.toList = ([] : List UInt8)
  · rw [if_pos c3] at H
    have c3b0 : (s0_0.toList == ([] : List UInt8)) = true := beq_iff_eq.mpr c3
    have c3b7 : s0_0.toList.isEmpty = true := by rw [← beq_nil_isEmpty]; exact c3b0
    have c3b1 : (s0_0.toList != ([] : List UInt8)) = false := bne_eq_false_iff_eq.mpr c3
    clear c3
    simp only [Option.some.injEq, Prod.mk.injEq] at H
    obtain ⟨rfl, rfl, rfl⟩ := H
    obtain ⟨HGz4, hgz4⟩ := HI0.out
    have hcz4_0 := cellS160_0 HGz4
    have hcz4_1 := cellS160_1 HGz4
    have hfz4_0 := blk_frozen HGz4 0
    have hfz4_1 := blk_frozen HGz4 1
    clear HGz4 hgz4
    go_enter Tryz.func127, Tryz.ntmps127
    go_wp2
    go_ret
    try simp only [beq_nil_isEmpty, bytesLess_gtr]
    exact ⟨by first | rfl | (simp [errW_none, errW_some] <;> rfl) | (simp [*, errW_none, errW_some] <;> rfl), by repeat (first | (with_reducible first | exact HI0.out | apply IsS160.alloc | apply IsS160.drewN | apply IsS160.drew | apply IsS160.set_0 | apply IsS160.set_1) | exact HI0.out), by repeat (first | (with_reducible first | exact HB.out | apply below_alloc | apply pw_below_drewN | apply below_drew1 | refine below_set ?_ (IsS160.ge HI0.out)) | exact HB.out), by repeat (first | (with_reducible first | exact HK.out | apply KeepBut.set_ | apply keep_drewN | apply keep_drew | apply keep_alloc) | exact HK.out)⟩
  · rw [if_neg c3] at H
    have c3b0 : (s0_0.toList == ([] : List UInt8)) = false := beq_eq_false_iff_ne.mpr c3
    have c3b7 : s0_0.toList.isEmpty = false := by rw [← beq_nil_isEmpty]; exact c3b0
    have c3b1 : (s0_0.toList != ([] : List UInt8)) = true := bne_iff_ne.mpr c3
    by_cases c5 : 0 ≤ 1
    · rw [if_pos c5] at H
      have c5b0 := eq_true c5
      have c5b1 : decide (0 ≤ 1) = true := decide_eq_true c5
      clear c5
      by_cases c6 : 1 ≤ (s0_0.size : Int)
      · rw [if_pos c6] at H
        have c6b0 := eq_true c6
        have c6b1 : decide (1 ≤ (s0_0.size : Int)) = true := decide_eq_true c6
        clear c6
        replace H := Option.bind_eq_some_iff.mp H
        obtain ⟨t108, A70, H⟩ := H
        replace H : (if t108 = true then (some (s0_0.extract 0 1, s0_0.extract 1 s0_0.size, s0_1)) else (some ((⟨#[]⟩ : ByteArray), s0_0, s0_1))) = some (r1, r2, r3) := H
        have A7 := Aside0.mk A70
        clear A70
        by_cases c8 : t108 = true
        · subst c8
          have H1 : (some (s0_0.extract 0 1, s0_0.extract 1 s0_0.size, s0_1)) = some (r1, r2, r3) := by rw [if_pos rfl] at H; exact H
          clear H
          have H := H1
          clear H1
          have c9b0 := eq_true (of_decide_eq_true (by first | (with_reducible assumption) | assumption) : 0 ≤ 1)
          have c10b0 := eq_true (of_decide_eq_true (by first | (with_reducible assumption) | assumption) : 1 ≤ (s0_0.size : Int))
          have c11b0 := eq_true (of_decide_eq_true (by first | (with_reducible assumption) | assumption) : 1 ≤ (s0_0.size : Int))
          simp only [Option.some.injEq, Prod.mk.injEq] at H
          obtain ⟨rfl, rfl, rfl⟩ := H
          obtain ⟨HGz12, hgz12⟩ := HI0.out
          have hcz12_0 := cellS160_0 HGz12
          have hcz12_1 := cellS160_1 HGz12
          have hfz12_0 := blk_frozen HGz12 0
          have hfz12_1 := blk_frozen HGz12 1
          clear HGz12 hgz12
          go_enter Tryz.func127, Tryz.ntmps127
          go_wp2_with (first | (go_at_call 150; (with_reducible refine (strings_Contains.calls a1 (s0_0.extract 0 1) true _ A7.out).mono ?_); rintro e w' ⟨rfl, ⟨nd, rfl⟩⟩))
          go_ret
          try simp only [beq_nil_isEmpty, bytesLess_gtr]
          exact ⟨by first | rfl | (simp [errW_none, errW_some] <;> rfl) | (simp [*, errW_none, errW_some] <;> rfl), by repeat (first | (with_reducible first | exact HI0.out | apply IsS160.alloc | apply IsS160.drewN | apply IsS160.drew | apply IsS160.set_0 | apply IsS160.set_1) | exact HI0.out), by repeat (first | (with_reducible first | exact HB.out | apply below_alloc | apply pw_below_drewN | apply below_drew1 | refine below_set ?_ (IsS160.ge HI0.out)) | exact HB.out), by repeat (first | (with_reducible first | exact HK.out | apply KeepBut.set_ | apply keep_drewN | apply keep_drew | apply keep_alloc) | exact HK.out)⟩
        · replace c8 := Bool.eq_false_iff.mpr c8
          subst c8
          have H1 : (some ((⟨#[]⟩ : ByteArray), s0_0, s0_1)) = some (r1, r2, r3) := by rw [if_neg (show ¬ (false = true) by decide)] at H; exact H
          clear H
          have H := H1
          clear H1
          simp only [Option.some.injEq, Prod.mk.injEq] at H
          obtain ⟨rfl, rfl, rfl⟩ := H
          obtain ⟨HGz13, hgz13⟩ := HI0.out
          have hcz13_0 := cellS160_0 HGz13
          have hcz13_1 := cellS160_1 HGz13
          have hfz13_0 := blk_frozen HGz13 0
          have hfz13_1 := blk_frozen HGz13 1
          clear HGz13 hgz13
          go_enter Tryz.func127, Tryz.ntmps127
          go_wp2_with (first | (go_at_call 150; (with_reducible refine (strings_Contains.calls a1 (s0_0.extract 0 1) false _ A7.out).mono ?_); rintro e w' ⟨rfl, ⟨nd, rfl⟩⟩))
          go_ret
          try simp only [beq_nil_isEmpty, bytesLess_gtr]
          exact ⟨by first | rfl | (simp [errW_none, errW_some] <;> rfl) | (simp [*, errW_none, errW_some] <;> rfl), by repeat (first | (with_reducible first | exact HI0.out | apply IsS160.alloc | apply IsS160.drewN | apply IsS160.drew | apply IsS160.set_0 | apply IsS160.set_1) | exact HI0.out), by repeat (first | (with_reducible first | exact HB.out | apply below_alloc | apply pw_below_drewN | apply below_drew1 | refine below_set ?_ (IsS160.ge HI0.out)) | exact HB.out), by repeat (first | (with_reducible first | exact HK.out | apply KeepBut.set_ | apply keep_drewN | apply keep_drew | apply keep_alloc) | exact HK.out)⟩
      · rw [if_neg c6] at H
        exact absurd H (by simp)
    · rw [if_neg c5] at H
      exact absurd H (by simp)
def num_reader_digits.f (s0_0 : ByteArray) (s0_1 : Bool) : Option (ByteArray × ByteArray × Bool) := (num_run.f s0_0).bind fun bt109 => (if s0_1 = true then (some (bt109.1, bt109.2, true)) else (some (bt109.1, bt109.2, (bt109.1.toList == ([] : List UInt8)))))
set_option maxHeartbeats 8000000 in
set_option maxRecDepth 100000 in
theorem num_reader_digits.calls (g : Nat) (s0_0 : ByteArray) (s0_1 : Bool) (r1 : ByteArray) (r2 : ByteArray) (r3 : Bool) (w0 w : World) (hI : IsS160 w0 w g s0_0 s0_1) (hB : Below w0.heap.size w0 w) (h : num_reader_digits.f s0_0 s0_1 = some (r1, r2, r3)) :
    Calls Tryz.prog 129 #[.pointer (some ⟨g, 0, none⟩)] w fun e w' => e = .returned (.string r1) ∧ IsS160 w0 w' g r2 r3 ∧ Below w0.heap.size w0 w' ∧ KeepBut w w' g none := by
  have HI0 := Aside0.mk hI
  have HK := Aside0.mk (KeepBut.refl w g none)
  have HL := Aside0.mk hB.size
  clear hI
  have HW0 := Aside0.mk hB.size
  have HB := Aside0.mk hB
  clear hB
  have H : ((num_run.f s0_0).bind fun bt109 => (if s0_1 = true then (some (bt109.1, bt109.2, true)) else (some (bt109.1, bt109.2, (bt109.1.toList == ([] : List UInt8)))))) = some (r1, r2, r3) := h
  clear h
  replace H := Option.bind_eq_some_iff.mp H
  obtain ⟨⟨t109, t110⟩, A20, H⟩ := H
  replace H : (if s0_1 = true then (some (t109, t110, true)) else (some (t109, t110, (t109.toList == ([] : List UInt8))))) = some (r1, r2, r3) := H
  have A2 := Aside0.mk A20
  clear A20
  by_cases c3 : s0_1 = true
  · subst c3
    have H1 : (some (t109, t110, true)) = some (r1, r2, r3) := by rw [if_pos rfl] at H; exact H
    clear H
    have H := H1
    clear H1
    simp only [Option.some.injEq, Prod.mk.injEq] at H
    obtain ⟨rfl, rfl, rfl⟩ := H
    obtain ⟨HGz4, hgz4⟩ := HI0.out
    have hcz4_0 := cellS160_0 HGz4
    have hcz4_1 := cellS160_1 HGz4
    have hfz4_0 := blk_frozen HGz4 0
    have hfz4_1 := blk_frozen HGz4 1
    clear HGz4 hgz4
    go_enter Tryz.func129, Tryz.ntmps129
    go_wp2_with (first | ((with_reducible refine gate_callee (f := 151) rfl ?_); refine goesL_ (some 10) rfl rfl Tryz.func151 (by kernel_rfl) rfl #[.string s0_0] rfl (by (try simp only [List.map_toArray, List.map_cons, List.map_nil]); first | done | rfl | (simp only [List.length_drop, List.length_take]; rfl)) ?_; (with_reducible refine (num_run.calls s0_0 t109 t110 _ A2.out).mono ?_); rintro e w5 ⟨rfl, hb⟩; refine ⟨_, rfl, ?_⟩; have n0_ := Aside0.mk (IsS160.below (by repeat (first | (with_reducible first | exact HI0.out | apply IsS160.alloc | apply IsS160.drewN | apply IsS160.drew | apply IsS160.set_0 | apply IsS160.set_1) | exact HI0.out)) hb); have n1_ := Aside0.mk (KeepBut.trans (by repeat (first | (with_reducible first | exact HK.out | apply KeepBut.set_ | apply keep_drewN | apply keep_drew | apply keep_alloc) | exact HK.out)) (KeepBut.of_below hb g none) (.inl rfl)); have n2_ := Aside0.mk (below_step (by repeat (first | (with_reducible first | exact HB.out | apply below_alloc | apply pw_below_drewN | apply below_drew1 | refine below_set ?_ (IsS160.ge HI0.out)) | exact HB.out)) hb); clear HI0; clear HK; clear HB; have HI0 := n0_; have HK := n1_; have HB := n2_; clear n0_ n1_ n2_; (try clear hb); (try clear hb2); (try clear hk); (try clear hi); obtain ⟨HGz6, hgz6⟩ := HI0.out; have hcz6_0 := cellS160_0 HGz6; have hcz6_1 := cellS160_1 HGz6; have hfz6_0 := blk_frozen HGz6 0; have hfz6_1 := blk_frozen HGz6 1; clear HGz6 hgz6))
    go_ret
    try simp only [beq_nil_isEmpty, bytesLess_gtr]
    exact ⟨by first | rfl | (simp [errW_none, errW_some] <;> rfl) | (simp [*, errW_none, errW_some] <;> rfl), by repeat (first | (with_reducible first | exact HI0.out | apply IsS160.alloc | apply IsS160.drewN | apply IsS160.drew | apply IsS160.set_0 | apply IsS160.set_1) | exact HI0.out), by repeat (first | (with_reducible first | exact HB.out | apply below_alloc | apply pw_below_drewN | apply below_drew1 | refine below_set ?_ (IsS160.ge HI0.out)) | exact HB.out), by repeat (first | (with_reducible first | exact HK.out | apply KeepBut.set_ | apply keep_drewN | apply keep_drew | apply keep_alloc) | exact HK.out)⟩
  · replace c3 := Bool.eq_false_iff.mpr c3
    subst c3
    have H1 : (some (t109, t110, (t109.toList == ([] : List UInt8)))) = some (r1, r2, r3) := by rw [if_neg (show ¬ (false = true) by decide)] at H; exact H
    clear H
    have H := H1
    clear H1
    simp only [Option.some.injEq, Prod.mk.injEq] at H
    obtain ⟨rfl, rfl, rfl⟩ := H
    obtain ⟨HGz7, hgz7⟩ := HI0.out
    have hcz7_0 := cellS160_0 HGz7
    have hcz7_1 := cellS160_1 HGz7
    have hfz7_0 := blk_frozen HGz7 0
    have hfz7_1 := blk_frozen HGz7 1
    clear HGz7 hgz7
    go_enter Tryz.func129, Tryz.ntmps129
    go_wp2_with (first | ((with_reducible refine gate_callee (f := 151) rfl ?_); refine goesL_ (some 10) rfl rfl Tryz.func151 (by kernel_rfl) rfl #[.string s0_0] rfl (by (try simp only [List.map_toArray, List.map_cons, List.map_nil]); first | done | rfl | (simp only [List.length_drop, List.length_take]; rfl)) ?_; (with_reducible refine (num_run.calls s0_0 t109 t110 _ A2.out).mono ?_); rintro e w8 ⟨rfl, hb⟩; refine ⟨_, rfl, ?_⟩; have n0_ := Aside0.mk (IsS160.below (by repeat (first | (with_reducible first | exact HI0.out | apply IsS160.alloc | apply IsS160.drewN | apply IsS160.drew | apply IsS160.set_0 | apply IsS160.set_1) | exact HI0.out)) hb); have n1_ := Aside0.mk (KeepBut.trans (by repeat (first | (with_reducible first | exact HK.out | apply KeepBut.set_ | apply keep_drewN | apply keep_drew | apply keep_alloc) | exact HK.out)) (KeepBut.of_below hb g none) (.inl rfl)); have n2_ := Aside0.mk (below_step (by repeat (first | (with_reducible first | exact HB.out | apply below_alloc | apply pw_below_drewN | apply below_drew1 | refine below_set ?_ (IsS160.ge HI0.out)) | exact HB.out)) hb); clear HI0; clear HK; clear HB; have HI0 := n0_; have HK := n1_; have HB := n2_; clear n0_ n1_ n2_; (try clear hb); (try clear hb2); (try clear hk); (try clear hi); obtain ⟨HGz9, hgz9⟩ := HI0.out; have hcz9_0 := cellS160_0 HGz9; have hcz9_1 := cellS160_1 HGz9; have hfz9_0 := blk_frozen HGz9 0; have hfz9_1 := blk_frozen HGz9 1; clear HGz9 hgz9))
    go_ret
    try simp only [beq_nil_isEmpty, bytesLess_gtr]
    exact ⟨by first | rfl | (simp [errW_none, errW_some] <;> rfl) | (simp [*, errW_none, errW_some] <;> rfl), by repeat (first | (with_reducible first | exact HI0.out | apply IsS160.alloc | apply IsS160.drewN | apply IsS160.drew | apply IsS160.set_0 | apply IsS160.set_1) | exact HI0.out), by repeat (first | (with_reducible first | exact HB.out | apply below_alloc | apply pw_below_drewN | apply below_drew1 | refine below_set ?_ (IsS160.ge HI0.out)) | exact HB.out), by repeat (first | (with_reducible first | exact HK.out | apply KeepBut.set_ | apply keep_drewN | apply keep_drew | apply keep_alloc) | exact HK.out)⟩
end Go.Proofs.YtapcpndplnkfjaaGreatDoor.Pa
namespace Go.Proofs.YtapcpndplnkfjaaGreatDoor.Pa
open Go.RowKit Go.Proofs.YtapcpndplnkfjaaGreatDoorW.PrintWords Go.Proofs.YtapcpndplnkfjaaGreatDoorW.PrintLast Go.Proofs.YtapcpndplnkfjaaGreatDoorW.PrintMore
attribute [local go_sem] max2_int min2_int max_two min_two max_three min_three max_four min_four
set_option linter.unusedVariables false
set_option linter.unusedSimpArgs false
end Go.Proofs.YtapcpndplnkfjaaGreatDoor.Pa
namespace Go.Proofs.YtapcpndplnkfjaaGreatDoor
open Go.RowKit Go.Proofs.YtapcpndplnkfjaaGreatDoorW.PrintWords Pa
structure PS (w0 W : World) (s : ByteArray) (bad : Bool) (wh pa ex : ByteArray) (dn ls : Bool) : Prop where
  h0 : W.heap[w0.heap.size]? = some (.cells #[.bool false, .string ⟨#[]⟩, .int .i64 0] 24 (0, 0))
  h1 : W.heap[w0.heap.size + 1]? = some (.cells #[.string s, .bool bad] 160 (0, 0))
  h2 : W.heap[w0.heap.size + 2]? = some (.cells #[.pointer (some ⟨w0.heap.size + 1, 0, none⟩)] 158 (0, 0))
  h3 : W.heap[w0.heap.size + 3]? = some (.cells #[.string wh] 9 (0, 0))
  h4 : W.heap[w0.heap.size + 4]? = some (.cells #[.string pa] 9 (0, 0))
  h5 : W.heap[w0.heap.size + 5]? = some (.cells #[.string ex] 9 (0, 0))
  h6 : W.heap[w0.heap.size + 6]? = some (.cells #[.bool dn] 4 (0, 0))
  h7 : W.heap[w0.heap.size + 7]? = some (.cells #[.bool ls] 4 (0, 0))
  h8 : W.heap[w0.heap.size + 8]? = some (.cells #[
    .func (.func 126) #[] #[.pointer (some ⟨w0.heap.size + 2, 0, none⟩), .pointer (some ⟨w0.heap.size + 6, 0, none⟩)],
    .func (.func 128) #[] #[.pointer (some ⟨w0.heap.size + 2, 0, none⟩), .pointer (some ⟨w0.heap.size + 3, 0, none⟩)],
    .func (.func 130) #[] #[.pointer (some ⟨w0.heap.size + 2, 0, none⟩), .pointer (some ⟨w0.heap.size + 4, 0, none⟩)],
    .func (.func 131) #[] #[.pointer (some ⟨w0.heap.size + 2, 0, none⟩), .pointer (some ⟨w0.heap.size + 7, 0, none⟩), .pointer (some ⟨w0.heap.size + 5, 0, none⟩)]] 1 (0, 0))
  below : Below w0.heap.size w0 W
theorem keep_at {W W' : World} {g i : Nat} {o : Obj} (hk : KeepBut W W' g none) (h : W.heap[i]? = some o) (hi : i ≠ g) : W'.heap[i]? = some o :=
  (hk.2 i (blk_lt h) hi (by simp)).trans h
theorem PS.reader {w0 W W' : World} {s s' : ByteArray} {bad bad' : Bool} {wh pa ex : ByteArray} {dn ls : Bool} (h : PS w0 W s bad wh pa ex dn ls)
    (hk : KeepBut W W' (w0.heap.size + 1) none) (hn : IsS160 w0 W' (w0.heap.size + 1) s' bad') (hb : Below w0.heap.size w0 W') : PS w0 W' s' bad' wh pa ex dn ls :=
  ⟨keep_at hk h.h0 (by omega), hn.1, keep_at hk h.h2 (by omega), keep_at hk h.h3 (by omega), keep_at hk h.h4 (by omega), keep_at hk h.h5 (by omega), keep_at hk h.h6 (by omega), keep_at hk h.h7 (by omega), keep_at hk h.h8 (by omega), hb⟩
theorem PS.drewN {w0 W : World} {s : ByteArray} {bad : Bool} {wh pa ex : ByteArray} {dn ls : Bool} (h : PS w0 W s bad wh pa ex dn ls) (n : Nat) : PS w0 (W.drewN n) s bad wh pa ex dn ls :=
  ⟨h.h0, h.h1, h.h2, h.h3, h.h4, h.h5, h.h6, h.h7, h.h8, pw_below_drewN h.below n⟩
theorem PS.drew {w0 W : World} {s : ByteArray} {bad : Bool} {wh pa ex : ByteArray} {dn ls : Bool} (h : PS w0 W s bad wh pa ex dn ls) : PS w0 W.drew s bad wh pa ex dn ls :=
  ⟨h.h0, h.h1, h.h2, h.h3, h.h4, h.h5, h.h6, h.h7, h.h8, below_drew h.below⟩
theorem PS.set3 {w0 W : World} {s : ByteArray} {bad : Bool} {wh pa ex : ByteArray} {dn ls : Bool} (h : PS w0 W s bad wh pa ex dn ls) (x : ByteArray) :
    PS w0 (W.setCell ⟨w0.heap.size + 3, 0, none⟩ (.string x)) s bad x pa ex dn ls :=
  ⟨blk_far h.h0 (by simp) _, blk_far h.h1 (by simp) _, blk_far h.h2 (by simp) _, one_setCell h.h3, blk_far h.h4 (by simp) _, blk_far h.h5 (by simp) _, blk_far h.h6 (by simp) _, blk_far h.h7 (by simp) _, blk_far h.h8 (by simp) _, h.below.setCell (by simp) _⟩
theorem PS.set4 {w0 W : World} {s : ByteArray} {bad : Bool} {wh pa ex : ByteArray} {dn ls : Bool} (h : PS w0 W s bad wh pa ex dn ls) (x : ByteArray) :
    PS w0 (W.setCell ⟨w0.heap.size + 4, 0, none⟩ (.string x)) s bad wh x ex dn ls :=
  ⟨blk_far h.h0 (by simp) _, blk_far h.h1 (by simp) _, blk_far h.h2 (by simp) _, blk_far h.h3 (by simp) _, one_setCell h.h4, blk_far h.h5 (by simp) _, blk_far h.h6 (by simp) _, blk_far h.h7 (by simp) _, blk_far h.h8 (by simp) _, h.below.setCell (by simp) _⟩
theorem PS.set5 {w0 W : World} {s : ByteArray} {bad : Bool} {wh pa ex : ByteArray} {dn ls : Bool} (h : PS w0 W s bad wh pa ex dn ls) (x : ByteArray) :
    PS w0 (W.setCell ⟨w0.heap.size + 5, 0, none⟩ (.string x)) s bad wh pa x dn ls :=
  ⟨blk_far h.h0 (by simp) _, blk_far h.h1 (by simp) _, blk_far h.h2 (by simp) _, blk_far h.h3 (by simp) _, blk_far h.h4 (by simp) _, one_setCell h.h5, blk_far h.h6 (by simp) _, blk_far h.h7 (by simp) _, blk_far h.h8 (by simp) _, h.below.setCell (by simp) _⟩
theorem PS.set6 {w0 W : World} {s : ByteArray} {bad : Bool} {wh pa ex : ByteArray} {dn ls : Bool} (h : PS w0 W s bad wh pa ex dn ls) (x : Bool) :
    PS w0 (W.setCell ⟨w0.heap.size + 6, 0, none⟩ (.bool x)) s bad wh pa ex x ls :=
  ⟨blk_far h.h0 (by simp) _, blk_far h.h1 (by simp) _, blk_far h.h2 (by simp) _, blk_far h.h3 (by simp) _, blk_far h.h4 (by simp) _, blk_far h.h5 (by simp) _, one_setCell h.h6, blk_far h.h7 (by simp) _, blk_far h.h8 (by simp) _, h.below.setCell (by simp) _⟩
theorem PS.set7 {w0 W : World} {s : ByteArray} {bad : Bool} {wh pa ex : ByteArray} {dn ls : Bool} (h : PS w0 W s bad wh pa ex dn ls) (x : Bool) :
    PS w0 (W.setCell ⟨w0.heap.size + 7, 0, none⟩ (.bool x)) s bad wh pa ex dn x :=
  ⟨blk_far h.h0 (by simp) _, blk_far h.h1 (by simp) _, blk_far h.h2 (by simp) _, blk_far h.h3 (by simp) _, blk_far h.h4 (by simp) _, blk_far h.h5 (by simp) _, blk_far h.h6 (by simp) _, one_setCell h.h7, blk_far h.h8 (by simp) _, h.below.setCell (by simp) _⟩
theorem PS.setBad {w0 W : World} {s : ByteArray} {bad : Bool} {wh pa ex : ByteArray} {dn ls : Bool} (h : PS w0 W s bad wh pa ex dn ls) (x : Bool) :
    PS w0 (W.setCell ⟨w0.heap.size + 1, 1, none⟩ (.bool x)) s x wh pa ex dn ls :=
  ⟨blk_far h.h0 (by simp) _, by have := blk_set h.h1 1 (.bool x); simpa using this, blk_far h.h2 (by simp) _, blk_far h.h3 (by simp) _, blk_far h.h4 (by simp) _, blk_far h.h5 (by simp) _, blk_far h.h6 (by simp) _, blk_far h.h7 (by simp) _, blk_far h.h8 (by simp) _, h.below.setCell (by simp) _⟩
theorem PS.isS {w0 W : World} {s : ByteArray} {bad : Bool} {wh pa ex : ByteArray} {dn ls : Bool} (h : PS w0 W s bad wh pa ex dn ls) : IsS160 w0 W (w0.heap.size + 1) s bad := ⟨h.h1, by omega⟩
def ofL (l : List UInt8) : ByteArray := ⟨l.toArray⟩
def sgT (s l : List UInt8) : List UInt8 := match s with | [] => [] | c :: _ => if l.contains c then [c] else []
def sgR (s l : List UInt8) : List UInt8 := match s with | [] => [] | c :: t => if l.contains c then t else s
theorem idx_iff (l : List UInt8) (c : UInt8) : 0 ≤ Lib.indexByte l c ↔ l.contains c = true := by
  induction l with
  | nil => simp [Lib.indexByte]
  | cons b t ih =>
    have hg := Lib.indexByte_ge t c
    simp only [Lib.indexByte, List.contains_cons]
    by_cases e : b = c
    · subst e; simp
    · have e1 : (b == c) = false := by simpa using e
      have e2 : (c == b) = false := by simpa using fun h => e h.symm
      rw [e1, e2, Bool.false_or, ← ih]
      by_cases z : Lib.indexByte t c = -1
      · rw [z]; decide
      · have z1 : (Lib.indexByte t c == -1) = false := by simpa using z
        simp only [z1, if_false, Bool.false_eq_true]
        omega
theorem idx_contains (l : List UInt8) (c : UInt8) : decide (0 ≤ Lib.indexByte l c) = l.contains c := by
  rw [Bool.eq_iff_iff, decide_eq_true_eq]; exact idx_iff l c
theorem ofL_toList (l : List UInt8) : (ofL l).toList = l := by rw [ByteArray.toList_eq]; rfl
theorem ofL_size (l : List UInt8) : (ofL l).size = l.length := by simp [ofL, ByteArray.size]
theorem ofL_data (l : List UInt8) : (ofL l).data.toList = l := rfl
theorem ofL_ext (l : List UInt8) (a b : Nat) : (ofL l).extract a b = ofL ((l.take b).drop a) := by
  apply ByteArray.ext
  apply Array.ext'
  simp [ofL, List.drop_take]
theorem sign_f (s l : List UInt8) (bad : Bool) : num_reader_sign.f (ofL s) bad (ofL l) = some (ofL (sgT s l), ofL (sgR s l), bad) := by
  unfold num_reader_sign.f
  cases s with
  | nil => rw [if_pos (ofL_toList [])]; rfl
  | cons c t =>
    rw [if_neg (by rw [ofL_toList]; simp), if_pos (by omega), if_pos (by rw [ofL_size]; simp; omega)]
    have e1 : (ofL (c :: t)).extract 0 1 = ofL [c] := by rw [ofL_ext]; rfl
    have e2 : (ofL (c :: t)).extract 1 (ofL (c :: t)).size = ofL t := by rw [ofL_ext, ofL_size]; simp
    rw [e1, e2]
    have e3 : strings_Contains.f (ofL l) (ofL [c]) = some (l.contains c) := by
      show some _ = _
      rw [idx_contains]; rfl
    rw [e3]
    simp only [Option.bind_some, sgT, sgR]
    by_cases h : l.contains c = true
    · simp only [h, if_true]
    · simp only [h]; rfl
theorem trimLeft_dig (l : List UInt8) : Lib.trimLeftS l [48, 49, 50, 51, 52, 53, 54, 55, 56, 57] = l.dropWhile NumP.isD := by
  unfold Lib.trimLeftS
  congr 1; funext c
  rw [Bool.eq_iff_iff]; simp [NumP.isD, ← UInt8.toNat_inj]; omega
theorem run_f (s : List UInt8) (hs : s.length ≤ 9223372036854775807) : num_run.f (ofL s) = some (ofL (s.takeWhile NumP.isD), ofL (s.dropWhile NumP.isD)) := by
  unfold num_run.f
  have e : strings_TrimLeft.f (ofL s) ⟨#[48, 49, 50, 51, 52, 53, 54, 55, 56, 57]⟩ = some (ofL (s.dropWhile NumP.isD)) := by
    unfold strings_TrimLeft.f
    rw [if_pos (by decide), ofL_data]
    show some (ofL (Lib.trimLeftS s [48, 49, 50, 51, 52, 53, 54, 55, 56, 57])) = _
    rw [trimLeft_dig]
  rw [e]
  simp only [Option.bind_some, ofL_size]
  have hl : (s.takeWhile NumP.isD).length + (s.dropWhile NumP.isD).length = s.length := by rw [← List.length_append, List.takeWhile_append_dropWhile]
  have hw : wrap64 ((s.length : Int) - ((s.dropWhile NumP.isD).length : Int)) = ((s.takeWhile NumP.isD).length : Int) := by unfold wrap64; omega
  rw [hw, if_pos (by omega), if_pos (by omega), ofL_ext]
  congr 3
  have ht : ((s.takeWhile NumP.isD).length : Int).toNat = (s.takeWhile NumP.isD).length := by omega
  rw [ht, List.drop_zero]
  exact (List.prefix_iff_eq_take.1 (List.takeWhile_prefix NumP.isD)).symm
theorem digits_f (s : List UInt8) (bad : Bool) (hs : s.length ≤ 9223372036854775807) : num_reader_digits.f (ofL s) bad = some (ofL (s.takeWhile NumP.isD), ofL (s.dropWhile NumP.isD), bad || (s.takeWhile NumP.isD).isEmpty) := by
  unfold num_reader_digits.f
  rw [run_f s hs]
  simp only [Option.bind_some, ofL_toList, beq_nil_isEmpty]
  cases bad <;> rfl
set_option maxRecDepth 100000 in
set_option maxHeartbeats 1000000 in
theorem step1 (w0 W : World) (s : List UInt8) (bad : Bool) (wh pa ex : ByteArray) (dn ls : Bool) (h : PS w0 W (ofL s) bad wh pa ex dn ls) :
    Calls Tryz.prog 126 #[.pointer (some ⟨w0.heap.size + 2, 0, none⟩), .pointer (some ⟨w0.heap.size + 6, 0, none⟩)] W fun e w' => e = .returned (.tuple #[]) ∧ PS w0 w' (ofL (sgR s [45])) bad wh pa ex (!(sgT s [45]).isEmpty) ls := by
  have HS := Lib.hid h
  have c2 := cell_of_one h.h2
  clear h
  go_enter Tryz.func126, Tryz.ntmps126
  go_wp2_with fail
  refine (num_reader_sign.calls _ _ _ _ _ _ _ w0 W HS.out.isS HS.out.below (sign_f s [45] bad)).mono ?_
  rintro e w1 ⟨rfl, hI, hB, hK⟩
  have H1 := Lib.hid (HS.out.reader hK hI hB)
  clear hI hB hK
  have f6 := free_of_one H1.out.h6
  have c6 := cell_of_one H1.out.h6
  go_wp2
  go_end0
  refine ⟨rfl, ?_⟩
  rw [ofL_toList]
  exact H1.out.set6 _
theorem whole_ways (bad : Bool) (t : List UInt8) :
    ((bad || t.isEmpty) = true ∧ (bad || NumP.wholeB t) = true) ∨
    ((bad || t.isEmpty) = false ∧ t.length ≤ 1 ∧ (bad || NumP.wholeB t) = false) ∨
    ((bad || t.isEmpty) = false ∧ 1 < t.length ∧ ∃ c u, t = c :: u ∧ (bad || NumP.wholeB t) = (c == 48)) := by
  cases bad with
  | true => left; simp
  | false =>
    cases t with
    | nil => left; simp [NumP.wholeB]
    | cons c u =>
      right
      by_cases h : 1 < (c :: u).length
      · right; refine ⟨rfl, h, c, u, rfl, ?_⟩
        simp only [NumP.wholeB, h, decide_true, List.isEmpty_cons, Bool.true_and, Bool.false_or, List.head?_cons]
        rfl
      · left; exact ⟨rfl, by omega, by simp only [NumP.wholeB, h, decide_false, List.isEmpty_cons, Bool.false_and, Bool.false_or]⟩
set_option maxRecDepth 100000 in
set_option maxHeartbeats 1000000 in
theorem step2 (w0 W : World) (s : List UInt8) (bad : Bool) (wh pa ex : ByteArray) (dn ls : Bool) (hl : s.length ≤ 9223372036854775807) (h : PS w0 W (ofL s) bad wh pa ex dn ls) :
    Calls Tryz.prog 128 #[.pointer (some ⟨w0.heap.size + 2, 0, none⟩), .pointer (some ⟨w0.heap.size + 3, 0, none⟩)] W fun e w' => e = .returned (.tuple #[]) ∧
      PS w0 w' (ofL (s.dropWhile NumP.isD)) (bad || NumP.wholeB (s.takeWhile NumP.isD)) (ofL (s.takeWhile NumP.isD)) pa ex dn ls := by
  have HS := Lib.hid h
  have c2 := cell_of_one h.h2
  clear h
  have hdg := Lib.hid (digits_f s bad hl)
  have hway := whole_ways bad (s.takeWhile NumP.isD)
  have htl : (s.takeWhile NumP.isD).length ≤ 9223372036854775807 := by have := (List.takeWhile_prefix (l := s) NumP.isD).length_le; omega
  generalize s.takeWhile NumP.isD = t at *
  generalize (bad || NumP.wholeB t) = fin at *
  generalize (bad || t.isEmpty) = b1 at *
  generalize hB : ofL t = T at *
  have hsz : (T.size : Int) = t.length := by rw [← hB, ofL_size]
  rcases hway with ⟨rfl, rfl⟩ | ⟨rfl, hle, rfl⟩ | ⟨rfl, hlt, c, u, hcu, rfl⟩
  · clear hB hsz
    go_enter Tryz.func128, Tryz.ntmps128
    go_wp2_with fail
    refine (num_reader_digits.calls _ _ _ _ _ _ w0 W HS.out.isS HS.out.below hdg.out).mono ?_
    rintro e w1 ⟨rfl, hI, hB, hK⟩
    have H1 := Lib.hid (HS.out.reader hK hI hB)
    clear hI hB hK c2
    have f3 := free_of_one H1.out.h3
    have c3 := cell_of_one H1.out.h3
    go_wp2
    have H2 := Lib.hid (H1.out.set3 T)
    generalize w1.setCell { block := w0.heap.size + 3, off := 0 } (Value.string T) = W2 at H2 ⊢
    clear c3 f3
    have c2 := cell_of_one H2.out.h2
    have c10 := blk_cell H2.out.h1 0
    have c11 := blk_cell H2.out.h1 1
    have f11 := blk_frozen H2.out.h1 1
    have c3 := cell_of_one H2.out.h3
    simp at c10 c11
    go_region
    go_wp2
    go_end0
    exact ⟨rfl, (H2.out.setBad _).drew⟩
  · have hle' : decide (1 < (T.size : Int)) = false := by simp; omega
    clear hB hsz
    go_enter Tryz.func128, Tryz.ntmps128
    go_wp2_with fail
    refine (num_reader_digits.calls _ _ _ _ _ _ w0 W HS.out.isS HS.out.below hdg.out).mono ?_
    rintro e w1 ⟨rfl, hI, hB, hK⟩
    have H1 := Lib.hid (HS.out.reader hK hI hB)
    clear hI hB hK c2
    have f3 := free_of_one H1.out.h3
    have c3 := cell_of_one H1.out.h3
    go_wp2
    have H2 := Lib.hid (H1.out.set3 T)
    generalize w1.setCell { block := w0.heap.size + 3, off := 0 } (Value.string T) = W2 at H2 ⊢
    clear c3 f3
    have c2 := cell_of_one H2.out.h2
    have c10 := blk_cell H2.out.h1 0
    have c11 := blk_cell H2.out.h1 1
    have f11 := blk_frozen H2.out.h1 1
    have c3 := cell_of_one H2.out.h3
    simp at c10 c11
    go_region
    go_wp2
    go_end0
    exact ⟨rfl, (H2.out.setBad _).drew⟩
  · have hle' : decide (1 < (T.size : Int)) = true := by simp; omega
    have h0 : 0 < T.size := by omega
    have hx : ∀ h : 0 < T.size, ((T[0]'h).toNat : Int) = (c.toNat : Int) := by
      subst hcu; subst hB
      intro h; simp [ofL, ByteArray.getElem_eq_getElem_data]
    have hc : (c == 48) = ((c.toNat : Int) == 48) := by
      rw [Bool.eq_iff_iff]; simp [← UInt8.toNat_inj]; omega
    rw [hc]
    generalize (c.toNat : Int) = n at *
    clear hB hsz hcu hc
    replace h0 := eq_true h0
    go_enter Tryz.func128, Tryz.ntmps128
    go_wp2_with fail
    refine (num_reader_digits.calls _ _ _ _ _ _ w0 W HS.out.isS HS.out.below hdg.out).mono ?_
    rintro e w1 ⟨rfl, hI, hB, hK⟩
    have H1 := Lib.hid (HS.out.reader hK hI hB)
    clear hI hB hK c2
    have f3 := free_of_one H1.out.h3
    have c3 := cell_of_one H1.out.h3
    go_wp2
    have H2 := Lib.hid (H1.out.set3 T)
    generalize w1.setCell { block := w0.heap.size + 3, off := 0 } (Value.string T) = W2 at H2 ⊢
    clear c3 f3
    have c2 := cell_of_one H2.out.h2
    have c10 := blk_cell H2.out.h1 0
    have c11 := blk_cell H2.out.h1 1
    have f11 := blk_frozen H2.out.h1 1
    have c3 := cell_of_one H2.out.h3
    simp at c10 c11
    go_region
    go_wp2
    go_end0
    exact ⟨rfl, (H2.out.setBad _).drew⟩
theorem sg_dot (s : List UInt8) : (s.head? = some 46 ∧ sgT s [46] = [46] ∧ sgR s [46] = s.tail) ∨ (s.head? ≠ some 46 ∧ sgT s [46] = [] ∧ sgR s [46] = s) := by
  cases s with
  | nil => right; simp [sgT, sgR]
  | cons c t =>
    by_cases e : c = 46
    · subst e; left; simp [sgT, sgR]
    · right; simp [sgT, sgR, e]
theorem sg_e (s : List UInt8) : (NumP.isE s = true ∧ sgT s [101, 69] ≠ [] ∧ sgR s [101, 69] = s.tail) ∨ (NumP.isE s = false ∧ sgT s [101, 69] = [] ∧ sgR s [101, 69] = s) := by
  cases s with
  | nil => right; simp [sgT, sgR, NumP.isE]
  | cons c t =>
    by_cases e : c = 101 ∨ c = 69
    · left; rcases e with rfl | rfl <;> simp [sgT, sgR, NumP.isE]
    · right; obtain ⟨a, b⟩ := not_or.1 e; simp [sgT, sgR, NumP.isE, a, b]
theorem sg_s (s : List UInt8) : ((sgT s [43, 45]) == [45]) = (s.head? == some 45) ∧ sgR s [43, 45] = (if NumP.isS s then s.tail else s) := by
  cases s with
  | nil => simp [sgT, sgR, NumP.isS]
  | cons c t =>
    by_cases e : c = 43
    · subst e; simp [sgT, sgR, NumP.isS]
    · by_cases e' : c = 45
      · subst e'; simp [sgT, sgR, NumP.isS]
      · simp [sgT, sgR, NumP.isS, e, e']
set_option maxRecDepth 100000 in
set_option maxHeartbeats 1000000 in
theorem step3 (w0 W : World) (s : List UInt8) (bad : Bool) (wh ex : ByteArray) (dn ls : Bool) (hl : s.length ≤ 9223372036854775807) (h : PS w0 W (ofL s) bad wh (ofL []) ex dn ls) :
    Calls Tryz.prog 130 #[.pointer (some ⟨w0.heap.size + 2, 0, none⟩), .pointer (some ⟨w0.heap.size + 4, 0, none⟩)] W fun e w' => e = .returned (.tuple #[]) ∧
      PS w0 w' (ofL (NumP.dotR s)) (bad || NumP.dotB s) wh (ofL (NumP.dotP s)) ex dn ls := by
  have HS := Lib.hid h
  have c2 := cell_of_one h.h2
  clear h
  have hsg := Lib.hid (sign_f s [46] bad)
  rcases sg_dot s with ⟨hh, e1, e2⟩ | ⟨hh, e1, e2⟩
  · rw [e2] at hsg
    have hP : NumP.dotP s = s.tail.takeWhile NumP.isD := by simp [NumP.dotP, hh]
    have hR : NumP.dotR s = s.tail.dropWhile NumP.isD := by simp [NumP.dotR, hh]
    have hB : NumP.dotB s = (s.tail.takeWhile NumP.isD).isEmpty := by simp [NumP.dotB, NumP.dotP, hh]
    rw [hP, hR, hB]
    have hdg := Lib.hid (digits_f s.tail bad (by have := List.length_tail (l := s); omega))
    have hne : (ofL (sgT s [46])).toList.isEmpty = false := by rw [ofL_toList, e1]; rfl
    clear hP hR hB hh e1 e2
    generalize ofL (sgT s [46]) = P at *
    generalize s.tail.takeWhile NumP.isD = t at *
    generalize s.tail.dropWhile NumP.isD = u at *
    generalize ofL [] = Z at *
    generalize ofL t = T at *
    generalize (bad || t.isEmpty) = b1 at *
    go_enter Tryz.func130, Tryz.ntmps130
    go_wp2_with fail
    refine (num_reader_sign.calls _ _ _ _ _ _ _ w0 W HS.out.isS HS.out.below hsg.out).mono ?_
    rintro e w1 ⟨rfl, hI, hB, hK⟩
    have H1 := Lib.hid (HS.out.reader hK hI hB)
    clear hI hB hK c2
    have c2 := cell_of_one H1.out.h2
    go_wp2_with fail
    refine (num_reader_digits.calls _ _ _ _ _ _ w0 w1 H1.out.isS H1.out.below hdg.out).mono ?_
    rintro e w2 ⟨rfl, hI, hB, hK⟩
    have H2 := Lib.hid (H1.out.reader hK hI hB)
    clear hI hB hK c2
    have f3 := free_of_one H2.out.h4
    have c3 := cell_of_one H2.out.h4
    go_wp2
    go_end0
    exact ⟨rfl, H2.out.set4 _⟩
  · rw [e1, e2] at hsg
    have hP : NumP.dotP s = [] := by simp [NumP.dotP, hh]
    have hR : NumP.dotR s = s := by simp [NumP.dotR, hh]
    have hB : (bad || NumP.dotB s) = bad := by simp [NumP.dotB, hh]
    rw [hP, hR, hB]
    clear hP hR hB hh e1 e2
    have hne : (ofL []).toList.isEmpty = true := by rw [ofL_toList]; rfl
    generalize ofL [] = Z at *
    go_enter Tryz.func130, Tryz.ntmps130
    go_wp2_with fail
    refine (num_reader_sign.calls _ _ _ _ _ _ _ w0 W HS.out.isS HS.out.below hsg.out).mono ?_
    rintro e w1 ⟨rfl, hI, hB, hK⟩
    have H1 := Lib.hid (HS.out.reader hK hI hB)
    clear hI hB hK c2
    go_wp2
    go_end0
    exact ⟨rfl, H1.out⟩
set_option maxRecDepth 100000 in
set_option maxHeartbeats 1000000 in
theorem step4 (w0 W : World) (s : List UInt8) (bad : Bool) (wh pa : ByteArray) (dn : Bool) (hl : s.length ≤ 9223372036854775807) (h : PS w0 W (ofL s) bad wh pa (ofL []) dn false) :
    Calls Tryz.prog 131 #[.pointer (some ⟨w0.heap.size + 2, 0, none⟩), .pointer (some ⟨w0.heap.size + 7, 0, none⟩), .pointer (some ⟨w0.heap.size + 5, 0, none⟩)] W fun e w' => e = .returned (.tuple #[]) ∧
      PS w0 w' (ofL (NumP.expR s)) (bad || NumP.expB s) wh pa (ofL (NumP.expP s)) dn (NumP.expL s) := by
  have HS := Lib.hid h
  have c2 := cell_of_one h.h2
  clear h
  have hsg := Lib.hid (sign_f s [101, 69] bad)
  rcases sg_e s with ⟨hh, e1, e2⟩ | ⟨hh, e1, e2⟩
  · rw [e2] at hsg
    have hsg2 := Lib.hid (sign_f s.tail [43, 45] bad)
    obtain ⟨q1, q2⟩ := sg_s s.tail
    rw [q2] at hsg2
    change Hid (_ = some (_, ofL (NumP.expT s), _)) at hsg2
    have hP : NumP.expP s = (NumP.expT s).takeWhile NumP.isD := by simp [NumP.expP, hh]
    have hR : NumP.expR s = (NumP.expT s).dropWhile NumP.isD := by simp [NumP.expR, hh]
    have hB : NumP.expB s = ((NumP.expT s).takeWhile NumP.isD).isEmpty := by simp [NumP.expB, NumP.expP, hh]
    have hL : NumP.expL s = ((sgT s.tail [43, 45]) == [45]) := by rw [q1]; simp [NumP.expL, hh]
    rw [hP, hR, hB, hL]
    have hdg := Lib.hid (digits_f (NumP.expT s) bad (by
      have := List.length_tail (l := s); have := List.length_tail (l := s.tail)
      unfold NumP.expT; split <;> omega))
    clear hP hR hB hL hh e2 q1 q2
    have hne : (ofL (sgT s [101, 69])).toList.isEmpty = false := by rw [ofL_toList]; simpa using e1
    have hls : ((ofL (sgT s.tail [43, 45])).toList == [45]) = ((sgT s.tail [43, 45]) == [45]) := by rw [ofL_toList]
    clear e1
    generalize ofL (sgT s [101, 69]) = P at *
    generalize sgT s.tail [43, 45] = q at *
    generalize (NumP.expT s).takeWhile NumP.isD = t at *
    generalize (NumP.expT s).dropWhile NumP.isD = u at *
    generalize ofL [] = Z at *
    generalize ofL t = T at *
    generalize ofL q = Q at *
    generalize (bad || t.isEmpty) = b1 at *
    generalize hl2 : (q == [45]) = less at *
    have HLS := Lib.hid hls
    clear hls hl2
    go_enter Tryz.func131, Tryz.ntmps131
    go_wp2_with fail
    refine (num_reader_sign.calls _ _ _ _ _ _ _ w0 W HS.out.isS HS.out.below hsg.out).mono ?_
    rintro e w1 ⟨rfl, hI, hB, hK⟩
    have H1 := Lib.hid (HS.out.reader hK hI hB)
    clear hI hB hK c2
    have c2 := cell_of_one H1.out.h2
    go_wp2_with fail
    refine (num_reader_sign.calls _ _ _ _ _ _ _ w0 w1 H1.out.isS H1.out.below hsg2.out).mono ?_
    rintro e w2 ⟨rfl, hI, hB, hK⟩
    have H2 := Lib.hid (H1.out.reader hK hI hB)
    clear hI hB hK c2
    have f7 := free_of_one H2.out.h7
    have c7 := cell_of_one H2.out.h7
    have c2 := cell_of_one H2.out.h2
    go_wp2_with fail
    have H3 := Lib.hid (H2.out.set7 (Q.toList == [45]))
    generalize w2.setCell { block := w0.heap.size + 7, off := 0 } (Value.bool (Q.toList == [45])) = w3 at H3 ⊢
    clear c7 f7 c2
    rw [HLS.out] at H3
    refine (num_reader_digits.calls _ _ _ _ _ _ w0 w3 H3.out.isS H3.out.below hdg.out).mono ?_
    rintro e w4 ⟨rfl, hI, hB, hK⟩
    have H4 := Lib.hid (H3.out.reader hK hI hB)
    clear hI hB hK
    have f5 := free_of_one H4.out.h5
    have c5 := cell_of_one H4.out.h5
    go_wp2
    go_end0
    exact ⟨rfl, H4.out.set5 _⟩
  · rw [e1, e2] at hsg
    have hP : NumP.expP s = [] := by simp [NumP.expP, hh]
    have hR : NumP.expR s = s := by simp [NumP.expR, hh]
    have hB : (bad || NumP.expB s) = bad := by simp [NumP.expB, hh]
    have hL : NumP.expL s = false := by simp [NumP.expL, hh]
    rw [hP, hR, hB, hL]
    clear hP hR hB hL hh e1 e2
    have hne : (ofL []).toList.isEmpty = true := by rw [ofL_toList]; rfl
    generalize ofL [] = Z at *
    go_enter Tryz.func131, Tryz.ntmps131
    go_wp2_with fail
    refine (num_reader_sign.calls _ _ _ _ _ _ _ w0 W HS.out.isS HS.out.below hsg.out).mono ?_
    rintro e w1 ⟨rfl, hI, hB, hK⟩
    have H1 := Lib.hid (HS.out.reader hK hI hB)
    clear hI hB hK c2
    go_wp2
    go_end0
    exact ⟨rfl, H1.out⟩
end Go.Proofs.YtapcpndplnkfjaaGreatDoor
namespace Go.Proofs.YtapcpndplnkfjaaGreatDoor
open Go.RowKit Go.Proofs.YtapcpndplnkfjaaGreatDoorW.PrintWords Pa
theorem alloc_size (W : World) (o : Obj) : (W.alloc o).heap.size = W.heap.size + 1 := by
  show (W.heap.push o).size = _
  simp
theorem blk_new' (W : World) (o : Obj) (n : Nat) (h : n = W.heap.size) : (W.alloc o).heap[n]? = some o := by subst h; exact blk_new W o
theorem PS.start (w : World) (s : ByteArray) : PS w ((((((((((w.alloc (.cells #[.bool false, .string ⟨#[]⟩, .int .i64 0] 24)).alloc (.cells #[.string s, .bool false] 160)).alloc
    (.cells #[.pointer (some ⟨w.heap.size + 1, 0, none⟩)] 158)).alloc (.cells #[.string ⟨#[]⟩] 9)).alloc (.cells #[.string ⟨#[]⟩] 9)).alloc (.cells #[.string ⟨#[]⟩] 9)).alloc (.cells #[.bool false] 4)).alloc (.cells #[.bool false] 4)).alloc
    (.cells #[
    .func (.func 126) #[] #[.pointer (some ⟨w.heap.size + 1 + 1, 0, none⟩), .pointer (some ⟨w.heap.size + 1 + 1 + 1 + 1 + 1 + 1, 0, none⟩)],
    .func (.func 128) #[] #[.pointer (some ⟨w.heap.size + 1 + 1, 0, none⟩), .pointer (some ⟨w.heap.size + 1 + 1 + 1, 0, none⟩)],
    .func (.func 130) #[] #[.pointer (some ⟨w.heap.size + 1 + 1, 0, none⟩), .pointer (some ⟨w.heap.size + 1 + 1 + 1 + 1, 0, none⟩)],
    .func (.func 131) #[] #[.pointer (some ⟨w.heap.size + 1 + 1, 0, none⟩), .pointer (some ⟨w.heap.size + 1 + 1 + 1 + 1 + 1 + 1 + 1, 0, none⟩), .pointer (some ⟨w.heap.size + 1 + 1 + 1 + 1 + 1, 0, none⟩)]] 1)))
    s false ⟨#[]⟩ ⟨#[]⟩ ⟨#[]⟩ false false := by
  constructor
  all_goals repeat (first | exact Below.refl _ _ | (refine blk_new' _ _ _ ?_; simp only [alloc_size]; done) | refine blk_alloc ?_ _ | apply below_alloc)
theorem sgR_len (s l : List UInt8) : (sgR s l).length ≤ s.length := by
  cases s with
  | nil => exact Nat.le_refl _
  | cons c t => simp only [sgR]; split <;> simp
def num_Parse.f (a0 : ByteArray) : Option (Bool × ByteArray × Int × Int) :=
  if a0.size ≤ 1000000000000000000 then
    some ((NumP.parse a0.data.toList).1.1, ofL (NumP.parse a0.data.toList).1.2.1, (NumP.parse a0.data.toList).1.2.2, (NumP.parse a0.data.toList).2)
  else none
theorem sg_minus (s : List UInt8) : sgR s [45] = NumP.dropSign s ∧ (!(sgT s [45]).isEmpty) = NumP.down s := by
  cases s with
  | nil => simp [sgR, sgT, NumP.dropSign, NumP.down]
  | cons c t => by_cases e : c = 45 <;> simp [sgR, sgT, NumP.dropSign, NumP.down, e]
theorem ofL_app (a b : List UInt8) : ofL a ++ ofL b = ofL (a ++ b) := by
  apply ByteArray.ext; apply Array.ext'; simp [ofL, ByteArray.data_append]
theorem trimRight_zero (l : List UInt8) : Lib.trimRightS l [48] = NumP.rstrip l := by
  unfold Lib.trimRightS NumP.rstrip
  congr 2; funext c
  rw [Bool.eq_iff_iff]; simp [NumP.isZ]
theorem form_f (d : Bool) (D : List UInt8) (e : Int) (hD : D.length ≤ 4000000000000000000) (he : -4000000000000000000 ≤ e ∧ e ≤ 4000000000000000000) :
    num_form.f d (ofL D) e = some ((NumP.form d D e).1, ofL (NumP.form d D e).2.1, (NumP.form d D e).2.2) := by
  have e1 : strings_TrimLeft.f (ofL D) ⟨#[48]⟩ = some (ofL (NumP.lstrip D)) := by
    unfold strings_TrimLeft.f
    rw [if_pos (by decide), ofL_data]
    show some (ofL (Lib.trimLeftS D [48])) = _
    rw [trimLeft_zero]
  have hl : (NumP.lstrip D).length ≤ D.length := (List.dropWhile_suffix NumP.isZ).length_le
  have e2 : strings_TrimRight.f (ofL (NumP.lstrip D)) ⟨#[48]⟩ = some (ofL (NumP.rstrip (NumP.lstrip D))) := by
    unfold strings_TrimRight.f
    rw [if_pos ⟨⟨by decide, by rw [ofL_size]; omega⟩, by decide⟩, ofL_data]
    show some (ofL (Lib.trimRightS (NumP.lstrip D) [48])) = _
    rw [trimRight_zero]
  have hr : (NumP.rstrip (NumP.lstrip D)).length ≤ (NumP.lstrip D).length := by
    unfold NumP.rstrip
    rw [List.length_reverse]
    exact Nat.le_trans (List.dropWhile_suffix NumP.isZ).length_le (by simp)
  unfold num_form.f NumP.form
  rw [e1]; simp only [Option.bind_some]; rw [e2]; simp only [Option.bind_some, ofL_toList, ofL_size]
  by_cases h : NumP.rstrip (NumP.lstrip D) = []
  · rw [if_pos h, if_pos h]; rfl
  · rw [if_neg h, if_neg h]
    have : wrap64 (wrap64 (e + ((NumP.lstrip D).length : Int)) - ((NumP.rstrip (NumP.lstrip D)).length : Int)) = e + ((NumP.lstrip D).length : Int) - ((NumP.rstrip (NumP.lstrip D)).length : Int) := by unfold wrap64; omega
    rw [this]
theorem bt_ofL (l : List UInt8) (i : Nat) (h : i < l.length) : bt (ofL l) i = ((l[i]'h).toNat : Int) := by
  have : ((i : Int).toNat) = i := by omega
  unfold bt
  rw [dif_pos (by rw [ofL_size, this]; exact h)]
  simp [ofL, ByteArray.getElem_eq_getElem_data, this]
theorem all_drop {p : UInt8 → Bool} : ∀ (l : List UInt8), l.all p = (l.dropWhile p).isEmpty
  | [] => rfl
  | c :: t => by
    by_cases h : p c = true
    · simp [h, all_drop t]
    · simp [h]
theorem head_byte (c d : UInt8) : ((c.toNat : Int) = (d.toNat : Int)) ↔ c = d := by
  rw [Int.natCast_inj, UInt8.toNat_inj]
theorem right_f (d : Bool) (D : List UInt8) (e : Int) (hD : D.length ≤ 4000000000000000000) : num_Right.f d (ofL D) e = some (NumP.right (d, D, e)) := by
  unfold num_Right.f NumP.right
  rw [ofL_toList]
  by_cases h0 : D = []
  · subst h0
    rw [if_pos rfl, if_pos rfl]; simp
  · rw [if_neg h0, if_neg h0, run_f D (by omega)]
    simp only [Option.bind_some, ofL_toList]
    cases hR : D.dropWhile NumP.isD with
    | cons x y =>
      rw [if_neg (by simp)]
      have : D.all NumP.isD = false := by rw [all_drop, hR]; rfl
      rw [this]; simp
    | nil =>
      have hall : D.all NumP.isD = true := by rw [all_drop, hR]; rfl
      have htw : D.takeWhile NumP.isD = D := by
        have := List.takeWhile_append_dropWhile (p := NumP.isD) (l := D)
        rw [hR, List.append_nil] at this; exact this
      have hpos : 0 < D.length := by cases D with | nil => exact absurd rfl h0 | cons _ _ => simp
      have hw : wrap64 ((D.length : Int) - 1) = ((D.length - 1 : Nat) : Int) := by unfold wrap64; omega
      rw [if_pos rfl, htw, ofL_size, if_pos (by omega), hw]
      have hb0 : bt (ofL D) 0 = ((D[0]'hpos).toNat : Int) := bt_ofL D 0 hpos
      have hb1 := bt_ofL D (D.length - 1) (by omega)
      have q0 : D.head? = some D[0] := by cases D with | nil => exact absurd rfl h0 | cons _ _ => rfl
      have q1 : D.getLast? = some (D[D.length - 1]'(by omega)) := by rw [List.getLast?_eq_getElem?]; exact List.getElem?_eq_getElem _
      rw [hall, q0, q1, hb0, hb1]
      have h48 : (48 : Int) = ((48 : UInt8).toNat : Int) := rfl
      rw [h48]
      by_cases e0 : D[0] = 48
      · rw [if_pos ((head_byte _ _).2 e0), e0]; simp
      · rw [if_neg (fun z => e0 ((head_byte _ _).1 z)), if_pos (by omega), if_pos (by omega)]
        by_cases e1 : D[D.length - 1]'(by omega) = 48
        · rw [if_pos ((head_byte _ _).2 e1), e1]; simp
        · rw [if_neg (fun z => e1 ((head_byte _ _).1 z))]
          by_cases e2 : (D.length : Int) ≤ 40
          · rw [if_pos e2]
            by_cases e3 : e ≥ -999
            · rw [if_pos e3]
              have : decide (D.length ≤ 40) = true := by simp; omega
              simp [e0, e1, this, show -999 ≤ e from e3]
            · rw [if_neg e3]
              have : ¬ (-999 ≤ e) := e3
              simp [this]
          · rw [if_neg e2]
            have : ¬ D.length ≤ 40 := by omega
            simp [this]
theorem PS.below_ {w0 W W' : World} {s : ByteArray} {bad : Bool} {wh pa ex : ByteArray} {dn ls : Bool} (h : PS w0 W s bad wh pa ex dn ls) (hb : Below W.heap.size W W') : PS w0 W' s bad wh pa ex dn ls :=
  ⟨blk_below h.h0 hb, blk_below h.h1 hb, blk_below h.h2 hb, blk_below h.h3 hb, blk_below h.h4 hb, blk_below h.h5 hb, blk_below h.h6 hb, blk_below h.h7 hb, blk_below h.h8 hb, below_step h.below hb⟩
theorem expP_dig (l : List UInt8) : (NumP.expP l).all NumP.isD = true := by
  unfold NumP.expP; split
  · exact NumP.takeWhile_all _ _
  · rfl
theorem pow_bd (l : List UInt8) (h : l.all NumP.isD = true) : 0 ≤ NumP.pow l ∧ NumP.pow l ≤ 1099511627776 := by
  unfold NumP.pow
  split
  · omega
  · rename_i hl
    have hd := dropAll NumP.isZ NumP.isD _ h
    have := val_bd (NumP.lstrip l) hd (NumP.lstrip l).length (Nat.le_refl _)
    rw [List.take_length] at this
    have h2 := pow_le (NumP.lstrip l).length (by omega)
    omega
set_option maxRecDepth 100000 in
set_option maxHeartbeats 2000000 in
theorem num_Parse.bad_ (s : List UInt8) (w : World) (hs : s.length ≤ 1000000000000000000) (hok : NumP.ok s = false) :
    Calls Tryz.prog 101 #[.string (ofL s)] w fun e w' => e = .returned (.tuple #[.agg #[.bool false, .string ⟨#[]⟩, .int .i64 0], .int .i64 11]) ∧ Below w.heap.size w w' := by
  have hmf : ∀ (fn : Fn) (first cap : Array Value) (w : World), (Instr.makeFunc fn first cap).run Tryz.prog w = .ok (.func fn first cap) w := fun _ _ _ _ => rfl
  obtain ⟨m1, m2⟩ := sg_minus s
  go_enter Tryz.func101, Tryz.ntmps101
  go_wp2_with fail
  have HS := Lib.hid (PS.start w (ofL s))
  refine wp_loop_rounds 5 ?_
  rw [rounds_succ]
  generalize World.alloc _ _ = W0 at HS ⊢
  have k0 := blk_cell HS.out.h8 0
  simp at k0
  go_wp2_with fail
  refine (step1 w W0 s false _ _ _ _ _ HS.out).mono ?_
  rintro e W1 ⟨rfl, h1⟩
  have H1 := Lib.hid h1
  clear h1 k0
  have k1 := blk_cell H1.out.h8 1
  simp at k1
  go_wp2_with fail
  rw [rounds_succ]
  go_wp2_with fail
  have hl1 : (sgR s [45]).length ≤ s.length := sgR_len s _
  refine (step2 w W1 (sgR s [45]) false _ _ _ _ _ (by omega) H1.out).mono ?_
  rintro e W2 ⟨rfl, h2⟩
  have H2 := Lib.hid h2
  clear h2 k1
  have k2 := blk_cell H2.out.h8 2
  simp at k2
  go_wp2_with fail
  rw [rounds_succ]
  go_wp2_with fail
  have hl2 : ((sgR s [45]).dropWhile NumP.isD).length ≤ s.length := Nat.le_trans (List.dropWhile_suffix NumP.isD).length_le hl1
  refine (step3 w W2 _ _ _ _ _ _ (by omega) H2.out).mono ?_
  rintro e W3 ⟨rfl, h3⟩
  have H3 := Lib.hid h3
  clear h3 k2
  have k3 := blk_cell H3.out.h8 3
  simp at k3
  go_wp2_with fail
  rw [rounds_succ]
  go_wp2_with fail
  have hl3 : (NumP.dotR ((sgR s [45]).dropWhile NumP.isD)).length ≤ s.length := by
    refine Nat.le_trans ?_ hl2
    unfold NumP.dotR; split
    · have := (List.dropWhile_suffix (l := ((sgR s [45]).dropWhile NumP.isD).tail) NumP.isD).length_le
      have := List.length_tail (l := (sgR s [45]).dropWhile NumP.isD)
      omega
    · exact Nat.le_refl _
  refine (step4 w W3 _ _ _ _ _ (by omega) H3.out).mono ?_
  rintro e W4 ⟨rfl, h4⟩
  have H4 := Lib.hid h4
  clear h4 k3 HS H1 H2 H3 hl1 hl2 hl3
  go_wp2_with fail
  rw [rounds_succ]
  rw [m1, m2] at H4
  have hbad : (((false || NumP.wholeB ((NumP.dropSign s).takeWhile NumP.isD)) || NumP.dotB ((NumP.dropSign s).dropWhile NumP.isD)) || NumP.expB (NumP.dotR ((NumP.dropSign s).dropWhile NumP.isD))) = NumP.bad s := by
    rw [Bool.false_or]; rfl
  rw [hbad] at H4
  change Hid (PS w W4 (ofL (NumP.rest3 s)) _ _ _ _ _ _) at H4
  clear m1 m2 hbad
  have hE := Lib.hid (ofL_toList (NumP.rest3 s))
  unfold NumP.ok at hok
  generalize NumP.bad s = b at *
  generalize NumP.rest3 s = z at *
  have c2 : W4.cell? ⟨w.heap.size + 1 + 1, 0, none⟩ = some (.pointer (some ⟨w.heap.size + 1, 0, none⟩)) := cell_of_one H4.out.h2
  have c10 := blk_cell H4.out.h1 0
  have c11 := blk_cell H4.out.h1 1
  simp at c10 c11
  have c00 := blk_cell H4.out.h0 0
  have c01 := blk_cell H4.out.h0 1
  have c02 := blk_cell H4.out.h0 2
  have f00 := blk_frozen H4.out.h0 0
  have f01 := blk_frozen H4.out.h0 1
  have f02 := blk_frozen H4.out.h0 2
  simp at c00 c01 c02
  cases b with
  | true =>
    go_wp2
    refine bodyPost_ret (v := .tuple #[.agg #[.bool false, .string ⟨#[]⟩, .int .i64 0], .int .i64 11]) (by simp [results, Tryz.results101, go_sem, c00, c01, c02]) rfl ⟨rfl, ?_⟩
    exact ((H4.out.below.setCell (by simp) _).setCell (by simp) _).setCell (by simp) _
  | false =>
    have hz : (ofL z).toList.isEmpty = false := by rw [hE.out]; simpa using hok
    go_wp2
    refine bodyPost_ret (v := .tuple #[.agg #[.bool false, .string ⟨#[]⟩, .int .i64 0], .int .i64 11]) (by simp [results, Tryz.results101, go_sem, c00, c01, c02]) rfl ⟨rfl, ?_⟩
    exact ((H4.out.below.setCell (by simp) _).setCell (by simp) _).setCell (by simp) _
end Go.Proofs.YtapcpndplnkfjaaGreatDoor
namespace Go.Proofs.YtapcpndplnkfjaaGreatDoor
open Go.RowKit Go.Proofs.YtapcpndplnkfjaaGreatDoorW.PrintWords Pa
theorem form_len (d : Bool) (D : List UInt8) (x : Int) : (NumP.form d D x).2.1.length ≤ D.length := by
  have h1 : (NumP.lstrip D).length ≤ D.length := (List.dropWhile_suffix NumP.isZ).length_le
  have h2 : (NumP.rstrip (NumP.lstrip D)).length ≤ (NumP.lstrip D).length := by
    unfold NumP.rstrip
    rw [List.length_reverse]
    exact Nat.le_trans (List.dropWhile_suffix NumP.isZ).length_le (by simp)
  unfold NumP.form; split
  · simp [NumP.zero]
  · exact Nat.le_trans h2 h1
set_option maxRecDepth 100000 in
set_option maxHeartbeats 2000000 in
theorem num_Parse.ok_ (s : List UInt8) (w : World) (hs : s.length ≤ 1000000000000000000) (hok : NumP.ok s = true) :
    Calls Tryz.prog 101 #[.string (ofL s)] w fun e w' => e = .returned (.tuple #[.agg #[.bool (NumP.parse s).1.1, .string (ofL (NumP.parse s).1.2.1), .int .i64 (NumP.parse s).1.2.2], .int .i64 (NumP.parse s).2]) ∧ Below w.heap.size w w' := by
  have hmf : ∀ (fn : Fn) (first cap : Array Value) (w : World), (Instr.makeFunc fn first cap).run Tryz.prog w = .ok (.func fn first cap) w := fun _ _ _ _ => rfl
  obtain ⟨m1, m2⟩ := sg_minus s
  have hE := expP_dig (NumP.rest2 s)
  have hpb := pow_bd _ hE
  have hpf : num_power.f (ofL (NumP.expP (NumP.rest2 s))) = some (NumP.pow (NumP.expP (NumP.rest2 s))) := by
    unfold num_power.f; rw [ofL_data, if_pos hE]
  clear hE
  have HPF := Lib.hid hpf
  clear hpf
  have hW : (NumP.whole s).length ≤ s.length := by
    have h1 := (List.takeWhile_prefix (l := NumP.dropSign s) NumP.isD).length_le
    have h2 : (NumP.dropSign s).length ≤ s.length := by unfold NumP.dropSign; split <;> simp
    exact Nat.le_trans h1 h2
  have hP : (NumP.dotP (NumP.rest1 s)).length ≤ s.length := by
    have h1 : (NumP.rest1 s).length ≤ s.length := by
      have h1 := (List.dropWhile_suffix (l := NumP.dropSign s) NumP.isD).length_le
      have h2 : (NumP.dropSign s).length ≤ s.length := by unfold NumP.dropSign; split <;> simp
      exact Nat.le_trans h1 h2
    refine Nat.le_trans ?_ h1
    unfold NumP.dotP; split
    · have := (List.takeWhile_prefix (l := (NumP.rest1 s).tail) NumP.isD).length_le
      have := List.length_tail (l := NumP.rest1 s)
      omega
    · simp
  have hfm : ∀ x : Int, -2000000000000000000 ≤ x → x ≤ 2000000000000000000 → num_form.f (NumP.down s) (ofL (NumP.whole s) ++ ofL (NumP.dotP (NumP.rest1 s))) x = some ((NumP.form (NumP.down s) (NumP.whole s ++ NumP.dotP (NumP.rest1 s)) x).1, ofL (NumP.form (NumP.down s) (NumP.whole s ++ NumP.dotP (NumP.rest1 s)) x).2.1, (NumP.form (NumP.down s) (NumP.whole s ++ NumP.dotP (NumP.rest1 s)) x).2.2) := fun x h1 h2 => by
    rw [ofL_app]; exact form_f _ _ _ (by rw [List.length_append]; omega) ⟨by omega, by omega⟩
  have hrt : ∀ x : Int, num_Right.f (NumP.form (NumP.down s) (NumP.whole s ++ NumP.dotP (NumP.rest1 s)) x).1 (ofL (NumP.form (NumP.down s) (NumP.whole s ++ NumP.dotP (NumP.rest1 s)) x).2.1) (NumP.form (NumP.down s) (NumP.whole s ++ NumP.dotP (NumP.rest1 s)) x).2.2 = some (NumP.right (NumP.form (NumP.down s) (NumP.whole s ++ NumP.dotP (NumP.rest1 s)) x)) := fun x => by
    refine right_f _ _ _ ?_
    have := form_len (NumP.down s) (NumP.whole s ++ NumP.dotP (NumP.rest1 s)) x
    rw [List.length_append] at this; omega
  have htg : NumP.parse s = if NumP.right (NumP.num s) = true then (NumP.num s, 0) else (NumP.zero, 13) := by unfold NumP.parse; rw [if_pos hok]
  have hnm : NumP.num s = NumP.form (NumP.down s) (NumP.whole s ++ NumP.dotP (NumP.rest1 s)) ((if NumP.expL (NumP.rest2 s) = true then - NumP.pow (NumP.expP (NumP.rest2 s)) else NumP.pow (NumP.expP (NumP.rest2 s))) - ((NumP.dotP (NumP.rest1 s)).length : Int)) := rfl
  have HTG := Lib.hid htg
  have HNM := Lib.hid hnm
  have HFM := Lib.hid hfm
  have HRT := Lib.hid hrt
  clear htg hnm hfm hrt
  have hsz : ((ofL (NumP.dotP (NumP.rest1 s))).size : Int) = ((NumP.dotP (NumP.rest1 s)).length : Int) := by rw [ofL_size]
  have hcat : (ofL (NumP.whole s)).size + (ofL (NumP.dotP (NumP.rest1 s))).size ≤ 9223372036854775807 := by rw [ofL_size, ofL_size]; omega
  have HSZ := Lib.hid hsz
  clear hsz
  generalize NumP.parse s = target at *
  go_enter Tryz.func101, Tryz.ntmps101
  go_wp2_with fail
  have HS := Lib.hid (PS.start w (ofL s))
  refine wp_loop_rounds 5 ?_
  rw [rounds_succ]
  generalize World.alloc _ _ = W0 at HS ⊢
  have k0 := blk_cell HS.out.h8 0
  simp at k0
  go_wp2_with fail
  refine (step1 w W0 s false _ _ _ _ _ HS.out).mono ?_
  rintro e W1 ⟨rfl, h1⟩
  have H1 := Lib.hid h1
  clear h1 k0
  have k1 := blk_cell H1.out.h8 1
  simp at k1
  go_wp2_with fail
  rw [rounds_succ]
  go_wp2_with fail
  have hl1 : (sgR s [45]).length ≤ s.length := sgR_len s _
  refine (step2 w W1 (sgR s [45]) false _ _ _ _ _ (by omega) H1.out).mono ?_
  rintro e W2 ⟨rfl, h2⟩
  have H2 := Lib.hid h2
  clear h2 k1
  have k2 := blk_cell H2.out.h8 2
  simp at k2
  go_wp2_with fail
  rw [rounds_succ]
  go_wp2_with fail
  have hl2 : ((sgR s [45]).dropWhile NumP.isD).length ≤ s.length := Nat.le_trans (List.dropWhile_suffix NumP.isD).length_le hl1
  refine (step3 w W2 _ _ _ _ _ _ (by omega) H2.out).mono ?_
  rintro e W3 ⟨rfl, h3⟩
  have H3 := Lib.hid h3
  clear h3 k2
  have k3 := blk_cell H3.out.h8 3
  simp at k3
  go_wp2_with fail
  rw [rounds_succ]
  go_wp2_with fail
  have hl3 : (NumP.dotR ((sgR s [45]).dropWhile NumP.isD)).length ≤ s.length := by
    refine Nat.le_trans ?_ hl2
    unfold NumP.dotR; split
    · have := (List.dropWhile_suffix (l := ((sgR s [45]).dropWhile NumP.isD).tail) NumP.isD).length_le
      have := List.length_tail (l := (sgR s [45]).dropWhile NumP.isD)
      omega
    · exact Nat.le_refl _
  refine (step4 w W3 _ _ _ _ _ (by omega) H3.out).mono ?_
  rintro e W4 ⟨rfl, h4⟩
  have H4 := Lib.hid h4
  clear h4 k3 HS H1 H2 H3 hl1 hl2 hl3
  go_wp2_with fail
  rw [rounds_succ]
  rw [m1, m2] at H4
  have hbad : (((false || NumP.wholeB ((NumP.dropSign s).takeWhile NumP.isD)) || NumP.dotB ((NumP.dropSign s).dropWhile NumP.isD)) || NumP.expB (NumP.dotR ((NumP.dropSign s).dropWhile NumP.isD))) = NumP.bad s := by
    rw [Bool.false_or]; rfl
  rw [hbad] at H4
  change Hid (PS w W4 (ofL (NumP.rest3 s)) _ (ofL (NumP.whole s)) (ofL (NumP.dotP (NumP.rest1 s))) (ofL (NumP.expP (NumP.rest2 s))) (NumP.down s) (NumP.expL (NumP.rest2 s))) at H4
  clear m1 m2 hbad
  have hE := Lib.hid (ofL_toList (NumP.rest3 s))
  unfold NumP.ok at hok
  obtain ⟨hb0, hz0⟩ : NumP.bad s = false ∧ (NumP.rest3 s).isEmpty = true := by
    revert hok; cases NumP.bad s <;> cases (NumP.rest3 s).isEmpty <;> simp
  rw [hb0] at H4
  have hz : (ofL (NumP.rest3 s)).toList.isEmpty = true := by rw [hE.out]; exact hz0
  clear hb0 hz0 hE hok
  have c2 : W4.cell? ⟨w.heap.size + 1 + 1, 0, none⟩ = some (.pointer (some ⟨w.heap.size + 1, 0, none⟩)) := cell_of_one H4.out.h2
  have c10 := blk_cell H4.out.h1 0
  have c11 := blk_cell H4.out.h1 1
  simp at c10 c11
  have c00 := blk_cell H4.out.h0 0
  have c01 := blk_cell H4.out.h0 1
  have c02 := blk_cell H4.out.h0 2
  have f00 := blk_frozen H4.out.h0 0
  have f01 := blk_frozen H4.out.h0 1
  have f02 := blk_frozen H4.out.h0 2
  simp at c00 c01 c02
  have c4 : W4.cell? ⟨w.heap.size + 1 + 1 + 1 + 1 + 1, 0, none⟩ = _ := cell_of_one H4.out.h5
  go_wp2_with fail
  refine (num_power.calls _ _ _ HPF.out).mono ?_
  rintro e W5 ⟨rfl, hb⟩
  have H5 := Lib.hid (H4.out.below_ hb)
  clear hb c2 c10 c11 c00 c01 c02 f00 f01 f02 c4 hz
  have c7 : W5.cell? ⟨w.heap.size + 1 + 1 + 1 + 1 + 1 + 1 + 1, 0, none⟩ = _ := cell_of_one H5.out.h7
  have c6 : W5.cell? ⟨w.heap.size + 1 + 1 + 1 + 1 + 1 + 1, 0, none⟩ = _ := cell_of_one H5.out.h6
  have c4 : W5.cell? ⟨w.heap.size + 1 + 1 + 1 + 1, 0, none⟩ = _ := cell_of_one H5.out.h4
  have c3 : W5.cell? ⟨w.heap.size + 1 + 1 + 1, 0, none⟩ = _ := cell_of_one H5.out.h3
  obtain ⟨hp0, hp1⟩ := hpb
  generalize NumP.pow (NumP.expP (NumP.rest2 s)) = p at *
  have hps : ((ofL (NumP.dotP (NumP.rest1 s))).size : Int) ≤ 1000000000000000000 := by have := HSZ.out; omega
  have hps0 : 0 ≤ ((ofL (NumP.dotP (NumP.rest1 s))).size : Int) := Int.natCast_nonneg _
  cases hless : NumP.expL (NumP.rest2 s) with
  | true =>
    have hn : NumP.num s = NumP.form (NumP.down s) (NumP.whole s ++ NumP.dotP (NumP.rest1 s)) (-p - ((ofL (NumP.dotP (NumP.rest1 s))).size : Int)) := by
      rw [HNM.out, hless, HSZ.out]; rfl
    have hf := HFM.out (-p - ((ofL (NumP.dotP (NumP.rest1 s))).size : Int)) (by omega) (by omega)
    have hr := HRT.out (-p - ((ofL (NumP.dotP (NumP.rest1 s))).size : Int))
    rw [← hn] at hf hr
    have HF := Lib.hid hf
    have HR := Lib.hid hr
    rw [hless] at c7
    clear hf hr hn HFM HRT HNM HSZ hless HPF
    generalize NumP.num s = n at *
    obtain ⟨nd, nD, ne⟩ := n
    simp only at HF HR HTG
    cases hR : NumP.right (nd, nD, ne) with
    | true =>
      rw [hR] at HR HTG
      have HT : Hid (target = ((nd, nD, ne), 0)) := HTG.out
      clear HTG hR
      go_wp2_with fail
      refine (num_form.calls _ _ _ _ _ _ _ HF.out).mono ?_
      rintro e W6 ⟨rfl, hb⟩
      have H6 := Lib.hid (H5.out.below_ hb)
      clear hb c7 c6 c4 c3
      have f00 := blk_frozen H6.out.h0 0
      have f01 := blk_frozen H6.out.h0 1
      have f02 := blk_frozen H6.out.h0 2
      have c00 := blk_cell H6.out.h0 0
      have c01 := blk_cell H6.out.h0 1
      have c02 := blk_cell H6.out.h0 2
      simp at c00 c01 c02
      go_wp2_with fail
      have HN := Lib.hid (blk_new W6 (Obj.cells #[Value.bool nd, Value.string (ofL nD), Value.int IntKind.i64 ne] 24))
      have H7 := Lib.hid (H6.out.below_ (below_alloc (Below.refl W6.heap.size W6) (Obj.cells #[Value.bool nd, Value.string (ofL nD), Value.int IntKind.i64 ne] 24)))
      have hlt := Lib.hid (blk_lt H6.out.h0)
      generalize W6.alloc (Obj.cells #[Value.bool nd, Value.string (ofL nD), Value.int IntKind.i64 ne] 24) = W7 at HN H7 ⊢
      clear f00 f01 f02 c00 c01 c02
      refine (num_Right.calls _ _ _ _ _ HR.out).mono ?_
      rintro e W8 ⟨rfl, hb⟩
      have H8 := Lib.hid (H7.out.below_ hb)
      have HM := Lib.hid (blk_below HN.out hb)
      clear hb H7 HN
      have f00 := blk_frozen H8.out.h0 0
      have f01 := blk_frozen H8.out.h0 1
      have f02 := blk_frozen H8.out.h0 2
      have c00 := blk_cell H8.out.h0 0
      have c01 := blk_cell H8.out.h0 1
      have c02 := blk_cell H8.out.h0 2
      have d0 := blk_cell HM.out 0
      have d1 := blk_cell HM.out 1
      have d2 := blk_cell HM.out 2
      simp at c00 c01 c02 d0 d1 d2
      go_wp2
      refine bodyPost_ret (v := .tuple #[.agg #[.bool nd, .string (ofL nD), .int .i64 ne], .int .i64 0]) (by simp [results, Tryz.results101, go_sem, c00, c01, c02]) rfl ⟨?_, ?_⟩
      · rw [HT.out]
      · exact ((H8.out.below.setCell (by simp) _).setCell (by simp) _).setCell (by simp) _
    | false =>
      rw [hR] at HR HTG
      have HT : Hid (target = (NumP.zero, 13)) := HTG.out
      clear HTG hR
      go_wp2_with fail
      refine (num_form.calls _ _ _ _ _ _ _ HF.out).mono ?_
      rintro e W6 ⟨rfl, hb⟩
      have H6 := Lib.hid (H5.out.below_ hb)
      clear hb c7 c6 c4 c3
      have f00 := blk_frozen H6.out.h0 0
      have f01 := blk_frozen H6.out.h0 1
      have f02 := blk_frozen H6.out.h0 2
      have c00 := blk_cell H6.out.h0 0
      have c01 := blk_cell H6.out.h0 1
      have c02 := blk_cell H6.out.h0 2
      simp at c00 c01 c02
      go_wp2_with fail
      have HN := Lib.hid (blk_new W6 (Obj.cells #[Value.bool nd, Value.string (ofL nD), Value.int IntKind.i64 ne] 24))
      have H7 := Lib.hid (H6.out.below_ (below_alloc (Below.refl W6.heap.size W6) (Obj.cells #[Value.bool nd, Value.string (ofL nD), Value.int IntKind.i64 ne] 24)))
      have hlt := Lib.hid (blk_lt H6.out.h0)
      generalize W6.alloc (Obj.cells #[Value.bool nd, Value.string (ofL nD), Value.int IntKind.i64 ne] 24) = W7 at HN H7 ⊢
      clear f00 f01 f02 c00 c01 c02
      refine (num_Right.calls _ _ _ _ _ HR.out).mono ?_
      rintro e W8 ⟨rfl, hb⟩
      have H8 := Lib.hid (H7.out.below_ hb)
      have HM := Lib.hid (blk_below HN.out hb)
      clear hb H7 HN
      have f00 := blk_frozen H8.out.h0 0
      have f01 := blk_frozen H8.out.h0 1
      have f02 := blk_frozen H8.out.h0 2
      have c00 := blk_cell H8.out.h0 0
      have c01 := blk_cell H8.out.h0 1
      have c02 := blk_cell H8.out.h0 2
      have d0 := blk_cell HM.out 0
      have d1 := blk_cell HM.out 1
      have d2 := blk_cell HM.out 2
      simp at c00 c01 c02 d0 d1 d2
      go_wp2
      refine bodyPost_ret (v := .tuple #[.agg #[.bool false, .string ⟨#[]⟩, .int .i64 0], .int .i64 13]) (by simp [results, Tryz.results101, go_sem, c00, c01, c02]) rfl ⟨?_, ?_⟩
      · rw [HT.out]; rfl
      · exact ((H8.out.below.setCell (by simp) _).setCell (by simp) _).setCell (by simp) _
  | false =>
    have hn : NumP.num s = NumP.form (NumP.down s) (NumP.whole s ++ NumP.dotP (NumP.rest1 s)) (p - ((ofL (NumP.dotP (NumP.rest1 s))).size : Int)) := by
      rw [HNM.out, hless, HSZ.out]; rfl
    have hf := HFM.out (p - ((ofL (NumP.dotP (NumP.rest1 s))).size : Int)) (by omega) (by omega)
    have hr := HRT.out (p - ((ofL (NumP.dotP (NumP.rest1 s))).size : Int))
    rw [← hn] at hf hr
    have HF := Lib.hid hf
    have HR := Lib.hid hr
    rw [hless] at c7
    clear hf hr hn HFM HRT HNM HSZ hless HPF
    generalize NumP.num s = n at *
    obtain ⟨nd, nD, ne⟩ := n
    simp only at HF HR HTG
    cases hR : NumP.right (nd, nD, ne) with
    | true =>
      rw [hR] at HR HTG
      have HT : Hid (target = ((nd, nD, ne), 0)) := HTG.out
      clear HTG hR
      go_wp2_with fail
      refine (num_form.calls _ _ _ _ _ _ _ HF.out).mono ?_
      rintro e W6 ⟨rfl, hb⟩
      have H6 := Lib.hid (H5.out.below_ hb)
      clear hb c7 c6 c4 c3
      have f00 := blk_frozen H6.out.h0 0
      have f01 := blk_frozen H6.out.h0 1
      have f02 := blk_frozen H6.out.h0 2
      have c00 := blk_cell H6.out.h0 0
      have c01 := blk_cell H6.out.h0 1
      have c02 := blk_cell H6.out.h0 2
      simp at c00 c01 c02
      go_wp2_with fail
      have HN := Lib.hid (blk_new W6 (Obj.cells #[Value.bool nd, Value.string (ofL nD), Value.int IntKind.i64 ne] 24))
      have H7 := Lib.hid (H6.out.below_ (below_alloc (Below.refl W6.heap.size W6) (Obj.cells #[Value.bool nd, Value.string (ofL nD), Value.int IntKind.i64 ne] 24)))
      have hlt := Lib.hid (blk_lt H6.out.h0)
      generalize W6.alloc (Obj.cells #[Value.bool nd, Value.string (ofL nD), Value.int IntKind.i64 ne] 24) = W7 at HN H7 ⊢
      clear f00 f01 f02 c00 c01 c02
      refine (num_Right.calls _ _ _ _ _ HR.out).mono ?_
      rintro e W8 ⟨rfl, hb⟩
      have H8 := Lib.hid (H7.out.below_ hb)
      have HM := Lib.hid (blk_below HN.out hb)
      clear hb H7 HN
      have f00 := blk_frozen H8.out.h0 0
      have f01 := blk_frozen H8.out.h0 1
      have f02 := blk_frozen H8.out.h0 2
      have c00 := blk_cell H8.out.h0 0
      have c01 := blk_cell H8.out.h0 1
      have c02 := blk_cell H8.out.h0 2
      have d0 := blk_cell HM.out 0
      have d1 := blk_cell HM.out 1
      have d2 := blk_cell HM.out 2
      simp at c00 c01 c02 d0 d1 d2
      go_wp2
      refine bodyPost_ret (v := .tuple #[.agg #[.bool nd, .string (ofL nD), .int .i64 ne], .int .i64 0]) (by simp [results, Tryz.results101, go_sem, c00, c01, c02]) rfl ⟨?_, ?_⟩
      · rw [HT.out]
      · exact ((H8.out.below.setCell (by simp) _).setCell (by simp) _).setCell (by simp) _
    | false =>
      rw [hR] at HR HTG
      have HT : Hid (target = (NumP.zero, 13)) := HTG.out
      clear HTG hR
      go_wp2_with fail
      refine (num_form.calls _ _ _ _ _ _ _ HF.out).mono ?_
      rintro e W6 ⟨rfl, hb⟩
      have H6 := Lib.hid (H5.out.below_ hb)
      clear hb c7 c6 c4 c3
      have f00 := blk_frozen H6.out.h0 0
      have f01 := blk_frozen H6.out.h0 1
      have f02 := blk_frozen H6.out.h0 2
      have c00 := blk_cell H6.out.h0 0
      have c01 := blk_cell H6.out.h0 1
      have c02 := blk_cell H6.out.h0 2
      simp at c00 c01 c02
      go_wp2_with fail
      have HN := Lib.hid (blk_new W6 (Obj.cells #[Value.bool nd, Value.string (ofL nD), Value.int IntKind.i64 ne] 24))
      have H7 := Lib.hid (H6.out.below_ (below_alloc (Below.refl W6.heap.size W6) (Obj.cells #[Value.bool nd, Value.string (ofL nD), Value.int IntKind.i64 ne] 24)))
      have hlt := Lib.hid (blk_lt H6.out.h0)
      generalize W6.alloc (Obj.cells #[Value.bool nd, Value.string (ofL nD), Value.int IntKind.i64 ne] 24) = W7 at HN H7 ⊢
      clear f00 f01 f02 c00 c01 c02
      refine (num_Right.calls _ _ _ _ _ HR.out).mono ?_
      rintro e W8 ⟨rfl, hb⟩
      have H8 := Lib.hid (H7.out.below_ hb)
      have HM := Lib.hid (blk_below HN.out hb)
      clear hb H7 HN
      have f00 := blk_frozen H8.out.h0 0
      have f01 := blk_frozen H8.out.h0 1
      have f02 := blk_frozen H8.out.h0 2
      have c00 := blk_cell H8.out.h0 0
      have c01 := blk_cell H8.out.h0 1
      have c02 := blk_cell H8.out.h0 2
      have d0 := blk_cell HM.out 0
      have d1 := blk_cell HM.out 1
      have d2 := blk_cell HM.out 2
      simp at c00 c01 c02 d0 d1 d2
      go_wp2
      refine bodyPost_ret (v := .tuple #[.agg #[.bool false, .string ⟨#[]⟩, .int .i64 0], .int .i64 13]) (by simp [results, Tryz.results101, go_sem, c00, c01, c02]) rfl ⟨?_, ?_⟩
      · rw [HT.out]; rfl
      · exact ((H8.out.below.setCell (by simp) _).setCell (by simp) _).setCell (by simp) _
theorem ofL_of (a : ByteArray) : ofL a.data.toList = a := by cases a; simp [ofL]
theorem num_Parse.calls (a0 : ByteArray) (r1 : Bool) (r2 : ByteArray) (r3 : Int) (r4 : Int) (w : World) (h : num_Parse.f a0 = some (r1, r2, r3, r4)) :
    Calls Tryz.prog 101 #[.string a0] w fun e w' => e = .returned (.tuple #[.agg #[.bool r1, .string r2, .int .i64 r3], .int .i64 r4]) ∧ Below w.heap.size w w' := by
  unfold num_Parse.f at h
  split at h
  · rename_i hs
    simp only [Option.some.injEq, Prod.mk.injEq] at h
    obtain ⟨rfl, rfl, rfl, rfl⟩ := h
    have e := ofL_of a0
    have hl : a0.data.toList.length ≤ 1000000000000000000 := by simpa using hs
    generalize a0.data.toList = s at *
    subst e
    cases hok : NumP.ok s with
    | true => exact num_Parse.ok_ s w hl hok
    | false =>
      have : NumP.parse s = (NumP.zero, 11) := by unfold NumP.parse; rw [if_neg (by rw [hok]; simp)]
      rw [this]
      exact num_Parse.bad_ s w hl hok
  · exact absurd h (by simp)
end Go.Proofs.YtapcpndplnkfjaaGreatDoor
namespace Go.Proofs.YtapcpndplnkfjaaGreatDoor
open Go.RowKit Go.Proofs.YtapcpndplnkfjaaGreatDoorW.PrintWords Go.Proofs.YtapcpndplnkfjaaGreatDoorW.PrintLast Go.Proofs.YtapcpndplnkfjaaGreatDoorW.PrintMore
set_option linter.unusedVariables false
set_option linter.unusedSimpArgs false
structure S24 where
  f0 : Bool
  f1 : ByteArray
  f2 : Int
def z24 : S24 := ⟨false, (⟨#[]⟩ : ByteArray), (0 : Int)⟩
def k24 : Kd S24 := Kd.iso (Kd.pair Kd.bool (Kd.pair Kd.string (Kd.int .i64))) (fun x : S24 => (x.f0, x.f1, x.f2))
theorem k24_open {w : World} {x : S24} {cs : List Value} (h : k24.K w x cs) : cs = [.bool x.f0, .string x.f1, .int .i64 x.f2] := by
  obtain ⟨_, _, rfl, rfl, ⟨_, _, rfl, rfl, rfl⟩⟩ := h
  exact rfl
theorem k24_openM {w : World} {base : Nat} {ok : Nat → Prop} {x : S24} {cs : List Value} (h : k24.M w base ok x cs) : cs = [.bool x.f0, .string x.f1, .int .i64 x.f2] := by
  obtain ⟨_, _, rfl, rfl, ⟨_, _, rfl, rfl, rfl⟩⟩ := h
  exact rfl
theorem k24_mkM (w : World) (base : Nat) (ok : Nat → Prop) (x : S24)  : k24.M w base ok x [.bool x.f0, .string x.f1, .int .i64 x.f2] := ⟨[.bool x.f0], [.string x.f1, .int .i64 x.f2], rfl, rfl, ⟨[.string x.f1], [.int .i64 x.f2], rfl, rfl, rfl⟩⟩
structure S28 where
  f0 : Int
  f1 : Bool
  f2 : S24
  f3 : ByteArray
  f4 : (List S28)
  f5 : (List ByteArray)
def z28 : S28 := ⟨(0 : Int), false, z24, (⟨#[]⟩ : ByteArray), ([] : List S28), ([] : List ByteArray)⟩
def F28 (d : Kd S28) : Kd S28 := Kd.iso (Kd.pair (Kd.int .i64) (Kd.pair Kd.bool (Kd.pair k24 (Kd.pair Kd.string (Kd.pair (Kd.slice 28 d) (Kd.slice 9 Kd.string)))))) (fun x : S28 => (x.f0, x.f1, x.f2, x.f3, x.f4, x.f5))
theorem mono28 : Kd.Mono F28 := Kd.mono_iso _ (Kd.mono_pair (Kd.mono_const _) (Kd.mono_pair (Kd.mono_const _) (Kd.mono_pair (Kd.mono_const _) (Kd.mono_pair (Kd.mono_const _) (Kd.mono_pair (Kd.mono_slice 28 Kd.mono_id) (Kd.mono_const _))))))
theorem sub28 : Kd.Sub F28 [9, 28] := Kd.sub_iso _ (Kd.sub_pair (Kd.sub_const _ (by decide)) (Kd.sub_pair (Kd.sub_const _ (by decide)) (Kd.sub_pair (Kd.sub_const _ (by decide)) (Kd.sub_pair (Kd.sub_const _ (by decide)) (Kd.sub_pair (Kd.sub_slice 28 (by decide) Kd.sub_id) (Kd.sub_const _ (by decide)))))))
theorem sz28 : ∀ n, (Kd.upto F28 8 [9, 28] n).sz = 8 := Kd.upto_sz (fun _ => rfl)
def k28 : Kd S28 := Kd.fix F28 8 [9, 28] sz28 (Kd.upto_E sub28)
theorem k28_open {w : World} {x : S28} {cs : List Value} (h : k28.K w x cs) : ∃ A6 c6 A7 c7, cs = [.int .i64 x.f0, .bool x.f1, .bool x.f2.f0, .string x.f2.f1, .int .i64 x.f2.f2, .string x.f3, .slice A6 x.f4.length c6, .slice A7 x.f5.length c7] ∧ x.f4.length ≤ c6 ∧ k28.C w A6 x.f4.length x.f4 ∧ x.f5.length ≤ c7 ∧ Kd.string.C w A7 x.f5.length x.f5 := by
  obtain ⟨n, h⟩ := h
  cases n with
  | zero => exact h.elim
  | succ n =>
    obtain ⟨_, _, rfl, rfl, ⟨_, _, rfl, rfl, ⟨_, _, rfl, s2, ⟨_, _, rfl, rfl, ⟨_, _, rfl, ⟨A6, c6, rfl, l6, g6⟩, ⟨A7, c7, rfl, l7, g7⟩⟩⟩⟩⟩⟩ := h
    obtain rfl := k24_open s2
    exact ⟨A6, c6, A7, c7, rfl, l6, Kd.fix_C g6, l7, g7⟩
theorem k28_openM {w : World} {base : Nat} {ok : Nat → Prop} {x : S28} {cs : List Value} (h : k28.M w base ok x cs) : ∃ v6 v7, cs = [.int .i64 x.f0, .bool x.f1, .bool x.f2.f0, .string x.f2.f1, .int .i64 x.f2.f2, .string x.f3, v6, v7] ∧ k28.R 28 w base ok v6 x.f4 ∧ Kd.string.R 9 w base ok v7 x.f5 := by
  obtain ⟨n, h⟩ := h
  cases n with
  | zero => exact h.elim
  | succ n =>
    obtain ⟨_, _, rfl, rfl, ⟨_, _, rfl, rfl, ⟨_, _, rfl, s2, ⟨_, _, rfl, rfl, ⟨_, _, rfl, ⟨v6, rfl, g6⟩, ⟨v7, rfl, g7⟩⟩⟩⟩⟩⟩ := h
    obtain rfl := k24_openM s2
    exact ⟨v6, v7, rfl, Kd.fix_R g6, g7⟩
theorem k28_mkM (w : World) (base : Nat) (ok : Nat → Prop) (x : S28) {v6 : Value} (g6 : k28.R 28 w base ok v6 x.f4) {v7 : Value} (g7 : Kd.string.R 9 w base ok v7 x.f5) : k28.M w base ok x [.int .i64 x.f0, .bool x.f1, .bool x.f2.f0, .string x.f2.f1, .int .i64 x.f2.f2, .string x.f3, v6, v7] := by
  obtain ⟨n6, q6⟩ := Kd.fix_R_back mono28 g6
  have r6 := Kd.upto_R_le mono28 sz28 (show n6 ≤ n6 by omega) q6
  exact ⟨n6 + 1, ⟨[.int .i64 x.f0], [.bool x.f1, .bool x.f2.f0, .string x.f2.f1, .int .i64 x.f2.f2, .string x.f3, v6, v7], rfl, rfl, ⟨[.bool x.f1], [.bool x.f2.f0, .string x.f2.f1, .int .i64 x.f2.f2, .string x.f3, v6, v7], rfl, rfl, ⟨[.bool x.f2.f0, .string x.f2.f1, .int .i64 x.f2.f2], [.string x.f3, v6, v7], rfl, (k24_mkM w base ok x.f2 ), ⟨[.string x.f3], [v6, v7], rfl, rfl, ⟨[v6], [v7], rfl, ⟨v6, rfl, r6⟩, ⟨v7, rfl, g7⟩⟩⟩⟩⟩⟩⟩
def rd_T28 (xs : List S28) (i : Int) : S28 := xs.getD i.toNat z28
theorem at_T28 {w : World} {A : Option Addr} {n : Nat} {xs : List S28} (h : Kd.C k28 w A n xs) (i : Int) (h0 : 0 ≤ i) (h1 : i < n) : ∃ ad A6 c6 A7 c7, A = some ad ∧ w.cell? (ad.add (i.toNat * 8)) = some (.int .i64 (rd_T28 xs i).f0) ∧ w.cell? ⟨(ad.add (i.toNat * 8)).block, (ad.add (i.toNat * 8)).off + 1, none⟩ = some (.bool (rd_T28 xs i).f1) ∧ w.cell? ⟨(ad.add (i.toNat * 8)).block, (ad.add (i.toNat * 8)).off + 2, none⟩ = some (.bool (rd_T28 xs i).f2.f0) ∧ w.cell? ⟨(ad.add (i.toNat * 8)).block, (ad.add (i.toNat * 8)).off + 3, none⟩ = some (.string (rd_T28 xs i).f2.f1) ∧ w.cell? ⟨(ad.add (i.toNat * 8)).block, (ad.add (i.toNat * 8)).off + 4, none⟩ = some (.int .i64 (rd_T28 xs i).f2.f2) ∧ w.cell? ⟨(ad.add (i.toNat * 8)).block, (ad.add (i.toNat * 8)).off + 5, none⟩ = some (.string (rd_T28 xs i).f3) ∧ w.cell? ⟨(ad.add (i.toNat * 8)).block, (ad.add (i.toNat * 8)).off + 6, none⟩ = some (.slice A6 (rd_T28 xs i).f4.length c6) ∧ w.cell? ⟨(ad.add (i.toNat * 8)).block, (ad.add (i.toNat * 8)).off + 7, none⟩ = some (.slice A7 (rd_T28 xs i).f5.length c7) ∧ (rd_T28 xs i).f4.length ≤ c6 ∧ k28.C w A6 (rd_T28 xs i).f4.length (rd_T28 xs i).f4 ∧ (rd_T28 xs i).f5.length ≤ c7 ∧ Kd.string.C w A7 (rd_T28 xs i).f5.length (rd_T28 xs i).f5 := by
  obtain ⟨ad, c, e, _, hK, hc0⟩ := Kd.C_get h z28 i h0 h1
  have hc : ∀ j u, c[j]? = some u → w.cell? (ad.add (i.toNat * 8 + j)) = some u := hc0
  obtain ⟨A6, c6, A7, c7, rfl, l6, g6, l7, g7⟩ := k28_open hK
  exact ⟨ad, A6, c6, A7, c7, e, hc 0 _ rfl, by rw [← add_field _ _ 1 (by omega)]; exact hc 1 _ rfl, by rw [← add_field _ _ 2 (by omega)]; exact hc 2 _ rfl, by rw [← add_field _ _ 3 (by omega)]; exact hc 3 _ rfl, by rw [← add_field _ _ 4 (by omega)]; exact hc 4 _ rfl, by rw [← add_field _ _ 5 (by omega)]; exact hc 5 _ rfl, by rw [← add_field _ _ 6 (by omega)]; exact hc 6 _ rfl, by rw [← add_field _ _ 7 (by omega)]; exact hc 7 _ rfl, l6, g6, l7, g7⟩
end Go.Proofs.YtapcpndplnkfjaaGreatDoor
namespace Go.Proofs.YtapcpndplnkfjaaGreatDoor
open Go.RowKit Go.Proofs.YtapcpndplnkfjaaGreatDoorW.PrintWords Go.Proofs.YtapcpndplnkfjaaGreatDoorW.PrintLast Go.Proofs.YtapcpndplnkfjaaGreatDoorW.PrintMore
set_option linter.unusedVariables false
set_option linter.unusedSimpArgs false
namespace Js
structure S where
  s : List UInt8
  o : Int
  e : Int
structure Tabs (w : World) : Prop where
  u8 : Lib.Utf8Tabs 2 3 w
  cv : Lib.CaseVar 7 Lib.caseA w
theorem Tabs.below {w w' : World} (h : Tabs w) (k : Below w.heap.size w w') : Tabs w' := by
  refine ⟨⟨fun c hc => pw_cell_below k (h.u8.1 c hc), fun i hi => ⟨pw_cell_below k (h.u8.2 i hi).1, pw_cell_below k (h.u8.2 i hi).2⟩⟩, ?_⟩
  obtain ⟨R, oR, cap, h1, h2⟩ := h.cv
  exact ⟨R, oR, cap, pw_cell_below k h1, fun i hi => by
    obtain ⟨a, b, c, d, e⟩ := h2 i hi
    exact ⟨pw_cell_below k a, pw_cell_below k b, pw_cell_below k c, pw_cell_below k d, pw_cell_below k e⟩⟩
def TB (g : Nat) (w : World) : Prop := ∃ w0, Tabs w0 ∧ Below w0.heap.size w0 w ∧ w0.heap.size ≤ g
theorem TB.tabs {g : Nat} {w : World} (h : TB g w) : Tabs w := by obtain ⟨w0, h1, h2, _⟩ := h; exact h1.below h2
theorem TB.below {g : Nat} {w w' : World} (h : TB g w) (k : Below w.heap.size w w') : TB g w' := by obtain ⟨w0, h1, h2, h3⟩ := h; exact ⟨w0, h1, h2.trans (k.mono h2.size), h3⟩
theorem TB.grow {g : Nat} {w w' : World} {row : Option Nat} (h : TB g w) (k : w.grownBy w' row) (hr : ∀ i, row = some i → g ≤ i) : TB g w' := by
  obtain ⟨w0, h1, h2, h3⟩ := h; exact ⟨w0, h1, h2.grown k h2.size (fun i e => Nat.le_trans h3 (hr i e)), h3⟩
structure Rd (w w' : World) (g : Nat) (st : S) : Prop where
  cell : w'.heap[g]? = some (.cells #[.string (ofL st.s), .int .i64 st.o, .int .i64 st.e] 79 (0, 0))
  kp : w.grownBy w' (some g)
  gl : g < w.heap.size
  tb : TB g w'
theorem grown_trans {a b c : World} {r : Option Nat} (h : a.grownBy b r) (k : b.grownBy c r) : a.grownBy c r :=
  ⟨k.os.trans h.os, k.tape.trans h.tape, k.output.trans h.output, Nat.le_trans h.size k.size, fun i hi hr => (k.block i (Nat.lt_of_lt_of_le hi h.size) hr).trans (h.block i hi hr)⟩
theorem grown_below {a b : World} (h : Below a.heap.size a b) (r : Option Nat) : a.grownBy b r := ⟨h.os, h.tape, h.output, h.size, fun i hi _ => h.block i hi⟩
theorem grown_refl (w : World) (r : Option Nat) : w.grownBy w r := grown_below (Below.refl _ _) r
theorem grown_set (w : World) (g j : Nat) (v : Value) : w.grownBy (w.setCell ⟨g, j, none⟩ v) (some g) :=
  ⟨rfl, rfl, rfl, by simp [World.setCell], fun k _ hn => Below.heap_setCell _ _ _ _ (fun e => hn (by rw [e]))⟩
theorem Rd.trans {w w1 w2 : World} {g : Nat} {a b : S} (h : Rd w w1 g a) (k : Rd w1 w2 g b) : Rd w w2 g b := ⟨k.cell, grown_trans h.kp k.kp, h.gl, k.tb⟩
theorem Rd.lt {w w1 : World} {g : Nat} {a : S} (h : Rd w w1 g a) : g < w1.heap.size := (Array.getElem?_eq_some_iff.1 h.cell).1
theorem Rd.below {w w1 w2 : World} {g : Nat} {a : S} (h : Rd w w1 g a) (k : Below w1.heap.size w1 w2) : Rd w w2 g a := ⟨(k.block g h.lt).trans h.cell, grown_trans h.kp (grown_below k _), h.gl, h.tb.below k⟩
theorem Rd.now {w w1 : World} {g : Nat} {a : S} (h : Rd w w1 g a) : Rd w1 w1 g a := ⟨h.cell, grown_refl _ _, h.lt, h.tb⟩
theorem Rd.c0 {w w1 : World} {g : Nat} {a : S} (h : Rd w w1 g a) : w1.cell? ⟨g, 0, none⟩ = some (.string (ofL a.s)) := (blk_cell h.cell 0).trans rfl
theorem Rd.c1 {w w1 : World} {g : Nat} {a : S} (h : Rd w w1 g a) : w1.cell? ⟨g, 1, none⟩ = some (.int .i64 a.o) := (blk_cell h.cell 1).trans rfl
theorem Rd.c2 {w w1 : World} {g : Nat} {a : S} (h : Rd w w1 g a) : w1.cell? ⟨g, 2, none⟩ = some (.int .i64 a.e) := (blk_cell h.cell 2).trans rfl
theorem Rd.fz {w w1 : World} {g : Nat} {a : S} (h : Rd w w1 g a) (j : Nat) : w1.frozen? ⟨g, j, none⟩ = false := blk_frozen h.cell j
theorem Rd.s0 {w w1 : World} {g : Nat} {a : S} (h : Rd w w1 g a) (l : List UInt8) : Rd w (w1.setCell ⟨g, 0, none⟩ (.string (ofL l))) g { a with s := l } := ⟨blk_put h.cell 0 _ rfl, grown_trans h.kp (grown_set _ _ _ _), h.gl, h.tb.grow (grown_set _ _ _ _) (fun i e => Nat.le_of_eq (Option.some.inj e))⟩
theorem Rd.s1 {w w1 : World} {g : Nat} {a : S} (h : Rd w w1 g a) (x : Int) : Rd w (w1.setCell ⟨g, 1, none⟩ (.int .i64 x)) g { a with o := x } := ⟨blk_put h.cell 1 _ rfl, grown_trans h.kp (grown_set _ _ _ _), h.gl, h.tb.grow (grown_set _ _ _ _) (fun i e => Nat.le_of_eq (Option.some.inj e))⟩
theorem Rd.s2 {w w1 : World} {g : Nat} {a : S} (h : Rd w w1 g a) (x : Int) : Rd w (w1.setCell ⟨g, 2, none⟩ (.int .i64 x)) g { a with e := x } := ⟨blk_put h.cell 2 _ rfl, grown_trans h.kp (grown_set _ _ _ _), h.gl, h.tb.grow (grown_set _ _ _ _) (fun i e => Nat.le_of_eq (Option.some.inj e))⟩
theorem Rd.d {w w1 : World} {g : Nat} {a : S} (h : Rd w w1 g a) : Rd w w1.drew g a := ⟨h.cell, ⟨h.kp.os, h.kp.tape, h.kp.output, h.kp.size, h.kp.block⟩, h.gl, h.tb.grow (w := w1) (row := none) ⟨rfl, rfl, rfl, Nat.le_refl _, fun _ _ _ => rfl⟩ (fun i e => by cases e)⟩
theorem Rd.dN {w w1 : World} {g : Nat} {a : S} (h : Rd w w1 g a) (n : Nat) : Rd w (w1.drewN n) g a := ⟨h.cell, ⟨h.kp.os, h.kp.tape, h.kp.output, h.kp.size, h.kp.block⟩, h.gl, h.tb.grow (w := w1) (row := none) ⟨rfl, rfl, rfl, Nat.le_refl _, fun _ _ _ => rfl⟩ (fun i e => by cases e)⟩
def S.fail (a : S) (x : Int) : S := { a with e := if a.e = 0 then x else a.e }
def S.skip (a : S) : S := { a with s := Lib.trimLeftS a.s [32, 9, 10, 13] }
def S.took (a : S) (p : List UInt8) : Bool := Lib.hasPrefix a.skip.s p && (a.e == 0)
def S.take (a : S) (p : List UInt8) : S := if a.took p = true then { a.skip with s := Lib.trimPrefix a.skip.s p } else a.skip
def S.need (a : S) (p : List UInt8) : S := if a.took p = true then a.take p else (a.take p).fail 11
theorem fail_calls {w w1 : World} {g : Nat} {a : S} (h : Rd w w1 g a) (x : Int) : Calls Tryz.prog 36 #[.pointer (some ⟨g, 0, none⟩), .int .i64 x] w1 fun E w' => E = .returned (.tuple #[]) ∧ Rd w w' g (a.fail x) := by
  have c2 := h.c2
  have f2 := h.fz 2
  by_cases he : a.e = 0
  · have e1 : (a.e == 0) = true := by simpa using he
    have HF : Hid (a.fail x = { a with e := x }) := Lib.hid (by simp [S.fail, he])
    have H := Lib.hid h
    clear he h
    go_enter Tryz.func36, Tryz.ntmps36
    go_wp2
    go_end0
    exact ⟨rfl, by rw [HF.out]; exact H.out.s2 x⟩
  · have e1 : (a.e == 0) = false := by simpa using he
    have HF : Hid (a.fail x = a) := Lib.hid (by simp [S.fail, he])
    have H := Lib.hid h
    clear he h
    go_enter Tryz.func36, Tryz.ntmps36
    go_wp2
    go_end0
    exact ⟨rfl, by rw [HF.out]; exact H.out⟩
theorem skip_calls {w w1 : World} {g : Nat} {a : S} (h : Rd w w1 g a) : Calls Tryz.prog 35 #[.pointer (some ⟨g, 0, none⟩)] w1 fun E w' => E = .returned (.tuple #[]) ∧ Rd w w' g a.skip := by
  have c0 := h.c0
  have H := Lib.hid h
  have HT : Hid (strings_TrimLeft.f (ofL a.s) ⟨#[32, 9, 10, 13]⟩ = some (ofL a.skip.s)) := Lib.hid (by unfold strings_TrimLeft.f; rw [if_pos (by decide)]; rfl)
  clear h
  go_enter Tryz.func35, Tryz.ntmps35
  go_wp2_with fail
  refine (strings_TrimLeft.calls _ _ _ _ HT.out).mono ?_
  rintro E w2 ⟨rfl, hb⟩
  have H2 := Lib.hid (H.out.below hb)
  have c0 := H2.out.c0
  have f0 := H2.out.fz 0
  clear hb
  go_wp2
  go_end0
  exact ⟨rfl, H2.out.s0 _⟩
theorem took_calls {w w1 : World} {g : Nat} {a : S} (h : Rd w w1 g a) (p : List UInt8) : Calls Tryz.prog 117 #[.pointer (some ⟨g, 0, none⟩), .string (ofL p)] w1 fun E w' => E = .returned (.bool (a.took p)) ∧ Rd w w' g (a.take p) := by
  have H := Lib.hid h
  have HC : Hid (strings_CutPrefix.f (ofL a.skip.s) (ofL p) = some (ofL (Lib.trimPrefix a.skip.s p), Lib.hasPrefix a.skip.s p)) := Lib.hid rfl
  clear h
  go_enter Tryz.func117, Tryz.ntmps117
  go_wp2_with fail
  refine (skip_calls H.out).mono ?_
  rintro E w2 ⟨rfl, h2⟩
  have c0 := h2.c0
  have c2 := h2.c2
  have H2 := Lib.hid h2
  clear h2
  go_wp2_with fail
  refine (strings_CutPrefix.calls _ _ _ _ _ HC.out).mono ?_
  rintro E w3 ⟨rfl, ⟨n, rfl⟩⟩
  have H3 := Lib.hid (H2.out.dN n)
  clear c0 c2 HC
  have c0 := H3.out.c0
  have c2 := H3.out.c2
  have f0 := H3.out.fz 0
  have hes : a.skip.e = a.e := rfl
  generalize hp : Lib.hasPrefix a.skip.s p = hb at *
  have HP := Lib.hid hp
  clear hp
  rw [hes] at c2
  clear hes
  cases hb
  · have HT : Hid (a.took p = false ∧ a.take p = a.skip) := Lib.hid (by simp [S.took, S.take, HP.out])
    go_wp2
    go_ret
    exact ⟨by rw [HT.out.1]; rfl, by rw [HT.out.2]; exact H3.out⟩
  · by_cases he : a.e = 0
    · have e1 : (a.e == 0) = true := by simpa using he
      have HT : Hid (a.took p = true ∧ a.take p = { a.skip with s := Lib.trimPrefix a.skip.s p }) := Lib.hid (by simp [S.took, S.take, HP.out, he])
      clear he
      go_wp2
      go_ret
      exact ⟨by rw [HT.out.1]; rfl, by rw [HT.out.2]; exact H3.out.s0 _⟩
    · have e1 : (a.e == 0) = false := by simpa using he
      have HT : Hid (a.took p = false ∧ a.take p = a.skip) := Lib.hid (by simp [S.took, S.take, HP.out, he])
      clear he
      go_wp2
      go_ret
      exact ⟨by rw [HT.out.1]; rfl, by rw [HT.out.2]; exact H3.out⟩
theorem need_calls {w w1 : World} {g : Nat} {a : S} (h : Rd w w1 g a) (p : List UInt8) : Calls Tryz.prog 93 #[.pointer (some ⟨g, 0, none⟩), .string (ofL p)] w1 fun E w' => E = .returned (.tuple #[]) ∧ Rd w w' g (a.need p) := by
  have H := Lib.hid h
  clear h
  cases ht : a.took p
  · have HT : Hid (a.took p = false ∧ a.need p = (a.take p).fail 11) := Lib.hid ⟨ht, by simp [S.need, ht]⟩
    clear ht
    go_enter Tryz.func93, Tryz.ntmps93
    go_wp2_with fail
    refine (took_calls H.out p).mono ?_
    rintro E w2 ⟨rfl, h2⟩
    rw [HT.out.1]
    have H2 := Lib.hid h2
    clear h2
    go_wp2_with fail
    refine (fail_calls H2.out 11).mono ?_
    rintro E w3 ⟨rfl, h3⟩
    rw [← HT.out.2] at h3
    have H3 := Lib.hid h3
    clear h3
    go_wp2
    go_end0
    exact ⟨rfl, H3.out⟩
  · have HT : Hid (a.took p = true ∧ a.need p = a.take p) := Lib.hid ⟨ht, by simp [S.need, ht]⟩
    clear ht
    go_enter Tryz.func93, Tryz.ntmps93
    go_wp2_with fail
    refine (took_calls H.out p).mono ?_
    rintro E w2 ⟨rfl, h2⟩
    rw [HT.out.1]
    have H2 := Lib.hid h2
    clear h2
    go_wp2
    go_end0
    exact ⟨rfl, by rw [HT.out.2]; exact H2.out⟩
end Js
end Go.Proofs.YtapcpndplnkfjaaGreatDoor
namespace Go.Proofs.YtapcpndplnkfjaaGreatDoor
open Go.RowKit Go.Proofs.YtapcpndplnkfjaaGreatDoorW.PrintWords Go.Proofs.YtapcpndplnkfjaaGreatDoorW.PrintLast Go.Proofs.YtapcpndplnkfjaaGreatDoorW.PrintMore
set_option linter.unusedVariables false
set_option linter.unusedSimpArgs false
namespace Js
theorem Rd.keep {w w' : World} {g : Nat} {a : S} (h : Rd w w' g a) {k : Nat} {o : Obj} (hk : w.heap[k]? = some o) (hne : k ≠ g) : w'.heap[k]? = some o :=
  (h.kp.block k (Array.getElem?_eq_some_iff.1 hk).1 (by simpa using hne)).trans hk
def Jv (w : World) (base : Nat) (v : Value) (x : S28) : Prop := ∃ cs, v = .agg cs.toArray ∧ k28.M w base (fun _ => True) x cs
theorem Jv.mk (w : World) (base : Nat) (x : S28) {v6 v7 : Value} (g6 : k28.R 28 w base (fun _ => True) v6 x.f4) (g7 : Kd.string.R 9 w base (fun _ => True) v7 x.f5) :
    Jv w base (.agg #[.int .i64 x.f0, .bool x.f1, .bool x.f2.f0, .string x.f2.f1, .int .i64 x.f2.f2, .string x.f3, v6, v7]) x := ⟨_, rfl, k28_mkM w base _ x g6 g7⟩
theorem Jv.flat (w : World) (base : Nat) (x : S28) (h4 : x.f4 = []) (h5 : x.f5 = []) :
    Jv w base (.agg #[.int .i64 x.f0, .bool x.f1, .bool x.f2.f0, .string x.f2.f1, .int .i64 x.f2.f2, .string x.f3, .slice none 0 0, .slice none 0 0]) x :=
  Jv.mk w base x (by rw [h4]; exact Kd.R_nil _ _ _ _ _) (by rw [h5]; exact Kd.R_nil _ _ _ _ _)
theorem setRow_at {w : World} {g : Nat} {old cells : Array Value} {t : TypeId} (hg : w.heap[g]? = some (.cells old t (0, 0))) : (w.setRow g cells).heap[g]? = some (.cells cells t (0, 0)) := by
  unfold World.setRow
  rw [Array.getElem?_modify, if_pos rfl, hg]
  rfl
theorem setRow_grown (w : World) (g : Nat) (cells : Array Value) : w.grownBy (w.setRow g cells) (some g) :=
  ⟨rfl, rfl, rfl, by simp [World.setRow], fun k _ hk => by
    unfold World.setRow
    rw [Array.getElem?_modify, if_neg (fun e => hk (by rw [e]))]⟩
theorem row_event {ops : Array Oper} {rest : List Oper} {o : Oper} {a : Act} {w : World} {Q : Exit → Act → World → Prop} (hgd : o.guard = none) (ty : TypeId) (x y : Operand) (ho : o.op = .store ty x y)
    (g : Nat) (cells : Array Value) (hx : a.eval x = .pointer (some ⟨g, 0, none⟩)) (hy : a.eval y = .agg cells) (t : TypeId) (old : Array Value) (hg : w.heap[g]? = some (.cells old t (0, 0)))
    (hi : (Tryz.prog.info? ty).map (·.size) = some cells.size) (hold : old.size = cells.size) (h1 : cells.toList.all (·.oneCell') = true)
    (h : ∀ w1, w1.heap[g]? = some (.cells cells t (0, 0)) → w.grownBy w1 (some g) → wpList Tryz.prog ops Q rest (a.put o.dst undef) w1) : wpList Tryz.prog ops Q (o :: rest) a w :=
  wpList_store_row hgd ty x y ho g cells hx hy t old hg hi hold (by rw [← Array.all_toList]; exact h1) (h _ (setRow_at hg) (setRow_grown _ _ _))
theorem Rd.far {w w1 w2 : World} {g b : Nat} {a : S} (h : Rd w w1 g a) (k : w1.grownBy w2 (some b)) (hb : b ≠ g) (hw : w.heap.size ≤ b) : Rd w w2 g a :=
  ⟨(k.block g h.lt (by simpa using Ne.symm hb)).trans h.cell, ⟨k.os.trans h.kp.os, k.tape.trans h.kp.tape, k.output.trans h.kp.output, Nat.le_trans h.kp.size k.size,
    fun i hi hr => (k.block i (Nat.lt_of_lt_of_le hi h.kp.size) (by simp; omega)).trans (h.kp.block i hi hr)⟩, h.gl, h.tb.grow k (fun i e => by injection e with e; have := h.gl; omega)⟩
def zA : Array Value := #[.int .i64 0, .bool false, .bool false, .string ⟨#[]⟩, .int .i64 0, .string ⟨#[]⟩, .slice none 0 0, .slice none 0 0]
theorem null_calls {w w1 : World} {g : Nat} {a : S} (h : Rd w w1 g a) : Calls Tryz.prog 64 #[.pointer (some ⟨g, 0, none⟩)] w1 fun E w' => ∃ v, E = .returned v ∧ Jv w' w1.heap.size v z28 ∧ Rd w w' g (a.need [110, 117, 108, 108]) := by
  have H := Lib.hid h
  clear h
  go_enter Tryz.func64, Tryz.ntmps64
  go_wp2_with fail
  refine (need_calls (H.out.below (Below.alloc (Below.refl _ _) (Nat.le_refl _) _)).now _).mono ?_
  rintro E w2 ⟨rfl, h2⟩
  have HR := Lib.hid (h2.keep (blk_new w1 _) (Nat.ne_of_gt H.out.lt))
  have H2 := Lib.hid ((H.out.below (Below.alloc (Below.refl _ _) (Nat.le_refl _) _)).trans h2)
  clear h2
  go_wp2_with (refine row_event rfl 28 (.tmp 2) (.tmp 5) rfl w1.heap.size _ rfl rfl 28 _ HR.out (by kernel_rfl) rfl rfl ?_; intro w3 hr3 hk3)
  have h3 := H2.out.far hk3 (Nat.ne_of_gt H.out.lt) H.out.kp.size
  exact bodyPost_ret (results_cell_row rfl _ _ w1.heap.size 28 _ (0, 0) _ rfl hr3 Tryz.underlying28 rfl (by kernel_rfl)) rfl ⟨_, rfl, Jv.flat w3 _ z28 rfl rfl, h3⟩
theorem yes_calls {w w1 : World} {g : Nat} {a : S} (h : Rd w w1 g a) : Calls Tryz.prog 65 #[.pointer (some ⟨g, 0, none⟩)] w1 fun E w' => ∃ v, E = .returned v ∧ Jv w' w1.heap.size v (S28.mk 1 true z24 ⟨#[]⟩ [] []) ∧ Rd w w' g (a.need [116, 114, 117, 101]) := by
  have H := Lib.hid h
  clear h
  go_enter Tryz.func65, Tryz.ntmps65
  go_wp2_with fail
  refine (need_calls (H.out.below (Below.alloc (Below.refl _ _) (Nat.le_refl _) _)).now _).mono ?_
  rintro E w2 ⟨rfl, h2⟩
  have HR := Lib.hid (h2.keep (blk_new w1 _) (Nat.ne_of_gt H.out.lt))
  have H2 := Lib.hid ((H.out.below (Below.alloc (Below.refl _ _) (Nat.le_refl _) _)).trans h2)
  clear h2
  go_wp2_with (refine row_event rfl 28 (.tmp 2) (.tmp 5) rfl w1.heap.size _ rfl rfl 28 _ HR.out (by kernel_rfl) rfl rfl ?_; intro w3 hr3 hk3)
  have h3 := H2.out.far hk3 (Nat.ne_of_gt H.out.lt) H.out.kp.size
  exact bodyPost_ret (results_cell_row rfl _ _ w1.heap.size 28 _ (0, 0) _ rfl hr3 Tryz.underlying28 rfl (by kernel_rfl)) rfl ⟨_, rfl, Jv.flat w3 _ (S28.mk 1 true z24 ⟨#[]⟩ [] []) rfl rfl, h3⟩
theorem no_calls {w w1 : World} {g : Nat} {a : S} (h : Rd w w1 g a) : Calls Tryz.prog 66 #[.pointer (some ⟨g, 0, none⟩)] w1 fun E w' => ∃ v, E = .returned v ∧ Jv w' w1.heap.size v (S28.mk 1 false z24 ⟨#[]⟩ [] []) ∧ Rd w w' g (a.need [102, 97, 108, 115, 101]) := by
  have H := Lib.hid h
  clear h
  go_enter Tryz.func66, Tryz.ntmps66
  go_wp2_with fail
  refine (need_calls (H.out.below (Below.alloc (Below.refl _ _) (Nat.le_refl _) _)).now _).mono ?_
  rintro E w2 ⟨rfl, h2⟩
  have HR := Lib.hid (h2.keep (blk_new w1 _) (Nat.ne_of_gt H.out.lt))
  have H2 := Lib.hid ((H.out.below (Below.alloc (Below.refl _ _) (Nat.le_refl _) _)).trans h2)
  clear h2
  go_wp2_with (refine row_event rfl 28 (.tmp 2) (.tmp 5) rfl w1.heap.size _ rfl rfl 28 _ HR.out (by kernel_rfl) rfl rfl ?_; intro w3 hr3 hk3)
  have h3 := H2.out.far hk3 (Nat.ne_of_gt H.out.lt) H.out.kp.size
  exact bodyPost_ret (results_cell_row rfl _ _ w1.heap.size 28 _ (0, 0) _ rfl hr3 Tryz.underlying28 rfl (by kernel_rfl)) rfl ⟨_, rfl, Jv.flat w3 _ (S28.mk 1 false z24 ⟨#[]⟩ [] []) rfl rfl, h3⟩
def S.numR (a : S) : List UInt8 := Lib.trimLeftS a.s [48, 49, 50, 51, 52, 53, 54, 55, 56, 57, 43, 45, 46, 101, 69]
def S.numL (a : S) : List UInt8 := a.s.take (a.s.length - a.numR.length)
def S.numV (a : S) : S28 := let n := (NumP.parse a.numL).1; ⟨2, false, ⟨n.1, ofL n.2.1, n.2.2⟩, ⟨#[]⟩, [], []⟩
def S.numS (a : S) : S := let e := (NumP.parse a.numL).2; { (if e = 0 then a else a.fail e) with s := a.numR }
theorem numR_le (a : S) : a.numR.length ≤ a.s.length := by
  unfold S.numR Lib.trimLeftS
  exact (List.dropWhile_sublist _).length_le
set_option maxRecDepth 100000 in
set_option maxHeartbeats 2000000 in
theorem number_calls {w w1 : World} {g : Nat} {a : S} (h : Rd w w1 g a) (hl : a.s.length ≤ 1000000) : Calls Tryz.prog 70 #[.pointer (some ⟨g, 0, none⟩)] w1 fun E w' => ∃ v, E = .returned v ∧ Jv w' w1.heap.size v a.numV ∧ Rd w w' g a.numS := by
  have H := Lib.hid h
  have c0 := h.c0
  have HT : Hid (strings_TrimLeft.f (ofL a.s) ⟨#[48, 49, 50, 51, 52, 53, 54, 55, 56, 57, 43, 45, 46, 101, 69]⟩ = some (ofL a.numR)) := Lib.hid (by unfold strings_TrimLeft.f; rw [if_pos (by decide)]; rfl)
  clear h
  have ca : ∀ o, (w1.alloc o).cell? ⟨g, 0, none⟩ = some (.string (ofL a.s)) := fun o => (H.out.below (Below.alloc (Below.refl _ _) (Nat.le_refl _) o)).c0
  go_enter Tryz.func70, Tryz.ntmps70
  go_wp2_with fail
  refine (strings_TrimLeft.calls _ _ _ _ HT.out).mono ?_
  rintro E w2 ⟨rfl, hb2⟩
  have HR := Lib.hid ((hb2.block w1.heap.size (by simp)).trans (blk_new w1 _))
  have H2 := Lib.hid ((H.out.below (Below.alloc (Below.refl _ _) (Nat.le_refl _) _)).below hb2)
  have hlt : w1.heap.size < w2.heap.size := Nat.lt_of_lt_of_le (by simp) hb2.size
  have HLT := Lib.hid hlt
  have HP : Hid (num_Parse.f (ofL a.numL) = some ((NumP.parse a.numL).1.1, ofL (NumP.parse a.numL).1.2.1, (NumP.parse a.numL).1.2.2, (NumP.parse a.numL).2)) := Lib.hid (by
    unfold num_Parse.f
    have : a.numL.length ≤ a.s.length := List.length_take_le' _ _
    rw [if_pos (by rw [ofL_size]; omega), ofL_data])
  have HX : Hid ((ofL a.s).extract 0 ((ofL a.s).size - (ofL a.numR).size) = ofL a.numL) := Lib.hid (by
    rw [ofL_ext, ofL_size, ofL_size]; simp [S.numL])
  have hL : (ofL a.s).size ≤ 1000000 := by rw [ofL_size]; exact hl
  have hR : (ofL a.numR).size ≤ (ofL a.s).size := by rw [ofL_size, ofL_size]; exact numR_le a
  clear c0 ca HT hb2 hlt hl
  have c0 := H2.out.c0
  go_wp2_with fail
  generalize hAA : ofL a.s = A at *
  generalize hBB : ofL a.numR = B at *
  have HAB := Lib.hid (And.intro hAA hBB)
  clear hAA hBB
  go_cut [4, 5] (fun s4 s5 wx => ∃ b, w1.heap.size < b ∧ s4 = .pointer (some ⟨b, 0, none⟩) ∧ s5 = .int .i64 (NumP.parse a.numL).2 ∧ wx.heap[b]? = some (.cells #[.bool (NumP.parse a.numL).1.1, .string (ofL (NumP.parse a.numL).1.2.1), .int .i64 (NumP.parse a.numL).1.2.2] 24 (0, 0)) ∧ Below w2.heap.size w2 wx)
  case first =>
    have w0 : IntKind.i64.wrap ((A.size : Int) - (B.size : Int)) = (A.size : Int) - (B.size : Int) := IntWalk.i64_in _ (by omega)
    have w00 : (0 : Int) ≤ (A.size : Int) - (B.size : Int) := by omega
    have w01 : (A.size : Int) - (B.size : Int) ≤ (A.size : Int) := by omega
    have w02 : ((A.size : Int) - (B.size : Int)).toNat = A.size - B.size := by omega
    have hc : ∀ w3, Below w2.drew.heap.size w2.drew w3 → w3.cell? ⟨g, 0, none⟩ = some (.string A) := fun w3 hb => (hb.cell (p := ⟨g, 0, none⟩) H2.out.lt).trans c0
    have HC := Lib.hid hc
    clear hc
    have HCS : Hid (∀ (W : World) (v0 v1 v2 : Value), (((W.setCell ⟨w2.heap.size, 0, none⟩ v0).setCell ⟨w2.heap.size, 1, none⟩ v1).setCell ⟨w2.heap.size, 2, none⟩ v2).cell? ⟨g, 0, none⟩ = W.cell? ⟨g, 0, none⟩) :=
      Lib.hid (fun W v0 v1 v2 => World.cell?_of_block (((Below.heap_setCell _ _ _ _ (Nat.ne_of_lt H2.out.lt)).trans (Below.heap_setCell _ _ _ _ (Nat.ne_of_lt H2.out.lt))).trans (Below.heap_setCell _ _ _ _ (Nat.ne_of_lt H2.out.lt))))
    have HQ : Hid (∀ w5, Below (w2.drew.alloc (.cells #[.bool false, .string ⟨#[]⟩, .int .i64 0] 24)).heap.size (w2.drew.alloc (.cells #[.bool false, .string ⟨#[]⟩, .int .i64 0] 24)) w5 →
        w5.cell? ⟨w2.heap.size, 0, none⟩ = some (.bool false) ∧ w5.cell? ⟨w2.heap.size, 1, none⟩ = some (.string ⟨#[]⟩) ∧ w5.cell? ⟨w2.heap.size, 2, none⟩ = some (.int .i64 0) ∧
        w5.frozen? ⟨w2.heap.size, 0, none⟩ = false ∧ w5.frozen? ⟨w2.heap.size, 1, none⟩ = false ∧ w5.frozen? ⟨w2.heap.size, 2, none⟩ = false) := Lib.hid (fun w5 hb => by
      have q := (hb.block w2.heap.size (by simp)).trans (blk_new w2.drew _)
      exact ⟨(blk_cell q 0).trans rfl, (blk_cell q 1).trans rfl, (blk_cell q 2).trans rfl, blk_frozen q 0, blk_frozen q 1, blk_frozen q 2⟩)
    go_region_held3 (fun w' => w'.cell? ⟨g, 0, none⟩ = some (.string A)) (first | go_keep | exact c0 | exact HC.out _ hb5 | exact HC.out _ (hb5.alloc hb5.size _) | exact HC.out _ ((Below.refl _ _).alloc (Nat.le_refl _) _) | exact (HCS.out _ _ _ _).trans (HC.out _ (((Below.refl _ _).alloc (Nat.le_refl _) _).trans (hb5.mono (Below.size ((Below.refl _ _).alloc (Nat.le_refl _) _))))) | exact HC.out _ (((Below.refl _ _).alloc (Nat.le_refl _) _).trans (hb5.mono (Below.size ((Below.refl _ _).alloc (Nat.le_refl _) _))))) (first | (go_at_call 101; rw [HX.out]; refine (num_Parse.calls _ _ _ _ _ _ HP.out).mono ?_; rintro E w5 ⟨rfl, hb5⟩; have qq := HQ.out _ hb5; obtain ⟨q0, q1, q2, f0, f1, f2⟩ := qq) | (go_at_call 101; rw [HX.out]; refine (num_Parse.calls _ _ _ _ _ _ HP.out).mono ?_; rintro E w5 ⟨rfl, hb5⟩))
    · go_wp2
      go_meet
      have hb : Below w2.heap.size w2 w5 := (Below.refl _ _).drew.trans hb5
      exact ⟨w5.heap.size, Nat.lt_of_lt_of_le HLT.out hb.size, rfl, rfl, blk_new _ _, hb.alloc hb.size _⟩
    · have q := (hb5.block w2.heap.size (by simp)).trans (blk_new w2.drew _)
      have hb : Below w2.heap.size w2 w5 := (((Below.refl _ _).alloc (Nat.le_refl _) _).drew).trans (hb5.mono (by simp))
      have HQ5 := Lib.hid q
      have HB5 := Lib.hid hb
      clear q hb hb5 q0 q1 q2 f0 f1 f2
      go_wp2
      go_meet
      exact ⟨w2.heap.size, HLT.out, rfl, rfl, blk_put (blk_put (blk_put HQ5.out 0 _ rfl) 1 _ rfl) 2 _ rfl, ((HB5.out.setCell (by simp) _).setCell (by simp) _).setCell (by simp) _⟩
  case rest =>
    obtain ⟨b, hb1, rfl, rfl, hb2, hb3⟩ := hcut
    have H3 := Lib.hid (H2.out.below hb3)
    have HR3 := Lib.hid ((hb3.block _ HLT.out).trans HR.out)
    have HB3 := Lib.hid hb2
    clear hb2 hb3 c0
    obtain ⟨e, he⟩ : ∃ e, (NumP.parse a.numL).2 = e := ⟨_, rfl⟩
    rw [he]
    have HE := Lib.hid he
    clear he
    by_cases he0 : e = 0
    · have e1 : (e != 0) = false := by simp [he0]
      have HNS : Hid (a.numS = { a with s := a.numR }) := Lib.hid (by unfold S.numS; rw [HE.out, he0]; rfl)
      clear he0
      have H4 := Lib.hid H3.out
      have hr4 := HR3.out
      have hb4 := HB3.out
      have HR5 := Lib.hid ((Below.heap_setCell wc ⟨g, 0, none⟩ (.string B) w1.heap.size (Nat.ne_of_gt H.out.lt)).trans hr4)
      have HB5 := Lib.hid ((Below.heap_setCell wc ⟨g, 0, none⟩ (.string B) b (by have := H.out.lt; show b ≠ g; omega)).trans hb4)
      have c0 := H4.out.c0
      have f0 := H4.out.fz 0
      clear hr4 hb4
      go_wp2_with (first | (refine wpList_load_row rfl 24 (.tmp 4) rfl b rfl 24 _ (0, 0) _ HB5.out Tryz.underlying24 rfl (by kernel_rfl) ?_) | (refine row_event rfl 28 (.tmp 2) (.tmp 38) rfl w1.heap.size _ rfl rfl 28 _ HR5.out (by kernel_rfl) rfl rfl ?_; intro w6 hr6 hk6))
      have h6 := (show Rd w (wc.setCell ⟨g, 0, none⟩ (.string B)) g a.numS from by rw [HNS.out, ← HAB.out.2]; exact H4.out.s0 _).far hk6 (Nat.ne_of_gt H.out.lt) H.out.kp.size
      exact bodyPost_ret (results_cell_row rfl _ _ w1.heap.size 28 _ (0, 0) _ rfl hr6 Tryz.underlying28 rfl (by kernel_rfl)) rfl ⟨_, rfl, Jv.flat w6 _ a.numV rfl rfl, h6⟩
    · have e1 : (e != 0) = true := by simp [he0]
      have HNS : Hid (a.numS = { a.fail e with s := a.numR }) := Lib.hid (by unfold S.numS; rw [HE.out]; simp [he0])
      clear he0
      go_wp2_with fail
      refine (fail_calls H3.out.now e).mono ?_
      rintro E w4 ⟨rfl, h4⟩
      have H4 := Lib.hid (H3.out.trans h4)
      have hr4 := h4.keep HR3.out (Nat.ne_of_gt H.out.lt)
      have hb4 := h4.keep HB3.out (by have := H.out.lt; omega)
      clear h4
      have HR5 := Lib.hid ((Below.heap_setCell w4 ⟨g, 0, none⟩ (.string B) w1.heap.size (Nat.ne_of_gt H.out.lt)).trans hr4)
      have HB5 := Lib.hid ((Below.heap_setCell w4 ⟨g, 0, none⟩ (.string B) b (by have := H.out.lt; show b ≠ g; omega)).trans hb4)
      have c0 := H4.out.c0
      have f0 := H4.out.fz 0
      clear hr4 hb4
      go_wp2_with (first | (refine wpList_load_row rfl 24 (.tmp 4) rfl b rfl 24 _ (0, 0) _ HB5.out Tryz.underlying24 rfl (by kernel_rfl) ?_) | (refine row_event rfl 28 (.tmp 2) (.tmp 38) rfl w1.heap.size _ rfl rfl 28 _ HR5.out (by kernel_rfl) rfl rfl ?_; intro w6 hr6 hk6))
      have h6 := (show Rd w (w4.setCell ⟨g, 0, none⟩ (.string B)) g a.numS from by rw [HNS.out, ← HAB.out.2]; exact H4.out.s0 _).far hk6 (Nat.ne_of_gt H.out.lt) H.out.kp.size
      exact bodyPost_ret (results_cell_row rfl _ _ w1.heap.size 28 _ (0, 0) _ rfl hr6 Tryz.underlying28 rfl (by kernel_rfl)) rfl ⟨_, rfl, Jv.flat w6 _ a.numV rfl rfl, h6⟩
end Js
end Go.Proofs.YtapcpndplnkfjaaGreatDoor
namespace Go.Proofs.YtapcpndplnkfjaaGreatDoor
open Go.RowKit
set_option linter.unusedVariables false
set_option linter.unusedSimpArgs false
namespace Js
theorem run_insert8 {P : Program} {w : World} {t kt et : TypeId} (ht : P.underlying t = some (.map kt et)) (hk : P.underlying kt = some (.int .u8)) {r : Nat} {es : Array MapEntry} {clock : Nat} (hb : w.heap[r]? = some (.map es clock)) (c : Int) (v : Value)
    (hf : Instr.findNow (.int .u8) (.int .u8 c) es.toList 0 = some none) :
    (Instr.mapUpdate t (.map (some r)) (.int .u8 c) v).run P w = .ok () { w with heap := w.heap.setIfInBounds r (.map (es.push { key := .int .u8 c, val := v, born := clock }) (clock + 1)) } := by
  have hc : (Instr.checkKey false 10000 kt (.int .u8 c)).run P w = .ok () w := MapKept.run_checkKey hk (by simp [MapKept.IsKey]) false 9999
  simp [Instr.mapUpdate, run_underlying ht, MapKept.run_getObj_map hb, hc, MapKept.run_findKey hk hf, MapKept.run_setObj_map _ hb, Result.andThen]
theorem insert8 {P : Program} {ops : Array Oper} {rest : List Oper} {o : Oper} {a : Act} {w : World} {Q : Exit → Act → World → Prop} (hg : o.guard = none) (m k x : Operand) (t : TypeId) (ho : o.op = .insert t m k x) {kt et : TypeId}
    (ht : P.underlying t = some (.map kt et)) (hk : P.underlying kt = some (.int .u8)) (r : Nat) (es : Array MapEntry) (clock : Nat) (hb : w.heap[r]? = some (.map es clock)) (hm : a.eval m = .map (some r)) (c : Int) (hx : a.eval k = .int .u8 c) (v : Value) (hv : a.eval x = v)
    (hf : Instr.findNow (.int .u8) (.int .u8 c) es.toList 0 = some none)
    (h : ∀ w1, w1.heap[r]? = some (.map (es.push { key := .int .u8 c, val := v, born := clock }) (clock + 1)) → w.grownBy w1 (some r) → wpList P ops Q rest (a.put o.dst undef) w1) : wpList P ops Q (o :: rest) a w := by
  refine wpList_plain hg fun K' hK' => ?_
  unfold Oper.wp
  simp [execOp, ho, hm, hx, hv, run_insert8 ht hk hb c v hf, Result.andThen]
  refine hK' _ _ (h _ (MapKept.heap_set hb).1 ⟨rfl, rfl, rfl, by simp, fun i _ hi => (MapKept.heap_set hb).2 i (by simpa using hi)⟩)
theorem lookup8 {P : Program} {ops : Array Oper} {rest : List Oper} {o : Oper} {a : Act} {w : World} {Q : Exit → Act → World → Prop} (hg : o.guard = none) (m k : Operand) (t : TypeId) (ho : o.op = .lookup t m k true) {kt et : TypeId}
    (ht : P.underlying t = some (.map kt et)) (hk : P.underlying kt = some (.int .u8)) (hz : (zeroValue et).run P w = .ok .nilFunc w) (r : Nat) (es : Array MapEntry) (clock : Nat) (hb : w.heap[r]? = some (.map es clock)) (hm : a.eval m = .map (some r)) (c : Int) (hx : a.eval k = .int .u8 c)
    (q : Option (Nat × Value)) (hf : Instr.findNow (.int .u8) (.int .u8 c) es.toList 0 = some q)
    (h : wpList P ops Q rest (a.put o.dst (match q with | none => .tuple #[.nilFunc, .bool false] | some (_, v) => .tuple #[v, .bool true])) w) : wpList P ops Q (o :: rest) a w := by
  have hc : ∀ e, (Instr.checkKey e 10000 kt (.int .u8 c)).run P w = .ok () w := fun e => MapKept.run_checkKey hk (by simp [MapKept.IsKey]) e 9999
  refine wpList_plain hg fun K' hK' => ?_
  unfold Oper.wp
  cases q with
  | none =>
    have hr : (Instr.lookup t (.map (some r)) (.int .u8 c) true).run P w = .ok (.tuple #[.nilFunc, .bool false]) w := by
      simp [Instr.lookup, run_underlying ht, MapKept.run_getObj_map hb, hc, MapKept.run_findKey hk hf, hz, Result.andThen]
    simp [execOp, ho, hm, hx, hr, Result.andThen]
    exact hK' _ _ h
  | some q =>
    obtain ⟨j, v⟩ := q
    have hr : (Instr.lookup t (.map (some r)) (.int .u8 c) true).run P w = .ok (.tuple #[v, .bool true]) w := by
      simp [Instr.lookup, run_underlying ht, MapKept.run_getObj_map hb, hc, MapKept.run_findKey hk hf, Result.andThen]
    simp [execOp, ho, hm, hx, hr, Result.andThen]
    exact hK' _ _ h
end Js
end Go.Proofs.YtapcpndplnkfjaaGreatDoor
namespace Go.Proofs.YtapcpndplnkfjaaGreatDoor
open Go.RowKit Go.Proofs.YtapcpndplnkfjaaGreatDoorW.PrintWords Go.Proofs.YtapcpndplnkfjaaGreatDoorW.PrintLast Go.Proofs.YtapcpndplnkfjaaGreatDoorW.PrintMore
set_option linter.unusedVariables false
set_option linter.unusedSimpArgs false
namespace Js
def fv (g n : Nat) : Value := .func (.func n) #[.pointer (some ⟨g, 0, none⟩)] #[]
def ents (g : Nat) : Array MapEntry := #[{ key := .int .u8 110, val := fv g 64, born := 0 }, { key := .int .u8 116, val := fv g 65, born := 1 }, { key := .int .u8 102, val := fv g 66, born := 2 }, { key := .int .u8 34, val := fv g 67, born := 3 }, { key := .int .u8 91, val := fv g 68, born := 4 }, { key := .int .u8 123, val := fv g 69, born := 5 }, { key := .int .u8 45, val := fv g 70, born := 6 }]
def VCalls (fn : Nat) (ok : S → Prop) (f : S → S28 × S) : Prop := ∀ (w w1 : World) (g : Nat) (a : S), Rd w w1 g a → ok a →
  Calls Tryz.prog fn #[.pointer (some ⟨g, 0, none⟩)] w1 fun E w' => ∃ v, E = .returned v ∧ Jv w' w1.heap.size v (f a).1 ∧ Rd w w' g (f a).2
def S.value1 (ft fa fo : S → S28 × S) (b : S) : S28 × S :=
  if b.e ≠ 0 then (z28, b) else
  match b.s with
  | [] => (z28, b.fail 11)
  | c :: _ =>
    if c = 110 then (z28, b.need [110, 117, 108, 108]) else
    if c = 116 then (S28.mk 1 true z24 ⟨#[]⟩ [] [], b.need [116, 114, 117, 101]) else
    if c = 102 then (S28.mk 1 false z24 ⟨#[]⟩ [] [], b.need [102, 97, 108, 115, 101]) else
    if c = 34 then ft b else if c = 91 then fa b else if c = 123 then fo b else
    if c = 45 ∨ 48 ≤ c ∧ c ≤ 57 then (b.numV, b.numS) else (z28, b.fail 11)
def S.value (ft fa fo : S → S28 × S) (a : S) : S28 × S := S.value1 ft fa fo a.skip
theorem ents_none (g : Nat) (c : UInt8) (h0 : c ≠ 110) (h1 : c ≠ 116) (h2 : c ≠ 102) (h3 : c ≠ 34) (h4 : c ≠ 91) (h5 : c ≠ 123) (h6 : c ≠ 45) :
    Instr.findNow (.int .u8) (.int .u8 (c.toNat : Int)) (ents g).toList 0 = some none := by
  have k : ∀ d : UInt8, c ≠ d → ((d.toNat : Int) == (c.toNat : Int)) = false ∧ ((c.toNat : Int) == (d.toNat : Int)) = false := fun d hd => by
    have : c.toNat ≠ d.toNat := fun e => hd (UInt8.toNat_inj.1 e)
    exact ⟨by simp; omega, by simp; omega⟩
  have e0 : ((c.toNat : Int) == 110) = false := (k 110 h0).2
  have e1 : ((c.toNat : Int) == 116) = false := (k 116 h1).2
  have e2 : ((c.toNat : Int) == 102) = false := (k 102 h2).2
  have e3 : ((c.toNat : Int) == 34) = false := (k 34 h3).2
  have e4 : ((c.toNat : Int) == 91) = false := (k 91 h4).2
  have e5 : ((c.toNat : Int) == 123) = false := (k 123 h5).2
  have e6 : ((c.toNat : Int) == 45) = false := (k 45 h6).2
  simp [ents, Instr.findNow, Instr.sameNow]
  simp only [e0, e1, e2, e3, e4, e5, e6]
theorem Jv.of {w : World} {base : Nat} {v : Value} {x : S28} (h : Jv w base v x) : ∃ cs : List Value, v = .agg cs.toArray ∧ cs.toArray.size = 8 ∧ cs.toArray.toList.all (·.oneCell') = true ∧ (Tryz.prog.info? 28).map (·.size) = some cs.toArray.size ∧ k28.M w base (fun _ => True) x cs := by
  obtain ⟨cs, rfl, hM⟩ := h
  have hl : cs.toArray.size = 8 := k28.K_len (k28.K_of_M hM)
  have ho : cs.toArray.toList.all (·.oneCell') = true := List.all_eq_true.2 (fun u hu => k28.K_one (k28.K_of_M hM) u (by simpa using hu))
  exact ⟨cs, rfl, hl, ho, by rw [hl]; kernel_rfl, hM⟩
theorem Jv.up {w w' : World} {base b base' : Nat} {cs : List Value} {x : S28} (h : k28.M w base (fun _ => True) x cs) (k : w.grownBy w' (some b)) (hb : b < base) (hl : base' ≤ base) : Jv w' base' (.agg cs.toArray) x :=
  ⟨cs, rfl, k28.M_lower hl (k28.M_mono (fun _ _ => trivial) (Kd.M_grown (k28.M_bound h) k (fun i hi e => by have := hi.2.1; injection e with e; omega)))⟩
theorem null_v : VCalls 64 (fun _ => True) (fun b => (z28, b.need [110, 117, 108, 108])) := fun w w1 g a h _ => null_calls h
theorem yes_v : VCalls 65 (fun _ => True) (fun b => (S28.mk 1 true z24 ⟨#[]⟩ [] [], b.need [116, 114, 117, 101])) := fun w w1 g a h _ => yes_calls h
theorem no_v : VCalls 66 (fun _ => True) (fun b => (S28.mk 1 false z24 ⟨#[]⟩ [] [], b.need [102, 97, 108, 115, 101])) := fun w w1 g a h _ => no_calls h
theorem number_v : VCalls 70 (fun b => b.s.length ≤ 1000000) (fun b => (b.numV, b.numS)) := fun w w1 g a h hl => number_calls h hl
set_option maxRecDepth 100000 in
set_option maxHeartbeats 8000000 in
theorem value_calls (ft fa fo : S → S28 × S) (okt oka oko : S → Prop) (HT : VCalls 67 okt ft) (HA : VCalls 68 oka fa) (HO : VCalls 69 oko fo) :
    VCalls 34 (fun a => a.s.length ≤ 1000000 ∧ (a.skip.e = 0 → (a.skip.s.head? = some 34 → okt a.skip) ∧ (a.skip.s.head? = some 91 → oka a.skip) ∧ (a.skip.s.head? = some 123 → oko a.skip))) (S.value ft fa fo) := by
  intro w w1 g a h hok
  have H := Lib.hid h
  have HOK := Lib.hid hok
  have HTX := Lib.hid (And.intro HT (And.intro HA HO))
  have hmm := @run_makeMap Tryz.prog
  clear h hok HT HA HO
  go_enter Tryz.func34, Tryz.ntmps34
  go_wp2_with fail
  refine (skip_calls (H.out.below (Below.alloc (Below.refl _ _) (Nat.le_refl _) _)).now).mono ?_
  rintro E w2 ⟨rfl, h2⟩
  have HR := Lib.hid (h2.keep (blk_new w1 _) (Nat.ne_of_gt H.out.lt))
  have H2 := Lib.hid ((H.out.below (Below.alloc (Below.refl _ _) (Nat.le_refl _) _)).trans h2)
  have HSZ : Hid (w1.heap.size < w2.heap.size) := Lib.hid (Nat.lt_of_lt_of_le (by simp) h2.kp.size)
  clear h2
  have h0 := And.intro (MapKept.heap_alloc w2 (.map #[] 0)).1 ((Below.refl w2.heap.size w2).alloc (Nat.le_refl _) (.map #[] 0))
  go_upto_region 2 with fail
  go_cut [3] (fun s3 wx => s3 = .map (some w2.heap.size) ∧ wx.heap[w2.heap.size]? = some (.map (ents g) 7) ∧ Below w2.heap.size w2 wx)
  case first =>
    go_wp2_with (first | (refine insert8 rfl (.tmp 8) (.const (.int .u8 110)) (.tmp 10) 110 rfl Tryz.underlying110 Tryz.underlying5 w2.heap.size _ 0 h0.1 rfl 110 rfl _ rfl rfl ?_; intro v1 i1 j1; have h1 := And.intro i1 (h0.2.grown j1 (Nat.le_of_lt (Array.getElem?_eq_some_iff.1 h0.1).1) (fun k e => Nat.le_of_eq (Option.some.inj e))); clear i1 j1) | (refine insert8 rfl (.tmp 8) (.const (.int .u8 116)) (.tmp 12) 110 rfl Tryz.underlying110 Tryz.underlying5 w2.heap.size _ 1 h1.1 rfl 116 rfl _ rfl rfl ?_; intro v2 i2 j2; have h2 := And.intro i2 (h1.2.grown j2 (Nat.le_of_lt (Array.getElem?_eq_some_iff.1 h1.1).1) (fun k e => Nat.le_of_eq (Option.some.inj e))); clear i2 j2) | (refine insert8 rfl (.tmp 8) (.const (.int .u8 102)) (.tmp 14) 110 rfl Tryz.underlying110 Tryz.underlying5 w2.heap.size _ 2 h2.1 rfl 102 rfl _ rfl rfl ?_; intro v3 i3 j3; have h3 := And.intro i3 (h2.2.grown j3 (Nat.le_of_lt (Array.getElem?_eq_some_iff.1 h2.1).1) (fun k e => Nat.le_of_eq (Option.some.inj e))); clear i3 j3) | (refine insert8 rfl (.tmp 8) (.const (.int .u8 34)) (.tmp 16) 110 rfl Tryz.underlying110 Tryz.underlying5 w2.heap.size _ 3 h3.1 rfl 34 rfl _ rfl rfl ?_; intro v4 i4 j4; have h4 := And.intro i4 (h3.2.grown j4 (Nat.le_of_lt (Array.getElem?_eq_some_iff.1 h3.1).1) (fun k e => Nat.le_of_eq (Option.some.inj e))); clear i4 j4) | (refine insert8 rfl (.tmp 8) (.const (.int .u8 91)) (.tmp 18) 110 rfl Tryz.underlying110 Tryz.underlying5 w2.heap.size _ 4 h4.1 rfl 91 rfl _ rfl rfl ?_; intro v5 i5 j5; have h5 := And.intro i5 (h4.2.grown j5 (Nat.le_of_lt (Array.getElem?_eq_some_iff.1 h4.1).1) (fun k e => Nat.le_of_eq (Option.some.inj e))); clear i5 j5) | (refine insert8 rfl (.tmp 8) (.const (.int .u8 123)) (.tmp 20) 110 rfl Tryz.underlying110 Tryz.underlying5 w2.heap.size _ 5 h5.1 rfl 123 rfl _ rfl rfl ?_; intro v6 i6 j6; have h6 := And.intro i6 (h5.2.grown j6 (Nat.le_of_lt (Array.getElem?_eq_some_iff.1 h5.1).1) (fun k e => Nat.le_of_eq (Option.some.inj e))); clear i6 j6) | (refine insert8 rfl (.tmp 8) (.const (.int .u8 45)) (.tmp 22) 110 rfl Tryz.underlying110 Tryz.underlying5 w2.heap.size _ 6 h6.1 rfl 45 rfl _ rfl rfl ?_; intro v7 i7 j7; have h7 := And.intro i7 (h6.2.grown j7 (Nat.le_of_lt (Array.getElem?_eq_some_iff.1 h6.1).1) (fun k e => Nat.le_of_eq (Option.some.inj e))); clear i7 j7))
    go_meet
    exact ⟨rfl, h7.1, h7.2⟩
  case rest =>
    obtain ⟨rfl, hm, hb⟩ := hcut
    clear hmm h0
    have H3 := Lib.hid (H2.out.below hb)
    have HR3 := Lib.hid ((hb.block _ HSZ.out).trans HR.out)
    have HM3 := Lib.hid hm
    clear hm hb
    have c2 := H3.out.c2
    have HLE : Hid (w.heap.size ≤ w1.heap.size) := Lib.hid H.out.kp.size
    have HWC : Hid (w1.heap.size < wc.heap.size) := Lib.hid (Nat.lt_of_lt_of_le HSZ.out (Nat.le_of_lt (Array.getElem?_eq_some_iff.1 HM3.out).1))
    have HNE : Hid (w1.heap.size ≠ g) := Lib.hid (Nat.ne_of_gt H.out.lt)
    have HV : Hid (S.value ft fa fo a = S.value1 ft fa fo a.skip) := Lib.hid rfl
    have HLEN : Hid (a.skip.s.length ≤ 1000000) := Lib.hid (Nat.le_trans (by unfold S.skip Lib.trimLeftS; exact (List.dropWhile_sublist _).length_le) HOK.out.1)
    generalize hbb : a.skip = b at *
    by_cases he : b.e = 0
    · have e1 : (b.e != 0) = false := by simp [he]
      have c0 := H3.out.c0
      cases hs : b.s with
      | nil =>
        have HF : Hid (S.value ft fa fo a = (z28, b.fail 11)) := Lib.hid (by rw [HV.out]; unfold S.value1; rw [if_neg (by simp [he]), hs])
        rw [hs] at c0
        have hsz : (ofL []).toList.isEmpty = true := by rw [ofL_toList]; rfl
        clear he hs HV
        go_wp2_with fail
        refine (fail_calls H3.out.now 11).mono ?_
        rintro E w4 ⟨rfl, h4⟩
        have H4 := Lib.hid (H3.out.trans h4)
        have HR4 := Lib.hid (h4.keep HR3.out HNE.out)
        clear h4 c0 c2 hsz
        go_wp2_with (refine row_event rfl 28 (.tmp 2) (.tmp 37) rfl w1.heap.size _ rfl rfl 28 _ HR4.out (by kernel_rfl) rfl rfl ?_; intro w6 hr6 hk6)
        have h6 := H4.out.far hk6 HNE.out HLE.out
        exact bodyPost_ret (results_cell_row rfl _ _ w1.heap.size 28 _ (0, 0) _ rfl hr6 Tryz.underlying28 rfl (by kernel_rfl)) rfl ⟨_, rfl, by rw [HF.out]; exact Jv.flat w6 _ z28 rfl rfl, by rw [HF.out]; exact h6⟩
      | cons c t =>
        rw [hs] at c0
        have HS := Lib.hid hs
        have HE := Lib.hid he
        clear he hs
        have hsz : (ofL (c :: t)).toList.isEmpty = false := by rw [ofL_toList]; rfl
        have hsz1 : 0 < (ofL (c :: t)).size := by rw [ofL_size]; exact Nat.succ_pos _
        by_cases k0 : c = 110
        · subst k0
          have HF : Hid (S.value ft fa fo a = (z28, b.need [110, 117, 108, 108])) := Lib.hid (by rw [HV.out]; unfold S.value1; rw [if_neg (by simp [HE.out]), HS.out]; first | rfl | simp)
          go_wp2_with (refine lookup8 rfl (.tmp 39) (.tmp 44) 110 rfl Tryz.underlying110 Tryz.underlying5 (Tryz.zeroValue80 _) w2.heap.size (ents g) 7 HM3.out rfl 110 rfl (some (0, .func (.func 64) #[.pointer (some ⟨g, 0, none⟩)] #[])) rfl ?_)
          refine (null_v wc wc g b H3.out.now trivial).mono ?_
          rintro E w4 ⟨v, rfl, hv, h4⟩
          obtain ⟨cs, rfl, hl8, ho8, hi8, hM⟩ := hv.of
          have HL8 := Lib.hid (And.intro hl8 (And.intro ho8 hi8))
          have HM8 := Lib.hid hM
          have HR4 := Lib.hid (h4.keep HR3.out HNE.out)
          have HK4 := Lib.hid h4.kp.size
          have H4 := Lib.hid (H3.out.trans h4)
          clear h4 hv hM hl8 ho8 hi8 c0 c2
          go_wp2_with (refine row_event rfl 28 (.tmp 2) (.tmp 51) rfl w1.heap.size _ rfl rfl 28 _ HR4.out HL8.out.2.2 HL8.out.1.symm HL8.out.2.1 ?_; intro w6 hr6 hk6)
          have h6 := H4.out.far hk6 HNE.out HLE.out
          exact bodyPost_ret (results_cell_row rfl _ _ w1.heap.size 28 _ (0, 0) _ rfl hr6 Tryz.underlying28 rfl HL8.out.2.2) rfl ⟨_, rfl, by rw [HF.out]; exact Jv.up HM8.out hk6 HWC.out (Nat.le_of_lt HWC.out), by rw [HF.out]; exact h6⟩
        · skip
          by_cases k1 : c = 116
          · subst k1
            have HF : Hid (S.value ft fa fo a = (S28.mk 1 true z24 ⟨#[]⟩ [] [], b.need [116, 114, 117, 101])) := Lib.hid (by rw [HV.out]; unfold S.value1; rw [if_neg (by simp [HE.out]), HS.out]; first | rfl | simp)
            go_wp2_with (refine lookup8 rfl (.tmp 39) (.tmp 44) 110 rfl Tryz.underlying110 Tryz.underlying5 (Tryz.zeroValue80 _) w2.heap.size (ents g) 7 HM3.out rfl 116 rfl (some (1, .func (.func 65) #[.pointer (some ⟨g, 0, none⟩)] #[])) rfl ?_)
            refine (yes_v wc wc g b H3.out.now trivial).mono ?_
            rintro E w4 ⟨v, rfl, hv, h4⟩
            obtain ⟨cs, rfl, hl8, ho8, hi8, hM⟩ := hv.of
            have HL8 := Lib.hid (And.intro hl8 (And.intro ho8 hi8))
            have HM8 := Lib.hid hM
            have HR4 := Lib.hid (h4.keep HR3.out HNE.out)
            have HK4 := Lib.hid h4.kp.size
            have H4 := Lib.hid (H3.out.trans h4)
            clear h4 hv hM hl8 ho8 hi8 c0 c2
            go_wp2_with (refine row_event rfl 28 (.tmp 2) (.tmp 51) rfl w1.heap.size _ rfl rfl 28 _ HR4.out HL8.out.2.2 HL8.out.1.symm HL8.out.2.1 ?_; intro w6 hr6 hk6)
            have h6 := H4.out.far hk6 HNE.out HLE.out
            exact bodyPost_ret (results_cell_row rfl _ _ w1.heap.size 28 _ (0, 0) _ rfl hr6 Tryz.underlying28 rfl HL8.out.2.2) rfl ⟨_, rfl, by rw [HF.out]; exact Jv.up HM8.out hk6 HWC.out (Nat.le_of_lt HWC.out), by rw [HF.out]; exact h6⟩
          · skip
            by_cases k2 : c = 102
            · subst k2
              have HF : Hid (S.value ft fa fo a = (S28.mk 1 false z24 ⟨#[]⟩ [] [], b.need [102, 97, 108, 115, 101])) := Lib.hid (by rw [HV.out]; unfold S.value1; rw [if_neg (by simp [HE.out]), HS.out]; first | rfl | simp)
              go_wp2_with (refine lookup8 rfl (.tmp 39) (.tmp 44) 110 rfl Tryz.underlying110 Tryz.underlying5 (Tryz.zeroValue80 _) w2.heap.size (ents g) 7 HM3.out rfl 102 rfl (some (2, .func (.func 66) #[.pointer (some ⟨g, 0, none⟩)] #[])) rfl ?_)
              refine (no_v wc wc g b H3.out.now trivial).mono ?_
              rintro E w4 ⟨v, rfl, hv, h4⟩
              obtain ⟨cs, rfl, hl8, ho8, hi8, hM⟩ := hv.of
              have HL8 := Lib.hid (And.intro hl8 (And.intro ho8 hi8))
              have HM8 := Lib.hid hM
              have HR4 := Lib.hid (h4.keep HR3.out HNE.out)
              have HK4 := Lib.hid h4.kp.size
              have H4 := Lib.hid (H3.out.trans h4)
              clear h4 hv hM hl8 ho8 hi8 c0 c2
              go_wp2_with (refine row_event rfl 28 (.tmp 2) (.tmp 51) rfl w1.heap.size _ rfl rfl 28 _ HR4.out HL8.out.2.2 HL8.out.1.symm HL8.out.2.1 ?_; intro w6 hr6 hk6)
              have h6 := H4.out.far hk6 HNE.out HLE.out
              exact bodyPost_ret (results_cell_row rfl _ _ w1.heap.size 28 _ (0, 0) _ rfl hr6 Tryz.underlying28 rfl HL8.out.2.2) rfl ⟨_, rfl, by rw [HF.out]; exact Jv.up HM8.out hk6 HWC.out (Nat.le_of_lt HWC.out), by rw [HF.out]; exact h6⟩
            · skip
              by_cases k3 : c = 34
              · subst k3
                have HF : Hid (S.value ft fa fo a = ft b) := Lib.hid (by rw [HV.out]; unfold S.value1; rw [if_neg (by simp [HE.out]), HS.out]; first | rfl | simp)
                go_wp2_with (refine lookup8 rfl (.tmp 39) (.tmp 44) 110 rfl Tryz.underlying110 Tryz.underlying5 (Tryz.zeroValue80 _) w2.heap.size (ents g) 7 HM3.out rfl 34 rfl (some (3, .func (.func 67) #[.pointer (some ⟨g, 0, none⟩)] #[])) rfl ?_)
                refine (HTX.out.1 wc wc g b H3.out.now ((HOK.out.2 HE.out).1 (by rw [HS.out]; rfl))).mono ?_
                rintro E w4 ⟨v, rfl, hv, h4⟩
                obtain ⟨cs, rfl, hl8, ho8, hi8, hM⟩ := hv.of
                have HL8 := Lib.hid (And.intro hl8 (And.intro ho8 hi8))
                have HM8 := Lib.hid hM
                have HR4 := Lib.hid (h4.keep HR3.out HNE.out)
                have HK4 := Lib.hid h4.kp.size
                have H4 := Lib.hid (H3.out.trans h4)
                clear h4 hv hM hl8 ho8 hi8 c0 c2
                go_wp2_with (refine row_event rfl 28 (.tmp 2) (.tmp 51) rfl w1.heap.size _ rfl rfl 28 _ HR4.out HL8.out.2.2 HL8.out.1.symm HL8.out.2.1 ?_; intro w6 hr6 hk6)
                have h6 := H4.out.far hk6 HNE.out HLE.out
                exact bodyPost_ret (results_cell_row rfl _ _ w1.heap.size 28 _ (0, 0) _ rfl hr6 Tryz.underlying28 rfl HL8.out.2.2) rfl ⟨_, rfl, by rw [HF.out]; exact Jv.up HM8.out hk6 HWC.out (Nat.le_of_lt HWC.out), by rw [HF.out]; exact h6⟩
              · skip
                by_cases k4 : c = 91
                · subst k4
                  have HF : Hid (S.value ft fa fo a = fa b) := Lib.hid (by rw [HV.out]; unfold S.value1; rw [if_neg (by simp [HE.out]), HS.out]; first | rfl | simp)
                  go_wp2_with (refine lookup8 rfl (.tmp 39) (.tmp 44) 110 rfl Tryz.underlying110 Tryz.underlying5 (Tryz.zeroValue80 _) w2.heap.size (ents g) 7 HM3.out rfl 91 rfl (some (4, .func (.func 68) #[.pointer (some ⟨g, 0, none⟩)] #[])) rfl ?_)
                  refine (HTX.out.2.1 wc wc g b H3.out.now ((HOK.out.2 HE.out).2.1 (by rw [HS.out]; rfl))).mono ?_
                  rintro E w4 ⟨v, rfl, hv, h4⟩
                  obtain ⟨cs, rfl, hl8, ho8, hi8, hM⟩ := hv.of
                  have HL8 := Lib.hid (And.intro hl8 (And.intro ho8 hi8))
                  have HM8 := Lib.hid hM
                  have HR4 := Lib.hid (h4.keep HR3.out HNE.out)
                  have HK4 := Lib.hid h4.kp.size
                  have H4 := Lib.hid (H3.out.trans h4)
                  clear h4 hv hM hl8 ho8 hi8 c0 c2
                  go_wp2_with (refine row_event rfl 28 (.tmp 2) (.tmp 51) rfl w1.heap.size _ rfl rfl 28 _ HR4.out HL8.out.2.2 HL8.out.1.symm HL8.out.2.1 ?_; intro w6 hr6 hk6)
                  have h6 := H4.out.far hk6 HNE.out HLE.out
                  exact bodyPost_ret (results_cell_row rfl _ _ w1.heap.size 28 _ (0, 0) _ rfl hr6 Tryz.underlying28 rfl HL8.out.2.2) rfl ⟨_, rfl, by rw [HF.out]; exact Jv.up HM8.out hk6 HWC.out (Nat.le_of_lt HWC.out), by rw [HF.out]; exact h6⟩
                · skip
                  by_cases k5 : c = 123
                  · subst k5
                    have HF : Hid (S.value ft fa fo a = fo b) := Lib.hid (by rw [HV.out]; unfold S.value1; rw [if_neg (by simp [HE.out]), HS.out]; first | rfl | simp)
                    go_wp2_with (refine lookup8 rfl (.tmp 39) (.tmp 44) 110 rfl Tryz.underlying110 Tryz.underlying5 (Tryz.zeroValue80 _) w2.heap.size (ents g) 7 HM3.out rfl 123 rfl (some (5, .func (.func 69) #[.pointer (some ⟨g, 0, none⟩)] #[])) rfl ?_)
                    refine (HTX.out.2.2 wc wc g b H3.out.now ((HOK.out.2 HE.out).2.2 (by rw [HS.out]; rfl))).mono ?_
                    rintro E w4 ⟨v, rfl, hv, h4⟩
                    obtain ⟨cs, rfl, hl8, ho8, hi8, hM⟩ := hv.of
                    have HL8 := Lib.hid (And.intro hl8 (And.intro ho8 hi8))
                    have HM8 := Lib.hid hM
                    have HR4 := Lib.hid (h4.keep HR3.out HNE.out)
                    have HK4 := Lib.hid h4.kp.size
                    have H4 := Lib.hid (H3.out.trans h4)
                    clear h4 hv hM hl8 ho8 hi8 c0 c2
                    go_wp2_with (refine row_event rfl 28 (.tmp 2) (.tmp 51) rfl w1.heap.size _ rfl rfl 28 _ HR4.out HL8.out.2.2 HL8.out.1.symm HL8.out.2.1 ?_; intro w6 hr6 hk6)
                    have h6 := H4.out.far hk6 HNE.out HLE.out
                    exact bodyPost_ret (results_cell_row rfl _ _ w1.heap.size 28 _ (0, 0) _ rfl hr6 Tryz.underlying28 rfl HL8.out.2.2) rfl ⟨_, rfl, by rw [HF.out]; exact Jv.up HM8.out hk6 HWC.out (Nat.le_of_lt HWC.out), by rw [HF.out]; exact h6⟩
                  · skip
                    by_cases k6 : c = 45
                    · subst k6
                      have HF : Hid (S.value ft fa fo a = (b.numV, b.numS)) := Lib.hid (by rw [HV.out]; unfold S.value1; rw [if_neg (by simp [HE.out]), HS.out]; first | rfl | simp)
                      go_wp2_with (refine lookup8 rfl (.tmp 39) (.tmp 44) 110 rfl Tryz.underlying110 Tryz.underlying5 (Tryz.zeroValue80 _) w2.heap.size (ents g) 7 HM3.out rfl 45 rfl (some (6, .func (.func 70) #[.pointer (some ⟨g, 0, none⟩)] #[])) rfl ?_)
                      refine (number_v wc wc g b H3.out.now HLEN.out).mono ?_
                      rintro E w4 ⟨v, rfl, hv, h4⟩
                      obtain ⟨cs, rfl, hl8, ho8, hi8, hM⟩ := hv.of
                      have HL8 := Lib.hid (And.intro hl8 (And.intro ho8 hi8))
                      have HM8 := Lib.hid hM
                      have HR4 := Lib.hid (h4.keep HR3.out HNE.out)
                      have HK4 := Lib.hid h4.kp.size
                      have H4 := Lib.hid (H3.out.trans h4)
                      clear h4 hv hM hl8 ho8 hi8 c0 c2
                      go_wp2_with (refine row_event rfl 28 (.tmp 2) (.tmp 51) rfl w1.heap.size _ rfl rfl 28 _ HR4.out HL8.out.2.2 HL8.out.1.symm HL8.out.2.1 ?_; intro w6 hr6 hk6)
                      have h6 := H4.out.far hk6 HNE.out HLE.out
                      exact bodyPost_ret (results_cell_row rfl _ _ w1.heap.size 28 _ (0, 0) _ rfl hr6 Tryz.underlying28 rfl HL8.out.2.2) rfl ⟨_, rfl, by rw [HF.out]; exact Jv.up HM8.out hk6 HWC.out (Nat.le_of_lt HWC.out), by rw [HF.out]; exact h6⟩
                    · have HNO := Lib.hid (ents_none g c k0 k1 k2 k3 k4 k5 k6)
                      by_cases kd : 48 ≤ c ∧ c ≤ 57
                      · have HF : Hid (S.value ft fa fo a = (b.numV, b.numS)) := Lib.hid (by rw [HV.out]; unfold S.value1; rw [if_neg (by simp [HE.out]), HS.out]; simp only [k0, k1, k2, k3, k4, k5, k6, kd, if_false, false_or, true_and, and_self, if_true])
                        have d1 : (48 : Int) ≤ (((ofL (c :: t))[0]'hsz1).toNat : Int) := by have := UInt8.le_iff_toNat_le.1 kd.1; show (48 : Int) ≤ (c.toNat : Int); simp at this; omega
                        have d2 : (((ofL (c :: t))[0]'hsz1).toNat : Int) ≤ 57 := by have := UInt8.le_iff_toNat_le.1 kd.2; show (c.toNat : Int) ≤ 57; simp at this; omega
                        clear k0 k1 k2 k3 k4 k5 k6 kd
                        go_wp2_with (first | (refine lookup8 rfl (.tmp 39) (.tmp 44) 110 rfl Tryz.underlying110 Tryz.underlying5 (Tryz.zeroValue80 _) w2.heap.size (ents g) 7 HM3.out rfl (c.toNat : Int) rfl none HNO.out ?_))
                        refine (number_v wc wc g b H3.out.now HLEN.out).mono ?_
                        rintro E w4 ⟨v, rfl, hv, h4⟩
                        obtain ⟨cs, rfl, hl8, ho8, hi8, hM⟩ := hv.of
                        have HL8 := Lib.hid (And.intro hl8 (And.intro ho8 hi8))
                        have HM8 := Lib.hid hM
                        have HR4 := Lib.hid (h4.keep HR3.out HNE.out)
                        have HK4 := Lib.hid h4.kp.size
                        have H4 := Lib.hid (H3.out.trans h4)
                        clear h4 hv hM hl8 ho8 hi8 c0 c2
                        go_wp2_with (refine row_event rfl 28 (.tmp 2) (.tmp 68) rfl w1.heap.size _ rfl rfl 28 _ HR4.out HL8.out.2.2 HL8.out.1.symm HL8.out.2.1 ?_; intro w6 hr6 hk6)
                        have h6 := H4.out.far hk6 HNE.out HLE.out
                        exact bodyPost_ret (results_cell_row rfl _ _ w1.heap.size 28 _ (0, 0) _ rfl hr6 Tryz.underlying28 rfl HL8.out.2.2) rfl ⟨_, rfl, by rw [HF.out]; exact Jv.up HM8.out hk6 HWC.out (Nat.le_of_lt HWC.out), by rw [HF.out]; exact h6⟩
                      · have HF : Hid (S.value ft fa fo a = (z28, b.fail 11)) := Lib.hid (by rw [HV.out]; unfold S.value1; rw [if_neg (by simp [HE.out]), HS.out]; simp only [k0, k1, k2, k3, k4, k5, k6, kd, if_false, false_or])
                        by_cases kl : c < 48
                        · have d1 : (((ofL (c :: t))[0]'hsz1).toNat : Int) < 48 := by have := UInt8.lt_iff_toNat_lt.1 kl; show (c.toNat : Int) < 48; simp at this; omega
                          clear k0 k1 k2 k3 k4 k5 k6 kd kl
                          go_wp2_with (first | (refine lookup8 rfl (.tmp 39) (.tmp 44) 110 rfl Tryz.underlying110 Tryz.underlying5 (Tryz.zeroValue80 _) w2.heap.size (ents g) 7 HM3.out rfl (c.toNat : Int) rfl none HNO.out ?_))
                          refine (fail_calls H3.out.now 11).mono ?_
                          rintro E w4 ⟨rfl, h4⟩
                          have H4 := Lib.hid (H3.out.trans h4)
                          have HR4 := Lib.hid (h4.keep HR3.out HNE.out)
                          clear h4 c0 c2 hsz
                          go_wp2_with (refine row_event rfl 28 (.tmp 2) (.tmp 71) rfl w1.heap.size _ rfl rfl 28 _ HR4.out (by kernel_rfl) rfl rfl ?_; intro w6 hr6 hk6)
                          have h6 := H4.out.far hk6 HNE.out HLE.out
                          exact bodyPost_ret (results_cell_row rfl _ _ w1.heap.size 28 _ (0, 0) _ rfl hr6 Tryz.underlying28 rfl (by kernel_rfl)) rfl ⟨_, rfl, by rw [HF.out]; exact Jv.flat w6 _ z28 rfl rfl, by rw [HF.out]; exact h6⟩
                        · have d1 : (57 : Int) < (((ofL (c :: t))[0]'hsz1).toNat : Int) := by
                            have h1 : ¬ c.toNat < 48 := fun h => kl (UInt8.lt_iff_toNat_lt.2 (by simpa using h))
                            have h2 : ¬ c.toNat ≤ 57 := fun h => kd ⟨UInt8.le_iff_toNat_le.2 (by simp; omega), UInt8.le_iff_toNat_le.2 (by simpa using h)⟩
                            show (57 : Int) < (c.toNat : Int); omega
                          clear k0 k1 k2 k3 k4 k5 k6 kd kl
                          go_wp2_with (first | (refine lookup8 rfl (.tmp 39) (.tmp 44) 110 rfl Tryz.underlying110 Tryz.underlying5 (Tryz.zeroValue80 _) w2.heap.size (ents g) 7 HM3.out rfl (c.toNat : Int) rfl none HNO.out ?_))
                          refine (fail_calls H3.out.now 11).mono ?_
                          rintro E w4 ⟨rfl, h4⟩
                          have H4 := Lib.hid (H3.out.trans h4)
                          have HR4 := Lib.hid (h4.keep HR3.out HNE.out)
                          clear h4 c0 c2 hsz
                          go_wp2_with (refine row_event rfl 28 (.tmp 2) (.tmp 71) rfl w1.heap.size _ rfl rfl 28 _ HR4.out (by kernel_rfl) rfl rfl ?_; intro w6 hr6 hk6)
                          have h6 := H4.out.far hk6 HNE.out HLE.out
                          exact bodyPost_ret (results_cell_row rfl _ _ w1.heap.size 28 _ (0, 0) _ rfl hr6 Tryz.underlying28 rfl (by kernel_rfl)) rfl ⟨_, rfl, by rw [HF.out]; exact Jv.flat w6 _ z28 rfl rfl, by rw [HF.out]; exact h6⟩
    · have e1 : (b.e != 0) = true := by simp [he]
      have HF : Hid (S.value ft fa fo a = (z28, b)) := Lib.hid (by rw [HV.out]; unfold S.value1; rw [if_pos he])
      clear he HV
      go_wp2_with (refine row_event rfl 28 (.tmp 2) (.tmp 29) rfl w1.heap.size _ rfl rfl 28 _ HR3.out (by kernel_rfl) rfl rfl ?_; intro w6 hr6 hk6)
      have h6 := H3.out.far hk6 HNE.out HLE.out
      exact bodyPost_ret (results_cell_row rfl _ _ w1.heap.size 28 _ (0, 0) _ rfl hr6 Tryz.underlying28 rfl (by kernel_rfl)) rfl ⟨_, rfl, by rw [HF.out]; exact Jv.flat w6 _ z28 rfl rfl, by rw [HF.out]; exact h6⟩
end Js
end Go.Proofs.YtapcpndplnkfjaaGreatDoor
namespace Go.Proofs.YtapcpndplnkfjaaGreatDoor
open Go.RowKit Go.Proofs.YtapcpndplnkfjaaGreatDoorW.PrintWords Go.Proofs.YtapcpndplnkfjaaGreatDoorW.PrintLast Go.Proofs.YtapcpndplnkfjaaGreatDoorW.PrintMore
set_option linter.unusedVariables false
set_option linter.unusedSimpArgs false
namespace Js
def S.ended (b : S) : S := if b.skip.s = [] then b.skip else b.skip.fail 11
def parseV (fv : S → S28 × S) (s : List UInt8) : S28 × Int :=
  if 4096 < s.length then (z28, 13) else
  if (fv ⟨s, 0, 0⟩).2.ended.e = 0 then ((fv ⟨s, 0, 0⟩).1, 0) else (z28, (fv ⟨s, 0, 0⟩).2.ended.e)
theorem KeptM.far {w w' : World} {base b : Nat} {cs : List Value} {x : S28} (h : k28.M w base (fun _ => True) x cs) (k : w.grownBy w' (some b)) (hb : b < base ∨ w.heap.size ≤ b) : k28.M w' base (fun _ => True) x cs :=
  k28.M_mono (fun _ _ => trivial) (Kd.M_grown (k28.M_bound h) k (fun i hi e => by have := hi.2.1; have := hi.2.2.1; injection e with e; omega))
set_option maxRecDepth 100000 in
set_option maxHeartbeats 8000000 in
theorem parse_calls (fv : S → S28 × S) (ok : S → Prop) (HV : VCalls 34 ok fv) (s : List UInt8) (w : World) (hT : Tabs w) (hok : s.length ≤ 4096 → ok ⟨s, 0, 0⟩) :
    Calls Tryz.prog 16 #[.string (ofL s)] w fun E w' => ∃ v, E = .returned (.tuple #[v, .int .i64 (parseV fv s).2]) ∧ Jv w' w.heap.size v (parseV fv s).1 ∧ Below w.heap.size w w' := by
  have HVX := Lib.hid HV
  have HTB := Lib.hid hT
  clear hT
  have HOK := Lib.hid hok
  clear HV hok
  have hi28 : (Tryz.prog.info? 28).map (·.size) = some 8 := by kernel_rfl
  have HI := Lib.hid hi28
  clear hi28
  by_cases hl : 4096 < s.length
  · have hsz : (4096 : Int) < ((ofL s).size : Int) := by rw [ofL_size]; omega
    have HF : Hid (parseV fv s = (z28, 13)) := Lib.hid (by unfold parseV; rw [if_pos hl])
    clear hl
    go_enter Tryz.func16, Tryz.ntmps16
    go_wp2_with (refine row_event rfl 28 (.tmp 2) (.tmp 9) rfl w.heap.size _ rfl rfl 28 _ (blk_new w _) (by kernel_rfl) rfl rfl ?_; intro w6 hr6 hk6)
    refine bodyPost_ret (results_list (rs := [.cell 2 28, .tmp 3]) rfl (by simp) (.cell w.heap.size 28 _ (0, 0) _ rfl hr6 Tryz.underlying28 rfl (by kernel_rfl) (.tmp .nil))) rfl ?_
    rw [HF.out]
    exact ⟨_, rfl, Jv.flat w6 _ z28 rfl rfl, ((Below.refl _ _).alloc (Nat.le_refl _) _).grown hk6 (by simp) (fun k e => Nat.le_of_eq (Option.some.inj e))⟩
  · have hsz : ((ofL s).size : Int) ≤ 4096 := by rw [ofL_size]; omega
    have HL := Lib.hid hl
    clear hl
    go_enter Tryz.func16, Tryz.ntmps16
    have hR0 : ∀ o, Rd ((w.alloc o).alloc (.cells #[.string (ofL s), .int .i64 0, .int .i64 0] 79)) ((w.alloc o).alloc (.cells #[.string (ofL s), .int .i64 0, .int .i64 0] 79)) (w.heap.size + 1) ⟨s, 0, 0⟩ :=
      fun o => ⟨by have := blk_new (w.alloc o) (.cells #[.string (ofL s), .int .i64 0, .int .i64 0] 79); simpa using this, grown_refl _ _, by simp, ⟨w, HTB.out, ((Below.refl _ _).alloc (Nat.le_refl _) _).alloc (by simp) _, by omega⟩⟩
    have HR0 := Lib.hid hR0
    clear hR0
    obtain ⟨x, b, hxb⟩ : ∃ x b, (x, b) = fv ⟨s, 0, 0⟩ := ⟨_, _, rfl⟩
    have HXB := Lib.hid hxb
    have HF : Hid (parseV fv s = if b.ended.e = 0 then (x, 0) else (z28, b.ended.e)) := Lib.hid (by unfold parseV; rw [if_neg HL.out, ← hxb])
    clear hxb
    go_wp2_with fail
    refine (HVX.out _ _ (w.heap.size + 1) ⟨s, 0, 0⟩ (HR0.out _) (HOK.out (by have := HL.out; omega))).mono ?_
    rintro E w4 ⟨v, rfl, hv, h4⟩
    rw [← HXB.out] at hv h4
    obtain ⟨cs, rfl, hl8, ho8, hi8, hM⟩ := hv.of
    have HL8 := Lib.hid (And.intro hl8 (And.intro ho8 hi8))
    have hsz4 : w.heap.size + 2 ≤ w4.heap.size := by have := h4.kp.size; simp at this; omega
    have hW0 : ∀ o p, Below w.heap.size w ((w.alloc o).alloc p) := fun o p => ((Below.refl _ _).alloc (Nat.le_refl _) _).alloc (by simp) _
    have HR4 := Lib.hid (h4.keep (k := w.heap.size) ((((Below.refl (w.alloc (.cells #[.int .i64 0, .bool false, .bool false, .string ⟨#[]⟩, .int .i64 0, .string ⟨#[]⟩, .slice none 0 0, .slice none 0 0] 28)).heap.size _).alloc (Nat.le_refl _) _).block w.heap.size (by simp)).trans (blk_new w _)) (by omega))
    have HB4 : Hid (Below w.heap.size w w4) := Lib.hid ((hW0 _ _).grown h4.kp (by simp; omega) (fun k e => by injection e with e; omega))
    have HM4 := Lib.hid hM
    have H4 := Lib.hid h4.now
    have HS4 := Lib.hid hsz4
    clear hv h4 hM hl8 ho8 hi8 hW0 hsz4 hsz
    go_wp2_with (refine row_event rfl 28 (.tmp 5) (.tmp 14) rfl w4.heap.size cs.toArray rfl rfl 28 _ (blk_new w4 _) HL8.out.2.2 HL8.out.1.symm HL8.out.2.1 ?_; intro w5 hr5 hk5)
    have hal := (Below.refl w4.heap.size w4).alloc (Nat.le_refl _) (.cells #[.int .i64 0, .bool false, .bool false, .string ⟨#[]⟩, .int .i64 0, .string ⟨#[]⟩, .slice none 0 0, .slice none 0 0] 28)
    have hB45 : Below w4.heap.size w4 w5 := hal.grown hk5 (by simp) (fun k e => Nat.le_of_eq (Option.some.inj e))
    have H5 := Lib.hid ((H4.out.below hB45).now)
    have HR5 := Lib.hid ((hB45.block _ (by have := HS4.out; omega)).trans HR4.out)
    have HV5 := Lib.hid hr5
    have HM5 := Lib.hid (k28.M_mono (fun _ _ => trivial) (Kd.M_below HM4.out hB45))
    have HB5 := Lib.hid (HB4.out.trans (hB45.mono (by have := HS4.out; omega)))
    have HS5 : Hid (w4.heap.size < w5.heap.size) := Lib.hid (Nat.lt_of_lt_of_le (by simp) hk5.size)
    clear hal hB45 hr5 hk5
    go_wp2_with fail
    refine (skip_calls H5.out).mono ?_
    rintro E w6 ⟨rfl, h6⟩
    have HR := Lib.hid (h6.keep HR5.out (by omega))
    have HV := Lib.hid (h6.keep HV5.out (by have := HS4.out; omega))
    have HM := Lib.hid (KeptM.far HM5.out h6.kp (by left; simp))
    have HB := Lib.hid (HB5.out.grown h6.kp HB5.out.size (fun k e => by injection e with e; omega))
    have H := Lib.hid h6.now
    clear h6
    have c0 := H.out.c0
    by_cases hs : b.skip.s = []
    · have HE : Hid (b.skip = b.ended) := Lib.hid (by unfold S.ended; rw [if_pos hs])
      have q0 : (ofL b.skip.s).toList.isEmpty = true := by rw [hs, ofL_toList]; rfl
      clear hs
      rw [HE.out] at H
      have c2 := H.out.c2
      by_cases he : b.ended.e = 0
      · have e1 : (b.ended.e != 0) = false := by simp [he]
        have HG : Hid (parseV fv s = (x, 0)) := Lib.hid (by rw [HF.out, if_pos he])
        clear he
        go_wp2_with (first | (refine wpList_load_row rfl 28 (.tmp 5) rfl w4.heap.size rfl 28 cs.toArray (0, 0) _ HV.out Tryz.underlying28 rfl HL8.out.2.2 ?_) | (refine row_event rfl 28 (.tmp 2) (.tmp 34) rfl w.heap.size cs.toArray rfl rfl 28 _ HR.out HL8.out.2.2 HL8.out.1.symm HL8.out.2.1 ?_; intro w9 hr9 hk9))
        refine bodyPost_ret (results_list (rs := [.cell 2 28, .tmp 3]) rfl (by simp) (.cell w.heap.size 28 _ (0, 0) _ rfl hr9 Tryz.underlying28 rfl HL8.out.2.2 (.tmp .nil))) rfl ?_
        rw [HG.out]
        exact ⟨_, rfl, Jv.up HM.out hk9 (by simp; omega) (by simp; omega), HB.out.grown hk9 HB.out.size (fun k e => Nat.le_of_eq (Option.some.inj e))⟩
      · have e1 : (b.ended.e != 0) = true := by simp [he]
        have HG : Hid (parseV fv s = (z28, b.ended.e)) := Lib.hid (by rw [HF.out, if_neg he])
        clear he
        go_wp2_with fail
        have r0 : w6.cell? ⟨w.heap.size, 0, none⟩ = some (.int .i64 0) := (blk_cell HR.out 0).trans rfl
        have r1 : w6.cell? ⟨w.heap.size, 1, none⟩ = some (.bool false) := (blk_cell HR.out 1).trans rfl
        have r2 : w6.cell? ⟨w.heap.size, 2, none⟩ = some (.bool false) := (blk_cell HR.out 2).trans rfl
        have r3 : w6.cell? ⟨w.heap.size, 3, none⟩ = some (.string ⟨#[]⟩) := (blk_cell HR.out 3).trans rfl
        have r4 : w6.cell? ⟨w.heap.size, 4, none⟩ = some (.int .i64 0) := (blk_cell HR.out 4).trans rfl
        have r5 : w6.cell? ⟨w.heap.size, 5, none⟩ = some (.string ⟨#[]⟩) := (blk_cell HR.out 5).trans rfl
        have r6 : w6.cell? ⟨w.heap.size, 6, none⟩ = some (.slice none 0 0) := (blk_cell HR.out 6).trans rfl
        have r7 : w6.cell? ⟨w.heap.size, 7, none⟩ = some (.slice none 0 0) := (blk_cell HR.out 7).trans rfl
        have f0 := blk_frozen HR.out 0
        have f1 := blk_frozen HR.out 1
        have f2 := blk_frozen HR.out 2
        have f3 := blk_frozen HR.out 3
        have f4 := blk_frozen HR.out 4
        have f5 := blk_frozen HR.out 5
        have f6 := blk_frozen HR.out 6
        have f7 := blk_frozen HR.out 7
        go_region
        have hr9 := blk_drew (blk_put (blk_put (blk_put (blk_put (blk_put (blk_put (blk_put (blk_put HR.out 0 (.int .i64 0) rfl) 1 (.bool false) rfl) 2 (.bool false) rfl) 3 (.string ⟨#[]⟩) rfl) 4 (.int .i64 0) rfl) 5 (.string ⟨#[]⟩) rfl) 6 (.slice none 0 0) rfl) 7 (.slice none 0 0) rfl)
        have hb9 := Below.drew (Below.setCell (Below.setCell (Below.setCell (Below.setCell (Below.setCell (Below.setCell (Below.setCell (Below.setCell HB.out (p := ⟨w.heap.size, 0, none⟩) (Nat.le_refl _) (.int .i64 0)) (p := ⟨w.heap.size, 1, none⟩) (Nat.le_refl _) (.bool false)) (p := ⟨w.heap.size, 2, none⟩) (Nat.le_refl _) (.bool false)) (p := ⟨w.heap.size, 3, none⟩) (Nat.le_refl _) (.string ⟨#[]⟩)) (p := ⟨w.heap.size, 4, none⟩) (Nat.le_refl _) (.int .i64 0)) (p := ⟨w.heap.size, 5, none⟩) (Nat.le_refl _) (.string ⟨#[]⟩)) (p := ⟨w.heap.size, 6, none⟩) (Nat.le_refl _) (.slice none 0 0)) (p := ⟨w.heap.size, 7, none⟩) (Nat.le_refl _) (.slice none 0 0))
        clear r0 r1 r2 r3 r4 r5 r6 r7 f0 f1 f2 f3 f4 f5 f6 f7
        go_wp2
        refine bodyPost_ret (results_list (rs := [.cell 2 28, .tmp 3]) rfl (by simp) (.cell w.heap.size 28 _ (0, 0) _ rfl hr9 Tryz.underlying28 rfl (by kernel_rfl) (.tmp .nil))) rfl ?_
        rw [HG.out]
        exact ⟨_, rfl, Jv.flat _ _ z28 rfl rfl, hb9⟩
    · have HE : Hid (b.skip.fail 11 = b.ended) := Lib.hid (by unfold S.ended; rw [if_neg hs])
      have q0 : (ofL b.skip.s).toList.isEmpty = false := by rw [ofL_toList]; cases h : b.skip.s with | nil => exact absurd h hs | cons c t => rfl
      clear hs
      go_wp2_with fail
      refine (fail_calls H.out 11).mono ?_
      rintro E w7 ⟨rfl, h7⟩
      rw [HE.out] at h7
      have HR6 := HR
      have HV6 := HV
      have HM6 := HM
      have HB6 := HB
      clear c0 q0 HR HV HM HB H
      have HR := Lib.hid (h7.keep HR6.out (by omega))
      have HV := Lib.hid (h7.keep HV6.out (by have := HS4.out; omega))
      have HM := Lib.hid (KeptM.far HM6.out h7.kp (by left; simp))
      have HB := Lib.hid (HB6.out.grown h7.kp HB6.out.size (fun k e => by injection e with e; omega))
      have H := Lib.hid h7.now
      clear h7
      have c2 := H.out.c2
      by_cases he : b.ended.e = 0
      · have e1 : (b.ended.e != 0) = false := by simp [he]
        have HG : Hid (parseV fv s = (x, 0)) := Lib.hid (by rw [HF.out, if_pos he])
        clear he
        go_wp2_with (first | (refine wpList_load_row rfl 28 (.tmp 5) rfl w4.heap.size rfl 28 cs.toArray (0, 0) _ HV.out Tryz.underlying28 rfl HL8.out.2.2 ?_) | (refine row_event rfl 28 (.tmp 2) (.tmp 34) rfl w.heap.size cs.toArray rfl rfl 28 _ HR.out HL8.out.2.2 HL8.out.1.symm HL8.out.2.1 ?_; intro w9 hr9 hk9))
        refine bodyPost_ret (results_list (rs := [.cell 2 28, .tmp 3]) rfl (by simp) (.cell w.heap.size 28 _ (0, 0) _ rfl hr9 Tryz.underlying28 rfl HL8.out.2.2 (.tmp .nil))) rfl ?_
        rw [HG.out]
        exact ⟨_, rfl, Jv.up HM.out hk9 (by simp; omega) (by simp; omega), HB.out.grown hk9 HB.out.size (fun k e => Nat.le_of_eq (Option.some.inj e))⟩
      · have e1 : (b.ended.e != 0) = true := by simp [he]
        have HG : Hid (parseV fv s = (z28, b.ended.e)) := Lib.hid (by rw [HF.out, if_neg he])
        clear he
        go_wp2_with fail
        have r0 : w7.cell? ⟨w.heap.size, 0, none⟩ = some (.int .i64 0) := (blk_cell HR.out 0).trans rfl
        have r1 : w7.cell? ⟨w.heap.size, 1, none⟩ = some (.bool false) := (blk_cell HR.out 1).trans rfl
        have r2 : w7.cell? ⟨w.heap.size, 2, none⟩ = some (.bool false) := (blk_cell HR.out 2).trans rfl
        have r3 : w7.cell? ⟨w.heap.size, 3, none⟩ = some (.string ⟨#[]⟩) := (blk_cell HR.out 3).trans rfl
        have r4 : w7.cell? ⟨w.heap.size, 4, none⟩ = some (.int .i64 0) := (blk_cell HR.out 4).trans rfl
        have r5 : w7.cell? ⟨w.heap.size, 5, none⟩ = some (.string ⟨#[]⟩) := (blk_cell HR.out 5).trans rfl
        have r6 : w7.cell? ⟨w.heap.size, 6, none⟩ = some (.slice none 0 0) := (blk_cell HR.out 6).trans rfl
        have r7 : w7.cell? ⟨w.heap.size, 7, none⟩ = some (.slice none 0 0) := (blk_cell HR.out 7).trans rfl
        have f0 := blk_frozen HR.out 0
        have f1 := blk_frozen HR.out 1
        have f2 := blk_frozen HR.out 2
        have f3 := blk_frozen HR.out 3
        have f4 := blk_frozen HR.out 4
        have f5 := blk_frozen HR.out 5
        have f6 := blk_frozen HR.out 6
        have f7 := blk_frozen HR.out 7
        go_region
        have hr9 := blk_drew (blk_put (blk_put (blk_put (blk_put (blk_put (blk_put (blk_put (blk_put HR.out 0 (.int .i64 0) rfl) 1 (.bool false) rfl) 2 (.bool false) rfl) 3 (.string ⟨#[]⟩) rfl) 4 (.int .i64 0) rfl) 5 (.string ⟨#[]⟩) rfl) 6 (.slice none 0 0) rfl) 7 (.slice none 0 0) rfl)
        have hb9 := Below.drew (Below.setCell (Below.setCell (Below.setCell (Below.setCell (Below.setCell (Below.setCell (Below.setCell (Below.setCell HB.out (p := ⟨w.heap.size, 0, none⟩) (Nat.le_refl _) (.int .i64 0)) (p := ⟨w.heap.size, 1, none⟩) (Nat.le_refl _) (.bool false)) (p := ⟨w.heap.size, 2, none⟩) (Nat.le_refl _) (.bool false)) (p := ⟨w.heap.size, 3, none⟩) (Nat.le_refl _) (.string ⟨#[]⟩)) (p := ⟨w.heap.size, 4, none⟩) (Nat.le_refl _) (.int .i64 0)) (p := ⟨w.heap.size, 5, none⟩) (Nat.le_refl _) (.string ⟨#[]⟩)) (p := ⟨w.heap.size, 6, none⟩) (Nat.le_refl _) (.slice none 0 0)) (p := ⟨w.heap.size, 7, none⟩) (Nat.le_refl _) (.slice none 0 0))
        clear r0 r1 r2 r3 r4 r5 r6 r7 f0 f1 f2 f3 f4 f5 f6 f7
        go_wp2
        refine bodyPost_ret (results_list (rs := [.cell 2 28, .tmp 3]) rfl (by simp) (.cell w.heap.size 28 _ (0, 0) _ rfl hr9 Tryz.underlying28 rfl (by kernel_rfl) (.tmp .nil))) rfl ?_
        rw [HG.out]
        exact ⟨_, rfl, Jv.flat _ _ z28 rfl rfl, hb9⟩
end Js
end Go.Proofs.YtapcpndplnkfjaaGreatDoor
namespace Go.Proofs.YtapcpndplnkfjaaGreatDoor
open Go.RowKit Go.Proofs.YtapcpndplnkfjaaGreatDoorW.PrintWords Go.Proofs.YtapcpndplnkfjaaGreatDoorW.PrintLast Go.Proofs.YtapcpndplnkfjaaGreatDoorW.PrintMore
set_option linter.unusedVariables false
set_option linter.unusedSimpArgs false
namespace Js
def S.enter0 (a : S) : S := if a.o = 16 then a.fail 35 else a
def S.enter1 (b : S) : S := if b.e = 0 then { b with o := b.o + 1, s := b.s.tail } else { b with o := b.o + 1 }
def S.enter (a : S) : S := a.enter0.enter1
theorem enter1_tail (b : S) (h : b.e = 0) : b.enter1 = { b with o := b.o + 1, s := b.s.tail } := by unfold S.enter1; rw [if_pos h]
set_option maxRecDepth 100000 in
set_option maxHeartbeats 2000000 in
theorem enter_calls {w w1 : World} {g : Nat} {a : S} (h : Rd w w1 g a) (ho : 0 ≤ a.o ∧ a.o ≤ 100) (hs : a.s ≠ []) : Calls Tryz.prog 120 #[.pointer (some ⟨g, 0, none⟩)] w1 fun E w' => E = .returned (.tuple #[]) ∧ Rd w w' g a.enter := by
  obtain ⟨b, hb⟩ : ∃ b, a.enter0 = b := ⟨_, rfl⟩
  have hbs : b.s = a.s ∧ b.o = a.o := by rw [← hb]; unfold S.enter0; split <;> exact ⟨rfl, rfl⟩
  have HEN : Hid (a.enter = b.enter1) := Lib.hid (by unfold S.enter; rw [hb])
  have HB := Lib.hid hb
  have c1 := h.c1
  have H := Lib.hid h
  have HS := Lib.hid hs
  have HO := Lib.hid ho
  have HBS := Lib.hid hbs
  clear h hs ho hb hbs
  have hsz : 1 ≤ (ofL b.s).size := by rw [ofL_size, HBS.out.1]; cases h : a.s with | nil => exact absurd h HS.out | cons c t => simp
  have ho0 : 0 ≤ b.o := by rw [HBS.out.2]; exact HO.out.1
  have ho1 : b.o ≤ 100 := by rw [HBS.out.2]; exact HO.out.2
  have HX : Hid ((ofL b.s).extract 1 (ofL b.s).size = ofL b.s.tail) := Lib.hid (by
    rw [ofL_ext, ofL_size, List.take_length, List.drop_one])
  by_cases h16 : a.o = 16
  · have q : (a.o == 16) = true := by simp [h16]
    have HB2 : Hid (a.fail 35 = b) := Lib.hid (by rw [← HB.out]; unfold S.enter0; rw [if_pos h16])
    clear h16
    go_enter Tryz.func120, Tryz.ntmps120
    go_wp2_with fail
    refine (fail_calls H.out 35).mono ?_
    rintro E w2 ⟨rfl, h2⟩
    rw [HB2.out] at h2
    have H2 := Lib.hid h2
    clear h2 c1
    have c0 := H2.out.c0
    have c1 := H2.out.c1
    have c2 := H2.out.c2
    have f0 := H2.out.fz 0
    have f1 := H2.out.fz 1
    by_cases he : b.e = 0
    · have e1 : (b.e == 0) = true := by simp [he]
      have HT := Lib.hid (enter1_tail b he)
      clear he
      go_wp2
      go_end0
      refine ⟨rfl, ?_⟩
      rw [HEN.out, HT.out]
      rw [HX.out]
      exact (H2.out.s1 _).s0 _
    · have e1 : (b.e == 0) = false := by simp [he]
      have HT : Hid (b.enter1 = { b with o := b.o + 1 }) := Lib.hid (by unfold S.enter1; rw [if_neg he])
      clear he
      go_wp2
      go_end0
      refine ⟨rfl, ?_⟩
      rw [HEN.out, HT.out]
      exact H2.out.s1 _
  · have q : (a.o == 16) = false := by simp [h16]
    have hab : a = b := by rw [← HB.out]; unfold S.enter0; rw [if_neg h16]
    clear h16
    subst hab
    clear c1
    go_enter Tryz.func120, Tryz.ntmps120
    have c0 := H.out.c0
    have c1 := H.out.c1
    have c2 := H.out.c2
    have f0 := H.out.fz 0
    have f1 := H.out.fz 1
    by_cases he : a.e = 0
    · have e1 : (a.e == 0) = true := by simp [he]
      have HT := Lib.hid (enter1_tail a he)
      clear he
      go_wp2
      go_end0
      refine ⟨rfl, ?_⟩
      rw [HEN.out, HT.out]
      rw [HX.out]
      exact (H.out.s1 _).s0 _
    · have e1 : (a.e == 0) = false := by simp [he]
      have HT : Hid (a.enter1 = { a with o := a.o + 1 }) := Lib.hid (by unfold S.enter1; rw [if_neg he])
      clear he
      go_wp2
      go_end0
      refine ⟨rfl, ?_⟩
      rw [HEN.out, HT.out]
      exact H.out.s1 _
end Js
end Go.Proofs.YtapcpndplnkfjaaGreatDoor
