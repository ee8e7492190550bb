/- What the law rests on, part 1: joined by a program of this session (claimx.py). -/
import Derived.Test.YtapcpndplnkfjaaGreatDoorProg
import Derived.Test.YtapcpndplnkfjaaGreatDoorCards
import Derived.Test.YtapcpndplnkfjaaGreatDoorTie
import Derived.Shelf.Strings.Builder1
import Derived.Shelf.Strings.Builder2
import Derived.Shelf.Strings.OnBuilder
import Derived.Shelf.Strings.Trim
import Derived.Shelf.Small.Utf8
import Derived.Shelf.Small.Strs
import Derived.Shelf.Small.Wraps
import Derived.Shelf.Strings.BuilderF
import Derived.Shelf.Strings.BuilderK
import Derived.Shelf.Strings.BuilderRune
import Derived.Shelf.Strings.Builder2Cap
import Derived.Shelf.Strconv.Itoa0
import Derived.Shelf.Strconv.Itoa1
import Derived.Shelf.LaysM
import Derived.Shelf.Strconv.Itoa2
import Derived.Shelf.Strconv.Itoa3
import Derived.Shelf.Strings.Search1
import Derived.Shelf.Strings.Search2
import Derived.Shelf.Strings.Search3
import Derived.Shelf.Strings.Shaped
import Derived.Shelf.Strings.Prefix
import Derived.Shelf.Unicode.Latin
import Derived.Shelf.Strings.Runes
import Derived.Shelf.Strings.AsciiSet
import Derived.Shelf.Unicode.DecodeSlow
import Derived.Shelf.Unicode.DecodeAny
import Derived.Shelf.Unicode.CaseLookup
import Derived.Shelf.Unicode.CaseConvert
import Derived.Shelf.Unicode.CaseTo
import Derived.Shelf.Unicode.CaseLaid
import Derived.Shelf.Strings.MapAny
import Derived.Shelf.Strings.CaseAny
import Derived.Shelf.Strings.BuilderCap
import Derived.Shelf.Slices.Equal
import Derived.Shelf.Slices.Empties2
import Derived.Below
import Derived.Deep.Draws
import Derived.Deep.AppendLies
import Derived.Maps.AppendAt
import Derived.OwnWalk
import Derived.Laws.BytesArg
import Derived.Laws.MakeOwn
import Derived.Laws.OwnMore
import Derived.Deep.OwnRows
import Derived.Tactics
import Derived.Lib.ConvBytes
import Derived.Laws.Slices
import Derived.WalkKit
import Derived.KernelRfl
import Derived.RowKit3
import Derived.Deep.LoopGhost
import Derived.Deep.QuietTactic
import Derived.BigQuiet
import Derived.WideLaws
import Derived.Deep.DeepCutAuto
import Derived.Deep.CutBlock
import Derived.Deep.RegionHeld3
import Derived.Laws.Rows
import Derived.Lib.AppendStr
import Derived.ArgAppend
import Derived.Laws.IdiomCopy
import Derived.RowKit
import Derived.Shelf.Strings.SlTrimAscii
import Derived.WalkSmall
import Derived.Lib.Hide
import Derived.Laws.RangeAny
import Derived.LoopTactic
import Derived.OrdersHeld
import Derived.Laws.BitsLemmas
import Derived.Laws.StructEq
import Derived.WalkLawsBesides
import Derived.OneCell
import Derived.StillTailTactics
import Derived.RegionTactic
import Derived.ChangeAlike
import Derived.PinnedBridge
import Derived.Lay
import Derived.LaidSub
import Derived.ProofKit
import Derived.OpenShut
import Derived.ShutString
import Derived.Deep.DeepHandedRow
import Derived.Lib.LaidTab
import Derived.Lib.LaidU8
import Derived.Lib.LaidCase
import Derived.Lib.SmallJoins
import Derived.Stop.LaidErr
import Derived.Stop.Joined
import Derived.IntWalk
import Derived.MapKept
import Derived.Shelf.Spec.SlicesInsertGrow
import Derived.Laws.CopyRow
import Derived.Shelf.Spec.SearchS
import Derived.Laws.Runes
import Derived.Scope
import Derived.Handy
import Derived.BigRegion
import Derived.RegionCalls
import Derived.Lib.QuoteLoop
import Derived.Lib.AppendZeros
import Derived.Lib.SliceRun
import Derived.Lib.ItoaLen
import Derived.ChangeOld
import Derived.SizedLaws
set_option linter.unusedVariables false
set_option linter.unusedSimpArgs false
namespace Go.Proofs
theorem hi_ {p : Prop} (h : p) : RowKit.Hid p := h
end Go.Proofs
namespace Go.Proofs
open Go.Shelf
def Tryz.lays169_ren : Go.Shelf.Ren := ⟨fun | 169 => 86 | n => n, fun | 70 => 124 | 9 => 9 | 0 => 0 | 72 => 126 | 37 => 38 | 127 => 153 | 3 => 3 | 5 => 5 | n => n, fun | n => n⟩
theorem Tryz.lays169 : Go.Proofs.Lays.n169 Tryz.prog Tryz.lays169_ren := {
 mixed := by kernel_rfl
 f169 := Tryz.func86.trans (congrArg some (by kernel_rfl))
 t0 := Tryz.underlying0
 a0 := Tryz.isAgg0
 z0 := Tryz.sizeOf0
 v0 := Tryz.zeroValue0
 t3 := Tryz.underlying3
 a3 := Tryz.isAgg3
 z3 := Tryz.sizeOf3
 v3 := Tryz.zeroValue3
 t9 := Tryz.underlying9
 a9 := Tryz.isAgg9
 z9 := Tryz.sizeOf9
 v9 := Tryz.zeroValue9
 t37 := Tryz.underlying38
 a37 := Tryz.isAgg38
 z37 := Tryz.sizeOf38
 v37 := Tryz.zeroValue38
 t70 := Tryz.underlying124
 a70 := Tryz.isAgg124
 z70 := Tryz.sizeOf124
 v70 := Tryz.zeroValue124
 t72 := Tryz.underlying126
 a72 := Tryz.isAgg126
 z72 := Tryz.sizeOf126
 v72 := Tryz.zeroValue126
 t127 := Tryz.underlying153
 a127 := Tryz.isAgg153
 z127 := Tryz.sizeOf153
 v127 := Tryz.zeroValue153 }
theorem Tryz.Builder_Extra_169 : Builder.Extra Tryz.prog Tryz.lays169_ren := {
 sizeBuilder := by kernel_rfl
 liesBuilder := by kernel_rfl
 t5 := Tryz.underlying5
 a5 := Tryz.isAgg5
 z5 := Tryz.sizeOf5
 v5 := Tryz.zeroValue5
 infoByte := by kernel_rfl
 cellsByte := by kernel_rfl
 sizeByte := by kernel_rfl
 neB5 := by decide }
open Go.RowKit in
theorem Tryz.Builder_String_any (B b : Nat) (l : List UInt8) (w : World) (h : Lib.IsBuilder 126 5 B b (Lib.byteCells l) w) (hBw : B ≤ w.heap.size) :
    Calls Tryz.prog 86 #[.pointer (some ⟨b, 0, none⟩)] w fun e w' => e = .returned (.string ⟨l.toArray⟩) ∧ Below B w w' := Any.Builder_String_any Tryz.lays169 Tryz.Builder_Extra_169 B b l w h hBw
def Tryz.lays159_ren : Go.Shelf.Ren := ⟨fun | 159 => 177 | 165 => 87 | 166 => 85 | 167 => 84 | 169 => 86 | 230 => 183 | 204 => 184 | 240 => 114 | 241 => 115 | 197 => 136 | 118 => 187 | 168 => 188 | 270 => 189 | 262 => 190 | 276 => 143 | 277 => 144 | 260 => 153 | 242 => 192 | 313 => 193 | 278 => 194 | 274 => 195 | 275 => 196 | n => n, fun | 9 => 9 | 4 => 4 | 3 => 3 | 5 => 5 | 72 => 126 | 0 => 0 | 76 => 130 | 75 => 128 | 107 => 201 | 70 => 124 | 20 => 20 | 37 => 38 | 127 => 153 | 21 => 21 | 105 => 165 | 164 => 172 | 162 => 212 | 203 => 210 | 119 => 189 | 46 => 132 | 139 => 192 | 138 => 191 | 51 => 196 | 160 => 213 | 208 => 219 | 206 => 217 | 80 => 115 | n => n, fun | 13 => 7 | 3 => 2 | 4 => 3 | n => n⟩
theorem Tryz.lays159 : Go.Proofs.Lays.n159 Tryz.prog Tryz.lays159_ren := {
 mixed := by kernel_rfl
 f118 := Tryz.func187.trans (congrArg some (by kernel_rfl))
 f159 := Tryz.func177.trans (congrArg some (by kernel_rfl))
 f165 := Tryz.func87.trans (congrArg some (by kernel_rfl))
 f166 := Tryz.func85.trans (congrArg some (by kernel_rfl))
 f167 := Tryz.func84.trans (congrArg some (by kernel_rfl))
 f168 := Tryz.func188.trans (congrArg some (by kernel_rfl))
 f169 := Tryz.func86.trans (congrArg some (by kernel_rfl))
 f197 := Tryz.func136.trans (congrArg some (by kernel_rfl))
 f204 := Tryz.func184.trans (congrArg some (by kernel_rfl))
 f230 := Tryz.func183.trans (congrArg some (by kernel_rfl))
 f240 := Tryz.func114.trans (congrArg some (by kernel_rfl))
 f241 := Tryz.func115.trans (congrArg some (by kernel_rfl))
 f242 := Tryz.func192.trans (congrArg some (by kernel_rfl))
 f260 := Tryz.func153.trans (congrArg some (by kernel_rfl))
 f262 := Tryz.func190.trans (congrArg some (by kernel_rfl))
 f270 := Tryz.func189.trans (congrArg some (by kernel_rfl))
 f274 := Tryz.func195.trans (congrArg some (by kernel_rfl))
 f275 := Tryz.func196.trans (congrArg some (by kernel_rfl))
 f276 := Tryz.func143.trans (congrArg some (by kernel_rfl))
 f277 := Tryz.func144.trans (congrArg some (by kernel_rfl))
 f278 := Tryz.func194.trans (congrArg some (by kernel_rfl))
 f313 := Tryz.func193.trans (congrArg some (by kernel_rfl))
 t0 := Tryz.underlying0
 a0 := Tryz.isAgg0
 z0 := Tryz.sizeOf0
 v0 := Tryz.zeroValue0
 t3 := Tryz.underlying3
 a3 := Tryz.isAgg3
 z3 := Tryz.sizeOf3
 v3 := Tryz.zeroValue3
 t4 := Tryz.underlying4
 a4 := Tryz.isAgg4
 z4 := Tryz.sizeOf4
 v4 := Tryz.zeroValue4
 t5 := Tryz.underlying5
 a5 := Tryz.isAgg5
 z5 := Tryz.sizeOf5
 v5 := Tryz.zeroValue5
 t9 := Tryz.underlying9
 a9 := Tryz.isAgg9
 z9 := Tryz.sizeOf9
 v9 := Tryz.zeroValue9
 t20 := Tryz.underlying20
 a20 := Tryz.isAgg20
 z20 := Tryz.sizeOf20
 v20 := Tryz.zeroValue20
 t21 := Tryz.underlying21
 a21 := Tryz.isAgg21
 z21 := Tryz.sizeOf21
 v21 := Tryz.zeroValue21
 t37 := Tryz.underlying38
 a37 := Tryz.isAgg38
 z37 := Tryz.sizeOf38
 v37 := Tryz.zeroValue38
 t46 := Tryz.underlying132
 a46 := Tryz.isAgg132
 z46 := Tryz.sizeOf132
 v46 := Tryz.zeroValue132
 t51 := Tryz.underlying196
 a51 := Tryz.isAgg196
 z51 := Tryz.sizeOf196
 v51 := Tryz.zeroValue196
 t70 := Tryz.underlying124
 a70 := Tryz.isAgg124
 z70 := Tryz.sizeOf124
 v70 := Tryz.zeroValue124
 t72 := Tryz.underlying126
 a72 := Tryz.isAgg126
 z72 := Tryz.sizeOf126
 v72 := Tryz.zeroValue126
 t75 := Tryz.underlying128
 a75 := Tryz.isAgg128
 z75 := Tryz.sizeOf128
 v75 := Tryz.zeroValue128
 t76 := Tryz.underlying130
 a76 := Tryz.isAgg130
 z76 := Tryz.sizeOf130
 v76 := Tryz.zeroValue130
 t105 := Tryz.underlying165
 a105 := Tryz.isAgg165
 z105 := Tryz.sizeOf165
 v105 := Tryz.zeroValue165
 t107 := Tryz.underlying201
 a107 := Tryz.isAgg201
 z107 := Tryz.sizeOf201
 v107 := Tryz.zeroValue201
 t119 := Tryz.underlying189
 a119 := Tryz.isAgg189
 z119 := Tryz.sizeOf189
 t127 := Tryz.underlying153
 a127 := Tryz.isAgg153
 z127 := Tryz.sizeOf153
 v127 := Tryz.zeroValue153
 t138 := Tryz.underlying191
 a138 := Tryz.isAgg191
 z138 := Tryz.sizeOf191
 v138 := Tryz.zeroValue191
 t139 := Tryz.underlying192
 a139 := Tryz.isAgg192
 z139 := Tryz.sizeOf192
 v139 := Tryz.zeroValue192
 t160 := Tryz.underlying213
 a160 := Tryz.isAgg213
 z160 := Tryz.sizeOf213
 v160 := Tryz.zeroValue213
 t162 := Tryz.underlying212
 a162 := Tryz.isAgg212
 z162 := Tryz.sizeOf212
 v162 := Tryz.zeroValue212
 t164 := Tryz.underlying172
 a164 := Tryz.isAgg172
 z164 := Tryz.sizeOf172
 v164 := Tryz.zeroValue172
 t203 := Tryz.underlying210
 a203 := Tryz.isAgg210
 z203 := Tryz.sizeOf210
 v203 := Tryz.zeroValue210
 t206 := Tryz.underlying217
 a206 := Tryz.isAgg217
 z206 := Tryz.sizeOf217
 v206 := Tryz.zeroValue217
 t208 := Tryz.underlying219
 a208 := Tryz.isAgg219
 z208 := Tryz.sizeOf219
 v208 := Tryz.zeroValue219
 g3 := by kernel_rfl
 g4 := by kernel_rfl
 g13 := by kernel_rfl }
theorem Tryz.Builder_Extra_159 : Builder.Extra Tryz.prog Tryz.lays159_ren := {
 sizeBuilder := by kernel_rfl
 liesBuilder := by kernel_rfl
 t5 := Tryz.underlying5
 a5 := Tryz.isAgg5
 z5 := Tryz.sizeOf5
 v5 := Tryz.zeroValue5
 infoByte := by kernel_rfl
 cellsByte := by kernel_rfl
 sizeByte := by kernel_rfl
 neB5 := by decide }
def Tryz.lays161_ren : Go.Shelf.Ren := ⟨fun | 161 => 71 | 231 => 102 | 227 => 103 | 233 => 104 | 235 => 105 | 228 => 135 | 197 => 136 | 151 => 137 | 260 => 153 | 152 => 154 | 137 => 147 | 119 => 169 | 224 => 170 | 225 => 171 | 217 => 162 | 266 => 178 | n => n, fun | 9 => 9 | 4 => 4 | 3 => 3 | 5 => 5 | 117 => 142 | 116 => 141 | 0 => 0 | 124 => 145 | 105 => 165 | 21 => 21 | 119 => 189 | 46 => 132 | 139 => 192 | 138 => 191 | n => n, fun | 3 => 2 | 4 => 3 | n => n⟩
theorem Tryz.lays161 : Go.Proofs.Lays.n161 Tryz.prog Tryz.lays161_ren := {
 mixed := by kernel_rfl
 f119 := Tryz.func169.trans (congrArg some (by kernel_rfl))
 f137 := Tryz.func147.trans (congrArg some (by kernel_rfl))
 f151 := Tryz.func137.trans (congrArg some (by kernel_rfl))
 f152 := Tryz.func154.trans (congrArg some (by kernel_rfl))
 f161 := Tryz.func71.trans (congrArg some (by kernel_rfl))
 f197 := Tryz.func136.trans (congrArg some (by kernel_rfl))
 f217 := Tryz.func162.trans (congrArg some (by kernel_rfl))
 f224 := Tryz.func170.trans (congrArg some (by kernel_rfl))
 f225 := Tryz.func171.trans (congrArg some (by kernel_rfl))
 f227 := Tryz.func103.trans (congrArg some (by kernel_rfl))
 f228 := Tryz.func135.trans (congrArg some (by kernel_rfl))
 f231 := Tryz.func102.trans (congrArg some (by kernel_rfl))
 f233 := Tryz.func104.trans (congrArg some (by kernel_rfl))
 f235 := Tryz.func105.trans (congrArg some (by kernel_rfl))
 f260 := Tryz.func153.trans (congrArg some (by kernel_rfl))
 f266 := Tryz.func178.trans (congrArg some (by kernel_rfl))
 t0 := Tryz.underlying0
 a0 := Tryz.isAgg0
 z0 := Tryz.sizeOf0
 v0 := Tryz.zeroValue0
 t3 := Tryz.underlying3
 a3 := Tryz.isAgg3
 z3 := Tryz.sizeOf3
 v3 := Tryz.zeroValue3
 t4 := Tryz.underlying4
 a4 := Tryz.isAgg4
 z4 := Tryz.sizeOf4
 v4 := Tryz.zeroValue4
 t5 := Tryz.underlying5
 a5 := Tryz.isAgg5
 z5 := Tryz.sizeOf5
 v5 := Tryz.zeroValue5
 t9 := Tryz.underlying9
 a9 := Tryz.isAgg9
 z9 := Tryz.sizeOf9
 v9 := Tryz.zeroValue9
 t21 := Tryz.underlying21
 a21 := Tryz.isAgg21
 z21 := Tryz.sizeOf21
 v21 := Tryz.zeroValue21
 t46 := Tryz.underlying132
 a46 := Tryz.isAgg132
 z46 := Tryz.sizeOf132
 v46 := Tryz.zeroValue132
 t105 := Tryz.underlying165
 a105 := Tryz.isAgg165
 z105 := Tryz.sizeOf165
 v105 := Tryz.zeroValue165
 t116 := Tryz.underlying141
 a116 := Tryz.isAgg141
 z116 := Tryz.sizeOf141
 t117 := Tryz.underlying142
 a117 := Tryz.isAgg142
 z117 := Tryz.sizeOf142
 v117 := Tryz.zeroValue142
 t119 := Tryz.underlying189
 a119 := Tryz.isAgg189
 z119 := Tryz.sizeOf189
 t124 := Tryz.underlying145
 a124 := Tryz.isAgg145
 z124 := Tryz.sizeOf145
 v124 := Tryz.zeroValue145
 t138 := Tryz.underlying191
 a138 := Tryz.isAgg191
 z138 := Tryz.sizeOf191
 v138 := Tryz.zeroValue191
 t139 := Tryz.underlying192
 a139 := Tryz.isAgg192
 z139 := Tryz.sizeOf192
 v139 := Tryz.zeroValue192
 g3 := by kernel_rfl
 g4 := by kernel_rfl }
def Tryz.lays162_ren : Go.Shelf.Ren := ⟨fun | 162 => 152 | 232 => 166 | 227 => 103 | 234 => 167 | 236 => 168 | 228 => 135 | 271 => 180 | 151 => 137 | 120 => 186 | 197 => 136 | 152 => 154 | 260 => 153 | 137 => 147 | 119 => 169 | 224 => 170 | 225 => 171 | 217 => 162 | 266 => 178 | n => n, fun | 9 => 9 | 4 => 4 | 3 => 3 | 5 => 5 | 117 => 142 | 116 => 141 | 0 => 0 | 124 => 145 | 21 => 21 | 105 => 165 | 46 => 132 | 119 => 189 | 139 => 192 | 138 => 191 | n => n, fun | 3 => 2 | 4 => 3 | n => n⟩
theorem Tryz.lays162 : Go.Proofs.Lays.n162 Tryz.prog Tryz.lays162_ren := {
 mixed := by kernel_rfl
 f119 := Tryz.func169.trans (congrArg some (by kernel_rfl))
 f120 := Tryz.func186.trans (congrArg some (by kernel_rfl))
 f137 := Tryz.func147.trans (congrArg some (by kernel_rfl))
 f151 := Tryz.func137.trans (congrArg some (by kernel_rfl))
 f152 := Tryz.func154.trans (congrArg some (by kernel_rfl))
 f162 := Tryz.func152.trans (congrArg some (by kernel_rfl))
 f197 := Tryz.func136.trans (congrArg some (by kernel_rfl))
 f217 := Tryz.func162.trans (congrArg some (by kernel_rfl))
 f224 := Tryz.func170.trans (congrArg some (by kernel_rfl))
 f225 := Tryz.func171.trans (congrArg some (by kernel_rfl))
 f227 := Tryz.func103.trans (congrArg some (by kernel_rfl))
 f228 := Tryz.func135.trans (congrArg some (by kernel_rfl))
 f232 := Tryz.func166.trans (congrArg some (by kernel_rfl))
 f234 := Tryz.func167.trans (congrArg some (by kernel_rfl))
 f236 := Tryz.func168.trans (congrArg some (by kernel_rfl))
 f260 := Tryz.func153.trans (congrArg some (by kernel_rfl))
 f266 := Tryz.func178.trans (congrArg some (by kernel_rfl))
 f271 := Tryz.func180.trans (congrArg some (by kernel_rfl))
 t0 := Tryz.underlying0
 a0 := Tryz.isAgg0
 z0 := Tryz.sizeOf0
 v0 := Tryz.zeroValue0
 t3 := Tryz.underlying3
 a3 := Tryz.isAgg3
 z3 := Tryz.sizeOf3
 v3 := Tryz.zeroValue3
 t4 := Tryz.underlying4
 a4 := Tryz.isAgg4
 z4 := Tryz.sizeOf4
 v4 := Tryz.zeroValue4
 t5 := Tryz.underlying5
 a5 := Tryz.isAgg5
 z5 := Tryz.sizeOf5
 v5 := Tryz.zeroValue5
 t9 := Tryz.underlying9
 a9 := Tryz.isAgg9
 z9 := Tryz.sizeOf9
 v9 := Tryz.zeroValue9
 t21 := Tryz.underlying21
 a21 := Tryz.isAgg21
 z21 := Tryz.sizeOf21
 v21 := Tryz.zeroValue21
 t46 := Tryz.underlying132
 a46 := Tryz.isAgg132
 z46 := Tryz.sizeOf132
 v46 := Tryz.zeroValue132
 t105 := Tryz.underlying165
 a105 := Tryz.isAgg165
 z105 := Tryz.sizeOf165
 v105 := Tryz.zeroValue165
 t116 := Tryz.underlying141
 a116 := Tryz.isAgg141
 z116 := Tryz.sizeOf141
 t117 := Tryz.underlying142
 a117 := Tryz.isAgg142
 z117 := Tryz.sizeOf142
 v117 := Tryz.zeroValue142
 t119 := Tryz.underlying189
 a119 := Tryz.isAgg189
 z119 := Tryz.sizeOf189
 t124 := Tryz.underlying145
 a124 := Tryz.isAgg145
 z124 := Tryz.sizeOf145
 v124 := Tryz.zeroValue145
 t138 := Tryz.underlying191
 a138 := Tryz.isAgg191
 z138 := Tryz.sizeOf191
 v138 := Tryz.zeroValue191
 t139 := Tryz.underlying192
 a139 := Tryz.isAgg192
 z139 := Tryz.sizeOf192
 v139 := Tryz.zeroValue192
 g3 := by kernel_rfl
 g4 := by kernel_rfl }
def Tryz.lays137_ren : Go.Shelf.Ren := ⟨fun | 137 => 147 | 217 => 162 | 266 => 178 | n => n, fun | 9 => 9 | 5 => 5 | 3 => 3 | n => n, fun | n => n⟩
theorem Tryz.lays137 : Go.Proofs.Lays.n137 Tryz.prog Tryz.lays137_ren := {
 mixed := by kernel_rfl
 f137 := Tryz.func147.trans (congrArg some (by kernel_rfl))
 f217 := Tryz.func162.trans (congrArg some (by kernel_rfl))
 f266 := Tryz.func178.trans (congrArg some (by kernel_rfl))
 t3 := Tryz.underlying3
 a3 := Tryz.isAgg3
 z3 := Tryz.sizeOf3
 v3 := Tryz.zeroValue3
 t5 := Tryz.underlying5
 a5 := Tryz.isAgg5
 z5 := Tryz.sizeOf5
 v5 := Tryz.zeroValue5
 t9 := Tryz.underlying9
 a9 := Tryz.isAgg9
 z9 := Tryz.sizeOf9
 v9 := Tryz.zeroValue9 }
open Go.RowKit in
theorem Tryz.strings_IndexByte (s : ByteArray) (c : Int) (w : World) :
    Calls Tryz.prog 147 #[.string s, .int .u8 c] w fun e w' => e = .returned (.int .i64 (Lib.indexByte s.data.toList c.toNat.toUInt8)) ∧ w' = w := Any.strings_IndexByte Tryz.lays137 s c w
def Tryz.lays210_ren : Go.Shelf.Ren := ⟨fun | 210 => 160 | 206 => 121 | n => n, fun | 9 => 9 | 4 => 4 | 3 => 3 | n => n, fun | n => n⟩
def Tryz.lays103_ren : Go.Shelf.Ren := ⟨fun | 103 => 145 | 210 => 160 | 206 => 121 | n => n, fun | 9 => 9 | 4 => 4 | 24 => 175 | 3 => 3 | n => n, fun | n => n⟩
theorem Tryz.lays103 : Go.Proofs.Lays.n103 Tryz.prog Tryz.lays103_ren := {
 mixed := by kernel_rfl
 f103 := Tryz.func145.trans (congrArg some (by kernel_rfl))
 f206 := Tryz.func121.trans (congrArg some (by kernel_rfl))
 f210 := Tryz.func160.trans (congrArg some (by kernel_rfl))
 t3 := Tryz.underlying3
 a3 := Tryz.isAgg3
 z3 := Tryz.sizeOf3
 v3 := Tryz.zeroValue3
 t4 := Tryz.underlying4
 a4 := Tryz.isAgg4
 z4 := Tryz.sizeOf4
 v4 := Tryz.zeroValue4
 t9 := Tryz.underlying9
 a9 := Tryz.isAgg9
 z9 := Tryz.sizeOf9
 v9 := Tryz.zeroValue9
 t24 := Tryz.underlying175
 a24 := Tryz.isAgg175
 z24 := Tryz.sizeOf175
 v24 := Tryz.zeroValue175 }
open Go.RowKit in
theorem Tryz.strings_CutPrefix (s p : ByteArray) (w : World) :
    Calls Tryz.prog 145 #[.string s, .string p] w fun e w' => e = .returned (.tuple #[.string ⟨(Lib.trimPrefix s.data.toList p.data.toList).toArray⟩, .bool (Lib.hasPrefix s.data.toList p.data.toList)]) ∧ w' = w := Any.strings_CutPrefix Tryz.lays103 s p w
def Tryz.lays219_ren : Go.Shelf.Ren := ⟨fun | 219 => 179 | 217 => 162 | 225 => 171 | 224 => 170 | 267 => 185 | 266 => 178 | 314 => 191 | n => n, fun | 9 => 9 | 3 => 3 | 4 => 4 | 5 => 5 | 46 => 132 | 146 => 207 | 51 => 196 | n => n, fun | 1 => 1 | n => n⟩
def Tryz.lays144_ren : Go.Shelf.Ren := ⟨fun | 144 => 150 | 143 => 165 | 219 => 179 | 217 => 162 | 225 => 171 | 224 => 170 | 267 => 185 | 266 => 178 | 314 => 191 | n => n, fun | 9 => 9 | 4 => 4 | 3 => 3 | 5 => 5 | 46 => 132 | 146 => 207 | 51 => 196 | n => n, fun | 1 => 1 | n => n⟩
theorem Tryz.lays144 : Go.Proofs.Lays.n144 Tryz.prog Tryz.lays144_ren := {
 mixed := by kernel_rfl
 f143 := Tryz.func165.trans (congrArg some (by kernel_rfl))
 f144 := Tryz.func150.trans (congrArg some (by kernel_rfl))
 f217 := Tryz.func162.trans (congrArg some (by kernel_rfl))
 f219 := Tryz.func179.trans (congrArg some (by kernel_rfl))
 f224 := Tryz.func170.trans (congrArg some (by kernel_rfl))
 f225 := Tryz.func171.trans (congrArg some (by kernel_rfl))
 f266 := Tryz.func178.trans (congrArg some (by kernel_rfl))
 f267 := Tryz.func185.trans (congrArg some (by kernel_rfl))
 f314 := Tryz.func191.trans (congrArg some (by kernel_rfl))
 t3 := Tryz.underlying3
 a3 := Tryz.isAgg3
 z3 := Tryz.sizeOf3
 v3 := Tryz.zeroValue3
 t4 := Tryz.underlying4
 a4 := Tryz.isAgg4
 z4 := Tryz.sizeOf4
 v4 := Tryz.zeroValue4
 t5 := Tryz.underlying5
 a5 := Tryz.isAgg5
 z5 := Tryz.sizeOf5
 v5 := Tryz.zeroValue5
 t9 := Tryz.underlying9
 a9 := Tryz.isAgg9
 z9 := Tryz.sizeOf9
 v9 := Tryz.zeroValue9
 t46 := Tryz.underlying132
 a46 := Tryz.isAgg132
 z46 := Tryz.sizeOf132
 v46 := Tryz.zeroValue132
 t51 := Tryz.underlying196
 a51 := Tryz.isAgg196
 z51 := Tryz.sizeOf196
 v51 := Tryz.zeroValue196
 t146 := Tryz.underlying207
 a146 := Tryz.isAgg207
 z146 := Tryz.sizeOf207
 v146 := Tryz.zeroValue207
 g1 := by kernel_rfl }
open Go.RowKit Go.Lib in
theorem Tryz.strings_Contains_one (s : ByteArray) (c : UInt8) (w : World) :
    Calls Tryz.prog 150 #[.string s, .string ⟨#[c]⟩] w fun e w' => e = .returned (.bool (decide (0 ≤ Lib.indexByte s.data.toList c))) ∧ w' = w := Any.strings_Contains_one Tryz.lays144 s c w
def Tryz.lays99_ren : Go.Shelf.Ren := ⟨fun | 99 => 98 | 206 => 121 | n => n, fun | 9 => 9 | 4 => 4 | 3 => 3 | n => n, fun | n => n⟩
theorem Tryz.lays99 : Go.Proofs.Lays.n99 Tryz.prog Tryz.lays99_ren := {
 mixed := by kernel_rfl
 f99 := Tryz.func98.trans (congrArg some (by kernel_rfl))
 f206 := Tryz.func121.trans (congrArg some (by kernel_rfl))
 t3 := Tryz.underlying3
 a3 := Tryz.isAgg3
 z3 := Tryz.sizeOf3
 v3 := Tryz.zeroValue3
 t4 := Tryz.underlying4
 a4 := Tryz.isAgg4
 z4 := Tryz.sizeOf4
 v4 := Tryz.zeroValue4
 t9 := Tryz.underlying9
 a9 := Tryz.isAgg9
 z9 := Tryz.sizeOf9
 v9 := Tryz.zeroValue9 }
open Go.RowKit Go.Lib in
theorem Tryz.strings_HasPrefix (s p : ByteArray) (w : World) :
    Calls Tryz.prog 98 #[.string s, .string p] w fun e w' => e = .returned (.bool (Lib.hasPrefix s.data.toList p.data.toList)) ∧ w' = w := Any.strings_HasPrefix Tryz.lays99 s p w
def Tryz.lays152_ren : Go.Shelf.Ren := ⟨fun | 152 => 154 | 137 => 147 | 119 => 169 | 224 => 170 | 225 => 171 | 217 => 162 | 266 => 178 | n => n, fun | 9 => 9 | 21 => 21 | 3 => 3 | 4 => 4 | 5 => 5 | 0 => 0 | 46 => 132 | n => n, fun | n => n⟩
theorem Tryz.lays152 : Go.Proofs.Lays.n152 Tryz.prog Tryz.lays152_ren := {
 mixed := by kernel_rfl
 f119 := Tryz.func169.trans (congrArg some (by kernel_rfl))
 f137 := Tryz.func147.trans (congrArg some (by kernel_rfl))
 f152 := Tryz.func154.trans (congrArg some (by kernel_rfl))
 f217 := Tryz.func162.trans (congrArg some (by kernel_rfl))
 f224 := Tryz.func170.trans (congrArg some (by kernel_rfl))
 f225 := Tryz.func171.trans (congrArg some (by kernel_rfl))
 f266 := Tryz.func178.trans (congrArg some (by kernel_rfl))
 t0 := Tryz.underlying0
 a0 := Tryz.isAgg0
 z0 := Tryz.sizeOf0
 v0 := Tryz.zeroValue0
 t3 := Tryz.underlying3
 a3 := Tryz.isAgg3
 z3 := Tryz.sizeOf3
 v3 := Tryz.zeroValue3
 t4 := Tryz.underlying4
 a4 := Tryz.isAgg4
 z4 := Tryz.sizeOf4
 v4 := Tryz.zeroValue4
 t5 := Tryz.underlying5
 a5 := Tryz.isAgg5
 z5 := Tryz.sizeOf5
 v5 := Tryz.zeroValue5
 t9 := Tryz.underlying9
 a9 := Tryz.isAgg9
 z9 := Tryz.sizeOf9
 v9 := Tryz.zeroValue9
 t21 := Tryz.underlying21
 a21 := Tryz.isAgg21
 z21 := Tryz.sizeOf21
 v21 := Tryz.zeroValue21
 t46 := Tryz.underlying132
 a46 := Tryz.isAgg132
 z46 := Tryz.sizeOf132
 v46 := Tryz.zeroValue132 }
open Go.RowKit Go.Lib in
theorem Tryz.strings_IndexRune_ascii (s : ByteArray) (r : Int) (w : World) (h0 : 0 ≤ r) (h1 : r < 128) :
    Calls Tryz.prog 154 #[.string s, .int .i32 r] w fun e w' => e = .returned (.int .i64 (Lib.indexByte s.data.toList r.toNat.toUInt8)) ∧ w' = w := Any.strings_IndexRune_ascii Tryz.lays152 s r w h0 h1
def Tryz.lays260_ren : Go.Shelf.Ren := ⟨fun | 260 => 153 | n => n, fun | 9 => 9 | 21 => 21 | 3 => 3 | 4 => 4 | 5 => 5 | 119 => 189 | 0 => 0 | 46 => 132 | 139 => 192 | 138 => 191 | n => n, fun | 3 => 2 | 4 => 3 | n => n⟩
theorem Tryz.lays260 : Go.Proofs.Lays.n260 Tryz.prog Tryz.lays260_ren := {
 mixed := by kernel_rfl
 f260 := Tryz.func153.trans (congrArg some (by kernel_rfl))
 t0 := Tryz.underlying0
 a0 := Tryz.isAgg0
 z0 := Tryz.sizeOf0
 v0 := Tryz.zeroValue0
 t3 := Tryz.underlying3
 a3 := Tryz.isAgg3
 z3 := Tryz.sizeOf3
 v3 := Tryz.zeroValue3
 t4 := Tryz.underlying4
 a4 := Tryz.isAgg4
 z4 := Tryz.sizeOf4
 v4 := Tryz.zeroValue4
 t5 := Tryz.underlying5
 a5 := Tryz.isAgg5
 z5 := Tryz.sizeOf5
 v5 := Tryz.zeroValue5
 t9 := Tryz.underlying9
 a9 := Tryz.isAgg9
 z9 := Tryz.sizeOf9
 v9 := Tryz.zeroValue9
 t21 := Tryz.underlying21
 a21 := Tryz.isAgg21
 z21 := Tryz.sizeOf21
 v21 := Tryz.zeroValue21
 t46 := Tryz.underlying132
 a46 := Tryz.isAgg132
 z46 := Tryz.sizeOf132
 v46 := Tryz.zeroValue132
 t119 := Tryz.underlying189
 a119 := Tryz.isAgg189
 z119 := Tryz.sizeOf189
 t138 := Tryz.underlying191
 a138 := Tryz.isAgg191
 z138 := Tryz.sizeOf191
 v138 := Tryz.zeroValue191
 t139 := Tryz.underlying192
 a139 := Tryz.isAgg192
 z139 := Tryz.sizeOf192
 v139 := Tryz.zeroValue192
 g3 := by kernel_rfl
 g4 := by kernel_rfl }
def Tryz.lays197_ren : Go.Shelf.Ren := ⟨fun | 197 => 136 | 260 => 153 | n => n, fun | 9 => 9 | 21 => 21 | 3 => 3 | 4 => 4 | 5 => 5 | 105 => 165 | 119 => 189 | 0 => 0 | 46 => 132 | 139 => 192 | 138 => 191 | n => n, fun | 3 => 2 | 4 => 3 | n => n⟩
theorem Tryz.lays197 : Go.Proofs.Lays.n197 Tryz.prog Tryz.lays197_ren := {
 mixed := by kernel_rfl
 f197 := Tryz.func136.trans (congrArg some (by kernel_rfl))
 f260 := Tryz.func153.trans (congrArg some (by kernel_rfl))
 t0 := Tryz.underlying0
 a0 := Tryz.isAgg0
 z0 := Tryz.sizeOf0
 v0 := Tryz.zeroValue0
 t3 := Tryz.underlying3
 a3 := Tryz.isAgg3
 z3 := Tryz.sizeOf3
 v3 := Tryz.zeroValue3
 t4 := Tryz.underlying4
 a4 := Tryz.isAgg4
 z4 := Tryz.sizeOf4
 v4 := Tryz.zeroValue4
 t5 := Tryz.underlying5
 a5 := Tryz.isAgg5
 z5 := Tryz.sizeOf5
 v5 := Tryz.zeroValue5
 t9 := Tryz.underlying9
 a9 := Tryz.isAgg9
 z9 := Tryz.sizeOf9
 v9 := Tryz.zeroValue9
 t21 := Tryz.underlying21
 a21 := Tryz.isAgg21
 z21 := Tryz.sizeOf21
 v21 := Tryz.zeroValue21
 t46 := Tryz.underlying132
 a46 := Tryz.isAgg132
 z46 := Tryz.sizeOf132
 v46 := Tryz.zeroValue132
 t105 := Tryz.underlying165
 a105 := Tryz.isAgg165
 z105 := Tryz.sizeOf165
 v105 := Tryz.zeroValue165
 t119 := Tryz.underlying189
 a119 := Tryz.isAgg189
 z119 := Tryz.sizeOf189
 t138 := Tryz.underlying191
 a138 := Tryz.isAgg191
 z138 := Tryz.sizeOf191
 v138 := Tryz.zeroValue191
 t139 := Tryz.underlying192
 a139 := Tryz.isAgg192
 z139 := Tryz.sizeOf192
 v139 := Tryz.zeroValue192
 g3 := by kernel_rfl
 g4 := by kernel_rfl }
open Go.RowKit Go.Lib in
theorem Tryz.utf8_DecodeRuneInString (s : ByteArray) (w : World) (hT : Lib.Utf8Tabs 2 3 w) :
    Calls Tryz.prog 136 #[.string s] w fun e w' => e = .returned (.tuple #[.int .i32 (Lib.decodeGo s).1, .int .i64 (Lib.decodeGo s).2]) ∧ Below w.heap.size w w' := Any.utf8_DecodeRuneInString Tryz.lays197 s w hT
end Go.Proofs
namespace Go.Proofs.YtapcpndplnkfjaaGreatDoorW.PrintWords
open Go.RowKit
structure Aside0 (p : Prop) : Prop where mk :: (out : p)
structure Drawn0 (w w' : World) : Prop where mk :: (out : ∃ n, w' = w.drewN n)
theorem Drawn0.refl (w : World) : Drawn0 w w := ⟨⟨0, rfl⟩⟩
theorem Drawn0.step {w w' : World} (h : Drawn0 w w') (n : Nat) : Drawn0 w (w'.drewN n) := by
 obtain ⟨m, rfl⟩ := h
 exact ⟨⟨m + n, World.drewN_drewN ..⟩⟩
def bt (s : ByteArray) (i : Int) : Int := if h : i.toNat < s.size then ((s[i.toNat]'h).toNat : Int) else 0
theorem bt_at (s : ByteArray) (i : Int) : ∀ h : i.toNat < s.size, ((s[i.toNat]'h).toNat : Int) = bt s i := fun h => by simp [bt, h]
def nums (k : IntKind) (xs : List Int) : List Value := xs.map fun x => .int k x
theorem below_alloc {w W : World} (h : Below w.heap.size w W) (o : Obj) : Below w.heap.size w (W.alloc o) := h.alloc h.size o
theorem below_drew {B : Nat} {w W : World} (h : Below B w W) : Below B w W.drew := ⟨h.os, h.tape, h.output, h.size, h.block⟩
theorem pw_below_drewN {B : Nat} {w W : World} (h : Below B w W) (n : Nat) : Below B w (W.drewN n) := ⟨h.os, h.tape, h.output, h.size, h.block⟩
theorem below_then {B : Nat} {w w1 w2 : World} (h : Below B w w1) (hB : B ≤ w1.heap.size) (k : Below w1.heap.size w1 w2) : Below B w w2 :=
 h.trans ⟨k.os, k.tape, k.output, k.size, fun i hi => k.block i (Nat.lt_of_lt_of_le hi hB)⟩
theorem grown_of_below {w w1 : World} (h : Below w.heap.size w w1) (row : Option Nat) : w.grownBy w1 row := ⟨h.os, h.tape, h.output, h.size, fun i hi _ => h.block i hi⟩
theorem pw_cell_below {w w1 : World} (h : Below w.heap.size w w1) {a : Addr} {v : Value} (hc : w.cell? a = some v) : w1.cell? a = some v := (h.cell (World.block_lt_of_cell? w a hc)).trans hc
def ReadsInt (w : World) (k : IntKind) (A : Option Addr) (n : Nat) (xs : List Int) : Prop :=
 xs.length = n ∧ n ≤ 9223372036854775807 ∧ (0 < n → ∃ ad, A = some ad ∧ ∀ j, j < n → w.cell? (ad.add j) = some (.int k (xs.getD j 0)))
theorem own_nil (W : World) (base : Nat) (e : TypeId) (size : Nat) : W.ownsRow base e size (.slice none 0 0) 0 [] := ⟨by simp, .inl ⟨rfl, rfl⟩⟩
theorem own_base {w : World} {base : Nat} {e : TypeId} {size n : Nat} {v : Value} {xs : List Value} (h : w.ownsRow base e size v n xs) (k : Nat) (hk : v.ownBlock = some k) : base ≤ k := by
 rcases h.2 with ⟨rfl, _⟩ | ⟨g, cap, cur, rfl, hb, _⟩
 · simp [Value.ownBlock] at hk
 have : g = k := by simpa [Value.ownBlock] using hk
 omega
theorem own_lt {w : World} {base : Nat} {e : TypeId} {size n : Nat} {v : Value} {xs : List Value} (h : w.ownsRow base e size v n xs) (k : Nat) (hk : v.ownBlock = some k) : k < w.heap.size := by
 rcases h.2 with ⟨rfl, _⟩ | ⟨g, cap, cur, rfl, hb, hh, _⟩
 · simp [Value.ownBlock] at hk
 have : g = k := by simpa [Value.ownBlock] using hk
 subst this
 exact (Array.getElem?_eq_some_iff.1 hh).1
theorem own_slice {w : World} {base n : Nat} {e : TypeId} {size : Nat} {v : Value} {xs : List Value} (h : w.ownsRow base e size v n xs) : ∃ A c, v = .slice A n c := by
 rcases h.2 with ⟨rfl, rfl⟩ | ⟨g, cap, cur, rfl, _⟩
 · exact ⟨none, 0, rfl⟩
 exact ⟨_, cap, rfl⟩
theorem own_string {P : Program} {w : World} {base n : Nat} {e' src dst e : TypeId} {v : Value} {xs : List Int} (hs : P.underlying src = some (.slice e)) (he : P.underlying e = some (.int .u8)) (hd : P.underlying dst = some .string)
    (h : w.ownsRow base e' 1 v n (nums .u8 xs)) : (convert src dst v).run P w = .ok (.string (strOfNums xs)) w := by
 have hl : xs.length = n := by have := h.1; simp [nums] at this; exact this
 rcases h.2 with ⟨rfl, rfl⟩ | ⟨g, cap, cur, rfl, _⟩
 · obtain rfl : xs = [] := List.eq_nil_of_length_eq_zero hl
   exact run_convert_bytes_nil w src e hs he 0 0 dst hd
 · refine run_convert_bytes_arg w src e hs he g 0 n cap xs hl (fun i hi => ?_) dst hd
   have hc := h.cells (g := g) rfl i (.int .u8 (xs.getD i 0)) (by simp [nums, List.getElem?_eq_getElem (show i < xs.length by omega), List.getD_eq_getElem?_getD])
   have ha : (⟨g, 0, none⟩ : Addr).add i = ⟨g, 0 + i, none⟩ := by unfold Addr.add; split <;> simp_all
   rwa [ha] at hc
section
variable {P : Program} {ops : Array Oper} {rest : List Oper} {o : Oper} {a : Act} {Q : Exit → Act → World → Prop}
end
section
variable {P : Program}
end
section
variable {P : Program} {ops : Array Oper} {rest : List Oper} {o : Oper} {a : Act} {Q : Exit → Act → World → Prop}
end
def Reps {α : Type} (R : α → List Value → Prop) (size : Nat) (ps : List α) (cs : List Value) : Prop :=
 cs.length = ps.length * size ∧ ∀ j p, ps[j]? = some p → R p ((cs.drop (j * size)).take size)
theorem Reps.none {α : Type} (R : α → List Value → Prop) (size : Nat) : Reps R size [] [] := ⟨by simp, fun j p h => by simp at h⟩
theorem Reps.snoc {α : Type} {R : α → List Value → Prop} {size : Nat} {ps : List α} {cs c : List Value} {p : α} (h : Reps R size ps cs) (hp : R p c) (hc : c.length = size) : Reps R size (ps ++ [p]) (cs ++ c) := by
 refine ⟨by rw [List.length_append, h.1, hc, List.length_append, List.length_singleton, Nat.add_mul, Nat.one_mul], fun j q hq => ?_⟩
 rcases Nat.lt_or_ge j ps.length with hj | hj
 · rw [List.getElem?_append_left hj] at hq
   have h1 : j * size + size ≤ cs.length := by rw [h.1, ← Nat.succ_mul]; exact Nat.mul_le_mul_right _ hj
   have h2 := h.2 j q hq
   rw [List.drop_append_of_le_length (by omega), List.take_append_of_le_length (by rw [List.length_drop]; omega)]
   exact h2
 · have hj' : j = ps.length := by
     have := (List.getElem?_eq_some_iff.1 hq).1
     rw [List.length_append, List.length_singleton] at this
     omega
   subst hj'
   have hq' : p = q := by simpa using hq
   subst hq'
   rw [← h.1, List.drop_left, ← hc, List.take_length]
   exact hp
theorem Reps.imp_ {α : Type} {R R' : α → List Value → Prop} {size : Nat} {ps : List α} {cs : List Value} (h : Reps R size ps cs) (hR : ∀ p c, R p c → R' p c) : Reps R' size ps cs := ⟨h.1, fun j p hj => hR _ _ (h.2 j p hj)⟩
def ReadsRow {α : Type} (R : α → List Value → Prop) (size : Nat) (w : World) (A : Option Addr) (n : Nat) (ps : List α) : Prop :=
 ps.length = n ∧ n ≤ 9223372036854775807 ∧ (0 < n → ∃ ad, A = some ad ∧ ∀ j p, ps[j]? = some p → ∃ c, c.length = size ∧ R p c ∧ ∀ i u, c[i]? = some u → w.cell? (ad.add (j * size + i)) = some u)
theorem ReadsRow.get_ {α : Type} {R : α → List Value → Prop} {size : Nat} {w : World} {A : Option Addr} {n : Nat} {ps : List α} (h : ReadsRow R size w A n ps) (d : α) (i : Int) (h0 : 0 ≤ i) (h1 : i < n) :
    ∃ ad c, A = some ad ∧ c.length = size ∧ R (ps.getD i.toNat d) c ∧ ∀ j u, c[j]? = some u → w.cell? (ad.add (i.toNat * size + j)) = some u := by
 obtain ⟨ad, e, hc⟩ := h.2.2 (by omega)
 have hl : i.toNat < ps.length := by have := h.1; omega
 obtain ⟨c, hs, hr, hcell⟩ := hc i.toNat _ (List.getElem?_eq_getElem hl)
 refine ⟨ad, c, e, hs, ?_, hcell⟩
 rw [List.getD_eq_getElem?_getD, List.getElem?_eq_getElem hl]
 exact hr
theorem ReadsRow.imp_ {α : Type} {R R' : α → List Value → Prop} {size : Nat} {w w1 : World} {A : Option Addr} {n : Nat} {ps : List α} (h : ReadsRow R size w A n ps) (hb : Below w.heap.size w w1) (hR : ∀ p c, R p c → R' p c) : ReadsRow R' size w1 A n ps :=
 ⟨h.1, h.2.1, fun hn => by
  obtain ⟨ad, e, hc⟩ := h.2.2 hn
  refine ⟨ad, e, fun j p hj => ?_⟩
  obtain ⟨c, hs, hr, hcell⟩ := hc j p hj
  exact ⟨c, hs, hR _ _ hr, fun i u hu => pw_cell_below hb (hcell i u hu)⟩⟩
theorem own_reads_row {α : Type} {R : α → List Value → Prop} {w : World} {base n size : Nat} {e : TypeId} {v : Value} {ps : List α} {cs : List Value} (h : w.ownsRow base e size v n cs) (hR : Reps R size ps cs) (hn : ps.length = n) :
    ∃ A c, v = .slice A n c ∧ ReadsRow R size w A n ps := by
 rcases Nat.eq_zero_or_pos n with h0 | h0
 · rcases h.2 with ⟨rfl, rfl⟩ | ⟨g, cap, cur, rfl, _⟩
   · exact ⟨none, 0, rfl, hn, by omega, fun hp => absurd hp (by omega)⟩
   exact ⟨_, cap, rfl, hn, by omega, fun hp => absurd hp (by omega)⟩
 · obtain ⟨g, cap, rfl, _, _⟩ := h.form h0
   have hm : n ≤ 9223372036854775807 := by
    rcases h.2 with ⟨_, h1⟩ | ⟨g', cap', cur, he, _, _, h1, h2, _⟩
    · omega
    simp only [maxLen] at h2
    omega
   refine ⟨_, cap, rfl, hn, hm, fun _ => ⟨_, rfl, fun j p hj => ⟨(cs.drop (j * size)).take size, ?_, hR.2 j p hj, fun i u hu => ?_⟩⟩⟩
   · have hjl := (List.getElem?_eq_some_iff.1 hj).1
     have h1 : j * size + size ≤ cs.length := by rw [hR.1, ← Nat.succ_mul]; exact Nat.mul_le_mul_right _ hjl
     rw [List.length_take, List.length_drop]
     omega
   refine h.cells (g := g) rfl _ u ?_
   rw [List.getElem?_take] at hu
   split at hu
   · rw [List.getElem?_drop] at hu
     exact hu
   cases hu
section
variable {P : Program} {ops : Array Oper} {rest : List Oper} {o : Oper} {a : Act} {Q : Exit → Act → World → Prop}
theorem print_append_cells {w0 W : World} (base : Nat) (hgd : o.guard = none) (s x : Operand) (t e : TypeId) (z : Value) (size bytes : Nat)
    (ho : o.op = .call { callee := .builtin .append, args := #[s, x], argTypes := #[t, t] })
    (ht : P.underlying t = some (.slice e)) (hinfo : (P.info? e).map (fun i => (i.zero, i.size, i.bytes)) = some (some z, size, bytes)) (hz : z.cells.size = size) (hs0 : 0 < size) (hb0 : 0 < bytes)
    (v : Value) (n : Nat) (xs ys : List Value) (hs : a.eval s = v) (hx : a.eval x = .slice (some ⟨W.heap.size, 0, none⟩) 1 1) (hys : ys.length = size) (h1 : ∀ u ∈ ys, u.oneCell' = true)
    (HO : W.ownsRow base e size v n xs) (HB : Below base w0 W) (hbase : base ≤ W.heap.size) (hl : (n + 1) * bytes ≤ 140737488355328)
    (h : ∀ v1 w1, w1.ownsRow base e size v1 (n + 1) (xs ++ ys) → Below base w0 w1 → W.grownBy w1 v.ownBlock → (v1.ownBlock = v.ownBlock ∨ ∃ b, v1.ownBlock = some b ∧ W.heap.size ≤ b) → wpList P ops Q rest (a.put o.dst v1) w1) :
    wpList P ops Q (o :: rest) a (W.alloc (.cells ys.toArray e)) := by
 obtain ⟨i0, hi, hzz⟩ := Option.map_eq_some_iff.1 hinfo
 simp only [Prod.mk.injEq] at hzz
 obtain ⟨hz0, hz1, hz2⟩ := hzz
 have hlen : n + 1 ≤ 140737488355328 := Nat.le_trans (Nat.le_mul_of_pos_right _ hb0) hl
 refine wpList_append_own_at (W.alloc (.cells ys.toArray e)) hgd s x t ho base e i0 z size bytes ht hi hz0 hz1 hz2 hz hs0 v n xs hs (HO.alloc _) ⟨W.heap.size, 0, none⟩ 1 1 ys hx (by rw [hys]; simp)
  (by simpa using World.news_of_block (cs := ys.toArray) (t := e) (fr := (0, 0)) (heap_alloc_new W (.cells ys.toArray e))) h1 (by simp only [maxLen]; omega) hl (by simp; omega) ?_
 intro v1 w1 hown hg _ hat
 refine h v1 w1 hown ((HB.alloc hbase _).grown hg (by simp; omega) (own_base HO)) (World.grownBy.trans (World.grownBy_alloc W _ _) hg) ?_
 rcases hat with hat | hat
 · exact .inl hat
 · exact .inr ⟨_, hat, by simp⟩
end
theorem blk_set {w : World} {g : Nat} {t : TypeId} {cs : Array Value} (h : w.heap[g]? = some (.cells cs t (0, 0))) (i : Nat) (u : Value) : (w.setCell ⟨g, i, none⟩ u).heap[g]? = some (.cells (cs.setIfInBounds i u) t (0, 0)) := by
 simp [World.setCell, Array.getElem?_modify, h]
theorem blk_far {w : World} {g : Nat} {t : TypeId} {cs : Array Value} (h : w.heap[g]? = some (.cells cs t (0, 0))) {p : Addr} (hp : g ≠ p.block) (u : Value) : (w.setCell p u).heap[g]? = some (.cells cs t (0, 0)) := (Below.heap_setCell w p u g hp).trans h
theorem blk_lt {w : World} {g : Nat} {o : Obj} (h : w.heap[g]? = some o) : g < w.heap.size := (Array.getElem?_eq_some_iff.1 h).1
theorem blk_cell {w : World} {g : Nat} {t : TypeId} {cs : Array Value} (h : w.heap[g]? = some (.cells cs t (0, 0))) (i : Nat) : w.cell? ⟨g, i, none⟩ = cs[i]? := cell_of_row w g i cs t (0, 0) h
theorem blk_frozen {w : World} {g : Nat} {t : TypeId} {cs : Array Value} (h : w.heap[g]? = some (.cells cs t (0, 0))) (i : Nat) : w.frozen? ⟨g, i, none⟩ = false := by simp [World.frozen?, h]
theorem blk_grown {w w1 : World} {g : Nat} {o : Obj} {row : Option Nat} (h : w.heap[g]? = some o) (hg : w.grownBy w1 row) (hne : some g ≠ row) : w1.heap[g]? = some o := (hg.block g (blk_lt h) hne).trans h
def KeepBut (w w' : World) (g : Nat) (row : Option Nat) : Prop := w.heap.size ≤ w'.heap.size ∧ ∀ i, i < w.heap.size → i ≠ g → some i ≠ row → w'.heap[i]? = w.heap[i]?
theorem KeepBut.refl (w : World) (g : Nat) (row : Option Nat) : KeepBut w w g row := ⟨Nat.le_refl _, fun _ _ _ _ => rfl⟩
theorem KeepBut.of_grown {w w1 : World} {row : Option Nat} (h : w.grownBy w1 row) (g : Nat) : KeepBut w w1 g row := ⟨h.size, fun i hi _ hr => h.block i hi hr⟩
theorem KeepBut.of_below {w w1 : World} (h : Below w.heap.size w w1) (g : Nat) (row : Option Nat) : KeepBut w w1 g row := ⟨h.size, fun i hi _ _ => h.block i hi⟩
theorem KeepBut.set_ {w w1 : World} {g : Nat} {row : Option Nat} (h : KeepBut w w1 g row) (j : Nat) (u : Value) : KeepBut w (w1.setCell ⟨g, j, none⟩ u) g row :=
 ⟨by simpa [World.setCell] using h.1, fun i hi hg hr => (Below.heap_setCell w1 ⟨g, j, none⟩ u i hg).trans (h.2 i hi hg hr)⟩
theorem KeepBut.trans {w w1 w2 : World} {g : Nat} {row row1 : Option Nat} (h : KeepBut w w1 g row) (k : KeepBut w1 w2 g row1) (hr : row1 = row ∨ ∃ b, row1 = some b ∧ w.heap.size ≤ b) : KeepBut w w2 g row :=
 ⟨Nat.le_trans h.1 k.1, fun i hi hg hn => by
  refine (k.2 i (Nat.lt_of_lt_of_le hi h.1) hg ?_).trans (h.2 i hi hg hn)
  rcases hr with rfl | ⟨b, rfl, hb⟩
  · exact hn
  intro e
  injection e with e
  omega⟩
def Ev {α : Type} (g : Nat → Option α) (r : α) : Prop := ∃ K, ∀ k, K ≤ k → g k = some r
theorem Ev.now {α : Type} (r : α) : Ev (fun _ => some r) r := ⟨0, fun _ _ => rfl⟩
theorem Ev.rounds {α : Type} {g : Nat → Option α} {r : α} (h : Ev g r) : ∃ k, g k = some r := by
 obtain ⟨K, h⟩ := h
 exact ⟨K, h K (Nat.le_refl _)⟩
theorem Ev.bind {α β : Type} {g : Nat → Option α} {f : Nat → α → Option β} {a : α} {r : β} (h : Ev g a) (k : Ev (fun n => f n a) r) : Ev (fun n => (g n).bind (f n)) r := by
 obtain ⟨K, h⟩ := h
 obtain ⟨K', k⟩ := k
 refine ⟨max K K', fun n hn => ?_⟩
 have h1 := h n (by omega)
 have h2 := k n (by omega)
 simp only [h1, Option.bind_some]
 exact h2
theorem Ev.step {α : Type} {g f : Nat → Option α} {r : α} (h : ∀ k, g (k + 1) = f k) (k : Ev f r) : Ev g r := by
 obtain ⟨K, k⟩ := k
 refine ⟨K + 1, fun n hn => ?_⟩
 obtain ⟨m, rfl⟩ : ∃ m, n = m + 1 := ⟨n - 1, by omega⟩
 rw [h]
 exact k m (by omega)
theorem Ev.congr {α : Type} {g f : Nat → Option α} {r : α} (h : ∀ k, g k = f k) (k : Ev f r) : Ev g r := by
 obtain ⟨K, k⟩ := k
 exact ⟨K, fun n hn => (h n).trans (k n hn)⟩
section
variable {P : Program} {ops : Array Oper} {o : Oper} {a : Act} {Q : Exit → Act → World → Prop} {K : Act → World → Prop}
theorem step_append_cells {w0 W : World} (base : Nat) (hw : Region.wanted o (yielded ops a.tmps) = true) (s x : Operand) (t e : TypeId) (z : Value) (size bytes : Nat)
    (ho : o.op = .call { callee := .builtin .append, args := #[s, x], argTypes := #[t, t] })
    (ht : P.underlying t = some (.slice e)) (hinfo : (P.info? e).map (fun i => (i.zero, i.size, i.bytes)) = some (some z, size, bytes)) (hz : z.cells.size = size) (hs0 : 0 < size) (hb0 : 0 < bytes)
    (v : Value) (n : Nat) (xs ys : List Value) (hs : a.eval s = v) (hx : a.eval x = .slice (some ⟨W.heap.size, 0, none⟩) 1 1) (hys : ys.length = size) (h1 : ∀ u ∈ ys, u.oneCell' = true)
    (HO : W.ownsRow base e size v n xs) (HB : Below base w0 W) (hbase : base ≤ W.heap.size) (hl : (n + 1) * bytes ≤ 140737488355328)
    (h : ∀ v1 w1, w1.ownsRow base e size v1 (n + 1) (xs ++ ys) → Below base w0 w1 → W.grownBy w1 v.ownBlock → (v1.ownBlock = v.ownBlock ∨ ∃ b, v1.ownBlock = some b ∧ W.heap.size ≤ b) → K (a.put o.dst v1) w1) :
    if Region.wanted o (yielded ops a.tmps) = true then Oper.wp P o a (W.alloc (.cells ys.toArray e)) K Q else K (a.put o.dst undef) (W.alloc (.cells ys.toArray e)) := by
 obtain ⟨i0, hi, hzz⟩ := Option.map_eq_some_iff.1 hinfo
 simp only [Prod.mk.injEq] at hzz
 obtain ⟨hz0, hz1, hz2⟩ := hzz
 have hlen : n + 1 ≤ 140737488355328 := Nat.le_trans (Nat.le_mul_of_pos_right _ hb0) hl
 rw [if_pos hw]
 obtain ⟨v1, w1, hr, hown, hg, _, hat⟩ := run_append_own_at (P := P) (W.alloc (.cells ys.toArray e)) base t o.type e i0 z size bytes ht hi hz0 hz1 hz2 hz hs0 v n xs (HO.alloc _) ⟨W.heap.size, 0, none⟩ 1 1 ys (by rw [hys]; simp)
  (by simpa using World.news_of_block (cs := ys.toArray) (t := e) (fr := (0, 0)) (heap_alloc_new W (.cells ys.toArray e))) h1 (by simp only [maxLen]; omega) hl (by simp; omega)
 unfold Oper.wp execOp
 simp only [ho, resolve, invoke, builtin, Sem.run_bind, Sem.run_pure, Result.andThen_ok, List.map_toArray, List.map_cons, List.map_nil, hs, hx, hr]
 refine h v1 w1 hown ((HB.alloc hbase _).grown hg (by simp; omega) (own_base HO)) (World.grownBy.trans (World.grownBy_alloc W _ _) hg) ?_
 rcases hat with hat | hat
 · exact .inl hat
 · exact .inr ⟨_, hat, by simp⟩
end
theorem own_weaken {w : World} {base base' : Nat} {e : TypeId} {size n : Nat} {v : Value} {xs : List Value} (h : w.ownsRow base e size v n xs) (hb : base' ≤ base) : w.ownsRow base' e size v n xs := by
 obtain ⟨h1, h2⟩ := h
 refine ⟨h1, ?_⟩
 rcases h2 with h2 | ⟨g, cap, cur, rfl, hg, r⟩
 · exact .inl h2
 exact .inr ⟨g, cap, cur, rfl, Nat.le_trans hb hg, r⟩
section
variable {α : Type} {enc : α → Value} {d : α}
def encs (enc : α → Value) (xs : List α) : List Value := xs.map enc
theorem encs_length (xs : List α) : (encs enc xs).length = xs.length := by simp [encs]
theorem encs_get (xs : List α) (j : Nat) (h : j < xs.length) : (encs enc xs)[j]? = some (enc (xs.getD j d)) := by
 simp [encs, List.getElem?_eq_getElem h, List.getD_eq_getElem?_getD]
def ReadsOf (enc : α → Value) (d : α) (w : World) (A : Option Addr) (n : Nat) (xs : List α) : Prop :=
 xs.length = n ∧ n ≤ 9223372036854775807 ∧ (0 < n → ∃ ad, A = some ad ∧ ∀ j, j < n → w.cell? (ad.add j) = some (enc (xs.getD j d)))
end
section
variable {α : Type} {P : Program} {ops : Array Oper} {rest : List Oper} {o : Oper} {a : Act} {Q : Exit → Act → World → Prop}
theorem print_append_row_of {w0 W : World} (enc : α → Value) (d : α) (base : Nat) (hgd : o.guard = none) (s x : Operand) (t e : TypeId) (z : Value) (bytes : Nat)
    (ho : o.op = .call { callee := .builtin .append, args := #[s, x], argTypes := #[t, t] })
    (ht : P.underlying t = some (.slice e)) (hinfo : (P.info? e).map (fun i => (i.zero, i.size, i.bytes)) = some (some z, 1, bytes)) (hz : z.cells.size = 1) (hb0 : 0 < bytes) (h1 : ∀ x : α, (enc x).oneCell' = true)
    (v : Value) (xs ys : List α) (A : Option Addr) (m c : Nat) (hs : a.eval s = v) (hx : a.eval x = .slice A m c)
    (HO : W.ownsRow base e 1 v xs.length (encs enc xs)) (HR : ReadsOf enc d W A m ys) (HB : Below base w0 W) (hbase : base ≤ W.heap.size) (hl : (xs.length + m) * bytes ≤ 140737488355328)
    (h : ∀ v1 w1, w1.ownsRow base e 1 v1 (xs ++ ys).length (encs enc (xs ++ ys)) → Below base w0 w1 → W.grownBy w1 v.ownBlock → (v1.ownBlock = v.ownBlock ∨ ∃ b, v1.ownBlock = some b ∧ W.heap.size ≤ b) → wpList P ops Q rest (a.put o.dst v1) w1) :
    wpList P ops Q (o :: rest) a W := by
 obtain ⟨i0, hi, hzz⟩ := Option.map_eq_some_iff.1 hinfo
 simp only [Prod.mk.injEq] at hzz
 obtain ⟨hz0, hz1, hz2⟩ := hzz
 have hm : ys.length = m := HR.1
 have hlen : xs.length + m ≤ 140737488355328 := Nat.le_trans (Nat.le_mul_of_pos_right _ hb0) hl
 have hrun : ∃ v1 w1, (Builtin.append_ #[t, t] o.type #[v, .slice A m c]).run P W = .ok v1 w1 ∧ w1.ownsRow base e 1 v1 (xs ++ ys).length (encs enc (xs ++ ys)) ∧ W.grownBy w1 v.ownBlock ∧ (v1.ownBlock = v.ownBlock ∨ v1.ownBlock = some W.heap.size) := by
  rcases A with _ | ad
  · have h0 : m = 0 := by
      rcases Nat.eq_zero_or_pos m with h0 | h0
      · exact h0
      · obtain ⟨ad, h, _⟩ := HR.2.2 h0
        cases h
    subst h0
    obtain rfl : ys = [] := List.eq_nil_of_length_eq_zero hm
    refine ⟨v, W, ?_, by simpa using HO, World.grownBy.refl W _, .inl rfl⟩
    rcases HO.2 with ⟨rfl, hn⟩ | ⟨g, cap, cur, rfl, _, _, hnc, _⟩
    · simp [Builtin.append_, run_underlying ht, sizeOf, typeInfo, hi, Builtin.lenOf, Builtin.firstCells]
    · simp [Builtin.append_, run_underlying ht, sizeOf, typeInfo, hi, Builtin.lenOf, Builtin.firstCells, hnc, storeCells]
  · have hcells : ∀ j u, (encs enc ys)[j]? = some u → W.cell? (ad.add j) = some u := by
      intro j u hu
      have hj : j < ys.length := by
       rcases Nat.lt_or_ge j ys.length with h | h
       · exact h
       simp [encs, List.getElem?_eq_none h] at hu
      obtain ⟨ad', h', hc⟩ := HR.2.2 (by omega)
      injection h' with h'
      subst h'
      rw [encs_get (d := d) ys j hj] at hu
      rw [← hu]
      exact hc j (by omega)
    obtain ⟨v1, w1, hr, h2, h3, _, h5⟩ := run_append_own_at (P := P) W base t o.type e i0 z 1 bytes ht hi hz0 hz1 hz2 hz (by omega) v xs.length (encs enc xs) HO ad m c (encs enc ys) (by simp [encs, hm]) hcells
     (by intro u hu; simp only [encs, List.mem_map] at hu; obtain ⟨q, _, rfl⟩ := hu; exact h1 q) (by simp only [maxLen]; omega) hl hbase
    exact ⟨v1, w1, hr, by simpa [encs, hm] using h2, h3, h5⟩
 obtain ⟨v1, w1, hr, hown, hg, hat⟩ := hrun
 refine wpList_plain hgd fun K hK => ?_
 unfold Oper.wp execOp
 simp only [ho, resolve, invoke, builtin, Sem.run_bind, Sem.run_pure, Result.andThen_ok, List.map_toArray, List.map_cons, List.map_nil, hs, hx, hr]
 refine hK _ _ (h v1 w1 hown (HB.grown hg hbase (own_base HO)) hg ?_)
 rcases hat with hat | hat
 · exact .inl hat
 · exact .inr ⟨_, hat, Nat.le_refl _⟩
end
theorem blk_alloc {w : World} {g : Nat} {o : Obj} (h : w.heap[g]? = some o) (o' : Obj) : (w.alloc o').heap[g]? = some o := (Below.heap_alloc w o' g (blk_lt h)).trans h
theorem blk_drew {w : World} {g : Nat} {o : Obj} (h : w.heap[g]? = some o) : w.drew.heap[g]? = some o := h
theorem blk_drewN {w : World} {g : Nat} {o : Obj} (h : w.heap[g]? = some o) (n : Nat) : (w.drewN n).heap[g]? = some o := h
theorem blk_below {w w1 : World} {g : Nat} {o : Obj} (h : w.heap[g]? = some o) (hb : Below w.heap.size w w1) : w1.heap[g]? = some o := (hb.block g (blk_lt h)).trans h
theorem blk_new (w : World) (o : Obj) : (w.alloc o).heap[w.heap.size]? = some o := heap_alloc_new w o
section
variable {P : Program}
theorem results_ct {fn : Func} {p u : Tmp} {ty : TypeId} (h : fn.results = #[.cell p ty, .tmp u]) (tmps : Array Value) (w : World) (g : Nat) (t : TypeId) (cs : Array Value) (fr : Nat × Nat) (d : TypeDesc)
    (hp : tmps.getD p undef = .pointer (some ⟨g, 0, none⟩)) (hg : w.heap[g]? = some (.cells cs t fr))
    (hu : P.underlying ty = some d) (hd : (match d with | .struct _ | .array _ _ => true | _ => false) = true) (hi : (P.info? ty).map (·.size) = some cs.size) :
    (results fn tmps).run P w = .ok (.tuple #[.agg cs, tmps.getD u undef]) w := by
 have hp' : tmps[p]?.getD undef = .pointer (some ⟨g, 0, none⟩) := by simpa using hp
 simp [results, h, hp', asAddr, run_loadVar_row w g t ty cs fr d hg hu hd hi]
end
theorem own_le {w : World} {base n m c size : Nat} {e : TypeId} {A : Option Addr} {xs : List Value} (h : w.ownsRow base e size (.slice A m c) n xs) : m ≤ c := by
 rcases h.2 with ⟨he, _⟩ | ⟨g, cap, cur, he, _, _, hnc, _⟩
 · injection he with _ h2 h3
   omega
 injection he with _ h2 h3
 omega
def OwnRow {α : Type} (R : α → List Value → Prop) (e : TypeId) (size : Nat) (w : World) (base : Nat) (v : Value) (ps : List α) : Prop :=
 ∃ inner, w.ownsRow base e size v ps.length inner ∧ Reps R size ps inner
section
variable {α : Type} {R R' : α → List Value → Prop} {e : TypeId} {size : Nat} {w w1 : World} {base : Nat} {v : Value} {ps : List α}
theorem OwnRow.none_ (R : α → List Value → Prop) (e : TypeId) (size : Nat) (w : World) (base : Nat) : OwnRow R e size w base (.slice none 0 0) [] := ⟨[], own_nil _ _ _ _, Reps.none _ _⟩
theorem OwnRow.imp_ (h : OwnRow R e size w base v ps) (hR : ∀ p c, R p c → R' p c) : OwnRow R' e size w base v ps := by
 obtain ⟨inner, ho, hr⟩ := h
 exact ⟨inner, ho, hr.imp_ hR⟩
theorem OwnRow.reads (h : OwnRow R e size w base v ps) : ∃ A c, v = .slice A ps.length c ∧ ps.length ≤ c ∧ ReadsRow R size w A ps.length ps := by
 obtain ⟨inner, ho, hr⟩ := h
 obtain ⟨A, c, rfl, hrow⟩ := own_reads_row ho hr rfl
 exact ⟨A, c, rfl, own_le ho, hrow⟩
end
section
variable {P : Program} {ops : Array Oper} {rest : List Oper} {o : Oper} {a : Act} {Q : Exit → Act → World → Prop} {α : Type} {R : α → List Value → Prop}
end
section
variable {P : Program} {ops : Array Oper} {o : Oper} {a : Act} {Q : Exit → Act → World → Prop} {K : Act → World → Prop} {α : Type} {R : α → List Value → Prop}
end
theorem ReadsRow.inner_ {α : Type} {R : α → List Value → Prop} {size : Nat} {w : World} {ad : Addr} {n : Nat} {ps : List α} (h : ReadsRow R size w (some ad) n ps) :
    ∃ inner, Reps R size ps inner ∧ ∀ j u, inner[j]? = some u → w.cell? (ad.add j) = some u := by
 have key : ∀ m, m ≤ ps.length → ∃ inner, Reps R size (ps.take m) inner ∧ ∀ j u, inner[j]? = some u → w.cell? (ad.add j) = some u := by
  intro m
  induction m with
  | zero => exact fun _ => ⟨[], Reps.none _ _, fun j u hu => by simp at hu⟩
  | succ m ih =>
   intro hm
   obtain ⟨inner, hr, hc⟩ := ih (by omega)
   obtain ⟨ad', he, hcell⟩ := h.2.2 (by have := h.1; omega)
   injection he with he
   subst he
   obtain ⟨c, hcl, hp, hcc⟩ := hcell m _ (List.getElem?_eq_getElem (show m < ps.length by omega))
   refine ⟨inner ++ c, ?_, fun j u hu => ?_⟩
   · rw [List.take_succ_eq_append_getElem (show m < ps.length by omega)]
     exact hr.snoc hp hcl
   have hil : inner.length = m * size := by rw [hr.1, List.length_take, Nat.min_eq_left (by omega)]
   rcases Nat.lt_or_ge j inner.length with hj | hj
   · rw [List.getElem?_append_left hj] at hu
     exact hc j u hu
   rw [List.getElem?_append_right hj] at hu
   have := hcc (j - inner.length) u hu
   rwa [hil, Nat.add_sub_cancel' (by omega)] at this
 obtain ⟨inner, hr, hc⟩ := key ps.length (Nat.le_refl _)
 rw [List.take_length] at hr
 exact ⟨inner, hr, hc⟩
section
variable {α : Type} {P : Program}
end
section
variable {P : Program} {ops : Array Oper} {rest : List Oper} {o : Oper} {a : Act} {Q : Exit → Act → World → Prop}
end
structure Kd (α : Type) where
  sz : Nat
  E : List Nat
  K : World → α → List Value → Prop
  M : World → Nat → (Nat → Prop) → α → List Value → Prop
  K_len : ∀ {w x cs}, K w x cs → cs.length = sz
  K_one : ∀ {w x cs}, K w x cs → ∀ u ∈ cs, u.oneCell' = true
  K_below : ∀ {w w1 : World} {x cs}, Below w.heap.size w w1 → K w x cs → K w1 x cs
  K_of_M : ∀ {w base ok x cs}, M w base ok x cs → K w x cs
  M_mono : ∀ {w base ok ok' x cs}, (∀ k, ok k → ok' k) → M w base ok x cs → M w base ok' x cs
  M_bound : ∀ {w : World} {base ok x cs}, M w base ok x cs → M w base (fun k => ok k ∧ base ≤ k ∧ k < w.heap.size ∧ ∃ q, q ∈ E ∧ ∃ cells, w.heap[k]? = some (.cells cells q (0, 0))) x cs
  M_move : ∀ {w w1 : World} {base ok x cs}, (∀ k, ok k → w1.heap[k]? = w.heap[k]?) → M w base ok x cs → M w1 base ok x cs
  M_lower : ∀ {w base base' ok x cs}, base' ≤ base → M w base ok x cs → M w base' ok x cs
theorem own_move {w w1 : World} {base : Nat} {e : TypeId} {size n : Nat} {v : Value} {xs : List Value} (h : w.ownsRow base e size v n xs) (hm : ∀ k, v.ownBlock = some k → w1.heap[k]? = w.heap[k]?) : w1.ownsRow base e size v n xs := by
 obtain ⟨h1, h2⟩ := h
 refine ⟨h1, ?_⟩
 rcases h2 with h2 | ⟨g, cap, cur, rfl, hg, hh, r⟩
 · exact .inl h2
 exact .inr ⟨g, cap, cur, rfl, hg, (hm g (by simp [Value.ownBlock])).trans hh, r⟩
theorem own_typed {w : World} {base : Nat} {e : TypeId} {size n : Nat} {v : Value} {xs : List Value} (h : w.ownsRow base e size v n xs) (k : Nat) (hk : v.ownBlock = some k) : ∃ cells, w.heap[k]? = some (.cells cells e (0, 0)) := by
 rcases h.2 with ⟨rfl, _⟩ | ⟨g, cap, cur, rfl, hg, hh, r⟩
 · simp [Value.ownBlock] at hk
 have : g = k := by simpa [Value.ownBlock] using hk
 subst this
 exact ⟨cur, hh⟩
namespace Kd
def C {α : Type} (d : Kd α) (w : World) (A : Option Addr) (n : Nat) (xs : List α) : Prop := ReadsRow (d.K w) d.sz w A n xs
def R {α : Type} (d : Kd α) (e : Nat) (w : World) (base : Nat) (ok : Nat → Prop) (v : Value) (xs : List α) : Prop :=
 (∀ k, v.ownBlock = some k → ok k) ∧ OwnRow (d.M w base (fun k => ok k ∧ some k ≠ v.ownBlock)) e d.sz w base v xs
section
variable {α : Type} {d : Kd α} {e : Nat} {w w1 : World} {base : Nat} {ok ok' : Nat → Prop} {v : Value} {xs : List α}
theorem C_below {A : Option Addr} {n : Nat} (h : d.C w A n xs) (hb : Below w.heap.size w w1) : d.C w1 A n xs := ReadsRow.imp_ h hb (fun _ _ hp => d.K_below hb hp)
theorem R_nil (d : Kd α) (e : Nat) (w : World) (base : Nat) (ok : Nat → Prop) : d.R e w base ok (.slice none 0 0) [] := ⟨fun k hk => by simp [Value.ownBlock] at hk, OwnRow.none_ _ _ _ _ _⟩
theorem R_mono (h : d.R e w base ok v xs) (hok : ∀ k, ok k → ok' k) : d.R e w base ok' v xs := ⟨fun k hk => hok k (h.1 k hk), h.2.imp_ (fun _ _ hp => d.M_mono (fun k hk => ⟨hok k hk.1, hk.2⟩) hp)⟩
theorem R_bound (h : d.R e w base ok v xs) : d.R e w base (fun k => ok k ∧ base ≤ k ∧ k < w.heap.size ∧ ∃ q, q ∈ e :: d.E ∧ ∃ cells, w.heap[k]? = some (.cells cells q (0, 0))) v xs := by
 obtain ⟨h0, inner, ho, hr⟩ := h
 refine ⟨fun k hk => ?_, inner, ho, hr.imp_ (fun _ _ hp => d.M_mono (fun k hk => ?_) (d.M_bound hp))⟩
 · obtain ⟨cells, hc⟩ := own_typed ho k hk
   exact ⟨h0 k hk, own_base ho k hk, own_lt ho k hk, e, List.mem_cons_self, cells, hc⟩
 obtain ⟨⟨h1, h2⟩, h3, h4, q, hq, hc⟩ := hk
 exact ⟨⟨h1, h3, h4, q, List.mem_cons_of_mem _ hq, hc⟩, h2⟩
theorem R_move (h : d.R e w base ok v xs) (hm : ∀ k, ok k → w1.heap[k]? = w.heap[k]?) : d.R e w1 base ok v xs := by
 obtain ⟨h0, inner, ho, hr⟩ := h
 exact ⟨h0, inner, own_move ho (fun k hk => hm k (h0 k hk)), hr.imp_ (fun _ _ hp => d.M_move (fun k hk => hm k hk.1) hp)⟩
theorem R_lower {base' : Nat} (h : d.R e w base ok v xs) (hb : base' ≤ base) : d.R e w base' ok v xs := by
 obtain ⟨h0, inner, ho, hr⟩ := h
 exact ⟨h0, inner, own_weaken ho hb, hr.imp_ (fun _ _ hp => d.M_lower hb hp)⟩
theorem R_step (h : d.R e w base ok v xs) (hm : ∀ k, ok k → k < w.heap.size → w1.heap[k]? = w.heap[k]?) : d.R e w1 base ok v xs :=
 R_mono (R_move (R_bound h) (fun k hk => hm k hk.1 hk.2.2.1)) (fun _ hk => hk.1)
theorem M_step {x : α} {cs : List Value} (h : d.M w base ok x cs) (hm : ∀ k, ok k → k < w.heap.size → w1.heap[k]? = w.heap[k]?) : d.M w1 base ok x cs :=
 d.M_mono (fun _ hk => hk.1) (d.M_move (fun k hk => hm k hk.1 hk.2.2.1) (d.M_bound h))
theorem R_below (h : d.R e w base ok v xs) (hb : Below w.heap.size w w1) : d.R e w1 base ok v xs := R_step h (fun k _ hk => hb.block k hk)
theorem M_below {x : α} {cs : List Value} (h : d.M w base ok x cs) (hb : Below w.heap.size w w1) : d.M w1 base ok x cs := M_step h (fun k _ hk => hb.block k hk)
theorem R_grown (h : d.R e w base ok v xs) {row : Option Nat} (hg : w.grownBy w1 row) (hok : ∀ k, ok k → some k ≠ row) : d.R e w1 base ok v xs := R_step h (fun k ho hk => hg.block k hk (hok k ho))
theorem M_grown {x : α} {cs : List Value} (h : d.M w base ok x cs) {row : Option Nat} (hg : w.grownBy w1 row) (hok : ∀ k, ok k → some k ≠ row) : d.M w1 base ok x cs := M_step h (fun k ho hk => hg.block k hk (hok k ho))
theorem R_far (h : d.R e w base ok v xs) {p : Addr} (hok : ∀ k, ok k → k ≠ p.block) (u : Value) : d.R e (w.setCell p u) base ok v xs := R_step h (fun k ho _ => Below.heap_setCell w p u k (hok k ho))
theorem M_far {x : α} {cs : List Value} (h : d.M w base ok x cs) {p : Addr} (hok : ∀ k, ok k → k ≠ p.block) (u : Value) : d.M (w.setCell p u) base ok x cs := M_step h (fun k ho _ => Below.heap_setCell w p u k (hok k ho))
theorem R_reads (h : d.R e w base ok v xs) : ∃ A c, v = .slice A xs.length c ∧ xs.length ≤ c ∧ d.C w A xs.length xs := by
 obtain ⟨A, c, he, hl, hr⟩ := OwnRow.reads h.2
 exact ⟨A, c, he, hl, hr.imp_ (Below.refl _ _) (fun _ _ hp => d.K_of_M hp)⟩
theorem R_slice (h : d.R e w base ok v xs) : ∃ A c, v = .slice A xs.length c := by
 obtain ⟨A, c, he, _⟩ := R_reads h
 exact ⟨A, c, he⟩
theorem R_own (h : d.R e w base ok v xs) : ∃ inner, w.ownsRow base e d.sz v xs.length inner := by
 obtain ⟨_, inner, ho, _⟩ := h
 exact ⟨inner, ho⟩
end
def scalar {α : Type} (enc : α → Value) (h1 : ∀ x, (enc x).oneCell' = true) : Kd α where
 sz := 1
 E := []
 K := fun _ x cs => cs = [enc x]
 M := fun _ _ _ x cs => cs = [enc x]
 K_len := fun h => by rw [h]; rfl
 K_one := fun h u hu => by
  rw [h] at hu
  rw [List.mem_singleton.1 hu]
  exact h1 _
 K_below := fun _ h => h
 K_of_M := fun h => h
 M_mono := fun _ h => h
 M_bound := fun h => h
 M_move := fun _ h => h
 M_lower := fun _ h => h
def int (k : IntKind) : Kd Int := scalar (Value.int k) (fun _ => rfl)
def bool : Kd Bool := scalar Value.bool (fun _ => rfl)
def string : Kd ByteArray := scalar Value.string (fun _ => rfl)
def slice {α : Type} (e : Nat) (d : Kd α) : Kd (List α) where
 sz := 1
 E := e :: d.E
 K := fun w xs cs => ∃ A c, cs = [.slice A xs.length c] ∧ xs.length ≤ c ∧ d.C w A xs.length xs
 M := fun w base ok xs cs => ∃ v, cs = [v] ∧ d.R e w base ok v xs
 K_len := by
  rintro w x cs ⟨A, c, rfl, _⟩
  rfl
 K_one := by
  rintro w x cs ⟨A, c, rfl, _⟩ u hu
  rw [List.mem_singleton.1 hu]
  rfl
 K_below := by
  rintro w w1 x cs hb ⟨A, c, rfl, hl, hr⟩
  exact ⟨A, c, rfl, hl, C_below hr hb⟩
 K_of_M := by
  rintro w base ok x cs ⟨v, rfl, h⟩
  obtain ⟨A, c, rfl, hl, hr⟩ := R_reads h
  exact ⟨A, c, rfl, hl, hr⟩
 M_mono := by
  rintro w base ok ok' x cs hok ⟨v, rfl, h⟩
  exact ⟨v, rfl, R_mono h hok⟩
 M_bound := by
  rintro w base ok x cs ⟨v, rfl, h⟩
  exact ⟨v, rfl, R_bound h⟩
 M_move := by
  rintro w w1 base ok x cs hm ⟨v, rfl, h⟩
  exact ⟨v, rfl, R_move h hm⟩
 M_lower := by
  rintro w base base' ok x cs hb ⟨v, rfl, h⟩
  exact ⟨v, rfl, R_lower h hb⟩
def pair {α β : Type} (a : Kd α) (b : Kd β) : Kd (α × β) where
 sz := a.sz + b.sz
 E := a.E ++ b.E
 K := fun w x cs => ∃ c0 c1, cs = c0 ++ c1 ∧ a.K w x.1 c0 ∧ b.K w x.2 c1
 M := fun w base ok x cs => ∃ c0 c1, cs = c0 ++ c1 ∧ a.M w base ok x.1 c0 ∧ b.M w base ok x.2 c1
 K_len := by
  rintro w x cs ⟨c0, c1, rfl, h0, h1⟩
  rw [List.length_append, a.K_len h0, b.K_len h1]
 K_one := by
  rintro w x cs ⟨c0, c1, rfl, h0, h1⟩ u hu
  rcases List.mem_append.1 hu with hu | hu
  · exact a.K_one h0 u hu
  exact b.K_one h1 u hu
 K_below := by
  rintro w w1 x cs hb ⟨c0, c1, rfl, h0, h1⟩
  exact ⟨c0, c1, rfl, a.K_below hb h0, b.K_below hb h1⟩
 K_of_M := by
  rintro w base ok x cs ⟨c0, c1, rfl, h0, h1⟩
  exact ⟨c0, c1, rfl, a.K_of_M h0, b.K_of_M h1⟩
 M_mono := by
  rintro w base ok ok' x cs hok ⟨c0, c1, rfl, h0, h1⟩
  exact ⟨c0, c1, rfl, a.M_mono hok h0, b.M_mono hok h1⟩
 M_bound := by
  rintro w base ok x cs ⟨c0, c1, rfl, h0, h1⟩
  refine ⟨c0, c1, rfl, a.M_mono ?_ (a.M_bound h0), b.M_mono ?_ (b.M_bound h1)⟩
  · rintro k ⟨h2, h3, h4, q, hq, hc⟩
    exact ⟨h2, h3, h4, q, List.mem_append_left _ hq, hc⟩
  rintro k ⟨h2, h3, h4, q, hq, hc⟩
  exact ⟨h2, h3, h4, q, List.mem_append_right _ hq, hc⟩
 M_move := by
  rintro w w1 base ok x cs hm ⟨c0, c1, rfl, h0, h1⟩
  exact ⟨c0, c1, rfl, a.M_move hm h0, b.M_move hm h1⟩
 M_lower := by
  rintro w base base' ok x cs hb ⟨c0, c1, rfl, h0, h1⟩
  exact ⟨c0, c1, rfl, a.M_lower hb h0, b.M_lower hb h1⟩
def iso {α β : Type} (d : Kd α) (f : β → α) : Kd β where
 sz := d.sz
 E := d.E
 K := fun w x cs => d.K w (f x) cs
 M := fun w base ok x cs => d.M w base ok (f x) cs
 K_len := d.K_len
 K_one := d.K_one
 K_below := d.K_below
 K_of_M := d.K_of_M
 M_mono := d.M_mono
 M_bound := d.M_bound
 M_move := d.M_move
 M_lower := d.M_lower
def bot {α : Type} (sz : Nat) (E : List Nat) : Kd α where
 sz := sz
 E := E
 K := fun _ _ _ => False
 M := fun _ _ _ _ _ => False
 K_len := fun h => h.elim
 K_one := fun h => h.elim
 K_below := fun _ h => h
 K_of_M := fun h => h
 M_mono := fun _ h => h
 M_bound := fun h => h
 M_move := fun _ h => h
 M_lower := fun _ h => h
def upto {α : Type} (F : Kd α → Kd α) (sz : Nat) (E : List Nat) : Nat → Kd α
 | 0 => bot sz E
 | n + 1 => F (upto F sz E n)
def fix {α : Type} (F : Kd α → Kd α) (sz : Nat) (E : List Nat) (hs : ∀ n, (upto F sz E n).sz = sz) (hE : ∀ n q, q ∈ (upto F sz E n).E → q ∈ E) : Kd α where
 sz := sz
 E := E
 K := fun w x cs => ∃ n, (upto F sz E n).K w x cs
 M := fun w base ok x cs => ∃ n, (upto F sz E n).M w base ok x cs
 K_len := by
  rintro w x cs ⟨n, h⟩
  rw [(upto F sz E n).K_len h, hs n]
 K_one := by
  rintro w x cs ⟨n, h⟩
  exact (upto F sz E n).K_one h
 K_below := by
  rintro w w1 x cs hb ⟨n, h⟩
  exact ⟨n, (upto F sz E n).K_below hb h⟩
 K_of_M := by
  rintro w base ok x cs ⟨n, h⟩
  exact ⟨n, (upto F sz E n).K_of_M h⟩
 M_mono := by
  rintro w base ok ok' x cs hok ⟨n, h⟩
  exact ⟨n, (upto F sz E n).M_mono hok h⟩
 M_bound := by
  rintro w base ok x cs ⟨n, h⟩
  refine ⟨n, (upto F sz E n).M_mono ?_ ((upto F sz E n).M_bound h)⟩
  rintro k ⟨h2, h3, h4, q, hq, hc⟩
  exact ⟨h2, h3, h4, q, hE n q hq, hc⟩
 M_move := by
  rintro w w1 base ok x cs hm ⟨n, h⟩
  exact ⟨n, (upto F sz E n).M_move hm h⟩
 M_lower := by
  rintro w base base' ok x cs hb ⟨n, h⟩
  exact ⟨n, (upto F sz E n).M_lower hb h⟩
theorem C_get {α : Type} {d : Kd α} {w : World} {A : Option Addr} {n : Nat} {xs : List α} (h : d.C w A n xs) (z : α) (i : Int) (h0 : 0 ≤ i) (h1 : i < n) :
    ∃ ad c, A = some ad ∧ c.length = d.sz ∧ d.K w (xs.getD i.toNat z) c ∧ ∀ j u, c[j]? = some u → w.cell? (ad.add (i.toNat * d.sz + j)) = some u := ReadsRow.get_ h z i h0 h1
theorem R_appended {α : Type} {d : Kd α} {e base : Nat} {ok okp : Nat → Prop} {W w1 : World} {v v1 : Value} {xs : List α} {p : α} {inner cs : List Value} (h0 : ∀ k, v.ownBlock = some k → ok k) (hr : Reps (d.M W base (fun k => ok k ∧ some k ≠ v.ownBlock)) d.sz xs inner) (hp : d.M W base okp p cs) (hokp : ∀ k, okp k → ok k ∧ some k ≠ v.ownBlock) (hfresh : ∀ k, W.heap.size ≤ k → ok k)
    (hown : w1.ownsRow base e d.sz v1 (xs.length + 1) (inner ++ cs)) (hg : W.grownBy w1 v.ownBlock) (hat : v1.ownBlock = v.ownBlock ∨ ∃ b, v1.ownBlock = some b ∧ W.heap.size ≤ b) : d.R e w1 base ok v1 (xs ++ [p]) := by
 have hne : ∀ k, some k ≠ v.ownBlock → k < W.heap.size → some k ≠ v1.ownBlock := by
  intro k hk hlt
  rcases hat with hat | ⟨b, hb, hle⟩
  · rw [hat]; exact hk
  rw [hb]
  intro he
  injection he with he
  omega
 have step : ∀ {q : α} {c : List Value} {o : Nat → Prop}, d.M W base o q c → (∀ k, o k → ok k ∧ some k ≠ v.ownBlock) → d.M w1 base (fun k => ok k ∧ some k ≠ v1.ownBlock) q c := by
  intro q c o hq ho
  have h1 := d.M_move (w1 := w1) (fun k hk => hg.block k hk.2.2.1 (ho k hk.1).2) (d.M_bound hq)
  exact d.M_mono (fun k hk => ⟨(ho k hk.1).1, hne k (ho k hk.1).2 hk.2.2.1⟩) h1
 refine ⟨fun k hk => ?_, inner ++ cs, by rw [List.length_append, List.length_singleton]; exact hown, ?_⟩
 · rcases hat with hat | ⟨b, hb, hle⟩
   · exact h0 k (hat ▸ hk)
   rw [hb] at hk
   injection hk with hk
   exact hfresh k (by omega)
 · exact (hr.imp_ (fun _ _ hq => step hq (fun _ hk => hk))).snoc (step hp hokp) (d.K_len (d.K_of_M hp))
section
variable {P : Program} {ops : Array Oper} {rest : List Oper} {o : Oper} {a : Act} {Q : Exit → Act → World → Prop} {α : Type}
theorem R_append (d : Kd α) {w0 W : World} (base : Nat) (hgd : o.guard = none) (s x : Operand) (t e : TypeId) (z : Value) (bytes : Nat)
    (ho : o.op = .call { callee := .builtin .append, args := #[s, x], argTypes := #[t, t] })
    (ht : P.underlying t = some (.slice e)) (hinfo : (P.info? e).map (fun i => (i.zero, i.size, i.bytes)) = some (some z, d.sz, bytes)) (hz : z.cells.size = d.sz) (hs0 : 0 < d.sz) (hb0 : 0 < bytes)
    (v : Value) (xs : List α) (p : α) (cs : List Value) (ok okp : Nat → Prop) (hs : a.eval s = v) (hx : a.eval x = .slice (some ⟨W.heap.size, 0, none⟩) 1 1) (hp : d.M W base okp p cs) (hokp : ∀ k, okp k → ok k ∧ some k ≠ v.ownBlock) (hfresh : ∀ k, W.heap.size ≤ k → ok k)
    (HO : d.R e W base ok v xs) (HB : Below base w0 W) (hbase : base ≤ W.heap.size) (hl : (xs.length + 1) * bytes ≤ 140737488355328)
    (h : ∀ v1 w1, d.R e w1 base ok v1 (xs ++ [p]) → Below base w0 w1 → W.grownBy w1 v.ownBlock → (v1.ownBlock = v.ownBlock ∨ ∃ b, v1.ownBlock = some b ∧ W.heap.size ≤ b) → wpList P ops Q rest (a.put o.dst v1) w1) :
    wpList P ops Q (o :: rest) a (W.alloc (.cells cs.toArray e)) := by
 obtain ⟨h0, inner, hown, hr⟩ := HO
 refine print_append_cells base hgd s x t e z d.sz bytes ho ht hinfo hz hs0 hb0 v xs.length inner cs hs hx (d.K_len (d.K_of_M hp)) (d.K_one (d.K_of_M hp)) hown HB hbase hl ?_
 intro v1 w1 hown1 hb1 hg1 hat1
 exact h v1 w1 (R_appended h0 hr hp hokp hfresh hown1 hg1 hat1) hb1 hg1 hat1
end
section
variable {P : Program} {ops : Array Oper} {o : Oper} {a : Act} {Q : Exit → Act → World → Prop} {Kc : Act → World → Prop} {α : Type}
theorem R_append_step (d : Kd α) {w0 W : World} (base : Nat) (hw : Region.wanted o (yielded ops a.tmps) = true) (s x : Operand) (t e : TypeId) (z : Value) (bytes : Nat)
    (ho : o.op = .call { callee := .builtin .append, args := #[s, x], argTypes := #[t, t] })
    (ht : P.underlying t = some (.slice e)) (hinfo : (P.info? e).map (fun i => (i.zero, i.size, i.bytes)) = some (some z, d.sz, bytes)) (hz : z.cells.size = d.sz) (hs0 : 0 < d.sz) (hb0 : 0 < bytes)
    (v : Value) (xs : List α) (p : α) (cs : List Value) (ok okp : Nat → Prop) (hs : a.eval s = v) (hx : a.eval x = .slice (some ⟨W.heap.size, 0, none⟩) 1 1) (hp : d.M W base okp p cs) (hokp : ∀ k, okp k → ok k ∧ some k ≠ v.ownBlock) (hfresh : ∀ k, W.heap.size ≤ k → ok k)
    (HO : d.R e W base ok v xs) (HB : Below base w0 W) (hbase : base ≤ W.heap.size) (hl : (xs.length + 1) * bytes ≤ 140737488355328)
    (h : ∀ v1 w1, d.R e w1 base ok v1 (xs ++ [p]) → Below base w0 w1 → W.grownBy w1 v.ownBlock → (v1.ownBlock = v.ownBlock ∨ ∃ b, v1.ownBlock = some b ∧ W.heap.size ≤ b) → Kc (a.put o.dst v1) w1) :
    if Region.wanted o (yielded ops a.tmps) = true then Oper.wp P o a (W.alloc (.cells cs.toArray e)) Kc Q else Kc (a.put o.dst undef) (W.alloc (.cells cs.toArray e)) := by
 obtain ⟨h0, inner, hown, hr⟩ := HO
 refine step_append_cells base hw s x t e z d.sz bytes ho ht hinfo hz hs0 hb0 v xs.length inner cs hs hx (d.K_len (d.K_of_M hp)) (d.K_one (d.K_of_M hp)) hown HB hbase hl ?_
 intro v1 w1 hown1 hb1 hg1 hat1
 exact h v1 w1 (R_appended h0 hr hp hokp hfresh hown1 hg1 hat1) hb1 hg1 hat1
end
theorem reps_scalar {α : Type} {enc : α → Value} (xs : List α) : Reps (fun (x : α) (cs : List Value) => cs = [enc x]) 1 xs (encs enc xs) := by
 refine ⟨by simp [encs], fun j p hj => ?_⟩
 obtain ⟨hl, hp⟩ := List.getElem?_eq_some_iff.1 hj
 have hl' : j < (encs enc xs).length := by rw [encs_length]; exact hl
 rw [Nat.mul_one, List.drop_eq_getElem_cons hl']
 simp [encs, hp]
theorem R_of_own {α : Type} {enc : α → Value} {h1 : ∀ x, (enc x).oneCell' = true} {e : Nat} {w : World} {base : Nat} {ok : Nat → Prop} {v : Value} {xs : List α} (ho : w.ownsRow base e 1 v xs.length (encs enc xs)) (hok : ∀ k, v.ownBlock = some k → ok k) : (scalar enc h1).R e w base ok v xs := ⟨hok, encs enc xs, ho, reps_scalar xs⟩
theorem own_of_R {α : Type} {enc : α → Value} {h1 : ∀ x, (enc x).oneCell' = true} {e : Nat} {w : World} {base : Nat} {ok : Nat → Prop} {v : Value} {xs : List α} (h : (scalar enc h1).R e w base ok v xs) : w.ownsRow base e 1 v xs.length (encs enc xs) := by
 obtain ⟨_, inner, ho, hr⟩ := h
 have : inner = encs enc xs := by
  apply List.ext_getElem?
  intro j
  rcases Nat.lt_or_ge j xs.length with hj | hj
  · have h2 := hr.2 j _ (List.getElem?_eq_getElem hj)
    have hl : j < inner.length := by have := hr.1; simp [scalar] at this; omega
    have h3 : (inner.drop (j * 1)).take 1 = [enc xs[j]] := h2
    rw [Nat.mul_one, List.drop_eq_getElem_cons hl] at h3
    have h4 : inner[j] = enc xs[j] := by
     have h5 := congrArg List.head? h3
     rw [List.take_succ_cons] at h5
     exact Option.some.inj h5
    rw [List.getElem?_eq_getElem hl, h4]
    simp [encs, List.getElem?_eq_getElem hj]
  have h3 : inner.length = xs.length := by have := hr.1; simp [scalar] at this; omega
  rw [List.getElem?_eq_none (by omega), List.getElem?_eq_none (by rw [encs_length]; omega)]
 rw [← this]
 exact ho
theorem reads_of_C {α : Type} {enc : α → Value} {d : α} {h1 : ∀ x, (enc x).oneCell' = true} {w : World} {A : Option Addr} {n : Nat} {xs : List α} (h : (scalar enc h1).C w A n xs) : ReadsOf enc d w A n xs := by
 refine ⟨h.1, h.2.1, fun hn => ?_⟩
 obtain ⟨ad, e, hc⟩ := h.2.2 hn
 refine ⟨ad, e, fun j hj => ?_⟩
 have hl : j < xs.length := by have := h.1; omega
 obtain ⟨c, _, hK, hcell⟩ := hc j _ (List.getElem?_eq_getElem hl)
 have hK' : c = [enc xs[j]] := hK
 subst hK'
 have := hcell 0 _ rfl
 simpa [scalar, List.getD_eq_getElem?_getD, List.getElem?_eq_getElem hl] using this
end Kd
namespace Kd
structure Mono {α β : Type} (F : Kd α → Kd β) : Prop where
  sz : ∀ d d' : Kd α, d.sz = d'.sz → (F d).sz = (F d').sz
  K : ∀ d d' : Kd α, d.sz = d'.sz → (∀ w x cs, d.K w x cs → d'.K w x cs) → ∀ w x cs, (F d).K w x cs → (F d').K w x cs
  M : ∀ d d' : Kd α, d.sz = d'.sz → (∀ w base ok x cs, d.M w base ok x cs → d'.M w base ok x cs) → ∀ w base ok x cs, (F d).M w base ok x cs → (F d').M w base ok x cs
theorem mono_const {α β : Type} (k : Kd β) : Mono (fun _ : Kd α => k) := ⟨fun _ _ _ => rfl, fun _ _ _ _ _ _ _ h => h, fun _ _ _ _ _ _ _ _ _ h => h⟩
theorem mono_id {α : Type} : Mono (fun d : Kd α => d) := ⟨fun _ _ h => h, fun _ _ _ h => h, fun _ _ _ h => h⟩
theorem C_imp {α : Type} {d d' : Kd α} (hs : d.sz = d'.sz) (h : ∀ w x cs, d.K w x cs → d'.K w x cs) {w : World} {A : Option Addr} {n : Nat} {xs : List α} (hc : d.C w A n xs) : d'.C w A n xs := by
 unfold C at hc ⊢
 rw [← hs]
 exact hc.imp_ (Below.refl _ _) (fun _ _ hp => h _ _ _ hp)
theorem R_imp {α : Type} {d d' : Kd α} (hs : d.sz = d'.sz) (h : ∀ w base ok x cs, d.M w base ok x cs → d'.M w base ok x cs) {e : Nat} {w : World} {base : Nat} {ok : Nat → Prop} {v : Value} {xs : List α} (hr : d.R e w base ok v xs) : d'.R e w base ok v xs := by
 unfold R at hr ⊢
 rw [← hs]
 exact ⟨hr.1, hr.2.imp_ (fun _ _ hp => h _ _ _ _ _ hp)⟩
theorem mono_slice {α β : Type} (e : Nat) {G : Kd α → Kd β} (hG : Mono G) : Mono (fun d => slice e (G d)) := by
 refine ⟨fun _ _ _ => rfl, ?_, ?_⟩
 · rintro d d' hs h w x cs ⟨A, c, rfl, hl, hr⟩
   exact ⟨A, c, rfl, hl, C_imp (hG.sz d d' hs) (hG.K d d' hs h) hr⟩
 rintro d d' hs h w base ok x cs ⟨v, rfl, hr⟩
 exact ⟨v, rfl, R_imp (hG.sz d d' hs) (hG.M d d' hs h) hr⟩
theorem mono_pair {α β γ : Type} {G : Kd α → Kd β} {H : Kd α → Kd γ} (hG : Mono G) (hH : Mono H) : Mono (fun d => pair (G d) (H d)) := by
 refine ⟨fun d d' hs => ?_, ?_, ?_⟩
 · show (G d).sz + (H d).sz = (G d').sz + (H d').sz
   rw [hG.sz d d' hs, hH.sz d d' hs]
 · rintro d d' hs h w x cs ⟨c0, c1, rfl, h0, h1⟩
   exact ⟨c0, c1, rfl, hG.K d d' hs h _ _ _ h0, hH.K d d' hs h _ _ _ h1⟩
 rintro d d' hs h w base ok x cs ⟨c0, c1, rfl, h0, h1⟩
 exact ⟨c0, c1, rfl, hG.M d d' hs h _ _ _ _ _ h0, hH.M d d' hs h _ _ _ _ _ h1⟩
theorem mono_iso {α β γ : Type} {G : Kd α → Kd β} (f : γ → β) (hG : Mono G) : Mono (fun d => iso (G d) f) :=
 ⟨hG.sz, fun d d' hs h w x cs => hG.K d d' hs h w (f x) cs, fun d d' hs h w base ok x cs => hG.M d d' hs h w base ok (f x) cs⟩
def Sub {α β : Type} (F : Kd α → Kd β) (E : List Nat) : Prop := ∀ d : Kd α, (∀ q, q ∈ d.E → q ∈ E) → ∀ q, q ∈ (F d).E → q ∈ E
theorem sub_const {α β : Type} {E : List Nat} (k : Kd β) (h : ∀ q, q ∈ k.E → q ∈ E) : Sub (fun _ : Kd α => k) E := fun _ _ => h
theorem sub_id {α : Type} {E : List Nat} : Sub (fun d : Kd α => d) E := fun _ h => h
theorem sub_slice {α β : Type} {E : List Nat} (e : Nat) {G : Kd α → Kd β} (he : e ∈ E) (hG : Sub G E) : Sub (fun d => slice e (G d)) E := fun d h q hq => by
 rcases List.mem_cons.1 hq with rfl | hq
 · exact he
 exact hG d h q hq
theorem sub_pair {α β γ : Type} {E : List Nat} {G : Kd α → Kd β} {H : Kd α → Kd γ} (hG : Sub G E) (hH : Sub H E) : Sub (fun d => pair (G d) (H d)) E := fun d h q hq => by
 rcases List.mem_append.1 hq with hq | hq
 · exact hG d h q hq
 exact hH d h q hq
theorem sub_iso {α β γ : Type} {E : List Nat} {G : Kd α → Kd β} (f : γ → β) (hG : Sub G E) : Sub (fun d => iso (G d) f) E := hG
theorem upto_E {α : Type} {F : Kd α → Kd α} {sz : Nat} {E : List Nat} (h : Sub F E) : ∀ n q, q ∈ (upto F sz E n).E → q ∈ E
 | 0, _, hq => hq
 | n + 1, q, hq => h _ (upto_E h n) q hq
theorem upto_sz {α : Type} {F : Kd α → Kd α} {sz : Nat} {E : List Nat} (h : ∀ d : Kd α, (F d).sz = sz) : ∀ n, (upto F sz E n).sz = sz
 | 0 => rfl
 | _ + 1 => h _
section
variable {α : Type} {F : Kd α → Kd α} {sz : Nat} {E : List Nat} {hs : ∀ n, (upto F sz E n).sz = sz} {hE : ∀ n q, q ∈ (upto F sz E n).E → q ∈ E}
theorem upto_M (hm : Mono F) (hs : ∀ n, (upto F sz E n).sz = sz) : ∀ n {w base ok x cs}, (upto F sz E n).M w base ok x cs → (upto F sz E (n + 1)).M w base ok x cs
 | 0, _, _, _, _, _, h => h.elim
 | n + 1, _, _, _, _, _, h => hm.M _ _ (by rw [hs n, hs (n + 1)]) (fun _ _ _ _ _ hk => upto_M hm hs n hk) _ _ _ _ _ h
theorem upto_M_le (hm : Mono F) (hs : ∀ n, (upto F sz E n).sz = sz) {n m : Nat} (hnm : n ≤ m) {w base ok x cs} (h : (upto F sz E n).M w base ok x cs) : (upto F sz E m).M w base ok x cs := by
 obtain ⟨j, rfl⟩ := Nat.exists_eq_add_of_le hnm
 induction j with
 | zero => exact h
 | succ j ih => exact upto_M hm hs _ (ih (by omega))
theorem fix_R {n : Nat} {e : Nat} {w : World} {base : Nat} {ok : Nat → Prop} {v : Value} {xs : List α} (h : (upto F sz E n).R e w base ok v xs) : (fix F sz E hs hE).R e w base ok v xs := R_imp (d' := fix F sz E hs hE) (hs n) (fun w base ok x cs hp => (⟨n, hp⟩ : ∃ n, (upto F sz E n).M w base ok x cs)) h
theorem bounded {P : Nat → Nat → Prop} (hP : ∀ n m j, n ≤ m → P n j → P m j) : ∀ m, (∀ j, j < m → ∃ n, P n j) → ∃ N, ∀ j, j < m → P N j
 | 0, _ => ⟨0, fun j hj => absurd hj (Nat.not_lt_zero j)⟩
 | m + 1, h => by
  obtain ⟨N, hN⟩ := bounded hP m (fun j hj => h j (by omega))
  obtain ⟨n, hn⟩ := h m (by omega)
  refine ⟨max N n, fun j hj => ?_⟩
  rcases Nat.lt_or_ge j m with hj' | hj'
  · exact hP N _ j (Nat.le_max_left _ _) (hN j hj')
  have : j = m := by omega
  subst this
  exact hP n _ j (Nat.le_max_right _ _) hn
theorem reps_bounded {α : Type} {R : Nat → α → List Value → Prop} (hR : ∀ n m p c, n ≤ m → R n p c → R m p c) {size : Nat} {ps : List α} {cs : List Value} (h : Reps (fun p c => ∃ n, R n p c) size ps cs) : ∃ N, Reps (R N) size ps cs := by
 obtain ⟨N, hN⟩ := bounded (P := fun n j => ∀ p, ps[j]? = some p → R n p ((cs.drop (j * size)).take size)) (fun n m j hnm hp p hj => hR n m p _ hnm (hp p hj)) ps.length
  (fun j hj => by
   obtain ⟨n, hn⟩ := h.2 j _ (List.getElem?_eq_getElem hj)
   refine ⟨n, fun p hp => ?_⟩
   rw [List.getElem?_eq_getElem hj] at hp
   injection hp with hp
   rw [← hp]
   exact hn)
 exact ⟨N, h.1, fun j p hj => hN j (List.getElem?_eq_some_iff.1 hj).1 p hj⟩
theorem fix_R_back (hm : Mono F) {e : Nat} {w : World} {base : Nat} {ok : Nat → Prop} {v : Value} {xs : List α} (h : (fix F sz E hs hE).R e w base ok v xs) : ∃ n, (upto F sz E n).R e w base ok v xs := by
 obtain ⟨h0, inner, ho, hr⟩ := h
 obtain ⟨N, hN⟩ := reps_bounded (R := fun n p c => (upto F sz E n).M w base (fun k => ok k ∧ some k ≠ v.ownBlock) p c) (fun n m p c hnm hp => upto_M_le hm hs hnm hp) hr
 refine ⟨N, h0, inner, ?_, ?_⟩
 · rw [hs N]; exact ho
 rw [hs N]; exact hN
theorem upto_R_le (hm : Mono F) (hs : ∀ n, (upto F sz E n).sz = sz) {n m : Nat} (hnm : n ≤ m) {e : Nat} {w : World} {base : Nat} {ok : Nat → Prop} {v : Value} {xs : List α} (h : (upto F sz E n).R e w base ok v xs) : (upto F sz E m).R e w base ok v xs := R_imp (by rw [hs n, hs m]) (fun _ _ _ _ _ hp => upto_M_le hm hs hnm hp) h
end
end Kd
namespace Kd
theorem R_after {α : Type} {d : Kd α} {e base : Nat} {ok : Nat → Prop} {W w1 : World} {u v v1 : Value} {xs : List α} (h : d.R e W base (fun k => ok k ∧ some k ≠ v.ownBlock) u xs) (hg : W.grownBy w1 v.ownBlock) (hat : v1.ownBlock = v.ownBlock ∨ ∃ b, v1.ownBlock = some b ∧ W.heap.size ≤ b) : d.R e w1 base (fun k => ok k ∧ some k ≠ v1.ownBlock) u xs := by
 refine R_mono (R_move (R_bound h) (fun k hk => hg.block k hk.2.2.1 hk.1.2)) (fun k hk => ⟨hk.1.1, ?_⟩)
 rcases hat with hat | ⟨b, hb, hle⟩
 · rw [hat]; exact hk.1.2
 rw [hb]
 intro he
 injection he with he
 have := hk.2.2.1
 omega
end Kd
namespace Kd
section
variable {α β : Type} {d : Kd α} {d' : Kd β} {e e' : Nat} {w w1 W : World} {base b b' : Nat} {ok ok' okv oku : Nat → Prop} {v u : Value} {xs : List α} {ys : List β}
theorem R_alloc (h : d.R e w base ok v xs) (o : Obj) : d.R e (w.alloc o) base ok v xs := R_below h (below_alloc (Below.refl _ _) o)
theorem R_drew (h : d.R e w base ok v xs) : d.R e w.drew base ok v xs := R_below h (below_drew (Below.refl _ _))
theorem R_drewN (h : d.R e w base ok v xs) (m : Nat) : d.R e (w.drewN m) base ok v xs := R_below h (pw_below_drewN (Below.refl _ _) m)
theorem R_reads' {A : Option Addr} {n c : Nat} (h : d.R e w base ok (.slice A n c) xs) : n = xs.length ∧ n ≤ c ∧ d.C w A xs.length xs := by
 obtain ⟨A', c', he, hl, hr⟩ := R_reads h
 injection he with h1 h2 h3
 subst h1
 exact ⟨h2, by omega, hr⟩
theorem R_lt (h : d.R e w base ok v xs) : ∀ k, v.ownBlock = some k → k < w.heap.size := by
 obtain ⟨inner, ho⟩ := R_own h
 exact own_lt ho
theorem R_base (h : d.R e w base ok v xs) : ∀ k, v.ownBlock = some k → base ≤ k := by
 obtain ⟨inner, ho⟩ := R_own h
 exact own_base ho
end
section
variable {w W : World} {A : Option Addr} {n : Nat}
variable {α : Type} {enc : α → Value} {h1 : ∀ x, (enc x).oneCell' = true} {e base g cap : Nat} {ok : Nat → Prop} {xs : List α}
end
section
variable {P : Program} {ops : Array Oper} {rest : List Oper} {o : Oper} {a : Act} {Q : Exit → Act → World → Prop}
theorem event_run {W w1 : World} {v : Value} (hgd : o.guard = none) (hrun : (execOp a.eval o).run P W = .ok (.value v) w1) (h : wpList P ops Q rest (a.put o.dst v) w1) : wpList P ops Q (o :: rest) a W := by
 refine wpList_plain hgd fun K hK => ?_
 unfold Oper.wp
 rw [hrun]
 exact hK _ _ h
variable {α : Type}
theorem R_lit (d : Kd α) {w0 W : World} (base e : Nat) (hgd : o.guard = none) {N : Tmp} (_hd : o.dst = some N) {xs : List α} {inner : List Value} {ok okp : Nat → Prop}
    (hrun : (execOp a.eval o).run P W = .ok (.value (.slice (some ⟨W.heap.size, 0, none⟩) xs.length xs.length)) (W.alloc (.cells inner.toArray e)))
    (hrep : Reps (d.M W base okp) d.sz xs inner) (hok : ∀ k, okp k → ok k) (hfresh : ok W.heap.size) (HB : Below base w0 W) (hbase : base ≤ W.heap.size) (hm : xs.length ≤ 9223372036854775807)
    (h : ∀ v1 w1, d.R e w1 base ok v1 xs → Below base w0 w1 → W.grownBy w1 none → (∃ b, v1.ownBlock = some b ∧ W.heap.size ≤ b) → wpList P ops Q rest (a.put o.dst v1) w1) : wpList P ops Q (o :: rest) a W := by
 refine event_run hgd hrun (h _ _ ⟨fun k hk => ?_, inner, ?_, ?_⟩ (HB.alloc hbase _) (World.grownBy_alloc W _ none) ⟨W.heap.size, by simp [Value.ownBlock], Nat.le_refl _⟩)
 · have : W.heap.size = k := by simpa [Value.ownBlock] using hk
   subst this
   exact hfresh
 · have h2 := World.ownsRow_lit (base := base) (e := e) (size := d.sz) W inner.toArray xs.length hbase (by simpa [maxLen] using hm) (by simpa using hrep.1)
   simpa using h2
 · refine hrep.imp_ (fun p c hp => d.M_mono (fun k hk => ⟨hok k hk.1, fun he => ?_⟩) (M_below (d.M_bound hp) (below_alloc (Below.refl _ _) _)))
   have h3 : k = W.heap.size := by simpa [Value.ownBlock] using he
   have := hk.2.2.1
   omega
end
end Kd
section
variable {P : Program}
end
section
variable {w w1 : World} {base n size : Nat} {e : TypeId} {v : Value} {xs : List Value}
theorem setCells_far {g : Nat} : ∀ (vs : List Value) (o : Nat) {w : World} (k : Nat), k ≠ g → (w.setCells g o vs).heap[k]? = w.heap[k]?
 | [], _, _, _, _ => rfl
 | v :: r, o, w, k, hk => by
  rw [World.setCells, setCells_far r (o + 1) k hk]
  exact Below.heap_setCell w ⟨g, o, none⟩ v k hk
theorem setCells_same (g : Nat) : ∀ (vs : List Value) (o : Nat) (w : World), (w.setCells g o vs).os = w.os ∧ (w.setCells g o vs).tape = w.tape ∧ (w.setCells g o vs).output = w.output ∧ (w.setCells g o vs).heap.size = w.heap.size
 | [], _, _ => ⟨rfl, rfl, rfl, rfl⟩
 | v :: r, o, w => by
  obtain ⟨h1, h2, h3, h4⟩ := setCells_same g r (o + 1) (w.setCell ⟨g, o, none⟩ v)
  rw [World.setCells]
  exact ⟨h1, h2, h3, by rw [h4]; simp [World.setCell]⟩
theorem setCells_row {g : Nat} {e : TypeId} : ∀ (vs : List Value) (o : Nat) (w : World) (cur : Array Value), w.heap[g]? = some (.cells cur e (0, 0)) → o + vs.length ≤ cur.size →
    ∃ cur', (w.setCells g o vs).heap[g]? = some (.cells cur' e (0, 0)) ∧ cur'.size = cur.size ∧ cur'.toList = cur.toList.take o ++ vs ++ cur.toList.drop (o + vs.length)
 | [], o, w, cur, h, _ => ⟨cur, h, rfl, by simp⟩
 | v :: r, o, w, cur, h, hl => by
  have h2 := blk_set h o v
  simp only [List.length_cons] at hl
  obtain ⟨cur', h3, h4, h5⟩ := setCells_row r (o + 1) (w.setCell ⟨g, o, none⟩ v) _ h2 (by simp; omega)
  refine ⟨cur', h3, by rw [h4]; simp, ?_⟩
  rw [h5, Array.toList_setIfInBounds]
  have ho : o < cur.toList.length := by rw [Array.length_toList]; omega
  rw [List.take_set, List.drop_set_of_lt (by omega)]
  simp only [List.length_cons]
  rw [show o + 1 + r.length = o + (r.length + 1) by omega]
  congr 1
  rw [List.take_succ_eq_append_getElem ho, List.set_append_right _ _ (by rw [List.length_take]; omega)]
  have ho' : o < cur.size := by omega
  simp [Nat.min_eq_left (Nat.le_of_lt ho')]
end
section
variable {P : Program}
end
namespace Kd
theorem reps_take {α : Type} {R : α → List Value → Prop} {size m : Nat} {ps : List α} {cs : List Value} (h : Reps R size ps cs) (hm : m ≤ ps.length) : Reps R size (ps.take m) (cs.take (m * size)) := by
 refine ⟨by rw [List.length_take, List.length_take, h.1, Nat.min_eq_left hm, Nat.min_eq_left (Nat.mul_le_mul_right _ hm)], fun j p hj => ?_⟩
 rw [List.getElem?_take] at hj
 split at hj
 · rename_i hjm
   have := h.2 j p hj
   have hle : j * size + size ≤ m * size := by rw [← Nat.succ_mul]; exact Nat.mul_le_mul_right _ hjm
   rw [List.drop_take, List.take_take, Nat.min_eq_left (by omega)]
   exact this
 cases hj
theorem reps_drop {α : Type} {R : α → List Value → Prop} {size m : Nat} {ps : List α} {cs : List Value} (h : Reps R size ps cs) : Reps R size (ps.drop m) (cs.drop (m * size)) := by
 refine ⟨by rw [List.length_drop, List.length_drop, h.1, Nat.sub_mul], fun j p hj => ?_⟩
 rw [List.getElem?_drop] at hj
 have := h.2 (m + j) p hj
 rw [List.drop_drop, ← Nat.add_mul]
 exact this
section
variable {α : Type} {d : Kd α} {e : Nat} {w w1 W : World} {base : Nat} {ok ok' : Nat → Prop} {v : Value} {xs : List α}
end
section
variable {P : Program} {ops : Array Oper} {rest : List Oper} {o : Oper} {a : Act} {Q' : Exit → Act → World → Prop} {Kc : Act → World → Prop} {α : Type}
end
end Kd
namespace Kd
section
variable {α : Type} {d : Kd α} {e e' : Nat} {w w1 W : World} {base : Nat} {ok : Nat → Prop} {u v : Value} {xs : List α}
theorem R_elder' (hu : d.R e W base ok u xs) (hbase : ∀ k, v.ownBlock = some k → W.heap.size ≤ k) (hb : Below W.heap.size W w1) : d.R e w1 base (fun k => ok k ∧ some k ≠ v.ownBlock) u xs :=
 R_mono (R_move (R_bound hu) (fun k hk => hb.block k hk.2.2.1)) (fun k hk => ⟨hk.1, fun he => by have := hbase k he.symm; have := hk.2.2.1; omega⟩)
theorem R_new' (h : d.R e w1 W.heap.size ok v xs) (hlt : ∀ k, u.ownBlock = some k → k < W.heap.size) : d.R e w1 W.heap.size (fun k => ok k ∧ some k ≠ u.ownBlock) v xs :=
 R_mono (R_bound h) (fun k hk => ⟨hk.1, fun he => by have := hlt k he.symm; have := hk.2.1; omega⟩)
theorem fresh' (hlt : ∀ k, u.ownBlock = some k → k < W.heap.size) : ∀ k, W.heap.size ≤ k → some k ≠ u.ownBlock := fun k hk he => by have := hlt k he.symm; omega
end
end Kd
theorem seg_get {α : Type} (a seg : List α) (o : Nat) (h : o + seg.length ≤ a.length) (q : Nat) :
    (a.take o ++ seg ++ a.drop (o + seg.length))[q]? = if q < o then a[q]? else if q < o + seg.length then seg[q - o]? else a[q]? := by
 have hl : (a.take o).length = o := by rw [List.length_take]; omega
 rw [List.append_assoc]
 by_cases h1 : q < o
 · rw [if_pos h1, List.getElem?_append_left (by omega), List.getElem?_take, if_pos h1]
 · rw [if_neg h1, List.getElem?_append_right (by omega), hl]
   by_cases h2 : q < o + seg.length
   · rw [if_pos h2, List.getElem?_append_left (by omega)]
   rw [if_neg h2, List.getElem?_append_right (by omega), List.getElem?_drop]
   congr 1
   omega
namespace Kd
section
variable {α : Type} {d : Kd α} {e base g n cap : Nat} {ok okp : Nat → Prop} {W : World} {xs : List α}
theorem R_seg (h : d.R e W base ok (.slice (some ⟨g, 0, none⟩) n cap) xs) (i : Int) (h0 : 0 ≤ i) (h1 : i < n) {c seg : List Value} {j : Nat} (hcl : c.length = d.sz) (hcc : ∀ j u, c[j]? = some u → W.cell? ⟨g, i.toNat * d.sz + j, none⟩ = some u)
    (hj : j + seg.length ≤ d.sz) {x' : α} (hM : d.M W base okp x' (c.take j ++ seg ++ c.drop (j + seg.length))) (hokp : ∀ k, okp k → ok k ∧ k ≠ g) :
    d.R e (W.setCells g (i.toNat * d.sz + j) seg) base ok (.slice (some ⟨g, 0, none⟩) n cap) (xs.set i.toNat x') ∧ W.grownBy (W.setCells g (i.toNat * d.sz + j) seg) (some g) := by
 obtain ⟨hn, hnc, _⟩ := R_reads' h
 obtain ⟨hok, inner, ho, hr⟩ := h
 have hil : i.toNat < xs.length := by omega
 have hseg : i.toNat * d.sz + d.sz ≤ inner.length := by rw [hr.1, ← Nat.succ_mul]; exact Nat.mul_le_mul_right _ hil
 have hin : inner.length = n * d.sz := by rw [hr.1, hn]
 obtain ⟨ho1, ho2⟩ := ho
 rcases ho2 with ⟨hv, _⟩ | ⟨g', cap', cur, hv, hb, hh, hnc', hcm, hcs, ht⟩
 · cases hv
 injection hv with ha _ hc
 injection ha with ha
 injection ha with hg
 subst hg; subst hc
 have hfit : i.toNat * d.sz + j + seg.length ≤ cur.size := by
  have : n * d.sz ≤ cap * d.sz := Nat.mul_le_mul_right _ hnc
  omega
 obtain ⟨cur', h3, h4, h5⟩ := setCells_row seg (i.toNat * d.sz + j) W cur hh hfit
 obtain ⟨s1, s2, s3, s4⟩ := setCells_same g seg (i.toNat * d.sz + j) W
 have hfar : ∀ k, k ≠ g → (W.setCells g (i.toNat * d.sz + j) seg).heap[k]? = W.heap[k]? := fun k hk => setCells_far seg _ k hk
 have hcin : ∀ q, q < d.sz → c[q]? = inner[i.toNat * d.sz + q]? := by
  intro q hq
  have hq' : q < c.length := by omega
  have h6 := hcc q _ (List.getElem?_eq_getElem hq')
  rw [cell_of_row W g _ cur e (0, 0) hh] at h6
  rw [List.getElem?_eq_getElem hq', ← h6, ← ht, List.getElem?_take, if_pos (by rw [← hn]; omega), Array.getElem?_toList]
 refine ⟨⟨hok, inner.take (i.toNat * d.sz + j) ++ seg ++ inner.drop (i.toNat * d.sz + j + seg.length), ⟨?_, .inr ⟨g, cap, cur', by rw [List.length_set, hn], hb, h3, by rw [List.length_set, ← hn]; exact hnc, hcm, by rw [h4, hcs], ?_⟩⟩, ?_⟩,
  ⟨s1, s2, s3, by rw [s4]; exact Nat.le_refl _, fun k _ hk => hfar k (fun he => hk (by rw [he]))⟩⟩
 · rw [List.length_set]
   simp only [List.length_append, List.length_take, List.length_drop]
   rw [hr.1] at hseg ⊢
   omega
 · rw [List.length_set, ← hn]
   apply List.ext_getElem?
   intro q
   rw [List.getElem?_take, h5]
   rw [seg_get cur.toList seg (i.toNat * d.sz + j) (by rw [Array.length_toList]; omega) q, seg_get inner seg (i.toNat * d.sz + j) (by omega) q]
   have hcur : ∀ q, q < n * d.sz → cur.toList[q]? = inner[q]? := by
    intro q hq
    rw [← ht, List.getElem?_take, if_pos (by rw [← hn]; exact hq)]
   by_cases hq : q < n * d.sz
   · rw [if_pos hq, hcur q hq]
   rw [if_neg hq, if_neg (by omega), if_neg (by omega), List.getElem?_eq_none (by omega)]
 · refine ⟨?_, fun m p hm => ?_⟩
   · rw [List.length_set]
     simp only [List.length_append, List.length_take, List.length_drop]
     rw [hr.1] at hseg ⊢
     omega
   · have hml : m < xs.length := by
       have := (List.getElem?_eq_some_iff.1 hm).1
       rwa [List.length_set] at this
     have hmfit : m * d.sz + d.sz ≤ inner.length := by rw [hr.1, ← Nat.succ_mul]; exact Nat.mul_le_mul_right _ hml
     have hgo : some g = (Value.slice (some ⟨g, 0, none⟩) n cap).ownBlock := by simp [Value.ownBlock]
     by_cases hmi : m = i.toNat
     · subst hmi
       rw [List.getElem?_set_self (by omega)] at hm
       injection hm with hm
       subst hm
       have hcells : ((inner.take (i.toNat * d.sz + j) ++ seg ++ inner.drop (i.toNat * d.sz + j + seg.length)).drop (i.toNat * d.sz)).take d.sz = c.take j ++ seg ++ c.drop (j + seg.length) := by
        apply List.ext_getElem?
        intro q
        rw [List.getElem?_take, List.getElem?_drop, seg_get inner seg _ (by omega), seg_get c seg j (by omega) q]
        by_cases hq : q < d.sz
        · rw [if_pos hq, hcin q hq]
          by_cases hq1 : q < j
          · rw [if_pos (by omega), if_pos hq1]
          rw [if_neg (by omega), if_neg hq1]
          by_cases hq2 : q < j + seg.length
          · rw [if_pos (by omega), if_pos hq2]
            congr 1
            omega
          rw [if_neg (by omega), if_neg hq2]
        rw [if_neg hq, if_neg (by omega), if_neg (by omega), List.getElem?_eq_none (by omega)]
       rw [hcells]
       refine d.M_mono (fun k hk => ?_) (d.M_move (w1 := W.setCells g (i.toNat * d.sz + j) seg) (fun k hk => hfar k (hokp k hk).2) hM)
       exact ⟨(hokp k hk).1, fun he => (hokp k hk).2 (by rw [← hgo] at he; injection he)⟩
     · rw [List.getElem?_set_ne (by omega)] at hm
       have hold := hr.2 m p hm
       have hcells : ((inner.take (i.toNat * d.sz + j) ++ seg ++ inner.drop (i.toNat * d.sz + j + seg.length)).drop (m * d.sz)).take d.sz = (inner.drop (m * d.sz)).take d.sz := by
        apply List.ext_getElem?
        intro q
        rw [List.getElem?_take, List.getElem?_take, List.getElem?_drop, List.getElem?_drop, seg_get inner seg _ (by omega)]
        by_cases hq : q < d.sz
        · rw [if_pos hq, if_pos hq]
          rcases Nat.lt_or_gt_of_ne hmi with hlt | hgt
          · have : m * d.sz + d.sz ≤ i.toNat * d.sz := by rw [← Nat.succ_mul]; exact Nat.mul_le_mul_right _ hlt
            rw [if_pos (by omega)]
          have : i.toNat * d.sz + d.sz ≤ m * d.sz := by rw [← Nat.succ_mul]; exact Nat.mul_le_mul_right _ hgt
          rw [if_neg (by omega), if_neg (by omega)]
        rw [if_neg hq, if_neg hq]
       rw [hcells]
       refine d.M_move (fun k hk => hfar k (fun he => hk.2 (by rw [he]; exact hgo))) hold
end
end Kd
namespace Kd
section
variable {α : Type} {F : Kd α → Kd α} {sz : Nat} {E : List Nat} {hs : ∀ n, (upto F sz E n).sz = sz} {hE : ∀ n q, q ∈ (upto F sz E n).E → q ∈ E}
end
end Kd
namespace Kd
theorem reps_append {α : Type} {R : α → List Value → Prop} {size : Nat} {ps qs : List α} {cs ds : List Value} (h : Reps R size ps cs) (h' : Reps R size qs ds) : Reps R size (ps ++ qs) (cs ++ ds) := by
 refine ⟨by rw [List.length_append, List.length_append, h.1, h'.1, Nat.add_mul], fun j p hj => ?_⟩
 rcases Nat.lt_or_ge j ps.length with hlt | hge
 · rw [List.getElem?_append_left hlt] at hj
   have hle : j * size + size ≤ cs.length := by rw [h.1, ← Nat.succ_mul]; exact Nat.mul_le_mul_right _ hlt
   rw [List.drop_append_of_le_length (by omega), List.take_append_of_le_length (by rw [List.length_drop]; omega)]
   exact h.2 j p hj
 rw [List.getElem?_append_right hge] at hj
 have h2 := h'.2 (j - ps.length) p hj
 have hle : ps.length * size ≤ j * size := Nat.mul_le_mul_right _ hge
 rw [List.drop_append, List.drop_eq_nil_of_le (by rw [h.1]; exact hle), List.nil_append, h.1, ← Nat.sub_mul]
 exact h2
section
variable {P : Program} {ops : Array Oper} {rest : List Oper} {o : Oper} {a : Act} {Q : Exit → Act → World → Prop} {α : Type}
theorem R_append_rows (d : Kd α) {Rr : α → List Value → Prop} {w0 W : World} (base : Nat) (hgd : o.guard = none) (s x : Operand) (t e : TypeId) (z : Value) (bytes : Nat)
    (ho : o.op = .call { callee := .builtin .append, args := #[s, x], argTypes := #[t, t] })
    (ht : P.underlying t = some (.slice e)) (hinfo : (P.info? e).map (fun i => (i.zero, i.size, i.bytes)) = some (some z, d.sz, bytes)) (hz : z.cells.size = d.sz) (hs0 : 0 < d.sz) (hb0 : 0 < bytes)
    (v : Value) (xs ys : List α) (A : Option Addr) (m c : Nat) (ok okp : Nat → Prop) (hs : a.eval s = v) (hx : a.eval x = .slice A m c)
    (HO : d.R e W base ok v xs) (HR : ReadsRow Rr d.sz W A m ys) (hKM : ∀ x cs, Rr x cs → d.M W base okp x cs) (hokp : ∀ k, okp k → ok k ∧ some k ≠ v.ownBlock) (hfresh : ∀ k, W.heap.size ≤ k → ok k)
    (HB : Below base w0 W) (hbase : base ≤ W.heap.size) (hl : (xs.length + m) * bytes ≤ 140737488355328)
    (h : ∀ v1 w1, d.R e w1 base ok v1 (xs ++ ys) → Below base w0 w1 → W.grownBy w1 v.ownBlock → (v1.ownBlock = v.ownBlock ∨ ∃ b, v1.ownBlock = some b ∧ W.heap.size ≤ b) → wpList P ops Q rest (a.put o.dst v1) w1) :
    wpList P ops Q (o :: rest) a W := by
 obtain ⟨i0, hi, hzz⟩ := Option.map_eq_some_iff.1 hinfo
 simp only [Prod.mk.injEq] at hzz
 obtain ⟨hz0, hz1, hz2⟩ := hzz
 have hm : ys.length = m := HR.1
 have hlen : xs.length + m ≤ 140737488355328 := Nat.le_trans (Nat.le_mul_of_pos_right _ hb0) hl
 obtain ⟨hok, inner, hown, hr⟩ := HO
 have hrun : ∃ v1 w1, (Builtin.append_ #[t, t] o.type #[v, .slice A m c]).run P W = .ok v1 w1 ∧ d.R e w1 base ok v1 (xs ++ ys) ∧ W.grownBy w1 v.ownBlock ∧ (v1.ownBlock = v.ownBlock ∨ ∃ b, v1.ownBlock = some b ∧ W.heap.size ≤ b) := by
  rcases A with _ | ad
  · have h0 : m = 0 := by
      rcases Nat.eq_zero_or_pos m with h0 | h0
      · exact h0
      · obtain ⟨ad, h, _⟩ := HR.2.2 h0
        cases h
    subst h0
    obtain rfl : ys = [] := List.eq_nil_of_length_eq_zero hm
    refine ⟨v, W, ?_, by rw [List.append_nil]; exact ⟨hok, inner, hown, hr⟩, World.grownBy.refl W _, .inl rfl⟩
    rcases hown.2 with ⟨rfl, hn⟩ | ⟨g, cap, cur, rfl, _, _, hnc, _⟩
    · simp [Builtin.append_, run_underlying ht, sizeOf, typeInfo, hi, Builtin.lenOf, Builtin.firstCells]
    · simp [Builtin.append_, run_underlying ht, sizeOf, typeInfo, hi, Builtin.lenOf, Builtin.firstCells, hnc, storeCells]
  obtain ⟨news, hnr, hnc⟩ := ReadsRow.inner_ HR
  have hnM : Reps (d.M W base okp) d.sz ys news := hnr.imp_ (fun p c hp => hKM p c hp)
  have hone : ∀ u ∈ news, u.oneCell' = true := by
   intro u hu
   obtain ⟨q, hq, rfl⟩ := List.mem_iff_getElem.1 hu
   have hql : q / d.sz < ys.length := by
    rw [Nat.div_lt_iff_lt_mul hs0]
    rw [← hnM.1]
    exact hq
   have hc := hnM.2 (q / d.sz) _ (List.getElem?_eq_getElem hql)
   refine d.K_one (d.K_of_M hc) _ ?_
   rw [List.mem_iff_getElem?]
   refine ⟨q % d.sz, ?_⟩
   rw [List.getElem?_take, if_pos (Nat.mod_lt _ hs0), List.getElem?_drop, Nat.mul_comm, Nat.div_add_mod, List.getElem?_eq_getElem hq]
  obtain ⟨v1, w1, hrun, h2, hg, _, hat⟩ := run_append_own_at (P := P) W base t o.type e i0 z d.sz bytes ht hi hz0 hz1 hz2 hz hs0 v xs.length inner hown ad m c news (by rw [hnM.1, hm]) hnc hone (by simp only [maxLen]; omega) hl hbase
  have hat' : v1.ownBlock = v.ownBlock ∨ ∃ b, v1.ownBlock = some b ∧ W.heap.size ≤ b := by
   rcases hat with hat | hat
   · exact .inl hat
   exact .inr ⟨_, hat, Nat.le_refl _⟩
  have hne : ∀ k, some k ≠ v.ownBlock → k < W.heap.size → some k ≠ v1.ownBlock := by
   intro k hk hlt
   rcases hat' with hat | ⟨b, hb, hle⟩
   · rw [hat]; exact hk
   rw [hb]
   intro he
   injection he with he
   omega
  have step : ∀ {q : α} {c : List Value} {o : Nat → Prop}, d.M W base o q c → (∀ k, o k → ok k ∧ some k ≠ v.ownBlock) → d.M w1 base (fun k => ok k ∧ some k ≠ v1.ownBlock) q c := by
   intro q c o hq ho
   have h1 := d.M_move (w1 := w1) (fun k hk => hg.block k hk.2.2.1 (ho k hk.1).2) (d.M_bound hq)
   exact d.M_mono (fun k hk => ⟨(ho k hk.1).1, hne k (ho k hk.1).2 hk.2.2.1⟩) h1
  refine ⟨v1, w1, hrun, ⟨fun k hk => ?_, inner ++ news, by rw [List.length_append, hm]; exact h2, reps_append (hr.imp_ (fun _ _ hq => step hq (fun _ hk => hk))) (hnM.imp_ (fun _ _ hq => step hq hokp))⟩, hg, hat'⟩
  rcases hat' with hat | ⟨b, hb, hle⟩
  · exact hok k (hat ▸ hk)
  rw [hb] at hk
  injection hk with hk
  exact hfresh k (by omega)
 obtain ⟨v1, w1, hr1, h1, hg, hat⟩ := hrun
 refine wpList_plain hgd fun K hK => ?_
 unfold Oper.wp execOp
 simp only [ho, resolve, invoke, builtin, Sem.run_bind, Sem.run_pure, Result.andThen_ok, List.map_toArray, List.map_cons, List.map_nil, hs, hx, hr1]
 exact hK _ _ (h v1 w1 h1 (HB.grown hg hbase (own_base hown)) hg hat)
end
end Kd
theorem run_store_run {P : Program} {w : World} {g o : Nat} {e : TypeId} {cur : Array Value} (t : TypeId) (u : Value) (seg : List Value) (hh : w.heap[g]? = some (.cells cur e (0, 0))) (hu : u.cells.toList = seg) (ht : (P.info? t).map (·.size) = some seg.length)
    (hfit : o + seg.length ≤ cur.size) (h1 : ∀ q ∈ seg, q.oneCell' = true) : (Instr.storeAt t (.pointer (some ⟨g, o, none⟩)) u).run P w = .ok () (w.setCells g o seg) := by
 obtain ⟨i, hi, hsz⟩ := Option.map_eq_some_iff.1 ht
 have hc : u.cells.size = i.size := by rw [hsz, ← hu, Array.length_toList]
 have hst := run_storeCells_cells (P := P) g o seg 0 w (fun j hj => by rw [cell_of_row w g _ cur e (0, 0) hh]; simp; omega) (fun j _ => blk_frozen hh _) h1
 simp only [Nat.add_zero] at hst
 simp [Instr.storeAt, Instr.sureAddr, storeVar, sizeOf, typeInfo, hi, hc, hu, hst]
namespace Kd
section
variable {P : Program} {ops : Array Oper} {rest : List Oper} {o : Oper} {a : Act} {Q : Exit → Act → World → Prop} {α : Type}
end
end Kd
theorem add_add (a : Addr) (i j : Nat) : (a.add i).add j = a.add (i + j) := by
 unfold Addr.add
 by_cases h1 : i = 0 <;> by_cases h2 : j = 0 <;> simp [h1, h2, Nat.add_assoc]
namespace Kd
section
variable {α : Type} {k : Kd α} {w : World} {A : Option Addr} {xs : List α} {m c : Nat}
end
end Kd
section
variable {P : Program}
end
theorem string_of_reads {P : Program} {w : World} {src dst e : TypeId} {A : Option Addr} {n c : Nat} {xs : List Int} (hs : P.underlying src = some (.slice e)) (he : P.underlying e = some (.int .u8)) (hd : P.underlying dst = some .string)
    (h : ReadsInt w .u8 A n xs) : (convert src dst (.slice A n c)).run P w = .ok (.string (strOfNums xs)) w := by
 have hn : xs.length = n := h.1
 rcases A with _ | ad
 · have h0 : n = 0 := by
     rcases Nat.eq_zero_or_pos n with h0 | h0
     · exact h0
     · obtain ⟨ad, h', _⟩ := h.2.2 h0
       cases h'
   subst h0
   obtain rfl : xs = [] := List.eq_nil_of_length_eq_zero hn
   exact run_convert_bytes_nil w src e hs he 0 c dst hd
 · have hl : (loadCells ad n).run P w = .ok (xs.map (Value.int .u8)).toArray w := by
     have := run_loadCells_list (P := P) w ad (xs.map (Value.int .u8)) (fun j v hj => by
      have hjl : j < xs.length := by
       rcases Nat.lt_or_ge j xs.length with h' | h'
       · exact h'
       rw [List.getElem?_eq_none (by rw [List.length_map]; exact h')] at hj
       cases hj
      obtain ⟨ad', he', hc⟩ := h.2.2 (by omega)
      injection he' with he'
      subst he'
      rw [hc j (by omega)]
      rw [List.getElem?_map, List.getElem?_eq_getElem hjl] at hj
      simp at hj
      subst hj
      simp [List.getD_eq_getElem?_getD, List.getElem?_eq_getElem hjl])
     simpa [hn] using this
   rw [run_convert_bytes_string w src dst e _ n c hs he hd, run_bytesToString w ad n c xs hl, foldl_push_bytes]
   simp [strOfNums, ByteArray.empty, ByteArray.emptyWithCapacity]
   rfl
theorem Kd.C_string {P : Program} {w : World} {src dst e : TypeId} {A : Option Addr} {n c : Nat} {xs : List Int} (hs : P.underlying src = some (.slice e)) (he : P.underlying e = some (.int .u8)) (hd : P.underlying dst = some .string)
    (h : (Kd.int .u8).C w A n xs) : (convert src dst (.slice A n c)).run P w = .ok (.string (strOfNums xs)) w :=
 string_of_reads hs he hd (Kd.reads_of_C (enc := Value.int .u8) (d := (0 : Int)) (h1 := fun _ => rfl) h)
theorem below_size {w W : World} (h : Below w.heap.size w W) : w.heap.size ≤ W.heap.size := h.size
theorem below_step {w W w2 : World} (h : Below w.heap.size w W) (k : Below W.heap.size W w2) : Below w.heap.size w w2 := below_then h h.size k
theorem below_set {w W : World} {g j : Nat} {v : Value} (h : Below w.heap.size w W) (hg : w.heap.size ≤ g) : Below w.heap.size w (W.setCell ⟨g, j, none⟩ v) := h.setCell hg _
theorem keep_drewN {w W : World} {g : Nat} {row : Option Nat} (h : KeepBut w W g row) (m : Nat) : KeepBut w (W.drewN m) g row := h
theorem keep_alloc {w W : World} {g : Nat} (h : KeepBut w W g none) (o : Obj) : KeepBut w (W.alloc o) g none := h.trans (KeepBut.of_grown (World.grownBy_alloc W o none) g) (.inl rfl)
theorem keep_size {w W : World} {g : Nat} {row : Option Nat} (h : KeepBut w W g row) : w.heap.size ≤ W.heap.size := h.1
theorem blk_put {w : World} {g : Nat} {t : TypeId} {cs cs' : Array Value} (h : w.heap[g]? = some (.cells cs t (0, 0))) (i : Nat) (u : Value) (e : cs.setIfInBounds i u = cs') : (w.setCell ⟨g, i, none⟩ u).heap[g]? = some (.cells cs' t (0, 0)) := e ▸ blk_set h i u
theorem below_drew1 {base : Nat} {w W : World} (h : Below base w W) : Below base w W.drew := h.drew
theorem keep_drew {w W : World} {g : Nat} {row : Option Nat} (h : KeepBut w W g row) : KeepBut w W.drew g row := h
namespace Kd
section
variable {α β : Type} {d : Kd α} {d' : Kd β} {e e' base base' n : Nat} {ok ok' : Nat → Prop} {w W w1 W1 : World} {v u : Value} {xs : List α} {ys : List β} {A : Option Addr} {c : Nat}
end
section
variable {α : Type} {enc : α → Value} {h1 : ∀ x, (enc x).oneCell' = true} {w W : World} {A : Option Addr} {n g : Nat} {xs : List α}
end
end Kd
namespace Kd
section
variable {α : Type} {d : Kd α} {e base g : Nat} {ok : Nat → Prop} {w w1 : World} {v : Value} {xs : List α} {o : Obj}
end
end Kd
section
variable {P : Program} {ops : Array Oper} {rest : List Oper} {o : Oper} {a : Act} {Q : Exit → Act → World → Prop}
theorem box_event {W : World} (hgd : o.guard = none) {N : Tmp} (_hd : o.dst = some N) {cs : Array Value} {t : TypeId}
    (hrun : (execOp a.eval o).run P W = .ok (.value (.pointer (some ⟨W.heap.size, 0, none⟩))) (W.alloc (.cells cs t (0, 0))))
    (h : ∀ g, g = W.heap.size → ∀ w1, w1.heap[g]? = some (.cells cs t (0, 0)) → Below W.heap.size W w1 → wpList P ops Q rest (a.put o.dst (.pointer (some ⟨g, 0, none⟩))) w1) : wpList P ops Q (o :: rest) a W :=
 Kd.event_run hgd hrun (h _ rfl _ (blk_new W _) (below_alloc (Below.refl _ _) _))
theorem Kd.R_append_row {α : Type} (enc : α → Value) (d : α) {h1 : ∀ x : α, (enc x).oneCell' = true} {w0 W : World} (base : Nat) (hgd : o.guard = none) (s x : Operand) (t e : TypeId) (z : Value) (bytes : Nat)
    (ho : o.op = .call { callee := .builtin .append, args := #[s, x], argTypes := #[t, t] })
    (ht : P.underlying t = some (.slice e)) (hinfo : (P.info? e).map (fun i => (i.zero, i.size, i.bytes)) = some (some z, 1, bytes)) (hz : z.cells.size = 1) (hb0 : 0 < bytes)
    (v : Value) (xs ys : List α) (A : Option Addr) (m c : Nat) (ok : Nat → Prop) (hs : a.eval s = v) (hx : a.eval x = .slice A m c) (hfresh : ∀ k, W.heap.size ≤ k → ok k)
    (HO : (Kd.scalar enc h1).R e W base ok v xs) (HR : (Kd.scalar enc h1).C W A m ys) (HB : Below base w0 W) (hbase : base ≤ W.heap.size) (hl : (xs.length + m) * bytes ≤ 140737488355328)
    (h : ∀ v1 w1, (Kd.scalar enc h1).R e w1 base ok v1 (xs ++ ys) → Below base w0 w1 → W.grownBy w1 v.ownBlock → (v1.ownBlock = v.ownBlock ∨ ∃ b, v1.ownBlock = some b ∧ W.heap.size ≤ b) → wpList P ops Q rest (a.put o.dst v1) w1) :
    wpList P ops Q (o :: rest) a W := by
 refine print_append_row_of (w0 := w0) enc d base hgd s x t e z bytes ho ht hinfo hz hb0 h1 v xs ys A m c hs hx (Kd.own_of_R HO) (Kd.reads_of_C (d := d) HR) HB hbase hl ?_
 intro v1 w1 hown hb hg hat
 refine h v1 w1 (Kd.R_of_own hown (fun k hk => ?_)) hb hg hat
 rcases hat with e1 | ⟨b, e1, hbb⟩
 · exact HO.1 k (by rw [← e1]; exact hk)
 · rw [e1] at hk
   injection hk with hk
   subst hk
   exact hfresh _ hbb
end
namespace Kd
section
variable {α : Type} {enc : α → Value} {h1 : ∀ x, (enc x).oneCell' = true} {e base g n cap : Nat} {ok : Nat → Prop} {W : World} {xs : List α}
end
end Kd
section
variable {P : Program} {ops : Array Oper} {rest : List Oper} {o : Oper} {a : Act} {Q : Exit → Act → World → Prop}
end
namespace Kd
section
variable {α : Type} {enc : α → Value} {h1 : ∀ x, (enc x).oneCell' = true} {e base g n cap : Nat} {ok : Nat → Prop} {W : World} {xs : List α}
end
end Kd
section
variable {P : Program} {ops : Array Oper} {rest : List Oper} {o : Oper} {a : Act} {Q : Exit → Act → World → Prop} {W : World}
theorem gate_dst {N : Tmp} (_hN : o.dst = some N) (h : wpList P ops Q (o :: rest) a W) : wpList P ops Q (o :: rest) a W := h
end
section
variable {P : Program} {ops : Array Oper} {o : Oper} {a : Act} {Q : Exit → Act → World → Prop} {Kc : Act → World → Prop}
namespace Kd
variable {α : Type}
theorem R_append_rows_step (d : Kd α) {Rr : α → List Value → Prop} {w0 W : World} (base : Nat) (hw : Region.wanted o (yielded ops a.tmps) = true) (s x : Operand) (t e : TypeId) (z : Value) (bytes : Nat)
    (ho : o.op = .call { callee := .builtin .append, args := #[s, x], argTypes := #[t, t] })
    (ht : P.underlying t = some (.slice e)) (hinfo : (P.info? e).map (fun i => (i.zero, i.size, i.bytes)) = some (some z, d.sz, bytes)) (hz : z.cells.size = d.sz) (hs0 : 0 < d.sz) (hb0 : 0 < bytes)
    (v : Value) (xs ys : List α) (A : Option Addr) (m c : Nat) (ok okp : Nat → Prop) (hs : a.eval s = v) (hx : a.eval x = .slice A m c)
    (HO : d.R e W base ok v xs) (HR : ReadsRow Rr d.sz W A m ys) (hKM : ∀ x cs, Rr x cs → d.M W base okp x cs) (hokp : ∀ k, okp k → ok k ∧ some k ≠ v.ownBlock) (hfresh : ∀ k, W.heap.size ≤ k → ok k)
    (HB : Below base w0 W) (hbase : base ≤ W.heap.size) (hl : (xs.length + m) * bytes ≤ 140737488355328)
    (h : ∀ v1 w1, d.R e w1 base ok v1 (xs ++ ys) → Below base w0 w1 → W.grownBy w1 v.ownBlock → (v1.ownBlock = v.ownBlock ∨ ∃ b, v1.ownBlock = some b ∧ W.heap.size ≤ b) → Kc (a.put o.dst v1) w1) :
    if Region.wanted o (yielded ops a.tmps) = true then Oper.wp P o a W Kc Q else Kc (a.put o.dst undef) W := by
 obtain ⟨i0, hi, hzz⟩ := Option.map_eq_some_iff.1 hinfo
 simp only [Prod.mk.injEq] at hzz
 obtain ⟨hz0, hz1, hz2⟩ := hzz
 have hm : ys.length = m := HR.1
 have hlen : xs.length + m ≤ 140737488355328 := Nat.le_trans (Nat.le_mul_of_pos_right _ hb0) hl
 obtain ⟨hok, inner, hown, hr⟩ := HO
 have hrun : ∃ v1 w1, (Builtin.append_ #[t, t] o.type #[v, .slice A m c]).run P W = .ok v1 w1 ∧ d.R e w1 base ok v1 (xs ++ ys) ∧ W.grownBy w1 v.ownBlock ∧ (v1.ownBlock = v.ownBlock ∨ ∃ b, v1.ownBlock = some b ∧ W.heap.size ≤ b) := by
  rcases A with _ | ad
  · have h0 : m = 0 := by
      rcases Nat.eq_zero_or_pos m with h0 | h0
      · exact h0
      · obtain ⟨ad, h, _⟩ := HR.2.2 h0
        cases h
    subst h0
    obtain rfl : ys = [] := List.eq_nil_of_length_eq_zero hm
    refine ⟨v, W, ?_, by rw [List.append_nil]; exact ⟨hok, inner, hown, hr⟩, World.grownBy.refl W _, .inl rfl⟩
    rcases hown.2 with ⟨rfl, hn⟩ | ⟨g, cap, cur, rfl, _, _, hnc, _⟩
    · simp [Builtin.append_, run_underlying ht, sizeOf, typeInfo, hi, Builtin.lenOf, Builtin.firstCells]
    · simp [Builtin.append_, run_underlying ht, sizeOf, typeInfo, hi, Builtin.lenOf, Builtin.firstCells, hnc, storeCells]
  obtain ⟨news, hnr, hnc⟩ := ReadsRow.inner_ HR
  have hnM : Reps (d.M W base okp) d.sz ys news := hnr.imp_ (fun p c hp => hKM p c hp)
  have hone : ∀ u ∈ news, u.oneCell' = true := by
   intro u hu
   obtain ⟨q, hq, rfl⟩ := List.mem_iff_getElem.1 hu
   have hql : q / d.sz < ys.length := by
    rw [Nat.div_lt_iff_lt_mul hs0]
    rw [← hnM.1]
    exact hq
   have hc := hnM.2 (q / d.sz) _ (List.getElem?_eq_getElem hql)
   refine d.K_one (d.K_of_M hc) _ ?_
   rw [List.mem_iff_getElem?]
   refine ⟨q % d.sz, ?_⟩
   rw [List.getElem?_take, if_pos (Nat.mod_lt _ hs0), List.getElem?_drop, Nat.mul_comm, Nat.div_add_mod, List.getElem?_eq_getElem hq]
  obtain ⟨v1, w1, hrun, h2, hg, _, hat⟩ := run_append_own_at (P := P) W base t o.type e i0 z d.sz bytes ht hi hz0 hz1 hz2 hz hs0 v xs.length inner hown ad m c news (by rw [hnM.1, hm]) hnc hone (by simp only [maxLen]; omega) hl hbase
  have hat' : v1.ownBlock = v.ownBlock ∨ ∃ b, v1.ownBlock = some b ∧ W.heap.size ≤ b := by
   rcases hat with hat | hat
   · exact .inl hat
   exact .inr ⟨_, hat, Nat.le_refl _⟩
  have hne : ∀ k, some k ≠ v.ownBlock → k < W.heap.size → some k ≠ v1.ownBlock := by
   intro k hk hlt
   rcases hat' with hat | ⟨b, hb, hle⟩
   · rw [hat]; exact hk
   rw [hb]
   intro he
   injection he with he
   omega
  have step : ∀ {q : α} {c : List Value} {o : Nat → Prop}, d.M W base o q c → (∀ k, o k → ok k ∧ some k ≠ v.ownBlock) → d.M w1 base (fun k => ok k ∧ some k ≠ v1.ownBlock) q c := by
   intro q c o hq ho
   have h1 := d.M_move (w1 := w1) (fun k hk => hg.block k hk.2.2.1 (ho k hk.1).2) (d.M_bound hq)
   exact d.M_mono (fun k hk => ⟨(ho k hk.1).1, hne k (ho k hk.1).2 hk.2.2.1⟩) h1
  refine ⟨v1, w1, hrun, ⟨fun k hk => ?_, inner ++ news, by rw [List.length_append, hm]; exact h2, reps_append (hr.imp_ (fun _ _ hq => step hq (fun _ hk => hk))) (hnM.imp_ (fun _ _ hq => step hq hokp))⟩, hg, hat'⟩
  rcases hat' with hat | ⟨b, hb, hle⟩
  · exact hok k (hat ▸ hk)
  rw [hb] at hk
  injection hk with hk
  exact hfresh k (by omega)
 obtain ⟨v1, w1, hr1, h1, hg, hat⟩ := hrun
 rw [if_pos hw]
 unfold Oper.wp execOp
 simp only [ho, resolve, invoke, builtin, Sem.run_bind, Sem.run_pure, Result.andThen_ok, List.map_toArray, List.map_cons, List.map_nil, hs, hx, hr1]
 exact h v1 w1 h1 (HB.grown hg hbase (own_base hown)) hg hat
end Kd
end
inductive Vals (P : Program) (tmps : Array Value) (w : World) : List ResultVar → List Value → Prop where
  | nil : Vals P tmps w [] []
  | tmp {u : Tmp} {rs : List ResultVar} {vs : List Value} (h : Vals P tmps w rs vs) : Vals P tmps w (.tmp u :: rs) (tmps.getD u undef :: vs)
  | cell {p : Tmp} {ty : TypeId} {rs : List ResultVar} {vs : List Value} (g : Nat) (t : TypeId) (cs : Array Value) (fr : Nat × Nat) (d : TypeDesc)
      (hp : tmps.getD p undef = .pointer (some ⟨g, 0, none⟩)) (hg : w.heap[g]? = some (.cells cs t fr))
      (hu : P.underlying ty = some d) (hd : (match d with | .struct _ | .array _ _ => true | _ => false) = true) (hi : (P.info? ty).map (·.size) = some cs.size)
      (h : Vals P tmps w rs vs) : Vals P tmps w (.cell p ty :: rs) (.agg cs :: vs)
section
variable {P : Program} {tmps : Array Value} {w : World}
theorem vals_run {rs : List ResultVar} {vs : List Value} (hv : Vals P tmps w rs vs) (f : ResultVar → Sem Value) (hf : ∀ u, f (.tmp u) = pure (tmps.getD u undef)) (hc : ∀ a t, f (.cell a t) = (do loadVar t (← asAddr (tmps.getD a undef)))) :
    (rs.mapM f).run P w = .ok vs w := by
 induction hv with
 | nil => simp
 | tmp h ih => simp [List.mapM_cons, hf, ih]
 | cell g t cs fr d hp hg hu hd hi h ih =>
  rw [List.mapM_cons, hc, hp]
  simp [asAddr, run_loadVar_row w g t _ cs fr d hg hu hd hi, ih]
theorem results_list {fn : Func} {rs : List ResultVar} {vs : List Value} (h : fn.results = rs.toArray) (hl : vs.length ≠ 1) (hv : Vals P tmps w rs vs) : (results fn tmps).run P w = .ok (.tuple vs.toArray) w := by
 unfold results
 rw [h, List.mapM_toArray]
 simp only [Sem.run_bind, Sem.run_map]
 rw [vals_run hv]
 · simp [hl]
 · intro u
   rfl
 intro a t
 rfl
end
namespace Kd
section
variable {P : Program} {α : Type}
end
section
variable {P : Program} {ops : Array Oper} {rest : List Oper} {o : Oper} {a : Act} {Q : Exit → Act → World → Prop} {Kc : Act → World → Prop} {α : Type}
end
end Kd
end Go.Proofs.YtapcpndplnkfjaaGreatDoorW.PrintWords
namespace Go.Proofs.YtapcpndplnkfjaaGreatDoor
open Go.RowKit Go.Proofs.YtapcpndplnkfjaaGreatDoorW.PrintWords
theorem beq_nil_isEmpty (l : List UInt8) : (l == []) = l.isEmpty := by cases l <;> rfl
theorem bytesLess_gtr : ∀ a b : List UInt8, (!Op.bytesLess a b && !(a == b)) = Op.bytesLess b a
 | [], [] => rfl
 | [], _ :: _ => rfl
 | _ :: _, [] => rfl
 | x :: a, y :: b => by
  have ih := bytesLess_gtr a b
  simp only [Op.bytesLess]
  by_cases h : x < y
  · have h2 : ¬ y < x := by rw [UInt8.lt_iff_toNat_lt] at *; omega
    have h3 : y ≠ x := fun e => by subst e; exact h2 h
    simp [h, h2, h3]
  by_cases h2 : y < x
  · have h3 : x ≠ y := fun e => by subst e; exact h h2
    simp [h, h2, h3]
  have h3 : x = y := by rw [← UInt8.toNat_inj]; rw [UInt8.lt_iff_toNat_lt] at *; omega
  subst h3
  simp only [h, beq_self_eq_true, Bool.true_and, decide_false, Bool.false_or, ← ih]
  simp
theorem drawn_same {w w' : World} (h : w' = w) : Drawn0 w w' := by subst h; exact Drawn0.refl _
def strings_TrimLeft.f (a0 a1 : ByteArray) : Option ByteArray :=
 if a1.size < 100 ∧ a1.data.toList.all (fun b => decide (b.toNat < 128)) = true then some ⟨(Lib.trimLeftS a0.data.toList a1.data.toList).toArray⟩ else none
theorem strings_TrimLeft.calls (a0 : ByteArray) (a1 : ByteArray) (r : ByteArray) (w : World) (h : strings_TrimLeft.f a0 a1 = some r) :
    Calls Tryz.prog 71 #[.string a0, .string a1] w fun e w' => e = .returned (.string r) ∧ Below w.heap.size w w' := by
 unfold strings_TrimLeft.f at h
 split at h
 · rename_i hc
   obtain rfl := Option.some.inj h
   exact Any.strings_TrimLeft_laid Tryz.lays161 (by kernel_rfl) a0 a1 w (by omega) (ascii_of_all hc.2)
 · exact absurd h (by simp)
def strings_TrimRight.f (a0 a1 : ByteArray) : Option ByteArray :=
 if (a1.size < 100 ∧ a0.size ≤ 9223372036854775807) ∧ a1.data.toList.all (fun b => decide (b.toNat < 128)) = true then some ⟨(Lib.trimRightS a0.data.toList a1.data.toList).toArray⟩ else none
theorem strings_TrimRight.calls (a0 : ByteArray) (a1 : ByteArray) (r : ByteArray) (w : World) (h : strings_TrimRight.f a0 a1 = some r) :
    Calls Tryz.prog 152 #[.string a0, .string a1] w fun e w' => e = .returned (.string r) ∧ Below w.heap.size w w' := by
 unfold strings_TrimRight.f at h
 split at h
 · rename_i hc
   obtain rfl := Option.some.inj h
   exact Any.strings_TrimRight_laid Tryz.lays162 (by kernel_rfl) a0 a1 w hc.1.2 (by omega) (ascii_of_all hc.2)
 · exact absurd h (by simp)
def strings_Contains.f (a0 a1 : ByteArray) : Option Bool :=
 match a1.data.toList with
 | [c] => some (decide (0 ≤ Lib.indexByte a0.data.toList c))
 | _ => none
theorem strings_Contains.calls (a0 : ByteArray) (a1 : ByteArray) (r : Bool) (w : World) (h : strings_Contains.f a0 a1 = some r) :
    Calls Tryz.prog 150 #[.string a0, .string a1] w fun e w' => e = .returned (.bool r) ∧ Drawn0 w w' := by
 unfold strings_Contains.f at h
 split at h
 · rename_i c hc
   obtain rfl := Option.some.inj h
   obtain rfl : a1 = ⟨#[c]⟩ := by
    obtain ⟨⟨l⟩⟩ := a1
    simp at hc
    subst hc; rfl
   exact (Tryz.strings_Contains_one a0 c w).mono fun e w' hh => ⟨hh.1, drawn_same hh.2⟩
 · exact absurd h (by simp)
def strings_CutPrefix.f (a0 a1 : ByteArray) : Option (ByteArray × Bool) := some (⟨(Lib.trimPrefix a0.data.toList a1.data.toList).toArray⟩, Lib.hasPrefix a0.data.toList a1.data.toList)
theorem strings_CutPrefix.calls (a0 a1 r1 : ByteArray) (r2 : Bool) (w : World) (h : strings_CutPrefix.f a0 a1 = some (r1, r2)) :
    Calls Tryz.prog 145 #[.string a0, .string a1] w fun e w' => e = .returned (.tuple #[.string r1, .bool r2]) ∧ Drawn0 w w' := by
 unfold strings_CutPrefix.f at h
 injection h with h
 injection h with h1 h2
 subst h1 h2
 exact (Tryz.strings_CutPrefix a0 a1 w).mono fun e w' hh => ⟨hh.1, drawn_same hh.2⟩
def strings_IndexByte.f (a0 : ByteArray) (a1 : Int) : Option Int := some (Lib.indexByte a0.data.toList a1.toNat.toUInt8)
end Go.Proofs.YtapcpndplnkfjaaGreatDoor
namespace Go.Proofs.YtapcpndplnkfjaaGreatDoor.NumP
def isD (c : UInt8) : Bool := decide (48 ≤ c.toNat ∧ c.toNat ≤ 57)
def isZ (c : UInt8) : Bool := c == 48
def val (l : List UInt8) : Int := l.foldl (fun n c => 10 * n + ((c.toNat : Int) - 48)) 0
def lstrip (l : List UInt8) : List UInt8 := l.dropWhile isZ
def rstrip (l : List UInt8) : List UInt8 := (l.reverse.dropWhile isZ).reverse
def pow (l : List UInt8) : Int := if (lstrip l).length > 10 then 1099511627776 else val (lstrip l)
abbrev NumV := Bool × List UInt8 × Int
def zero : NumV := (false, [], 0)
def form (d : Bool) (D : List UInt8) (e : Int) : NumV :=
 if rstrip (lstrip D) = [] then zero else (d, rstrip (lstrip D), e + (lstrip D).length - (rstrip (lstrip D)).length)
def right (n : NumV) : Bool :=
 if n.2.1 = [] then !n.1 && n.2.2 == 0
 else n.2.1.all isD && n.2.1.head? != some 48 && n.2.1.getLast? != some 48 && decide (n.2.1.length ≤ 40) && decide (-999 ≤ n.2.2) && decide (n.2.2 ≤ 999)
def dropSign (l : List UInt8) : List UInt8 := if l.head? = some 45 then l.tail else l
def dotP (r : List UInt8) : List UInt8 := if r.head? = some 46 then r.tail.takeWhile isD else []
def dotR (r : List UInt8) : List UInt8 := if r.head? = some 46 then r.tail.dropWhile isD else r
def dotB (r : List UInt8) : Bool := r.head? == some 46 && (dotP r).isEmpty
def isE (r : List UInt8) : Bool := r.head? == some 101 || r.head? == some 69
def isS (r : List UInt8) : Bool := r.head? == some 43 || r.head? == some 45
def expT (r : List UInt8) : List UInt8 := if isS r.tail then r.tail.tail else r.tail
def expL (r : List UInt8) : Bool := isE r && r.tail.head? == some 45
def expP (r : List UInt8) : List UInt8 := if isE r then (expT r).takeWhile isD else []
def expR (r : List UInt8) : List UInt8 := if isE r then (expT r).dropWhile isD else r
def expB (r : List UInt8) : Bool := isE r && (expP r).isEmpty
def wholeB (W : List UInt8) : Bool := W.isEmpty || (decide (1 < W.length) && W.head? == some 48)
def down (l : List UInt8) : Bool := l.head? == some 45
def whole (l : List UInt8) : List UInt8 := (dropSign l).takeWhile isD
def rest1 (l : List UInt8) : List UInt8 := (dropSign l).dropWhile isD
def rest2 (l : List UInt8) : List UInt8 := dotR (rest1 l)
def rest3 (l : List UInt8) : List UInt8 := expR (rest2 l)
def bad (l : List UInt8) : Bool := wholeB (whole l) || dotB (rest1 l) || expB (rest2 l)
def ok (l : List UInt8) : Bool := !bad l && (rest3 l).isEmpty
def num (l : List UInt8) : NumV :=
 form (down l) (whole l ++ dotP (rest1 l)) ((if expL (rest2 l) then - pow (expP (rest2 l)) else pow (expP (rest2 l))) - (dotP (rest1 l)).length)
def parse (l : List UInt8) : NumV × Int :=
 if ok l then (if right (num l) then (num l, 0) else (zero, 13)) else (zero, 11)
def sgn (d : Bool) : List UInt8 := if d then [45] else []
def dot (P : List UInt8) : List UInt8 := if P.isEmpty then [] else 46 :: P
theorem isD_sign {c : UInt8} (h : isD c = true) : c ≠ 45 ∧ c ≠ 46 ∧ c ≠ 101 ∧ c ≠ 69 ∧ c ≠ 43 := by
 simp only [isD, decide_eq_true_eq] at h
 refine ⟨?_, ?_, ?_, ?_, ?_⟩ <;> (rintro rfl; simp at h)
structure Expo (x : List UInt8) (less : Bool) (E : List UInt8) : Prop where
  mk :: (out : (x = [] ∧ less = false ∧ E = []) ∨ (∃ c g, (c = 101 ∨ c = 69) ∧ (g = [] ∧ less = false ∨ g = [43] ∧ less = false ∨ g = [45] ∧ less = true) ∧ E ≠ [] ∧ E.all isD = true ∧ x = c :: g ++ E))
structure Is (l : List UInt8) (d : Bool) (W P : List UInt8) (less : Bool) (E : List UInt8) : Prop where
  w0 : W ≠ []
  wd : W.all isD = true
  wz : 1 < W.length → W.head? ≠ some 48
  pd : P.all isD = true
  text : ∃ x, Expo x less E ∧ l = sgn d ++ (W ++ (dot P ++ x))
theorem takeWhile_all (p : UInt8 → Bool) (l : List UInt8) : (l.takeWhile p).all p = true := by
 induction l with
 | nil => rfl
 | cons c t ih => by_cases h : p c = true <;> simp [h, ih]
theorem Is.of_ok {l : List UInt8} (h : ok l = true) : Is l (down l) (whole l) (dotP (rest1 l)) (expL (rest2 l)) (expP (rest2 l)) := by
 simp only [ok, bad, Bool.and_eq_true, Bool.not_eq_true', Bool.or_eq_false_iff] at h
 obtain ⟨⟨⟨hW, hP⟩, hE⟩, hR⟩ := h
 have e1 : l = sgn (down l) ++ dropSign l := by
  cases l with
  | nil => rfl
  | cons c t => by_cases e : c = 45 <;> simp [sgn, down, dropSign, e]
 have e2 : dropSign l = whole l ++ rest1 l := (List.takeWhile_append_dropWhile).symm
 have e3 : rest1 l = dot (dotP (rest1 l)) ++ rest2 l := by
  unfold rest2
  generalize rest1 l = r at *
  cases r with
  | nil => rfl
  | cons c t =>
   by_cases e : c = 46
   · subst e
     have hne : dotP (46 :: t) ≠ [] := by
      intro z; simp [dotB, z] at hP
     have : dotP (46 :: t) = t.takeWhile isD := by simp [dotP]
     have hne2 : (dotP (46 :: t)).isEmpty = false := by simpa using hne
     simp only [dot, hne2]
     simp only [this, dotR]
     simp
   simp [dotP, dotR, dot, e]
 have hx : Expo (rest2 l) (expL (rest2 l)) (expP (rest2 l)) := by
  unfold rest3 at hR
  generalize rest2 l = r at *
  cases hi : isE r with
  | false =>
   simp [expR, hi] at hR
   subst hR
   exact ⟨.inl ⟨rfl, rfl, rfl⟩⟩
  | true =>
   cases r with
   | nil => simp [isE] at hi
   | cons c t =>
    refine ⟨.inr ⟨c, if isS t then t.take 1 else [], ?_, ?_, ?_, ?_, ?_⟩⟩
    · simp [isE] at hi; exact hi
    · cases t with
      | nil => simp [isS, expL]
      | cons g u =>
       simp only [expL, hi]
       by_cases e : g = 43
       · subst e; simp [isS]
       by_cases e' : g = 45
       · subst e'; simp [isS]
       simp [isS, e, e']
    · intro z; simp [expB, hi, z] at hE
    · simp only [expP, hi, if_true]; exact takeWhile_all _ _
    simp only [expR, hi, if_true, List.isEmpty_iff] at hR
    have hz : expP (c :: t) = expT (c :: t) := by
     simp only [expP, hi, if_true]
     have := @List.takeWhile_append_dropWhile _ isD (expT (c :: t))
     rw [hR, List.append_nil] at this; exact this
    rw [hz]
    cases t with
    | nil => simp [expT, isS]
    | cons g u => by_cases e : isS (g :: u) = true <;> simp [expT, e]
 have hw0 : whole l ≠ [] := by intro z; simp [wholeB, z] at hW
 refine ⟨hw0, takeWhile_all _ _, ?_, ?_, rest2 l, hx, ?_⟩
 · intro hl hz
   simp [wholeB, hz] at hW
   omega
 · unfold dotP; split
   · exact takeWhile_all _ _
   rfl
 rw [← e3, ← e2, ← e1]
end Go.Proofs.YtapcpndplnkfjaaGreatDoor.NumP
namespace Go.Proofs.YtapcpndplnkfjaaGreatDoor
open Go.RowKit Go.Proofs.YtapcpndplnkfjaaGreatDoorW.PrintWords
theorem trimLeft_zero (l : List UInt8) : Lib.trimLeftS l [48] = NumP.lstrip l := by
 unfold Lib.trimLeftS NumP.lstrip
 congr 1; funext c
 rw [Bool.eq_iff_iff]; simp [NumP.isZ]
theorem val_take (l : List UInt8) (k : Nat) (h : k < l.length) : NumP.val (l.take (k + 1)) = 10 * NumP.val (l.take k) + ((l[k].toNat : Int) - 48) := by
 unfold NumP.val; rw [List.take_succ_eq_append_getElem h, List.foldl_append]; rfl
theorem val_bd (l : List UInt8) (hd : l.all NumP.isD = true) : ∀ k, k ≤ l.length → 0 ≤ NumP.val (l.take k) ∧ NumP.val (l.take k) < 10 ^ k
 | 0, _ => by simp [NumP.val]
 | k + 1, h => by
  have ih := val_bd l hd k (by omega)
  rw [val_take l k (by omega)]
  have hc : NumP.isD l[k] = true := List.all_eq_true.1 hd _ (List.getElem_mem _)
  simp only [NumP.isD, decide_eq_true_eq] at hc
  have : (10 : Int) ^ (k + 1) = 10 * 10 ^ k := by rw [Int.pow_succ]; omega
  omega
theorem pow_le (k : Nat) (h : k ≤ 10) : (10 : Int) ^ k ≤ 10000000000 := by
 match k, h with
 | 0, _ => decide
 | 1, _ => decide
 | 2, _ => decide
 | 3, _ => decide
 | 4, _ => decide
 | 5, _ => decide
 | 6, _ => decide
 | 7, _ => decide
 | 8, _ => decide
 | 9, _ => decide
 | 10, _ => decide
def num_power.f (a0 : ByteArray) : Option Int := if a0.data.toList.all NumP.isD = true then some (NumP.pow a0.data.toList) else none
theorem dropAll (p q : UInt8 → Bool) (l : List UInt8) (h : l.all q = true) : (l.dropWhile p).all q = true := by
 rw [List.all_eq_true] at *
 intro c hc
 exact h c ((List.dropWhile_sublist p).subset hc)
set_option maxRecDepth 100000 in
set_option maxHeartbeats 1000000 in
theorem num_power.calls (a0 : ByteArray) (r : Int) (w : World) (h : num_power.f a0 = some r) :
    Calls Tryz.prog 132 #[.string a0] w fun e w' => e = .returned (.int .i64 r) ∧ Below w.heap.size w w' := by
 unfold num_power.f at h
 split at h
 case isFalse => exact absurd h (by simp)
 rename_i hd
 obtain rfl := Option.some.inj h
 clear h
 have hT : strings_TrimLeft.f a0 ⟨#[48]⟩ = some ⟨(NumP.lstrip a0.data.toList).toArray⟩ := by
  unfold strings_TrimLeft.f
  rw [if_pos (by decide), trimLeft_zero]
 have hzd := dropAll NumP.isZ NumP.isD _ hd
 change (NumP.lstrip a0.data.toList).all NumP.isD = true at hzd
 unfold NumP.pow
 generalize NumP.lstrip a0.data.toList = z at *
 by_cases hlen : z.length > 10
 · rw [if_pos hlen]
   go_enter Tryz.func132, Tryz.ntmps132
   go_wp2_with fail
   refine (strings_TrimLeft.calls _ _ _ _ hT).mono ?_
   rintro e w1 ⟨rfl, hb⟩
   have HT := hi_ hT
   clear hT
   have hs : ((10 : Int) < ((⟨z.toArray⟩ : ByteArray).size : Int)) = True := by simp [ByteArray.size]; omega
   go_wp2
   go_ret
   exact ⟨rfl, hb⟩
 · rw [if_neg hlen]
   have hnl : z.length ≤ 10 := by omega
   clear hlen
   go_enter Tryz.func132, Tryz.ntmps132
   go_wp2_with fail
   refine (strings_TrimLeft.calls _ _ _ _ hT).mono ?_
   rintro e w1 ⟨rfl, hb⟩
   have HT := hi_ hT
   clear hT
   obtain ⟨s, hs⟩ : ∃ s : ByteArray, s = ⟨z.toArray⟩ := ⟨_, rfl⟩
   have hz : z = s.data.toList := by rw [hs]
   have hsz : s.size = z.length := by rw [hs]; simp [ByteArray.size]
   rw [← hs]
   subst hz
   clear hs HT
   have hle : (s.size : Int) ≤ 10 := by omega
   have HSZ := hi_ hsz
   clear hsz
   go_wp2
   go_loopw [3] (fun n w' => ∃ k : Nat, k ≤ s.size ∧ w' = w1.iter s k ∧ n = .int .i64 (NumP.val (s.data.toList.take k))) (fun _ w' => s.size - w'.iterPos w1.heap.size)
   case atStart => exact ⟨0, Nat.zero_le _, rfl, rfl⟩
   case round =>
    obtain ⟨k, hk, rfl, rfl⟩ := hrel
    have hb1 := val_bd s.data.toList hzd k (by have := HSZ.out; omega)
    have hp1 := pow_le k (by omega)
    have v0 : 0 ≤ NumP.val (s.data.toList.take k) := hb1.1
    have v1 : NumP.val (s.data.toList.take k) ≤ 10000000000 := by omega
    clear hb1 hp1
    by_cases hp : k < s.size
    · have hd1 : NumP.isD s[k] = true := List.all_eq_true.1 hzd _ (by exact List.getElem_mem (l := s.data.toList) (n := k) (by simpa using hp))
      simp only [NumP.isD, decide_eq_true_eq] at hd1
      have HV := hi_ (val_take s.data.toList k (by have := HSZ.out; omega))
      have hnx : ∀ ty, (Instr.next (.pointer (some ⟨w1.heap.size, 0, none⟩)) true ty).run Tryz.prog (w1.iter s k) = _ := fun ty => run_next_ascii w1 s k ty hp (by omega)
      have hc0 : 48 ≤ ((s[k]'hp).toNat : Int) := by omega
      have hc1 : ((s[k]'hp).toNat : Int) ≤ 57 := by omega
      clear hd1
      go_wp2
      go_roundw
      case rel => exact ⟨k + 1, by omega, rfl, by rw [HV.out]; simp; go_num⟩
      case measure => simp; omega
    have hnx : ∀ ty, (Instr.next (.pointer (some ⟨w1.heap.size, 0, none⟩)) true ty).run Tryz.prog (w1.iter s k) = _ := fun ty => run_next_end w1 s k ty hp
    go_wp2
    go_ret
    refine ⟨?_, below_alloc hb _⟩
    rw [List.take_of_length_le (by have := HSZ.out; omega)]; rfl
end Go.Proofs.YtapcpndplnkfjaaGreatDoor
namespace Go.Proofs.YtapcpndplnkfjaaGreatDoorW.PrintLast
section
variable {P : Program} {ops : Array Oper} {Q : Exit → Act → World → Prop} {md : Region.Mode} {S : World → Prop} {ds : List Nat}
def Region.reachB (md : Region.Mode) (ops : Array Oper) (i : Nat) : Nat → Nat → Bool
 | 0, _ => false
 | fuel + 1, d => match ops[d]? with
  | some o => o.after.any fun e => Region.binds md e && (e.on == i || Region.reachB md ops i fuel e.on)
  | none => false
def Region.closedB (md : Region.Mode) (ops : Array Oper) (listed : Array Bool) : Bool :=
 (List.range ops.size).all fun j => !listed.getD j false || match ops[j]? with
  | some o => o.after.all fun e => !Region.binds md e || listed.getD e.on false
  | none => true
def Region.lastB (md : Region.Mode) (ops : Array Oper) (listed : Array Bool) (ds : List Nat) (i : Nat) : Bool :=
 ds.all fun d => listed.getD d true || Region.reachB md ops i ops.size d
def ListedClosed (md : Region.Mode) (ops : Array Oper) (listed : Array Bool) : Prop :=
 ∀ j oj, ops[j]? = some oj → listed.getD j false = true → ∀ e ∈ oj.after, Region.binds md e = true → listed.getD e.on false = true
theorem Region.closedB_spec {listed : Array Bool} (h : Region.closedB md ops listed = true) : ListedClosed md ops listed := by
 intro j oj hj hl e he hb
 have hlt : j < ops.size := (Array.getElem?_eq_some_iff.1 hj).1
 have h1 := List.all_eq_true.1 h j (List.mem_range.2 hlt)
 simp only [hl, hj, Bool.not_true, Bool.false_or] at h1
 have h2 := Array.all_eq_true_iff_forall_mem.1 h1 e he
 simpa [hb] using h2
theorem ListedClosed.set {listed : Array Bool} {i : Nat} (h : ListedClosed md ops listed) (hi : i ∈ Region.ready md ops listed) : ListedClosed md ops (listed.setIfInBounds i true) := by
 obtain ⟨_, oi, hoi, hall⟩ := mem_ready.1 hi
 intro j oj hj hl e he hb
 by_cases hij : i = j
 · subst hij
   have : oj = oi := Option.some.inj (hj.symm.trans hoi)
   subst this
   exact getD_set_true (hall e he hb)
 rw [getD_set_ne false hij] at hl
 exact getD_set_true (h j oj hj hl e he hb)
theorem Region.reach_listed {listed : Array Bool} {i : Nat} (hc : ListedClosed md ops listed) : ∀ (fuel d : Nat), Region.reachB md ops i fuel d = true → listed.getD d false = true → listed.getD i false = true
 | 0, _, h, _ => by simp [Region.reachB] at h
 | fuel + 1, d, h, hl => by
  unfold Region.reachB at h
  cases ho : ops[d]? with
  | none => rw [ho] at h; simp at h
  | some o =>
   rw [ho] at h
   obtain ⟨e, he, h1⟩ := Array.any_eq_true'.1 h
   simp only [Bool.and_eq_true, Bool.or_eq_true, beq_iff_eq] at h1
   have hle := hc d o ho hl e he h1.1
   rcases h1.2 with h2 | h2
   · rw [← h2]; exact hle
   exact Region.reach_listed hc fuel e.on h2 hle
theorem Region.reach_not_ready {listed : Array Bool} {i d fuel : Nat} (hc : ListedClosed md ops listed) (hr : Region.reachB md ops i fuel d = true) (hun : listed.getD i true = false) : d ∉ Region.ready md ops listed := by
 intro hd
 obtain ⟨_, o, ho, hall⟩ := mem_ready.1 hd
 have hi : listed.getD i false = true := by
  cases fuel with
  | zero => simp [Region.reachB] at hr
  | succ n =>
   unfold Region.reachB at hr
   rw [ho] at hr
   obtain ⟨e, he, h1⟩ := Array.any_eq_true'.1 hr
   simp only [Bool.and_eq_true, Bool.or_eq_true, beq_iff_eq] at h1
   have hle := hall e he h1.1
   rcases h1.2 with h2 | h2
   · rw [← h2]; exact hle
   exact Region.reach_listed hc n e.on h2 hle
 rcases Nat.lt_or_ge i listed.size with h' | h'
 · simp [h'] at hun hi
   rw [hun] at hi
   cases hi
 simp [Array.getElem?_eq_none h'] at hun
def wpAnyLast (P : Program) (md : Region.Mode) (ops : Array Oper) (Q : Exit → Act → World → Prop) (S : World → Prop) (ds : List Nat) : Nat → Array Bool → Act → World → Prop
 | 0, listed, a, w => Region.ready md ops listed = [] ∧ Q .normal a w
 | fuel + 1, listed, a, w =>
  (Region.ready md ops listed = [] → Q .normal a w) ∧
  ∀ i ∈ Region.ready md ops listed, wpOp P ops Q i (fun a' w' => (i ∉ ds → S w → S w') ∧ wpAnyLast P md ops Q S ds fuel (listed.setIfInBounds i true) a' w') a w
theorem wpAny_of_last : ∀ (fuel : Nat) (listed : Array Bool) (a : Act) (w : World), wpAnyLast P md ops Q S ds fuel listed a w → wpAny P md ops Q fuel listed a w
 | 0, _, _, _, h => h
 | fuel + 1, _, _, _, h => ⟨h.1, fun i hi => wpOp_mono (fun a' w' h' => wpAny_of_last fuel _ a' w' h'.2) (h.2 i hi)⟩
theorem wpAnyLast_first {i : Nat} {oi : Oper} {v : Value} (hi : ops[i]? = some oi) (hsel : ∀ (j : Nat) (o : Oper) cs b, ops[j]? = some o → o.op ≠ .select cs b)
    (hQ : ∀ c a w, Q (.panic c) (a.put oi.dst v) w → Q (.panic c) a w) (n : Nat) :
    ∀ (fuel : Nat) (listed : Array Bool) (a : Act) (w : World),
     (∀ j oj, ops[j]? = some oj → j ≠ i → listed.getD j true = false → (∀ e ∈ oj.after, Region.binds md e = true → e.on ≠ i) → oi.apart ops oj = true) →
     ListedClosed md ops listed → (∀ d ∈ ds, listed.getD d true = false → Region.reachB md ops i n d = true) →
     i ∈ Region.ready md ops listed → YieldsIf P ops S oi v a → S w →
     wpAnyLast P md ops Q S ds fuel (listed.setIfInBounds i true) (a.put oi.dst v) w → wpAnyLast P md ops Q S ds (fuel + 1) listed a w := by
 intro fuel
 induction fuel with
 | zero =>
  intro listed a w _ _ _ hr hy hS H
  refine ⟨fun h => (by rw [h] at hr; cases hr), fun j hj => ?_⟩
  by_cases hji : j = i
  · subst hji; exact hy.wpOp hi hS ⟨fun _ h => h, H⟩
  have := ready_mono hj hji
  rw [H.1] at this
  cases this
 | succ fuel ih =>
  intro listed a w hfree hc hd hr hy hS H
  refine ⟨fun h => (by rw [h] at hr; cases hr), fun j hj => ?_⟩
  by_cases hji : j = i
  · subst hji; exact hy.wpOp hi hS ⟨fun _ h => h, H⟩
  have h1 := H.2 j (ready_mono hj hji)
  obtain ⟨hjun, oj, hoj, hall⟩ := mem_ready.1 hj
  have hiun := (mem_ready.1 hr).1
  have hnot : ∀ e ∈ oj.after, Region.binds md e = true → e.on ≠ i := fun e he hb heq => by
   have h1 := hall e he hb
   rw [heq] at h1
   rcases Nat.lt_or_ge i listed.size with h' | h'
   · simp [h'] at hiun h1; rw [hiun] at h1; cases h1
   simp [Array.getElem?_eq_none h'] at h1
  have hjd : j ∉ ds := fun hm => Region.reach_not_ready hc (hd j hm hjun) hiun hj
  have h2 := wpOp_putIf hoj (hfree j oj hoj hji hjun hnot) (fun cs b => hsel i oi cs b hi) (fun cs b => hsel j oj cs b hoj) hQ hy h1
  have hfree' : ∀ k ok, ops[k]? = some ok → k ≠ i → (listed.setIfInBounds j true).getD k true = false →
      (∀ e ∈ ok.after, Region.binds md e = true → e.on ≠ i) → oi.apart ops ok = true := fun k ok hk hki hun hno => by
   refine hfree k ok hk hki ?_ hno
   by_cases hjk : j = k
   · subst hjk; exact hjun
   · rw [getD_set_ne true hjk] at hun; exact hun
  have hd' : ∀ d ∈ ds, (listed.setIfInBounds j true).getD d true = false → Region.reachB md ops i n d = true := fun d hm hun => by
   refine hd d hm ?_
   by_cases hjk : j = d
   · subst hjk; exact hjun
   rw [getD_set_ne true hjk] at hun; exact hun
  refine wpOp_mono (fun a' w' h3 => ⟨h3.2.1, ih (listed.setIfInBounds j true) a' w' hfree' (hc.set hj) hd' (ready_mono hr (Ne.symm hji)) h3.1 (h3.2.1 hjd hS) ?_⟩) h2
  rw [Array.setIfInBounds_comm _ _ hji]
  exact h3.2.2
theorem wpAnyLast_any {i : Nat} {oi : Oper} {v : Value} (hi : ops[i]? = some oi) (hsel : ∀ (j : Nat) (o : Oper) cs b, ops[j]? = some o → o.op ≠ .select cs b)
    (hQ : ∀ c a w, Q (.panic c) (a.put oi.dst v) w → Q (.panic c) a w) :
    ∀ (fuel : Nat) (listed : Array Bool) (a : Act) (w : World),
     (∀ j oj, ops[j]? = some oj → j ≠ i → listed.getD j true = false → (∀ e ∈ oj.after, Region.binds md e = true → e.on ≠ i) → oi.apart ops oj = true) →
     i ∈ Region.ready md ops listed → Yields P ops oi v a →
     wpAnyLast P md ops Q S ds fuel (listed.setIfInBounds i true) (a.put oi.dst v) w → wpAnyLast P md ops Q S ds (fuel + 1) listed a w := by
 intro fuel
 induction fuel with
 | zero =>
  intro listed a w _ hr hy H
  refine ⟨fun h => (by rw [h] at hr; cases hr), fun j hj => ?_⟩
  by_cases hji : j = i
  · subst hji; exact (hy.yieldsIf (S := fun _ => True)).wpOp hi trivial ⟨fun _ h => h, H⟩
  have := ready_mono hj hji
  rw [H.1] at this
  cases this
 | succ fuel ih =>
  intro listed a w hfree hr hy H
  refine ⟨fun h => (by rw [h] at hr; cases hr), fun j hj => ?_⟩
  by_cases hji : j = i
  · subst hji; exact (hy.yieldsIf (S := fun _ => True)).wpOp hi trivial ⟨fun _ h => h, H⟩
  have h1 := H.2 j (ready_mono hj hji)
  obtain ⟨hjun, oj, hoj, hall⟩ := mem_ready.1 hj
  have hiun := (mem_ready.1 hr).1
  have hnot : ∀ e ∈ oj.after, Region.binds md e = true → e.on ≠ i := fun e he hb heq => by
   have h1 := hall e he hb
   rw [heq] at h1
   rcases Nat.lt_or_ge i listed.size with h' | h'
   · simp [h'] at hiun h1; rw [hiun] at h1; cases h1
   simp [Array.getElem?_eq_none h'] at h1
  have h2 := wpOp_put hoj (hfree j oj hoj hji hjun hnot) (fun cs b => hsel i oi cs b hi) (fun cs b => hsel j oj cs b hoj) hQ hy h1
  have hfree' : ∀ k ok, ops[k]? = some ok → k ≠ i → (listed.setIfInBounds j true).getD k true = false →
      (∀ e ∈ ok.after, Region.binds md e = true → e.on ≠ i) → oi.apart ops ok = true := fun k ok hk hki hun hno => by
   refine hfree k ok hk hki ?_ hno
   by_cases hjk : j = k
   · subst hjk; exact hjun
   · rw [getD_set_ne true hjk] at hun; exact hun
  refine wpOp_mono (fun a' w' h3 => ⟨h3.2.1, ih (listed.setIfInBounds j true) a' w' hfree' (ready_mono hr (Ne.symm hji)) h3.1 ?_⟩) h2
  rw [Array.setIfInBounds_comm _ _ hji]
  exact h3.2.2
theorem wpAnyLast_take {i : Nat} {oi : Oper} {v : Value} {fuel : Nat} {listed : Array Bool} {a : Act} {w : World} (hi : ops[i]? = some oi)
    (hs : Region.noSelect ops = true) (hf : Region.free md ops listed i = true) (hr : (Region.ready md ops listed).contains i = true)
    (hc : Region.closedB md ops listed = true) (hl : Region.lastB md ops listed ds i = true)
    (hQ : ∀ c a w, Q (.panic c) (a.put oi.dst v) w → Q (.panic c) a w) (hy : YieldsIf P ops S oi v a) (hS : S w)
    (h : wpAnyLast P md ops Q S ds fuel (listed.setIfInBounds i true) (a.put oi.dst v) w) : wpAnyLast P md ops Q S ds (fuel + 1) listed a w :=
 wpAnyLast_first hi (Region.noSelect_spec hs) hQ ops.size fuel listed a w (Region.free_spec hi hf) (Region.closedB_spec hc)
  (fun d hm hun => by have := List.all_eq_true.1 hl d hm; rw [hun] at this; simpa using this) (by simpa using hr) hy hS h
theorem wpAnyLast_all {rs : List Nat} {fuel : Nat} {listed : Array Bool} {a : Act} {w : World} (hr : Region.ready md ops listed = rs) (hne : rs ≠ [])
    (h : ∀ i ∈ rs, wpOp P ops Q i (fun a' w' => (i ∉ ds → S w → S w') ∧ wpAnyLast P md ops Q S ds fuel (listed.setIfInBounds i true) a' w') a w) : wpAnyLast P md ops Q S ds (fuel + 1) listed a w :=
 ⟨fun h0 => absurd (hr ▸ h0) hne, hr ▸ h⟩
theorem wpAnyLast_done {listed : Array Bool} {a : Act} {w : World} (hr : Region.ready md ops listed = []) (h : Q .normal a w) :
    ∀ fuel, wpAnyLast P md ops Q S ds fuel listed a w
 | 0 => ⟨hr, h⟩
 | _ + 1 => ⟨fun _ => h, by rw [hr]; simp⟩
theorem wp_region_last {id : Nat} {a : Act} {w : World} (hm : P.follows .mixedOrders = true)
    (h : wpAnyLast P .any ops Q S ds ops.size (Array.replicate ops.size false) a { w with drawn := w.drawn + 1 }) : (Code.region id ops true).wp P Q a w :=
 wp_region_any hm (wpAny_of_last _ _ _ _ h)
end
section
variable {P : Program} {ops : Array Oper} {Q : Exit → Act → World → Prop} {md : Region.Mode} {S : World → Prop} {ds : List Nat}
def AllReadyL (P : Program) (md : Region.Mode) (ops : Array Oper) (Q : Exit → Act → World → Prop) (S : World → Prop) (ds : List Nat) (fuel : Nat) (listed : Array Bool) (a : Act) (w : World) (rs : List Nat) : Prop :=
 ∀ i ∈ rs, wpOp P ops Q i (fun a' w' => (i ∉ ds → S w → S w') ∧ wpAnyLast P md ops Q S ds fuel (listed.setIfInBounds i true) a' w') a w
theorem AllReadyL.nil {fuel : Nat} {listed : Array Bool} {a : Act} {w : World} : AllReadyL P md ops Q S ds fuel listed a w [] := fun _ h => by cases h
theorem AllReadyL.cons {fuel : Nat} {listed : Array Bool} {a : Act} {w : World} {i : Nat} {o : Oper} {rs : List Nat} (ho : ops[i]? = some o) (hd : i ∉ ds)
    (h : ∀ K' : Act → World → Prop, Shut (∀ a w, S w → (S w → wpAnyLast P md ops Q S ds fuel (listed.setIfInBounds i true) a w) → K' a w) → if Region.wanted o (yielded ops a.tmps) = true then Oper.wp P o a w K' Q else K' (a.put o.dst undef) w)
    (hs : AllReadyL P md ops Q S ds fuel listed a w rs) : AllReadyL P md ops Q S ds fuel listed a w (i :: rs) := fun j hj => by
 rcases List.mem_cons.1 hj with rfl | hj
 · exact wpOp_step ho (fun K' hK => h K' (fun a w hS hW => hK a w ⟨fun _ _ => hS, hW hS⟩))
 · exact hs j hj
theorem AllReadyL.cons_last {fuel : Nat} {listed : Array Bool} {a : Act} {w : World} {i : Nat} {o : Oper} {rs : List Nat} (ho : ops[i]? = some o) (hd : i ∈ ds)
    (h : ∀ K' : Act → World → Prop, Shut (∀ a w, wpAnyLast P md ops Q S ds fuel (listed.setIfInBounds i true) a w → K' a w) → if Region.wanted o (yielded ops a.tmps) = true then Oper.wp P o a w K' Q else K' (a.put o.dst undef) w)
    (hs : AllReadyL P md ops Q S ds fuel listed a w rs) : AllReadyL P md ops Q S ds fuel listed a w (i :: rs) := fun j hj => by
 rcases List.mem_cons.1 hj with rfl | hj
 · exact wpOp_step ho (fun K' hK => h K' (fun a w hW => hK a w ⟨fun hn => absurd hd hn, hW⟩))
 · exact hs j hj
theorem wpAnyLast_ready {rs : List Nat} {fuel : Nat} {listed : Array Bool} {a : Act} {w : World} (hr : Region.ready md ops listed = rs) (hne : rs ≠ [])
    (h : AllReadyL P md ops Q S ds fuel listed a w rs) : wpAnyLast P md ops Q S ds (fuel + 1) listed a w := wpAnyLast_all hr hne h
theorem start_ {id n : Nat} {a : Act} {w : World} (l : Array Bool) (hm : P.follows .mixedOrders = true) (hn : ops.size = n) (hl : Array.replicate n false = l) (hS : S w.drew)
    (h : S w.drew → wpAnyLast P .any ops Q S ds n l a w.drew) : (Code.region id ops true).wp P Q a w := by
 subst hn
 subst hl
 exact wp_region_last hm (h hS)
def takeB (md : Region.Mode) (ops : Array Oper) (ds : List Nat) (l l' : Array Bool) (i : Nat) : Bool :=
 Region.noSelect ops && Region.free md ops l i && (Region.ready md ops l).contains i && Region.closedB md ops l && Region.lastB md ops l ds i && (l.setIfInBounds i true == l')
theorem take_ {i : Nat} {N : Option Tmp} {oi : Oper} {v : Value} {fuel : Nat} {l : Array Bool} {a : Act} {w : World} (l' : Array Bool) (hi : ops[i]? = some oi) (hN : oi.dst = N) (hc : takeB md ops ds l l' i = true)
    (hQ : ∀ c a w, Q (.panic c) (a.put oi.dst v) w → Q (.panic c) a w) (hy : YieldsIf P ops S oi v a) (hS : S w) {a' : Act} (ha : a.put N v = a')
    (h : wpAnyLast P md ops Q S ds fuel l' a' w) : wpAnyLast P md ops Q S ds (fuel + 1) l a w := by
 subst ha
 subst hN
 simp only [takeB, Bool.and_eq_true, beq_iff_eq] at hc
 obtain ⟨⟨⟨⟨⟨h1, h2⟩, h3⟩, h4⟩, h5⟩, h6⟩ := hc
 subst h6
 exact wpAnyLast_take hi h1 h2 h3 h4 h5 hQ hy hS h
def anyB (md : Region.Mode) (ops : Array Oper) (l l' : Array Bool) (i : Nat) : Bool :=
 Region.noSelect ops && Region.free md ops l i && (Region.ready md ops l).contains i && (l.setIfInBounds i true == l')
theorem pure_ {i : Nat} {N : Option Tmp} {oi : Oper} {v : Value} {fuel : Nat} {l : Array Bool} {a : Act} {w : World} (l' : Array Bool) (hi : ops[i]? = some oi) (hN : oi.dst = N) (hc : anyB md ops l l' i = true)
    (hQ : ∀ c a w, Q (.panic c) (a.put oi.dst v) w → Q (.panic c) a w) (hy : Yields P ops oi v a) {a' : Act} (ha : a.put N v = a')
    (h : wpAnyLast P md ops Q S ds fuel l' a' w) : wpAnyLast P md ops Q S ds (fuel + 1) l a w := by
 subst ha
 subst hN
 simp only [anyB, Bool.and_eq_true, beq_iff_eq] at hc
 obtain ⟨⟨⟨h1, h2⟩, h3⟩, h6⟩ := hc
 subst h6
 exact wpAnyLast_any hi (Region.noSelect_spec h1) hQ fuel l a w (Region.free_spec hi h2) (by simpa using h3) hy h
def readyB (md : Region.Mode) (ops : Array Oper) (l l' : Array Bool) (i : Nat) : Bool := (Region.ready md ops l == [i]) && (l.setIfInBounds i true == l')
theorem one_ {i : Nat} {N : Option Tmp} {oi : Oper} {fuel : Nat} {l : Array Bool} {a : Act} {w : World} (l' : Array Bool) (hi : ops[i]? = some oi) (hN : oi.dst = N) (hc : readyB md ops l l' i = true) (hd : i ∉ ds)
    (h : ∀ K : Act → World → Prop, Shut (∀ a' w', S w' → (S w' → wpAnyLast P md ops Q S ds fuel l' a' w') → K a' w') → if Region.wanted oi (yielded ops a.tmps) = true then Oper.wp P oi a w K Q else K (a.put N undef) w) :
    wpAnyLast P md ops Q S ds (fuel + 1) l a w := by
 subst hN
 simp only [readyB, Bool.and_eq_true, beq_iff_eq] at hc
 obtain ⟨h1, h2⟩ := hc
 subst h2
 exact wpAnyLast_ready h1 (by simp) (AllReadyL.cons hi hd (fun K hK => h K hK) AllReadyL.nil)
theorem last_ {i : Nat} {N : Option Tmp} {oi : Oper} {fuel : Nat} {l : Array Bool} {a : Act} {w : World} (l' : Array Bool) (hi : ops[i]? = some oi) (hN : oi.dst = N) (hc : readyB md ops l l' i = true) (hd : i ∈ ds)
    (h : ∀ K : Act → World → Prop, Shut (∀ a' w', wpAnyLast P md ops Q S ds fuel l' a' w' → K a' w') → if Region.wanted oi (yielded ops a.tmps) = true then Oper.wp P oi a w K Q else K (a.put N undef) w) :
    wpAnyLast P md ops Q S ds (fuel + 1) l a w := by
 subst hN
 simp only [readyB, Bool.and_eq_true, beq_iff_eq] at hc
 obtain ⟨h1, h2⟩ := hc
 subst h2
 exact wpAnyLast_ready h1 (by simp) (AllReadyL.cons_last hi hd (fun K hK => h K hK) AllReadyL.nil)
theorem done_ {l : Array Bool} {a : Act} {w : World} {n : Nat} (hr : (Region.ready md ops l == []) = true) (h : Q .normal a w) : wpAnyLast P md ops Q S ds n l a w := wpAnyLast_done (by simpa using hr) h n
theorem two_ {i j : Nat} {Ni Nj : Option Tmp} {oi oj : Oper} {fuel : Nat} {l : Array Bool} {a : Act} {w : World} (li lj : Array Bool) (hi : ops[i]? = some oi) (hj : ops[j]? = some oj) (hNi : oi.dst = Ni) (hNj : oj.dst = Nj)
    (hc : (Region.ready md ops l == [i, j] && l.setIfInBounds i true == li && l.setIfInBounds j true == lj) = true) (hdi : i ∉ ds) (hdj : j ∉ ds)
    (h1 : ∀ K : Act → World → Prop, Shut (∀ a' w', S w' → (S w' → wpAnyLast P md ops Q S ds fuel li a' w') → K a' w') → if Region.wanted oi (yielded ops a.tmps) = true then Oper.wp P oi a w K Q else K (a.put Ni undef) w)
    (h2 : ∀ K : Act → World → Prop, Shut (∀ a' w', S w' → (S w' → wpAnyLast P md ops Q S ds fuel lj a' w') → K a' w') → if Region.wanted oj (yielded ops a.tmps) = true then Oper.wp P oj a w K Q else K (a.put Nj undef) w) :
    wpAnyLast P md ops Q S ds (fuel + 1) l a w := by
 subst hNi
 subst hNj
 simp only [Bool.and_eq_true, beq_iff_eq] at hc
 obtain ⟨⟨h3, h4⟩, h5⟩ := hc
 subst h4
 subst h5
 exact wpAnyLast_ready h3 (by simp) (AllReadyL.cons hi hdi (fun K hK => h1 K hK) (AllReadyL.cons hj hdj (fun K hK => h2 K hK) AllReadyL.nil))
def putAll : Act → List (Tmp × Value) → Act
 | a, [] => a
 | a, (n, v) :: r => putAll (a.put (some n) v) r
theorem join_ {σ : Type} {fuel : Nat} {l : Array Bool} {a : Act} {w : World} (fuel' : Nat) (l' : Array Bool) (ns : σ → List (Tmp × Value)) (F : σ → World → Prop)
    (hcont : ∀ s w', F s w' → wpAnyLast P md ops Q S ds fuel' l' (putAll a (ns s)) w')
    (h : (∀ s w', F s w' → wpAnyLast P md ops Q S ds fuel' l' (putAll a (ns s)) w') → wpAnyLast P md ops Q S ds fuel l a w) : wpAnyLast P md ops Q S ds fuel l a w := h hcont
theorem norm_ {fuel : Nat} {l : Array Bool} {a a' : Act} {w : World} (ha : a = a') (h : wpAnyLast P md ops Q S ds fuel l a' w) : wpAnyLast P md ops Q S ds fuel l a w := by
 subst ha
 exact h
theorem call_ {oi : Oper} {N : Option Tmp} {a : Act} {w : World} {K : Act → World → Prop} (f : FuncId) (args : Array Value) (hw : Region.wanted oi (yielded ops a.tmps) = true) (hN : oi.dst = N) (hrun : (execOp a.eval oi).run P w = .ok (.enter f args) w)
    (h : Calls P f args w fun e w' => ∃ v, e = .returned v ∧ K (a.put N v) w') : if Region.wanted oi (yielded ops a.tmps) = true then Oper.wp P oi a w K Q else K (a.put N undef) w := by
 rw [if_pos hw]
 subst hN
 unfold Oper.wp
 rw [hrun, Oper.upon_enter]
 refine h.mono fun e w'' hh => ?_
 obtain ⟨v, rfl, hk⟩ := hh
 exact hk
theorem enters_ {f : FuncId} {fn : Func} (hf : P.funcs[f]? = some fn) (hname : (fn.name == "runtime.NumGoroutine") = false) (hb : fn.body.isSome = true) (args : Array Value) (w : World) : (callFunc f args).run P w = .ok (.enter f args) w := by
 have h1 : fn.name ≠ "runtime.NumGoroutine" := by simpa using hname
 obtain ⟨c, hc⟩ := Option.isSome_iff_exists.1 hb
 simp [callFunc, hf, h1, hc]
theorem goes_ {oi : Oper} {N : Option Tmp} {a : Act} {w : World} {K : Act → World → Prop} {f : FuncId} {fn : Func} {as_ : Array Operand} {ts : Array TypeId} (hf : P.funcs[f]? = some fn) (hname : (fn.name == "runtime.NumGoroutine") = false) (hb : fn.body.isSome = true) (args : Array Value)
    (hw : Region.wanted oi (yielded ops a.tmps) = true) (hN : oi.dst = N) (hop : oi.op = .call { callee := .value (.func f), args := as_, argTypes := ts }) (hargs : as_.map a.eval = args)
    (h : Calls P f args w fun e w' => ∃ v, e = .returned v ∧ K (a.put N v) w') : if Region.wanted oi (yielded ops a.tmps) = true then Oper.wp P oi a w K Q else K (a.put N undef) w := by
 refine call_ f args hw hN ?_ h
 have he := enters_ hf hname hb args w
 unfold execOp
 simp [hop, resolve, Deferred.ofValue, invoke, Act.eval, hargs, he]
theorem goesL_ {rest : List Oper} {oi : Oper} {a : Act} {w : World} (N : Option Tmp) (hd : oi.dst = N) (hg : oi.guard = none) {f : FuncId} {fn : Func} {as_ : Array Operand} {ts : Array TypeId} (hf : P.funcs[f]? = some fn) (hname : (fn.name == "runtime.NumGoroutine") = false) (hb : fn.body.isSome = true) (args : Array Value)
    (hop : oi.op = .call { callee := .value (.func f), args := as_, argTypes := ts }) (hargs : as_.map a.eval = args)
    (h : Calls P f args w fun e w' => ∃ v, e = .returned v ∧ wpList P ops Q rest (a.put N v) w') : wpList P ops Q (oi :: rest) a w := by
 refine wpList_plain hg fun K hK => ?_
 have he := enters_ hf hname hb args w
 have hrun : (execOp a.eval oi).run P w = .ok (.enter f args) w := by
  unfold execOp
  simp [hop, resolve, Deferred.ofValue, invoke, Act.eval, hargs, he]
 unfold Oper.wp
 rw [hrun, Oper.upon_enter]
 refine h.mono fun e w'' hh => ?_
 obtain ⟨v, rfl, hk⟩ := hh
 subst hd
 exact hK _ _ hk
theorem value_ {oi : Oper} {N : Option Tmp} {a : Act} {w w1 : World} {v : Value} {K : Act → World → Prop} (hw : Region.wanted oi (yielded ops a.tmps) = true) (hN : oi.dst = N) (hrun : (execOp a.eval oi).run P w = .ok (.value v) w1)
    (h : K (a.put N v) w1) : if Region.wanted oi (yielded ops a.tmps) = true then Oper.wp P oi a w K Q else K (a.put N undef) w := by
 rw [if_pos hw]
 subst hN
 unfold Oper.wp
 rw [hrun]
 exact h
theorem skip_ {oi : Oper} {a : Act} {w w1 : World} {K : Act → World → Prop} (hw : Region.wanted oi (yielded ops a.tmps) = true) (hN : oi.dst = none) (hrun : (execOp a.eval oi).run P w = .ok .skip w1)
    (h : K a w1) : if Region.wanted oi (yielded ops a.tmps) = true then Oper.wp P oi a w K Q else K (a.put none undef) w := by
 rw [if_pos hw]
 unfold Oper.wp
 rw [hrun]
 show K (a.put oi.dst undef) w1
 rw [hN]
 exact h
theorem i64_w (n : Int) : IntKind.i64.wrap n = Go.RowKit.wrap64 n := by unfold Go.RowKit.wrap64; exact IntKind.wrap_i64 n
theorem i32_w (n : Int) : IntKind.i32.wrap n = Go.RowKit.wrap32 n := by unfold Go.RowKit.wrap32; exact IntKind.wrap_i32 n
end
end Go.Proofs.YtapcpndplnkfjaaGreatDoorW.PrintLast
namespace Go.Proofs.YtapcpndplnkfjaaGreatDoorW.PrintLast
open Go.Proofs.YtapcpndplnkfjaaGreatDoorW.PrintWords (Aside0)
def needsOf (md : Region.Mode) (o : Oper) : List Nat := (o.after.toList.filter (fun e => Region.binds md e)).map (fun e => e.on)
def clashOf (md : Region.Mode) (ops : Array Oper) (i : Nat) (oi : Oper) : List Nat := (List.range ops.size).filter fun j => !(j == i) && match ops[j]? with
 | some oj => !(oj.after.any (fun e => Region.binds md e && e.on == i) || oi.apart ops oj)
 | none => false
def rtab (md : Region.Mode) (ops : Array Oper) : Bool × List (List Nat × List Nat) := (Region.noSelect ops, (List.range ops.size).map fun i => match ops[i]? with
 | some o => (needsOf md o, clashOf md ops i o)
 | none => ([], []))
def readyAt (T : List (List Nat × List Nat)) (l : List Bool) (i : Nat) : Bool := !l.getD i true && match T[i]? with
 | some r => r.1.all (fun j => l.getD j false)
 | none => false
def readyT (T : List (List Nat × List Nat)) (l : List Bool) : List Nat := (List.range T.length).filter (readyAt T l)
def freeT (T : List (List Nat × List Nat)) (l : List Bool) (i : Nat) : Bool := match T[i]? with
 | some r => r.2.all (fun j => l.getD j true)
 | none => false
def closedT (T : List (List Nat × List Nat)) (l : List Bool) : Bool := (List.range T.length).all fun j => !l.getD j false || match T[j]? with
 | some r => r.1.all (fun k => l.getD k false)
 | none => true
def reachT (T : List (List Nat × List Nat)) (i : Nat) : Nat → Nat → Bool
 | 0, _ => false
 | fuel + 1, d => match T[d]? with
  | some r => r.1.any fun j => j == i || reachT T i fuel j
  | none => false
def lastT (T : List (List Nat × List Nat)) (l : List Bool) (ds : List Nat) (i : Nat) : Bool := ds.all fun d => l.getD d true || reachT T i T.length d
section
variable {md : Region.Mode} {ops : Array Oper} {T : Bool × List (List Nat × List Nat)} {l l' li lj lk : Array Bool} {ds : List Nat} {i j k : Nat}
theorem gd (l : Array Bool) (j : Nat) (b : Bool) : l.getD j b = l.toList.getD j b := by simp [Array.getD_eq_getD_getElem?, List.getD_eq_getElem?_getD]
theorem needs_all (o : Oper) (p : Nat → Bool) : o.after.all (fun e => !Region.binds md e || p e.on) = (needsOf md o).all p := by
 unfold needsOf
 rw [← Array.all_toList]
 induction o.after.toList with
 | nil => rfl
 | cons e r ih =>
  rw [List.all_cons, ih, List.filter_cons]
  cases h : Region.binds md e <;> simp
theorem needs_any (o : Oper) (p : Nat → Bool) : o.after.any (fun e => Region.binds md e && p e.on) = (needsOf md o).any p := by
 unfold needsOf
 rw [← Array.any_toList]
 induction o.after.toList with
 | nil => rfl
 | cons e r ih =>
  rw [List.any_cons, ih, List.filter_cons]
  cases h : Region.binds md e <;> simp
theorem rtab_length : (rtab md ops).2.length = ops.size := by simp [rtab]
theorem rtab_some {o : Oper} (h : ops[i]? = some o) : (rtab md ops).2[i]? = some (needsOf md o, clashOf md ops i o) := by
 have hi := (Array.getElem?_eq_some_iff.1 h).1
 unfold rtab
 rw [List.getElem?_map, List.getElem?_range hi, Option.map_some, h]
theorem rtab_none (h : ops[i]? = none) : (rtab md ops).2[i]? = none := by
 have hi : ops.size ≤ i := Array.getElem?_eq_none_iff.1 h
 exact List.getElem?_eq_none (by rw [rtab_length]; exact hi)
theorem readyAt_eq : readyAt (rtab md ops).2 l.toList i = (!l.getD i true && ((ops[i]?).map (·.after.all fun e => !Region.binds md e || l.getD e.on false)).getD false) := by
 unfold readyAt
 rw [gd]
 cases h : ops[i]? with
 | none => rw [rtab_none h]; rfl
 | some o =>
  rw [rtab_some h]
  simp only [Option.map_some, Option.getD_some]
  rw [← needs_all]
  simp only [gd]
theorem ready_eq : Region.ready md ops l = readyT (rtab md ops).2 l.toList := by
 unfold Region.ready readyT
 rw [rtab_length]
 refine List.filter_congr (fun i _ => ?_)
 rw [readyAt_eq]
theorem free_eq : Region.free md ops l i = freeT (rtab md ops).2 l.toList i := by
 unfold Region.free freeT
 cases h : ops[i]? with
 | none => rw [rtab_none h]
 | some oi =>
  rw [rtab_some h]
  simp only [clashOf]
  rw [List.all_filter]
  congr 1
  funext j
  rw [gd]
  cases hj : ops[j]? with
  | none => cases (j == i) <;> cases (l.toList.getD j true) <;> simp
  | some oj =>
   cases (j == i) <;> cases (l.toList.getD j true) <;> cases (oj.after.any (fun e => Region.binds md e && e.on == i) || oi.apart ops oj) <;> simp_all
theorem closed_eq : Region.closedB md ops l = closedT (rtab md ops).2 l.toList := by
 unfold Region.closedB closedT
 rw [rtab_length]
 congr 1
 funext j
 rw [gd]
 cases h : ops[j]? with
 | none => rw [rtab_none h]
 | some o =>
  rw [rtab_some h]
  simp only
  rw [← needs_all]
  simp only [gd]
theorem reach_eq : ∀ (fuel d : Nat), Region.reachB md ops i fuel d = reachT (rtab md ops).2 i fuel d
 | 0, _ => rfl
 | fuel + 1, d => by
  unfold Region.reachB reachT
  cases h : ops[d]? with
  | none => rw [rtab_none h]
  | some o =>
   rw [rtab_some h]
   simp only
   rw [← needs_any]
   congr 1
   funext e
   rw [reach_eq fuel]
theorem last_eq : Region.lastB md ops l ds i = lastT (rtab md ops).2 l.toList ds i := by
 unfold Region.lastB lastT
 rw [rtab_length]
 congr 1
 funext d
 rw [gd, reach_eq]
theorem readyAt_mem (h : readyAt T.2 l.toList i = true) (hT : rtab md ops = T) : (Region.ready md ops l).contains i = true := by
 subst hT
 rw [ready_eq]
 unfold readyT
 rw [List.contains_iff_mem, List.mem_filter, List.mem_range]
 refine ⟨?_, h⟩
 unfold readyAt at h
 rw [Bool.and_eq_true] at h
 cases hq : (rtab md ops).2[i]? with
 | none => rw [hq] at h; simp at h
 | some r => exact (List.getElem?_eq_some_iff.1 hq).1
theorem set_of (h : (l.toList.set i true == l'.toList) = true) : (l.setIfInBounds i true == l') = true := by
 rw [beq_iff_eq] at h ⊢
 apply Array.ext'
 rw [Array.toList_setIfInBounds]
 exact h
def anyT (T : Bool × List (List Nat × List Nat)) (l l' : List Bool) (i : Nat) : Bool := T.1 && freeT T.2 l i && readyAt T.2 l i && (l.set i true == l')
theorem any_of (hT : rtab md ops = T) (h : anyT T l.toList l'.toList i = true) : anyB md ops l l' i = true := by
 simp only [anyT, Bool.and_eq_true] at h
 obtain ⟨⟨⟨h1, h2⟩, h3⟩, h4⟩ := h
 have h5 := readyAt_mem h3 hT
 have h6 := set_of h4
 subst hT
 simp only [anyB, Bool.and_eq_true]
 exact ⟨⟨⟨h1, by rw [free_eq]; exact h2⟩, h5⟩, h6⟩
def takeT (T : Bool × List (List Nat × List Nat)) (ds : List Nat) (l l' : List Bool) (i : Nat) : Bool := T.1 && freeT T.2 l i && readyAt T.2 l i && closedT T.2 l && lastT T.2 l ds i && (l.set i true == l')
theorem take_of (hT : rtab md ops = T) (h : takeT T ds l.toList l'.toList i = true) : takeB md ops ds l l' i = true := by
 simp only [takeT, Bool.and_eq_true] at h
 obtain ⟨⟨⟨⟨⟨h1, h2⟩, h3⟩, h4⟩, h5⟩, h6⟩ := h
 have h7 := readyAt_mem h3 hT
 have h8 := set_of h6
 subst hT
 simp only [takeB, Bool.and_eq_true]
 exact ⟨⟨⟨⟨⟨h1, by rw [free_eq]; exact h2⟩, h7⟩, by rw [closed_eq]; exact h4⟩, by rw [last_eq]; exact h5⟩, h8⟩
theorem one_of (hT : rtab md ops = T) (h : (readyT T.2 l.toList == [i] && l.toList.set i true == l'.toList) = true) : readyB md ops l l' i = true := by
 simp only [Bool.and_eq_true] at h
 obtain ⟨h1, h2⟩ := h
 subst hT
 simp only [readyB, Bool.and_eq_true]
 exact ⟨by rw [ready_eq]; exact h1, set_of h2⟩
theorem done_of (hT : rtab md ops = T) (h : (readyT T.2 l.toList == []) = true) : (Region.ready md ops l == []) = true := by
 subst hT
 rw [ready_eq]
 exact h
def upM (B : List Nat) (d : Nat) : List Nat → Nat
 | [] => 0
 | n :: r => (2 ^ n ||| (if n < d then B.getD n 0 else 0)) ||| upM B d r
def waitsOk (T : List (List Nat × List Nat)) (B : List Nat) : Bool := (List.range T.length).all fun d => match T[d]? with
 | some r => (B.getD d 0 ||| upM B d r.1) == upM B d r.1
 | none => false
theorem upM_bit {B : List Nat} {d i : Nat} : ∀ {ns : List Nat}, (upM B d ns).testBit i = true → ∃ n ∈ ns, n = i ∨ (n < d ∧ (B.getD n 0).testBit i = true)
 | [], h => by simp [upM] at h
 | n :: r, h => by
  unfold upM at h
  rw [Nat.testBit_or, Nat.testBit_or, Bool.or_eq_true, Bool.or_eq_true] at h
  rcases h with (h | h) | h
  · rw [Nat.testBit_two_pow] at h
    exact ⟨n, List.mem_cons_self, .inl (by simpa using h)⟩
  · by_cases hn : n < d
    · rw [if_pos hn] at h
      exact ⟨n, List.mem_cons_self, .inr ⟨hn, h⟩⟩
    rw [if_neg hn] at h
    simp at h
  obtain ⟨m, hm, h2⟩ := upM_bit h
  exact ⟨m, List.mem_cons_of_mem _ hm, h2⟩
theorem reach_bit {T : List (List Nat × List Nat)} {B : List Nat} (hB : waitsOk T B = true) : ∀ (fuel d : Nat), d < fuel → d < T.length → (B.getD d 0).testBit i = true → reachT T i fuel d = true
 | 0, d, h, _, _ => by omega
 | fuel + 1, d, h, hd, hb => by
  have h1 := List.all_eq_true.1 hB d (List.mem_range.2 hd)
  cases hr : T[d]? with
  | none => rw [hr] at h1; simp at h1
  | some r =>
   rw [hr] at h1
   simp only [beq_iff_eq] at h1
   have h2 : (upM B d r.1).testBit i = true := by rw [← h1, Nat.testBit_or, hb, Bool.true_or]
   obtain ⟨n, hn, h3⟩ := upM_bit h2
   unfold reachT
   rw [hr]
   simp only
   rw [List.any_eq_true]
   refine ⟨n, hn, ?_⟩
   rcases h3 with rfl | ⟨h4, h5⟩
   · simp
   rw [reach_bit hB fuel n (by omega) (by omega) h5, Bool.or_true]
def lastW (T : List (List Nat × List Nat)) (B : List Nat) (l : List Bool) (ds : List Nat) (i : Nat) : Bool := ds.all fun d => l.getD d true || (decide (d < T.length) && (B.getD d 0).testBit i)
def takeW (T : Bool × List (List Nat × List Nat)) (B : List Nat) (ds : List Nat) (l l' : List Bool) (i : Nat) : Bool := T.1 && freeT T.2 l i && readyAt T.2 l i && closedT T.2 l && lastW T.2 B l ds i && (l.set i true == l')
theorem take_ofW {B : List Nat} (hT : rtab md ops = T) (hB : waitsOk T.2 B = true) (h : takeW T B ds l.toList l'.toList i = true) : takeB md ops ds l l' i = true := by
 refine take_of hT ?_
 simp only [takeW, takeT, Bool.and_eq_true] at h ⊢
 obtain ⟨⟨⟨⟨⟨h1, h2⟩, h3⟩, h4⟩, h5⟩, h6⟩ := h
 refine ⟨⟨⟨⟨⟨h1, h2⟩, h3⟩, h4⟩, ?_⟩, h6⟩
 unfold lastW at h5
 unfold lastT
 rw [List.all_eq_true] at h5 ⊢
 intro d hd
 have h7 := h5 d hd
 rw [Bool.or_eq_true, Bool.and_eq_true, decide_eq_true_eq] at h7
 rcases h7 with h7 | ⟨h8, h9⟩
 · rw [h7, Bool.true_or]
 rw [reach_bit hB _ d h8 h8 h9, Bool.or_true]
theorem with_tabW {P : Program} {Q : Exit → Act → World → Prop} {S : World → Prop} {n : Nat} {a : Act} {w : World} {B : List Nat} (hT : rtab md ops = T) (hB : waitsOk T.2 B = true) (h : Aside0 (rtab md ops = T) → Aside0 (waitsOk T.2 B = true) → wpAnyLast P md ops Q S ds n l a w) : wpAnyLast P md ops Q S ds n l a w := h ⟨hT⟩ ⟨hB⟩
end
def opsIn : Code → Nat → Option (Array Oper)
 | .region id ops _, k => if id == k then some ops else none
 | .seq a b, k => match opsIn a k with
  | some o => some o
  | none => opsIn b k
 | .cond _ a b, k => match opsIn a k with
  | some o => some o
  | none => opsIn b k
 | .block _ c, k => opsIn c k
 | .loop c, k => opsIn c k
 | .scope c, k => opsIn c k
 | .rangeFunc _ _ a b, k => match opsIn a k with
  | some o => some o
  | none => opsIn b k
 | _, _ => none
def opsOf (f : Func) (k : Nat) : Array Oper := ((f.body.bind fun c => opsIn c k)).getD #[]
end Go.Proofs.YtapcpndplnkfjaaGreatDoorW.PrintLast
namespace Go.Proofs.YtapcpndplnkfjaaGreatDoorW.PrintLast
section
variable {P : Program} {ops : Array Oper} {Q : Exit → Act → World → Prop} {md : Region.Mode} {S : World → Prop} {ds : List Nat} {T : Bool × List (List Nat × List Nat)}
end
end Go.Proofs.YtapcpndplnkfjaaGreatDoorW.PrintLast
namespace Go.Proofs.YtapcpndplnkfjaaGreatDoorW.PrintWords
open Go.RowKit
namespace Kd
section
variable {α : Type} {d : Kd α} {e base g o n cap : Nat} {ok okp : Nat → Prop} {w W : World} {v : Value} {xs : List α}
end
section
variable {α : Type} {enc : α → Value} {h1 : ∀ x, (enc x).oneCell' = true} {e base g o n cap : Nat} {ok : Nat → Prop} {W : World} {xs : List α}
end
end Kd
namespace Kd
section
variable {α β : Type} {d : Kd α} {d' : Kd β} {e e' : Nat} {w w1 W : World} {base b : Nat} {ok ok' okv oku : Nat → Prop} {u v : Value} {xs : List α} {ys : List β}
theorem R_tight (hE : d.E = []) (h : d.R e w base ok v xs) : d.R e w base (fun k => some k = v.ownBlock) v xs := by
 obtain ⟨h0, inner, ho, hr⟩ := h
 refine ⟨fun k hk => hk.symm, inner, ho, hr.imp_ (fun p c hp => d.M_mono (fun k hk => ?_) (d.M_bound hp))⟩
 obtain ⟨_, _, _, q, hq, _⟩ := hk
 rw [hE] at hq
 cases hq
end
section
variable {α β : Type} {d : Kd α} {d' : Kd β} {e e' g : Nat} {w w1 W : World} {base b : Nat} {ok ok' okv oku : Nat → Prop} {u v : Value} {xs : List α} {ys : List β}
end
section
variable {P : Program} {ops : Array Oper} {rest : List Oper} {o : Oper} {a : Act} {Q : Exit → Act → World → Prop} {Kc : Act → World → Prop} {α : Type}
end
section
variable {α β : Type} {d : Kd α} {e e' g n cap : Nat} {w w1 W : World} {base : Nat} {ok ok' oki okp : Nat → Prop} {u v : Value} {xs : List α} {i : Int} {c : List Value}
end
section
variable {P : Program} {ops : Array Oper} {rest : List Oper} {o : Oper} {a : Act} {Q : Exit → Act → World → Prop} {α : Type}
end
end Kd
namespace Kd
theorem reps_one {α : Type} {R : α → List Value → Prop} {size : Nat} {ps : List α} {cs : List Value} (h : Reps R size ps cs) (hs0 : 0 < size) (hR : ∀ p c, R p c → ∀ u ∈ c, u.oneCell' = true) : ∀ u ∈ cs, u.oneCell' = true := by
 intro u hu
 obtain ⟨q, hq, rfl⟩ := List.mem_iff_getElem.1 hu
 have hql : q / size < ps.length := by
  rw [Nat.div_lt_iff_lt_mul hs0, ← h.1]
  exact hq
 refine hR _ _ (h.2 (q / size) _ (List.getElem?_eq_getElem hql)) _ ?_
 rw [List.mem_iff_getElem?]
 refine ⟨q % size, ?_⟩
 rw [List.getElem?_take, if_pos (Nat.mod_lt _ hs0), List.getElem?_drop, Nat.mul_comm, Nat.div_add_mod, List.getElem?_eq_getElem hq]
section
variable {α : Type} {n : Nat} {d : Kd α} {hs : 0 < d.sz} {w : World} {base : Nat} {ok : Nat → Prop} {xs : List α} {cs : List Value}
end
section
variable {α : Type} {n : Nat} {enc : α → Value} {h1 : ∀ x, (enc x).oneCell' = true} {hs : 0 < (scalar enc h1).sz} {w : World} {base : Nat} {ok : Nat → Prop} {xs : List α} {cs : List Value}
end
end Kd
section
variable {P : Program}
end
namespace Kd
section
variable {P : Program} {ops : Array Oper} {rest : List Oper} {o : Oper} {a : Act} {Q : Exit → Act → World → Prop} {Kc : Act → World → Prop} {α : Type}
end
section
variable {α : Type} {d : Kd α} {e : Nat} {w : World} {base : Nat} {ok : Nat → Prop} {v : Value} {xs : List α}
end
section
variable {P : Program} {ops : Array Oper} {rest : List Oper} {o : Oper} {a : Act} {Q : Exit → Act → World → Prop} {Kc : Act → World → Prop} {α : Type}
end
end Kd
namespace Kd
section
variable {α : Type} {d : Kd α} {e base g n c : Nat} {ok : Nat → Prop} {w w0 W : World} {A : Option Addr} {xs : List α}
end
end Kd
section
variable {w W W2 : World} {S S2 S' : Nat → Prop}
end
namespace Kd
section
variable {α : Type} {d : Kd α} {e base n c : Nat} {ok oki S S2 : Nat → Prop} {w w0 W W1 W2 : World} {v : Value} {A : Option Addr} {xs : List α} {i : Int} {cs : List Value}
end
end Kd
def Foot (P : World → Prop) (W : World) (ok : Nat → Prop) : Prop := ∀ W' : World, (∀ k, ok k → k < W.heap.size → W'.heap[k]? = W.heap[k]?) → P W'
namespace Foot
variable {P Q : World → Prop} {W W1 : World} {ok ok' : Nat → Prop}
end Foot
namespace Kd
section
variable {α β : Type} {d : Kd α} {e base n n' cc g N : Nat} {ok ok' okp S : Nat → Prop} {w w0 w1 W W1 : World} {A A' : Option Addr} {u v v1 : Value} {xs : List α} {xs' : List β} {d' : Kd β} {x : α} {c : List Value}
end
end Kd
namespace Kd
section
variable {α : Type} {d : Kd α} {e base n cc g : Nat} {ok ok' okp S : Nat → Prop} {w w1 W W1 : World} {A : Option Addr} {u v v1 : Value} {xs : List α} {x : α} {c : List Value}
end
end Kd
namespace Kd
section
variable {α : Type} {d : Kd α} {W : World} {g n : Nat} {S ok : Nat → Prop} {A : Option Addr} {ad : Addr} {xs : List α}
end
end Kd
section
variable {w w' u : World} {m B g : Nat} {o : Obj} {row : Option Nat} {S : Nat → Prop} {a : Addr} {v : Value}
end
namespace Kd
section
variable {α : Type} {d : Kd α} {e base n m : Nat} {ok : Nat → Prop} {w w' : World} {v : Value} {A : Option Addr} {xs : List α}
end
end Kd
section
variable {P : Program} {d : Nat} {xs ys : Array Value} {f : Field} {fs : List Field} {a b : Value} {r s : Bool} {w : World}
theorem eqf_last (hn : (f.name == "_") = false) (ha : (part f.type xs f.offset).run P w = .ok a w) (hb : (part f.type ys f.offset).run P w = .ok b w) (he : (Op.equalIn d f.type a b).run P w = .ok r w) : (Op.eqFields d xs ys [f]).run P w = .ok r w := by
 have hn' : f.name ≠ "_" := by simpa using hn
 simp only [Op.eqFields, if_pos hn', Sem.run_bind, ha, hb, he, Result.andThen_ok]
 cases r <;> simp
theorem eqf_cons (hn : (f.name == "_") = false) (ha : (part f.type xs f.offset).run P w = .ok a w) (hb : (part f.type ys f.offset).run P w = .ok b w) (he : (Op.equalIn d f.type a b).run P w = .ok r w) (hr : (Op.eqFields d xs ys fs).run P w = .ok s w) : (Op.eqFields d xs ys (f :: fs)).run P w = .ok (r && s) w := by
 have hn' : f.name ≠ "_" := by simpa using hn
 rw [Op.eqFields]
 simp only [if_pos hn', Sem.run_bind, ha, hb, he, Result.andThen_ok]
 cases r
 · simp
 simpa using hr
theorem eqA_of {t : TypeId} {fs : Array Field} (hu : P.underlying t = some (.struct fs)) (hp : P.stoodInHeld t = false) (h : (Op.eqFields d xs ys fs.toList).run P w = .ok r w) : (Op.equalIn (d + 1) t (.agg xs) (.agg ys)).run P w = .ok r w := by
 have hf : P.fieldsOf t = fs := by simp [Program.fieldsOf, hu]
 rw [run_equalIn_struct (P := P) w d t xs ys (by rw [hf]; exact hu) hp, hf]
 exact h
end
end Go.Proofs.YtapcpndplnkfjaaGreatDoorW.PrintWords
namespace Go.Proofs.YtapcpndplnkfjaaGreatDoorW.PrintWords
theorem Reps.one {α : Type} {R : α → List Value → Prop} {ps : List α} {cs : List Value} {p : α} {v : Value} (hp : R p [v]) (h : Reps R 1 ps cs) : Reps R 1 (p :: ps) (v :: cs) := by
 refine ⟨by simp [h.1], fun j q hq => ?_⟩
 cases j with
 | zero =>
  simp only [List.getElem?_cons_zero, Option.some.injEq] at hq
  subst hq
  simpa using hp
 | succ j =>
  simp only [List.getElem?_cons_succ] at hq
  have h1 := h.2 j q hq
  simpa [Nat.mul_one] using h1
end Go.Proofs.YtapcpndplnkfjaaGreatDoorW.PrintWords
namespace Go.Proofs.YtapcpndplnkfjaaGreatDoorW.PrintLast
section
variable {P : Program} {ops : Array Oper} {Q : Exit → Act → World → Prop} {md : Region.Mode} {T : Bool × List (List Nat × List Nat)} {B : List Nat} {O : List Nat} {b : Nat → Bool} {i j n : Nat}
end
end Go.Proofs.YtapcpndplnkfjaaGreatDoorW.PrintLast
namespace Go.Proofs.YtapcpndplnkfjaaGreatDoorW.PrintWords
open Go.RowKit
end Go.Proofs.YtapcpndplnkfjaaGreatDoorW.PrintWords
namespace Go.Proofs.YtapcpndplnkfjaaGreatDoorW.PrintLast
section
variable {ops : Array Oper} {a : Act} {o og : Oper} {g : Nat} {t : Tmp} {u : Bool}
end
end Go.Proofs.YtapcpndplnkfjaaGreatDoorW.PrintLast
namespace Go.Proofs.YtapcpndplnkfjaaGreatDoorW.PrintWords
open Go.RowKit
section
variable {P : Program} {ops : Array Oper} {rest : List Oper} {o : Oper} {a : Act} {Q : Exit → Act → World → Prop} {W : World}
theorem gate_guard (hw : Region.wanted o (yielded ops a.tmps) = true) (h : wpList P ops Q ({ o with guard := none } :: rest) a W) : wpList P ops Q (o :: rest) a W := by
 have h1 : Region.wanted { o with guard := none } (yielded ops a.tmps) = true := rfl
 unfold wpList at h ⊢
 rw [if_pos h1] at h
 rw [if_pos hw]
 exact h
end
namespace Kd
section
variable {α : Type} {d : Kd α} {e base n cap g : Nat} {ok ok' okp : Nat → Prop} {w w1 W : World} {v v1 : Value} {xs ys : List α}
end
section
variable {P : Program} {ops : Array Oper} {rest : List Oper} {o : Oper} {a : Act} {Q : Exit → Act → World → Prop} {Kc : Act → World → Prop} {α : Type}
end
end Kd
end Go.Proofs.YtapcpndplnkfjaaGreatDoorW.PrintWords
namespace Go.Proofs.YtapcpndplnkfjaaGreatDoorW.PrintMore
open Go.RowKit Go.Proofs.YtapcpndplnkfjaaGreatDoorW.PrintWords
namespace Kd
open Go.Proofs.YtapcpndplnkfjaaGreatDoorW.PrintWords.Kd
end Kd
namespace Kd
open Go.Proofs.YtapcpndplnkfjaaGreatDoorW.PrintWords.Kd
section
variable {α : Type} {d : Kd α} {e base g N : Nat} {ok : Nat → Prop} {W w1 : World} {u v : Value} {xs : List α}
end
end Kd
theorem max2_int (k k' : IntKind) (x y : Int) : Builtin.max2 (.int k x) (.int k' y) = pure (.int k (if x < y then y else x)) := by simp only [Builtin.max2, gt_iff_lt]
theorem min2_int (k k' : IntKind) (x y : Int) : Builtin.min2 (.int k x) (.int k' y) = pure (.int k (if y < x then y else x)) := by simp only [Builtin.min2]
theorem max_two (ats : Array TypeId) (ty : TypeId) (a b : Value) : Builtin.max_ ats ty #[a, b] = (Builtin.max2 a b >>= fun s => pure s) := by simp only [Builtin.max_, List.foldlM_cons, List.foldlM_nil]
theorem min_two (ats : Array TypeId) (ty : TypeId) (a b : Value) : Builtin.min_ ats ty #[a, b] = (Builtin.min2 a b >>= fun s => pure s) := by simp only [Builtin.min_, List.foldlM_cons, List.foldlM_nil]
theorem max_three (ats : Array TypeId) (ty : TypeId) (a b c : Value) : Builtin.max_ ats ty #[a, b, c] = (Builtin.max2 a b >>= fun s => Builtin.max2 s c >>= fun s => pure s) := by simp only [Builtin.max_, List.foldlM_cons, List.foldlM_nil]
theorem min_three (ats : Array TypeId) (ty : TypeId) (a b c : Value) : Builtin.min_ ats ty #[a, b, c] = (Builtin.min2 a b >>= fun s => Builtin.min2 s c >>= fun s => pure s) := by simp only [Builtin.min_, List.foldlM_cons, List.foldlM_nil]
theorem max_four (ats : Array TypeId) (ty : TypeId) (a b c d : Value) : Builtin.max_ ats ty #[a, b, c, d] = (Builtin.max2 a b >>= fun s => Builtin.max2 s c >>= fun s => Builtin.max2 s d >>= fun s => pure s) := by simp only [Builtin.max_, List.foldlM_cons, List.foldlM_nil]
theorem min_four (ats : Array TypeId) (ty : TypeId) (a b c d : Value) : Builtin.min_ ats ty #[a, b, c, d] = (Builtin.min2 a b >>= fun s => Builtin.min2 s c >>= fun s => Builtin.min2 s d >>= fun s => pure s) := by simp only [Builtin.min_, List.foldlM_cons, List.foldlM_nil]
end Go.Proofs.YtapcpndplnkfjaaGreatDoorW.PrintMore
namespace Go.Proofs.YtapcpndplnkfjaaGreatDoorW.PrintWords
open Go.RowKit
section
variable {P : Program} {ops : Array Oper} {rest : List Oper} {o : Oper} {a : Act} {Q : Exit → Act → World → Prop} {W : World}
theorem gate_callee {f : FuncId} {as_ : Array Operand} {ts : Array TypeId} (_ho : o.op = .call { callee := .value (.func f), args := as_, argTypes := ts }) (h : wpList P ops Q (o :: rest) a W) : wpList P ops Q (o :: rest) a W := h
theorem gate_builtin {b : Builtin} {xs : Array Operand} {ts : Array TypeId} (_ho : o.op = .call { callee := .builtin b, args := xs, argTypes := ts }) (h : wpList P ops Q (o :: rest) a W) : wpList P ops Q (o :: rest) a W := h
end
def mn (a b : Int) : Int := if b < a then b else a
theorem drewN_self (w : World) (n : Nat) : w.drewN n = w.drewN n := rfl
namespace Kd
section
variable {α : Type} {d : Kd α} {e base : Nat} {ok : Nat → Prop} {W w1 : World} {v : Value} {xs : List α}
theorem R_grown2 (h : d.R e W base ok v xs) (hE : d.E = []) {row : Option Nat} (hg : W.grownBy w1 row) (hne : ∀ k, row = some k → some k ≠ v.ownBlock) : d.R e w1 base ok v xs :=
 R_mono (R_grown (R_tight hE h) hg (fun k hk e_ => hne k e_.symm hk)) (fun k hk => h.1 k hk.symm)
end
section
variable {α : Type} {d : Kd α} {e base g n cap : Nat} {ok oki okp : Nat → Prop} {W : World} {xs : List α} {i : Int} {c : List Value}
end
section
variable {α : Type} {d : Kd α} {e base b b' g N : Nat} {ok ok1 : Nat → Prop} {W W2 w1 : World} {u v : Value} {xs ys : List α} {S : Nat → Prop}
end
end Kd
namespace Kd
section
variable {α β : Type} {d : Kd α} {e base base' n m c g N' lo hi : Nat} {ok ok' S : Nat → Prop} {w W w1 : World} {A : Option Addr} {ad : Addr} {u v v1 : Value} {xs : List α}
end
end Kd
end Go.Proofs.YtapcpndplnkfjaaGreatDoorW.PrintWords
namespace Go.Proofs.YtapcpndplnkfjaaGreatDoor.Pa
open Go.RowKit Go.Proofs.YtapcpndplnkfjaaGreatDoorW.PrintWords Go.Proofs.YtapcpndplnkfjaaGreatDoorW.PrintLast Go.Proofs.YtapcpndplnkfjaaGreatDoorW.PrintMore
attribute [local go_sem] max2_int min2_int max_two min_two max_three min_three max_four min_four
def errW : Option Int → Value
 | none => .nilIface
 | some c => .iface 0 (.int .i64 c)
theorem errW_none : errW none = .nilIface := rfl
theorem errW_some (c : Int) : errW (some c) = .iface 0 (.int .i64 c) := rfl
theorem eqA24 (d : Nat) (w : World) (x0 y0 : Bool) (x1 y1 : ByteArray) (x2 y2 : Int) :
    (Op.equalIn (d + 2) 24 (.agg #[.bool x0, .string x1, .int .i64 x2]) (.agg #[.bool y0, .string y1, .int .i64 y2])).run Tryz.prog w = .ok (x0 == y0 && (x1.toList == y1.toList && (x2 == y2))) w := by
 refine eqA_of Tryz.underlying24 (by kernel_rfl) ?_
 refine eqf_cons (by rfl) (by go_simp; rfl) (by go_simp; rfl) (by go_simp) ?_
 refine eqf_cons (by rfl) (by go_simp; rfl) (by go_simp; rfl) (by go_simp) ?_
 exact eqf_last (by rfl) (by go_simp; rfl) (by go_simp; rfl) (by go_simp)
attribute [local go_sem high] eqA24
def num_form.f (a0 : Bool) (a1 : ByteArray) (a2 : Int) : Option (Bool × ByteArray × Int) := (strings_TrimLeft.f a1 (⟨#[48]⟩ : ByteArray)).bind fun t102 => ((strings_TrimRight.f t102 (⟨#[48]⟩ : ByteArray)).bind fun t103 => (if t103.toList = ([] : List UInt8) then (some (false, (⟨#[]⟩ : ByteArray), 0)) else (some (a0, t103, wrap64 ((wrap64 (a2 + (t102.size : Int))) - (t103.size : Int))))))
set_option maxHeartbeats 8000000 in
set_option maxRecDepth 100000 in
theorem num_form.calls (a0 : Bool) (a1 : ByteArray) (a2 : Int) (r1 : Bool) (r2 : ByteArray) (r3 : Int) (w : World) (h : num_form.f a0 a1 a2 = some (r1, r2, r3)) :
    Calls Tryz.prog 133 #[.bool a0, .string a1, .int .i64 a2] w fun e w' => e = .returned (.agg #[.bool r1, .string r2, .int .i64 r3]) ∧ Below w.heap.size w w' := by
 have hu24 := Tryz.underlying24
 have HB := Aside0.mk (Below.refl w.heap.size w)
 have H : ((strings_TrimLeft.f a1 (⟨#[48]⟩ : ByteArray)).bind fun t102 => ((strings_TrimRight.f t102 (⟨#[48]⟩ : ByteArray)).bind fun t103 => (if t103.toList = ([] : List UInt8) then (some (false, (⟨#[]⟩ : ByteArray), 0)) else (some (a0, t103, wrap64 ((wrap64 (a2 + (t102.size : Int))) - (t103.size : Int))))))) = some (r1, r2, r3) := h
 clear h
 replace H := Option.bind_eq_some_iff.mp H
 obtain ⟨t102, A40, H⟩ := H
 have A4 := Aside0.mk A40
 clear A40
 replace H := Option.bind_eq_some_iff.mp H
 obtain ⟨t103, A50, H⟩ := H
 have A5 := Aside0.mk A50
 clear A50
 by_cases c6 : t103.toList = ([] : List UInt8)
 · rw [if_pos c6] at H
   have c6b0 : (t103.toList == ([] : List UInt8)) = true := beq_iff_eq.mpr c6
   obtain ⟨rfl, rfl, rfl⟩ := H
   go_enter Tryz.func133, Tryz.ntmps133
   go_wp2_with (first | ((with_reducible refine gate_dst (N := 6) rfl ?_); refine box_event ?hg (N := 6) ?hd (cs := #[.bool false, .string (⟨#[]⟩ : ByteArray), .int .i64 0]) (t := 24) ?hr ?_; (case hd => rfl); (case hg => rfl); (case hr => (go_simp; done)); intro gb101 hg w7 hbox hb; have n0_ := Aside0.mk (below_step (by repeat ((with_reducible (exact HB.out)))) hb); have n1_ := Aside0.mk (hbox); have n2_ := Aside0.mk ((by rw [hg]; exact (below_size (by repeat ((with_reducible (exact HB.out))))) : w.heap.size ≤ gb101)); have n3_ := Aside0.mk ((by rw [hg]; exact (below_size (by repeat ((with_reducible (exact HB.out))))) : w.heap.size ≤ gb101)); clear HB; have HB := n0_; have BK101 := n1_; have GW101 := n2_; have GE101 := n3_; clear n0_ n1_ n2_ n3_; clear hb hbox hg) | ((with_reducible refine gate_callee (f := 71) rfl ?_); refine goesL_ (some 9) rfl rfl Tryz.func71 (by kernel_rfl) rfl #[.string a1, .string (⟨#[48]⟩ : ByteArray)] rfl (by (try simp only [List.map_toArray, List.map_cons, List.map_nil]); (rfl)) ?_; (with_reducible refine (strings_TrimLeft.calls a1 (⟨#[48]⟩ : ByteArray) t102 _ A4.out).mono ?_); rintro e w8 ⟨rfl, hb⟩; refine ⟨_, rfl, ?_⟩; have n0_ := Aside0.mk (blk_below (g := gb101) (o := .cells #[.bool false, .string (⟨#[]⟩ : ByteArray), .int .i64 0] 24 (0, 0)) (by (with_reducible repeat (first | refine blk_drewN ?_ _ | refine blk_drew ?_ | refine blk_alloc ?_ _)); exact BK101.out) hb); have n1_ := Aside0.mk (below_step (by repeat ((with_reducible (exact HB.out)))) hb); clear BK101; clear HB; have BK101 := n0_; have HB := n1_; clear n0_ n1_; (try clear hb)) | ((with_reducible refine gate_callee (f := 152) rfl ?_); refine goesL_ (some 11) rfl rfl Tryz.func152 (by kernel_rfl) rfl #[.string t102, .string (⟨#[48]⟩ : ByteArray)] rfl (by (try simp only [List.map_toArray, List.map_cons, List.map_nil]); (rfl)) ?_; (with_reducible refine (strings_TrimRight.calls t102 (⟨#[48]⟩ : ByteArray) t103 _ A5.out).mono ?_); rintro e w9 ⟨rfl, hb⟩; refine ⟨_, rfl, ?_⟩; have n0_ := Aside0.mk (blk_below (g := gb101) (o := .cells #[.bool false, .string (⟨#[]⟩ : ByteArray), .int .i64 0] 24 (0, 0)) (by (with_reducible repeat (first | refine blk_drewN ?_ _ | refine blk_drew ?_ | refine blk_alloc ?_ _)); exact BK101.out) hb); have n1_ := Aside0.mk (below_step (by repeat ((with_reducible (exact HB.out)))) hb); clear BK101; clear HB; have BK101 := n0_; have HB := n1_; clear n0_ n1_; (try clear hb); have hcz10_0 : w9.cell? ⟨gb101, 0, none⟩ = some (.bool false) := (blk_cell BK101.out 0).trans rfl; have hcz10_1 : w9.cell? ⟨gb101, 1, none⟩ = some (.string (⟨#[]⟩ : ByteArray)) := (blk_cell BK101.out 1).trans rfl; have hcz10_2 : w9.cell? ⟨gb101, 2, none⟩ = some (.int .i64 0) := (blk_cell BK101.out 2).trans rfl; have hfz10_0 := blk_frozen BK101.out 0; have hfz10_1 := blk_frozen BK101.out 1; have hfz10_2 := blk_frozen BK101.out 2))
   refine bodyPost_ret (results_cell_row rfl _ _ gb101 24 #[.bool false, .string (⟨#[]⟩ : ByteArray), .int .i64 0] (0, 0) _ rfl (by (with_reducible repeat (first | refine blk_drewN ?_ _ | refine blk_drew ?_ | refine blk_alloc ?_ _)); refine blk_put (cs := #[.bool false, .string (⟨#[]⟩ : ByteArray), .int .i64 0]) ?_ 2 _ rfl; (with_reducible repeat (first | refine blk_drewN ?_ _ | refine blk_drew ?_ | refine blk_alloc ?_ _)); refine blk_put (cs := #[.bool false, .string (⟨#[]⟩ : ByteArray), .int .i64 0]) ?_ 1 _ rfl; (with_reducible repeat (first | refine blk_drewN ?_ _ | refine blk_drew ?_ | refine blk_alloc ?_ _)); refine blk_put (cs := #[.bool false, .string (⟨#[]⟩ : ByteArray), .int .i64 0]) ?_ 0 _ rfl; (with_reducible repeat (first | refine blk_drewN ?_ _ | refine blk_drew ?_ | refine blk_alloc ?_ _)); exact BK101.out) Tryz.underlying24 rfl (by kernel_rfl)) rfl ?_
   exact ⟨by (simp [errW_none, errW_some] <;> rfl), by repeat ((with_reducible first | exact HB.out | refine below_set ?_ GE101.out))⟩
 · rw [if_neg c6] at H
   have c6b0 : (t103.toList == ([] : List UInt8)) = false := beq_eq_false_iff_ne.mpr c6
   simp only [Option.some.injEq, Prod.mk.injEq] at H
   obtain ⟨rfl, rfl, rfl⟩ := H
   go_enter Tryz.func133, Tryz.ntmps133
   go_wp2_with (first | ((with_reducible refine gate_dst (N := 6) rfl ?_); refine box_event ?hg (N := 6) ?hd (cs := #[.bool false, .string (⟨#[]⟩ : ByteArray), .int .i64 0]) (t := 24) ?hr ?_; (case hd => rfl); (case hg => rfl); (case hr => (go_simp; done)); intro gb101 hg w11 hbox hb; have n0_ := Aside0.mk (below_step (by repeat ((with_reducible (exact HB.out)))) hb); have n1_ := Aside0.mk (hbox); have n2_ := Aside0.mk ((by rw [hg]; exact (below_size (by repeat ((with_reducible (exact HB.out))))) : w.heap.size ≤ gb101)); have n3_ := Aside0.mk ((by rw [hg]; exact (below_size (by repeat ((with_reducible (exact HB.out))))) : w.heap.size ≤ gb101)); clear HB; have HB := n0_; have BK101 := n1_; have GW101 := n2_; have GE101 := n3_; clear n0_ n1_ n2_ n3_; clear hb hbox hg) | ((with_reducible refine gate_callee (f := 71) rfl ?_); refine goesL_ (some 9) rfl rfl Tryz.func71 (by kernel_rfl) rfl #[.string a1, .string (⟨#[48]⟩ : ByteArray)] rfl (by (try simp only [List.map_toArray, List.map_cons, List.map_nil]); (rfl)) ?_; (with_reducible refine (strings_TrimLeft.calls a1 (⟨#[48]⟩ : ByteArray) t102 _ A4.out).mono ?_); rintro e w12 ⟨rfl, hb⟩; refine ⟨_, rfl, ?_⟩; have n0_ := Aside0.mk (blk_below (g := gb101) (o := .cells #[.bool false, .string (⟨#[]⟩ : ByteArray), .int .i64 0] 24 (0, 0)) (by (with_reducible repeat (first | refine blk_drewN ?_ _ | refine blk_drew ?_ | refine blk_alloc ?_ _)); exact BK101.out) hb); have n1_ := Aside0.mk (below_step (by repeat ((with_reducible (exact HB.out)))) hb); clear BK101; clear HB; have BK101 := n0_; have HB := n1_; clear n0_ n1_; (try clear hb)) | ((with_reducible refine gate_callee (f := 152) rfl ?_); refine goesL_ (some 11) rfl rfl Tryz.func152 (by kernel_rfl) rfl #[.string t102, .string (⟨#[48]⟩ : ByteArray)] rfl (by (try simp only [List.map_toArray, List.map_cons, List.map_nil]); (rfl)) ?_; (with_reducible refine (strings_TrimRight.calls t102 (⟨#[48]⟩ : ByteArray) t103 _ A5.out).mono ?_); rintro e w13 ⟨rfl, hb⟩; refine ⟨_, rfl, ?_⟩; have n0_ := Aside0.mk (blk_below (g := gb101) (o := .cells #[.bool false, .string (⟨#[]⟩ : ByteArray), .int .i64 0] 24 (0, 0)) (by (with_reducible repeat (first | refine blk_drewN ?_ _ | refine blk_drew ?_ | refine blk_alloc ?_ _)); exact BK101.out) hb); have n1_ := Aside0.mk (below_step (by repeat ((with_reducible (exact HB.out)))) hb); clear BK101; clear HB; have BK101 := n0_; have HB := n1_; clear n0_ n1_; (try clear hb); have hcz14_0 : w13.cell? ⟨gb101, 0, none⟩ = some (.bool false) := (blk_cell BK101.out 0).trans rfl; have hcz14_1 : w13.cell? ⟨gb101, 1, none⟩ = some (.string (⟨#[]⟩ : ByteArray)) := (blk_cell BK101.out 1).trans rfl; have hcz14_2 : w13.cell? ⟨gb101, 2, none⟩ = some (.int .i64 0) := (blk_cell BK101.out 2).trans rfl; have hfz14_0 := blk_frozen BK101.out 0; have hfz14_1 := blk_frozen BK101.out 1; have hfz14_2 := blk_frozen BK101.out 2))
   refine bodyPost_ret (results_cell_row rfl _ _ gb101 24 #[.bool a0, .string t103, .int .i64 (wrap64 ((wrap64 (a2 + (t102.size : Int))) - (t103.size : Int)))] (0, 0) _ rfl (by (with_reducible repeat (first | refine blk_drewN ?_ _ | refine blk_drew ?_ | refine blk_alloc ?_ _)); refine blk_put (cs := #[.bool a0, .string t103, .int .i64 0]) ?_ 2 _ rfl; (with_reducible repeat (first | refine blk_drewN ?_ _ | refine blk_drew ?_ | refine blk_alloc ?_ _)); refine blk_put (cs := #[.bool a0, .string (⟨#[]⟩ : ByteArray), .int .i64 0]) ?_ 1 _ rfl; (with_reducible repeat (first | refine blk_drewN ?_ _ | refine blk_drew ?_ | refine blk_alloc ?_ _)); refine blk_put (cs := #[.bool false, .string (⟨#[]⟩ : ByteArray), .int .i64 0]) ?_ 0 _ rfl; (with_reducible repeat (first | refine blk_drewN ?_ _ | refine blk_drew ?_ | refine blk_alloc ?_ _)); exact BK101.out) Tryz.underlying24 rfl (by kernel_rfl)) rfl ?_
   exact ⟨by (simp [errW_none, errW_some] <;> rfl), by repeat ((with_reducible first | exact HB.out | refine below_set ?_ GE101.out))⟩
def num_run.f (a0 : ByteArray) : Option (ByteArray × ByteArray) := (strings_TrimLeft.f a0 (⟨#[48, 49, 50, 51, 52, 53, 54, 55, 56, 57]⟩ : ByteArray)).bind fun t104 => (if 0 ≤ (wrap64 ((a0.size : Int) - (t104.size : Int))) then (if (wrap64 ((a0.size : Int) - (t104.size : Int))) ≤ (a0.size : Int) then (some (a0.extract 0 ((wrap64 ((a0.size : Int) - (t104.size : Int))) : Int).toNat, t104)) else (none)) else (none))
set_option maxHeartbeats 8000000 in
set_option maxRecDepth 100000 in
theorem num_run.calls (a0 : ByteArray) (r1 : ByteArray) (r2 : ByteArray) (w : World) (h : num_run.f a0 = some (r1, r2)) :
    Calls Tryz.prog 151 #[.string a0] w fun e w' => e = .returned (.tuple #[.string r1, .string r2]) ∧ Below w.heap.size w w' := by
 have HB := Aside0.mk (Below.refl w.heap.size w)
 have H : ((strings_TrimLeft.f a0 (⟨#[48, 49, 50, 51, 52, 53, 54, 55, 56, 57]⟩ : ByteArray)).bind fun t104 => (if 0 ≤ (wrap64 ((a0.size : Int) - (t104.size : Int))) then (if (wrap64 ((a0.size : Int) - (t104.size : Int))) ≤ (a0.size : Int) then (some (a0.extract 0 ((wrap64 ((a0.size : Int) - (t104.size : Int))) : Int).toNat, t104)) else (none)) else (none))) = some (r1, r2) := h
 clear h
 replace H := Option.bind_eq_some_iff.mp H
 obtain ⟨t104, A20, H⟩ := H
 replace H : (if 0 ≤ (wrap64 ((a0.size : Int) - (t104.size : Int))) then (if (wrap64 ((a0.size : Int) - (t104.size : Int))) ≤ (a0.size : Int) then (some (a0.extract 0 ((wrap64 ((a0.size : Int) - (t104.size : Int))) : Int).toNat, t104)) else (none)) else (none)) = some (r1, r2) := H
 have A2 := Aside0.mk A20
 clear A20
 obtain ⟨ji3, hji3⟩ : ∃ j_ : Int, (wrap64 ((a0.size : Int) - (t104.size : Int))) = j_ := ⟨_, rfl⟩
 replace H : (if 0 ≤ (ji3) then (if (ji3) ≤ (a0.size : Int) then (some (a0.extract 0 ((ji3) : Int).toNat, t104)) else (none)) else (none)) = some (r1, r2) := by (rw [hji3] at H; exact H)
 (skip)
 by_cases c4 : 0 ≤ (ji3)
 · rw [if_pos c4] at H
   have c4b0 := eq_true c4
   by_cases c5 : (ji3) ≤ (a0.size : Int)
   · rw [if_pos c5] at H
     have c5b0 := eq_true c5
     simp only [Option.some.injEq, Prod.mk.injEq] at H
     obtain ⟨rfl, rfl⟩ := H
     go_enter Tryz.func151, Tryz.ntmps151
     go_wp2_with (((with_reducible refine gate_callee (f := 71) rfl ?_); refine goesL_ (some 6) rfl rfl Tryz.func71 (by kernel_rfl) rfl #[.string a0, .string (⟨#[48, 49, 50, 51, 52, 53, 54, 55, 56, 57]⟩ : ByteArray)] rfl (by (try simp only [List.map_toArray, List.map_cons, List.map_nil]); (rfl)) ?_; (with_reducible refine (strings_TrimLeft.calls a0 (⟨#[48, 49, 50, 51, 52, 53, 54, 55, 56, 57]⟩ : ByteArray) t104 _ A2.out).mono ?_); rintro e w6 ⟨rfl, hb⟩; refine ⟨_, rfl, ?_⟩; have n0_ := Aside0.mk (below_step (by repeat ((with_reducible (exact HB.out)))) hb); clear HB; have HB := n0_; clear n0_; (try clear hb)))
     go_ret2
     exact ⟨by (rfl), by repeat ((with_reducible (exact HB.out)))⟩
   rw [if_neg c5] at H
   exact absurd H (by simp)
 · rw [if_neg c4] at H
   exact absurd H (by simp)
def num_Right.f (a0_0 : Bool) (a0_1 : ByteArray) (a0_2 : Int) : Option (Bool) := if a0_1.toList = ([] : List UInt8) then (some (!a0_0 && (a0_1.toList == ([] : List UInt8) && (a0_2 == 0)))) else ((num_run.f a0_1).bind fun bt106 => (if bt106.2.toList = ([] : List UInt8) then (if 0 < (bt106.1.size : Int) then (if (bt bt106.1 0) = 48 then (some false) else (if 0 ≤ (wrap64 ((bt106.1.size : Int) - 1)) then (if (wrap64 ((bt106.1.size : Int) - 1)) < (bt106.1.size : Int) then (if (bt bt106.1 (wrap64 ((bt106.1.size : Int) - 1))) = 48 then (some false) else (if (bt106.1.size : Int) ≤ 40 then (if a0_2 ≥ (-999) then (some (decide (a0_2 ≤ 999))) else (some false)) else (some false))) else (none)) else (none))) else (none)) else (some false)))
set_option maxHeartbeats 8000000 in
set_option maxRecDepth 100000 in
theorem num_Right.calls (a0_0 : Bool) (a0_1 : ByteArray) (a0_2 : Int) (r : Bool) (w : World) (h : num_Right.f a0_0 a0_1 a0_2 = some r) :
    Calls Tryz.prog 134 #[.agg #[.bool a0_0, .string a0_1, .int .i64 a0_2]] w fun e w' => e = .returned (.bool r) ∧ Below w.heap.size w w' := by
 have hu24 := Tryz.underlying24
 have HB := Aside0.mk (Below.refl w.heap.size w)
 have H : (if a0_1.toList = ([] : List UInt8) then (some (!a0_0 && (a0_1.toList == ([] : List UInt8) && (a0_2 == 0)))) else ((num_run.f a0_1).bind fun bt106 => (if bt106.2.toList = ([] : List UInt8) then (if 0 < (bt106.1.size : Int) then (if (bt bt106.1 0) = 48 then (some false) else (if 0 ≤ (wrap64 ((bt106.1.size : Int) - 1)) then (if (wrap64 ((bt106.1.size : Int) - 1)) < (bt106.1.size : Int) then (if (bt bt106.1 (wrap64 ((bt106.1.size : Int) - 1))) = 48 then (some false) else (if (bt106.1.size : Int) ≤ 40 then (if a0_2 ≥ (-999) then (some (decide (a0_2 ≤ 999))) else (some false)) else (some false))) else (none)) else (none))) else (none)) else (some false)))) = some r := h
 clear h
 by_cases c2 : a0_1.toList = ([] : List UInt8)
 · rw [if_pos c2] at H
   have c2b0 : (a0_1.toList == ([] : List UInt8)) = true := beq_iff_eq.mpr c2
   obtain rfl := Option.some.inj H
   go_enter Tryz.func134, Tryz.ntmps134
   go_wp2_with (((with_reducible refine gate_dst (N := 1) rfl ?_); (try (refine gate_guard (by rfl) ?_; dsimp only)); refine box_event ?hg (N := 1) ?hd (cs := #[.bool a0_0, .string a0_1, .int .i64 a0_2]) (t := 24) ?hr ?_; (case hd => rfl); (case hg => rfl); (case hr => (go_simp; done)); intro gb105 hg w3 hbox hb; have n0_ := Aside0.mk (below_step (by repeat ((with_reducible (exact HB.out)))) hb); have n1_ := Aside0.mk (hbox); have n2_ := Aside0.mk ((by rw [hg]; exact (below_size (by repeat ((with_reducible (exact HB.out))))) : w.heap.size ≤ gb105)); have n3_ := Aside0.mk ((by rw [hg]; exact (below_size (by repeat ((with_reducible (exact HB.out))))) : w.heap.size ≤ gb105)); clear HB; have HB := n0_; have BK105 := n1_; have GW105 := n2_; have GE105 := n3_; clear n0_ n1_ n2_ n3_; clear hb hbox hg; have hcz4_0 : w3.cell? ⟨gb105, 0, none⟩ = some (.bool a0_0) := (blk_cell BK105.out 0).trans rfl; have hcz4_1 : w3.cell? ⟨gb105, 1, none⟩ = some (.string a0_1) := (blk_cell BK105.out 1).trans rfl; have hcz4_2 : w3.cell? ⟨gb105, 2, none⟩ = some (.int .i64 a0_2) := (blk_cell BK105.out 2).trans rfl; have hfz4_0 := blk_frozen BK105.out 0; have hfz4_1 := blk_frozen BK105.out 1; have hfz4_2 := blk_frozen BK105.out 2))
   go_ret
   exact ⟨by (rfl), by repeat ((with_reducible (exact HB.out)))⟩
 · rw [if_neg c2] at H
   have c2b0 : (a0_1.toList == ([] : List UInt8)) = false := beq_eq_false_iff_ne.mpr c2
   replace H := Option.bind_eq_some_iff.mp H
   obtain ⟨⟨t106, t107⟩, A50, H⟩ := H
   replace H : (if t107.toList = ([] : List UInt8) then (if 0 < (t106.size : Int) then (if (bt t106 0) = 48 then (some false) else (if 0 ≤ (wrap64 ((t106.size : Int) - 1)) then (if (wrap64 ((t106.size : Int) - 1)) < (t106.size : Int) then (if (bt t106 (wrap64 ((t106.size : Int) - 1))) = 48 then (some false) else (if (t106.size : Int) ≤ 40 then (if a0_2 ≥ (-999) then (some (decide (a0_2 ≤ 999))) else (some false)) else (some false))) else (none)) else (none))) else (none)) else (some false)) = some r := H
   have A5 := Aside0.mk A50
   clear A50
   by_cases c6 : t107.toList = ([] : List UInt8)
   · rw [if_pos c6] at H
     have c6b0 : (t107.toList == ([] : List UInt8)) = true := beq_iff_eq.mpr c6
     by_cases c7 : 0 < (t106.size : Int)
     · rw [if_pos c7] at H
       have c7b0 : decide (0 < (t106.size : Int)) = true := decide_eq_true c7
       have c7b1 : decide (0 < t106.size) = true := decide_eq_true (by omega)
       by_cases c9 : (bt t106 0) = 48
       · rw [if_pos c9] at H
         have c9b0 : ((bt t106 0) == 48) = true := beq_iff_eq.mpr c9
         have c9b1 : ((bt t106 0) != 48) = false := bne_eq_false_iff_eq.mpr c9
         obtain rfl := Option.some.inj H
         go_enter Tryz.func134, Tryz.ntmps134
         go_wp2_with (first | ((with_reducible refine gate_dst (N := 1) rfl ?_); (try (refine gate_guard (by rfl) ?_; dsimp only)); refine box_event ?hg (N := 1) ?hd (cs := #[.bool a0_0, .string a0_1, .int .i64 a0_2]) (t := 24) ?hr ?_; (case hd => rfl); (case hg => rfl); (case hr => (go_simp; done)); intro gb105 hg w10 hbox hb; have n0_ := Aside0.mk (below_step (by repeat ((with_reducible (exact HB.out)))) hb); have n1_ := Aside0.mk (hbox); have n2_ := Aside0.mk ((by rw [hg]; exact (below_size (by repeat ((with_reducible (exact HB.out))))) : w.heap.size ≤ gb105)); have n3_ := Aside0.mk ((by rw [hg]; exact (below_size (by repeat ((with_reducible (exact HB.out))))) : w.heap.size ≤ gb105)); clear HB; have HB := n0_; have BK105 := n1_; have GW105 := n2_; have GE105 := n3_; clear n0_ n1_ n2_ n3_; clear hb hbox hg; have hcz11_0 : w10.cell? ⟨gb105, 0, none⟩ = some (.bool a0_0) := (blk_cell BK105.out 0).trans rfl; have hcz11_1 : w10.cell? ⟨gb105, 1, none⟩ = some (.string a0_1) := (blk_cell BK105.out 1).trans rfl; have hcz11_2 : w10.cell? ⟨gb105, 2, none⟩ = some (.int .i64 a0_2) := (blk_cell BK105.out 2).trans rfl; have hfz11_0 := blk_frozen BK105.out 0; have hfz11_1 := blk_frozen BK105.out 1; have hfz11_2 := blk_frozen BK105.out 2) | ((with_reducible refine gate_callee (f := 151) rfl ?_); refine goesL_ (some 14) rfl rfl Tryz.func151 (by kernel_rfl) rfl #[.string a0_1] rfl (by (try simp only [List.map_toArray, List.map_cons, List.map_nil]); (rfl)) ?_; (with_reducible refine (num_run.calls a0_1 t106 t107 _ A5.out).mono ?_); rintro e w12 ⟨rfl, hb⟩; refine ⟨_, rfl, ?_⟩; have n0_ := Aside0.mk (blk_below (g := gb105) (o := .cells #[.bool a0_0, .string a0_1, .int .i64 a0_2] 24 (0, 0)) (by (with_reducible repeat (first | refine blk_drewN ?_ _ | refine blk_drew ?_ | refine blk_alloc ?_ _)); exact BK105.out) hb); have n1_ := Aside0.mk (below_step (by repeat ((with_reducible (exact HB.out)))) hb); clear BK105; clear HB; have BK105 := n0_; have HB := n1_; clear n0_ n1_; (try clear hb); have p8 : 0 ≤ (0 : Int) := (by omega); have q8 : 0 < t106.size := (by have : (0 : Int) < (t106.size : Int) := of_decide_eq_true (by (with_reducible assumption)); omega); have hx8 : ∀ h : 0 < t106.size, ((t106[0]'h).toNat : Int) = bt t106 0 := bt_at t106 0; clear p8; have qi8 : (0 < (t106.size : Int)) = True := eq_true (of_decide_eq_true (by (with_reducible assumption))); replace q8 := eq_true q8))
         go_ret
         exact ⟨by (rfl), by repeat ((with_reducible (exact HB.out)))⟩
       rw [if_neg c9] at H
       have c9b0 : ((bt t106 0) == 48) = false := beq_eq_false_iff_ne.mpr c9
       have c9b1 : ((bt t106 0) != 48) = true := bne_iff_ne.mpr c9
       obtain ⟨ji13, hji13⟩ : ∃ j_ : Int, (wrap64 ((t106.size : Int) - 1)) = j_ := ⟨_, rfl⟩
       replace H : (if 0 ≤ (ji13) then (if (ji13) < (t106.size : Int) then (if (bt t106 (ji13)) = 48 then (some false) else (if (t106.size : Int) ≤ 40 then (if a0_2 ≥ (-999) then (some (decide (a0_2 ≤ 999))) else (some false)) else (some false))) else (none)) else (none)) = some r := by (rw [hji13] at H; exact H)
       (skip)
       have hji13w : (IntKind.i64.wrap ((t106.size : Int) - 1)) = ji13 := (i64_w _).trans hji13
       by_cases c14 : 0 ≤ (ji13)
       · rw [if_pos c14] at H
         have c14b0 : decide (0 ≤ (ji13)) = true := decide_eq_true c14
         by_cases c15 : (ji13) < (t106.size : Int)
         · rw [if_pos c15] at H
           have c15b0 : decide ((ji13) < (t106.size : Int)) = true := decide_eq_true c15
           by_cases c17 : (bt t106 (ji13)) = 48
           · rw [if_pos c17] at H
             have c17b0 : ((bt t106 (ji13)) == 48) = true := beq_iff_eq.mpr c17
             have c17b1 : ((bt t106 (ji13)) != 48) = false := bne_eq_false_iff_eq.mpr c17
             obtain rfl := Option.some.inj H
             go_enter Tryz.func134, Tryz.ntmps134
             go_wp2_with (first | ((with_reducible refine gate_dst (N := 1) rfl ?_); (try (refine gate_guard (by rfl) ?_; dsimp only)); refine box_event ?hg (N := 1) ?hd (cs := #[.bool a0_0, .string a0_1, .int .i64 a0_2]) (t := 24) ?hr ?_; (case hd => rfl); (case hg => rfl); (case hr => (go_simp; done)); intro gb105 hg w18 hbox hb; have n0_ := Aside0.mk (below_step (by repeat ((with_reducible (exact HB.out)))) hb); have n1_ := Aside0.mk (hbox); have n2_ := Aside0.mk ((by rw [hg]; exact (below_size (by repeat ((with_reducible (exact HB.out))))) : w.heap.size ≤ gb105)); have n3_ := Aside0.mk ((by rw [hg]; exact (below_size (by repeat ((with_reducible (exact HB.out))))) : w.heap.size ≤ gb105)); clear HB; have HB := n0_; have BK105 := n1_; have GW105 := n2_; have GE105 := n3_; clear n0_ n1_ n2_ n3_; clear hb hbox hg; have hcz19_0 : w18.cell? ⟨gb105, 0, none⟩ = some (.bool a0_0) := (blk_cell BK105.out 0).trans rfl; have hcz19_1 : w18.cell? ⟨gb105, 1, none⟩ = some (.string a0_1) := (blk_cell BK105.out 1).trans rfl; have hcz19_2 : w18.cell? ⟨gb105, 2, none⟩ = some (.int .i64 a0_2) := (blk_cell BK105.out 2).trans rfl; have hfz19_0 := blk_frozen BK105.out 0; have hfz19_1 := blk_frozen BK105.out 1; have hfz19_2 := blk_frozen BK105.out 2) | ((with_reducible refine gate_callee (f := 151) rfl ?_); refine goesL_ (some 14) rfl rfl Tryz.func151 (by kernel_rfl) rfl #[.string a0_1] rfl (by (try simp only [List.map_toArray, List.map_cons, List.map_nil]); (rfl)) ?_; (with_reducible refine (num_run.calls a0_1 t106 t107 _ A5.out).mono ?_); rintro e w20 ⟨rfl, hb⟩; refine ⟨_, rfl, ?_⟩; have n0_ := Aside0.mk (blk_below (g := gb105) (o := .cells #[.bool a0_0, .string a0_1, .int .i64 a0_2] 24 (0, 0)) (by (with_reducible repeat (first | refine blk_drewN ?_ _ | refine blk_drew ?_ | refine blk_alloc ?_ _)); exact BK105.out) hb); have n1_ := Aside0.mk (below_step (by repeat ((with_reducible (exact HB.out)))) hb); clear BK105; clear HB; have BK105 := n0_; have HB := n1_; clear n0_ n1_; (try clear hb); have p8 : 0 ≤ (0 : Int) := (by omega); have q8 : 0 < t106.size := (by have : (0 : Int) < (t106.size : Int) := of_decide_eq_true (by (with_reducible assumption)); omega); have hx8 : ∀ h : 0 < t106.size, ((t106[0]'h).toNat : Int) = bt t106 0 := bt_at t106 0; clear p8; have qi8 : (0 < (t106.size : Int)) = True := eq_true (of_decide_eq_true (by (with_reducible assumption))); replace q8 := eq_true q8; have p16 : 0 ≤ ((ji13) : Int) := of_decide_eq_true (by (with_reducible assumption)); have q16 : (ji13) < (t106.size : Int) := of_decide_eq_true (by (with_reducible assumption)); have hx16 := bt_at t106 (ji13); replace p16 := eq_true p16; replace q16 := eq_true q16))
             go_ret
             exact ⟨by (rfl), by repeat ((with_reducible (exact HB.out)))⟩
           rw [if_neg c17] at H
           have c17b0 : ((bt t106 (ji13)) == 48) = false := beq_eq_false_iff_ne.mpr c17
           have c17b1 : ((bt t106 (ji13)) != 48) = true := bne_iff_ne.mpr c17
           by_cases c21 : (t106.size : Int) ≤ 40
           · rw [if_pos c21] at H
             have c21b0 : decide ((t106.size : Int) ≤ 40) = true := decide_eq_true c21
             have c21b1 : decide (t106.size ≤ 40) = true := decide_eq_true (by omega)
             by_cases c22 : a0_2 ≥ (-999)
             · rw [if_pos c22] at H
               have c22b0 : decide ((-999) ≤ a0_2) = true := decide_eq_true c22
               obtain rfl := Option.some.inj H
               go_enter Tryz.func134, Tryz.ntmps134
               go_wp2_with (first | ((with_reducible refine gate_dst (N := 1) rfl ?_); (try (refine gate_guard (by rfl) ?_; dsimp only)); refine box_event ?hg (N := 1) ?hd (cs := #[.bool a0_0, .string a0_1, .int .i64 a0_2]) (t := 24) ?hr ?_; (case hd => rfl); (case hg => rfl); (case hr => (go_simp; done)); intro gb105 hg w23 hbox hb; have n0_ := Aside0.mk (below_step (by repeat ((with_reducible (exact HB.out)))) hb); have n1_ := Aside0.mk (hbox); have n2_ := Aside0.mk ((by rw [hg]; exact (below_size (by repeat ((with_reducible (exact HB.out))))) : w.heap.size ≤ gb105)); have n3_ := Aside0.mk ((by rw [hg]; exact (below_size (by repeat ((with_reducible (exact HB.out))))) : w.heap.size ≤ gb105)); clear HB; have HB := n0_; have BK105 := n1_; have GW105 := n2_; have GE105 := n3_; clear n0_ n1_ n2_ n3_; clear hb hbox hg; have hcz24_0 : w23.cell? ⟨gb105, 0, none⟩ = some (.bool a0_0) := (blk_cell BK105.out 0).trans rfl; have hcz24_1 : w23.cell? ⟨gb105, 1, none⟩ = some (.string a0_1) := (blk_cell BK105.out 1).trans rfl; have hcz24_2 : w23.cell? ⟨gb105, 2, none⟩ = some (.int .i64 a0_2) := (blk_cell BK105.out 2).trans rfl; have hfz24_0 := blk_frozen BK105.out 0; have hfz24_1 := blk_frozen BK105.out 1; have hfz24_2 := blk_frozen BK105.out 2) | ((with_reducible refine gate_callee (f := 151) rfl ?_); refine goesL_ (some 14) rfl rfl Tryz.func151 (by kernel_rfl) rfl #[.string a0_1] rfl (by (try simp only [List.map_toArray, List.map_cons, List.map_nil]); (rfl)) ?_; (with_reducible refine (num_run.calls a0_1 t106 t107 _ A5.out).mono ?_); rintro e w25 ⟨rfl, hb⟩; refine ⟨_, rfl, ?_⟩; have n0_ := Aside0.mk (blk_below (g := gb105) (o := .cells #[.bool a0_0, .string a0_1, .int .i64 a0_2] 24 (0, 0)) (by (with_reducible repeat (first | refine blk_drewN ?_ _ | refine blk_drew ?_ | refine blk_alloc ?_ _)); exact BK105.out) hb); have n1_ := Aside0.mk (below_step (by repeat ((with_reducible (exact HB.out)))) hb); clear BK105; clear HB; have BK105 := n0_; have HB := n1_; clear n0_ n1_; (try clear hb); have p8 : 0 ≤ (0 : Int) := (by omega); have q8 : 0 < t106.size := (by have : (0 : Int) < (t106.size : Int) := of_decide_eq_true (by (with_reducible assumption)); omega); have hx8 : ∀ h : 0 < t106.size, ((t106[0]'h).toNat : Int) = bt t106 0 := bt_at t106 0; clear p8; have qi8 : (0 < (t106.size : Int)) = True := eq_true (of_decide_eq_true (by (with_reducible assumption))); replace q8 := eq_true q8; have p16 : 0 ≤ ((ji13) : Int) := of_decide_eq_true (by (with_reducible assumption)); have q16 : (ji13) < (t106.size : Int) := of_decide_eq_true (by (with_reducible assumption)); have hx16 := bt_at t106 (ji13); replace p16 := eq_true p16; replace q16 := eq_true q16; have hcz26_0 : w25.cell? ⟨gb105, 0, none⟩ = some (.bool a0_0) := (blk_cell BK105.out 0).trans rfl; have hcz26_1 : w25.cell? ⟨gb105, 1, none⟩ = some (.string a0_1) := (blk_cell BK105.out 1).trans rfl; have hcz26_2 : w25.cell? ⟨gb105, 2, none⟩ = some (.int .i64 a0_2) := (blk_cell BK105.out 2).trans rfl; have hfz26_0 := blk_frozen BK105.out 0; have hfz26_1 := blk_frozen BK105.out 1; have hfz26_2 := blk_frozen BK105.out 2))
               go_ret
               exact ⟨by (rfl), by repeat ((with_reducible (exact HB.out)))⟩
             rw [if_neg c22] at H
             have c22b0 : decide ((-999) ≤ a0_2) = false := decide_eq_false c22
             obtain rfl := Option.some.inj H
             go_enter Tryz.func134, Tryz.ntmps134
             go_wp2_with (first | ((with_reducible refine gate_dst (N := 1) rfl ?_); (try (refine gate_guard (by rfl) ?_; dsimp only)); refine box_event ?hg (N := 1) ?hd (cs := #[.bool a0_0, .string a0_1, .int .i64 a0_2]) (t := 24) ?hr ?_; (case hd => rfl); (case hg => rfl); (case hr => (go_simp; done)); intro gb105 hg w27 hbox hb; have n0_ := Aside0.mk (below_step (by repeat ((with_reducible (exact HB.out)))) hb); have n1_ := Aside0.mk (hbox); have n2_ := Aside0.mk ((by rw [hg]; exact (below_size (by repeat ((with_reducible (exact HB.out))))) : w.heap.size ≤ gb105)); have n3_ := Aside0.mk ((by rw [hg]; exact (below_size (by repeat ((with_reducible (exact HB.out))))) : w.heap.size ≤ gb105)); clear HB; have HB := n0_; have BK105 := n1_; have GW105 := n2_; have GE105 := n3_; clear n0_ n1_ n2_ n3_; clear hb hbox hg; have hcz28_0 : w27.cell? ⟨gb105, 0, none⟩ = some (.bool a0_0) := (blk_cell BK105.out 0).trans rfl; have hcz28_1 : w27.cell? ⟨gb105, 1, none⟩ = some (.string a0_1) := (blk_cell BK105.out 1).trans rfl; have hcz28_2 : w27.cell? ⟨gb105, 2, none⟩ = some (.int .i64 a0_2) := (blk_cell BK105.out 2).trans rfl; have hfz28_0 := blk_frozen BK105.out 0; have hfz28_1 := blk_frozen BK105.out 1; have hfz28_2 := blk_frozen BK105.out 2) | ((with_reducible refine gate_callee (f := 151) rfl ?_); refine goesL_ (some 14) rfl rfl Tryz.func151 (by kernel_rfl) rfl #[.string a0_1] rfl (by (try simp only [List.map_toArray, List.map_cons, List.map_nil]); (rfl)) ?_; (with_reducible refine (num_run.calls a0_1 t106 t107 _ A5.out).mono ?_); rintro e w29 ⟨rfl, hb⟩; refine ⟨_, rfl, ?_⟩; have n0_ := Aside0.mk (blk_below (g := gb105) (o := .cells #[.bool a0_0, .string a0_1, .int .i64 a0_2] 24 (0, 0)) (by (with_reducible repeat (first | refine blk_drewN ?_ _ | refine blk_drew ?_ | refine blk_alloc ?_ _)); exact BK105.out) hb); have n1_ := Aside0.mk (below_step (by repeat ((with_reducible (exact HB.out)))) hb); clear BK105; clear HB; have BK105 := n0_; have HB := n1_; clear n0_ n1_; (try clear hb); have p8 : 0 ≤ (0 : Int) := (by omega); have q8 : 0 < t106.size := (by have : (0 : Int) < (t106.size : Int) := of_decide_eq_true (by (with_reducible assumption)); omega); have hx8 : ∀ h : 0 < t106.size, ((t106[0]'h).toNat : Int) = bt t106 0 := bt_at t106 0; clear p8; have qi8 : (0 < (t106.size : Int)) = True := eq_true (of_decide_eq_true (by (with_reducible assumption))); replace q8 := eq_true q8; have p16 : 0 ≤ ((ji13) : Int) := of_decide_eq_true (by (with_reducible assumption)); have q16 : (ji13) < (t106.size : Int) := of_decide_eq_true (by (with_reducible assumption)); have hx16 := bt_at t106 (ji13); replace p16 := eq_true p16; replace q16 := eq_true q16; have hcz30_0 : w29.cell? ⟨gb105, 0, none⟩ = some (.bool a0_0) := (blk_cell BK105.out 0).trans rfl; have hcz30_1 : w29.cell? ⟨gb105, 1, none⟩ = some (.string a0_1) := (blk_cell BK105.out 1).trans rfl; have hcz30_2 : w29.cell? ⟨gb105, 2, none⟩ = some (.int .i64 a0_2) := (blk_cell BK105.out 2).trans rfl; have hfz30_0 := blk_frozen BK105.out 0; have hfz30_1 := blk_frozen BK105.out 1; have hfz30_2 := blk_frozen BK105.out 2))
             go_ret
             exact ⟨by (rfl), by repeat ((with_reducible (exact HB.out)))⟩
           rw [if_neg c21] at H
           have c21b0 : decide ((t106.size : Int) ≤ 40) = false := decide_eq_false c21
           have c21b1 : decide (t106.size ≤ 40) = false := decide_eq_false (by omega)
           obtain rfl := Option.some.inj H
           go_enter Tryz.func134, Tryz.ntmps134
           go_wp2_with (first | ((with_reducible refine gate_dst (N := 1) rfl ?_); (try (refine gate_guard (by rfl) ?_; dsimp only)); refine box_event ?hg (N := 1) ?hd (cs := #[.bool a0_0, .string a0_1, .int .i64 a0_2]) (t := 24) ?hr ?_; (case hd => rfl); (case hg => rfl); (case hr => (go_simp; done)); intro gb105 hg w31 hbox hb; have n0_ := Aside0.mk (below_step (by repeat ((with_reducible (exact HB.out)))) hb); have n1_ := Aside0.mk (hbox); have n2_ := Aside0.mk ((by rw [hg]; exact (below_size (by repeat ((with_reducible (exact HB.out))))) : w.heap.size ≤ gb105)); have n3_ := Aside0.mk ((by rw [hg]; exact (below_size (by repeat ((with_reducible (exact HB.out))))) : w.heap.size ≤ gb105)); clear HB; have HB := n0_; have BK105 := n1_; have GW105 := n2_; have GE105 := n3_; clear n0_ n1_ n2_ n3_; clear hb hbox hg; have hcz32_0 : w31.cell? ⟨gb105, 0, none⟩ = some (.bool a0_0) := (blk_cell BK105.out 0).trans rfl; have hcz32_1 : w31.cell? ⟨gb105, 1, none⟩ = some (.string a0_1) := (blk_cell BK105.out 1).trans rfl; have hcz32_2 : w31.cell? ⟨gb105, 2, none⟩ = some (.int .i64 a0_2) := (blk_cell BK105.out 2).trans rfl; have hfz32_0 := blk_frozen BK105.out 0; have hfz32_1 := blk_frozen BK105.out 1; have hfz32_2 := blk_frozen BK105.out 2) | ((with_reducible refine gate_callee (f := 151) rfl ?_); refine goesL_ (some 14) rfl rfl Tryz.func151 (by kernel_rfl) rfl #[.string a0_1] rfl (by (try simp only [List.map_toArray, List.map_cons, List.map_nil]); (rfl)) ?_; (with_reducible refine (num_run.calls a0_1 t106 t107 _ A5.out).mono ?_); rintro e w33 ⟨rfl, hb⟩; refine ⟨_, rfl, ?_⟩; have n0_ := Aside0.mk (blk_below (g := gb105) (o := .cells #[.bool a0_0, .string a0_1, .int .i64 a0_2] 24 (0, 0)) (by (with_reducible repeat (first | refine blk_drewN ?_ _ | refine blk_drew ?_ | refine blk_alloc ?_ _)); exact BK105.out) hb); have n1_ := Aside0.mk (below_step (by repeat ((with_reducible (exact HB.out)))) hb); clear BK105; clear HB; have BK105 := n0_; have HB := n1_; clear n0_ n1_; (try clear hb); have p8 : 0 ≤ (0 : Int) := (by omega); have q8 : 0 < t106.size := (by have : (0 : Int) < (t106.size : Int) := of_decide_eq_true (by (with_reducible assumption)); omega); have hx8 : ∀ h : 0 < t106.size, ((t106[0]'h).toNat : Int) = bt t106 0 := bt_at t106 0; clear p8; have qi8 : (0 < (t106.size : Int)) = True := eq_true (of_decide_eq_true (by (with_reducible assumption))); replace q8 := eq_true q8; have p16 : 0 ≤ ((ji13) : Int) := of_decide_eq_true (by (with_reducible assumption)); have q16 : (ji13) < (t106.size : Int) := of_decide_eq_true (by (with_reducible assumption)); have hx16 := bt_at t106 (ji13); replace p16 := eq_true p16; replace q16 := eq_true q16))
           go_ret
           exact ⟨by (rfl), by repeat ((with_reducible (exact HB.out)))⟩
         rw [if_neg c15] at H
         exact absurd H (by simp)
       rw [if_neg c14] at H
       exact absurd H (by simp)
     rw [if_neg c7] at H
     exact absurd H (by simp)
   rw [if_neg c6] at H
   have c6b0 : (t107.toList == ([] : List UInt8)) = false := beq_eq_false_iff_ne.mpr c6
   obtain rfl := Option.some.inj H
   go_enter Tryz.func134, Tryz.ntmps134
   go_wp2_with (first | ((with_reducible refine gate_dst (N := 1) rfl ?_); (try (refine gate_guard (by rfl) ?_; dsimp only)); refine box_event ?hg (N := 1) ?hd (cs := #[.bool a0_0, .string a0_1, .int .i64 a0_2]) (t := 24) ?hr ?_; (case hd => rfl); (case hg => rfl); (case hr => (go_simp; done)); intro gb105 hg w34 hbox hb; have n0_ := Aside0.mk (below_step (by repeat ((with_reducible (exact HB.out)))) hb); have n1_ := Aside0.mk (hbox); have n2_ := Aside0.mk ((by rw [hg]; exact (below_size (by repeat ((with_reducible (exact HB.out))))) : w.heap.size ≤ gb105)); have n3_ := Aside0.mk ((by rw [hg]; exact (below_size (by repeat ((with_reducible (exact HB.out))))) : w.heap.size ≤ gb105)); clear HB; have HB := n0_; have BK105 := n1_; have GW105 := n2_; have GE105 := n3_; clear n0_ n1_ n2_ n3_; clear hb hbox hg; have hcz35_0 : w34.cell? ⟨gb105, 0, none⟩ = some (.bool a0_0) := (blk_cell BK105.out 0).trans rfl; have hcz35_1 : w34.cell? ⟨gb105, 1, none⟩ = some (.string a0_1) := (blk_cell BK105.out 1).trans rfl; have hcz35_2 : w34.cell? ⟨gb105, 2, none⟩ = some (.int .i64 a0_2) := (blk_cell BK105.out 2).trans rfl; have hfz35_0 := blk_frozen BK105.out 0; have hfz35_1 := blk_frozen BK105.out 1; have hfz35_2 := blk_frozen BK105.out 2) | ((with_reducible refine gate_callee (f := 151) rfl ?_); refine goesL_ (some 14) rfl rfl Tryz.func151 (by kernel_rfl) rfl #[.string a0_1] rfl (by (try simp only [List.map_toArray, List.map_cons, List.map_nil]); (rfl)) ?_; (with_reducible refine (num_run.calls a0_1 t106 t107 _ A5.out).mono ?_); rintro e w36 ⟨rfl, hb⟩; refine ⟨_, rfl, ?_⟩; have n0_ := Aside0.mk (blk_below (g := gb105) (o := .cells #[.bool a0_0, .string a0_1, .int .i64 a0_2] 24 (0, 0)) (by (with_reducible repeat (first | refine blk_drewN ?_ _ | refine blk_drew ?_ | refine blk_alloc ?_ _)); exact BK105.out) hb); have n1_ := Aside0.mk (below_step (by repeat ((with_reducible (exact HB.out)))) hb); clear BK105; clear HB; have BK105 := n0_; have HB := n1_; clear n0_ n1_; (try clear hb)))
   go_ret
   exact ⟨by (rfl), by repeat ((with_reducible (exact HB.out)))⟩
def IsS160 (w0 W : World) (g : Nat) (f0 : ByteArray) (f1 : Bool) : Prop := W.heap[g]? = some (.cells #[.string f0, .bool f1] 160 (0, 0)) ∧ w0.heap.size ≤ g
theorem IsS160.grown {w0 W : World} {g : Nat} {f0 : ByteArray} {f1 : Bool} {W1 : World} {row : Option Nat} (h : IsS160 w0 W g f0 f1) (hw : W.grownBy W1 row) (hne : some g ≠ row) : IsS160 w0 W1 g f0 f1 := by
 obtain ⟨hb, hg⟩ := h
 exact ⟨blk_grown hb hw hne, hg⟩
theorem IsS160.below {w0 W : World} {g : Nat} {f0 : ByteArray} {f1 : Bool} {W1 : World} (h : IsS160 w0 W g f0 f1) (hw : Below W.heap.size W W1) : IsS160 w0 W1 g f0 f1 := h.grown (grown_of_below hw none) (by simp)
theorem IsS160.drewN {w0 W : World} {g : Nat} {f0 : ByteArray} {f1 : Bool} (h : IsS160 w0 W g f0 f1) (m : Nat) : IsS160 w0 (W.drewN m) g f0 f1 := h
theorem IsS160.ge {w0 W : World} {g : Nat} {f0 : ByteArray} {f1 : Bool} (h : IsS160 w0 W g f0 f1) : w0.heap.size ≤ g := by
 obtain ⟨hb, hg⟩ := h
 exact hg
theorem cellS160_0 {W : World} {g : Nat} {f0 : ByteArray} {f1 : Bool} (h : W.heap[g]? = some (.cells #[.string f0, .bool f1] 160 (0, 0))) : W.cell? ⟨g, 0, none⟩ = some (.string f0) := (blk_cell h 0).trans rfl
theorem IsS160.set_0 {w0 W : World} {g : Nat} {f0 : ByteArray} {f1 : Bool} (h : IsS160 w0 W g f0 f1) (x : ByteArray) : IsS160 w0 (W.setCell ⟨g, 0, none⟩ (.string x)) g x f1 := by
 obtain ⟨hb, hg⟩ := h
 exact ⟨by simpa using blk_set hb 0 (.string x), hg⟩
theorem cellS160_1 {W : World} {g : Nat} {f0 : ByteArray} {f1 : Bool} (h : W.heap[g]? = some (.cells #[.string f0, .bool f1] 160 (0, 0))) : W.cell? ⟨g, 1, none⟩ = some (.bool f1) := (blk_cell h 1).trans rfl
theorem IsS160.set_1 {w0 W : World} {g : Nat} {f0 : ByteArray} {f1 : Bool} (h : IsS160 w0 W g f0 f1) (x : Bool) : IsS160 w0 (W.setCell ⟨g, 1, none⟩ (.bool x)) g f0 x := by
 obtain ⟨hb, hg⟩ := h
 exact ⟨by simpa using blk_set hb 1 (.bool x), hg⟩
def num_reader_sign.f (s0_0 : ByteArray) (s0_1 : Bool) (a1 : ByteArray) : Option (ByteArray × ByteArray × Bool) := if s0_0.toList = ([] : List UInt8) then (some ((⟨#[]⟩ : ByteArray), s0_0, s0_1)) else (if 0 ≤ 1 then (if 1 ≤ (s0_0.size : Int) then ((strings_Contains.f a1 (s0_0.extract 0 1)).bind fun t108 => (if t108 = true then (some (s0_0.extract 0 1, s0_0.extract 1 s0_0.size, s0_1)) else (some ((⟨#[]⟩ : ByteArray), s0_0, s0_1)))) else (none)) else (none))
set_option maxHeartbeats 8000000 in
set_option maxRecDepth 100000 in
theorem num_reader_sign.calls (g : Nat) (s0_0 : ByteArray) (s0_1 : Bool) (a1 : ByteArray) (r1 : ByteArray) (r2 : ByteArray) (r3 : Bool) (w0 w : World) (hI : IsS160 w0 w g s0_0 s0_1) (hB : Below w0.heap.size w0 w) (h : num_reader_sign.f s0_0 s0_1 a1 = some (r1, r2, r3)) :
    Calls Tryz.prog 127 #[.pointer (some ⟨g, 0, none⟩), .string a1] w fun e w' => e = .returned (.string r1) ∧ IsS160 w0 w' g r2 r3 ∧ Below w0.heap.size w0 w' ∧ KeepBut w w' g none := by
 have HI0 := Aside0.mk hI
 have HK := Aside0.mk (KeepBut.refl w g none)
 have HL := Aside0.mk hB.size
 clear hI
 have HW0 := Aside0.mk hB.size
 have HB := Aside0.mk hB
 clear hB
 have H : (if s0_0.toList = ([] : List UInt8) then (some ((⟨#[]⟩ : ByteArray), s0_0, s0_1)) else (if 0 ≤ 1 then (if 1 ≤ (s0_0.size : Int) then ((strings_Contains.f a1 (s0_0.extract 0 1)).bind fun t108 => (if t108 = true then (some (s0_0.extract 0 1, s0_0.extract 1 s0_0.size, s0_1)) else (some ((⟨#[]⟩ : ByteArray), s0_0, s0_1)))) else (none)) else (none))) = some (r1, r2, r3) := h
 clear h
 by_cases c3 : s0_0.toList = ([] : List UInt8)
 · rw [if_pos c3] at H
   have c3b0 : (s0_0.toList == ([] : List UInt8)) = true := beq_iff_eq.mpr c3
   obtain ⟨rfl, rfl, rfl⟩ := H
   obtain ⟨HGz4, hgz4⟩ := HI0.out
   have hcz4_0 := cellS160_0 HGz4
   have hcz4_1 := cellS160_1 HGz4
   clear HGz4 hgz4
   go_enter Tryz.func127, Tryz.ntmps127
   go_wp2
   go_ret
   exact ⟨by (rfl), by repeat ((with_reducible (exact HI0.out))), by repeat ((with_reducible (exact HB.out))), by repeat ((with_reducible (exact HK.out)))⟩
 · rw [if_neg c3] at H
   have c3b0 : (s0_0.toList == ([] : List UInt8)) = false := beq_eq_false_iff_ne.mpr c3
   by_cases c5 : 0 ≤ 1
   · rw [if_pos c5] at H
     have c5b0 := eq_true c5
     have c5b1 : decide (0 ≤ 1) = true := decide_eq_true c5
     by_cases c6 : 1 ≤ (s0_0.size : Int)
     · rw [if_pos c6] at H
       have c6b0 := eq_true c6
       have c6b1 : decide (1 ≤ (s0_0.size : Int)) = true := decide_eq_true c6
       replace H := Option.bind_eq_some_iff.mp H
       obtain ⟨t108, A70, H⟩ := H
       have A7 := Aside0.mk A70
       clear A70
       by_cases c8 : t108 = true
       · subst c8
         have H1 : (some (s0_0.extract 0 1, s0_0.extract 1 s0_0.size, s0_1)) = some (r1, r2, r3) := by rw [if_pos rfl] at H; exact H
         clear H
         have H := H1
         clear H1
         have c9b0 := eq_true (of_decide_eq_true (by (with_reducible assumption)) : 0 ≤ 1)
         have c10b0 := eq_true (of_decide_eq_true (by (with_reducible assumption)) : 1 ≤ (s0_0.size : Int))
         have c11b0 := eq_true (of_decide_eq_true (by (with_reducible assumption)) : 1 ≤ (s0_0.size : Int))
         obtain ⟨rfl, rfl, rfl⟩ := H
         obtain ⟨HGz12, hgz12⟩ := HI0.out
         have hcz12_0 := cellS160_0 HGz12
         have hcz12_1 := cellS160_1 HGz12
         have hfz12_0 := blk_frozen HGz12 0
         have hfz12_1 := blk_frozen HGz12 1
         clear HGz12 hgz12
         go_enter Tryz.func127, Tryz.ntmps127
         go_wp2_with ((go_at_call 150; (with_reducible refine (strings_Contains.calls a1 (s0_0.extract 0 1) true _ A7.out).mono ?_); rintro e w' ⟨rfl, ⟨nd, rfl⟩⟩))
         go_ret
         exact ⟨by (rfl), by repeat ((with_reducible first | exact HI0.out | apply IsS160.drewN | apply IsS160.set_0 )), by repeat ((with_reducible first | exact HB.out | apply pw_below_drewN | refine below_set ?_ (IsS160.ge HI0.out))), by repeat ((with_reducible first | exact HK.out | apply KeepBut.set_ | apply keep_drewN ))⟩
       replace c8 := Bool.eq_false_iff.mpr c8
       subst c8
       have H1 : (some ((⟨#[]⟩ : ByteArray), s0_0, s0_1)) = some (r1, r2, r3) := by rw [if_neg (show ¬ (false = true) by decide)] at H; exact H
       clear H
       have H := H1
       clear H1
       obtain ⟨rfl, rfl, rfl⟩ := H
       obtain ⟨HGz13, hgz13⟩ := HI0.out
       have hcz13_0 := cellS160_0 HGz13
       have hcz13_1 := cellS160_1 HGz13
       clear HGz13 hgz13
       go_enter Tryz.func127, Tryz.ntmps127
       go_wp2_with ((go_at_call 150; (with_reducible refine (strings_Contains.calls a1 (s0_0.extract 0 1) false _ A7.out).mono ?_); rintro e w' ⟨rfl, ⟨nd, rfl⟩⟩))
       go_ret
       exact ⟨by (rfl), by repeat ((with_reducible first | exact HI0.out | apply IsS160.drewN )), by repeat ((with_reducible first | exact HB.out | apply pw_below_drewN )), by repeat ((with_reducible first | exact HK.out | apply keep_drewN ))⟩
     rw [if_neg c6] at H
     exact absurd H (by simp)
   rw [if_neg c5] at H
   exact absurd H (by simp)
def num_reader_digits.f (s0_0 : ByteArray) (s0_1 : Bool) : Option (ByteArray × ByteArray × Bool) := (num_run.f s0_0).bind fun bt109 => (if s0_1 = true then (some (bt109.1, bt109.2, true)) else (some (bt109.1, bt109.2, (bt109.1.toList == ([] : List UInt8)))))
set_option maxHeartbeats 8000000 in
set_option maxRecDepth 100000 in
theorem num_reader_digits.calls (g : Nat) (s0_0 : ByteArray) (s0_1 : Bool) (r1 : ByteArray) (r2 : ByteArray) (r3 : Bool) (w0 w : World) (hI : IsS160 w0 w g s0_0 s0_1) (hB : Below w0.heap.size w0 w) (h : num_reader_digits.f s0_0 s0_1 = some (r1, r2, r3)) :
    Calls Tryz.prog 129 #[.pointer (some ⟨g, 0, none⟩)] w fun e w' => e = .returned (.string r1) ∧ IsS160 w0 w' g r2 r3 ∧ Below w0.heap.size w0 w' ∧ KeepBut w w' g none := by
 have HI0 := Aside0.mk hI
 have HK := Aside0.mk (KeepBut.refl w g none)
 have HL := Aside0.mk hB.size
 clear hI
 have HW0 := Aside0.mk hB.size
 have HB := Aside0.mk hB
 clear hB
 have H : ((num_run.f s0_0).bind fun bt109 => (if s0_1 = true then (some (bt109.1, bt109.2, true)) else (some (bt109.1, bt109.2, (bt109.1.toList == ([] : List UInt8)))))) = some (r1, r2, r3) := h
 clear h
 replace H := Option.bind_eq_some_iff.mp H
 obtain ⟨⟨t109, t110⟩, A20, H⟩ := H
 have A2 := Aside0.mk A20
 clear A20
 by_cases c3 : s0_1 = true
 · subst c3
   have H1 : (some (t109, t110, true)) = some (r1, r2, r3) := by rw [if_pos rfl] at H; exact H
   clear H
   have H := H1
   clear H1
   simp only [Option.some.injEq, Prod.mk.injEq] at H
   obtain ⟨rfl, rfl, rfl⟩ := H
   obtain ⟨HGz4, hgz4⟩ := HI0.out
   have hcz4_0 := cellS160_0 HGz4
   have hcz4_1 := cellS160_1 HGz4
   clear HGz4 hgz4
   go_enter Tryz.func129, Tryz.ntmps129
   go_wp2_with (((with_reducible refine gate_callee (f := 151) rfl ?_); refine goesL_ (some 10) rfl rfl Tryz.func151 (by kernel_rfl) rfl #[.string s0_0] rfl (by (try simp only [List.map_toArray, List.map_cons, List.map_nil]); (rfl)) ?_; (with_reducible refine (num_run.calls s0_0 t109 t110 _ A2.out).mono ?_); rintro e w5 ⟨rfl, hb⟩; refine ⟨_, rfl, ?_⟩; have n0_ := Aside0.mk (IsS160.below (by repeat ((with_reducible (exact HI0.out)))) hb); have n1_ := Aside0.mk (KeepBut.trans (by repeat ((with_reducible (exact HK.out)))) (KeepBut.of_below hb g none) (.inl rfl)); have n2_ := Aside0.mk (below_step (by repeat ((with_reducible (exact HB.out)))) hb); clear HI0; clear HK; clear HB; have HI0 := n0_; have HK := n1_; have HB := n2_; clear n0_ n1_ n2_; (try clear hb); obtain ⟨HGz6, hgz6⟩ := HI0.out; have hcz6_0 := cellS160_0 HGz6; have hcz6_1 := cellS160_1 HGz6; have hfz6_0 := blk_frozen HGz6 0; have hfz6_1 := blk_frozen HGz6 1; clear HGz6 hgz6))
   go_ret
   exact ⟨by (rfl), by repeat ((with_reducible first | exact HI0.out | apply IsS160.set_0 | apply IsS160.set_1)), by repeat ((with_reducible first | exact HB.out | refine below_set ?_ (IsS160.ge HI0.out))), by repeat ((with_reducible first | exact HK.out | apply KeepBut.set_ ))⟩
 · replace c3 := Bool.eq_false_iff.mpr c3
   subst c3
   have H1 : (some (t109, t110, (t109.toList == ([] : List UInt8)))) = some (r1, r2, r3) := by rw [if_neg (show ¬ (false = true) by decide)] at H; exact H
   clear H
   have H := H1
   clear H1
   simp only [Option.some.injEq, Prod.mk.injEq] at H
   obtain ⟨rfl, rfl, rfl⟩ := H
   obtain ⟨HGz7, hgz7⟩ := HI0.out
   have hcz7_0 := cellS160_0 HGz7
   have hcz7_1 := cellS160_1 HGz7
   clear HGz7 hgz7
   go_enter Tryz.func129, Tryz.ntmps129
   go_wp2_with (((with_reducible refine gate_callee (f := 151) rfl ?_); refine goesL_ (some 10) rfl rfl Tryz.func151 (by kernel_rfl) rfl #[.string s0_0] rfl (by (try simp only [List.map_toArray, List.map_cons, List.map_nil]); (rfl)) ?_; (with_reducible refine (num_run.calls s0_0 t109 t110 _ A2.out).mono ?_); rintro e w8 ⟨rfl, hb⟩; refine ⟨_, rfl, ?_⟩; have n0_ := Aside0.mk (IsS160.below (by repeat ((with_reducible (exact HI0.out)))) hb); have n1_ := Aside0.mk (KeepBut.trans (by repeat ((with_reducible (exact HK.out)))) (KeepBut.of_below hb g none) (.inl rfl)); have n2_ := Aside0.mk (below_step (by repeat ((with_reducible (exact HB.out)))) hb); clear HI0; clear HK; clear HB; have HI0 := n0_; have HK := n1_; have HB := n2_; clear n0_ n1_ n2_; (try clear hb); obtain ⟨HGz9, hgz9⟩ := HI0.out; have hcz9_0 := cellS160_0 HGz9; have hcz9_1 := cellS160_1 HGz9; have hfz9_0 := blk_frozen HGz9 0; have hfz9_1 := blk_frozen HGz9 1; clear HGz9 hgz9))
   go_ret
   try simp only [beq_nil_isEmpty, bytesLess_gtr]
   exact ⟨by (rfl), by repeat ((with_reducible first | exact HI0.out | apply IsS160.set_0 | apply IsS160.set_1)), by repeat ((with_reducible first | exact HB.out | refine below_set ?_ (IsS160.ge HI0.out))), by repeat ((with_reducible first | exact HK.out | apply KeepBut.set_ ))⟩
end Go.Proofs.YtapcpndplnkfjaaGreatDoor.Pa
namespace Go.Proofs.YtapcpndplnkfjaaGreatDoor
open Go.RowKit Go.Proofs.YtapcpndplnkfjaaGreatDoorW.PrintWords Pa
structure PS (w0 W : World) (s : ByteArray) (bad : Bool) (wh pa ex : ByteArray) (dn ls : Bool) : Prop where
  h0 : W.heap[w0.heap.size]? = some (.cells #[.bool false, .string ⟨#[]⟩, .int .i64 0] 24 (0, 0))
  h1 : W.heap[w0.heap.size + 1]? = some (.cells #[.string s, .bool bad] 160 (0, 0))
  h2 : W.heap[w0.heap.size + 2]? = some (.cells #[.pointer (some ⟨w0.heap.size + 1, 0, none⟩)] 158 (0, 0))
  h3 : W.heap[w0.heap.size + 3]? = some (.cells #[.string wh] 9 (0, 0))
  h4 : W.heap[w0.heap.size + 4]? = some (.cells #[.string pa] 9 (0, 0))
  h5 : W.heap[w0.heap.size + 5]? = some (.cells #[.string ex] 9 (0, 0))
  h6 : W.heap[w0.heap.size + 6]? = some (.cells #[.bool dn] 4 (0, 0))
  h7 : W.heap[w0.heap.size + 7]? = some (.cells #[.bool ls] 4 (0, 0))
  h8 : W.heap[w0.heap.size + 8]? = some (.cells #[
    .func (.func 126) #[] #[.pointer (some ⟨w0.heap.size + 2, 0, none⟩), .pointer (some ⟨w0.heap.size + 6, 0, none⟩)],
    .func (.func 128) #[] #[.pointer (some ⟨w0.heap.size + 2, 0, none⟩), .pointer (some ⟨w0.heap.size + 3, 0, none⟩)],
    .func (.func 130) #[] #[.pointer (some ⟨w0.heap.size + 2, 0, none⟩), .pointer (some ⟨w0.heap.size + 4, 0, none⟩)],
    .func (.func 131) #[] #[.pointer (some ⟨w0.heap.size + 2, 0, none⟩), .pointer (some ⟨w0.heap.size + 7, 0, none⟩), .pointer (some ⟨w0.heap.size + 5, 0, none⟩)]] 1 (0, 0))
  below : Below w0.heap.size w0 W
theorem keep_at {W W' : World} {g i : Nat} {o : Obj} (hk : KeepBut W W' g none) (h : W.heap[i]? = some o) (hi : i ≠ g) : W'.heap[i]? = some o :=
 (hk.2 i (blk_lt h) hi (by simp)).trans h
theorem PS.reader {w0 W W' : World} {s s' : ByteArray} {bad bad' : Bool} {wh pa ex : ByteArray} {dn ls : Bool} (h : PS w0 W s bad wh pa ex dn ls)
    (hk : KeepBut W W' (w0.heap.size + 1) none) (hn : IsS160 w0 W' (w0.heap.size + 1) s' bad') (hb : Below w0.heap.size w0 W') : PS w0 W' s' bad' wh pa ex dn ls :=
 ⟨keep_at hk h.h0 (by omega), hn.1, keep_at hk h.h2 (by omega), keep_at hk h.h3 (by omega), keep_at hk h.h4 (by omega), keep_at hk h.h5 (by omega), keep_at hk h.h6 (by omega), keep_at hk h.h7 (by omega), keep_at hk h.h8 (by omega), hb⟩
theorem PS.drew {w0 W : World} {s : ByteArray} {bad : Bool} {wh pa ex : ByteArray} {dn ls : Bool} (h : PS w0 W s bad wh pa ex dn ls) : PS w0 W.drew s bad wh pa ex dn ls :=
 ⟨h.h0, h.h1, h.h2, h.h3, h.h4, h.h5, h.h6, h.h7, h.h8, below_drew h.below⟩
theorem PS.set3 {w0 W : World} {s : ByteArray} {bad : Bool} {wh pa ex : ByteArray} {dn ls : Bool} (h : PS w0 W s bad wh pa ex dn ls) (x : ByteArray) :
    PS w0 (W.setCell ⟨w0.heap.size + 3, 0, none⟩ (.string x)) s bad x pa ex dn ls :=
 ⟨blk_far h.h0 (by simp) _, blk_far h.h1 (by simp) _, blk_far h.h2 (by simp) _, one_setCell h.h3, blk_far h.h4 (by simp) _, blk_far h.h5 (by simp) _, blk_far h.h6 (by simp) _, blk_far h.h7 (by simp) _, blk_far h.h8 (by simp) _, h.below.setCell (by simp) _⟩
theorem PS.set4 {w0 W : World} {s : ByteArray} {bad : Bool} {wh pa ex : ByteArray} {dn ls : Bool} (h : PS w0 W s bad wh pa ex dn ls) (x : ByteArray) :
    PS w0 (W.setCell ⟨w0.heap.size + 4, 0, none⟩ (.string x)) s bad wh x ex dn ls :=
 ⟨blk_far h.h0 (by simp) _, blk_far h.h1 (by simp) _, blk_far h.h2 (by simp) _, blk_far h.h3 (by simp) _, one_setCell h.h4, blk_far h.h5 (by simp) _, blk_far h.h6 (by simp) _, blk_far h.h7 (by simp) _, blk_far h.h8 (by simp) _, h.below.setCell (by simp) _⟩
theorem PS.set5 {w0 W : World} {s : ByteArray} {bad : Bool} {wh pa ex : ByteArray} {dn ls : Bool} (h : PS w0 W s bad wh pa ex dn ls) (x : ByteArray) :
    PS w0 (W.setCell ⟨w0.heap.size + 5, 0, none⟩ (.string x)) s bad wh pa x dn ls :=
 ⟨blk_far h.h0 (by simp) _, blk_far h.h1 (by simp) _, blk_far h.h2 (by simp) _, blk_far h.h3 (by simp) _, blk_far h.h4 (by simp) _, one_setCell h.h5, blk_far h.h6 (by simp) _, blk_far h.h7 (by simp) _, blk_far h.h8 (by simp) _, h.below.setCell (by simp) _⟩
theorem PS.set6 {w0 W : World} {s : ByteArray} {bad : Bool} {wh pa ex : ByteArray} {dn ls : Bool} (h : PS w0 W s bad wh pa ex dn ls) (x : Bool) :
    PS w0 (W.setCell ⟨w0.heap.size + 6, 0, none⟩ (.bool x)) s bad wh pa ex x ls :=
 ⟨blk_far h.h0 (by simp) _, blk_far h.h1 (by simp) _, blk_far h.h2 (by simp) _, blk_far h.h3 (by simp) _, blk_far h.h4 (by simp) _, blk_far h.h5 (by simp) _, one_setCell h.h6, blk_far h.h7 (by simp) _, blk_far h.h8 (by simp) _, h.below.setCell (by simp) _⟩
theorem PS.set7 {w0 W : World} {s : ByteArray} {bad : Bool} {wh pa ex : ByteArray} {dn ls : Bool} (h : PS w0 W s bad wh pa ex dn ls) (x : Bool) :
    PS w0 (W.setCell ⟨w0.heap.size + 7, 0, none⟩ (.bool x)) s bad wh pa ex dn x :=
 ⟨blk_far h.h0 (by simp) _, blk_far h.h1 (by simp) _, blk_far h.h2 (by simp) _, blk_far h.h3 (by simp) _, blk_far h.h4 (by simp) _, blk_far h.h5 (by simp) _, blk_far h.h6 (by simp) _, one_setCell h.h7, blk_far h.h8 (by simp) _, h.below.setCell (by simp) _⟩
theorem PS.setBad {w0 W : World} {s : ByteArray} {bad : Bool} {wh pa ex : ByteArray} {dn ls : Bool} (h : PS w0 W s bad wh pa ex dn ls) (x : Bool) :
    PS w0 (W.setCell ⟨w0.heap.size + 1, 1, none⟩ (.bool x)) s x wh pa ex dn ls :=
 ⟨blk_far h.h0 (by simp) _, by have := blk_set h.h1 1 (.bool x); simpa using this, blk_far h.h2 (by simp) _, blk_far h.h3 (by simp) _, blk_far h.h4 (by simp) _, blk_far h.h5 (by simp) _, blk_far h.h6 (by simp) _, blk_far h.h7 (by simp) _, blk_far h.h8 (by simp) _, h.below.setCell (by simp) _⟩
theorem PS.isS {w0 W : World} {s : ByteArray} {bad : Bool} {wh pa ex : ByteArray} {dn ls : Bool} (h : PS w0 W s bad wh pa ex dn ls) : IsS160 w0 W (w0.heap.size + 1) s bad := ⟨h.h1, by omega⟩
def ofL (l : List UInt8) : ByteArray := ⟨l.toArray⟩
def sgT (s l : List UInt8) : List UInt8 := match s with | [] => [] | c :: _ => if l.contains c then [c] else []
def sgR (s l : List UInt8) : List UInt8 := match s with | [] => [] | c :: t => if l.contains c then t else s
theorem idx_iff (l : List UInt8) (c : UInt8) : 0 ≤ Lib.indexByte l c ↔ l.contains c = true := by
 induction l with
 | nil => simp [Lib.indexByte]
 | cons b t ih =>
  have hg := Lib.indexByte_ge t c
  simp only [Lib.indexByte, List.contains_cons]
  by_cases e : b = c
  · subst e; simp
  have e1 : (b == c) = false := by simpa using e
  have e2 : (c == b) = false := by simpa using fun h => e h.symm
  rw [e1, e2, Bool.false_or, ← ih]
  by_cases z : Lib.indexByte t c = -1
  · rw [z]; decide
  have z1 : (Lib.indexByte t c == -1) = false := by simpa using z
  simp only [z1, if_false, Bool.false_eq_true]
  omega
theorem idx_contains (l : List UInt8) (c : UInt8) : decide (0 ≤ Lib.indexByte l c) = l.contains c := by
 rw [Bool.eq_iff_iff, decide_eq_true_eq]; exact idx_iff l c
theorem ofL_toList (l : List UInt8) : (ofL l).toList = l := by rw [ByteArray.toList_eq]; rfl
theorem ofL_size (l : List UInt8) : (ofL l).size = l.length := by simp [ofL, ByteArray.size]
theorem ofL_data (l : List UInt8) : (ofL l).data.toList = l := rfl
theorem ofL_ext (l : List UInt8) (a b : Nat) : (ofL l).extract a b = ofL ((l.take b).drop a) := by
 apply ByteArray.ext
 apply Array.ext'
 simp [ofL, List.drop_take]
theorem sign_f (s l : List UInt8) (bad : Bool) : num_reader_sign.f (ofL s) bad (ofL l) = some (ofL (sgT s l), ofL (sgR s l), bad) := by
 unfold num_reader_sign.f
 cases s with
 | nil => rw [if_pos (ofL_toList [])]; rfl
 | cons c t =>
  rw [if_neg (by rw [ofL_toList]; simp), if_pos (by omega), if_pos (by rw [ofL_size]; simp; omega)]
  have e1 : (ofL (c :: t)).extract 0 1 = ofL [c] := by rw [ofL_ext]; rfl
  have e2 : (ofL (c :: t)).extract 1 (ofL (c :: t)).size = ofL t := by rw [ofL_ext, ofL_size]; simp
  rw [e1, e2]
  have e3 : strings_Contains.f (ofL l) (ofL [c]) = some (l.contains c) := by
   show some _ = _
   rw [idx_contains]; rfl
  rw [e3]
  simp only [Option.bind_some, sgT, sgR]
  by_cases h : l.contains c = true
  · simp only [h, if_true]
  simp only [h]; rfl
theorem trimLeft_dig (l : List UInt8) : Lib.trimLeftS l [48, 49, 50, 51, 52, 53, 54, 55, 56, 57] = l.dropWhile NumP.isD := by
 unfold Lib.trimLeftS
 congr 1; funext c
 rw [Bool.eq_iff_iff]; simp [NumP.isD, ← UInt8.toNat_inj]; omega
theorem run_f (s : List UInt8) (hs : s.length ≤ 9223372036854775807) : num_run.f (ofL s) = some (ofL (s.takeWhile NumP.isD), ofL (s.dropWhile NumP.isD)) := by
 unfold num_run.f
 have e : strings_TrimLeft.f (ofL s) ⟨#[48, 49, 50, 51, 52, 53, 54, 55, 56, 57]⟩ = some (ofL (s.dropWhile NumP.isD)) := by
  unfold strings_TrimLeft.f
  rw [if_pos (by decide), ofL_data]
  show some (ofL (Lib.trimLeftS s [48, 49, 50, 51, 52, 53, 54, 55, 56, 57])) = _
  rw [trimLeft_dig]
 rw [e]
 simp only [Option.bind_some, ofL_size]
 have hl : (s.takeWhile NumP.isD).length + (s.dropWhile NumP.isD).length = s.length := by rw [← List.length_append, List.takeWhile_append_dropWhile]
 have hw : wrap64 ((s.length : Int) - ((s.dropWhile NumP.isD).length : Int)) = ((s.takeWhile NumP.isD).length : Int) := by unfold wrap64; omega
 rw [hw, if_pos (by omega), if_pos (by omega), ofL_ext]
 congr 3
 have ht : ((s.takeWhile NumP.isD).length : Int).toNat = (s.takeWhile NumP.isD).length := by omega
 rw [ht, List.drop_zero]
 exact (List.prefix_iff_eq_take.1 (List.takeWhile_prefix NumP.isD)).symm
theorem digits_f (s : List UInt8) (bad : Bool) (hs : s.length ≤ 9223372036854775807) : num_reader_digits.f (ofL s) bad = some (ofL (s.takeWhile NumP.isD), ofL (s.dropWhile NumP.isD), bad || (s.takeWhile NumP.isD).isEmpty) := by
 unfold num_reader_digits.f
 rw [run_f s hs]
 simp only [Option.bind_some, ofL_toList, beq_nil_isEmpty]
 cases bad <;> rfl
set_option maxRecDepth 100000 in
set_option maxHeartbeats 1000000 in
theorem step1 (w0 W : World) (s : List UInt8) (bad : Bool) (wh pa ex : ByteArray) (dn ls : Bool) (h : PS w0 W (ofL s) bad wh pa ex dn ls) :
    Calls Tryz.prog 126 #[.pointer (some ⟨w0.heap.size + 2, 0, none⟩), .pointer (some ⟨w0.heap.size + 6, 0, none⟩)] W fun e w' => e = .returned (.tuple #[]) ∧ PS w0 w' (ofL (sgR s [45])) bad wh pa ex (!(sgT s [45]).isEmpty) ls := by
 have HS := hi_ h
 have c2 := cell_of_one h.h2
 clear h
 go_enter Tryz.func126, Tryz.ntmps126
 go_wp2_with fail
 refine (num_reader_sign.calls _ _ _ _ _ _ _ w0 W HS.out.isS HS.out.below (sign_f s [45] bad)).mono ?_
 rintro e w1 ⟨rfl, hI, hB, hK⟩
 have H1 := hi_ (HS.out.reader hK hI hB)
 clear hI hB hK
 have f6 := free_of_one H1.out.h6
 have c6 := cell_of_one H1.out.h6
 go_wp2
 go_end0
 refine ⟨rfl, ?_⟩
 rw [ofL_toList]
 exact H1.out.set6 _
theorem whole_ways (bad : Bool) (t : List UInt8) :
    ((bad || t.isEmpty) = true ∧ (bad || NumP.wholeB t) = true) ∨
    ((bad || t.isEmpty) = false ∧ t.length ≤ 1 ∧ (bad || NumP.wholeB t) = false) ∨
    ((bad || t.isEmpty) = false ∧ 1 < t.length ∧ ∃ c u, t = c :: u ∧ (bad || NumP.wholeB t) = (c == 48)) := by
 cases bad with
 | true => left; simp
 | false =>
  cases t with
  | nil => left; simp [NumP.wholeB]
  | cons c u =>
   right
   by_cases h : 1 < (c :: u).length
   · right; refine ⟨rfl, h, c, u, rfl, ?_⟩
     simp only [NumP.wholeB, h, decide_true, List.isEmpty_cons, Bool.true_and, Bool.false_or, List.head?_cons]
     rfl
   left; exact ⟨rfl, by omega, by simp only [NumP.wholeB, h, decide_false, List.isEmpty_cons, Bool.false_and, Bool.false_or]⟩
set_option maxRecDepth 100000 in
set_option maxHeartbeats 1000000 in
theorem step2 (w0 W : World) (s : List UInt8) (bad : Bool) (wh pa ex : ByteArray) (dn ls : Bool) (hl : s.length ≤ 9223372036854775807) (h : PS w0 W (ofL s) bad wh pa ex dn ls) :
    Calls Tryz.prog 128 #[.pointer (some ⟨w0.heap.size + 2, 0, none⟩), .pointer (some ⟨w0.heap.size + 3, 0, none⟩)] W fun e w' => e = .returned (.tuple #[]) ∧
     PS w0 w' (ofL (s.dropWhile NumP.isD)) (bad || NumP.wholeB (s.takeWhile NumP.isD)) (ofL (s.takeWhile NumP.isD)) pa ex dn ls := by
 have HS := hi_ h
 have c2 := cell_of_one h.h2
 clear h
 have hdg := hi_ (digits_f s bad hl)
 have hway := whole_ways bad (s.takeWhile NumP.isD)
 have htl : (s.takeWhile NumP.isD).length ≤ 9223372036854775807 := by have := (List.takeWhile_prefix (l := s) NumP.isD).length_le; omega
 generalize s.takeWhile NumP.isD = t at *
 generalize (bad || NumP.wholeB t) = fin at *
 generalize (bad || t.isEmpty) = b1 at *
 generalize hB : ofL t = T at *
 have hsz : (T.size : Int) = t.length := by rw [← hB, ofL_size]
 rcases hway with ⟨rfl, rfl⟩ | ⟨rfl, hle, rfl⟩ | ⟨rfl, hlt, c, u, hcu, rfl⟩
 · clear hB hsz
   go_enter Tryz.func128, Tryz.ntmps128
   go_wp2_with fail
   refine (num_reader_digits.calls _ _ _ _ _ _ w0 W HS.out.isS HS.out.below hdg.out).mono ?_
   rintro e w1 ⟨rfl, hI, hB, hK⟩
   have H1 := hi_ (HS.out.reader hK hI hB)
   clear hI hB hK c2
   have f3 := free_of_one H1.out.h3
   have c3 := cell_of_one H1.out.h3
   go_wp2
   have H2 := hi_ (H1.out.set3 T)
   generalize w1.setCell { block := w0.heap.size + 3, off := 0 } (Value.string T) = W2 at H2 ⊢
   clear c3 f3
   have c2 := cell_of_one H2.out.h2
   have c10 := blk_cell H2.out.h1 0
   have c11 := blk_cell H2.out.h1 1
   have f11 := blk_frozen H2.out.h1 1
   have c3 := cell_of_one H2.out.h3
   simp at c10 c11
   go_region
   go_wp2
   go_end0
   exact ⟨rfl, (H2.out.setBad _).drew⟩
 · have hle' : decide (1 < (T.size : Int)) = false := by simp; omega
   clear hB hsz
   go_enter Tryz.func128, Tryz.ntmps128
   go_wp2_with fail
   refine (num_reader_digits.calls _ _ _ _ _ _ w0 W HS.out.isS HS.out.below hdg.out).mono ?_
   rintro e w1 ⟨rfl, hI, hB, hK⟩
   have H1 := hi_ (HS.out.reader hK hI hB)
   clear hI hB hK c2
   have f3 := free_of_one H1.out.h3
   have c3 := cell_of_one H1.out.h3
   go_wp2
   have H2 := hi_ (H1.out.set3 T)
   generalize w1.setCell { block := w0.heap.size + 3, off := 0 } (Value.string T) = W2 at H2 ⊢
   clear c3 f3
   have c2 := cell_of_one H2.out.h2
   have c10 := blk_cell H2.out.h1 0
   have c11 := blk_cell H2.out.h1 1
   have f11 := blk_frozen H2.out.h1 1
   have c3 := cell_of_one H2.out.h3
   simp at c10 c11
   go_region
   go_wp2
   go_end0
   exact ⟨rfl, (H2.out.setBad _).drew⟩
 · have hle' : decide (1 < (T.size : Int)) = true := by simp; omega
   have h0 : 0 < T.size := by omega
   have hx : ∀ h : 0 < T.size, ((T[0]'h).toNat : Int) = (c.toNat : Int) := by
    subst hcu; subst hB
    intro h; simp [ofL, ByteArray.getElem_eq_getElem_data]
   have hc : (c == 48) = ((c.toNat : Int) == 48) := by
    rw [Bool.eq_iff_iff]; simp [← UInt8.toNat_inj]; omega
   rw [hc]
   generalize (c.toNat : Int) = n at *
   clear hB hsz hcu hc
   replace h0 := eq_true h0
   go_enter Tryz.func128, Tryz.ntmps128
   go_wp2_with fail
   refine (num_reader_digits.calls _ _ _ _ _ _ w0 W HS.out.isS HS.out.below hdg.out).mono ?_
   rintro e w1 ⟨rfl, hI, hB, hK⟩
   have H1 := hi_ (HS.out.reader hK hI hB)
   clear hI hB hK c2
   have f3 := free_of_one H1.out.h3
   have c3 := cell_of_one H1.out.h3
   go_wp2
   have H2 := hi_ (H1.out.set3 T)
   generalize w1.setCell { block := w0.heap.size + 3, off := 0 } (Value.string T) = W2 at H2 ⊢
   clear c3 f3
   have c2 := cell_of_one H2.out.h2
   have c10 := blk_cell H2.out.h1 0
   have c11 := blk_cell H2.out.h1 1
   have f11 := blk_frozen H2.out.h1 1
   have c3 := cell_of_one H2.out.h3
   simp at c10 c11
   go_region
   go_wp2
   go_end0
   exact ⟨rfl, (H2.out.setBad _).drew⟩
theorem sg_dot (s : List UInt8) : (s.head? = some 46 ∧ sgT s [46] = [46] ∧ sgR s [46] = s.tail) ∨ (s.head? ≠ some 46 ∧ sgT s [46] = [] ∧ sgR s [46] = s) := by
 cases s with
 | nil => right; simp [sgT, sgR]
 | cons c t =>
  by_cases e : c = 46
  · subst e; left; simp [sgT, sgR]
  right; simp [sgT, sgR, e]
theorem sg_e (s : List UInt8) : (NumP.isE s = true ∧ sgT s [101, 69] ≠ [] ∧ sgR s [101, 69] = s.tail) ∨ (NumP.isE s = false ∧ sgT s [101, 69] = [] ∧ sgR s [101, 69] = s) := by
 cases s with
 | nil => right; simp [sgT, sgR, NumP.isE]
 | cons c t =>
  by_cases e : c = 101 ∨ c = 69
  · left; rcases e with rfl | rfl <;> simp [sgT, sgR, NumP.isE]
  right; obtain ⟨a, b⟩ := not_or.1 e; simp [sgT, sgR, NumP.isE, a, b]
theorem sg_s (s : List UInt8) : ((sgT s [43, 45]) == [45]) = (s.head? == some 45) ∧ sgR s [43, 45] = (if NumP.isS s then s.tail else s) := by
 cases s with
 | nil => simp [sgT, sgR, NumP.isS]
 | cons c t =>
  by_cases e : c = 43
  · subst e; simp [sgT, sgR, NumP.isS]
  by_cases e' : c = 45
  · subst e'; simp [sgT, sgR, NumP.isS]
  simp [sgT, sgR, NumP.isS, e, e']
set_option maxRecDepth 100000 in
set_option maxHeartbeats 1000000 in
theorem step3 (w0 W : World) (s : List UInt8) (bad : Bool) (wh ex : ByteArray) (dn ls : Bool) (hl : s.length ≤ 9223372036854775807) (h : PS w0 W (ofL s) bad wh (ofL []) ex dn ls) :
    Calls Tryz.prog 130 #[.pointer (some ⟨w0.heap.size + 2, 0, none⟩), .pointer (some ⟨w0.heap.size + 4, 0, none⟩)] W fun e w' => e = .returned (.tuple #[]) ∧
     PS w0 w' (ofL (NumP.dotR s)) (bad || NumP.dotB s) wh (ofL (NumP.dotP s)) ex dn ls := by
 have HS := hi_ h
 have c2 := cell_of_one h.h2
 clear h
 have hsg := hi_ (sign_f s [46] bad)
 rcases sg_dot s with ⟨hh, e1, e2⟩ | ⟨hh, e1, e2⟩
 · rw [e2] at hsg
   have hP : NumP.dotP s = s.tail.takeWhile NumP.isD := by simp [NumP.dotP, hh]
   have hR : NumP.dotR s = s.tail.dropWhile NumP.isD := by simp [NumP.dotR, hh]
   have hB : NumP.dotB s = (s.tail.takeWhile NumP.isD).isEmpty := by simp [NumP.dotB, NumP.dotP, hh]
   rw [hP, hR, hB]
   have hdg := hi_ (digits_f s.tail bad (by have := List.length_tail (l := s); omega))
   have hne : (ofL (sgT s [46])).toList.isEmpty = false := by rw [ofL_toList, e1]; rfl
   clear hP hR hB hh e1 e2
   generalize ofL (sgT s [46]) = P at *
   generalize s.tail.takeWhile NumP.isD = t at *
   generalize s.tail.dropWhile NumP.isD = u at *
   generalize ofL [] = Z at *
   generalize ofL t = T at *
   generalize (bad || t.isEmpty) = b1 at *
   go_enter Tryz.func130, Tryz.ntmps130
   go_wp2_with fail
   refine (num_reader_sign.calls _ _ _ _ _ _ _ w0 W HS.out.isS HS.out.below hsg.out).mono ?_
   rintro e w1 ⟨rfl, hI, hB, hK⟩
   have H1 := hi_ (HS.out.reader hK hI hB)
   clear hI hB hK c2
   have c2 := cell_of_one H1.out.h2
   go_wp2_with fail
   refine (num_reader_digits.calls _ _ _ _ _ _ w0 w1 H1.out.isS H1.out.below hdg.out).mono ?_
   rintro e w2 ⟨rfl, hI, hB, hK⟩
   have H2 := hi_ (H1.out.reader hK hI hB)
   clear hI hB hK c2
   have f3 := free_of_one H2.out.h4
   have c3 := cell_of_one H2.out.h4
   go_wp2
   go_end0
   exact ⟨rfl, H2.out.set4 _⟩
 · rw [e1, e2] at hsg
   have hP : NumP.dotP s = [] := by simp [NumP.dotP, hh]
   have hR : NumP.dotR s = s := by simp [NumP.dotR, hh]
   have hB : (bad || NumP.dotB s) = bad := by simp [NumP.dotB, hh]
   rw [hP, hR, hB]
   clear hP hR hB hh e1 e2
   have hne : (ofL []).toList.isEmpty = true := by rw [ofL_toList]; rfl
   generalize ofL [] = Z at *
   go_enter Tryz.func130, Tryz.ntmps130
   go_wp2_with fail
   refine (num_reader_sign.calls _ _ _ _ _ _ _ w0 W HS.out.isS HS.out.below hsg.out).mono ?_
   rintro e w1 ⟨rfl, hI, hB, hK⟩
   have H1 := hi_ (HS.out.reader hK hI hB)
   clear hI hB hK c2
   go_wp2
   go_end0
   exact ⟨rfl, H1.out⟩
set_option maxRecDepth 100000 in
set_option maxHeartbeats 1000000 in
theorem step4 (w0 W : World) (s : List UInt8) (bad : Bool) (wh pa : ByteArray) (dn : Bool) (hl : s.length ≤ 9223372036854775807) (h : PS w0 W (ofL s) bad wh pa (ofL []) dn false) :
    Calls Tryz.prog 131 #[.pointer (some ⟨w0.heap.size + 2, 0, none⟩), .pointer (some ⟨w0.heap.size + 7, 0, none⟩), .pointer (some ⟨w0.heap.size + 5, 0, none⟩)] W fun e w' => e = .returned (.tuple #[]) ∧
     PS w0 w' (ofL (NumP.expR s)) (bad || NumP.expB s) wh pa (ofL (NumP.expP s)) dn (NumP.expL s) := by
 have HS := hi_ h
 have c2 := cell_of_one h.h2
 clear h
 have hsg := hi_ (sign_f s [101, 69] bad)
 rcases sg_e s with ⟨hh, e1, e2⟩ | ⟨hh, e1, e2⟩
 · rw [e2] at hsg
   have hsg2 := hi_ (sign_f s.tail [43, 45] bad)
   obtain ⟨q1, q2⟩ := sg_s s.tail
   rw [q2] at hsg2
   change Hid (_ = some (_, ofL (NumP.expT s), _)) at hsg2
   have hP : NumP.expP s = (NumP.expT s).takeWhile NumP.isD := by simp [NumP.expP, hh]
   have hR : NumP.expR s = (NumP.expT s).dropWhile NumP.isD := by simp [NumP.expR, hh]
   have hB : NumP.expB s = ((NumP.expT s).takeWhile NumP.isD).isEmpty := by simp [NumP.expB, NumP.expP, hh]
   have hL : NumP.expL s = ((sgT s.tail [43, 45]) == [45]) := by rw [q1]; simp [NumP.expL, hh]
   rw [hP, hR, hB, hL]
   have hdg := hi_ (digits_f (NumP.expT s) bad (by
    have := List.length_tail (l := s); have := List.length_tail (l := s.tail)
    unfold NumP.expT; split <;> omega))
   clear hP hR hB hL hh e2 q1 q2
   have hne : (ofL (sgT s [101, 69])).toList.isEmpty = false := by rw [ofL_toList]; simpa using e1
   have hls : ((ofL (sgT s.tail [43, 45])).toList == [45]) = ((sgT s.tail [43, 45]) == [45]) := by rw [ofL_toList]
   clear e1
   generalize ofL (sgT s [101, 69]) = P at *
   generalize sgT s.tail [43, 45] = q at *
   generalize (NumP.expT s).takeWhile NumP.isD = t at *
   generalize (NumP.expT s).dropWhile NumP.isD = u at *
   generalize ofL [] = Z at *
   generalize ofL t = T at *
   generalize ofL q = Q at *
   generalize (bad || t.isEmpty) = b1 at *
   generalize hl2 : (q == [45]) = less at *
   have HLS := hi_ hls
   clear hls hl2
   go_enter Tryz.func131, Tryz.ntmps131
   go_wp2_with fail
   refine (num_reader_sign.calls _ _ _ _ _ _ _ w0 W HS.out.isS HS.out.below hsg.out).mono ?_
   rintro e w1 ⟨rfl, hI, hB, hK⟩
   have H1 := hi_ (HS.out.reader hK hI hB)
   clear hI hB hK c2
   have c2 := cell_of_one H1.out.h2
   go_wp2_with fail
   refine (num_reader_sign.calls _ _ _ _ _ _ _ w0 w1 H1.out.isS H1.out.below hsg2.out).mono ?_
   rintro e w2 ⟨rfl, hI, hB, hK⟩
   have H2 := hi_ (H1.out.reader hK hI hB)
   clear hI hB hK c2
   have f7 := free_of_one H2.out.h7
   have c7 := cell_of_one H2.out.h7
   have c2 := cell_of_one H2.out.h2
   go_wp2_with fail
   have H3 := hi_ (H2.out.set7 (Q.toList == [45]))
   generalize w2.setCell { block := w0.heap.size + 7, off := 0 } (Value.bool (Q.toList == [45])) = w3 at H3 ⊢
   clear c7 f7 c2
   rw [HLS.out] at H3
   refine (num_reader_digits.calls _ _ _ _ _ _ w0 w3 H3.out.isS H3.out.below hdg.out).mono ?_
   rintro e w4 ⟨rfl, hI, hB, hK⟩
   have H4 := hi_ (H3.out.reader hK hI hB)
   clear hI hB hK
   have f5 := free_of_one H4.out.h5
   have c5 := cell_of_one H4.out.h5
   go_wp2
   go_end0
   exact ⟨rfl, H4.out.set5 _⟩
 · rw [e1, e2] at hsg
   have hP : NumP.expP s = [] := by simp [NumP.expP, hh]
   have hR : NumP.expR s = s := by simp [NumP.expR, hh]
   have hB : (bad || NumP.expB s) = bad := by simp [NumP.expB, hh]
   have hL : NumP.expL s = false := by simp [NumP.expL, hh]
   rw [hP, hR, hB, hL]
   clear hP hR hB hL hh e1 e2
   have hne : (ofL []).toList.isEmpty = true := by rw [ofL_toList]; rfl
   generalize ofL [] = Z at *
   go_enter Tryz.func131, Tryz.ntmps131
   go_wp2_with fail
   refine (num_reader_sign.calls _ _ _ _ _ _ _ w0 W HS.out.isS HS.out.below hsg.out).mono ?_
   rintro e w1 ⟨rfl, hI, hB, hK⟩
   have H1 := hi_ (HS.out.reader hK hI hB)
   clear hI hB hK c2
   go_wp2
   go_end0
   exact ⟨rfl, H1.out⟩
theorem alloc_size (W : World) (o : Obj) : (W.alloc o).heap.size = W.heap.size + 1 := by
 show (W.heap.push o).size = _
 simp
theorem blk_new' (W : World) (o : Obj) (n : Nat) (h : n = W.heap.size) : (W.alloc o).heap[n]? = some o := by subst h; exact blk_new W o
theorem PS.start (w : World) (s : ByteArray) : PS w ((((((((((w.alloc (.cells #[.bool false, .string ⟨#[]⟩, .int .i64 0] 24)).alloc (.cells #[.string s, .bool false] 160)).alloc
    (.cells #[.pointer (some ⟨w.heap.size + 1, 0, none⟩)] 158)).alloc (.cells #[.string ⟨#[]⟩] 9)).alloc (.cells #[.string ⟨#[]⟩] 9)).alloc (.cells #[.string ⟨#[]⟩] 9)).alloc (.cells #[.bool false] 4)).alloc (.cells #[.bool false] 4)).alloc
    (.cells #[
    .func (.func 126) #[] #[.pointer (some ⟨w.heap.size + 1 + 1, 0, none⟩), .pointer (some ⟨w.heap.size + 1 + 1 + 1 + 1 + 1 + 1, 0, none⟩)],
    .func (.func 128) #[] #[.pointer (some ⟨w.heap.size + 1 + 1, 0, none⟩), .pointer (some ⟨w.heap.size + 1 + 1 + 1, 0, none⟩)],
    .func (.func 130) #[] #[.pointer (some ⟨w.heap.size + 1 + 1, 0, none⟩), .pointer (some ⟨w.heap.size + 1 + 1 + 1 + 1, 0, none⟩)],
    .func (.func 131) #[] #[.pointer (some ⟨w.heap.size + 1 + 1, 0, none⟩), .pointer (some ⟨w.heap.size + 1 + 1 + 1 + 1 + 1 + 1 + 1, 0, none⟩), .pointer (some ⟨w.heap.size + 1 + 1 + 1 + 1 + 1, 0, none⟩)]] 1)))
    s false ⟨#[]⟩ ⟨#[]⟩ ⟨#[]⟩ false false := by
 constructor
 all_goals repeat (first | exact Below.refl _ _ | (refine blk_new' _ _ _ ?_; simp only [alloc_size]; done) | refine blk_alloc ?_ _ | apply below_alloc)
theorem sgR_len (s l : List UInt8) : (sgR s l).length ≤ s.length := by
 cases s with
 | nil => exact Nat.le_refl _
 | cons c t => simp only [sgR]; split <;> simp
def num_Parse.f (a0 : ByteArray) : Option (Bool × ByteArray × Int × Int) :=
 if a0.size ≤ 1000000000000000000 then
  some ((NumP.parse a0.data.toList).1.1, ofL (NumP.parse a0.data.toList).1.2.1, (NumP.parse a0.data.toList).1.2.2, (NumP.parse a0.data.toList).2)
 else none
theorem sg_minus (s : List UInt8) : sgR s [45] = NumP.dropSign s ∧ (!(sgT s [45]).isEmpty) = NumP.down s := by
 cases s with
 | nil => simp [sgR, sgT, NumP.dropSign, NumP.down]
 | cons c t => by_cases e : c = 45 <;> simp [sgR, sgT, NumP.dropSign, NumP.down, e]
theorem ofL_app (a b : List UInt8) : ofL a ++ ofL b = ofL (a ++ b) := by
 apply ByteArray.ext; apply Array.ext'; simp [ofL, ByteArray.data_append]
theorem trimRight_zero (l : List UInt8) : Lib.trimRightS l [48] = NumP.rstrip l := by
 unfold Lib.trimRightS NumP.rstrip
 congr 2; funext c
 rw [Bool.eq_iff_iff]; simp [NumP.isZ]
theorem form_f (d : Bool) (D : List UInt8) (e : Int) (hD : D.length ≤ 4000000000000000000) (he : -4000000000000000000 ≤ e ∧ e ≤ 4000000000000000000) :
    num_form.f d (ofL D) e = some ((NumP.form d D e).1, ofL (NumP.form d D e).2.1, (NumP.form d D e).2.2) := by
 have e1 : strings_TrimLeft.f (ofL D) ⟨#[48]⟩ = some (ofL (NumP.lstrip D)) := by
  unfold strings_TrimLeft.f
  rw [if_pos (by decide), ofL_data]
  show some (ofL (Lib.trimLeftS D [48])) = _
  rw [trimLeft_zero]
 have hl : (NumP.lstrip D).length ≤ D.length := (List.dropWhile_suffix NumP.isZ).length_le
 have e2 : strings_TrimRight.f (ofL (NumP.lstrip D)) ⟨#[48]⟩ = some (ofL (NumP.rstrip (NumP.lstrip D))) := by
  unfold strings_TrimRight.f
  rw [if_pos ⟨⟨by decide, by rw [ofL_size]; omega⟩, by decide⟩, ofL_data]
  show some (ofL (Lib.trimRightS (NumP.lstrip D) [48])) = _
  rw [trimRight_zero]
 have hr : (NumP.rstrip (NumP.lstrip D)).length ≤ (NumP.lstrip D).length := by
  unfold NumP.rstrip
  rw [List.length_reverse]
  exact Nat.le_trans (List.dropWhile_suffix NumP.isZ).length_le (by simp)
 unfold num_form.f NumP.form
 rw [e1]; simp only [Option.bind_some]; rw [e2]; simp only [Option.bind_some, ofL_toList, ofL_size]
 by_cases h : NumP.rstrip (NumP.lstrip D) = []
 · rw [if_pos h, if_pos h]; rfl
 · rw [if_neg h, if_neg h]
   have : wrap64 (wrap64 (e + ((NumP.lstrip D).length : Int)) - ((NumP.rstrip (NumP.lstrip D)).length : Int)) = e + ((NumP.lstrip D).length : Int) - ((NumP.rstrip (NumP.lstrip D)).length : Int) := by unfold wrap64; omega
   rw [this]
theorem bt_ofL (l : List UInt8) (i : Nat) (h : i < l.length) : bt (ofL l) i = ((l[i]'h).toNat : Int) := by
 have : ((i : Int).toNat) = i := by omega
 unfold bt
 rw [dif_pos (by rw [ofL_size, this]; exact h)]
 simp [ofL, ByteArray.getElem_eq_getElem_data, this]
theorem all_drop {p : UInt8 → Bool} : ∀ (l : List UInt8), l.all p = (l.dropWhile p).isEmpty
 | [] => rfl
 | c :: t => by
  by_cases h : p c = true
  · simp [h, all_drop t]
  simp [h]
theorem head_byte (c d : UInt8) : ((c.toNat : Int) = (d.toNat : Int)) ↔ c = d := by
 rw [Int.natCast_inj, UInt8.toNat_inj]
theorem right_f (d : Bool) (D : List UInt8) (e : Int) (hD : D.length ≤ 4000000000000000000) : num_Right.f d (ofL D) e = some (NumP.right (d, D, e)) := by
 unfold num_Right.f NumP.right
 rw [ofL_toList]
 by_cases h0 : D = []
 · subst h0
   rw [if_pos rfl, if_pos rfl]; simp
 rw [if_neg h0, if_neg h0, run_f D (by omega)]
 simp only [Option.bind_some, ofL_toList]
 cases hR : D.dropWhile NumP.isD with
 | cons x y =>
  rw [if_neg (by simp)]
  have : D.all NumP.isD = false := by rw [all_drop, hR]; rfl
  rw [this]; simp
 | nil =>
  have hall : D.all NumP.isD = true := by rw [all_drop, hR]; rfl
  have htw : D.takeWhile NumP.isD = D := by
   have := List.takeWhile_append_dropWhile (p := NumP.isD) (l := D)
   rw [hR, List.append_nil] at this; exact this
  have hpos : 0 < D.length := by cases D with | nil => exact absurd rfl h0 | cons _ _ => simp
  have hw : wrap64 ((D.length : Int) - 1) = ((D.length - 1 : Nat) : Int) := by unfold wrap64; omega
  rw [if_pos rfl, htw, ofL_size, if_pos (by omega), hw]
  have hb0 : bt (ofL D) 0 = ((D[0]'hpos).toNat : Int) := bt_ofL D 0 hpos
  have hb1 := bt_ofL D (D.length - 1) (by omega)
  have q0 : D.head? = some D[0] := by cases D with | nil => exact absurd rfl h0 | cons _ _ => rfl
  have q1 : D.getLast? = some (D[D.length - 1]'(by omega)) := by rw [List.getLast?_eq_getElem?]; exact List.getElem?_eq_getElem _
  rw [hall, q0, q1, hb0, hb1]
  have h48 : (48 : Int) = ((48 : UInt8).toNat : Int) := rfl
  rw [h48]
  by_cases e0 : D[0] = 48
  · rw [if_pos ((head_byte _ _).2 e0), e0]; simp
  rw [if_neg (fun z => e0 ((head_byte _ _).1 z)), if_pos (by omega), if_pos (by omega)]
  by_cases e1 : D[D.length - 1]'(by omega) = 48
  · rw [if_pos ((head_byte _ _).2 e1), e1]; simp
  rw [if_neg (fun z => e1 ((head_byte _ _).1 z))]
  by_cases e2 : (D.length : Int) ≤ 40
  · rw [if_pos e2]
    by_cases e3 : e ≥ -999
    · rw [if_pos e3]
      have : decide (D.length ≤ 40) = true := by simp; omega
      simp [e0, e1, this, show -999 ≤ e from e3]
    rw [if_neg e3]
    have : ¬ (-999 ≤ e) := e3
    simp [this]
  rw [if_neg e2]
  have : ¬ D.length ≤ 40 := by omega
  simp [this]
theorem PS.below_ {w0 W W' : World} {s : ByteArray} {bad : Bool} {wh pa ex : ByteArray} {dn ls : Bool} (h : PS w0 W s bad wh pa ex dn ls) (hb : Below W.heap.size W W') : PS w0 W' s bad wh pa ex dn ls :=
 ⟨blk_below h.h0 hb, blk_below h.h1 hb, blk_below h.h2 hb, blk_below h.h3 hb, blk_below h.h4 hb, blk_below h.h5 hb, blk_below h.h6 hb, blk_below h.h7 hb, blk_below h.h8 hb, below_step h.below hb⟩
theorem expP_dig (l : List UInt8) : (NumP.expP l).all NumP.isD = true := by
 unfold NumP.expP; split
 · exact NumP.takeWhile_all _ _
 rfl
theorem pow_bd (l : List UInt8) (h : l.all NumP.isD = true) : 0 ≤ NumP.pow l ∧ NumP.pow l ≤ 1099511627776 := by
 unfold NumP.pow
 split
 · omega
 rename_i hl
 have hd := dropAll NumP.isZ NumP.isD _ h
 have := val_bd (NumP.lstrip l) hd (NumP.lstrip l).length (Nat.le_refl _)
 rw [List.take_length] at this
 have h2 := pow_le (NumP.lstrip l).length (by omega)
 omega
set_option maxRecDepth 100000 in
set_option maxHeartbeats 2000000 in
theorem num_Parse.bad_ (s : List UInt8) (w : World) (hs : s.length ≤ 1000000000000000000) (hok : NumP.ok s = false) :
    Calls Tryz.prog 101 #[.string (ofL s)] w fun e w' => e = .returned (.tuple #[.agg #[.bool false, .string ⟨#[]⟩, .int .i64 0], .int .i64 11]) ∧ Below w.heap.size w w' := by
 have hmf : ∀ (fn : Fn) (first cap : Array Value) (w : World), (Instr.makeFunc fn first cap).run Tryz.prog w = .ok (.func fn first cap) w := fun _ _ _ _ => rfl
 obtain ⟨m1, m2⟩ := sg_minus s
 go_enter Tryz.func101, Tryz.ntmps101
 go_wp2_with fail
 have HS := hi_ (PS.start w (ofL s))
 refine wp_loop_rounds 5 ?_
 rw [rounds_succ]
 generalize World.alloc _ _ = W0 at HS ⊢
 have k0 := blk_cell HS.out.h8 0
 simp at k0
 go_wp2_with fail
 refine (step1 w W0 s false _ _ _ _ _ HS.out).mono ?_
 rintro e W1 ⟨rfl, h1⟩
 have H1 := hi_ h1
 clear h1 k0
 have k1 := blk_cell H1.out.h8 1
 simp at k1
 go_wp2_with fail
 rw [rounds_succ]
 go_wp2_with fail
 have hl1 : (sgR s [45]).length ≤ s.length := sgR_len s _
 refine (step2 w W1 (sgR s [45]) false _ _ _ _ _ (by omega) H1.out).mono ?_
 rintro e W2 ⟨rfl, h2⟩
 have H2 := hi_ h2
 clear h2 k1
 have k2 := blk_cell H2.out.h8 2
 simp at k2
 go_wp2_with fail
 rw [rounds_succ]
 go_wp2_with fail
 have hl2 : ((sgR s [45]).dropWhile NumP.isD).length ≤ s.length := Nat.le_trans (List.dropWhile_suffix NumP.isD).length_le hl1
 refine (step3 w W2 _ _ _ _ _ _ (by omega) H2.out).mono ?_
 rintro e W3 ⟨rfl, h3⟩
 have H3 := hi_ h3
 clear h3 k2
 have k3 := blk_cell H3.out.h8 3
 simp at k3
 go_wp2_with fail
 rw [rounds_succ]
 go_wp2_with fail
 have hl3 : (NumP.dotR ((sgR s [45]).dropWhile NumP.isD)).length ≤ s.length := by
  refine Nat.le_trans ?_ hl2
  unfold NumP.dotR; split
  · have := (List.dropWhile_suffix (l := ((sgR s [45]).dropWhile NumP.isD).tail) NumP.isD).length_le
    have := List.length_tail (l := (sgR s [45]).dropWhile NumP.isD)
    omega
  exact Nat.le_refl _
 refine (step4 w W3 _ _ _ _ _ (by omega) H3.out).mono ?_
 rintro e W4 ⟨rfl, h4⟩
 have H4 := hi_ h4
 clear h4 k3 HS H1 H2 H3 hl1 hl2 hl3
 go_wp2_with fail
 rw [rounds_succ]
 rw [m1, m2] at H4
 have hbad : (((false || NumP.wholeB ((NumP.dropSign s).takeWhile NumP.isD)) || NumP.dotB ((NumP.dropSign s).dropWhile NumP.isD)) || NumP.expB (NumP.dotR ((NumP.dropSign s).dropWhile NumP.isD))) = NumP.bad s := by
  rw [Bool.false_or]; rfl
 rw [hbad] at H4
 change Hid (PS w W4 (ofL (NumP.rest3 s)) _ _ _ _ _ _) at H4
 clear m1 m2 hbad
 have hE := hi_ (ofL_toList (NumP.rest3 s))
 unfold NumP.ok at hok
 generalize NumP.bad s = b at *
 generalize NumP.rest3 s = z at *
 have c2 : W4.cell? ⟨w.heap.size + 1 + 1, 0, none⟩ = some (.pointer (some ⟨w.heap.size + 1, 0, none⟩)) := cell_of_one H4.out.h2
 have c10 := blk_cell H4.out.h1 0
 have c11 := blk_cell H4.out.h1 1
 simp at c10 c11
 have c00 := blk_cell H4.out.h0 0
 have c01 := blk_cell H4.out.h0 1
 have c02 := blk_cell H4.out.h0 2
 have f00 := blk_frozen H4.out.h0 0
 have f01 := blk_frozen H4.out.h0 1
 have f02 := blk_frozen H4.out.h0 2
 simp at c00 c01 c02
 cases b with
 | true =>
  go_wp2
  refine bodyPost_ret (v := .tuple #[.agg #[.bool false, .string ⟨#[]⟩, .int .i64 0], .int .i64 11]) (by simp [results, Tryz.results101, go_sem, c00, c01, c02]) rfl ⟨rfl, ?_⟩
  exact ((H4.out.below.setCell (by simp) _).setCell (by simp) _).setCell (by simp) _
 | false =>
  have hz : (ofL z).toList.isEmpty = false := by rw [hE.out]; simpa using hok
  go_wp2
  refine bodyPost_ret (v := .tuple #[.agg #[.bool false, .string ⟨#[]⟩, .int .i64 0], .int .i64 11]) (by simp [results, Tryz.results101, go_sem, c00, c01, c02]) rfl ⟨rfl, ?_⟩
  exact ((H4.out.below.setCell (by simp) _).setCell (by simp) _).setCell (by simp) _
end Go.Proofs.YtapcpndplnkfjaaGreatDoor
