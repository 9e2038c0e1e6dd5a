/- Shelf, FieldA, FieldB, FieldC, Rng, FieldD, RegM, PRefx0, FieldE, LineA, LineB. -/
import Derived.Test.YtebgebgkieglhaaGreatDoorDM1
import Derived.Test.YtebgebgkieglhaaGreatDoorDM2
import Derived.Test.YtebgebgkieglhaaGreatDoorDM3
import Derived.Shelf.SlGeneric
import Derived.Shelf.Small.Wraps
import Derived.Shelf.Small.Strs
import Derived.Shelf.Strings.OnBuilder
import Derived.Shelf.Strings.Repeat
import Derived.Shelf.Strings.Cut
import Derived.Shelf.Strings.Split
import Derived.Shelf.Strings.SlTrimAscii
import Derived.Shelf.Strings.Prefix
import Derived.Shelf.Bytes.SlClone
import Derived.Shelf.Strconv.AtoiAll
import Derived.Shelf.SlCmpFuncs.BinarySearchFunc
import Derived.Shelf.Slices.Clone
import Derived.Shelf.SlicesE.Clone
import Derived.Shelf.Slices.Turned
import Derived.Shelf.Strconv.Itoa4
import Derived.Ground.NamesProg
import Derived.Ground.SlbCloneProg
import Derived.Ground.SlsgProg
import Derived.Ground.SlgnProg
import Derived.Ground.Names2Prog
import Derived.Test.YtebgebgkieglhaaGreatDoorProg
import Derived.Lib.SlBytesRow
import Derived.Laws.Bits64b
import Derived.Lib.Walk
import Derived.WalkKit
import Derived.RangeFuncNested
import Derived.RangeFuncCalls
import Derived.RangeFuncLeaves
import Derived.Below
import Derived.OwnWalk
import Derived.Maps.AppendAt
import Derived.Shelf.Strings.Search3
import Derived.WalkMore
import Derived.TacticsInMore
import Derived.LoopNIn
import Derived.LoopIn
import Derived.OwnWalkIn
import Derived.Deep.RegionHeld3
import Derived.Deep.Draws
import Derived.Deep.AppendLies
import Derived.Laws.BytesArg
import Derived.Laws.MakeOwn
import Derived.Laws.OwnMore
import Derived.Deep.OwnRows
import Derived.Tactics
import Derived.Lib.ConvBytes
import Derived.Laws.Slices
import Derived.KernelRfl
import Derived.RowKit3
import Derived.Deep.LoopGhost
import Derived.Deep.QuietTactic
import Derived.BigQuiet
import Derived.WideLaws
import Derived.Deep.DeepCutAuto
import Derived.Deep.CutBlock
import Derived.Laws.Rows
import Derived.Lib.AppendStr
import Derived.ArgAppend
import Derived.Laws.IdiomCopy
import Derived.OrdersHeld
import Derived.Laws.BitsLemmas
import Derived.RowKit
section
/-
  DERIVED: THE SHELF's CONTRACTS AT THIS DUMP, IN PLAIN WORDS (tools/lay-plain.mjs out of 'YtebgebgkieglhaaGreatDoorShelf.lean', which tools/lay-shelf.mjs wrote): THE SAME DECLARATIONS UNDER THE SAME NAMES: 'import', 'namespace', 'open', 'def', 'theorem' AND NOTHING ELSE: no command of the shelf's: FOR A HAND-IN. Each laying: the table of numbers ('.._ren') and one theorem, a field a fact of the dump's own or the kernel's comparison; each contract: ONE APPLICATION.
-/
namespace Go.Proofs
open Go.Shelf
def Tryz.hasPrefixL_ren : Go.Shelf.Ren := ⟨fun | 99 => 119 | 206 => 140 | n => n, fun | 9 => 9 | 4 => 4 | 3 => 3 | n => n, fun | n => n⟩
theorem Tryz.hasPrefixL : Go.Proofs.Lays.n99 Tryz.prog Tryz.hasPrefixL_ren := {
  mixed := by kernel_rfl
  f99 := Tryz.func119.trans (congrArg some (by kernel_rfl))
  f206 := Tryz.func140.trans (congrArg some (by kernel_rfl))
  t3 := Tryz.underlying3
  a3 := Tryz.isAgg3
  z3 := Tryz.sizeOf3
  v3 := Tryz.zeroValue3
  t4 := Tryz.underlying4
  a4 := Tryz.isAgg4
  z4 := Tryz.sizeOf4
  v4 := Tryz.zeroValue4
  t9 := Tryz.underlying9
  a9 := Tryz.isAgg9
  z9 := Tryz.sizeOf9
  v9 := Tryz.zeroValue9 }
def Tryz.hasSuffixL_ren : Go.Shelf.Ren := ⟨fun | 100 => 120 | 207 => 137 | n => n, fun | 9 => 9 | 4 => 4 | 3 => 3 | n => n, fun | n => n⟩
theorem Tryz.hasSuffixL : Go.Proofs.Lays.n100 Tryz.prog Tryz.hasSuffixL_ren := {
  mixed := by kernel_rfl
  f100 := Tryz.func120.trans (congrArg some (by kernel_rfl))
  f207 := Tryz.func137.trans (congrArg some (by kernel_rfl))
  t3 := Tryz.underlying3
  a3 := Tryz.isAgg3
  z3 := Tryz.sizeOf3
  v3 := Tryz.zeroValue3
  t4 := Tryz.underlying4
  a4 := Tryz.isAgg4
  z4 := Tryz.sizeOf4
  v4 := Tryz.zeroValue4
  t9 := Tryz.underlying9
  a9 := Tryz.isAgg9
  z9 := Tryz.sizeOf9
  v9 := Tryz.zeroValue9 }
def Tryz.trimSuffixL_ren : Go.Shelf.Ren := ⟨fun | 102 => 97 | 209 => 114 | 207 => 137 | n => n, fun | 9 => 9 | 4 => 4 | 3 => 3 | n => n, fun | n => n⟩
theorem Tryz.trimSuffixL : Go.Proofs.Lays.n102 Tryz.prog Tryz.trimSuffixL_ren := {
  mixed := by kernel_rfl
  f102 := Tryz.func97.trans (congrArg some (by kernel_rfl))
  f207 := Tryz.func137.trans (congrArg some (by kernel_rfl))
  f209 := Tryz.func114.trans (congrArg some (by kernel_rfl))
  t3 := Tryz.underlying3
  a3 := Tryz.isAgg3
  z3 := Tryz.sizeOf3
  v3 := Tryz.zeroValue3
  t4 := Tryz.underlying4
  a4 := Tryz.isAgg4
  z4 := Tryz.sizeOf4
  v4 := Tryz.zeroValue4
  t9 := Tryz.underlying9
  a9 := Tryz.isAgg9
  z9 := Tryz.sizeOf9
  v9 := Tryz.zeroValue9 }
def Tryz.indexByteL_ren : Go.Shelf.Ren := ⟨fun | 137 => 123 | 217 => 142 | 266 => 158 | n => n, fun | 9 => 9 | 5 => 5 | 3 => 3 | n => n, fun | n => n⟩
theorem Tryz.indexByteL : Go.Proofs.Lays.n137 Tryz.prog Tryz.indexByteL_ren := {
  mixed := by kernel_rfl
  f137 := Tryz.func123.trans (congrArg some (by kernel_rfl))
  f217 := Tryz.func142.trans (congrArg some (by kernel_rfl))
  f266 := Tryz.func158.trans (congrArg some (by kernel_rfl))
  t3 := Tryz.underlying3
  a3 := Tryz.isAgg3
  z3 := Tryz.sizeOf3
  v3 := Tryz.zeroValue3
  t5 := Tryz.underlying5
  a5 := Tryz.isAgg5
  z5 := Tryz.sizeOf5
  v5 := Tryz.zeroValue5
  t9 := Tryz.underlying9
  a9 := Tryz.isAgg9
  z9 := Tryz.sizeOf9
  v9 := Tryz.zeroValue9 }
def Tryz.toUpperL_ren : Go.Shelf.Ren := ⟨fun | 158 => 143 | 165 => 159 | 166 => 160 | 167 => 161 | 169 => 162 | 230 => 163 | 203 => 164 | 240 => 180 | 241 => 181 | 197 => 148 | 118 => 182 | 168 => 183 | 270 => 184 | 262 => 185 | 276 => 197 | 277 => 198 | 260 => 169 | 242 => 199 | 313 => 200 | 278 => 208 | 274 => 209 | 275 => 210 | n => n, fun | 9 => 9 | 4 => 4 | 3 => 3 | 5 => 5 | 72 => 221 | 0 => 0 | 76 => 208 | 75 => 207 | 107 => 226 | 70 => 219 | 20 => 20 | 37 => 22 | 127 => 236 | 21 => 21 | 105 => 213 | 164 => 262 | 162 => 268 | 203 => 266 | 119 => 251 | 46 => 150 | 139 => 254 | 138 => 253 | 51 => 246 | 160 => 277 | 208 => 284 | 206 => 282 | 80 => 224 | n => n, fun | 13 => 6 | 3 => 2 | 4 => 3 | n => n⟩
theorem Tryz.toUpperL : Go.Proofs.Lays.n158 Tryz.prog Tryz.toUpperL_ren := {
  mixed := by kernel_rfl
  f118 := Tryz.func182.trans (congrArg some (by kernel_rfl))
  f158 := Tryz.func143.trans (congrArg some (by kernel_rfl))
  f165 := Tryz.func159.trans (congrArg some (by kernel_rfl))
  f166 := Tryz.func160.trans (congrArg some (by kernel_rfl))
  f167 := Tryz.func161.trans (congrArg some (by kernel_rfl))
  f168 := Tryz.func183.trans (congrArg some (by kernel_rfl))
  f169 := Tryz.func162.trans (congrArg some (by kernel_rfl))
  f197 := Tryz.func148.trans (congrArg some (by kernel_rfl))
  f203 := Tryz.func164.trans (congrArg some (by kernel_rfl))
  f230 := Tryz.func163.trans (congrArg some (by kernel_rfl))
  f240 := Tryz.func180.trans (congrArg some (by kernel_rfl))
  f241 := Tryz.func181.trans (congrArg some (by kernel_rfl))
  f242 := Tryz.func199.trans (congrArg some (by kernel_rfl))
  f260 := Tryz.func169.trans (congrArg some (by kernel_rfl))
  f262 := Tryz.func185.trans (congrArg some (by kernel_rfl))
  f270 := Tryz.func184.trans (congrArg some (by kernel_rfl))
  f274 := Tryz.func209.trans (congrArg some (by kernel_rfl))
  f275 := Tryz.func210.trans (congrArg some (by kernel_rfl))
  f276 := Tryz.func197.trans (congrArg some (by kernel_rfl))
  f277 := Tryz.func198.trans (congrArg some (by kernel_rfl))
  f278 := Tryz.func208.trans (congrArg some (by kernel_rfl))
  f313 := Tryz.func200.trans (congrArg some (by kernel_rfl))
  t0 := Tryz.underlying0
  a0 := Tryz.isAgg0
  z0 := Tryz.sizeOf0
  v0 := Tryz.zeroValue0
  t3 := Tryz.underlying3
  a3 := Tryz.isAgg3
  z3 := Tryz.sizeOf3
  v3 := Tryz.zeroValue3
  t4 := Tryz.underlying4
  a4 := Tryz.isAgg4
  z4 := Tryz.sizeOf4
  v4 := Tryz.zeroValue4
  t5 := Tryz.underlying5
  a5 := Tryz.isAgg5
  z5 := Tryz.sizeOf5
  v5 := Tryz.zeroValue5
  t9 := Tryz.underlying9
  a9 := Tryz.isAgg9
  z9 := Tryz.sizeOf9
  v9 := Tryz.zeroValue9
  t20 := Tryz.underlying20
  a20 := Tryz.isAgg20
  z20 := Tryz.sizeOf20
  v20 := Tryz.zeroValue20
  t21 := Tryz.underlying21
  a21 := Tryz.isAgg21
  z21 := Tryz.sizeOf21
  v21 := Tryz.zeroValue21
  t37 := Tryz.underlying22
  a37 := Tryz.isAgg22
  z37 := Tryz.sizeOf22
  v37 := Tryz.zeroValue22
  t46 := Tryz.underlying150
  a46 := Tryz.isAgg150
  z46 := Tryz.sizeOf150
  v46 := Tryz.zeroValue150
  t51 := Tryz.underlying246
  a51 := Tryz.isAgg246
  z51 := Tryz.sizeOf246
  v51 := Tryz.zeroValue246
  t70 := Tryz.underlying219
  a70 := Tryz.isAgg219
  z70 := Tryz.sizeOf219
  v70 := Tryz.zeroValue219
  t72 := Tryz.underlying221
  a72 := Tryz.isAgg221
  z72 := Tryz.sizeOf221
  v72 := Tryz.zeroValue221
  t75 := Tryz.underlying207
  a75 := Tryz.isAgg207
  z75 := Tryz.sizeOf207
  v75 := Tryz.zeroValue207
  t76 := Tryz.underlying208
  a76 := Tryz.isAgg208
  z76 := Tryz.sizeOf208
  v76 := Tryz.zeroValue208
  t105 := Tryz.underlying213
  a105 := Tryz.isAgg213
  z105 := Tryz.sizeOf213
  v105 := Tryz.zeroValue213
  t107 := Tryz.underlying226
  a107 := Tryz.isAgg226
  z107 := Tryz.sizeOf226
  v107 := Tryz.zeroValue226
  t119 := Tryz.underlying251
  a119 := Tryz.isAgg251
  z119 := Tryz.sizeOf251
  t127 := Tryz.underlying236
  a127 := Tryz.isAgg236
  z127 := Tryz.sizeOf236
  v127 := Tryz.zeroValue236
  t138 := Tryz.underlying253
  a138 := Tryz.isAgg253
  z138 := Tryz.sizeOf253
  v138 := Tryz.zeroValue253
  t139 := Tryz.underlying254
  a139 := Tryz.isAgg254
  z139 := Tryz.sizeOf254
  v139 := Tryz.zeroValue254
  t160 := Tryz.underlying277
  a160 := Tryz.isAgg277
  z160 := Tryz.sizeOf277
  v160 := Tryz.zeroValue277
  t162 := Tryz.underlying268
  a162 := Tryz.isAgg268
  z162 := Tryz.sizeOf268
  v162 := Tryz.zeroValue268
  t164 := Tryz.underlying262
  a164 := Tryz.isAgg262
  z164 := Tryz.sizeOf262
  v164 := Tryz.zeroValue262
  t203 := Tryz.underlying266
  a203 := Tryz.isAgg266
  z203 := Tryz.sizeOf266
  v203 := Tryz.zeroValue266
  t206 := Tryz.underlying282
  a206 := Tryz.isAgg282
  z206 := Tryz.sizeOf282
  v206 := Tryz.zeroValue282
  t208 := Tryz.underlying284
  a208 := Tryz.isAgg284
  z208 := Tryz.sizeOf284
  v208 := Tryz.zeroValue284
  g3 := by kernel_rfl
  g4 := by kernel_rfl
  g13 := by kernel_rfl }
def Tryz.repeatL_ren : Go.Shelf.Ren := ⟨fun | 105 => 145 | 212 => 166 | 99 => 119 | 165 => 159 | 166 => 160 | 170 => 167 | 169 => 162 | 263 => 190 | 264 => 191 | 206 => 140 | 240 => 180 | 241 => 181 | 276 => 197 | 277 => 198 | n => n, fun | 9 => 9 | 3 => 3 | 4 => 4 | 20 => 20 | 0 => 0 | 46 => 150 | 109 => 227 | 5 => 5 | 72 => 221 | 76 => 208 | 51 => 246 | 146 => 247 | 53 => 241 | 148 => 249 | 70 => 219 | 37 => 22 | 75 => 207 | 127 => 236 | 164 => 262 | 80 => 224 | n => n, fun | n => n⟩
theorem Tryz.repeatL : Go.Proofs.Lays.n105 Tryz.prog Tryz.repeatL_ren := {
  mixed := by kernel_rfl
  f99 := Tryz.func119.trans (congrArg some (by kernel_rfl))
  f105 := Tryz.func145.trans (congrArg some (by kernel_rfl))
  f165 := Tryz.func159.trans (congrArg some (by kernel_rfl))
  f166 := Tryz.func160.trans (congrArg some (by kernel_rfl))
  f169 := Tryz.func162.trans (congrArg some (by kernel_rfl))
  f170 := Tryz.func167.trans (congrArg some (by kernel_rfl))
  f206 := Tryz.func140.trans (congrArg some (by kernel_rfl))
  f212 := Tryz.func166.trans (congrArg some (by kernel_rfl))
  f240 := Tryz.func180.trans (congrArg some (by kernel_rfl))
  f241 := Tryz.func181.trans (congrArg some (by kernel_rfl))
  f263 := Tryz.func190.trans (congrArg some (by kernel_rfl))
  f264 := Tryz.func191.trans (congrArg some (by kernel_rfl))
  f276 := Tryz.func197.trans (congrArg some (by kernel_rfl))
  f277 := Tryz.func198.trans (congrArg some (by kernel_rfl))
  t0 := Tryz.underlying0
  a0 := Tryz.isAgg0
  z0 := Tryz.sizeOf0
  v0 := Tryz.zeroValue0
  t3 := Tryz.underlying3
  a3 := Tryz.isAgg3
  z3 := Tryz.sizeOf3
  v3 := Tryz.zeroValue3
  t4 := Tryz.underlying4
  a4 := Tryz.isAgg4
  z4 := Tryz.sizeOf4
  v4 := Tryz.zeroValue4
  t5 := Tryz.underlying5
  a5 := Tryz.isAgg5
  z5 := Tryz.sizeOf5
  v5 := Tryz.zeroValue5
  t9 := Tryz.underlying9
  a9 := Tryz.isAgg9
  z9 := Tryz.sizeOf9
  v9 := Tryz.zeroValue9
  t20 := Tryz.underlying20
  a20 := Tryz.isAgg20
  z20 := Tryz.sizeOf20
  v20 := Tryz.zeroValue20
  t37 := Tryz.underlying22
  a37 := Tryz.isAgg22
  z37 := Tryz.sizeOf22
  v37 := Tryz.zeroValue22
  t46 := Tryz.underlying150
  a46 := Tryz.isAgg150
  z46 := Tryz.sizeOf150
  v46 := Tryz.zeroValue150
  t51 := Tryz.underlying246
  a51 := Tryz.isAgg246
  z51 := Tryz.sizeOf246
  v51 := Tryz.zeroValue246
  t53 := Tryz.underlying241
  a53 := Tryz.isAgg241
  z53 := Tryz.sizeOf241
  v53 := Tryz.zeroValue241
  t70 := Tryz.underlying219
  a70 := Tryz.isAgg219
  z70 := Tryz.sizeOf219
  v70 := Tryz.zeroValue219
  t72 := Tryz.underlying221
  a72 := Tryz.isAgg221
  z72 := Tryz.sizeOf221
  v72 := Tryz.zeroValue221
  t75 := Tryz.underlying207
  a75 := Tryz.isAgg207
  z75 := Tryz.sizeOf207
  v75 := Tryz.zeroValue207
  t76 := Tryz.underlying208
  a76 := Tryz.isAgg208
  z76 := Tryz.sizeOf208
  v76 := Tryz.zeroValue208
  t109 := Tryz.underlying227
  a109 := Tryz.isAgg227
  z109 := Tryz.sizeOf227
  v109 := Tryz.zeroValue227
  t127 := Tryz.underlying236
  a127 := Tryz.isAgg236
  z127 := Tryz.sizeOf236
  v127 := Tryz.zeroValue236
  t146 := Tryz.underlying247
  a146 := Tryz.isAgg247
  z146 := Tryz.sizeOf247
  v146 := Tryz.zeroValue247
  t148 := Tryz.underlying249
  a148 := Tryz.isAgg249
  z148 := Tryz.sizeOf249
  v148 := Tryz.zeroValue249
  t164 := Tryz.underlying262
  a164 := Tryz.isAgg262
  z164 := Tryz.sizeOf262
  v164 := Tryz.zeroValue262 }
def Tryz.indexL_ren : Go.Shelf.Ren := ⟨fun | 143 => 128 | 219 => 150 | 217 => 142 | 225 => 170 | 224 => 171 | 267 => 172 | 266 => 158 | 314 => 192 | n => n, fun | 9 => 9 | 3 => 3 | 4 => 4 | 5 => 5 | 46 => 150 | 146 => 247 | 51 => 246 | n => n, fun | 1 => 1 | n => n⟩
theorem Tryz.indexL : Go.Proofs.Lays.n143 Tryz.prog Tryz.indexL_ren := {
  mixed := by kernel_rfl
  f143 := Tryz.func128.trans (congrArg some (by kernel_rfl))
  f217 := Tryz.func142.trans (congrArg some (by kernel_rfl))
  f219 := Tryz.func150.trans (congrArg some (by kernel_rfl))
  f224 := Tryz.func171.trans (congrArg some (by kernel_rfl))
  f225 := Tryz.func170.trans (congrArg some (by kernel_rfl))
  f266 := Tryz.func158.trans (congrArg some (by kernel_rfl))
  f267 := Tryz.func172.trans (congrArg some (by kernel_rfl))
  f314 := Tryz.func192.trans (congrArg some (by kernel_rfl))
  t3 := Tryz.underlying3
  a3 := Tryz.isAgg3
  z3 := Tryz.sizeOf3
  v3 := Tryz.zeroValue3
  t4 := Tryz.underlying4
  a4 := Tryz.isAgg4
  z4 := Tryz.sizeOf4
  v4 := Tryz.zeroValue4
  t5 := Tryz.underlying5
  a5 := Tryz.isAgg5
  z5 := Tryz.sizeOf5
  v5 := Tryz.zeroValue5
  t9 := Tryz.underlying9
  a9 := Tryz.isAgg9
  z9 := Tryz.sizeOf9
  v9 := Tryz.zeroValue9
  t46 := Tryz.underlying150
  a46 := Tryz.isAgg150
  z46 := Tryz.sizeOf150
  v46 := Tryz.zeroValue150
  t51 := Tryz.underlying246
  a51 := Tryz.isAgg246
  z51 := Tryz.sizeOf246
  v51 := Tryz.zeroValue246
  t146 := Tryz.underlying247
  a146 := Tryz.isAgg247
  z146 := Tryz.sizeOf247
  v146 := Tryz.zeroValue247
  g1 := by kernel_rfl }
def Tryz.cutL_ren : Go.Shelf.Ren := ⟨fun | 145 => 112 | 220 => 129 | 219 => 150 | 217 => 142 | 225 => 170 | 224 => 171 | 267 => 172 | 266 => 158 | 314 => 192 | n => n, fun | 9 => 9 | 4 => 4 | 59 => 186 | 3 => 3 | 5 => 5 | 46 => 150 | 146 => 247 | 51 => 246 | n => n, fun | 1 => 1 | n => n⟩
theorem Tryz.cutL : Go.Proofs.Lays.n145 Tryz.prog Tryz.cutL_ren := {
  mixed := by kernel_rfl
  f145 := Tryz.func112.trans (congrArg some (by kernel_rfl))
  f217 := Tryz.func142.trans (congrArg some (by kernel_rfl))
  f219 := Tryz.func150.trans (congrArg some (by kernel_rfl))
  f220 := Tryz.func129.trans (congrArg some (by kernel_rfl))
  f224 := Tryz.func171.trans (congrArg some (by kernel_rfl))
  f225 := Tryz.func170.trans (congrArg some (by kernel_rfl))
  f266 := Tryz.func158.trans (congrArg some (by kernel_rfl))
  f267 := Tryz.func172.trans (congrArg some (by kernel_rfl))
  f314 := Tryz.func192.trans (congrArg some (by kernel_rfl))
  t3 := Tryz.underlying3
  a3 := Tryz.isAgg3
  z3 := Tryz.sizeOf3
  v3 := Tryz.zeroValue3
  t4 := Tryz.underlying4
  a4 := Tryz.isAgg4
  z4 := Tryz.sizeOf4
  v4 := Tryz.zeroValue4
  t5 := Tryz.underlying5
  a5 := Tryz.isAgg5
  z5 := Tryz.sizeOf5
  v5 := Tryz.zeroValue5
  t9 := Tryz.underlying9
  a9 := Tryz.isAgg9
  z9 := Tryz.sizeOf9
  v9 := Tryz.zeroValue9
  t46 := Tryz.underlying150
  a46 := Tryz.isAgg150
  z46 := Tryz.sizeOf150
  v46 := Tryz.zeroValue150
  t51 := Tryz.underlying246
  a51 := Tryz.isAgg246
  z51 := Tryz.sizeOf246
  v51 := Tryz.zeroValue246
  t59 := Tryz.underlying186
  a59 := Tryz.isAgg186
  z59 := Tryz.sizeOf186
  v59 := Tryz.zeroValue186
  t146 := Tryz.underlying247
  a146 := Tryz.isAgg247
  z146 := Tryz.sizeOf247
  v146 := Tryz.zeroValue247
  g1 := by kernel_rfl }
def Tryz.splitL_ren : Go.Shelf.Ren := ⟨fun | 146 => 93 | 221 => 111 | 268 => 126 | 138 => 127 | 143 => 128 | 195 => 147 | 197 => 148 | 218 => 149 | 219 => 150 | 260 => 169 | 217 => 142 | 225 => 170 | 224 => 171 | 267 => 172 | 266 => 158 | 314 => 192 | n => n, fun | 9 => 9 | 31 => 98 | 3 => 3 | 4 => 4 | 0 => 0 | 105 => 213 | 21 => 21 | 5 => 5 | 46 => 150 | 119 => 251 | 139 => 254 | 138 => 253 | 146 => 247 | 51 => 246 | n => n, fun | 1 => 1 | 3 => 2 | 4 => 3 | n => n⟩
theorem Tryz.splitL : Go.Proofs.Lays.n146 Tryz.prog Tryz.splitL_ren := {
  mixed := by kernel_rfl
  f138 := Tryz.func127.trans (congrArg some (by kernel_rfl))
  f143 := Tryz.func128.trans (congrArg some (by kernel_rfl))
  f146 := Tryz.func93.trans (congrArg some (by kernel_rfl))
  f195 := Tryz.func147.trans (congrArg some (by kernel_rfl))
  f197 := Tryz.func148.trans (congrArg some (by kernel_rfl))
  f217 := Tryz.func142.trans (congrArg some (by kernel_rfl))
  f218 := Tryz.func149.trans (congrArg some (by kernel_rfl))
  f219 := Tryz.func150.trans (congrArg some (by kernel_rfl))
  f221 := Tryz.func111.trans (congrArg some (by kernel_rfl))
  f224 := Tryz.func171.trans (congrArg some (by kernel_rfl))
  f225 := Tryz.func170.trans (congrArg some (by kernel_rfl))
  f260 := Tryz.func169.trans (congrArg some (by kernel_rfl))
  f266 := Tryz.func158.trans (congrArg some (by kernel_rfl))
  f267 := Tryz.func172.trans (congrArg some (by kernel_rfl))
  f268 := Tryz.func126.trans (congrArg some (by kernel_rfl))
  f314 := Tryz.func192.trans (congrArg some (by kernel_rfl))
  t0 := Tryz.underlying0
  a0 := Tryz.isAgg0
  z0 := Tryz.sizeOf0
  v0 := Tryz.zeroValue0
  t3 := Tryz.underlying3
  a3 := Tryz.isAgg3
  z3 := Tryz.sizeOf3
  v3 := Tryz.zeroValue3
  t4 := Tryz.underlying4
  a4 := Tryz.isAgg4
  z4 := Tryz.sizeOf4
  v4 := Tryz.zeroValue4
  t5 := Tryz.underlying5
  a5 := Tryz.isAgg5
  z5 := Tryz.sizeOf5
  v5 := Tryz.zeroValue5
  t9 := Tryz.underlying9
  a9 := Tryz.isAgg9
  z9 := Tryz.sizeOf9
  v9 := Tryz.zeroValue9
  t21 := Tryz.underlying21
  a21 := Tryz.isAgg21
  z21 := Tryz.sizeOf21
  v21 := Tryz.zeroValue21
  t31 := Tryz.underlying98
  a31 := Tryz.isAgg98
  z31 := Tryz.sizeOf98
  v31 := Tryz.zeroValue98
  t46 := Tryz.underlying150
  a46 := Tryz.isAgg150
  z46 := Tryz.sizeOf150
  v46 := Tryz.zeroValue150
  t51 := Tryz.underlying246
  a51 := Tryz.isAgg246
  z51 := Tryz.sizeOf246
  v51 := Tryz.zeroValue246
  t105 := Tryz.underlying213
  a105 := Tryz.isAgg213
  z105 := Tryz.sizeOf213
  v105 := Tryz.zeroValue213
  t119 := Tryz.underlying251
  a119 := Tryz.isAgg251
  z119 := Tryz.sizeOf251
  t138 := Tryz.underlying253
  a138 := Tryz.isAgg253
  z138 := Tryz.sizeOf253
  v138 := Tryz.zeroValue253
  t139 := Tryz.underlying254
  a139 := Tryz.isAgg254
  z139 := Tryz.sizeOf254
  v139 := Tryz.zeroValue254
  t146 := Tryz.underlying247
  a146 := Tryz.isAgg247
  z146 := Tryz.sizeOf247
  v146 := Tryz.zeroValue247
  g1 := by kernel_rfl
  g3 := by kernel_rfl
  g4 := by kernel_rfl }
def Tryz.trimL_ren : Go.Shelf.Ren := ⟨fun | 160 => 113 | 232 => 131 | 231 => 130 | 227 => 132 | 234 => 134 | 233 => 133 | 236 => 136 | 235 => 135 | 228 => 151 | 271 => 153 | 151 => 152 | 197 => 148 | 120 => 174 | 152 => 173 | 260 => 169 | 137 => 123 | 119 => 193 | 224 => 171 | 225 => 170 | 217 => 142 | 266 => 158 | n => n, fun | 9 => 9 | 4 => 4 | 3 => 3 | 5 => 5 | 117 => 202 | 116 => 201 | 0 => 0 | 124 => 205 | 21 => 21 | 105 => 213 | 46 => 150 | 119 => 251 | 139 => 254 | 138 => 253 | n => n, fun | 3 => 2 | 4 => 3 | n => n⟩
theorem Tryz.trimL : Go.Proofs.Lays.n160 Tryz.prog Tryz.trimL_ren := {
  mixed := by kernel_rfl
  f119 := Tryz.func193.trans (congrArg some (by kernel_rfl))
  f120 := Tryz.func174.trans (congrArg some (by kernel_rfl))
  f137 := Tryz.func123.trans (congrArg some (by kernel_rfl))
  f151 := Tryz.func152.trans (congrArg some (by kernel_rfl))
  f152 := Tryz.func173.trans (congrArg some (by kernel_rfl))
  f160 := Tryz.func113.trans (congrArg some (by kernel_rfl))
  f197 := Tryz.func148.trans (congrArg some (by kernel_rfl))
  f217 := Tryz.func142.trans (congrArg some (by kernel_rfl))
  f224 := Tryz.func171.trans (congrArg some (by kernel_rfl))
  f225 := Tryz.func170.trans (congrArg some (by kernel_rfl))
  f227 := Tryz.func132.trans (congrArg some (by kernel_rfl))
  f228 := Tryz.func151.trans (congrArg some (by kernel_rfl))
  f231 := Tryz.func130.trans (congrArg some (by kernel_rfl))
  f232 := Tryz.func131.trans (congrArg some (by kernel_rfl))
  f233 := Tryz.func133.trans (congrArg some (by kernel_rfl))
  f234 := Tryz.func134.trans (congrArg some (by kernel_rfl))
  f235 := Tryz.func135.trans (congrArg some (by kernel_rfl))
  f236 := Tryz.func136.trans (congrArg some (by kernel_rfl))
  f260 := Tryz.func169.trans (congrArg some (by kernel_rfl))
  f266 := Tryz.func158.trans (congrArg some (by kernel_rfl))
  f271 := Tryz.func153.trans (congrArg some (by kernel_rfl))
  t0 := Tryz.underlying0
  a0 := Tryz.isAgg0
  z0 := Tryz.sizeOf0
  v0 := Tryz.zeroValue0
  t3 := Tryz.underlying3
  a3 := Tryz.isAgg3
  z3 := Tryz.sizeOf3
  v3 := Tryz.zeroValue3
  t4 := Tryz.underlying4
  a4 := Tryz.isAgg4
  z4 := Tryz.sizeOf4
  v4 := Tryz.zeroValue4
  t5 := Tryz.underlying5
  a5 := Tryz.isAgg5
  z5 := Tryz.sizeOf5
  v5 := Tryz.zeroValue5
  t9 := Tryz.underlying9
  a9 := Tryz.isAgg9
  z9 := Tryz.sizeOf9
  v9 := Tryz.zeroValue9
  t21 := Tryz.underlying21
  a21 := Tryz.isAgg21
  z21 := Tryz.sizeOf21
  v21 := Tryz.zeroValue21
  t46 := Tryz.underlying150
  a46 := Tryz.isAgg150
  z46 := Tryz.sizeOf150
  v46 := Tryz.zeroValue150
  t105 := Tryz.underlying213
  a105 := Tryz.isAgg213
  z105 := Tryz.sizeOf213
  v105 := Tryz.zeroValue213
  t116 := Tryz.underlying201
  a116 := Tryz.isAgg201
  z116 := Tryz.sizeOf201
  t117 := Tryz.underlying202
  a117 := Tryz.isAgg202
  z117 := Tryz.sizeOf202
  v117 := Tryz.zeroValue202
  t119 := Tryz.underlying251
  a119 := Tryz.isAgg251
  z119 := Tryz.sizeOf251
  t124 := Tryz.underlying205
  a124 := Tryz.isAgg205
  z124 := Tryz.sizeOf205
  v124 := Tryz.zeroValue205
  t138 := Tryz.underlying253
  a138 := Tryz.isAgg253
  z138 := Tryz.sizeOf253
  v138 := Tryz.zeroValue253
  t139 := Tryz.underlying254
  a139 := Tryz.isAgg254
  z139 := Tryz.sizeOf254
  v139 := Tryz.zeroValue254
  g3 := by kernel_rfl
  g4 := by kernel_rfl }
def Tryz.cloneBL_ren : Go.Shelf.Ren := ⟨fun | 4 => 94 | n => n, fun | 22 => 22 | 4 => 4 | 5 => 5 | n => n, fun | n => n⟩
theorem Tryz.cloneBL : Go.Proofs.SlLaysK.n4 Tryz.prog Tryz.cloneBL_ren := {
  mixed := by kernel_rfl
  f4 := Tryz.func94.trans (congrArg some (by kernel_rfl))
  t4 := Tryz.underlying4
  a4 := Tryz.isAgg4
  z4 := Tryz.sizeOf4
  v4 := Tryz.zeroValue4
  t22 := Tryz.underlying22
  a22 := Tryz.isAgg22
  z22 := Tryz.sizeOf22
  v22 := Tryz.zeroValue22
  t5 := Tryz.underlying5
  i5 := by kernel_rfl }
def Tryz.atoiL_ren : Go.Shelf.Ren := ⟨fun | 172 => 138 | 244 => 154 | 245 => 155 | 247 => 175 | 279 => 176 | 280 => 177 | 281 => 178 | 282 => 179 | 287 => 194 | 316 => 195 | 171 => 139 | 205 => 196 | 321 => 206 | 322 => 207 | 243 => 156 | 246 => 165 | 283 => 186 | 284 => 187 | 285 => 188 | 286 => 189 | 129 => 202 | 317 => 201 | 318 => 203 | 319 => 204 | 320 => 205 | 337 => 211 | 338 => 212 | n => n, fun | 9 => 9 | 3 => 3 | 75 => 207 | 76 => 208 | 4 => 4 | 5 => 5 | 167 => 230 | 37 => 22 | 0 => 0 | 85 => 231 | 2 => 2 | 168 => 233 | 53 => 241 | 175 => 257 | 46 => 150 | 210 => 260 | 127 => 236 | 145 => 276 | 143 => 274 | 21 => 21 | 171 => 240 | 173 => 244 | 212 => 270 | 51 => 246 | 20 => 20 | 213 => 271 | 232 => 285 | 233 => 286 | 80 => 224 | n => n, fun | 15 => 4 | 16 => 5 | 17 => 7 | 18 => 8 | 19 => 9 | n => n⟩
theorem Tryz.atoiL : Go.Proofs.LaysC.n172 Tryz.prog Tryz.atoiL_ren := {
  mixed := by kernel_rfl
  f129 := Tryz.func202.trans (congrArg some (by kernel_rfl))
  f171 := Tryz.func139.trans (congrArg some (by kernel_rfl))
  f172 := Tryz.func138.trans (congrArg some (by kernel_rfl))
  f205 := Tryz.func196.trans (congrArg some (by kernel_rfl))
  f243 := Tryz.func156.trans (congrArg some (by kernel_rfl))
  f244 := Tryz.func154.trans (congrArg some (by kernel_rfl))
  f245 := Tryz.func155.trans (congrArg some (by kernel_rfl))
  f246 := Tryz.func165.trans (congrArg some (by kernel_rfl))
  f247 := Tryz.func175.trans (congrArg some (by kernel_rfl))
  f279 := Tryz.func176.trans (congrArg some (by kernel_rfl))
  f280 := Tryz.func177.trans (congrArg some (by kernel_rfl))
  f281 := Tryz.func178.trans (congrArg some (by kernel_rfl))
  f282 := Tryz.func179.trans (congrArg some (by kernel_rfl))
  f283 := Tryz.func186.trans (congrArg some (by kernel_rfl))
  f284 := Tryz.func187.trans (congrArg some (by kernel_rfl))
  f285 := Tryz.func188.trans (congrArg some (by kernel_rfl))
  f286 := Tryz.func189.trans (congrArg some (by kernel_rfl))
  f287 := Tryz.func194.trans (congrArg some (by kernel_rfl))
  f316 := Tryz.func195.trans (congrArg some (by kernel_rfl))
  f317 := Tryz.func201.trans (congrArg some (by kernel_rfl))
  f318 := Tryz.func203.trans (congrArg some (by kernel_rfl))
  f319 := Tryz.func204.trans (congrArg some (by kernel_rfl))
  f320 := Tryz.func205.trans (congrArg some (by kernel_rfl))
  f321 := Tryz.func206.trans (congrArg some (by kernel_rfl))
  f322 := Tryz.func207.trans (congrArg some (by kernel_rfl))
  f337 := Tryz.func211.trans (congrArg some (by kernel_rfl))
  f338 := Tryz.func212.trans (congrArg some (by kernel_rfl))
  t0 := Tryz.underlying0
  a0 := Tryz.isAgg0
  z0 := Tryz.sizeOf0
  v0 := Tryz.zeroValue0
  t2 := Tryz.underlying2
  a2 := Tryz.isAgg2
  z2 := Tryz.sizeOf2
  v2 := Tryz.zeroValue2
  t3 := Tryz.underlying3
  a3 := Tryz.isAgg3
  z3 := Tryz.sizeOf3
  v3 := Tryz.zeroValue3
  t4 := Tryz.underlying4
  a4 := Tryz.isAgg4
  z4 := Tryz.sizeOf4
  v4 := Tryz.zeroValue4
  t5 := Tryz.underlying5
  a5 := Tryz.isAgg5
  z5 := Tryz.sizeOf5
  v5 := Tryz.zeroValue5
  t9 := Tryz.underlying9
  a9 := Tryz.isAgg9
  z9 := Tryz.sizeOf9
  v9 := Tryz.zeroValue9
  t20 := Tryz.underlying20
  a20 := Tryz.isAgg20
  z20 := Tryz.sizeOf20
  v20 := Tryz.zeroValue20
  t21 := Tryz.underlying21
  a21 := Tryz.isAgg21
  z21 := Tryz.sizeOf21
  v21 := Tryz.zeroValue21
  t37 := Tryz.underlying22
  a37 := Tryz.isAgg22
  z37 := Tryz.sizeOf22
  v37 := Tryz.zeroValue22
  t46 := Tryz.underlying150
  a46 := Tryz.isAgg150
  z46 := Tryz.sizeOf150
  v46 := Tryz.zeroValue150
  t51 := Tryz.underlying246
  a51 := Tryz.isAgg246
  z51 := Tryz.sizeOf246
  v51 := Tryz.zeroValue246
  t53 := Tryz.underlying241
  a53 := Tryz.isAgg241
  z53 := Tryz.sizeOf241
  v53 := Tryz.zeroValue241
  t75 := Tryz.underlying207
  a75 := Tryz.isAgg207
  z75 := Tryz.sizeOf207
  v75 := Tryz.zeroValue207
  t76 := Tryz.underlying208
  a76 := Tryz.isAgg208
  z76 := Tryz.sizeOf208
  v76 := Tryz.zeroValue208
  t85 := Tryz.underlying231
  a85 := Tryz.isAgg231
  z85 := Tryz.sizeOf231
  v85 := Tryz.zeroValue231
  t127 := Tryz.underlying236
  a127 := Tryz.isAgg236
  z127 := Tryz.sizeOf236
  v127 := Tryz.zeroValue236
  t143 := Tryz.underlying274
  a143 := Tryz.isAgg274
  z143 := Tryz.sizeOf274
  v143 := Tryz.zeroValue274
  t145 := Tryz.underlying276
  a145 := Tryz.isAgg276
  z145 := Tryz.sizeOf276
  v145 := Tryz.zeroValue276
  t167 := Tryz.underlying230
  a167 := Tryz.isAgg230
  z167 := Tryz.sizeOf230
  v167 := Tryz.zeroValue230
  t168 := Tryz.underlying233
  a168 := Tryz.isAgg233
  z168 := Tryz.sizeOf233
  v168 := Tryz.zeroValue233
  t171 := Tryz.underlying240
  a171 := Tryz.isAgg240
  z171 := Tryz.sizeOf240
  v171 := Tryz.zeroValue240
  t173 := Tryz.underlying244
  a173 := Tryz.isAgg244
  z173 := Tryz.sizeOf244
  v173 := Tryz.zeroValue244
  t175 := Tryz.underlying257
  a175 := Tryz.isAgg257
  z175 := Tryz.sizeOf257
  v175 := Tryz.zeroValue257
  t210 := Tryz.underlying260
  a210 := Tryz.isAgg260
  z210 := Tryz.sizeOf260
  v210 := Tryz.zeroValue260
  t212 := Tryz.underlying270
  a212 := Tryz.isAgg270
  z212 := Tryz.sizeOf270
  v212 := Tryz.zeroValue270
  t213 := Tryz.underlying271
  a213 := Tryz.isAgg271
  z213 := Tryz.sizeOf271
  t232 := Tryz.underlying285
  a232 := Tryz.isAgg285
  z232 := Tryz.sizeOf285
  v232 := Tryz.zeroValue285
  t233 := Tryz.underlying286
  a233 := Tryz.isAgg286
  z233 := Tryz.sizeOf286
  v233 := Tryz.zeroValue286
  g15 := by kernel_rfl
  g16 := by kernel_rfl
  g17 := by kernel_rfl
  g18 := by kernel_rfl
  g19 := by kernel_rfl
  t80 := Tryz.underlying224
  a80 := Tryz.isAgg224
  z80 := Tryz.sizeOf224
  v80 := Tryz.zeroValue224
  i0 := by kernel_rfl
  i2 := by kernel_rfl
  i3 := by kernel_rfl
  i4 := by kernel_rfl
  i5 := by kernel_rfl
  i9 := by kernel_rfl
  i20 := by kernel_rfl
  i21 := by kernel_rfl
  i37 := by kernel_rfl
  i46 := by kernel_rfl
  i51 := by kernel_rfl
  i53 := by kernel_rfl
  i75 := by kernel_rfl
  i76 := by kernel_rfl
  i80 := by kernel_rfl
  i85 := by kernel_rfl
  i127 := by kernel_rfl
  i143 := by kernel_rfl
  i145 := by kernel_rfl
  i167 := by kernel_rfl
  i168 := by kernel_rfl
  i171 := by kernel_rfl
  i173 := by kernel_rfl
  i175 := by kernel_rfl
  i210 := by kernel_rfl
  i212 := by kernel_rfl
  i232 := by kernel_rfl
  i233 := by kernel_rfl
  m15 := by kernel_rfl
  m16 := by kernel_rfl
  m17 := by kernel_rfl
  m18 := by kernel_rfl
  m19 := by kernel_rfl
  c0 := by kernel_rfl
  c2 := by kernel_rfl
  c3 := by kernel_rfl
  c4 := by kernel_rfl
  c5 := by kernel_rfl
  c9 := by kernel_rfl
  c20 := by kernel_rfl
  c21 := by kernel_rfl
  c37 := by kernel_rfl
  c46 := by kernel_rfl
  c51 := by kernel_rfl
  c53 := by kernel_rfl
  c75 := by kernel_rfl
  c76 := by kernel_rfl
  c80 := by kernel_rfl
  c85 := by kernel_rfl
  c127 := by kernel_rfl
  c143 := by kernel_rfl
  c145 := by kernel_rfl
  c167 := by kernel_rfl
  c168 := by kernel_rfl
  c171 := by kernel_rfl
  c173 := by kernel_rfl
  c175 := by kernel_rfl
  c210 := by kernel_rfl
  c212 := by kernel_rfl
  c213 := by kernel_rfl
  c232 := by kernel_rfl
  c233 := by kernel_rfl }
def Tryz.itoaL_ren : Go.Shelf.Ren := ⟨fun | 171 => 139 | 243 => 156 | 246 => 165 | 283 => 186 | 284 => 187 | 285 => 188 | 286 => 189 | 129 => 202 | 317 => 201 | 318 => 203 | 319 => 204 | 320 => 205 | 337 => 211 | 338 => 212 | n => n, fun | 3 => 3 | 9 => 9 | 2 => 2 | 4 => 4 | 171 => 240 | 0 => 0 | 53 => 241 | 37 => 22 | 5 => 5 | 173 => 244 | 212 => 270 | 51 => 246 | 20 => 20 | 213 => 271 | 46 => 150 | 232 => 285 | 233 => 286 | n => n, fun | 17 => 7 | 18 => 8 | 19 => 9 | n => n⟩
theorem Tryz.itoaL : Go.Proofs.LaysM.n171 Tryz.prog Tryz.itoaL_ren := {
  mixed := by kernel_rfl
  f129 := Tryz.func202.trans (congrArg some (by kernel_rfl))
  f171 := Tryz.func139.trans (congrArg some (by kernel_rfl))
  f243 := Tryz.func156.trans (congrArg some (by kernel_rfl))
  f246 := Tryz.func165.trans (congrArg some (by kernel_rfl))
  f283 := Tryz.func186.trans (congrArg some (by kernel_rfl))
  f284 := Tryz.func187.trans (congrArg some (by kernel_rfl))
  f285 := Tryz.func188.trans (congrArg some (by kernel_rfl))
  f286 := Tryz.func189.trans (congrArg some (by kernel_rfl))
  f317 := Tryz.func201.trans (congrArg some (by kernel_rfl))
  f318 := Tryz.func203.trans (congrArg some (by kernel_rfl))
  f319 := Tryz.func204.trans (congrArg some (by kernel_rfl))
  f320 := Tryz.func205.trans (congrArg some (by kernel_rfl))
  f337 := Tryz.func211.trans (congrArg some (by kernel_rfl))
  f338 := Tryz.func212.trans (congrArg some (by kernel_rfl))
  t0 := Tryz.underlying0
  a0 := Tryz.isAgg0
  z0 := Tryz.sizeOf0
  v0 := Tryz.zeroValue0
  t2 := Tryz.underlying2
  a2 := Tryz.isAgg2
  z2 := Tryz.sizeOf2
  v2 := Tryz.zeroValue2
  t3 := Tryz.underlying3
  a3 := Tryz.isAgg3
  z3 := Tryz.sizeOf3
  v3 := Tryz.zeroValue3
  t4 := Tryz.underlying4
  a4 := Tryz.isAgg4
  z4 := Tryz.sizeOf4
  v4 := Tryz.zeroValue4
  t5 := Tryz.underlying5
  a5 := Tryz.isAgg5
  z5 := Tryz.sizeOf5
  v5 := Tryz.zeroValue5
  t9 := Tryz.underlying9
  a9 := Tryz.isAgg9
  z9 := Tryz.sizeOf9
  v9 := Tryz.zeroValue9
  t20 := Tryz.underlying20
  a20 := Tryz.isAgg20
  z20 := Tryz.sizeOf20
  v20 := Tryz.zeroValue20
  t37 := Tryz.underlying22
  a37 := Tryz.isAgg22
  z37 := Tryz.sizeOf22
  v37 := Tryz.zeroValue22
  t46 := Tryz.underlying150
  a46 := Tryz.isAgg150
  z46 := Tryz.sizeOf150
  v46 := Tryz.zeroValue150
  t51 := Tryz.underlying246
  a51 := Tryz.isAgg246
  z51 := Tryz.sizeOf246
  v51 := Tryz.zeroValue246
  t53 := Tryz.underlying241
  a53 := Tryz.isAgg241
  z53 := Tryz.sizeOf241
  v53 := Tryz.zeroValue241
  t171 := Tryz.underlying240
  a171 := Tryz.isAgg240
  z171 := Tryz.sizeOf240
  v171 := Tryz.zeroValue240
  t173 := Tryz.underlying244
  a173 := Tryz.isAgg244
  z173 := Tryz.sizeOf244
  v173 := Tryz.zeroValue244
  t212 := Tryz.underlying270
  a212 := Tryz.isAgg270
  z212 := Tryz.sizeOf270
  v212 := Tryz.zeroValue270
  t213 := Tryz.underlying271
  a213 := Tryz.isAgg271
  z213 := Tryz.sizeOf271
  t232 := Tryz.underlying285
  a232 := Tryz.isAgg285
  z232 := Tryz.sizeOf285
  v232 := Tryz.zeroValue285
  t233 := Tryz.underlying286
  a233 := Tryz.isAgg286
  z233 := Tryz.sizeOf286
  v233 := Tryz.zeroValue286
  g17 := by kernel_rfl
  g18 := by kernel_rfl
  g19 := by kernel_rfl
  i0 := by kernel_rfl
  i2 := by kernel_rfl
  i3 := by kernel_rfl
  i4 := by kernel_rfl
  i5 := by kernel_rfl
  i9 := by kernel_rfl
  i20 := by kernel_rfl
  i37 := by kernel_rfl
  i46 := by kernel_rfl
  i51 := by kernel_rfl
  i53 := by kernel_rfl
  i171 := by kernel_rfl
  i173 := by kernel_rfl
  i212 := by kernel_rfl
  i232 := by kernel_rfl
  i233 := by kernel_rfl
  m17 := by kernel_rfl
  m18 := by kernel_rfl
  m19 := by kernel_rfl }
def Tryz.containsL_ren : Go.Shelf.Ren := ⟨fun | 110 => 53 | 109 => 75 | n => n, fun | 31 => 98 | 9 => 9 | 4 => 4 | 3 => 3 | 0 => 0 | n => n, fun | n => n⟩
theorem Tryz.containsL : Go.Proofs.Lays.n110 Tryz.prog Tryz.containsL_ren := {
  mixed := by kernel_rfl
  f109 := Tryz.func75.trans (congrArg some (by kernel_rfl))
  f110 := Tryz.func53.trans (congrArg some (by kernel_rfl))
  t0 := Tryz.underlying0
  a0 := Tryz.isAgg0
  z0 := Tryz.sizeOf0
  v0 := Tryz.zeroValue0
  t3 := Tryz.underlying3
  a3 := Tryz.isAgg3
  z3 := Tryz.sizeOf3
  v3 := Tryz.zeroValue3
  t4 := Tryz.underlying4
  a4 := Tryz.isAgg4
  z4 := Tryz.sizeOf4
  v4 := Tryz.zeroValue4
  t9 := Tryz.underlying9
  a9 := Tryz.isAgg9
  z9 := Tryz.sizeOf9
  v9 := Tryz.zeroValue9
  t31 := Tryz.underlying98
  a31 := Tryz.isAgg98
  z31 := Tryz.sizeOf98
  v31 := Tryz.zeroValue98 }
def Tryz.cloneIL_ren : Go.Shelf.Ren := ⟨fun | 15 => 42 | n => n, fun | 22 => 38 | 3 => 3 | 4 => 4 | n => n, fun | n => n⟩
def Tryz.cloneInt_ren : Go.Shelf.Ren := ⟨fun | 41 => 42 | n => n, fun | 22 => 38 | 23 => 3 | 4 => 4 | n => n, fun | n => n⟩
def Tryz.cloneSpanL_ren : Go.Shelf.Ren := ⟨fun | 41 => 103 | n => n, fun | 22 => 125 | 23 => 96 | 4 => 4 | n => n, fun | n => n⟩
end Go.Proofs
end
section
/- field: a number's hexadecimal digits (strconv.FormatInt at base 16). -/
namespace Go.Proofs.YtebgebgkieglhaaGreatDoor.FieldW
open Go.RowKit Go.Shelf Go.Lib Go.Proofs Go.Proofs.YtebgebgkieglhaaGreatDoorW.PrintWords Go.Proofs.YtebgebgkieglhaaGreatDoorW.PrintLast Go.Proofs.YtebgebgkieglhaaGreatDoorW.PrintMore
set_option linter.unusedVariables false
set_option linter.unusedSimpArgs false

/-- A digit's octet, in small letters. -/
def hexD (d : Nat) : UInt8 := if d < 10 then (48 + d).toUInt8 else (87 + d).toUInt8
def hexF : Nat → Nat → List UInt8
  | 0, _ => []
  | k + 1, u => if u < 16 then [hexD u] else hexF k (u / 16) ++ [hexD (u % 16)]
theorem cell_grows9 {w : World} {o : Obj} {a : Addr} {v : Value} (h : w.cell? a = some v) : (w.alloc o).cell? a = some v := ((below_alloc (Go.RowKit.Below.refl w.heap.size w) o).cell (World.block_lt_of_cell? w a h)).trans h
set_option maxRecDepth 100000 in
theorem pow16 (w : World) : Calls Tryz.prog 204 #[.int .i64 16] w fun e w' => e = .returned (.bool true) ∧ w' = w := by
  go_enter Tryz.func204, Tryz.ntmps204
  go_wp2
  go_ret
  exact ⟨by first | rfl | simp, rfl⟩
set_option maxRecDepth 100000 in
theorem tz16 (w : World) (hz : w.cell? ⟨9, 15, none⟩ = some (.int .u8 4)) : Calls Tryz.prog 205 #[.int .u64 16] w fun e w' => e = .returned (.int .i64 4) ∧ w' = w := by
  have h1 : bits BinOp.and IntKind.u64 16 (IntKind.u64.wrap (-16)) = 16 := by kernel_rfl
  have h2 : IntKind.u64.wrap (16 * 285870213051353865) = 4573923408821661840 := by kernel_rfl
  go_enter Tryz.func205, Tryz.ntmps205
  go_wp2
  go_ret
  exact ⟨by first | rfl | simp, rfl⟩
/-- The digits that have been written, from the array's end on. -/
def HexAt (w : World) (B : Nat) (ds : List UInt8) : Prop := ∃ arr : Array Value, w.heap[B]? = some (.cells arr 271 (0, 0)) ∧ arr.size = 65 ∧ ds.length ≤ 65 ∧ ∀ j x, ds[j]? = some x → arr[65 - ds.length + j]? = some (.int .u8 (x.toNat : Int))
theorem HexAt.push {w : World} {B : Nat} {ds : List UInt8} (h : HexAt w B ds) (hl : ds.length < 65) (x : UInt8) : HexAt (w.setCell ⟨B, 64 - ds.length, none⟩ (.int .u8 (x.toNat : Int))) B (x :: ds) := by
  obtain ⟨arr, h1, h2, h3, h4⟩ := h
  refine ⟨_, blk_set h1 _ _, by simp [h2], by simp; omega, fun j y hj => ?_⟩
  rw [List.length_cons]
  rcases j with _ | j
  · simp at hj; subst hj
    rw [Nat.add_zero, show 65 - (ds.length + 1) = 64 - ds.length by omega]
    rw [Array.getElem?_setIfInBounds_self_of_lt (by omega)]
  · have := h4 j y (by simpa using hj)
    rw [Array.getElem?_setIfInBounds_ne (by omega), show 65 - (ds.length + 1) + (j + 1) = 65 - ds.length + j by omega]
    exact this
theorem HexAt.cell {w : World} {B : Nat} {ds : List UInt8} (h : HexAt w B ds) (i : Nat) (hi : i < 65) : ∃ v, w.cell? ⟨B, i, none⟩ = some v := by
  obtain ⟨arr, h1, h2, h3, h4⟩ := h
  rw [blk_cell h1, Array.getElem?_eq_getElem (by omega)]
  exact ⟨_, rfl⟩
theorem HexAt.fz {w : World} {B : Nat} {ds : List UInt8} (h : HexAt w B ds) (i : Nat) : w.frozen? ⟨B, i, none⟩ = false := by
  obtain ⟨arr, h1, h2, h3, h4⟩ := h
  exact blk_frozen h1 i
abbrev digS : ByteArray := ⟨#[48, 49, 50, 51, 52, 53, 54, 55, 56, 57, 97, 98, 99, 100, 101, 102, 103, 104, 105, 106, 107, 108, 109, 110, 111, 112, 113, 114, 115, 116, 117, 118, 119, 120, 121, 122]⟩
theorem dig_eq (k : Nat) (h : k < 16) (h2 : k < digS.size) : digS[k] = hexD k := by
  have : k = 0 ∨ k = 1 ∨ k = 2 ∨ k = 3 ∨ k = 4 ∨ k = 5 ∨ k = 6 ∨ k = 7 ∨ k = 8 ∨ k = 9 ∨ k = 10 ∨ k = 11 ∨ k = 12 ∨ k = 13 ∨ k = 14 ∨ k = 15 := by omega
  rcases this with rfl | rfl | rfl | rfl | rfl | rfl | rfl | rfl | rfl | rfl | rfl | rfl | rfl | rfl | rfl | rfl <;> rfl
theorem hexF_step (k u : Nat) (h : 16 ≤ u) : hexF (k + 1) u = hexF k (u / 16) ++ [hexD (u % 16)] := by rw [hexF, if_neg (by omega)]
set_option maxHeartbeats 4000000 in
set_option maxRecDepth 100000 in
theorem bits_calls (n : Nat) (hn : n < 16 ^ 6) (w : World) (hz : w.cell? ⟨9, 15, none⟩ = some (.int .u8 4)) :
    Calls Tryz.prog 189 #[.slice none 0 0, .int .u64 n, .int .i64 16, .bool false, .bool false] w fun e w' => e = .returned (.tuple #[.slice none 0 0, .string ⟨(hexF 8 n).toArray⟩]) ∧ Go.RowKit.Below w.heap.size w w' := by
  have HZ := Aside0.mk hz
  clear hz
  go_enter Tryz.func189, Tryz.ntmps189
  go_wp2_with (first | (go_at_call 204; refine (pow16 _).mono ?_; rintro e w2 ⟨rfl, rfl⟩) | (go_at_call 205; refine (tz16 _ (cell_grows9 HZ.out)).mono ?_; rintro e w2 ⟨rfl, rfl⟩))
  have hz0 : HexAt (w.alloc (.cells Tryz.zeroCells271 271)) w.heap.size [] := ⟨_, heap_alloc_new _ _, by kernel_rfl, by simp, fun j x hj => by simp at hj⟩
  have hb0 : Go.RowKit.Below w.heap.size w (w.alloc (.cells Tryz.zeroCells271 271)) := below_alloc (Go.RowKit.Below.refl _ _) _
  obtain ⟨W0, hW0⟩ : ∃ W0, W0 = w.alloc (.cells Tryz.zeroCells271 271) := ⟨_, rfl⟩
  rw [← hW0] at hz0 hb0
  rw [← hW0]
  have H0 := Aside0.mk (And.intro hz0 hb0)
  clear hz0 hb0 hW0
  go_loopw [1, 13] (fun uv iv wr => ∃ (u : Nat) (ds : List UInt8), uv = .int .u64 u ∧ iv = .int .i64 ((65 - ds.length : Nat) : Int) ∧ ds.length ≤ 5 ∧ u < 16 ^ (6 - ds.length) ∧ hexF 8 n = hexF (8 - ds.length) u ++ ds ∧ HexAt wr w.heap.size ds ∧ Go.RowKit.Below w.heap.size w wr) (fun uv iv wr => (RowKit.intOf uv).toNat)
  case atStart => exact ⟨n, [], rfl, rfl, by simp, hn, by simp, H0.out.1, H0.out.2⟩
  case round =>
    obtain ⟨u, ds, rfl, rfl, hd, hu, he, hh, hb⟩ := hrel
    have hub : u < 16 ^ 6 := Nat.lt_of_lt_of_le hu (Nat.pow_le_pow_right (by omega) (by omega))
    obtain ⟨i, hi⟩ : ∃ i, i = 64 - ds.length := ⟨_, rfl⟩
    have hi1 : ((65 - ds.length : Nat) : Int) = (i : Int) + 1 := by omega
    have hi2 : i < 65 := by omega
    have hfz := hh.fz i
    obtain ⟨cv, hcv⟩ := hh.cell i hi2
    by_cases hlt : 16 ≤ u
    · have hul : (16 : Int) ≤ (u : Int) := by omega
      have hand : bits BinOp.and IntKind.u64 (u : Int) 15 = ((u % 16 : Nat) : Int) := by
        have h1 := bits_and_u64_nat u 15 (by omega) (by omega)
        rw [Nat.and_two_pow_sub_one_eq_mod u 4] at h1
        exact h1
      have HH := Aside0.mk (And.intro hd (And.intro hu (And.intro he (And.intro hh (And.intro hb hi)))))
      rw [hi1]
      clear hd hu he hh hb hi hi1
      go_wp2
      obtain ⟨hd, hu, he, hh, hb, hi⟩ := HH.out
      have hds : ds.length ≤ 4 := by
        rcases Nat.lt_or_ge ds.length 5 with h | h
        · omega
        · have : ds.length = 5 := by omega
          rw [this] at hu
          omega
      refine ⟨⟨u / 16, hexD (u % 16) :: ds, by go_num, ?_, by simp; omega, ?_, ?_, ?_, ?_⟩, ?_⟩
      · rw [hi, List.length_cons]; congr 2; omega
      · rw [List.length_cons]
        have e1 : 6 - ds.length = (6 - (ds.length + 1)) + 1 := by omega
        rw [e1, Nat.pow_succ] at hu
        omega
      · rw [he, List.length_cons, show 8 - ds.length = (8 - (ds.length + 1)) + 1 by omega, hexF_step _ _ hlt, List.append_assoc]; rfl
      · have h1 := hh.push (by omega) (hexD (u % 16))
        have h2 : HexAt (wr.setCell ⟨w.heap.size, 64 - ds.length, none⟩ (.int .u8 ((digS[u % 16]'(by show u % 16 < 36; omega)).toNat : Int))) w.heap.size (hexD (u % 16) :: ds) := by rw [dig_eq (u % 16) (by omega)]; exact h1
        rw [hi]
        exact h2
      · exact hb.setCell (p := ⟨w.heap.size, i, none⟩) (Nat.le_refl _) _
      · simp only [RowKit.intOf]; omega
    · have hul : ¬ ((16 : Int) ≤ (u : Int)) := by omega
      have hu16 : u < 16 := by omega
      have hB1 : HexAt (wr.setCell ⟨w.heap.size, i, none⟩ (.int .u8 ((hexD u).toNat : Int))) w.heap.size (hexD u :: ds) := by rw [hi]; exact hh.push (by omega) (hexD u)
      have hstr : hexF 8 n = hexD u :: ds := by
        rw [he, show 8 - ds.length = (7 - ds.length) + 1 by omega, hexF, if_pos hu16]; rfl
      have hal : Tryz.prog.arrayLen 271 = 65 := by kernel_rfl
      have hsl : ∀ W, (Instr.sliceAt 271 (.pointer (some ⟨w.heap.size, 0, none⟩)) (some (.int .i64 (i : Int))) none none).run Tryz.prog W = .ok (.slice (some ⟨w.heap.size, i, none⟩) (65 - i) (65 - i)) W := fun W => by
        have hu100 := Tryz.underlying271
        rw [run_sliceAt_array_l (t := 271) (a := ⟨w.heap.size, 0, none⟩) (w := W) (by simp [Program.arrayLen, Program.elem, hu100]) .i64 (i : Int) (by omega) (by rw [hal]; omega), hal]
        go_simp
        omega
      have hcv2 : (convert 22 9 (.slice (some ⟨w.heap.size, i, none⟩) (65 - i) (65 - i))).run Tryz.prog (wr.setCell ⟨w.heap.size, i, none⟩ (.int .u8 ((digS[u]'(by show u < 36; omega)).toNat : Int))) = .ok (.string ⟨(hexF 8 n).toArray⟩) (wr.setCell ⟨w.heap.size, i, none⟩ (.int .u8 ((digS[u]'(by show u < 36; omega)).toNat : Int))) := by
        rw [dig_eq u hu16, hstr]
        obtain ⟨arr, k1, k2, k3, k4⟩ := hB1
        have hsz : (⟨(hexD u :: ds).toArray⟩ : ByteArray).size = 65 - i := by
          show (hexD u :: ds).toArray.size = 65 - i
          simp; omega
        have hby : Bytes (wr.setCell ⟨w.heap.size, i, none⟩ (.int .u8 ((hexD u).toNat : Int))) w.heap.size i ⟨(hexD u :: ds).toArray⟩ := by
          intro j hj
          have hj2 : j < (hexD u :: ds).length := by have : (⟨(hexD u :: ds).toArray⟩ : ByteArray).size = (hexD u :: ds).length := by show (hexD u :: ds).toArray.size = _; simp
                                                     omega
          have h1 := k4 j _ (List.getElem?_eq_getElem hj2)
          rw [blk_cell k1, show i + j = 65 - (hexD u :: ds).length + j by rw [List.length_cons]; omega, h1]
          rfl
        have h := run_convert_whole (P := Tryz.prog) _ 22 5 9 Tryz.underlying22 Tryz.underlying5 Tryz.underlying9 _ _ _ hby (65 - i)
        rw [hsz] at h
        exact h
      have HH := Aside0.mk (And.intro hd (And.intro hu (And.intro he (And.intro hh (And.intro hb hi)))))
      rw [hi1]
      clear hd hu he hh hb hi hi1
      go_wp2
      go_ret2
      exact ⟨by rw [hstr]; rfl, HH.out.2.2.2.2.1.setCell (p := ⟨w.heap.size, i, none⟩) (Nat.le_refl _) _⟩
set_option maxRecDepth 100000 in
theorem fmt40 (n : Nat) (hn : n < 16 ^ 6) (w : World) (hz : w.cell? ⟨9, 15, none⟩ = some (.int .u8 4)) :
    Calls Tryz.prog 165 #[.int .i64 n, .int .i64 16] w fun e w' => e = .returned (.string ⟨(hexF 8 n).toArray⟩) ∧ Go.RowKit.Below w.heap.size w w' := by
  have H := Aside0.mk (bits_calls n hn w hz)
  clear hz
  go_enter Tryz.func165, Tryz.ntmps165
  go_wp2_with (go_at_call 189; refine H.out.mono ?_; rintro e w2 ⟨rfl, hb⟩; have HB := Aside0.mk hb; clear hb)
  go_ret
  exact ⟨rfl, HB.out⟩
set_option maxRecDepth 100000 in
theorem fmt_calls (n : Nat) (hn : n < 16 ^ 6) (w : World) (hz : w.cell? ⟨9, 15, none⟩ = some (.int .u8 4)) :
    Calls Tryz.prog 144 #[.int .i64 n, .int .i64 16] w fun e w' => e = .returned (.string ⟨(hexF 8 n).toArray⟩) ∧ Go.RowKit.Below w.heap.size w w' := by
  have H := Aside0.mk (fmt40 n hn w hz)
  clear hz
  go_enter Tryz.func144, Tryz.ntmps144
  go_wp2_with (go_at_call 165; refine H.out.mono ?_; rintro e w2 ⟨rfl, hb⟩; have HB := Aside0.mk hb; clear hb)
  go_ret
  exact ⟨rfl, HB.out⟩
end Go.Proofs.YtebgebgkieglhaaGreatDoor.FieldW
end
section
/- field: a code point's text. -/
namespace Go.Proofs.YtebgebgkieglhaaGreatDoor.FieldW
open Go.RowKit Go.Shelf Go.Lib Go.Proofs Go.Proofs.YtebgebgkieglhaaGreatDoorW.PrintWords Go.Proofs.YtebgebgkieglhaaGreatDoorW.PrintLast Go.Proofs.YtebgebgkieglhaaGreatDoorW.PrintMore
set_option linter.unusedVariables false
set_option linter.unusedSimpArgs false
attribute [local go_sem] max2_int min2_int max_two min_two

theorem Tryz.xU : Builder.Extra Tryz.prog Tryz.toUpperL_ren where
  sizeBuilder := by kernel_rfl
  liesBuilder := by kernel_rfl
  t5 := Tryz.underlying5
  a5 := Tryz.isAgg5
  z5 := Tryz.sizeOf5
  v5 := Tryz.zeroValue5
  infoByte := by kernel_rfl
  cellsByte := by kernel_rfl
  sizeByte := by kernel_rfl
  neB5 := by decide
theorem Tryz.xR : Builder.Extra Tryz.prog Tryz.repeatL_ren where
  sizeBuilder := by kernel_rfl
  liesBuilder := by kernel_rfl
  t5 := Tryz.underlying5
  a5 := Tryz.isAgg5
  z5 := Tryz.sizeOf5
  v5 := Tryz.zeroValue5
  infoByte := by kernel_rfl
  cellsByte := by kernel_rfl
  sizeByte := by kernel_rfl
  neB5 := by decide
theorem hexD_lt (d : Nat) (h : d < 16) : (hexD d).toNat < 128 := by
  have key : ∀ d : Fin 16, (hexD d.1).toNat < 128 := by decide
  exact key ⟨d, h⟩
theorem hexF_ascii : ∀ (k u : Nat), ∀ b ∈ hexF k u, b.toNat < 128
  | 0, u, b, h => by simp [hexF] at h
  | k + 1, u, b, h => by
    rw [hexF] at h
    split at h
    · rw [List.mem_singleton] at h; subst h; exact hexD_lt _ (by omega)
    · rw [List.mem_append, List.mem_singleton] at h
      rcases h with h | h
      · exact hexF_ascii k _ b h
      · subst h; exact hexD_lt _ (by omega)
theorem hexF_len : ∀ (k u : Nat), (hexF k u).length ≤ k
  | 0, u => by simp [hexF]
  | k + 1, u => by
    rw [hexF]; split
    · simp
    · have := hexF_len k (u / 16)
      rw [List.length_append]; simp; omega
theorem one_size : (⟨#[48]⟩ : ByteArray).size = 1 := rfl
theorem rep_size (m : Nat) : (⟨(Lib.repeatL (⟨#[48]⟩ : ByteArray).data.toList m).toArray⟩ : ByteArray).size = m := by
  show (Lib.repeatL (⟨#[48]⟩ : ByteArray).data.toList m).toArray.size = m
  rw [List.size_toArray, Lib.repeatL_length]
  exact Nat.mul_one m
/-- A code point's text: capitals, four digits at the least. -/
def hexT (n : Nat) : List UInt8 := Lib.repeatL [48] (4 - (hexF 8 n).length) ++ Lib.toUpperA (hexF 8 n)
set_option maxHeartbeats 2000000 in
set_option maxRecDepth 100000 in
theorem text_calls (n : Nat) (hn : n < 16 ^ 6) (w : World) (hz : w.cell? ⟨9, 15, none⟩ = some (.int .u8 4)) :
    Calls Tryz.prog 124 #[.int .i64 n] w fun e w' => e = .returned (.string ⟨(hexT n).toArray⟩) ∧ Go.RowKit.Below w.heap.size w w' := by
  have H := Aside0.mk (fmt_calls n hn w hz)
  clear hz
  have hl := hexF_len 8 n
  obtain ⟨s, hs⟩ : ∃ s : ByteArray, s = ⟨(hexF 8 n).toArray⟩ := ⟨_, rfl⟩
  have hsd : s.data.toList = hexF 8 n := by rw [hs]
  have hsz : s.size ≤ 8 := by rw [hs]; show (hexF 8 n).toArray.size ≤ 8; simpa using hl
  obtain ⟨U, hU⟩ : ∃ U : ByteArray, U = ⟨(Lib.toUpperA s.data.toList).toArray⟩ := ⟨_, rfl⟩
  have hUsz : U.size = (hexF 8 n).length := by rw [hU, hsd]; show (Lib.toUpperA (hexF 8 n)).toArray.size = _; simp [Lib.toUpperA]
  have hup := fun W => Any.strings_ToUpper_ascii Tryz.toUpperL Tryz.xU s W (by omega) (fun j b hb => by rw [hsd] at hb; exact hexF_ascii 8 n b (List.mem_of_getElem? hb))
  obtain ⟨m, hm⟩ : ∃ m, m = 4 - (hexF 8 n).length := ⟨_, rfl⟩
  have hrp := fun W => Any.strings_Repeat Tryz.repeatL Tryz.xR ⟨#[48]⟩ m W (by omega) (by rw [one_size]; omega)
  obtain ⟨Z, hZ⟩ : ∃ Z : ByteArray, Z = ⟨(Lib.repeatL (⟨#[48]⟩ : ByteArray).data.toList m).toArray⟩ := ⟨_, rfl⟩
  rw [← hs] at H
  rw [← hU] at hup
  rw [← hZ] at hrp
  have hup2 : ∀ W : World, Calls Tryz.prog 143 #[.string s] W fun e w' => e = .returned (.string U) ∧ Go.RowKit.Below W.heap.size W w' := hup
  have hrp2 : ∀ (W : World) (a : Int), a = (m : Int) → Calls Tryz.prog 145 #[.string ⟨#[48]⟩, .int .i64 a] W fun e w' => e = .returned (.string Z) ∧ Go.RowKit.Below W.heap.size W w' := fun W a ha => by subst ha; exact hrp W
  have HUP := Aside0.mk (And.intro hup2 hrp2)
  clear hup2 hrp2
  have hfin : Z ++ U = ⟨(hexT n).toArray⟩ := by
    apply ByteArray.ext
    apply Array.toList_inj.1
    rw [ByteArray.data_append, Array.toList_append, hZ, hU, hsd, hm]
    unfold hexT
    simp
  have hZs : Z.size = m := by rw [hZ]; exact rep_size m
  obtain ⟨k, hk⟩ : ∃ k, k = (hexF 8 n).length := ⟨_, rfl⟩
  rw [← hk] at hUsz hm hl
  have hcat : Z.size + U.size ≤ 9223372036854775807 := by rw [hZs, hUsz]; omega
  have HF := Aside0.mk (And.intro hfin (And.intro hm hl))
  clear hs hsd hU hup hrp hZ hfin hk hm hZs
  by_cases hk4 : k < 4
  · have hk4i : (k : Int) < 4 := by omega
    go_enter Tryz.func124, Tryz.ntmps124
    go_wp2_with (first
      | (go_at_call 144; refine H.out.mono ?_; rintro e w2 ⟨rfl, hb⟩; have HB := Aside0.mk hb; clear hb)
      | (go_at_call 143; refine (HUP.out.1 w2).mono ?_; rintro e w3 ⟨rfl, hb⟩; have n_ := Aside0.mk (below_step HB.out hb); clear HB; have HB := n_; clear n_ hb)
      | (go_at_call 145; refine (HUP.out.2 w3 _ (by have h1 := HF.out.2.1; have h2 := HF.out.2.2; omega)).mono ?_; rintro e w4 ⟨rfl, hb⟩; have n_ := Aside0.mk (below_step HB.out hb); clear HB; have HB := n_; clear n_ hb))
    go_ret
    exact ⟨by rw [← HF.out.1]; rfl, HB.out⟩
  · have hk4i : ¬ ((k : Int) < 4) := by omega
    go_enter Tryz.func124, Tryz.ntmps124
    go_wp2_with (first
      | (go_at_call 144; refine H.out.mono ?_; rintro e w2 ⟨rfl, hb⟩; have HB := Aside0.mk hb; clear hb)
      | (go_at_call 143; refine (HUP.out.1 w2).mono ?_; rintro e w3 ⟨rfl, hb⟩; have n_ := Aside0.mk (below_step HB.out hb); clear HB; have HB := n_; clear n_ hb)
      | (go_at_call 145; refine (HUP.out.2 w3 _ (by have h1 := HF.out.2.1; have h2 := HF.out.2.2; omega)).mono ?_; rintro e w4 ⟨rfl, hb⟩; have n_ := Aside0.mk (below_step HB.out hb); clear HB; have HB := n_; clear n_ hb))
    go_ret
    exact ⟨by rw [← HF.out.1]; rfl, HB.out⟩
end Go.Proofs.YtebgebgkieglhaaGreatDoor.FieldW
end
section
/- field: the code point of a text. -/
namespace Go.Proofs.YtebgebgkieglhaaGreatDoor.FieldW
open Go.RowKit Go.Shelf Go.Lib Go.Proofs Go.Proofs.YtebgebgkieglhaaGreatDoorW.PrintWords Go.Proofs.YtebgebgkieglhaaGreatDoorW.PrintLast Go.Proofs.YtebgebgkieglhaaGreatDoorW.PrintMore
set_option linter.unusedVariables false
set_option linter.unusedSimpArgs false

/-- The digits in capitals. -/
abbrev capS : ByteArray := ⟨#[48, 49, 50, 51, 52, 53, 54, 55, 56, 57, 65, 66, 67, 68, 69, 70]⟩
def digV (b : UInt8) : Int := Lib.indexByte capS.data.toList b
theorem indexByte_le : ∀ (l : List UInt8) (c : UInt8), -1 ≤ Lib.indexByte l c ∧ Lib.indexByte l c < l.length
  | [], c => by simp [Lib.indexByte]
  | b :: l, c => by
    have h := indexByte_le l c
    rw [Lib.indexByte, List.length_cons]
    split
    · omega
    · split
      · omega
      · omega
theorem digV_lt (b : UInt8) : -1 ≤ digV b ∧ digV b < 16 := indexByte_le capS.data.toList b
/-- The number that capitals spell, behind one that has been read. -/
def valF : List UInt8 → Nat → Option Nat
  | [], c => some c
  | b :: r, c => if digV b < 0 then none else valF r (c * 16 + (digV b).toNat)
/-- The code point of a text. -/
def pointS (s : List UInt8) : Option Nat := if s.length < 4 ∨ 6 < s.length then none else (valF s 0).bind fun c => if 1114111 < c then none else if hexT c = s then some c else none
theorem toList_inj9 {a b : ByteArray} (h : a.toList = b.toList) : a = b := by
  rw [ByteArray.toList_eq, ByteArray.toList_eq] at h
  exact ByteArray.ext (Array.toList_inj.1 h)
theorem or16_nat (c d : Nat) (hd : d < 16) : (c * 16) ||| d = c * 16 + d := by
  have h := Nat.shiftLeft_add_eq_or_of_lt (i := 4) (b := d) (by omega) c
  rw [Nat.shiftLeft_eq] at h
  exact h.symm
theorem or16 (c d : Nat) (hc : c < 16 ^ 6) (hd : d < 16) : bits BinOp.or IntKind.i64 ((c : Int) * 16) (d : Int) = ((c * 16 + d : Nat) : Int) := by
  have e : ((c : Int) * 16) = ((c * 16 : Nat) : Int) := by omega
  rw [e]
  have h1 : (BitVec.ofInt 64 ((c * 16 : Nat) : Int)).toNat = c * 16 := by
    rw [BitVec.ofInt_natCast, BitVec.toNat_ofNat]; exact Nat.mod_eq_of_lt (by omega)
  have h2 : (BitVec.ofInt 64 (d : Int)).toNat = d := by
    rw [BitVec.ofInt_natCast, BitVec.toNat_ofNat]; exact Nat.mod_eq_of_lt (by omega)
  show IntKind.i64.wrap ((BitVec.ofInt 64 ((c * 16 : Nat) : Int) ||| BitVec.ofInt 64 (d : Int)).toNat : Int) = _
  rw [BitVec.toNat_or, h1, h2, or16_nat c d hd]
  exact IntWalk.i64_in _ (by omega)
set_option maxHeartbeats 2000000 in
set_option maxRecDepth 100000 in
theorem point_calls (s : ByteArray) (w : World) (hz : w.cell? ⟨9, 15, none⟩ = some (.int .u8 4)) (r : Int × Int) (hr : r = match pointS s.data.toList with | none => (0, 13) | some c => ((c : Int), 0)) :
    Calls Tryz.prog 104 #[.string s] w fun e w' => e = .returned (.tuple #[.int .i64 r.1, .int .i64 r.2]) ∧ Go.RowKit.Below w.heap.size w w' := by
  have HZ := Aside0.mk hz
  clear hz
  have HSZ := Aside0.mk (show s.size = s.data.toList.length by simp)
  by_cases h4 : s.size < 4
  · have h4i : (s.size : Int) < 4 := by omega
    have hp : pointS s.data.toList = none := by have hsz := HSZ.out; unfold pointS; rw [if_pos (by omega)]
    rw [hp] at hr
    subst hr
    go_enter Tryz.func104, Tryz.ntmps104
    go_wp2
    go_ret2
    exact ⟨rfl, Go.RowKit.Below.refl _ _⟩
  have h4i : ¬ ((s.size : Int) < 4) := by omega
  by_cases h6 : 6 < s.size
  · have h6i : (6 : Int) < (s.size : Int) := by omega
    have hp : pointS s.data.toList = none := by have hsz := HSZ.out; unfold pointS; rw [if_pos (by omega)]
    rw [hp] at hr
    subst hr
    go_enter Tryz.func104, Tryz.ntmps104
    go_wp2
    go_ret2
    exact ⟨rfl, Go.RowKit.Below.refl _ _⟩
  have h6i : ¬ ((6 : Int) < (s.size : Int)) := by omega
  have hix : ∀ (b : UInt8) (W : World), Calls Tryz.prog 123 #[.string capS, .int .u8 (b.toNat : Int)] W fun e w' => e = .returned (.int .i64 (digV b)) ∧ w' = W := fun b W => by
    have h := Any.strings_IndexByte Tryz.indexByteL capS (b.toNat : Int) W
    have e : ((b.toNat : Int).toNat.toUInt8) = b := by simp
    rw [e] at h
    exact h
  have HI := Aside0.mk hix
  have HR := Aside0.mk hr
  clear hix hr
  go_enter Tryz.func104, Tryz.ntmps104
  go_wp2
  go_loopw [4, 17] (fun cv iv wr => ∃ (i c : Nat), cv = .int .i64 c ∧ iv = .int .i64 i ∧ i ≤ s.size ∧ c < 16 ^ i ∧ valF s.data.toList 0 = valF (s.data.toList.drop i) c ∧ Go.RowKit.Below w.heap.size w wr) (fun cv iv wr => s.size - (RowKit.intOf iv).toNat)
  case atStart => exact ⟨0, 0, rfl, rfl, Nat.zero_le _, by simp, rfl, Go.RowKit.Below.refl _ _⟩
  case round =>
    obtain ⟨i, c, rfl, rfl, hi, hc, hv, hb⟩ := hrel
    have hc6 : c < 16 ^ 6 := Nat.lt_of_lt_of_le hc (Nat.pow_le_pow_right (by omega) (by omega))
    by_cases hlt : i < s.size
    · have il : (i : Int) < (s.size : Int) := by omega
      have hlt2 : i < s.data.toList.length := by have hsz := HSZ.out; omega
      rw [List.drop_eq_getElem_cons hlt2, valF] at hv
      have hbb : s.data.toList[i] = s[i] := rfl
      rw [hbb] at hv
      have hdl := digV_lt s[i]
      obtain ⟨d, hd⟩ : ∃ d, d = digV s[i] := ⟨_, rfl⟩
      rw [← hd] at hv hdl
      have hcall : ∀ W, Calls Tryz.prog 123 #[.string capS, .int .u8 ((s[i]).toNat : Int)] W fun e w' => e = .returned (.int .i64 d) ∧ w' = W := fun W => by rw [hd]; exact HI.out _ W
      have HV := Aside0.mk (And.intro hv (And.intro hb (And.intro hc hcall)))
      clear hv hb hc hd hcall hbb
      by_cases hneg : d < 0
      · go_wp2_with (go_at_call 123; refine (HV.out.2.2.2 wr).mono ?_; rintro e w2 ⟨rfl, rfl⟩)
        go_ret2
        have hv := HV.out.1
        rw [if_pos hneg] at hv
        have hr := HR.out
        have hsz := HSZ.out
        have hp : pointS s.data.toList = none := by unfold pointS; rw [if_neg (by omega), hv]; rfl
        rw [hp] at hr
        subst hr
        exact ⟨rfl, HV.out.2.1⟩
      · obtain ⟨dn, hdn⟩ : ∃ dn : Nat, d = dn := ⟨d.toNat, by omega⟩
        have hd16 : dn < 16 := by omega
        go_wp2_with (go_at_call 123; refine (HV.out.2.2.2 wr).mono ?_; rintro e w2 ⟨rfl, rfl⟩)
        have hor := or16 c dn hc6 hd16
        refine ⟨⟨i + 1, c * 16 + dn, by rw [hor], by go_num, by omega, ?_, ?_, HV.out.2.1⟩, by simp only [RowKit.intOf]; omega⟩
        · have hc := HV.out.2.2.1
          rw [Nat.pow_succ]
          omega
        · have hv := HV.out.1
          rw [if_neg (by omega)] at hv
          rw [hv, hdn]
          rfl
    · have il : ¬ ((i : Int) < (s.size : Int)) := by omega
      have hie : i = s.size := by omega
      have hval : valF s.data.toList 0 = some c := by rw [hv, hie, HSZ.out, List.drop_length]; rfl
      have HV := Aside0.mk (And.intro hval hb)
      clear hv hb hval hc hie
      by_cases hbig : 1114111 < c
      · have hbi : (1114111 : Int) < (c : Int) := by omega
        go_wp2
        go_ret2
        have hr := HR.out
        have hsz := HSZ.out
        have hp : pointS s.data.toList = none := by unfold pointS; rw [if_neg (by omega), HV.out.1]; show (if 1114111 < c then none else _) = none; rw [if_pos hbig]
        rw [hp] at hr
        subst hr
        exact ⟨rfl, HV.out.2⟩
      · have hbi : ¬ ((1114111 : Int) < (c : Int)) := by omega
        have ht := text_calls c hc6 wr (HV.out.2.cell (World.block_lt_of_cell? _ _ HZ.out) |>.trans HZ.out)
        obtain ⟨X, hX⟩ : ∃ X : ByteArray, X = ⟨(hexT c).toArray⟩ := ⟨_, rfl⟩
        rw [← hX] at ht
        have HT := Aside0.mk (And.intro ht hX)
        clear ht hX
        by_cases heq : X = s
        · have hb1 : (X.toList == s.toList) = true := by rw [heq]; simp
          have HE := Aside0.mk heq
          clear heq
          go_wp2_with (go_at_call 124; refine HT.out.1.mono ?_; rintro e w2 ⟨rfl, hb2⟩; have HB2 := Aside0.mk hb2; clear hb2)
          go_ret2
          have hr := HR.out
          have hsz := HSZ.out
          have hp : pointS s.data.toList = some c := by
            unfold pointS
            rw [if_neg (by omega), HV.out.1]
            show (if 1114111 < c then none else if hexT c = s.data.toList then some c else none) = some c
            rw [if_neg hbig, if_pos (by rw [← HE.out, HT.out.2])]
          rw [hp] at hr
          subst hr
          exact ⟨rfl, HV.out.2.trans (HB2.out.mono HV.out.2.size)⟩
        · have hb1 : (X.toList == s.toList) = false := by
            rw [beq_eq_false_iff_ne]
            intro h
            exact heq (toList_inj9 h)
          have HE := Aside0.mk heq
          clear heq
          go_wp2_with (go_at_call 124; refine HT.out.1.mono ?_; rintro e w2 ⟨rfl, hb2⟩; have HB2 := Aside0.mk hb2; clear hb2)
          go_ret2
          have hr := HR.out
          have hsz := HSZ.out
          have hp : pointS s.data.toList = none := by
            unfold pointS
            rw [if_neg (by omega), HV.out.1]
            show (if 1114111 < c then none else if hexT c = s.data.toList then some c else none) = none
            rw [if_neg hbig, if_neg]
            intro h
            exact HE.out (by rw [HT.out.2, h])
          rw [hp] at hr
          subst hr
          exact ⟨rfl, HV.out.2.trans (HB2.out.mono HV.out.2.size)⟩
end Go.Proofs.YtebgebgkieglhaaGreatDoor.FieldW
end
section
/- A range over an iterator that keeps blocks of its own and writes them between two yields: what the iterator promises, and the statement's law. -/
namespace Go.Proofs.YtebgebgkieglhaaGreatDoor.FieldW
open Go.RowKit Go
set_option linter.unusedVariables false
set_option linter.unusedSimpArgs false

/-- J abides whatever turns the blocks Z; new blocks may join them. -/
def AbidesZ {β : Type} (J : (Nat → Prop) → β → World → Prop) : Prop :=
  ∀ (Z Z' : Nat → Prop) (s : β) (A B : World) (row : Option Nat), J Z s A → A.grownBy B row → (∀ r, row = some r → Z r) → (∀ b, Z' b → Z b ∨ (A.heap.size ≤ b ∧ b < B.heap.size)) → J Z' s B
/-- The blocks Z lie as they lay. -/
def KeepZ (Z : Nat → Prop) (A B : World) : Prop := ∀ b, Z b → B.heap[b]? = A.heap[b]?
theorem KeepZ.refl (Z : Nat → Prop) (A : World) : KeepZ Z A A := fun _ _ => rfl
theorem KeepZ.trans {Z : Nat → Prop} {A B C : World} (h : KeepZ Z A B) (h' : KeepZ Z B C) : KeepZ Z A C := fun b hb => (h' b hb).trans (h b hb)
/-- An iterator that gives just these, one by one, and may turn the blocks that it has laid (Z). What lies below n0, its own blocks, and the blocks K that it reads, must lie as they lay. -/
def SeqOwn {α : Type} (n : Nat) (P : Program) (g : Nat) (lb : Array Value) (encs : α → Array Value) (n0 : Nat) (K Z0 : Nat → Prop) (xs : List α) (w : World) : Prop :=
  ∀ (l : Nat) (J : (Nat → Prop) → List α → World → Prop) (Jx : List α → World → Prop) (W : World), Below w.heap.size w W → AbidesZ J →
    (∀ Z pre x r W1, J Z pre W1 → xs = pre ++ x :: r → YieldAt Fence.wide (n - 1) P l (encs x) W1 fun e W' =>
      (e = .returned (.bool true) ∧ J Z (pre ++ [x]) W' ∧ KeepZ (fun b => Z b ∨ K b) W1 W' ∧ Below n0 W1 W') ∨ (e = .returned (.bool false) ∧ Jx (pre ++ [x]) W')) →
    J Z0 [] W →
    CallsIn Fence.wide n P g (#[.func (.yield l) #[] #[]] ++ lb) W fun e W' => (∃ v, e = .returned v) ∧ ((∃ Z, J Z xs W') ∨ ∃ pre x r, xs = pre ++ x :: r ∧ Jx (pre ++ [x]) W')
/-- What a round's body ends in. -/
def postZ {α : Type} (K Z : Nat → Prop) (n0 : Nat) (I : (Nat → Prop) → List α → World → Prop) (Ix : Code → List α → World → Prop) (xs : List α) (W : World) : Exit → Act → World → Prop
  | .normal, _, W' => KeepZ (fun b => Z b ∨ K b) W W' ∧ Below n0 W W' ∧ I Z xs W'
  | .ret, _, W' => KeepZ (fun b => Z b ∨ K b) W W' ∧ Ix .ret xs W'
  | .exit id, _, W' => KeepZ (fun b => Z b ∨ K b) W W' ∧ Ix (.exit id) xs W'
  | .goto t, _, W' => KeepZ (fun b => Z b ∨ K b) W W' ∧ Ix (.goto t) xs W'
  | .panic _, _, _ => False
  | .outgrown, _, _ => False
theorem grown_put (W : World) (l : Nat) (o : Obj) : W.grownBy (W.putObj l o) (some l) := ⟨rfl, rfl, rfl, by simp [World.putObj], fun b hb hne => World.putObj_heap_other (fun e => hne (by rw [e]))⟩
theorem below_put (W : World) (l n0 : Nat) (o : Obj) (h : n0 ≤ l) : Below n0 W (W.putObj l o) := ⟨rfl, rfl, rfl, by simp [World.putObj], fun b hb => World.putObj_heap_other (by omega)⟩
theorem grown_alloc (W : World) (o : Obj) : W.grownBy (W.alloc o) none := ⟨rfl, rfl, rfl, by simp, fun b hb _ => Below.heap_alloc _ _ _ hb⟩
section
variable {α : Type} {n : Nat} {P : Program}
/-- **THE STATEMENT.** The caller brings I (between two rounds), what its assignment leaves (Ax), what a round that leaves has left (Ix); it is told the blocks Z that are not its own, and which element comes. -/
theorem range_own {g : Operand} {ps : Array Tmp} {assign body : Code} {Q : Exit → Act → World → Prop} {a : Act} {w : World} (h1 : 1 ≤ n) {gf : Nat} {lb : Array Value} (hg : a.eval g = .func (.func gf) #[] lb) (eg : ∀ args w, (callFunc gf args).run P w = .ok (.enter gf args) w)
    {encs : α → Array Value} {n0 : Nat} {K Z0 : Nat → Prop} {xs : List α} {w0 : World} (hseq : SeqOwn (n - 1) P gf lb encs n0 K Z0 xs w0) (hb0 : Below w0.heap.size w0 w) (hn0 : n0 ≤ w.heap.size) (hZ0 : ∀ b, Z0 b → b < w.heap.size) (hK0 : ∀ b, K b → b < w.heap.size) (hps : ∀ x, (encs x).size = ps.size)
    (I : (Nat → Prop) → List α → World → Prop) (Ax : (Nat → Prop) → (List α × α × Act) → World → Prop) (Ix : Code → List α → World → Prop) (hI : AbidesZ I) (hA : AbidesZ Ax)
    (hIx : ∀ c s W l r o, w.heap.size ≤ l → W.heap[l]? = some (.loop r) → Ix c s W → Ix c s (W.putObj l o)) (h0 : I Z0 [] w)
    (hassign : ∀ (l : Nat) (Z : Nat → Prop) (pre : List α) (x : α) (r : List α) (W : World) (Kc : Act → World → Prop), I Z pre W → xs = pre ++ x :: r → (∀ a' W', KeepZ (fun b => Z b ∨ K b) W W' → Below n0 W W' → Ax Z (pre, x, a') W' → Kc a' W') →
      assign.wpIn (Fence.wide.inRound l) (n - 1 - 1) P (Exit.then Kc (fun _ _ _ => False)) { tmps := (ps.zip (encs x)).foldl (fun t (p, v) => t.setIfInBounds p v) a.tmps, defers := [] } W)
    (hbody : ∀ (l : Nat) (Z : Nat → Prop) (pre : List α) (x : α) (r : List α) (a' : Act) (W : World), Ax Z (pre, x, a') W → xs = pre ++ x :: r → body.wpIn (Fence.wide.inRound l) (n - 1 - 1) P (postZ K Z n0 I Ix (pre ++ [x]) W) a' W)
    (hdone : ∀ (Z : Nat → Prop) (W : World), I Z xs W → W.heap[w.heap.size]? = some (.deferred (some [])) → Q .normal { a with defers := { target := .collected w.heap.size, args := #[] } :: a.defers } W)
    (hstop : ∀ (c : Code) (pre : List α) (x : α) (r : List α) (W : World), xs = pre ++ x :: r → Ix c (pre ++ [x]) W → W.heap[w.heap.size]? = some (.deferred (some [])) → c.wpIn Fence.wide n P Q { a with defers := { target := .collected w.heap.size, args := #[] } :: a.defers } W) :
    (Code.rangeFunc g ps assign body).wpIn Fence.wide n P Q a w := by
  refine wpIn_rangeFunc fun fn hfn => ?_
  obtain ⟨D, hD⟩ : ∃ D, D = w.heap.size := ⟨_, rfl⟩
  obtain ⟨L, hL⟩ : ∃ L, L = D + 1 := ⟨_, rfl⟩
  obtain ⟨st, hst⟩ : ∃ st : LoopState → Option Code → Obj, st = fun s pe => .loop { state := s, pending := pe, fn, tmps := a.tmps, params := ps, assign, body, defers := D } := ⟨_, rfl⟩
  obtain ⟨V, hV⟩ : ∃ V, V = (w.alloc (.deferred (some []))).alloc (st .ready none) := ⟨_, rfl⟩
  have sV : V.heap.size = D + 2 := by rw [hV]; simp [hD]
  have vL : V.heap[L]? = some (st .ready none) := by
    have h := World.alloc_heap_new (w.alloc (.deferred (some []))) (st .ready none)
    rw [World.size_alloc, ← hD, ← hL] at h
    rw [hV]; exact h
  have vD : V.heap[D]? = some (.deferred (some [])) := by
    have h := World.alloc_heap_new w (.deferred (some []))
    rw [← hD] at h
    rw [hV]; exact (Below.heap_alloc _ _ _ (by simp [hD])).trans h
  have vB : Below w0.heap.size w0 V := by
    rw [hV]; exact hb0.trans ((((Below.refl _ w).alloc (Nat.le_refl _) _).alloc (by simp) _).mono hb0.size)
  have vI : I (fun b => Z0 b ∨ b = L ∨ b = D) [] V := by
    have g1 : w.grownBy V none := by rw [hV]; exact (grown_alloc w _).trans (grown_alloc _ _)
    exact hI _ _ _ _ _ none h0 g1 (fun r e => by cases e) (fun b hb => by rcases hb with hb | hb | hb; exact .inl hb; exact .inr ⟨by omega, by omega⟩; exact .inr ⟨by omega, by omega⟩)
  refine ⟨L, [{ target := .collected D, args := #[] }], V, { target := .fn (.func gf) lb, args := #[.func (.yield L) #[] #[]] }, V, gf, #[.func (.yield L) #[] #[]] ++ lb, V, ?_, ?_, ?_, ?_, fun _ => h1, ?_⟩
  · have h := run_enterLoop_outer (P := P) (w := w) fn a.tmps ps assign body
    rw [← hD, ← hL] at h
    rw [hV, hst]; exact h
  · simp only [resolve, hg]
    simp [go_sem]
  · intro f' _; trivial
  · simp [invoke, go_sem, eg]
  · rw [← hD] at hdone hstop
    -- the iterator's contract, with the record and the block of deferred calls beside the caller's invariant
    refine (hseq L (fun Z pre W => I (fun b => Z b ∨ b = L ∨ b = D) pre W ∧ W.heap[L]? = some (st .ready none) ∧ W.heap[D]? = some (.deferred (some [])) ∧ ¬ Z L ∧ ¬ Z D)
      (fun pre W => ∃ c, Ix c pre W ∧ W.heap[L]? = some (st .done (some c)) ∧ W.heap[D]? = some (.deferred (some []))) V vB ?_ ?_ ⟨vI, vL, vD, fun h => by have := hZ0 L h; omega, fun h => by have := hZ0 D h; omega⟩).mono ?_
    · rintro Z Z' s A B row ⟨hi, hl, hd, zl, zd⟩ hgr hr hz
      have lA : L < A.heap.size := (Array.getElem?_eq_some_iff.1 hl).1
      have nz : ∀ b, ¬ Z b → b < A.heap.size → B.heap[b]? = A.heap[b]? := fun b hb hlt => hgr.block b hlt (fun e => hb (hr b e.symm))
      refine ⟨hI _ _ _ _ _ row hi hgr (fun r e => .inl (hr r e)) (fun b hb => ?_), (nz L zl lA).trans hl, (nz D zd (by omega)).trans hd, fun h => ?_, fun h => ?_⟩
      · rcases hb with hb | hb
        · rcases hz b hb with h | h
          · exact .inl (.inl h)
          · exact .inr h
        · exact .inl (.inr hb)
      · rcases hz L h with h | h
        · exact zl h
        · omega
      · rcases hz D h with h | h
        · exact zd h
        · omega
    · rintro Z pre x r W ⟨hi, hl, hd, zl, zd⟩ hx
      have lW : L < W.heap.size := (Array.getElem?_eq_some_iff.1 hl).1
      have hl' := hl
      rw [hst] at hl'
      refine ⟨fn, _, assign, body, run_yield hl' (hps x), roundIn_of_wpIn hfn (hassign L _ pre x r W _ hi hx ?_)⟩
      intro a1 W1 k1 b1 hax
      have l1 : W1.heap[L]? = some (st .ready none) := (k1 L (.inl (.inr (.inl rfl)))).trans hl
      have d1 : W1.heap[D]? = some (.deferred (some [])) := (k1 D (.inl (.inr (.inr rfl)))).trans hd
      have l1' := l1
      rw [hst] at l1'
      have lt1 : L < W1.heap.size := (Array.getElem?_eq_some_iff.1 l1).1
      obtain ⟨W2, hW2⟩ : ∃ W2, W2 = W1.putObj L (st .busy none) := ⟨_, rfl⟩
      have l2 : W2.heap[L]? = some (st .busy none) := by rw [hW2]; exact World.putObj_heap_same lt1
      have d2 : W2.heap[D]? = some (.deferred (some [])) := by rw [hW2]; exact (World.putObj_heap_other (by omega)).trans d1
      have gz : W1.grownBy W2 (some L) := by rw [hW2]; exact grown_put _ _ _
      have hax2 := hA _ (fun b => Z b ∨ b = L ∨ b = D) _ _ W2 (some L) hax gz (fun r e => by cases e; exact .inr (.inl rfl)) (fun b hb => .inl hb)
      refine ⟨W2, by have h := run_beginRound (P := P) l1' rfl; rw [hW2, hst]; exact h, ?_⟩
      refine wpIn_mono (hbody L _ pre x r a1 W2 hax2 hx) ?_
      have bz2 : Below n0 W W2 := b1.trans ((by rw [hW2]; exact below_put W1 L n0 _ (by omega)) : Below n0 W1 W2)
      have fin : ∀ (jump : Option Code) (W3 : World), KeepZ (fun b => (Z b ∨ b = L ∨ b = D) ∨ K b) W2 W3 → (Instr.endRound L jump).run P W3 = .ok (.bool jump.isNone) (W3.putObj L (st (if jump.isNone then .ready else .done) jump)) ∧ L < W3.heap.size ∧ W3.heap[D]? = some (.deferred (some [])) ∧ ∃ r3, W3.heap[L]? = some (.loop r3) := by
        intro jump W3 k3
        have l3 := (k3 L (.inl (.inr (.inl rfl)))).trans l2
        have lt3 := (Array.getElem?_eq_some_iff.1 l3).1
        rw [hst] at l3
        have h := run_endRound (P := P) jump l3
        exact ⟨by rw [hst]; exact h, lt3, (k3 D (.inl (.inr (.inr rfl)))).trans d2, _, l3⟩
      have kz : ∀ (W3 : World) (o : Obj), KeepZ (fun b => (Z b ∨ b = L ∨ b = D) ∨ K b) W2 W3 → KeepZ (fun b => Z b ∨ K b) W (W3.putObj L o) := fun W3 o k3 b hb => by
        have hbL : b ≠ L := fun e => by
          rcases hb with hb | hb
          · exact zl (e ▸ hb)
          · have := hK0 b hb; omega
        have hb2 : (Z b ∨ b = L ∨ b = D) ∨ K b := hb.imp .inl id
        exact (World.putObj_heap_other hbL).trans ((k3 b hb2).trans ((by rw [hW2]; exact World.putObj_heap_other hbL : W2.heap[b]? = W1.heap[b]?).trans (k1 b hb2)))
      rintro e a3 W3 hp
      cases e with
      | normal =>
        obtain ⟨k3, b3, i3⟩ := hp
        obtain ⟨hr, lt3, d3, r3, l3⟩ := fin none W3 k3
        refine ⟨_, _, hr, .inl ⟨rfl, ⟨hI _ _ _ _ _ (some L) i3 (grown_put W3 L _) (fun r e => by cases e; exact .inr (.inl rfl)) (fun b hb => .inl hb), World.putObj_heap_same lt3, (World.putObj_heap_other (by omega)).trans d3, zl, zd⟩, kz W3 _ k3, bz2.trans (b3.trans (below_put W3 L n0 _ (by omega)))⟩⟩
      | ret =>
        obtain ⟨k3, i3⟩ := hp
        obtain ⟨hr, lt3, d3, r3, l3⟩ := fin (some .ret) W3 k3
        exact ⟨_, _, hr, .inr ⟨rfl, .ret, hIx _ _ _ _ _ _ (by omega) l3 i3, World.putObj_heap_same lt3, (World.putObj_heap_other (by omega)).trans d3⟩⟩
      | exit id =>
        obtain ⟨k3, i3⟩ := hp
        obtain ⟨hr, lt3, d3, r3, l3⟩ := fin (some (.exit id)) W3 k3
        exact ⟨_, _, hr, .inr ⟨rfl, .exit id, hIx _ _ _ _ _ _ (by omega) l3 i3, World.putObj_heap_same lt3, (World.putObj_heap_other (by omega)).trans d3⟩⟩
      | goto t =>
        obtain ⟨k3, i3⟩ := hp
        obtain ⟨hr, lt3, d3, r3, l3⟩ := fin (some (.goto t)) W3 k3
        exact ⟨_, _, hr, .inr ⟨rfl, .goto t, hIx _ _ _ _ _ _ (by omega) l3 i3, World.putObj_heap_same lt3, (World.putObj_heap_other (by omega)).trans d3⟩⟩
      | panic ch => exact hp.elim
      | outgrown => exact hp.elim
    · rintro e W2 ⟨⟨v, rfl⟩, (⟨Z, hi, hl, hd, zl, zd⟩ | ⟨pre, x, r, hx, c, hi, hl, hd⟩)⟩
      · have hl' := hl
        rw [hst] at hl'
        refine ⟨none, _, run_endLoop (P := P) hl' (by simp), hdone _ _ (hI _ (fun b => Z b ∨ b = L ∨ b = D) _ _ _ (some L) hi (grown_put _ _ _) (fun r e => by cases e; exact .inr (.inl rfl)) (fun b hb => .inl hb)) ((World.putObj_heap_other (by omega)).trans hd)⟩
      · have hl' := hl
        rw [hst] at hl'
        exact ⟨some c, _, run_endLoop (P := P) hl' (by simp), hstop c pre x r _ hx (hIx _ _ _ _ _ _ (by omega) hl' hi) ((World.putObj_heap_other (by omega)).trans hd)⟩
end
end Go.Proofs.YtebgebgkieglhaaGreatDoor.FieldW
end
section
/- field: strings.SplitSeq by one blank: its iterator. -/
namespace Go.Proofs.YtebgebgkieglhaaGreatDoor.FieldW
open Go.RowKit Go.Shelf Go.Lib Go.Proofs Go.Proofs.YtebgebgkieglhaaGreatDoorW.PrintWords Go.Proofs.YtebgebgkieglhaaGreatDoorW.PrintLast Go.Proofs.YtebgebgkieglhaaGreatDoorW.PrintMore
set_option linter.unusedVariables false
set_option linter.unusedSimpArgs false
attribute [local go_sem] Oper.semAt_some

/-- A text's pieces, cut by blanks. -/
def cutL : List UInt8 → List (List UInt8)
  | [] => [[]]
  | b :: r => if b == 32 then [] :: cutL r else (b :: (cutL r).headD []) :: (cutL r).tail
theorem cutL_ne : ∀ l : List UInt8, cutL l ≠ []
  | [] => by simp [cutL]
  | b :: r => by rw [cutL]; split <;> simp
theorem cutL_none : ∀ l : List UInt8, Lib.indexByte l 32 < 0 → cutL l = [l]
  | [], _ => rfl
  | b :: r, h => by
    rw [Lib.indexByte] at h
    rw [cutL]
    by_cases hb : (b == 32) = true
    · rw [if_pos hb] at h; omega
    · rw [if_neg hb] at h
      by_cases h1 : (Lib.indexByte r 32 == -1) = true
      · have h2 : Lib.indexByte r 32 < 0 := by have := beq_iff_eq.1 h1; omega
        rw [if_neg hb, cutL_none r h2]; rfl
      · rw [if_neg h1] at h
        have h3 := indexByte_le r 32
        have h4 : Lib.indexByte r 32 ≠ -1 := fun e => h1 (by rw [e]; rfl)
        omega
theorem cutL_some : ∀ (l : List UInt8) (i : Nat), Lib.indexByte l 32 = i → cutL l = l.take i :: cutL (l.drop (i + 1)) ∧ i < l.length
  | [], i, h => by simp [Lib.indexByte] at h
  | b :: r, i, h => by
    rw [Lib.indexByte] at h
    rw [cutL]
    by_cases hb : (b == 32) = true
    · rw [if_pos hb] at h
      obtain rfl : i = 0 := by omega
      rw [if_pos hb]
      exact ⟨by simp, by simp⟩
    · rw [if_neg hb] at h
      by_cases h1 : (Lib.indexByte r 32 == -1) = true
      · rw [if_pos h1] at h; omega
      · rw [if_neg h1] at h
        obtain ⟨j, rfl⟩ : ∃ j, i = j + 1 := ⟨i - 1, by have h3 := indexByte_le r 32; have h4 : Lib.indexByte r 32 ≠ -1 := (fun e => h1 (by rw [e]; rfl)); omega⟩
        obtain ⟨h5, h6⟩ := cutL_some r j (by omega)
        rw [if_neg hb, h5]
        exact ⟨by simp, by simp; omega⟩
theorem grown_set9 (w : World) (p : Addr) (u : Value) : w.grownBy (w.setCell p u) (some p.block) := ⟨rfl, rfl, rfl, by simp [World.setCell], fun k hk hne => Go.RowKit.Below.heap_setCell w _ u k (fun e => hne (by rw [e]))⟩
def cutB (s : ByteArray) : List ByteArray := (cutL s.data.toList).map fun p => ⟨p.toArray⟩
def encT (x : ByteArray) : Array Value := #[.string x]
/-- How long the text in a cell is. -/
def strSz (w : World) (B : Nat) : Nat := match w.cell? ⟨B, 0, none⟩ with
  | some (.string r) => r.size
  | _ => 0
set_option maxHeartbeats 4000000 in
set_option maxRecDepth 100000 in
theorem split_own {w : World} {Bs Bp Bv n0 : Nat} {s : ByteArray} (hs : w.heap[Bs]? = some (.cells #[.string s] 9 (0, 0))) (hp : w.heap[Bp]? = some (.cells #[.string ⟨#[32]⟩] 9 (0, 0))) (hv : w.heap[Bv]? = some (.cells #[.int .i64 0] 3 (0, 0))) (hne : Bp ≠ Bs ∧ Bv ≠ Bs) (hsz : s.size ≤ 1000000) :
    SeqOwn 3 Tryz.prog 168 #[.pointer (some ⟨Bp, 0, none⟩), .pointer (some ⟨Bs, 0, none⟩), .pointer (some ⟨Bv, 0, none⟩)] encT n0 (fun b => b = Bp ∨ b = Bv) (fun b => b = Bs) (cutB s) w := by
  intro lp J Jx W hW hJ hY h0
  have HJ := Aside0.mk hJ
  have HY := Aside0.mk hY
  have s0 := (hW.block _ (blk_lt hs)).trans hs
  have p0 := (hW.block _ (blk_lt hp)).trans hp
  have v0 := (hW.block _ (blk_lt hv)).trans hv
  have ps : W.cell? ⟨Bp, 0, none⟩ = some (.string ⟨#[32]⟩) := (blk_cell p0 0).trans rfl
  have H0 := Aside0.mk (And.intro h0 (And.intro s0 (And.intro p0 (And.intro v0 hne))))
  have hix : ∀ (r : ByteArray) (X : World), Calls Tryz.prog 128 #[.string r, .string ⟨#[32]⟩] X fun e w' => e = .returned (.int .i64 (Lib.indexByte r.data.toList 32)) ∧ w' = X := fun r X => Any.strings_Index_one Tryz.indexL r 32 X
  have HI := Aside0.mk hix
  clear hJ hY h0 hs hp hv s0 p0 v0 hne hix
  refine callsIn_of_wp Tryz.func168 rfl trivial ?_ rfl
  simp only [Tryz.ntmps168, List.size_toArray, List.length_cons, List.length_nil, Nat.reduceAdd, Nat.reduceSub, Array.replicate_succ, Array.replicate_zero, List.push_toArray, List.append_toArray, List.nil_append, List.cons_append]
  refine wpIn_wide.2 ?_
  go_wp2_with fail
  go_loopw [7] (fun v wr => ∃ (r : ByteArray) (pre : List ByteArray) (Z : Nat → Prop), cutB s = pre ++ cutB r ∧ wr.heap[Bs]? = some (.cells #[.string r] 9 (0, 0)) ∧ wr.heap[Bp]? = some (.cells #[.string ⟨#[32]⟩] 9 (0, 0)) ∧ wr.heap[Bv]? = some (.cells #[.int .i64 0] 3 (0, 0)) ∧ Z Bs ∧ J Z pre wr ∧ r.size ≤ 1000000) (fun v wr => strSz wr Bs)
  case atStart => exact ⟨s, [], (fun b => b = Bs), rfl, H0.out.2.1, H0.out.2.2.1, H0.out.2.2.2.1, rfl, H0.out.1, hsz⟩
  case round =>
    obtain ⟨r, pre, Z, hc, hs, hp, hv, hz, hj, hrs⟩ := hrel
    have cs : wr.cell? ⟨Bs, 0, none⟩ = some (.string r) := (blk_cell hs 0).trans rfl
    have cp : wr.cell? ⟨Bp, 0, none⟩ = some (.string ⟨#[32]⟩) := (blk_cell hp 0).trans rfl
    have cv : wr.cell? ⟨Bv, 0, none⟩ = some (.int .i64 0) := (blk_cell hv 0).trans rfl
    have fs := blk_frozen hs 0
    obtain ⟨i, hi⟩ : ∃ i, i = Lib.indexByte r.data.toList 32 := ⟨_, rfl⟩
    have hcall : ∀ X : World, Calls Tryz.prog 128 #[.string r, .string ⟨#[32]⟩] X fun e w' => e = .returned (.int .i64 i) ∧ w' = X := fun X => by rw [hi]; exact HI.out r X
    have hil := indexByte_le r.data.toList 32
    rw [← hi] at hil
    have HR := Aside0.mk (And.intro hc (And.intro hs (And.intro hp (And.intro hv (And.intro hz (And.intro hj (And.intro hi hcall)))))))
    clear hc hs hp hv hz hj hi hcall
    by_cases hneg : i < 0
    · have hcr : cutB r = [r] := by unfold cutB; rw [cutL_none _ (by rw [← HR.out.2.2.2.2.2.2.1]; exact hneg)]; rfl
      have hall : cutB s = pre ++ r :: [] := by rw [HR.out.1, hcr]
      obtain ⟨fn, tmps, assign, body, hy, hRy⟩ := HY.out Z pre r [] _ HR.out.2.2.2.2.2.1 hall
      dsimp only [encT] at hy
      have HR2 := Aside0.mk hRy
      have HALL := Aside0.mk hall
      clear hRy hall hcr
      go_upto_region 10 with (go_at_call 128; refine (HR.out.2.2.2.2.2.2.2 wr).mono ?_; rintro e w2 ⟨rfl, rfl⟩)
      refine (wpIn_wide (n := 3)).1 ?_
      gi_wp2
      refine HR2.out.mono ?_
      rintro e W3 (⟨rfl, hJ3, hk3, hb3⟩ | ⟨rfl, hJx3⟩)
      · gi_wp2
        go_wp2
        go_end0
        exact ⟨⟨_, rfl⟩, .inl ⟨Z, by rw [HALL.out]; exact hJ3⟩⟩
      · gi_wp2
        go_wp2
        go_end0
        exact ⟨⟨_, rfl⟩, .inr ⟨pre, r, [], HALL.out, hJx3⟩⟩
    · obtain ⟨n, hn⟩ : ∃ n : Nat, i = n := ⟨i.toNat, by omega⟩
      subst hn
      obtain ⟨hcr0, hnl⟩ := cutL_some r.data.toList n (by rw [← HR.out.2.2.2.2.2.2.1])
      have hns : n < r.size := by have : r.size = r.data.toList.length := by simp
                                  omega
      obtain ⟨f, hf⟩ : ∃ f, f = r.extract 0 n := ⟨_, rfl⟩
      obtain ⟨t, ht⟩ : ∃ t, t = r.extract (n + 1) r.size := ⟨_, rfl⟩
      have hcr : cutB r = f :: cutB t := by
        unfold cutB
        rw [hcr0, List.map_cons]
        congr 1
        · rw [hf]; apply ByteArray.ext; apply Array.toList_inj.1; simp
        · rw [ht]; congr 2; simp; exact (List.take_of_length_le (by simp)).symm
      have hall : cutB s = pre ++ f :: cutB t := by rw [HR.out.1, hcr]
      obtain ⟨fn, tmps, assign, body, hy, hRy⟩ := HY.out Z pre f (cutB t) _ HR.out.2.2.2.2.2.1 hall
      dsimp only [encT] at hy
      have HR2 := Aside0.mk hRy
      have HALL := Aside0.mk (And.intro hall (And.intro hf ht))
      have hnr : (n : Int) < (r.size : Int) := by omega
      clear hRy hall hcr hcr0 hnl
      rw [hf] at hy
      clear hf ht
      go_upto_region 8 with (go_at_call 128; refine (HR.out.2.2.2.2.2.2.2 wr).mono ?_; rintro e w2 ⟨rfl, rfl⟩)
      refine (wpIn_wide (n := 3)).1 ?_
      gi_wp2
      refine HR2.out.mono ?_
      rintro e W3 (⟨rfl, hJ3, hk3, hb3⟩ | ⟨rfl, hJx3⟩)
      · have s3 := (hk3 Bs (.inl HR.out.2.2.2.2.1)).trans HR.out.2.1
        have p3 := (hk3 Bp (.inr (.inl rfl))).trans HR.out.2.2.1
        have v3 := (hk3 Bv (.inr (.inr rfl))).trans HR.out.2.2.2.1
        have cs : W3.cell? ⟨Bs, 0, none⟩ = some (.string r) := (blk_cell s3 0).trans rfl
        have cp : W3.cell? ⟨Bp, 0, none⟩ = some (.string ⟨#[32]⟩) := (blk_cell p3 0).trans rfl
        have fs := blk_frozen s3 0
        have HP := Aside0.mk (And.intro hJ3 (And.intro s3 (And.intro p3 v3)))
        clear hJ3 hk3 hb3 s3 p3 v3
        gi_wp2
        go_wp2
        obtain ⟨hj3, s3, p3, v3⟩ := HP.out
        obtain ⟨hall, hf, ht⟩ := HALL.out
        rw [← ht]
        have b1 := blk_set s3 0 (.string t)
        have hts : t.size < r.size := by rw [ht, ByteArray.size_extract]; omega
        refine ⟨⟨t, pre ++ [f], Z, by rw [hall]; simp, b1, (Go.RowKit.Below.heap_setCell _ ⟨Bs, 0, none⟩ _ _ H0.out.2.2.2.2.1).trans p3, (Go.RowKit.Below.heap_setCell _ ⟨Bs, 0, none⟩ _ _ H0.out.2.2.2.2.2).trans v3, HR.out.2.2.2.2.1, HJ.out _ _ _ _ _ (some Bs) hj3 (grown_set9 _ _ _) (fun q e => by cases e; exact HR.out.2.2.2.2.1) (fun b hb => .inl hb), by omega⟩, ?_⟩
        have e1 : strSz (W3.setCell ⟨Bs, 0, none⟩ (.string t)) Bs = t.size := by
          unfold strSz; rw [blk_cell b1 0]; rfl
        have e2 : strSz w2 Bs = r.size := by
          unfold strSz; rw [blk_cell HR.out.2.1 0]; rfl
        rw [e1, e2]
        exact hts
      · gi_wp2
        go_wp2
        refine bodyPost_ret (results_none rfl _ _ _) rfl ?_
        exact ⟨⟨_, rfl⟩, .inr ⟨pre, f, cutB t, HALL.out.1, hJx3⟩⟩
end Go.Proofs.YtebgebgkieglhaaGreatDoor.FieldW
end
section
/- A region that draws its order, in a round: walked by the plain laws. -/
namespace Go.Proofs.YtebgebgkieglhaaGreatDoor.FieldW
open Go.RowKit Go.Shelf Go.Lib Go.Proofs
set_option linter.unusedVariables false
set_option linter.unusedSimpArgs false

section
variable {P : Program} {ops : Array Oper} {Q : Exit → Act → World → Prop} {md : Region.Mode} {l n : Nat}
theorem rowsIn_round {row : String} {args : Array Value} {w : World} {R : Value → World → Prop} (h : Rows P row args w R) : RowsIn (Fence.wide.inRound l) n P row args w R := fun c cs _ =>
  let ⟨v, w', r, s⟩ := h c cs; ⟨v, w', r, stepsIn_wide.2 s⟩
/-- An operation that is no defer statement, and opens no round, goes in a round as anywhere. -/
theorem wpIn_of_wp {o : Oper} {a : Act} {w : World} {K : Act → World → Prop} (hd : ∀ c, o.op ≠ .defer c) (hQ : ¬ LetsOut Q) (h : o.wp P a w K Q) : o.wpIn (Fence.wide.inRound l) n P a w K Q := by
  refine ⟨fun _ _ => trivial, ?_⟩
  rw [Oper.semAt_plain _ _ _ hd]
  unfold Oper.wp at h
  generalize (execOp a.eval o).run P w = r at *
  cases r with
  | ok x w' =>
    cases x <;> simp only [Oper.upon] at h <;> simp only [Oper.uponIn]
    case value u => exact h
    case skip => exact h
    case defer d => exact h
    case enter f args =>
      exact ⟨(fun h0 => by cases h0), CallsIn.inRound l (callsIn_wide.2 (Calls.mono h fun e w'' he => by
        cases e with
        | returned v => exact he
        | panicked c => exact he
        | outgrown => exact he))⟩
    case row row args => exact ⟨(fun h0 => by cases h0), rowsIn_round h⟩
    all_goals exact h
  | halt x w' =>
    cases x <;> simp only [Oper.upon] at h <;> simp only [Oper.uponIn]
    case panic u => exact h
    all_goals exact h
theorem wpOpIn_of {i : Nat} {K K' : Act → World → Prop} {a : Act} {w : World} (hd : ∀ (j : Nat) (o : Oper) c, ops[j]? = some o → o.op ≠ .defer c) (hQ : ¬ LetsOut Q) (hK : ∀ a w, K a w → K' a w) (h : wpOp P ops Q i K a w) : wpOpIn (Fence.wide.inRound l) n P ops Q i K' a w := by
  unfold wpOp at h
  unfold wpOpIn
  cases ho : ops[i]? with
  | none => rw [ho] at h; exact hK _ _ h
  | some o =>
    rw [ho] at h
    simp only at h ⊢
    split
    · rename_i hw
      rw [if_pos hw] at h
      rcases h with h | ⟨_, h⟩
      · exact Oper.wpIn_mono hK (wpIn_of_wp (hd i o · ho) hQ h)
      · exact absurd h hQ
    · rename_i hw
      rw [if_neg hw] at h
      exact ⟨fun _ _ => trivial, hK _ _ h⟩
theorem wpAnyIn_of (hd : ∀ (j : Nat) (o : Oper) c, ops[j]? = some o → o.op ≠ .defer c) (hQ : ¬ LetsOut Q) : ∀ (fuel : Nat) (listed : Array Bool) (a : Act) (w : World), wpAny P md ops Q fuel listed a w → wpAnyIn (Fence.wide.inRound l) n P md ops Q fuel listed a w
  | 0, _, _, _, h => h
  | fuel + 1, _, _, _, h => ⟨h.1, fun i hi => wpOpIn_of hd hQ (fun a w h' => wpAnyIn_of hd hQ fuel _ a w h') (h.2 i hi)⟩
def noDefer (ops : Array Oper) : Bool := ops.all fun o => match o.op with
  | .defer _ => false
  | _ => true
theorem noDefer_spec (h : noDefer ops = true) (j : Nat) (o : Oper) (c) (hj : ops[j]? = some o) : o.op ≠ .defer c := by
  intro e
  have := (Array.all_eq_true'.1 h) o (Array.mem_of_getElem? hj)
  rw [e] at this
  cases this
/-- A region in a round, by a condition that holds of all its worlds. -/
theorem wpIn_region_held {S : World → Prop} {id : Nat} {a : Act} {w : World} (hm : P.follows .mixedOrders = true) (hd : noDefer ops = true) (hQ : ¬ LetsOut Q) (hS : S w.drew)
    (h : S w.drew → wpAnyH P .any ops Q S ops.size (Array.replicate ops.size false) a w.drew) : (Code.region id ops true).wpIn (Fence.wide.inRound l) n P Q a w :=
  wpIn_region_any hm (wpAnyIn_of (noDefer_spec hd) hQ _ _ _ _ (wpAny_of_held _ _ _ _ (h hS)))
end
open Go.Proofs.YtebgebgkieglhaaGreatDoorW.PrintWords Go.Proofs.YtebgebgkieglhaaGreatDoorW.PrintLast Go.Proofs.YtebgebgkieglhaaGreatDoorW.PrintMore
/-- append(v, x) in a round. -/
theorem R_appendIn {l n : Nat} {P : Program} {ops : Array Oper} {rest : List Oper} {o : Oper} {a : Act} {Q : Exit → Act → World → Prop} {α : Type} (d : Kd α) {w0 W : World} (base : Nat) (hgd : o.guard = none) (hQ : ¬ LetsOut Q) (s x : Operand) (t e : TypeId) (z : Value) (bytes : Nat)
    (ho : o.op = .call { callee := .builtin .append, args := #[s, x], argTypes := #[t, t] })
    (ht : P.underlying t = some (.slice e)) (hinfo : (P.info? e).map (fun i => (i.zero, i.size, i.bytes)) = some (some z, d.sz, bytes)) (hz : z.cells.size = d.sz) (hs0 : 0 < d.sz) (hb0 : 0 < bytes)
    (v : Value) (xs : List α) (p : α) (cs : List Value) (ok okp : Nat → Prop) (hs : a.eval s = v) (hx : a.eval x = .slice (some ⟨W.heap.size, 0, none⟩) 1 1) (hp : d.M W base okp p cs) (hokp : ∀ k, okp k → ok k ∧ some k ≠ v.ownBlock) (hfresh : ∀ k, W.heap.size ≤ k → ok k)
    (HO : Kd.R d e W base ok v xs) (HB : Go.RowKit.Below base w0 W) (hbase : base ≤ W.heap.size) (hl : (xs.length + 1) * bytes ≤ 140737488355328)
    (h : ∀ v1 w1, Kd.R d e w1 base ok v1 (xs ++ [p]) → Go.RowKit.Below base w0 w1 → W.grownBy w1 v.ownBlock → (v1.ownBlock = v.ownBlock ∨ ∃ b, v1.ownBlock = some b ∧ W.heap.size ≤ b) → wpListIn (Fence.wide.inRound l) n P ops Q rest (a.put o.dst v1) w1) :
    wpListIn (Fence.wide.inRound l) n P ops Q (o :: rest) a (W.alloc (.cells cs.toArray e)) := by
  refine wpListIn_plain hgd fun K hK => wpIn_of_wp (by rw [ho]; intro c hc; cases hc) hQ ?_
  have hw : Region.wanted o (yielded #[] a.tmps) = true := by simp [Region.wanted, hgd]
  have h_ := Kd.R_append_step (P := P) (ops := #[]) (Q := Q) (Kc := K) (W := W) (w0 := w0) d base hw s x t e z bytes ho ht hinfo hz hs0 hb0 v xs p cs ok okp hs hx hp hokp hfresh HO HB hbase hl (fun v1 w1 h1 h2 h3 h4 => hK _ _ (h v1 w1 h1 h2 h3 h4))
  rw [if_pos hw] at h_
  exact h_
end Go.Proofs.YtebgebgkieglhaaGreatDoor.FieldW
end
section
-- printed by the kit's print.py over several roots (printroots.sh): no hand has typed this
namespace Go.Proofs.YtebgebgkieglhaaGreatDoor.PRef
open Go.RowKit Go.Proofs.YtebgebgkieglhaaGreatDoorW.PrintWords Go.Proofs.YtebgebgkieglhaaGreatDoorW.PrintLast Go.Proofs.YtebgebgkieglhaaGreatDoorW.PrintMore
attribute [local go_sem] max2_int min2_int max_two min_two max_three min_three max_four min_four   -- for this text's walks alone
set_option linter.unusedVariables false
set_option linter.unusedSimpArgs false



def errW : Option Int → Value
  | none => .nilIface
  | some c => .iface 0 (.int .i64 c)
theorem errW_none : errW none = .nilIface := rfl
theorem errW_some (c : Int) : errW (some c) = .iface 0 (.int .i64 c) := rfl

theorem info3 : (Tryz.prog.info? 3).map (fun i => (i.zero, i.size, i.bytes)) = some (some (.int .i64 0), 1, 8) := by kernel_rfl
-- the values' own types

end Go.Proofs.YtebgebgkieglhaaGreatDoor.PRef
end
section
/- field: Sequence. -/
namespace Go.Proofs.YtebgebgkieglhaaGreatDoor.FieldW
open Go.RowKit Go.Shelf Go.Lib Go.Proofs Go.Proofs.YtebgebgkieglhaaGreatDoorW.PrintWords Go.Proofs.YtebgebgkieglhaaGreatDoorW.PrintLast Go.Proofs.YtebgebgkieglhaaGreatDoorW.PrintMore Go.Proofs.YtebgebgkieglhaaGreatDoor.PRef
set_option linter.unusedVariables false
set_option linter.unusedSimpArgs false
attribute [local go_sem] Oper.semAt_some

set_option maxRecDepth 100000 in
theorem splitSeq_calls (s p : ByteArray) (w : World) : Calls Tryz.prog 146 #[.string s, .string p, .int .i64 0] w fun e w' =>
    e = .returned (.func (.func 168) #[] #[.pointer (some ⟨w.heap.size + 1, 0, none⟩), .pointer (some ⟨w.heap.size, 0, none⟩), .pointer (some ⟨w.heap.size + 2, 0, none⟩)]) ∧ w' = ((w.alloc (.cells #[.string s] 9)).alloc (.cells #[.string p] 9)).alloc (.cells #[.int .i64 0] 3) := by
  go_enter Tryz.func146, Tryz.ntmps146
  go_wp2
  go_ret
  exact ⟨rfl, rfl⟩
set_option maxRecDepth 100000 in
theorem split_calls (s : ByteArray) (w : World) (n0 : Nat) (hsz : s.size ≤ 1000000) : Calls Tryz.prog 125 #[.string s, .string ⟨#[32]⟩] w fun e w' => ∃ Bp Bs Bv,
    e = .returned (.func (.func 168) #[] #[.pointer (some ⟨Bp, 0, none⟩), .pointer (some ⟨Bs, 0, none⟩), .pointer (some ⟨Bv, 0, none⟩)]) ∧ w.heap.size ≤ Bs ∧ w.heap.size ≤ Bp ∧ w.heap.size ≤ Bv ∧ Bs < w'.heap.size ∧ Bp < w'.heap.size ∧ Bv < w'.heap.size ∧ Go.RowKit.Below w.heap.size w w' ∧
      SeqOwn 3 Tryz.prog 168 #[.pointer (some ⟨Bp, 0, none⟩), .pointer (some ⟨Bs, 0, none⟩), .pointer (some ⟨Bv, 0, none⟩)] encT n0 (fun b => b = Bp ∨ b = Bv) (fun b => b = Bs) (cutB s) w' := by
  have H := Aside0.mk (splitSeq_calls s ⟨#[32]⟩ w)
  go_enter Tryz.func125, Tryz.ntmps125
  go_wp2_with (go_at_call 146; refine H.out.mono ?_; rintro e w2 ⟨rfl, hw⟩; have HW := Aside0.mk hw; clear hw)
  go_ret
  have hw := HW.out
  have h0 : w2.heap[w.heap.size]? = some (.cells #[.string s] 9 (0, 0)) := by rw [hw]; exact (Go.RowKit.Below.heap_alloc _ _ _ (by simp; omega)).trans ((Go.RowKit.Below.heap_alloc _ _ _ (by simp)).trans (heap_alloc_new _ _))
  have h1 : w2.heap[w.heap.size + 1]? = some (.cells #[.string ⟨#[32]⟩] 9 (0, 0)) := by
    have := heap_alloc_new (w.alloc (.cells #[.string s] 9)) (.cells #[.string ⟨#[32]⟩] 9)
    rw [World.size_alloc] at this
    rw [hw]; exact (Go.RowKit.Below.heap_alloc _ _ _ (by simp)).trans this
  have h2 : w2.heap[w.heap.size + 2]? = some (.cells #[.int .i64 0] 3 (0, 0)) := by
    have := heap_alloc_new ((w.alloc (.cells #[.string s] 9)).alloc (.cells #[.string ⟨#[32]⟩] 9)) (.cells #[.int .i64 0] 3)
    rw [World.size_alloc, World.size_alloc] at this
    rw [hw]; exact this
  refine ⟨_, _, _, rfl, by omega, by omega, by omega, blk_lt h0, blk_lt h1, blk_lt h2, by rw [hw]; exact below_alloc (below_alloc (below_alloc (Go.RowKit.Below.refl _ _) _) _) _, split_own h0 h1 h2 ⟨by omega, by omega⟩ hsz⟩
/-- The code points of pieces. -/
def seqL : List (List UInt8) → Option (List Int)
  | [] => some []
  | p :: r => (pointS p).bind fun c => (seqL r).map fun l => (c : Int) :: l
theorem seqL_snoc (x : List UInt8) : ∀ (pre : List (List UInt8)) (acc : List Int), seqL pre = some acc → ∀ c, pointS x = some c → seqL (pre ++ [x]) = some (acc ++ [(c : Int)])
  | [], acc, h, c, hc => by
    simp [seqL] at h; subst h
    simp [seqL, hc]
  | p :: r, acc, h, c, hc => by
    rw [seqL] at h
    obtain ⟨d, hd, h2⟩ := Option.bind_eq_some_iff.1 h
    obtain ⟨l, hl, rfl⟩ := Option.map_eq_some_iff.1 h2
    rw [List.cons_append, seqL, hd, seqL_snoc x r l hl c hc]
    rfl
theorem seqL_none (x : List UInt8) (q : List (List UInt8)) (hx : pointS x = none) : ∀ (pre : List (List UInt8)), seqL (pre ++ x :: q) = none
  | [] => by simp [seqL, hx]
  | p :: r => by
    rw [List.cons_append, seqL, seqL_none x q hx r]
    cases pointS p <;> rfl
/-- The code points of a text, or the error. -/
def seqS (s : List UInt8) : List Int × Int := if s = [] then ([], 0) else match seqL (cutL s) with
  | none => ([], 13)
  | some l => (l, 0)
theorem results_two {fn : Func} (h : fn.results = #[.cell 2 38, .cell 3 28]) (tmps : Array Value) (w : World) (a b : Addr) (v : Value) (n : Int)
    (ha : tmps.getD 2 undef = .pointer (some a)) (hb : tmps.getD 3 undef = .pointer (some b)) (hv : w.cell? a = some v) (hn : w.cell? b = some (.int .i64 n)) :
    (results fn tmps).run Tryz.prog w = .ok (.tuple #[v, .int .i64 n]) w := by
  have ha' : tmps[2]?.getD undef = .pointer (some a) := by simpa using ha
  have hb' : tmps[3]?.getD undef = .pointer (some b) := by simpa using hb
  have hu := Tryz.underlying38
  have hu2 := Tryz.underlying28
  simp [results, h, ha', hb', asAddr]
  go_simp
theorem R_turn3 {w w' : World} {base : Nat} {ok : Nat → Prop} {v : Value} {xs : List Int} (h : Kd.R (Kd.int .i64) 3 w base ok v xs) (hk : ∀ b, v.ownBlock = some b → w'.heap[b]? = w.heap[b]?) : Kd.R (Kd.int .i64) 3 w' base ok v xs := by
  obtain ⟨h0, inner, hown, hr⟩ := h
  refine ⟨h0, inner, ?_, hr⟩
  refine ⟨hown.1, ?_⟩
  rcases hown.2 with h2 | ⟨g, cap, cur, rfl, hg, hh, r⟩
  · exact .inl h2
  · exact .inr ⟨g, cap, cur, rfl, hg, (hk g (by simp [Value.ownBlock])).trans hh, r⟩
theorem R_lt3 {w : World} {base : Nat} {ok : Nat → Prop} {v : Value} {xs : List Int} (h : Kd.R (Kd.int .i64) 3 w base ok v xs) : ∀ b, v.ownBlock = some b → b < w.heap.size ∧ base ≤ b ∧ ∃ cs, w.heap[b]? = some (.cells cs 3 (0, 0)) := by
  obtain ⟨_, inner, hown, _⟩ := h
  intro b hb
  rcases hown.2 with ⟨rfl, _⟩ | ⟨g, cap, cur, rfl, hg, hh, r⟩
  · simp [Value.ownBlock] at hb
  · simp only [Value.ownBlock, Option.some.injEq] at hb
    subst hb
    exact ⟨blk_lt hh, hg, _, hh⟩
theorem lt_of_cell {w : World} {b i : Nat} {v : Value} (h : w.cell? ⟨b, i, none⟩ = some v) : b < w.heap.size := by
  by_cases hb : b < w.heap.size
  · exact hb
  · exfalso
    have h0 : w.heap[b]? = none := Array.getElem?_eq_none (Nat.le_of_not_lt hb)
    simp [World.cell?, h0] at h
theorem cutL_len : ∀ l : List UInt8, (cutL l).length ≤ l.length + 1
  | [] => by simp [cutL]
  | b :: r => by
    have h := cutL_len r
    rw [cutL]
    split
    · simp; omega
    · simp; have := cutL_ne r; omega
theorem cutB_len (s : ByteArray) : (cutB s).length ≤ s.size + 1 := by
  have h := cutL_len s.data.toList
  simp [cutB]
  simpa using h
theorem cutB_map (s : ByteArray) : (cutB s).map (·.data.toList) = cutL s.data.toList := by
  simp [cutB, Function.comp_def]
theorem grownBy_set (w : World) (p : Addr) (u : Value) : w.grownBy (w.setCell p u) (some p.block) := ⟨rfl, rfl, rfl, by simp [World.setCell], fun k hk hne => Go.RowKit.Below.heap_setCell w _ u k (fun e => hne (by rw [e]))⟩
/-- What Sequence keeps between two pieces. -/
def sqI (w : World) (n1 : Nat) (K Z : Nat → Prop) (pre : List ByteArray) (W : World) : Prop :=
  ∃ v acc, seqL (pre.map (·.data.toList)) = some acc ∧ W.heap[w.heap.size + 1 + 1]? = some (.cells #[v] 38 (0, 0)) ∧ W.heap[w.heap.size]? = some (.cells #[.slice none 0 0] 38 (0, 0)) ∧ W.heap[w.heap.size + 1]? = some (.cells #[.int .i64 0] 28 (0, 0)) ∧ Kd.R (Kd.int .i64) 3 W w.heap.size (fun _ => True) v acc ∧ Go.RowKit.Below w.heap.size w W ∧ acc.length ≤ pre.length ∧ ∀ b, Z b ∨ K b → n1 ≤ b ∧ v.ownBlock ≠ some b ∧ b < W.heap.size
theorem sqI_turn {w : World} {n1 : Nat} {K Z Z' : Nat → Prop} {s : List ByteArray} {A B : World} {row : Option Nat} (h : sqI w n1 K Z s A) (hn : w.heap.size + 3 = n1) (hg : A.grownBy B row) (hr : ∀ r, row = some r → Z r) (hz : ∀ b, Z' b → Z b ∨ (A.heap.size ≤ b ∧ b < B.heap.size)) : sqI w n1 K Z' s B := by
  obtain ⟨v, acc, h1, h2, h3, h4, h5, h6, h7, h8⟩ := h
  have nz : ∀ b, ¬ Z b → b < A.heap.size → B.heap[b]? = A.heap[b]? := fun b hb hlt => hg.block b hlt (fun e => hb (hr b e.symm))
  have l2 := blk_lt h2
  refine ⟨v, acc, h1, (nz _ (fun h => by have := (h8 _ (.inl h)).1; omega) (blk_lt h2)).trans h2, (nz _ (fun h => by have := (h8 _ (.inl h)).1; omega) (blk_lt h3)).trans h3, (nz _ (fun h => by have := (h8 _ (.inl h)).1; omega) (blk_lt h4)).trans h4, R_turn3 h5 (fun b hb => nz b (fun h => (h8 b (.inl h)).2.1 hb) (R_lt3 h5 b hb).1), ⟨hg.os.trans h6.os, hg.tape.trans h6.tape, hg.output.trans h6.output, Nat.le_trans h6.size hg.size, fun k hk => (nz k (fun h => by have := (h8 _ (.inl h)).1; omega) (Nat.lt_of_lt_of_le hk h6.size)).trans (h6.block k hk)⟩, h7, fun b hb => ?_⟩
  have old : Z b ∨ K b → n1 ≤ b ∧ v.ownBlock ≠ some b ∧ b < B.heap.size := fun h => ⟨(h8 b h).1, (h8 b h).2.1, Nat.lt_of_lt_of_le (h8 b h).2.2 hg.size⟩
  rcases hb with hb | hb
  · rcases hz b hb with h | h
    · exact old (.inl h)
    · exact ⟨by omega, fun e => by have := (R_lt3 h5 b e).1; omega, h.2⟩
  · exact old (.inr hb)
set_option maxHeartbeats 4000000 in
set_option maxRecDepth 100000 in
theorem sequence_calls (s : ByteArray) (w : World) (hsz : s.size ≤ 1000000) (hz : w.cell? ⟨9, 15, none⟩ = some (.int .u8 4)) :
    Calls Tryz.prog 105 #[.string s] w fun e w' => ∃ v, e = .returned (.tuple #[v, .int .i64 (seqS s.data.toList).2]) ∧ Kd.R (Kd.int .i64) 3 w' w.heap.size (fun _ => True) v (seqS s.data.toList).1 ∧ Go.RowKit.Below w.heap.size w w' := by
  refine (callsIn_wide (n := 4)).1 ?_
  refine callsIn_of_wp_marks Tryz.func105 rfl trivial ?_ rfl
  simp only [Tryz.ntmps105, List.size_toArray, List.length_cons, List.length_nil, Nat.reduceAdd, Nat.reduceSub, Array.replicate_succ, Array.replicate_zero, List.push_toArray, List.append_toArray, List.nil_append, List.cons_append]
  refine wpIn_wide.2 ?_
  by_cases hemp : s.toList = []
  · have hb0 : (s.toList == []) = true := by rw [hemp]; rfl
    have HE := Aside0.mk hemp
    clear hemp
    go_wp2
    have hd : s.data.toList = [] := by rw [← ByteArray.toList_eq]; exact HE.out
    have hs : seqS s.data.toList = ([], 0) := by unfold seqS; rw [if_pos hd]
    rw [hs]
    refine ⟨_, results_two rfl _ _ ⟨w.heap.size, 0, none⟩ ⟨w.heap.size + 1, 0, none⟩ (.slice none 0 0) 0 rfl rfl ?_ ?_, _, rfl, Kd.R_nil _ _ _ _ _, below_alloc (below_alloc (Go.RowKit.Below.refl _ _) _) _⟩
    · exact (blk_cell ((Go.RowKit.Below.heap_alloc _ _ _ (by simp)).trans (heap_alloc_new _ _)) 0).trans rfl
    · have := heap_alloc_new (w.alloc (.cells #[.slice none 0 0] 38)) (.cells #[.int .i64 0] 28)
      rw [World.size_alloc] at this
      exact (blk_cell this 0).trans rfl
  · have hb0 : (s.toList == []) = false := by rw [beq_eq_false_iff_ne]; exact hemp
    have HE := Aside0.mk hemp
    have HZ := Aside0.mk hz
    clear hemp hz
    go_wp2_with (go_at_call 125; refine Aside0.out ?_)
    refine Aside0.mk ?_
    obtain ⟨W0, hW0⟩ : ∃ W0, W0 = ((w.alloc (.cells #[.slice none 0 0] 38)).alloc (.cells #[.int .i64 0] 28)).alloc (.cells #[.slice none 0 0] 38) := ⟨_, rfl⟩
    rw [← hW0]
    have hw0 : W0.heap.size = w.heap.size + 3 := by rw [hW0]; simp
    have hb0w : Go.RowKit.Below w.heap.size w W0 := by rw [hW0]; exact below_alloc (below_alloc (below_alloc (Go.RowKit.Below.refl _ _) _) _) _
    have q2 : W0.heap[w.heap.size]? = some (.cells #[.slice none 0 0] 38 (0, 0)) := by rw [hW0]; exact (Go.RowKit.Below.heap_alloc _ _ _ (by simp; omega)).trans ((Go.RowKit.Below.heap_alloc _ _ _ (by simp)).trans (heap_alloc_new _ _))
    have q3 : W0.heap[w.heap.size + 1]? = some (.cells #[.int .i64 0] 28 (0, 0)) := by
      have := heap_alloc_new (w.alloc (.cells #[.slice none 0 0] 38)) (.cells #[.int .i64 0] 28)
      rw [World.size_alloc] at this
      rw [hW0]; exact (Go.RowKit.Below.heap_alloc _ _ _ (by simp)).trans this
    have q4 : W0.heap[w.heap.size + 1 + 1]? = some (.cells #[.slice none 0 0] 38 (0, 0)) := by
      have := heap_alloc_new ((w.alloc (.cells #[.slice none 0 0] 38)).alloc (.cells #[.int .i64 0] 28)) (.cells #[.slice none 0 0] 38)
      rw [World.size_alloc, World.size_alloc] at this
      rw [hW0]; exact this
    refine (split_calls s W0 w.heap.size hsz).mono ?_
    rintro e Wr ⟨Bp, Bs, Bv, rfl, g1, g2, g3, g4, g5, g6, hbr, hseq⟩
    have r2 := (hbr.block _ (by omega)).trans q2
    have r3 := (hbr.block _ (by omega)).trans q3
    have r4 := (hbr.block _ (by omega)).trans q4
    have hbw : Go.RowKit.Below w.heap.size w Wr := hb0w.trans (hbr.mono hb0w.size)
    have HR := Aside0.mk (And.intro r2 (And.intro r3 (And.intro r4 (And.intro hbw hbr.size))))
    have HS := Aside0.mk (And.intro hseq (And.intro g1 (And.intro g2 (And.intro g3 (And.intro g4 (And.intro g5 (And.intro g6 hw0)))))))
    have hdn : ¬ s.data.toList = [] := by rw [← ByteArray.toList_eq]; exact HE.out
    have HDN := Aside0.mk hdn
    clear r2 r3 r4 hbw hbr hseq g1 g2 g3 g4 g5 g6 hw0 hb0w q2 q3 q4 hW0 hdn
    go_wp2
    refine (wpIn_wide (n := 4)).1 ?_
    refine range_own (n := 4) (by omega) (gf := 168) (lb := #[.pointer (some ⟨Bp, 0, none⟩), .pointer (some ⟨Bs, 0, none⟩), .pointer (some ⟨Bv, 0, none⟩)]) rfl (enters_of Tryz.func168 (by kernel_rfl) rfl) HS.out.1 (Go.RowKit.Below.refl _ _) HR.out.2.2.2.1.size (fun b hb => by rw [hb]; exact HS.out.2.2.2.2.1) (fun b hb => by rcases hb with rfl | rfl; exact HS.out.2.2.2.2.2.1; exact HS.out.2.2.2.2.2.2.1) (fun _ => rfl)
      (sqI w W0.heap.size (fun b => b = Bp ∨ b = Bv))
      (fun Z q W => q.2.2 = { tmps := #[.string s, undef, .pointer (some ⟨w.heap.size, 0, none⟩), .pointer (some ⟨w.heap.size + 1, 0, none⟩), .pointer (some ⟨w.heap.size + 1 + 1, 0, none⟩), .string q.2.1, undef, undef, .string s, .bool false, .string s, .func (.func 168) #[] #[.pointer (some ⟨Bp, 0, none⟩), .pointer (some ⟨Bs, 0, none⟩), .pointer (some ⟨Bv, 0, none⟩)], .string q.2.1, undef, undef, undef, undef, undef, undef, undef, undef, undef, undef, undef, undef, undef], defers := [] } ∧ sqI w W0.heap.size (fun b => b = Bp ∨ b = Bv) Z q.1 W)
      (fun c q W => c = Code.ret ∧ seqL (cutL s.data.toList) = none ∧ W.heap[w.heap.size]? = some (.cells #[.slice none 0 0] 38 (0, 0)) ∧ W.heap[w.heap.size + 1]? = some (.cells #[.int .i64 13] 28 (0, 0)) ∧ Go.RowKit.Below w.heap.size w W)
      (fun Z Z' q A B row h hg hr hz => sqI_turn h HS.out.2.2.2.2.2.2.2.symm hg hr hz) ?ax ?ix ?h0 ?assign ?body ?done ?stop
    case ax =>
      rintro Z Z' ⟨pre, x, a'⟩ A B row ⟨e, h⟩ hg hr hz
      exact ⟨e, sqI_turn h HS.out.2.2.2.2.2.2.2.symm hg hr hz⟩
    case ix =>
      rintro cc q W lp r o hlp hl ⟨h1, h2, h3, h4, h5⟩
      have hh := HR.out.2.2.2.2
      have hh2 := HS.out.2.2.2.2.2.2.2
      exact ⟨h1, h2, (World.putObj_heap_other (by omega)).trans h3, (World.putObj_heap_other (by omega)).trans h4, h5.trans (below_put _ _ _ _ (by omega))⟩
    case h0 => exact ⟨_, [], rfl, HR.out.2.2.1, HR.out.1, HR.out.2.1, Kd.R_nil _ _ _ _ _, HR.out.2.2.2.1, Nat.le_refl _, fun b hb => by
      have hq : ∀ b', W0.heap.size ≤ b' → b' < Wr.heap.size → W0.heap.size ≤ b' ∧ (Value.slice none 0 0).ownBlock ≠ some b' ∧ b' < Wr.heap.size := fun b' h1 h2 => ⟨h1, by simp [Value.ownBlock], h2⟩
      rcases hb with hb | hb | hb
      · rw [hb]; exact hq _ HS.out.2.1 HS.out.2.2.2.2.1
      · rw [hb]; exact hq _ HS.out.2.2.1 HS.out.2.2.2.2.2.1
      · rw [hb]; exact hq _ HS.out.2.2.2.1 HS.out.2.2.2.2.2.2.1⟩
    case assign =>
      rintro lp Z pre x r W Kc hI hx2 hK2
      have HI := Aside0.mk hI
      clear hI hx2
      unfold encT
      gi_wp2
      exact hK2 _ _ (fun b hb => rfl) (Go.RowKit.Below.refl _ _) ⟨rfl, HI.out⟩
    case body =>
      rintro lp Z pre x r a' W ⟨ha, hI⟩ hx2
      dsimp only at ha hI
      subst ha
      obtain ⟨v, acc, h1, h2, h3, h4, h5, h6, h7, h8⟩ := hI
      obtain ⟨A0, c0, rfl⟩ := Kd.R_slice h5
      have hz6 : 9 < w.heap.size := lt_of_cell HZ.out
      have hzW : W.cell? ⟨9, 15, none⟩ = some (.int .u8 4) := (h6.cell (p := ⟨9, 15, none⟩) hz6).trans HZ.out
      have hlen : acc.length + 1 ≤ 1000001 := by
        have := congrArg List.length hx2
        have h9 := cutB_len s
        simp at this
        omega
      have HX := Aside0.mk hx2
      cases hp : pointS x.data.toList with
      | none =>
        have HP := Aside0.mk hp
        have H := Aside0.mk (point_calls x W hzW (0, 13) (by rw [hp]))
        have HI := Aside0.mk (And.intro h1 (And.intro h2 (And.intro h3 (And.intro h4 (And.intro h5 (And.intro h6 (And.intro h7 h8)))))))
        clear h1 h2 h3 h4 h5 h6 h7 h8 hp hzW hx2
        gi_wp2_with (refine ⟨trivial, ?_⟩; gi_at_call 104; refine (CallsIn.inRound lp (callsIn_wide.2 H.out)).mono ?_; rintro e w2 ⟨rfl, hb2⟩; have HB2 := Aside0.mk hb2; have y4 : w2.cell? ⟨w.heap.size + 1 + 1, 0, none⟩ = some (.slice A0 acc.length c0) := (blk_cell ((hb2.block _ (blk_lt HI.out.2.1)).trans HI.out.2.1) 0).trans rfl; have y2 : w2.cell? ⟨w.heap.size, 0, none⟩ = some (.slice none 0 0) := (blk_cell ((hb2.block _ (blk_lt HI.out.2.2.1)).trans HI.out.2.2.1) 0).trans rfl; have y3 : w2.cell? ⟨w.heap.size + 1, 0, none⟩ = some (.int .i64 0) := (blk_cell ((hb2.block _ (blk_lt HI.out.2.2.2.1)).trans HI.out.2.2.2.1) 0).trans rfl; have z2 := blk_frozen ((hb2.block _ (blk_lt HI.out.2.2.1)).trans HI.out.2.2.1) 0; have z3 := blk_frozen ((hb2.block _ (blk_lt HI.out.2.2.2.1)).trans HI.out.2.2.2.1) 0; have z4 := blk_frozen ((hb2.block _ (blk_lt HI.out.2.1)).trans HI.out.2.1) 0; clear hb2)
        have hb2 := HB2.out
        have k0 := (hb2.block _ (blk_lt HI.out.2.2.1)).trans HI.out.2.2.1
        have k1 := (hb2.block _ (blk_lt HI.out.2.2.2.1)).trans HI.out.2.2.2.1
        have hsz0 := HS.out.2.2.2.2.2.2.2
        obtain ⟨W3, hW3⟩ : ∃ W3, W3 = w2.setCell ⟨w.heap.size, 0, none⟩ (.slice none 0 0) := ⟨_, rfl⟩
        rw [← hW3]
        obtain ⟨W4, hW4⟩ : ∃ W4, W4 = W3.setCell ⟨w.heap.size + 1, 0, none⟩ (.int .i64 13) := ⟨_, rfl⟩
        rw [← hW4]
        have g3 : w2.grownBy W3 (some w.heap.size) := by rw [hW3]; exact grownBy_set w2 ⟨w.heap.size, 0, none⟩ _
        have g4 : W3.grownBy W4 (some (w.heap.size + 1)) := by rw [hW4]; exact grownBy_set W3 ⟨w.heap.size + 1, 0, none⟩ _
        have keep : ∀ b, b < W.heap.size → b ≠ w.heap.size → b ≠ w.heap.size + 1 → W4.heap[b]? = W.heap[b]? := fun b h1 h2 h3 =>
          (g4.block b (Nat.lt_of_lt_of_le h1 (Nat.le_trans hb2.size g3.size)) (fun e => h3 (by injection e))).trans ((g3.block b (Nat.lt_of_lt_of_le h1 hb2.size) (fun e => h2 (by injection e))).trans (hb2.block b h1))
        have hWs := HI.out.2.2.2.2.2.1.size
        have hRs := HR.out.2.2.2.2
        have m0 : W3.heap[w.heap.size]? = some (.cells #[.slice none 0 0] 38 (0, 0)) := by have h_ := blk_set k0 0 (.slice none 0 0); rw [← hW3] at h_; exact h_
        have m1 : W3.heap[w.heap.size + 1]? = some (.cells #[.int .i64 0] 28 (0, 0)) := (g3.block _ (blk_lt k1) (fun e => by injection e with e; omega)).trans k1
        have m0' : W4.heap[w.heap.size]? = some (.cells #[.slice none 0 0] 38 (0, 0)) := (g4.block _ (blk_lt m0) (fun e => by injection e with e; omega)).trans m0
        have m1' : W4.heap[w.heap.size + 1]? = some (.cells #[.int .i64 13] 28 (0, 0)) := by have h_ := blk_set m1 0 (.int .i64 13); rw [← hW4] at h_; exact h_
        refine ⟨fun b hb => ?_, rfl, ?_, m0', m1', ?_⟩
        · exact keep b (HI.out.2.2.2.2.2.2.2 b hb).2.2 (by have := (HI.out.2.2.2.2.2.2.2 b hb).1; omega) (by have := (HI.out.2.2.2.2.2.2.2 b hb).1; omega)
        · have hh := cutB_map s
          rw [HX.out] at hh
          rw [← hh, List.map_append, List.map_cons]
          exact seqL_none _ _ HP.out _
        · exact ⟨g4.os.trans (g3.os.trans (hb2.os.trans HI.out.2.2.2.2.2.1.os)), g4.tape.trans (g3.tape.trans (hb2.tape.trans HI.out.2.2.2.2.2.1.tape)), g4.output.trans (g3.output.trans (hb2.output.trans HI.out.2.2.2.2.2.1.output)), Nat.le_trans hWs (Nat.le_trans hb2.size (Nat.le_trans g3.size g4.size)), fun b hb => (keep b (by omega) (by omega) (by omega)).trans (HI.out.2.2.2.2.2.1.block b hb)⟩
      | some c =>
        have HP := Aside0.mk hp
        have H := Aside0.mk (point_calls x W hzW ((c : Int), 0) (by rw [hp]))
        have HI := Aside0.mk (And.intro h1 (And.intro h2 (And.intro h3 (And.intro h4 (And.intro h5 (And.intro h6 (And.intro h7 h8)))))))
        clear h1 h2 h3 h4 h5 h6 h7 h8 hp hzW hx2
        gi_wp2_with (first | (refine ⟨trivial, ?_⟩; gi_at_call 104; refine (CallsIn.inRound lp (callsIn_wide.2 H.out)).mono ?_; rintro e w2 ⟨rfl, hb2⟩; have HB2 := Aside0.mk hb2; have y4 : w2.cell? ⟨w.heap.size + 1 + 1, 0, none⟩ = some (.slice A0 acc.length c0) := (blk_cell ((hb2.block _ (blk_lt HI.out.2.1)).trans HI.out.2.1) 0).trans rfl; have y2 : w2.cell? ⟨w.heap.size, 0, none⟩ = some (.slice none 0 0) := (blk_cell ((hb2.block _ (blk_lt HI.out.2.2.1)).trans HI.out.2.2.1) 0).trans rfl; have y3 : w2.cell? ⟨w.heap.size + 1, 0, none⟩ = some (.int .i64 0) := (blk_cell ((hb2.block _ (blk_lt HI.out.2.2.2.1)).trans HI.out.2.2.2.1) 0).trans rfl; have z2 := blk_frozen ((hb2.block _ (blk_lt HI.out.2.2.1)).trans HI.out.2.2.1) 0; have z3 := blk_frozen ((hb2.block _ (blk_lt HI.out.2.2.2.1)).trans HI.out.2.2.2.1) 0; have z4 := blk_frozen ((hb2.block _ (blk_lt HI.out.2.1)).trans HI.out.2.1) 0; clear hb2) | (gi_at_builtin; refine Aside0.out ?_))
        refine Aside0.mk ?_
        have hb2 := HB2.out
        have hWs := HI.out.2.2.2.2.2.1.size
        have hRw := R_turn3 HI.out.2.2.2.2.1 (fun b hb => hb2.block b (R_lt3 HI.out.2.2.2.2.1 b hb).1)
        have HRw := Aside0.mk hRw
        have k4 := (hb2.block _ (blk_lt HI.out.2.1)).trans HI.out.2.1
        have HK4 := Aside0.mk k4
        have far : (Value.slice A0 acc.length c0).ownBlock ≠ some (w.heap.size + 1 + 1) := fun e => by
          obtain ⟨cs, hh⟩ := (R_lt3 HRw.out _ e).2.2
          rw [HK4.out] at hh
          injection hh with hh
          injection hh with _ hh
          cases hh
        have FAR := Aside0.mk far
        clear hRw k4 far
        refine R_appendIn (Kd.int .i64) (w0 := w) w.heap.size rfl (by rintro ⟨a_, w_, h_⟩; exact h_) (.tmp 21) (.tmp 23) 38 3 (.int .i64 0) 8 rfl Tryz.underlying38 info3 rfl (by decide) (by omega) (.slice A0 acc.length c0) acc (c : Int) [.int .i64 (c : Int)] (fun _ => True) (fun _ => False) rfl rfl rfl (fun _ hk => hk.elim) (fun _ _ => trivial) HRw.out (HI.out.2.2.2.2.2.1.trans (HB2.out.mono hWs)) (Nat.le_trans hWs hb2.size) (by omega) ?_
        intro v3 w3 ho3 hb3 hg3 hat3
        obtain ⟨A3, c3, rfl⟩ := Kd.R_slice ho3
        have k3 := blk_grown HK4.out hg3 (fun e => FAR.out e.symm)
        have y4 : w3.cell? ⟨w.heap.size + 1 + 1, 0, none⟩ = some (.slice A0 acc.length c0) := (blk_cell k3 0).trans rfl
        have z4 := blk_frozen k3 0
        have HO := Aside0.mk (And.intro ho3 (And.intro hb3 (And.intro hg3 (And.intro hat3 k3))))
        clear ho3 hb3 hg3 hat3 k3
        gi_wp2
        have hb2 := HB2.out
        have hWs := HI.out.2.2.2.2.2.1.size
        have hsz0 := HS.out.2.2.2.2.2.2.2
        have hE : acc.length + 1 = (acc ++ [(c : Int)]).length := by simp
        rw [hE]
        obtain ⟨W3, hW3⟩ : ∃ W3, W3 = w3.setCell ⟨w.heap.size + 1 + 1, 0, none⟩ (.slice A3 (acc ++ [(c : Int)]).length c3) := ⟨_, rfl⟩
        rw [← hW3]
        have g23 : w3.grownBy W3 (some (w.heap.size + 1 + 1)) := by rw [hW3]; exact grownBy_set w3 ⟨w.heap.size + 1 + 1, 0, none⟩ _
        have hgs := HO.out.2.2.1.size
        have keep : ∀ b, b < W.heap.size → b ≠ w.heap.size + 1 + 1 → (Value.slice A0 acc.length c0).ownBlock ≠ some b → W3.heap[b]? = W.heap[b]? := fun b h1 h2 h3 => (g23.block b (Nat.lt_of_lt_of_le h1 (Nat.le_trans hb2.size hgs)) (fun e => h2 (by injection e))).trans ((HO.out.2.2.1.block b (Nat.lt_of_lt_of_le h1 hb2.size) (fun e => h3 e.symm)).trans (hb2.block b h1))
        have own3 := R_lt3 HO.out.1
        have nown : ∀ b cs ty, W.heap[b]? = some (.cells cs ty (0, 0)) → ty ≠ 3 → (Value.slice A0 acc.length c0).ownBlock ≠ some b := fun b cs ty h1 h2 e => by
          obtain ⟨cs', hh⟩ := (R_lt3 HI.out.2.2.2.2.1 _ e).2.2
          rw [h1] at hh
          injection hh with hh
          injection hh with _ hh
          exact h2 hh
        refine ⟨fun b hb => ?_, ⟨g23.os.trans (HO.out.2.2.1.os.trans hb2.os), g23.tape.trans (HO.out.2.2.1.tape.trans hb2.tape), g23.output.trans (HO.out.2.2.1.output.trans hb2.output), Nat.le_trans hb2.size (Nat.le_trans hgs g23.size), fun b hb => keep b (by omega) (by omega) (fun e => by have := (R_lt3 HI.out.2.2.2.2.1 b e).2.1; omega)⟩, .slice A3 (acc ++ [(c : Int)]).length c3, acc ++ [(c : Int)], ?_, ?_, ?_, ?_, R_turn3 HO.out.1 (fun b hb => g23.block b (own3 b hb).1 (fun e => ?_)), ?_, by simp; exact HI.out.2.2.2.2.2.2.1, fun b hb => ⟨(HI.out.2.2.2.2.2.2.2 b hb).1, fun e => ?_, ?_⟩⟩
        · exact keep b (HI.out.2.2.2.2.2.2.2 b hb).2.2 (by have := (HI.out.2.2.2.2.2.2.2 b hb).1; omega) (HI.out.2.2.2.2.2.2.2 b hb).2.1
        · rw [List.map_append]
          exact seqL_snoc _ _ _ HI.out.1 _ HP.out
        · have h_ := blk_set HO.out.2.2.2.2 0 (.slice A3 (acc ++ [(c : Int)]).length c3)
          rw [← hW3] at h_
          exact h_
        · exact (keep _ (blk_lt HI.out.2.2.1) (by omega) (nown _ _ _ HI.out.2.2.1 (by decide))).trans HI.out.2.2.1
        · exact (keep _ (blk_lt HI.out.2.2.2.1) (by omega) (nown _ _ _ HI.out.2.2.2.1 (by decide))).trans HI.out.2.2.2.1
        · injection e with e
          obtain ⟨cs', hh⟩ := (own3 b hb).2.2
          rw [e, HO.out.2.2.2.2] at hh
          injection hh with hh
          injection hh with _ hh
          cases hh
        · exact ⟨g23.os.trans HO.out.2.1.os, g23.tape.trans HO.out.2.1.tape, g23.output.trans HO.out.2.1.output, Nat.le_trans HO.out.2.1.size g23.size, fun b hb => (g23.block b (Nat.lt_of_lt_of_le hb HO.out.2.1.size) (fun e => by injection e with e; omega)).trans (HO.out.2.1.block b hb)⟩
        · rcases HO.out.2.2.2.1 with h | ⟨b', h, h2⟩
          · exact (HI.out.2.2.2.2.2.2.2 b hb).2.1 (by rw [← h]; exact e)
          · rw [e] at h
            injection h with h
            have h9 := (HI.out.2.2.2.2.2.2.2 b hb).2.2
            have h10 := hb2.size
            omega
        · exact Nat.lt_of_lt_of_le (HI.out.2.2.2.2.2.2.2 b hb).2.2 (Nat.le_trans hb2.size (Nat.le_trans hgs g23.size))
    case done =>
      rintro Z W hI hD
      obtain ⟨v, acc, h1, h2, h3, h4, h5, h6, h7, h8⟩ := hI
      obtain ⟨A0, c0, rfl⟩ := Kd.R_slice h5
      have y4 : W.cell? ⟨w.heap.size + 1 + 1, 0, none⟩ = some (.slice A0 acc.length c0) := (blk_cell h2 0).trans rfl
      have y2 : W.cell? ⟨w.heap.size, 0, none⟩ = some (.slice none 0 0) := (blk_cell h3 0).trans rfl
      have y3 : W.cell? ⟨w.heap.size + 1, 0, none⟩ = some (.int .i64 0) := (blk_cell h4 0).trans rfl
      have z2 := blk_frozen h3 0
      have z3 := blk_frozen h4 0
      have HI := Aside0.mk (And.intro h1 (And.intro h2 (And.intro h3 (And.intro h4 (And.intro h5 (And.intro h6 (And.intro h7 h8)))))))
      have HD := Aside0.mk hD
      clear h1 h2 h3 h4 h5 h6 h7 h8 hD
      gi_wp2
      go_wp2
      have hsz0 := HS.out.2.2.2.2.2.2.2
      have hrs := HR.out.2.2.2.2
      have hWs := HI.out.2.2.2.2.2.1.size
      obtain ⟨W3, hW3⟩ : ∃ W3, W3 = W.setCell ⟨w.heap.size, 0, none⟩ (.slice A0 acc.length c0) := ⟨_, rfl⟩
      rw [← hW3]
      obtain ⟨W4, hW4⟩ : ∃ W4, W4 = W3.setCell ⟨w.heap.size + 1, 0, none⟩ (.int .i64 0) := ⟨_, rfl⟩
      rw [← hW4]
      have g3 : W.grownBy W3 (some w.heap.size) := by rw [hW3]; exact grownBy_set W ⟨w.heap.size, 0, none⟩ _
      have g4 : W3.grownBy W4 (some (w.heap.size + 1)) := by rw [hW4]; exact grownBy_set W3 ⟨w.heap.size + 1, 0, none⟩ _
      have m0 : W3.heap[w.heap.size]? = some (.cells #[.slice A0 acc.length c0] 38 (0, 0)) := by have h_ := blk_set HI.out.2.2.1 0 (.slice A0 acc.length c0); rw [← hW3] at h_; exact h_
      have m1 : W3.heap[w.heap.size + 1]? = some (.cells #[.int .i64 0] 28 (0, 0)) := (g3.block _ (blk_lt HI.out.2.2.2.1) (fun e => by injection e with e; omega)).trans HI.out.2.2.2.1
      have m0' : W4.heap[w.heap.size]? = some (.cells #[.slice A0 acc.length c0] 38 (0, 0)) := (g4.block _ (blk_lt m0) (fun e => by injection e with e; omega)).trans m0
      have m1' : W4.heap[w.heap.size + 1]? = some (.cells #[.int .i64 0] 28 (0, 0)) := by have h_ := blk_set m1 0 (.int .i64 0); rw [← hW4] at h_; exact h_
      have keep : ∀ b, b < W.heap.size → b ≠ w.heap.size → b ≠ w.heap.size + 1 → W4.heap[b]? = W.heap[b]? := fun b h1 h2 h3 =>
        (g4.block b (Nat.lt_of_lt_of_le h1 g3.size) (fun e => h3 (by injection e))).trans (g3.block b h1 (fun e => h2 (by injection e)))
      have hD4 : W4.heap[Wr.heap.size]? = some (.deferred (some [])) := (keep _ (by
        by_cases hh : Wr.heap.size < W.heap.size
        · exact hh
        · exfalso
          have h_ := HD.out
          rw [Array.getElem?_eq_none (Nat.le_of_not_lt hh)] at h_
          cases h_) (by omega) (by omega)).trans HD.out
      have nown : ∀ b ob, W.heap[b]? = some ob → (∀ cs, ob ≠ .cells cs 3 (0, 0)) → (Value.slice A0 acc.length c0).ownBlock ≠ some b := fun b ob h1 h2 e => by
        obtain ⟨cs', hh⟩ := (R_lt3 HI.out.2.2.2.2.1 _ e).2.2
        rw [h1] at hh
        injection hh with hh
        exact h2 _ hh
      have hS : seqS s.data.toList = (acc, 0) := by
        unfold seqS
        rw [if_neg HDN.out, ← cutB_map, HI.out.1]
      rw [hS]
      refine ⟨by simp, .inl ⟨_, _, rfl, run_takeDeferred hD4, ?_⟩⟩
      refine ⟨_, results_two rfl _ _ ⟨w.heap.size, 0, none⟩ ⟨w.heap.size + 1, 0, none⟩ (.slice A0 acc.length c0) 0 rfl rfl ?_ ?_, _, rfl, ?_, ?_⟩
      · exact (blk_cell ((World.putObj_heap_other (by omega)).trans m0') 0).trans rfl
      · exact (blk_cell ((World.putObj_heap_other (by omega)).trans m1') 0).trans rfl
      · refine R_turn3 HI.out.2.2.2.2.1 (fun b hb => ?_)
        have n1 : b ≠ Wr.heap.size := fun e => nown _ _ HD.out (fun cs h => by cases h) (by rw [← e]; exact hb)
        have n2 : b ≠ w.heap.size := fun e => nown _ _ HI.out.2.2.1 (fun cs h => by cases h) (by rw [← e]; exact hb)
        have n3 : b ≠ w.heap.size + 1 := fun e => nown _ _ HI.out.2.2.2.1 (fun cs h => by cases h) (by rw [← e]; exact hb)
        exact (World.putObj_heap_other n1).trans (keep b (R_lt3 HI.out.2.2.2.2.1 b hb).1 n2 n3)
      · exact Go.RowKit.Below.trans ⟨g4.os.trans (g3.os.trans HI.out.2.2.2.2.2.1.os), g4.tape.trans (g3.tape.trans HI.out.2.2.2.2.2.1.tape), g4.output.trans (g3.output.trans HI.out.2.2.2.2.2.1.output), Nat.le_trans hWs (Nat.le_trans g3.size g4.size), fun b hb => (keep b (by omega) (by omega) (by omega)).trans (HI.out.2.2.2.2.2.1.block b hb)⟩ (below_put W4 Wr.heap.size w.heap.size _ (by omega))
    case stop =>
      rintro cc pre x r W hx2 ⟨rfl, h1, h2, h3, h4⟩ hD
      have hx3 := h1
      have hS : seqS s.data.toList = ([], 13) := by
        unfold seqS
        rw [if_neg HDN.out, h1]
      have hsz0 := HS.out.2.2.2.2.2.2.2
      have hrs := HR.out.2.2.2.2
      gi_wp2
      go_wp2
      rw [hS]
      refine ⟨by simp, .inl ⟨_, _, rfl, run_takeDeferred hD, ?_⟩⟩
      refine ⟨_, results_two rfl _ _ ⟨w.heap.size, 0, none⟩ ⟨w.heap.size + 1, 0, none⟩ (.slice none 0 0) 13 rfl rfl ?_ ?_, _, rfl, Kd.R_nil _ _ _ _ _, h4.trans (below_put W Wr.heap.size w.heap.size _ (by omega))⟩
      · exact (blk_cell ((World.putObj_heap_other (by omega)).trans h2) 0).trans rfl
      · exact (blk_cell ((World.putObj_heap_other (by omega)).trans h3) 0).trans rfl
end Go.Proofs.YtebgebgkieglhaaGreatDoor.FieldW
end
section
/- field: a line's fields, plainly, and the walk of 'fields'. -/
namespace Go.Proofs.YtebgebgkieglhaaGreatDoor.FieldW
open Go.RowKit Go.Shelf Go.Lib Go.Proofs Go.Proofs.YtebgebgkieglhaaGreatDoorW.PrintWords Go.Proofs.YtebgebgkieglhaaGreatDoorW.PrintLast Go.Proofs.YtebgebgkieglhaaGreatDoorW.PrintMore Go.Proofs.YtebgebgkieglhaaGreatDoor.PRef
set_option linter.unusedVariables false
set_option linter.unusedSimpArgs false

theorem toList_mk (l : List UInt8) : (⟨l.toArray⟩ : ByteArray).toList = l := by
  rw [ByteArray.toList_eq]
/-- A text's pieces, cut by an octet. -/
def cutC (c : UInt8) : List UInt8 → List (List UInt8)
  | [] => [[]]
  | b :: r => if b == c then [] :: cutC c r else (b :: (cutC c r).headD []) :: (cutC c r).tail
theorem cutC_ne (c : UInt8) : ∀ l : List UInt8, cutC c l ≠ []
  | [] => by simp [cutC]
  | b :: r => by rw [cutC]; split <;> simp
theorem cutC_none (c : UInt8) : ∀ l : List UInt8, Lib.indexByte l c < 0 → cutC c l = [l]
  | [], _ => rfl
  | b :: r, h => by
    rw [Lib.indexByte] at h
    rw [cutC]
    by_cases hb : (b == c) = true
    · rw [if_pos hb] at h; omega
    · rw [if_neg hb] at h
      by_cases h1 : (Lib.indexByte r c == -1) = true
      · have h2 : Lib.indexByte r c < 0 := by have := beq_iff_eq.1 h1; omega
        rw [if_neg hb, cutC_none c r h2]; rfl
      · rw [if_neg h1] at h
        have h3 := indexByte_le r c
        have h4 : Lib.indexByte r c ≠ -1 := fun e => h1 (by rw [e]; rfl)
        omega
theorem cutC_some (c : UInt8) : ∀ (l : List UInt8) (i : Nat), Lib.indexByte l c = i → cutC c l = l.take i :: cutC c (l.drop (i + 1)) ∧ i < l.length
  | [], i, h => by simp [Lib.indexByte] at h
  | b :: r, i, h => by
    rw [Lib.indexByte] at h
    rw [cutC]
    by_cases hb : (b == c) = true
    · rw [if_pos hb] at h
      obtain rfl : i = 0 := by omega
      rw [if_pos hb]
      exact ⟨by simp, by simp⟩
    · rw [if_neg hb] at h
      by_cases h1 : (Lib.indexByte r c == -1) = true
      · rw [if_pos h1] at h; omega
      · rw [if_neg h1] at h
        obtain ⟨j, rfl⟩ : ∃ j, i = j + 1 := ⟨i - 1, by have h3 := indexByte_le r c; have h4 : Lib.indexByte r c ≠ -1 := (fun e => h1 (by rw [e]; rfl)); omega⟩
        obtain ⟨h5, h6⟩ := cutC_some c r j (by omega)
        rw [if_neg hb, h5]
        exact ⟨by simp, by simp; omega⟩
theorem splitK_cutC (c : UInt8) : ∀ (k : Nat) (l : List UInt8), Lib.count l [c] = k → Lib.splitK [c] 0 k l = cutC c l
  | 0, l, h => by
    rw [Lib.splitK]
    by_cases hi : Lib.indexByte l c < 0
    · exact (cutC_none c l hi).symm
    · obtain ⟨i, hi2⟩ : ∃ i : Nat, Lib.indexByte l c = i := ⟨(Lib.indexByte l c).toNat, by omega⟩
      have := Lib.count_hit (s := l) (sub := [c]) (by simp) (by rw [Lib.index_one]; exact hi2)
      omega
  | k + 1, l, h => by
    by_cases hi : Lib.indexByte l c = -1
    · have := Lib.count_miss (s := l) (sub := [c]) (by rw [Lib.index_one]; exact hi)
      omega
    · have hl := indexByte_le l c
      obtain ⟨i, hi2⟩ : ∃ i : Nat, Lib.indexByte l c = i := ⟨(Lib.indexByte l c).toNat, by omega⟩
      have hh := Lib.count_hit (s := l) (sub := [c]) (by simp) (by rw [Lib.index_one]; exact hi2)
      have hb : ¬ (Lib.index l [c] == -1) = true := by rw [Lib.index_one, beq_iff_eq]; exact hi
      have e : (Lib.index l [c]).toNat = i := by rw [Lib.index_one, hi2]; rfl
      rw [Lib.splitK, if_neg hb, e, (cutC_some c l i hi2).1]
      have ih := splitK_cutC c k (l.drop (i + 1)) (by simp at hh; omega)
      rw [← ih]
      rfl
/-- The pieces, as texts. -/
def pieceB (c : UInt8) (s : ByteArray) : List ByteArray := (cutC c s.data.toList).map fun p => ⟨p.toArray⟩
theorem map_data_inj : ∀ (a b : List ByteArray), a.map (·.data.toList) = b.map (·.data.toList) → a = b
  | [], [], _ => rfl
  | [], _ :: _, h => by cases h
  | _ :: _, [], h => by cases h
  | x :: a, y :: b, h => by
    rw [List.map_cons, List.map_cons] at h
    injection h with h1 h2
    rw [map_data_inj a b h2, ByteArray.ext (Array.toList_inj.1 h1)]
theorem splitB_piece (c : UInt8) (s : ByteArray) : Lib.splitB ⟨#[c]⟩ 0 (Lib.countB s ⟨#[c]⟩) s = pieceB c s := by
  apply map_data_inj
  rw [Lib.splitB_data]
  show Lib.splitK [c] 0 (Lib.countB s ⟨#[c]⟩) s.data.toList = _
  rw [splitK_cutC c _ _ rfl]
  simp [pieceB, Function.comp_def]
theorem pieceB_len (c : UInt8) (s : ByteArray) : (pieceB c s).length = Lib.countB s ⟨#[c]⟩ + 1 := by
  rw [← splitB_piece]
  exact Lib.splitB_all ⟨#[c]⟩ (by show 1 ≤ 1; omega) 0 _ s rfl
theorem cutC_len (c : UInt8) : ∀ l : List UInt8, (cutC c l).length ≤ l.length + 1
  | [] => by simp [cutC]
  | b :: r => by
    have h := cutC_len c r
    have h2 := cutC_ne c r
    have h3 : 0 < (cutC c r).length := List.length_pos_iff.2 h2
    rw [cutC]
    split
    · simp; omega
    · simp; omega
theorem hi9 : (Tryz.prog.info? (Tryz.splitL_ren.t 9)).map (fun i => (i.zero, i.size, i.bytes)) = some (some (.string ByteArray.empty), 1, 16) := by kernel_rfl
theorem h116 : (Tryz.prog.info? (Tryz.trimL_ren.t 116)).map (fun i => (i.zero, i.size)) = some (some (.agg (Array.replicate 256 (.bool false))), 256) := by kernel_rfl
theorem split_c (c : UInt8) (s : ByteArray) (w : World) (m : Int) (hs : s.size < 4294967281) (hm : w.cell? ⟨1, 0, none⟩ = some (.int .i64 m)) :
    Calls Tryz.prog 93 #[.string s, .string ⟨#[c]⟩] w fun e w' => e = .returned (.slice (some ⟨w.heap.size, 0, none⟩) (pieceB c s).length (pieceB c s).length) ∧ w' = w.alloc (.cells ((pieceB c s).map Value.string).toArray 9) := by
  have h := Any.strings_Split Tryz.splitL hi9 s ⟨#[c]⟩ m w hs hm (by show 1 ≤ 1; omega)
  rw [splitB_piece, ← pieceB_len] at h
  exact h
/-- Without blanks and tabs at both ends. -/
def trimW (x : ByteArray) : ByteArray := ⟨(Lib.trimS x.data.toList [32, 9]).toArray⟩
theorem trim_c (x : ByteArray) (w : World) (hs : x.size ≤ 9223372036854775807) :
    Calls Tryz.prog 113 #[.string x, .string ⟨#[32, 9]⟩] w fun e w' => e = .returned (.string (trimW x)) ∧ Go.RowKit.Below w.heap.size w w' :=
  Any.strings_Trim_laid Tryz.trimL h116 x ⟨#[32, 9]⟩ w hs (by decide) (ascii_of_all (by decide))
/-- What stands ahead of a line's remark. -/
def bodyB (s : ByteArray) : ByteArray := ⟨(Lib.cut s.data.toList [35]).1.toArray⟩
theorem cut_c (s : ByteArray) (w : World) (m : Int) (hs : s.size < 4294967281) (hm : w.cell? ⟨1, 0, none⟩ = some (.int .i64 m)) :
    Calls Tryz.prog 112 #[.string s, .string ⟨#[35]⟩] w fun e w' => (∃ x y, e = .returned (.tuple #[.string (bodyB s), .string x, .bool y])) ∧ Go.RowKit.Below w.heap.size w w' :=
  (Any.strings_Cut Tryz.cutL s ⟨#[35]⟩ m w hs hm).mono fun e w' ⟨h1, n, h2⟩ => ⟨⟨_, _, h1⟩, by rw [h2]; exact pw_below_drewN (Go.RowKit.Below.refl _ _) _⟩
theorem bodyB_len (s : ByteArray) : (bodyB s).size ≤ s.size := by
  have h : (Lib.cut s.data.toList [35]).1.length ≤ s.data.toList.length := by
    unfold Lib.cut
    split
    · simp; omega
    · exact Nat.le_refl _
  have h2 : s.data.toList.length = s.size := by simp
  show (Lib.cut s.data.toList [35]).1.toArray.size ≤ s.size
  rw [List.size_toArray]; omega
/-- A line's fields; none: it has none. -/
def fieldsB (s : ByteArray) : List ByteArray := if Lib.trimS (bodyB s).data.toList [32, 9] = [] then [] else (pieceB 59 (bodyB s)).map trimW
/-- The pieces, the first ones trimmed. -/
def partW (l : List ByteArray) (i : Nat) : List ByteArray := (l.take i).map trimW ++ l.drop i
theorem partW_all (l : List ByteArray) : partW l l.length = l.map trimW := by simp [partW]
theorem partW_at (l : List ByteArray) (i : Nat) (h : i < l.length) : (partW l i)[i]? = some l[i] := by
  unfold partW
  rw [List.getElem?_append_right (by simp; omega)]
  simp [List.getElem?_drop, Nat.min_eq_left (Nat.le_of_lt h)]
theorem partW_next (l : List ByteArray) (i : Nat) (h : i < l.length) : (partW l i).set i (trimW l[i]) = partW l (i + 1) := by
  apply List.ext_getElem?
  intro j
  unfold partW
  rw [List.getElem?_set]
  by_cases hj : i = j
  · subst hj
    rw [if_pos rfl, if_pos (by simp; omega), List.getElem?_append_left (by simp; omega)]
    simp [h]
  · rw [if_neg hj]
    by_cases hl : j < i
    · rw [List.getElem?_append_left (by simp; omega), List.getElem?_append_left (by simp; omega)]
      simp [List.getElem?_take, hl, show j < i + 1 by omega]
    · rw [List.getElem?_append_right (by simp; omega), List.getElem?_append_right (by simp; omega)]
      simp only [List.length_map, List.length_take, List.getElem?_drop]
      congr 1
      omega
theorem R_row {w : World} {B base : Nat} {xs : List ByteArray} (h : w.heap[B]? = some (.cells (xs.map Value.string).toArray 9 (0, 0))) (hb : base ≤ B) (hl : xs.length ≤ maxLen) :
    Kd.R Kd.string 9 w base (fun _ => True) (.slice (some ⟨B, 0, none⟩) xs.length xs.length) xs :=
  Kd.R_of_own ⟨by simp [encs], .inr ⟨B, xs.length, _, rfl, hb, h, Nat.le_refl _, hl, by simp, by simp [encs, List.take_of_length_le]⟩⟩ (fun _ _ => trivial)
theorem cutC_bytes (c : UInt8) : ∀ (l : List UInt8) (p : List UInt8), p ∈ cutC c l → p.length ≤ l.length
  | [], p, h => by simp [cutC] at h; subst h; simp
  | b :: r, p, h => by
    rw [cutC] at h
    split at h
    · rcases List.mem_cons.1 h with h | h
      · subst h; simp
      · have := cutC_bytes c r p h; simp; omega
    · rcases List.mem_cons.1 h with h | h
      · subst h
        have : ((cutC c r).headD []).length ≤ r.length := by
          cases hq : cutC c r with
          | nil => simp
          | cons x t => exact cutC_bytes c r x (by rw [hq]; simp)
        rw [List.length_cons, List.length_cons]; omega
      · have := cutC_bytes c r p (List.mem_of_mem_tail h); simp; omega
theorem pieceB_size (c : UInt8) (s : ByteArray) : ∀ x ∈ pieceB c s, x.size ≤ s.size := by
  intro x hx
  unfold pieceB at hx
  rw [List.mem_map] at hx
  obtain ⟨p, hp, rfl⟩ := hx
  have h := cutC_bytes c _ p hp
  have h2 : s.data.toList.length = s.size := by simp
  show p.toArray.size ≤ s.size
  rw [List.size_toArray]; omega
end Go.Proofs.YtebgebgkieglhaaGreatDoor.FieldW
end
section
/- field: the walk of 'fields'. -/
namespace Go.Proofs.YtebgebgkieglhaaGreatDoor.FieldW
open Go.RowKit Go.Shelf Go.Lib Go.Proofs Go.Proofs.YtebgebgkieglhaaGreatDoorW.PrintWords Go.Proofs.YtebgebgkieglhaaGreatDoorW.PrintLast Go.Proofs.YtebgebgkieglhaaGreatDoorW.PrintMore Go.Proofs.YtebgebgkieglhaaGreatDoor.PRef
set_option linter.unusedVariables false
set_option linter.unusedSimpArgs false

set_option maxRecDepth 100000 in
set_option maxHeartbeats 4000000 in
theorem fields_calls (s : ByteArray) (w : World) (m : Int) (hs : s.size ≤ 1000000) (hm : w.cell? ⟨1, 0, none⟩ = some (.int .i64 m)) :
    Calls Tryz.prog 96 #[.string s] w fun e w' => ∃ v, e = .returned v ∧ Kd.R Kd.string 9 w' w.heap.size (fun _ => True) v (fieldsB s) ∧ (fieldsB s = [] → v = .slice none 0 0) ∧ Go.RowKit.Below w.heap.size w w' := by
  obtain ⟨b, hb⟩ : ∃ b, b = bodyB s := ⟨_, rfl⟩
  have hbl : b.size ≤ 1000000 := by have := bodyB_len s; rw [hb]; omega
  have C1 := Aside0.mk (cut_c s w m (by omega) hm)
  rw [← hb] at C1
  have C2 : Aside0 (∀ (x : ByteArray) (W : World), x.size ≤ 9223372036854775807 → Calls Tryz.prog 113 #[.string x, .string ⟨#[32, 9]⟩] W fun e w' => e = .returned (.string (trimW x)) ∧ Go.RowKit.Below W.heap.size W w') := ⟨fun x W h => trim_c x W h⟩
  have hm1 := lt_of_cell hm
  have HM := Aside0.mk (And.intro hm hm1)
  have C3 : Aside0 (∀ (W : World), Go.RowKit.Below w.heap.size w W → Calls Tryz.prog 93 #[.string b, .string ⟨#[59]⟩] W fun e w' => e = .returned (.slice (some ⟨W.heap.size, 0, none⟩) (pieceB 59 b).length (pieceB 59 b).length) ∧ w' = W.alloc (.cells ((pieceB 59 b).map Value.string).toArray 9)) := ⟨fun W h => split_c 59 b W m (by omega) ((h.cell (p := ⟨1, 0, none⟩) HM.out.2).trans HM.out.1)⟩
  clear hm hm1
  by_cases hT : Lib.trimS b.data.toList [32, 9] = []
  · have hF : fieldsB s = [] := by unfold fieldsB; rw [← hb, if_pos hT]
    have hb0 : ((trimW b).toList == []) = true := by rw [show (trimW b).toList = Lib.trimS b.data.toList [32, 9] from toList_mk _, hT]; rfl
    have C2b := Aside0.mk (C2.out b)
    obtain ⟨t, ht⟩ : ∃ t, t = trimW b := ⟨_, rfl⟩
    rw [← ht] at hb0 C2b
    clear C2 hT hb ht
    go_enter Tryz.func96, Tryz.ntmps96
    go_wp2_with (first
      | (go_at_call 112; refine C1.out.mono ?_; rintro e w2 ⟨⟨x, y, rfl⟩, hq⟩; have HB := Aside0.mk hq; clear hq)
      | (go_at_call 113; refine (C2b.out _ (by omega)).mono ?_; rintro e w3 ⟨rfl, hq⟩; have HB3 := Aside0.mk (below_step HB.out hq); clear hq))
    go_ret
    exact ⟨_, rfl, by rw [hF]; exact Kd.R_nil _ _ _ _ _, fun _ => rfl, HB3.out⟩
  · have hF : fieldsB s = (pieceB 59 b).map trimW := by unfold fieldsB; rw [← hb, if_neg hT]
    have hb0 : ((trimW b).toList == []) = false := by rw [show (trimW b).toList = Lib.trimS b.data.toList [32, 9] from toList_mk _, beq_eq_false_iff_ne]; exact hT
    have hpl : (pieceB 59 b).length ≤ 1000001 := by
      have h1 := cutC_len 59 b.data.toList
      have h2 : b.data.toList.length = b.size := by simp
      simp [pieceB] at h1 ⊢
      omega
    have hne : pieceB 59 b ≠ [] := fun e => cutC_ne 59 b.data.toList (List.map_eq_nil_iff.1 e)
    have hps : ∀ x ∈ pieceB 59 b, x.size ≤ 9223372036854775807 := fun x hx => by have := pieceB_size 59 b x hx; omega
    have C2b := Aside0.mk (C2.out b)
    obtain ⟨t, ht⟩ : ∃ t, t = trimW b := ⟨_, rfl⟩
    rw [← ht] at hb0 C2b
    obtain ⟨ps, hpp⟩ : ∃ ps, ps = pieceB 59 b := ⟨_, rfl⟩
    rw [← hpp] at hF hpl C3 hne hps
    have HPS := Aside0.mk hps
    have HNE := Aside0.mk hne
    have hplz : (ps.length : Int) ≤ 1000001 := by omega
    clear hT hb ht hpp hps hne
    go_enter Tryz.func96, Tryz.ntmps96
    go_wp2_with (first
      | (go_at_call 112; refine C1.out.mono ?_; rintro e w2 ⟨⟨x, y, rfl⟩, hq⟩; have HB := Aside0.mk hq; clear hq C1)
      | (go_at_call 113; refine (C2b.out _ (by omega)).mono ?_; rintro e w3 ⟨rfl, hq⟩; have HB3 := Aside0.mk (below_step HB.out hq); clear hq C2b)
      | (go_at_call 93; refine (C3.out _ HB3.out).mono ?_; rintro e w4 ⟨rfl, hq⟩; have HQ := Aside0.mk hq; clear hq C3))
    obtain ⟨B, hB⟩ : ∃ B, B = w3.heap.size := ⟨_, rfl⟩
    rw [← hB]
    have hrow : w4.heap[B]? = some (.cells ((partW ps 0).map Value.string).toArray 9 (0, 0)) := by
      rw [HQ.out, hB]; exact heap_alloc_new _ _
    have hbel : Go.RowKit.Below w.heap.size w w4 := by rw [HQ.out]; exact below_alloc HB3.out _
    have hBw : w.heap.size ≤ B := by rw [hB]; exact HB3.out.size
    have HR := Aside0.mk (And.intro hrow (And.intro hbel hBw))
    clear hrow hbel hBw HQ hB HB3 HB
    go_loopg [7, 21] ps.length (fun gg _ s21 wr => ∃ kk : Nat, kk ≤ ps.length ∧ ps.length - kk ≤ gg ∧ s21 = .int .i64 kk ∧ Aside0 (wr.heap[B]? = some (.cells ((partW ps kk).map Value.string).toArray 9 (0, 0)) ∧ Go.RowKit.Below w.heap.size w wr))
    case atStart => exact ⟨0, Nat.zero_le _, by omega, rfl, ⟨HR.out.1, HR.out.2.1⟩⟩
    case round =>
      obtain ⟨kk, hkk, hg, rfl, HI⟩ := hrel
      by_cases hlt : kk < ps.length
      · have hltz : (kk : Int) < (ps.length : Int) := by omega
        obtain ⟨x, hx⟩ : ∃ x, x = ps[kk] := ⟨_, rfl⟩
        have hcell : wr.cell? ⟨B, kk, none⟩ = some (.string x) := by
          rw [blk_cell HI.out.1, List.getElem?_toArray, List.getElem?_map, partW_at ps kk hlt, hx]; rfl
        have hxs : x.size ≤ 9223372036854775807 := HPS.out x (by rw [hx]; exact List.getElem_mem hlt)
        have HX := Aside0.mk hx
        clear hx
        go_wp2_with (go_at_call 113; refine (C2.out x wr hxs).mono ?_; rintro e w5 ⟨rfl, hq⟩; have hrow5 := (hq.block B (blk_lt HI.out.1)).trans HI.out.1; have hcell5 : w5.cell? ⟨B, kk, none⟩ = some (.string x) := (hq.cell (p := ⟨B, kk, none⟩) (blk_lt HI.out.1)).trans hcell; have hfz5 := blk_frozen hrow5 kk; have H5 := Aside0.mk (And.intro hrow5 (below_step HI.out.2 hq)); clear hq hrow5)
        go_roundg (ps.length - (kk + 1))
        case measure => omega
        case rel =>
          refine ⟨kk + 1, by omega, by omega, by go_num, ⟨?_, ?_⟩⟩
          · have h := blk_set H5.out.1 kk (.string (trimW x))
            rw [List.setIfInBounds_toArray, ← List.map_set, HX.out, partW_next ps kk hlt] at h
            rw [HX.out]
            exact h
          · exact H5.out.2.setCell (p := ⟨B, kk, none⟩) HR.out.2.2 _
      · have hltz : ¬ (kk : Int) < (ps.length : Int) := by omega
        have : kk = ps.length := by omega
        subst this
        go_wp2
        go_ret
        have hl : (ps.map trimW).length = ps.length := by simp
        refine ⟨_, rfl, ?_, ?_, HI.out.2⟩
        · have h1 := HI.out.1
          rw [partW_all] at h1
          have h2 := R_row h1 HR.out.2.2 (by rw [hl]; unfold maxLen; omega)
          rw [hl] at h2
          exact hF ▸ h2
        · intro h
          exact absurd (by simpa [hF] using h) HNE.out
end Go.Proofs.YtebgebgkieglhaaGreatDoor.FieldW
end
