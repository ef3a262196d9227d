/-
 DERIVED: THE SHELF's CONTRACTS AT THIS DUMP,IN PLAIN WORDS (tools/lay-plain.mjs out of 'YtnhahcomgeeobaaShelfT.lean',which tools/lay-shelf.mjs wrote): THE SAME DECLARATIONS UNDER THE SAME NAMES: 'import','namespace','open','def','theorem' AND NOTHING ELSE: no command of the shelf's: FOR A HAND-IN. Each laying: the table of numbers ('.._ren') and one theorem,a field a fact of the dump's own or the kernel's comparison; each contract: ONE APPLICATION.
-/
import Derived.Shelf.Strings.OnBuilder
import Derived.Shelf.Spec.BitsCarry
import Derived.Shelf.Spec.SlicesGrow
import Derived.Shelf.SlicesE.Reverse
import Derived.Test.YtnhahcomgeeobaaRows
set_option linter.all false
namespace Go.Proofs
open Go.Shelf
def Try.lays156_ren : Go.Shelf.Ren := ⟨fun | 156 => 64 | 165 => 79 | 166 => 80 | 169 => 81 | 240 => 95 | 241 => 96 | 276 => 99 | 277 => 100 | n => n,fun | 31 => 140 | 9 => 9 | 3 => 3 | 4 => 4 | 0 => 0 | 20 => 20 | 72 => 165 | 76 => 169 | 70 => 162 | 37 => 163 | 75 => 168 | 127 => 186 | 164 => 188 | 5 => 5 | 80 => 171 | n => n,fun | n => n⟩
theorem Try.lays156 : Go.Proofs.Lays.n156 Try.prog Try.lays156_ren := {
 mixed := by kernel_rfl
 f156 := Try.func64.trans (congrArg some (by kernel_rfl))
 f165 := Try.func79.trans (congrArg some (by kernel_rfl))
 f166 := Try.func80.trans (congrArg some (by kernel_rfl))
 f169 := Try.func81.trans (congrArg some (by kernel_rfl))
 f240 := Try.func95.trans (congrArg some (by kernel_rfl))
 f241 := Try.func96.trans (congrArg some (by kernel_rfl))
 f276 := Try.func99.trans (congrArg some (by kernel_rfl))
 f277 := Try.func100.trans (congrArg some (by kernel_rfl))
 t0 := Try.underlying0
 a0 := Try.isAgg0
 z0 := Try.sizeOf0
 v0 := Try.zeroValue0
 t3 := Try.underlying3
 a3 := Try.isAgg3
 z3 := Try.sizeOf3
 v3 := Try.zeroValue3
 t4 := Try.underlying4
 a4 := Try.isAgg4
 z4 := Try.sizeOf4
 v4 := Try.zeroValue4
 t9 := Try.underlying9
 a9 := Try.isAgg9
 z9 := Try.sizeOf9
 v9 := Try.zeroValue9
 t20 := Try.underlying20
 a20 := Try.isAgg20
 z20 := Try.sizeOf20
 v20 := Try.zeroValue20
 t31 := Try.underlying140
 a31 := Try.isAgg140
 z31 := Try.sizeOf140
 v31 := Try.zeroValue140
 t37 := Try.underlying163
 a37 := Try.isAgg163
 z37 := Try.sizeOf163
 v37 := Try.zeroValue163
 t70 := Try.underlying162
 a70 := Try.isAgg162
 z70 := Try.sizeOf162
 v70 := Try.zeroValue162
 t72 := Try.underlying165
 a72 := Try.isAgg165
 z72 := Try.sizeOf165
 v72 := Try.zeroValue165
 t75 := Try.underlying168
 a75 := Try.isAgg168
 z75 := Try.sizeOf168
 v75 := Try.zeroValue168
 t76 := Try.underlying169
 a76 := Try.isAgg169
 z76 := Try.sizeOf169
 v76 := Try.zeroValue169
 t127 := Try.underlying186
 a127 := Try.isAgg186
 z127 := Try.sizeOf186
 v127 := Try.zeroValue186
 t164 := Try.underlying188
 a164 := Try.isAgg188
 z164 := Try.sizeOf188
 v164 := Try.zeroValue188 }
theorem Try.Builder_Extra_156 : Builder.Extra Try.prog Try.lays156_ren := {
 sizeBuilder := by kernel_rfl
 liesBuilder := by kernel_rfl
 t5 := Try.underlying5
 a5 := Try.isAgg5
 z5 := Try.sizeOf5
 v5 := Try.zeroValue5
 infoByte := by kernel_rfl
 cellsByte := by kernel_rfl
 sizeByte := by kernel_rfl
 neB5 := by decide }
def Try.lays25_ren : Go.Shelf.Ren := ⟨fun | 25 => 87 | n => n,fun | 22 => 177 | n => n,fun | n => n⟩
theorem Try.lays25 : Go.Proofs.Lays7.n25 Try.prog Try.lays25_ren := {
 mixed := by kernel_rfl
 f25 := Try.func87.trans (congrArg some (by kernel_rfl))
 t22 := Try.underlying177
 a22 := Try.isAgg177
 z22 := Try.sizeOf177
 v22 := Try.zeroValue177
 i22 := by kernel_rfl }
def Try.laysRev_ren : Go.Shelf.Ren := ⟨fun | 35 => 93 | n => n,fun | 22 => 163 | 23 => 5 | 3 => 3 | 4 => 4 | 0 => 0 | n => n,fun | n => n⟩
theorem Try.laysRev : Go.Proofs.SlLaysE.n35 Try.prog Try.laysRev_ren := {
 mixed := by kernel_rfl
 f35 := ⟨Try.f93.name,by decide,Try.func93.trans (congrArg some (by kernel_rfl))⟩
 t0 := Try.underlying0
 a0 := Try.isAgg0
 z0 := Try.sizeOf0
 v0 := Try.zeroValue0
 t3 := Try.underlying3
 a3 := Try.isAgg3
 z3 := Try.sizeOf3
 v3 := Try.zeroValue3
 t4 := Try.underlying4
 a4 := Try.isAgg4
 z4 := Try.sizeOf4
 v4 := Try.zeroValue4
 t22 := Try.underlying163
 a22 := Try.isAgg163
 z22 := Try.sizeOf163
 v22 := Try.zeroValue163
 a23 := Try.isAgg5
 z23 := Try.sizeOf5 }
def Try.laysGrow_ren : Go.Shelf.Ren := ⟨fun | 4 => 94 | n => n,fun | 22 => 140 | 25 => 9 | 3 => 3 | 4 => 4 | 9 => 9 | 20 => 20 | 0 => 0 | n => n,fun | n => n⟩
theorem Try.laysGrow : Go.Proofs.Lays8.n4 Try.prog Try.laysGrow_ren := {
 mixed := by kernel_rfl
 f4 := ⟨Try.f94.name,by decide,Try.func94.trans (congrArg some (by kernel_rfl))⟩
 t0 := Try.underlying0
 a0 := Try.isAgg0
 z0 := Try.sizeOf0
 v0 := Try.zeroValue0
 t3 := Try.underlying3
 a3 := Try.isAgg3
 z3 := Try.sizeOf3
 v3 := Try.zeroValue3
 t4 := Try.underlying4
 a4 := Try.isAgg4
 z4 := Try.sizeOf4
 v4 := Try.zeroValue4
 t9 := Try.underlying9
 a9 := Try.isAgg9
 z9 := Try.sizeOf9
 v9 := Try.zeroValue9
 t20 := Try.underlying20
 a20 := Try.isAgg20
 z20 := Try.sizeOf20
 v20 := Try.zeroValue20
 t22 := Try.underlying140
 a22 := Try.isAgg140
 z22 := Try.sizeOf140
 v22 := Try.zeroValue140 }
end Go.Proofs
