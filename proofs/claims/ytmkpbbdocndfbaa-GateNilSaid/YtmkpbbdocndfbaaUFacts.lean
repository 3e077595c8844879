/- PRINTED by wip/facts.py (own program): what is known of this program's types, fields and functions. -/
import Derived.Test.YtmkpbbdocndfbaaUBA
import Derived.Test.YtmkpbbdocndfbaaProg
namespace Go.Proofs.Ytmkpbbdocndfbaa
open Go.Proofs
instance : Wide Try.prog := ⟨by kernel_rfl⟩
instance : TI Try.prog 3 false 1 (Value.int IntKind.i64 0) := ⟨Try.isAgg3, Try.sizeOf3, Try.zeroValue3⟩
instance : TI Try.prog 4 false 1 (Value.bool false) := ⟨Try.isAgg4, Try.sizeOf4, Try.zeroValue4⟩
instance : TI Try.prog 24 false 1 (Value.pointer none) := ⟨Try.isAgg24, Try.sizeOf24, Try.zeroValue24⟩
instance : TI Try.prog 26 false 1 (Value.slice none 0 0) := ⟨Try.isAgg26, Try.sizeOf26, Try.zeroValue26⟩
instance : TI Try.prog 28 true 3 (Value.agg #[Value.int IntKind.i64 0, Value.int IntKind.i64 0, Value.slice none 0 0]) := ⟨Try.isAgg28, Try.sizeOf28, Try.zeroValue28⟩
instance : TI Try.prog 31 false 1 (Value.slice none 0 0) := ⟨Try.isAgg31, Try.sizeOf31, Try.zeroValue31⟩
instance : TI Try.prog 33 true 5 (Value.agg #[Value.slice none 0 0, Value.int IntKind.i64 0, Value.int IntKind.i64 0, Value.int IntKind.i64 0, Value.int IntKind.i64 0]) := ⟨Try.isAgg33, Try.sizeOf33, Try.zeroValue33⟩
instance : TI Try.prog 35 true 7 (Value.agg #[Value.int IntKind.i64 0, Value.int IntKind.i64 0, Value.slice none 0 0, Value.int IntKind.i64 0, Value.int IntKind.i64 0, Value.int IntKind.i64 0, Value.int IntKind.i64 0]) := ⟨Try.isAgg35, Try.sizeOf35, Try.zeroValue35⟩
instance : TI Try.prog 61 true 11 (Value.agg #[Value.int IntKind.i64 0, Value.int IntKind.i64 0, Value.int IntKind.i64 0, Value.int IntKind.i64 0, Value.int IntKind.i64 0, Value.int IntKind.i64 0, Value.int IntKind.i64 0, Value.int IntKind.i64 0, Value.int IntKind.i64 0, Value.int IntKind.i64 0, Value.int IntKind.i64 0]) := ⟨Try.isAgg61, Try.sizeOf61, Try.zeroValue61⟩
instance : TI Try.prog 63 true 6 (Value.agg #[Value.int IntKind.i64 0, Value.int IntKind.i64 0, Value.int IntKind.i64 0, Value.int IntKind.i64 0, Value.int IntKind.i64 0, Value.slice none 0 0]) := ⟨Try.isAgg63, Try.sizeOf63, Try.zeroValue63⟩
instance : TI Try.prog 79 true 4 (Value.agg #[Value.int IntKind.i64 0, Value.int IntKind.i64 0, Value.int IntKind.i64 0, Value.int IntKind.i64 0]) := ⟨Try.isAgg79, Try.sizeOf79, Try.zeroValue79⟩
instance : TI Try.prog 81 true 19 (Value.agg #[Value.int IntKind.i64 0, Value.int IntKind.i64 0, Value.int IntKind.i64 0, Value.int IntKind.i64 0, Value.int IntKind.i64 0, Value.int IntKind.i64 0, Value.int IntKind.i64 0, Value.int IntKind.i64 0, Value.int IntKind.i64 0, Value.int IntKind.i64 0, Value.int IntKind.i64 0, Value.int IntKind.i64 0, Value.int IntKind.i64 0, Value.slice none 0 0, Value.int IntKind.i64 0, Value.int IntKind.i64 0, Value.int IntKind.i64 0, Value.int IntKind.i64 0, Value.int IntKind.i64 0]) := ⟨Try.isAgg81, Try.sizeOf81, Try.zeroValue81⟩
instance : TI Try.prog 87 false 1 (Value.pointer none) := ⟨Try.isAgg87, Try.sizeOf87, Try.zeroValue87⟩
instance : TI Try.prog 100 true 3 (Value.agg #[Value.int IntKind.i64 0, Value.int IntKind.i64 0, Value.int IntKind.i64 0]) := ⟨Try.isAgg100, Try.sizeOf100, Try.zeroValue100⟩
instance : TI Try.prog 113 true 2 (Value.agg #[Value.int IntKind.i64 0, Value.int IntKind.i64 0]) := ⟨Try.isAgg113, Try.sizeOf113, Try.zeroValue113⟩
instance : TI Try.prog 120 true 4 (Value.agg #[Value.int IntKind.i64 0, Value.int IntKind.i64 0, Value.int IntKind.i64 0, Value.int IntKind.i64 0]) := ⟨Try.isAgg120, Try.sizeOf120, Try.zeroValue120⟩
instance : TI Try.prog 122 true 8 (Value.agg #[Value.int IntKind.i64 0, Value.int IntKind.i64 0, Value.slice none 0 0, Value.int IntKind.i64 0, Value.int IntKind.i64 0, Value.int IntKind.i64 0, Value.int IntKind.i64 0, Value.slice none 0 0]) := ⟨Try.isAgg122, Try.sizeOf122, Try.zeroValue122⟩
instance : TI Try.prog 136 true 9 (Value.agg #[Value.int IntKind.i64 0, Value.int IntKind.i64 0, Value.int IntKind.i64 0, Value.int IntKind.i64 0, Value.slice none 0 0, Value.int IntKind.i64 0, Value.int IntKind.i64 0, Value.int IntKind.i64 0, Value.int IntKind.i64 0]) := ⟨Try.isAgg136, Try.sizeOf136, Try.zeroValue136⟩
instance : TI Try.prog 139 true 3 (Value.agg #[Value.int IntKind.i64 0, Value.int IntKind.i64 0, Value.slice none 0 0]) := ⟨Try.isAgg139, Try.sizeOf139, Try.zeroValue139⟩
instance : TI Try.prog 143 false 1 Value.nilFunc := ⟨Try.isAgg143, Try.sizeOf143, Try.zeroValue143⟩
instance : TI Try.prog 148 false 1 (Value.slice none 0 0) := ⟨Try.isAgg148, Try.sizeOf148, Try.zeroValue148⟩
instance : TI Try.prog 149 false 1 (Value.slice none 0 0) := ⟨Try.isAgg149, Try.sizeOf149, Try.zeroValue149⟩
instance : TI Try.prog 151 true 5 (Value.agg #[Value.int IntKind.i64 0, Value.int IntKind.i64 0, Value.slice none 0 0, Value.slice none 0 0, Value.slice none 0 0]) := ⟨Try.isAgg151, Try.sizeOf151, Try.zeroValue151⟩
instance : TI Try.prog 154 false 1 (Value.pointer none) := ⟨Try.isAgg154, Try.sizeOf154, Try.zeroValue154⟩
instance : TI Try.prog 157 true 14 (Value.agg #[Value.int IntKind.i64 0, Value.int IntKind.i64 0, Value.int IntKind.i64 0, Value.int IntKind.i64 0, Value.int IntKind.i64 0, Value.int IntKind.i64 0, Value.int IntKind.i64 0, Value.int IntKind.i64 0, Value.int IntKind.i64 0, Value.int IntKind.i64 0, Value.int IntKind.i64 0, Value.pointer none, Value.pointer none, Value.int IntKind.i64 0]) := ⟨Try.isAgg157, Try.sizeOf157, Try.zeroValue157⟩
instance : TI Try.prog 163 false 1 (Value.map none) := ⟨Try.isAgg163, Try.sizeOf163, Try.zeroValue163⟩
instance : TI Try.prog 165 true 2 (Value.agg #[Value.map none, Value.int IntKind.i64 0]) := ⟨Try.isAgg165, Try.sizeOf165, Try.zeroValue165⟩
instance : TI Try.prog 167 true 2 (Value.agg #[Value.int IntKind.i64 0, Value.int IntKind.i64 0]) := ⟨Try.isAgg167, Try.sizeOf167, Try.zeroValue167⟩
instance : TI Try.prog 175 true 4 (Value.agg #[Value.pointer none, Value.int IntKind.i64 0, Value.slice none 0 0, Value.slice none 0 0]) := ⟨Try.isAgg175, Try.sizeOf175, Try.zeroValue175⟩
instance : TI Try.prog 185 true 3 (Value.agg #[Value.int IntKind.i64 0, Value.int IntKind.i64 0, Value.int IntKind.i64 0]) := ⟨Try.isAgg185, Try.sizeOf185, Try.zeroValue185⟩
instance : TI Try.prog 189 true 4 (Value.agg #[Value.int IntKind.i64 0, Value.int IntKind.i64 0, Value.int IntKind.i64 0, Value.int IntKind.i64 0]) := ⟨Try.isAgg189, Try.sizeOf189, Try.zeroValue189⟩
instance : TI Try.prog 215 false 1 (Value.int IntKind.u64 0) := ⟨Try.isAgg215, Try.sizeOf215, Try.zeroValue215⟩
instance : FI Try.prog 28 0 0 := ⟨fun a w => by simp [Instr.fieldAt, Instr.sureAddr, fieldPlace, Try.runUnderlying28, Try.sizeOf3]⟩
instance : FI Try.prog 28 1 1 := ⟨fun a w => by simp [Instr.fieldAt, Instr.sureAddr, fieldPlace, Try.runUnderlying28, Try.sizeOf3]⟩
instance : FI Try.prog 28 2 2 := ⟨fun a w => by simp [Instr.fieldAt, Instr.sureAddr, fieldPlace, Try.runUnderlying28, Try.sizeOf26]⟩
instance : FI Try.prog 33 0 0 := ⟨fun a w => by simp [Instr.fieldAt, Instr.sureAddr, fieldPlace, Try.runUnderlying33, Try.sizeOf31]⟩
instance : FI Try.prog 33 1 1 := ⟨fun a w => by simp [Instr.fieldAt, Instr.sureAddr, fieldPlace, Try.runUnderlying33, Try.sizeOf3]⟩
instance : FI Try.prog 33 2 2 := ⟨fun a w => by simp [Instr.fieldAt, Instr.sureAddr, fieldPlace, Try.runUnderlying33, Try.sizeOf3]⟩
instance : FI Try.prog 33 3 3 := ⟨fun a w => by simp [Instr.fieldAt, Instr.sureAddr, fieldPlace, Try.runUnderlying33, Try.sizeOf3]⟩
instance : FI Try.prog 33 4 4 := ⟨fun a w => by simp [Instr.fieldAt, Instr.sureAddr, fieldPlace, Try.runUnderlying33, Try.sizeOf3]⟩
instance : FI Try.prog 35 0 0 := ⟨fun a w => by simp [Instr.fieldAt, Instr.sureAddr, fieldPlace, Try.runUnderlying35, Try.sizeOf3]⟩
instance : FI Try.prog 35 1 1 := ⟨fun a w => by simp [Instr.fieldAt, Instr.sureAddr, fieldPlace, Try.runUnderlying35, Try.sizeOf3]⟩
instance : FI Try.prog 35 2 2 := ⟨fun a w => by simp [Instr.fieldAt, Instr.sureAddr, fieldPlace, Try.runUnderlying35, Try.sizeOf33]⟩
instance : FI Try.prog 61 0 0 := ⟨fun a w => by simp [Instr.fieldAt, Instr.sureAddr, fieldPlace, Try.runUnderlying61, Try.sizeOf3]⟩
instance : FI Try.prog 61 1 1 := ⟨fun a w => by simp [Instr.fieldAt, Instr.sureAddr, fieldPlace, Try.runUnderlying61, Try.sizeOf3]⟩
instance : FI Try.prog 61 2 2 := ⟨fun a w => by simp [Instr.fieldAt, Instr.sureAddr, fieldPlace, Try.runUnderlying61, Try.sizeOf3]⟩
instance : FI Try.prog 61 3 3 := ⟨fun a w => by simp [Instr.fieldAt, Instr.sureAddr, fieldPlace, Try.runUnderlying61, Try.sizeOf3]⟩
instance : FI Try.prog 61 4 4 := ⟨fun a w => by simp [Instr.fieldAt, Instr.sureAddr, fieldPlace, Try.runUnderlying61, Try.sizeOf3]⟩
instance : FI Try.prog 61 5 5 := ⟨fun a w => by simp [Instr.fieldAt, Instr.sureAddr, fieldPlace, Try.runUnderlying61, Try.sizeOf3]⟩
instance : FI Try.prog 61 6 6 := ⟨fun a w => by simp [Instr.fieldAt, Instr.sureAddr, fieldPlace, Try.runUnderlying61, Try.sizeOf3]⟩
instance : FI Try.prog 61 7 7 := ⟨fun a w => by simp [Instr.fieldAt, Instr.sureAddr, fieldPlace, Try.runUnderlying61, Try.sizeOf3]⟩
instance : FI Try.prog 61 8 8 := ⟨fun a w => by simp [Instr.fieldAt, Instr.sureAddr, fieldPlace, Try.runUnderlying61, Try.sizeOf3]⟩
instance : FI Try.prog 61 9 9 := ⟨fun a w => by simp [Instr.fieldAt, Instr.sureAddr, fieldPlace, Try.runUnderlying61, Try.sizeOf3]⟩
instance : FI Try.prog 61 10 10 := ⟨fun a w => by simp [Instr.fieldAt, Instr.sureAddr, fieldPlace, Try.runUnderlying61, Try.sizeOf3]⟩
instance : FI Try.prog 63 0 0 := ⟨fun a w => by simp [Instr.fieldAt, Instr.sureAddr, fieldPlace, Try.runUnderlying63, Try.sizeOf3]⟩
instance : FI Try.prog 63 1 1 := ⟨fun a w => by simp [Instr.fieldAt, Instr.sureAddr, fieldPlace, Try.runUnderlying63, Try.sizeOf3]⟩
instance : FI Try.prog 63 2 2 := ⟨fun a w => by simp [Instr.fieldAt, Instr.sureAddr, fieldPlace, Try.runUnderlying63, Try.sizeOf3]⟩
instance : FI Try.prog 63 3 3 := ⟨fun a w => by simp [Instr.fieldAt, Instr.sureAddr, fieldPlace, Try.runUnderlying63, Try.sizeOf3]⟩
instance : FI Try.prog 63 4 4 := ⟨fun a w => by simp [Instr.fieldAt, Instr.sureAddr, fieldPlace, Try.runUnderlying63, Try.sizeOf3]⟩
instance : FI Try.prog 63 5 5 := ⟨fun a w => by simp [Instr.fieldAt, Instr.sureAddr, fieldPlace, Try.runUnderlying63, Try.sizeOf31]⟩
instance : FI Try.prog 79 0 0 := ⟨fun a w => by simp [Instr.fieldAt, Instr.sureAddr, fieldPlace, Try.runUnderlying79, Try.sizeOf3]⟩
instance : FI Try.prog 79 1 1 := ⟨fun a w => by simp [Instr.fieldAt, Instr.sureAddr, fieldPlace, Try.runUnderlying79, Try.sizeOf3]⟩
instance : FI Try.prog 79 2 2 := ⟨fun a w => by simp [Instr.fieldAt, Instr.sureAddr, fieldPlace, Try.runUnderlying79, Try.sizeOf3]⟩
instance : FI Try.prog 79 3 3 := ⟨fun a w => by simp [Instr.fieldAt, Instr.sureAddr, fieldPlace, Try.runUnderlying79, Try.sizeOf3]⟩
instance : FI Try.prog 81 0 0 := ⟨fun a w => by simp [Instr.fieldAt, Instr.sureAddr, fieldPlace, Try.runUnderlying81, Try.sizeOf61]⟩
instance : FI Try.prog 81 1 11 := ⟨fun a w => by simp [Instr.fieldAt, Instr.sureAddr, fieldPlace, Try.runUnderlying81, Try.sizeOf28]⟩
instance : FI Try.prog 81 2 14 := ⟨fun a w => by simp [Instr.fieldAt, Instr.sureAddr, fieldPlace, Try.runUnderlying81, Try.sizeOf79]⟩
instance : FI Try.prog 81 3 18 := ⟨fun a w => by simp [Instr.fieldAt, Instr.sureAddr, fieldPlace, Try.runUnderlying81, Try.sizeOf3]⟩
instance : FI Try.prog 100 0 0 := ⟨fun a w => by simp [Instr.fieldAt, Instr.sureAddr, fieldPlace, Try.runUnderlying100, Try.sizeOf3]⟩
instance : FI Try.prog 100 1 1 := ⟨fun a w => by simp [Instr.fieldAt, Instr.sureAddr, fieldPlace, Try.runUnderlying100, Try.sizeOf3]⟩
instance : FI Try.prog 100 2 2 := ⟨fun a w => by simp [Instr.fieldAt, Instr.sureAddr, fieldPlace, Try.runUnderlying100, Try.sizeOf3]⟩
instance : FI Try.prog 113 0 0 := ⟨fun a w => by simp [Instr.fieldAt, Instr.sureAddr, fieldPlace, Try.runUnderlying113, Try.sizeOf3]⟩
instance : FI Try.prog 113 1 1 := ⟨fun a w => by simp [Instr.fieldAt, Instr.sureAddr, fieldPlace, Try.runUnderlying113, Try.sizeOf3]⟩
instance : FI Try.prog 120 0 0 := ⟨fun a w => by simp [Instr.fieldAt, Instr.sureAddr, fieldPlace, Try.runUnderlying120, Try.sizeOf3]⟩
instance : FI Try.prog 120 1 1 := ⟨fun a w => by simp [Instr.fieldAt, Instr.sureAddr, fieldPlace, Try.runUnderlying120, Try.sizeOf3]⟩
instance : FI Try.prog 120 3 3 := ⟨fun a w => by simp [Instr.fieldAt, Instr.sureAddr, fieldPlace, Try.runUnderlying120, Try.sizeOf3]⟩
instance : FI Try.prog 122 0 0 := ⟨fun a w => by simp [Instr.fieldAt, Instr.sureAddr, fieldPlace, Try.runUnderlying122, Try.sizeOf3]⟩
instance : FI Try.prog 122 1 1 := ⟨fun a w => by simp [Instr.fieldAt, Instr.sureAddr, fieldPlace, Try.runUnderlying122, Try.sizeOf3]⟩
instance : FI Try.prog 122 2 2 := ⟨fun a w => by simp [Instr.fieldAt, Instr.sureAddr, fieldPlace, Try.runUnderlying122, Try.sizeOf33]⟩
instance : FI Try.prog 122 3 7 := ⟨fun a w => by simp [Instr.fieldAt, Instr.sureAddr, fieldPlace, Try.runUnderlying122, Try.sizeOf26]⟩
instance : FI Try.prog 136 0 0 := ⟨fun a w => by simp [Instr.fieldAt, Instr.sureAddr, fieldPlace, Try.runUnderlying136, Try.sizeOf3]⟩
instance : FI Try.prog 136 1 1 := ⟨fun a w => by simp [Instr.fieldAt, Instr.sureAddr, fieldPlace, Try.runUnderlying136, Try.sizeOf3]⟩
instance : FI Try.prog 136 2 2 := ⟨fun a w => by simp [Instr.fieldAt, Instr.sureAddr, fieldPlace, Try.runUnderlying136, Try.sizeOf3]⟩
instance : FI Try.prog 136 3 3 := ⟨fun a w => by simp [Instr.fieldAt, Instr.sureAddr, fieldPlace, Try.runUnderlying136, Try.sizeOf3]⟩
instance : FI Try.prog 136 4 4 := ⟨fun a w => by simp [Instr.fieldAt, Instr.sureAddr, fieldPlace, Try.runUnderlying136, Try.sizeOf33]⟩
instance : FI Try.prog 139 0 0 := ⟨fun a w => by simp [Instr.fieldAt, Instr.sureAddr, fieldPlace, Try.runUnderlying139, Try.sizeOf3]⟩
instance : FI Try.prog 139 1 1 := ⟨fun a w => by simp [Instr.fieldAt, Instr.sureAddr, fieldPlace, Try.runUnderlying139, Try.sizeOf3]⟩
instance : FI Try.prog 139 2 2 := ⟨fun a w => by simp [Instr.fieldAt, Instr.sureAddr, fieldPlace, Try.runUnderlying139, Try.sizeOf26]⟩
instance : FI Try.prog 151 0 0 := ⟨fun a w => by simp [Instr.fieldAt, Instr.sureAddr, fieldPlace, Try.runUnderlying151, Try.sizeOf3]⟩
instance : FI Try.prog 151 1 1 := ⟨fun a w => by simp [Instr.fieldAt, Instr.sureAddr, fieldPlace, Try.runUnderlying151, Try.sizeOf3]⟩
instance : FI Try.prog 151 2 2 := ⟨fun a w => by simp [Instr.fieldAt, Instr.sureAddr, fieldPlace, Try.runUnderlying151, Try.sizeOf148]⟩
instance : FI Try.prog 151 3 3 := ⟨fun a w => by simp [Instr.fieldAt, Instr.sureAddr, fieldPlace, Try.runUnderlying151, Try.sizeOf149]⟩
instance : FI Try.prog 151 4 4 := ⟨fun a w => by simp [Instr.fieldAt, Instr.sureAddr, fieldPlace, Try.runUnderlying151, Try.sizeOf31]⟩
instance : FI Try.prog 157 0 0 := ⟨fun a w => by simp [Instr.fieldAt, Instr.sureAddr, fieldPlace, Try.runUnderlying157, Try.sizeOf61]⟩
instance : FI Try.prog 157 1 11 := ⟨fun a w => by simp [Instr.fieldAt, Instr.sureAddr, fieldPlace, Try.runUnderlying157, Try.sizeOf24]⟩
instance : FI Try.prog 157 2 12 := ⟨fun a w => by simp [Instr.fieldAt, Instr.sureAddr, fieldPlace, Try.runUnderlying157, Try.sizeOf154]⟩
instance : FI Try.prog 157 3 13 := ⟨fun a w => by simp [Instr.fieldAt, Instr.sureAddr, fieldPlace, Try.runUnderlying157, Try.sizeOf3]⟩
instance : FI Try.prog 165 0 0 := ⟨fun a w => by simp [Instr.fieldAt, Instr.sureAddr, fieldPlace, Try.runUnderlying165, Try.sizeOf163]⟩
instance : FI Try.prog 165 1 1 := ⟨fun a w => by simp [Instr.fieldAt, Instr.sureAddr, fieldPlace, Try.runUnderlying165, Try.sizeOf3]⟩
instance : FI Try.prog 167 0 0 := ⟨fun a w => by simp [Instr.fieldAt, Instr.sureAddr, fieldPlace, Try.runUnderlying167, Try.sizeOf3]⟩
instance : FI Try.prog 175 0 0 := ⟨fun a w => by simp [Instr.fieldAt, Instr.sureAddr, fieldPlace, Try.runUnderlying175, Try.sizeOf87]⟩
instance : FI Try.prog 175 1 1 := ⟨fun a w => by simp [Instr.fieldAt, Instr.sureAddr, fieldPlace, Try.runUnderlying175, Try.sizeOf3]⟩
instance : FI Try.prog 175 2 2 := ⟨fun a w => by simp [Instr.fieldAt, Instr.sureAddr, fieldPlace, Try.runUnderlying175, Try.sizeOf26]⟩
instance : FI Try.prog 175 3 3 := ⟨fun a w => by simp [Instr.fieldAt, Instr.sureAddr, fieldPlace, Try.runUnderlying175, Try.sizeOf31]⟩
instance : FI Try.prog 185 0 0 := ⟨fun a w => by simp [Instr.fieldAt, Instr.sureAddr, fieldPlace, Try.runUnderlying185, Try.sizeOf3]⟩
instance : FI Try.prog 185 1 1 := ⟨fun a w => by simp [Instr.fieldAt, Instr.sureAddr, fieldPlace, Try.runUnderlying185, Try.sizeOf3]⟩
instance : FI Try.prog 185 2 2 := ⟨fun a w => by simp [Instr.fieldAt, Instr.sureAddr, fieldPlace, Try.runUnderlying185, Try.sizeOf3]⟩
instance : FI Try.prog 189 0 0 := ⟨fun a w => by simp [Instr.fieldAt, Instr.sureAddr, fieldPlace, Try.runUnderlying189, Try.sizeOf3]⟩
instance : FI Try.prog 189 1 1 := ⟨fun a w => by simp [Instr.fieldAt, Instr.sureAddr, fieldPlace, Try.runUnderlying189, Try.sizeOf3]⟩
instance : FI Try.prog 189 2 2 := ⟨fun a w => by simp [Instr.fieldAt, Instr.sureAddr, fieldPlace, Try.runUnderlying189, Try.sizeOf3]⟩
instance : FI Try.prog 189 3 3 := ⟨fun a w => by simp [Instr.fieldAt, Instr.sureAddr, fieldPlace, Try.runUnderlying189, Try.sizeOf3]⟩
instance : SI Try.prog 22 35 7 := ⟨Try.underlying22, Try.sizeOf35⟩
instance : SI Try.prog 26 33 5 := ⟨Try.underlying26, Try.sizeOf33⟩
instance : SI Try.prog 31 3 1 := ⟨Try.underlying31, Try.sizeOf3⟩
instance : SI Try.prog 73 63 6 := ⟨Try.underlying73, Try.sizeOf63⟩
instance : SI Try.prog 90 4 1 := ⟨Try.underlying90, Try.sizeOf4⟩
instance : SI Try.prog 97 100 3 := ⟨Try.underlying97, Try.sizeOf100⟩
instance : SI Try.prog 102 113 2 := ⟨Try.underlying102, Try.sizeOf113⟩
instance : SI Try.prog 115 120 4 := ⟨Try.underlying115, Try.sizeOf120⟩
instance : SI Try.prog 127 122 8 := ⟨Try.underlying127, Try.sizeOf122⟩
instance : SI Try.prog 133 136 9 := ⟨Try.underlying133, Try.sizeOf136⟩
instance : SI Try.prog 148 185 3 := ⟨Try.underlying148, Try.sizeOf185⟩
instance : SI Try.prog 149 61 11 := ⟨Try.underlying149, Try.sizeOf61⟩
instance : AI Try.prog 22 35 (Value.agg #[Value.int IntKind.i64 0, Value.int IntKind.i64 0, Value.slice none 0 0, Value.int IntKind.i64 0, Value.int IntKind.i64 0, Value.int IntKind.i64 0, Value.int IntKind.i64 0]) 7 72 := ⟨Try.underlying22, by kernel_rfl, rfl⟩
instance : AI Try.prog 26 33 (Value.agg #[Value.slice none 0 0, Value.int IntKind.i64 0, Value.int IntKind.i64 0, Value.int IntKind.i64 0, Value.int IntKind.i64 0]) 5 56 := ⟨Try.underlying26, by kernel_rfl, rfl⟩
instance : AI Try.prog 31 3 (Value.int IntKind.i64 0) 1 8 := ⟨Try.underlying31, by kernel_rfl, rfl⟩
instance : AI Try.prog 73 63 (Value.agg #[Value.int IntKind.i64 0, Value.int IntKind.i64 0, Value.int IntKind.i64 0, Value.int IntKind.i64 0, Value.int IntKind.i64 0, Value.slice none 0 0]) 6 64 := ⟨Try.underlying73, by kernel_rfl, rfl⟩
instance : AI Try.prog 90 4 (Value.bool false) 1 1 := ⟨Try.underlying90, by kernel_rfl, rfl⟩
instance : AI Try.prog 97 100 (Value.agg #[Value.int IntKind.i64 0, Value.int IntKind.i64 0, Value.int IntKind.i64 0]) 3 24 := ⟨Try.underlying97, by kernel_rfl, rfl⟩
instance : AI Try.prog 102 113 (Value.agg #[Value.int IntKind.i64 0, Value.int IntKind.i64 0]) 2 16 := ⟨Try.underlying102, by kernel_rfl, rfl⟩
instance : AI Try.prog 115 120 (Value.agg #[Value.int IntKind.i64 0, Value.int IntKind.i64 0, Value.int IntKind.i64 0, Value.int IntKind.i64 0]) 4 32 := ⟨Try.underlying115, by kernel_rfl, rfl⟩
instance : AI Try.prog 127 122 (Value.agg #[Value.int IntKind.i64 0, Value.int IntKind.i64 0, Value.slice none 0 0, Value.int IntKind.i64 0, Value.int IntKind.i64 0, Value.int IntKind.i64 0, Value.int IntKind.i64 0, Value.slice none 0 0]) 8 96 := ⟨Try.underlying127, by kernel_rfl, rfl⟩
instance : AI Try.prog 133 136 (Value.agg #[Value.int IntKind.i64 0, Value.int IntKind.i64 0, Value.int IntKind.i64 0, Value.int IntKind.i64 0, Value.slice none 0 0, Value.int IntKind.i64 0, Value.int IntKind.i64 0, Value.int IntKind.i64 0, Value.int IntKind.i64 0]) 9 88 := ⟨Try.underlying133, by kernel_rfl, rfl⟩
instance : AI Try.prog 148 185 (Value.agg #[Value.int IntKind.i64 0, Value.int IntKind.i64 0, Value.int IntKind.i64 0]) 3 24 := ⟨Try.underlying148, by kernel_rfl, rfl⟩
instance : AI Try.prog 149 61 (Value.agg #[Value.int IntKind.i64 0, Value.int IntKind.i64 0, Value.int IntKind.i64 0, Value.int IntKind.i64 0, Value.int IntKind.i64 0, Value.int IntKind.i64 0, Value.int IntKind.i64 0, Value.int IntKind.i64 0, Value.int IntKind.i64 0, Value.int IntKind.i64 0, Value.int IntKind.i64 0]) 11 88 := ⟨Try.underlying149, by kernel_rfl, rfl⟩
instance : PI Try.prog 15 := ⟨by simp [Program.pointee, Try.underlying15]⟩
instance : PI Try.prog 16 := ⟨by simp [Program.pointee, Try.underlying16]⟩
instance : PI Try.prog 17 := ⟨by simp [Program.pointee, Try.underlying17]⟩
instance : PI Try.prog 24 := ⟨by simp [Program.pointee, Try.underlying24]⟩
instance : PI Try.prog 68 := ⟨by simp [Program.pointee, Try.underlying68]⟩
instance : PI Try.prog 87 := ⟨by simp [Program.pointee, Try.underlying87]⟩
instance : PI Try.prog 116 := ⟨by simp [Program.pointee, Try.underlying116]⟩
instance : PI Try.prog 154 := ⟨by simp [Program.pointee, Try.underlying154]⟩
instance : PI Try.prog 219 := ⟨by simp [Program.pointee, Try.underlying219]⟩
instance : PI Try.prog 221 := ⟨by simp [Program.pointee, Try.underlying221]⟩
instance : PI Try.prog 232 := ⟨by simp [Program.pointee, Try.underlying232]⟩
instance : CI Try.prog 3 := ⟨Try.call3⟩
instance : CI Try.prog 4 := ⟨Try.call4⟩
instance : CI Try.prog 5 := ⟨Try.call5⟩
instance : CI Try.prog 6 := ⟨Try.call6⟩
instance : CI Try.prog 7 := ⟨Try.call7⟩
instance : CI Try.prog 8 := ⟨Try.call8⟩
instance : CI Try.prog 9 := ⟨Try.call9⟩
instance : CI Try.prog 10 := ⟨Try.call10⟩
instance : CI Try.prog 11 := ⟨Try.call11⟩
instance : CI Try.prog 12 := ⟨Try.call12⟩
instance : CI Try.prog 13 := ⟨Try.call13⟩
instance : CI Try.prog 14 := ⟨Try.call14⟩
instance : CI Try.prog 15 := ⟨Try.call15⟩
instance : CI Try.prog 16 := ⟨Try.call16⟩
instance : CI Try.prog 17 := ⟨Try.call17⟩
instance : CI Try.prog 18 := ⟨Try.call18⟩
instance : CI Try.prog 19 := ⟨Try.call19⟩
instance : CI Try.prog 20 := ⟨Try.call20⟩
instance : CI Try.prog 21 := ⟨Try.call21⟩
instance : CI Try.prog 22 := ⟨Try.call22⟩
instance : CI Try.prog 23 := ⟨Try.call23⟩
instance : CI Try.prog 24 := ⟨Try.call24⟩
instance : CI Try.prog 25 := ⟨Try.call25⟩
instance : CI Try.prog 26 := ⟨Try.call26⟩
instance : CI Try.prog 27 := ⟨Try.call27⟩
instance : CI Try.prog 28 := ⟨Try.call28⟩
instance : CI Try.prog 29 := ⟨Try.call29⟩
instance : CI Try.prog 30 := ⟨Try.call30⟩
instance : CI Try.prog 31 := ⟨Try.call31⟩
instance : CI Try.prog 32 := ⟨Try.call32⟩
instance : CI Try.prog 33 := ⟨Try.call33⟩
instance : CI Try.prog 34 := ⟨Try.call34⟩
instance : CI Try.prog 35 := ⟨Try.call35⟩
instance : CI Try.prog 36 := ⟨Try.call36⟩
instance : CI Try.prog 37 := ⟨Try.call37⟩
instance : CI Try.prog 38 := ⟨Try.call38⟩
instance : CI Try.prog 39 := ⟨Try.call39⟩
instance : CI Try.prog 40 := ⟨Try.call40⟩
instance : CI Try.prog 41 := ⟨Try.call41⟩
instance : CI Try.prog 42 := ⟨Try.call42⟩
instance : CI Try.prog 43 := ⟨Try.call43⟩
instance : CI Try.prog 44 := ⟨Try.call44⟩
instance : CI Try.prog 45 := ⟨Try.call45⟩
instance : CI Try.prog 46 := ⟨Try.call46⟩
instance : CI Try.prog 47 := ⟨Try.call47⟩
instance : CI Try.prog 48 := ⟨Try.call48⟩
instance : CI Try.prog 49 := ⟨Try.call49⟩
instance : CI Try.prog 50 := ⟨Try.call50⟩
instance : CI Try.prog 51 := ⟨Try.call51⟩
instance : CI Try.prog 52 := ⟨Try.call52⟩
instance : CI Try.prog 53 := ⟨Try.call53⟩
instance : CI Try.prog 54 := ⟨Try.call54⟩
instance : CI Try.prog 55 := ⟨Try.call55⟩
instance : CI Try.prog 56 := ⟨Try.call56⟩
instance : CI Try.prog 57 := ⟨Try.call57⟩
instance : CI Try.prog 58 := ⟨Try.call58⟩
instance : CI Try.prog 59 := ⟨Try.call59⟩
instance : CI Try.prog 60 := ⟨Try.call60⟩
instance : CI Try.prog 61 := ⟨Try.call61⟩
instance : CI Try.prog 62 := ⟨Try.call62⟩
instance : CI Try.prog 63 := ⟨Try.call63⟩
instance : CI Try.prog 64 := ⟨Try.call64⟩
instance : CI Try.prog 65 := ⟨Try.call65⟩
instance : CI Try.prog 66 := ⟨Try.call66⟩
instance : CI Try.prog 67 := ⟨Try.call67⟩
instance : CI Try.prog 68 := ⟨Try.call68⟩
instance : CI Try.prog 69 := ⟨Try.call69⟩
instance : CI Try.prog 70 := ⟨Try.call70⟩
instance : CI Try.prog 71 := ⟨Try.call71⟩
instance : CI Try.prog 72 := ⟨Try.call72⟩
instance : CI Try.prog 73 := ⟨Try.call73⟩
instance : CI Try.prog 74 := ⟨Try.call74⟩
instance : CI Try.prog 75 := ⟨Try.call75⟩
instance : CI Try.prog 76 := ⟨Try.call76⟩
instance : CI Try.prog 77 := ⟨Try.call77⟩
instance : CI Try.prog 78 := ⟨Try.call78⟩
instance : CI Try.prog 79 := ⟨Try.call79⟩
instance : CI Try.prog 80 := ⟨Try.call80⟩
instance : CI Try.prog 81 := ⟨Try.call81⟩
instance : CI Try.prog 82 := ⟨Try.call82⟩
instance : CI Try.prog 83 := ⟨Try.call83⟩
instance : CI Try.prog 84 := ⟨Try.call84⟩
instance : CI Try.prog 85 := ⟨Try.call85⟩
instance : CI Try.prog 86 := ⟨Try.call86⟩
instance : CI Try.prog 87 := ⟨Try.call87⟩
instance : CI Try.prog 88 := ⟨Try.call88⟩
instance : CI Try.prog 89 := ⟨Try.call89⟩
instance : CI Try.prog 90 := ⟨Try.call90⟩
instance : CI Try.prog 91 := ⟨Try.call91⟩
instance : CI Try.prog 92 := ⟨Try.call92⟩
instance : CI Try.prog 93 := ⟨Try.call93⟩
instance : CI Try.prog 94 := ⟨Try.call94⟩
instance : CI Try.prog 95 := ⟨Try.call95⟩
instance : CI Try.prog 96 := ⟨Try.call96⟩
instance : CI Try.prog 97 := ⟨Try.call97⟩
instance : CI Try.prog 98 := ⟨Try.call98⟩
instance : CI Try.prog 99 := ⟨Try.call99⟩
instance : CI Try.prog 100 := ⟨Try.call100⟩
instance : CI Try.prog 101 := ⟨Try.call101⟩
instance : CI Try.prog 102 := ⟨Try.call102⟩
instance : CI Try.prog 103 := ⟨Try.call103⟩
instance : CI Try.prog 104 := ⟨Try.call104⟩
instance : CI Try.prog 105 := ⟨Try.call105⟩
instance : CI Try.prog 106 := ⟨Try.call106⟩
instance : CI Try.prog 107 := ⟨Try.call107⟩
instance : CI Try.prog 108 := ⟨Try.call108⟩
instance : CI Try.prog 109 := ⟨Try.call109⟩
instance : CI Try.prog 110 := ⟨Try.call110⟩
instance : CI Try.prog 111 := ⟨Try.call111⟩
instance : CI Try.prog 112 := ⟨Try.call112⟩
instance : CI Try.prog 113 := ⟨Try.call113⟩
instance : CI Try.prog 114 := ⟨Try.call114⟩
instance : CI Try.prog 115 := ⟨Try.call115⟩
instance : CI Try.prog 116 := ⟨Try.call116⟩
instance : CI Try.prog 117 := ⟨Try.call117⟩
instance : CI Try.prog 118 := ⟨Try.call118⟩
instance : CI Try.prog 119 := ⟨Try.call119⟩
instance : CI Try.prog 120 := ⟨Try.call120⟩
instance : CI Try.prog 121 := ⟨Try.call121⟩
instance : CI Try.prog 122 := ⟨Try.call122⟩
instance : CI Try.prog 123 := ⟨Try.call123⟩
instance : CI Try.prog 124 := ⟨Try.call124⟩
instance : CI Try.prog 125 := ⟨Try.call125⟩
instance : CI Try.prog 126 := ⟨Try.call126⟩
instance : CI Try.prog 127 := ⟨Try.call127⟩
instance : CI Try.prog 128 := ⟨Try.call128⟩
instance : CI Try.prog 129 := ⟨Try.call129⟩
instance : CI Try.prog 130 := ⟨Try.call130⟩
instance : CI Try.prog 131 := ⟨Try.call131⟩
instance : CI Try.prog 132 := ⟨Try.call132⟩
instance : CI Try.prog 133 := ⟨Try.call133⟩
instance : CI Try.prog 134 := ⟨Try.call134⟩
instance : CI Try.prog 135 := ⟨Try.call135⟩
instance : CI Try.prog 136 := ⟨Try.call136⟩
instance : CI Try.prog 137 := ⟨Try.call137⟩
instance : CI Try.prog 138 := ⟨Try.call138⟩
instance : CI Try.prog 139 := ⟨Try.call139⟩
instance : CI Try.prog 140 := ⟨Try.call140⟩
instance : CI Try.prog 141 := ⟨Try.call141⟩
instance : CI Try.prog 142 := ⟨Try.call142⟩
instance : CI Try.prog 143 := ⟨Try.call143⟩
instance : CI Try.prog 144 := ⟨Try.call144⟩
instance : CI Try.prog 145 := ⟨Try.call145⟩
instance : CI Try.prog 146 := ⟨Try.call146⟩
instance : CI Try.prog 147 := ⟨Try.call147⟩
instance : CI Try.prog 148 := ⟨Try.call148⟩
instance : CI Try.prog 149 := ⟨Try.call149⟩
instance : CI Try.prog 150 := ⟨Try.call150⟩
instance : CI Try.prog 151 := ⟨Try.call151⟩
instance : CI Try.prog 152 := ⟨Try.call152⟩
instance : CI Try.prog 153 := ⟨Try.call153⟩
instance : CI Try.prog 154 := ⟨Try.call154⟩
instance : CI Try.prog 155 := ⟨Try.call155⟩
instance : CI Try.prog 156 := ⟨Try.call156⟩
instance : CI Try.prog 157 := ⟨Try.call157⟩
instance : CI Try.prog 158 := ⟨Try.call158⟩
instance : CI Try.prog 159 := ⟨Try.call159⟩
instance : CI Try.prog 160 := ⟨Try.call160⟩
instance : CI Try.prog 161 := ⟨Try.call161⟩
instance : CI Try.prog 162 := ⟨Try.call162⟩
instance : CI Try.prog 163 := ⟨Try.call163⟩
instance : CI Try.prog 164 := ⟨Try.call164⟩
instance : CI Try.prog 165 := ⟨Try.call165⟩
instance : CI Try.prog 166 := ⟨Try.call166⟩
instance : CI Try.prog 167 := ⟨Try.call167⟩
instance : CI Try.prog 168 := ⟨Try.call168⟩
instance : CI Try.prog 169 := ⟨Try.call169⟩
instance : CI Try.prog 170 := ⟨Try.call170⟩
instance : CI Try.prog 171 := ⟨Try.call171⟩
instance : CI Try.prog 172 := ⟨Try.call172⟩
instance : CI Try.prog 173 := ⟨Try.call173⟩
instance : CI Try.prog 174 := ⟨Try.call174⟩
instance : CI Try.prog 175 := ⟨Try.call175⟩
instance : CI Try.prog 176 := ⟨Try.call176⟩
instance : CI Try.prog 177 := ⟨Try.call177⟩
instance : CI Try.prog 178 := ⟨Try.call178⟩
instance : CI Try.prog 179 := ⟨Try.call179⟩
instance : CI Try.prog 180 := ⟨Try.call180⟩
instance : CI Try.prog 181 := ⟨Try.call181⟩
instance : CI Try.prog 182 := ⟨Try.call182⟩
instance : CI Try.prog 183 := ⟨Try.call183⟩
instance : CI Try.prog 184 := ⟨Try.call184⟩
instance : CI Try.prog 185 := ⟨Try.call185⟩
instance : CI Try.prog 186 := ⟨Try.call186⟩
instance : VI Try.prog 3 58 .u64 := ⟨⟨_, Try.underlying3⟩, Try.underlying58⟩
instance : VI Try.prog 3 202 .u64 := ⟨⟨_, Try.underlying3⟩, Try.underlying202⟩
instance : VI Try.prog 3 215 .u64 := ⟨⟨_, Try.underlying3⟩, Try.underlying215⟩
instance : VI Try.prog 5 3 .i64 := ⟨⟨_, Try.underlying5⟩, Try.underlying3⟩
instance : VI Try.prog 58 3 .i64 := ⟨⟨_, Try.underlying58⟩, Try.underlying3⟩
instance : VI Try.prog 58 213 .u32 := ⟨⟨_, Try.underlying58⟩, Try.underlying213⟩
instance : VI Try.prog 202 3 .i64 := ⟨⟨_, Try.underlying202⟩, Try.underlying3⟩
instance : VI Try.prog 202 5 .u8 := ⟨⟨_, Try.underlying202⟩, Try.underlying5⟩
instance : VI Try.prog 213 5 .u8 := ⟨⟨_, Try.underlying213⟩, Try.underlying5⟩
instance (v0 : Int) (v1 : Int) : BI Try.prog 28 [(0, .int .i64 v0), (1, .int .i64 v1)] [.int .i64 v0, .int .i64 v1, Value.slice none 0 0] := ⟨fun w => by simp [Instr.build, Instr.fill, Value.cells, Try.runUnderlying28, Try.zeroValue28, Try.sizeOf3, Try.sizeOf26]⟩
instance  : BI Try.prog 33 [] [Value.slice none 0 0, Value.int IntKind.i64 0, Value.int IntKind.i64 0, Value.int IntKind.i64 0, Value.int IntKind.i64 0] := ⟨fun w => by simp [Instr.build, Instr.fill, Value.cells, Try.runUnderlying33, Try.zeroValue33, Try.sizeOf3, Try.sizeOf31]⟩
instance (Av0 : Option Addr) (mv0 : Nat) (cv0 : Nat) (v1 : Int) (v2 : Int) (v3 : Int) (v4 : Int) : BI Try.prog 33 [(0, .slice Av0 mv0 cv0), (1, .int .i64 v1), (2, .int .i64 v2), (3, .int .i64 v3), (4, .int .i64 v4)] [.slice Av0 mv0 cv0, .int .i64 v1, .int .i64 v2, .int .i64 v3, .int .i64 v4] := ⟨fun w => by simp [Instr.build, Instr.fill, Value.cells, Try.runUnderlying33, Try.zeroValue33, Try.sizeOf3, Try.sizeOf31]⟩
instance (v1 : Int) (v4 : Int) (v3 : Int) : BI Try.prog 33 [(1, .int .i64 v1), (4, .int .i64 v4), (3, .int .i64 v3)] [Value.slice none 0 0, .int .i64 v1, Value.int IntKind.i64 0, .int .i64 v3, .int .i64 v4] := ⟨fun w => by simp [Instr.build, Instr.fill, Value.cells, Try.runUnderlying33, Try.zeroValue33, Try.sizeOf3, Try.sizeOf31]⟩
instance (v3 : Int) : BI Try.prog 33 [(3, .int .i64 v3)] [Value.slice none 0 0, Value.int IntKind.i64 0, Value.int IntKind.i64 0, .int .i64 v3, Value.int IntKind.i64 0] := ⟨fun w => by simp [Instr.build, Instr.fill, Value.cells, Try.runUnderlying33, Try.zeroValue33, Try.sizeOf3, Try.sizeOf31]⟩
instance (v4 : Int) : BI Try.prog 33 [(4, .int .i64 v4)] [Value.slice none 0 0, Value.int IntKind.i64 0, Value.int IntKind.i64 0, Value.int IntKind.i64 0, .int .i64 v4] := ⟨fun w => by simp [Instr.build, Instr.fill, Value.cells, Try.runUnderlying33, Try.zeroValue33, Try.sizeOf3, Try.sizeOf31]⟩
instance (v0 : Int) (v1 : Int) (v2 : Int) (v3 : Int) (v5 : Int) (v6 : Int) (v7 : Int) (v8 : Int) (v10 : Int) : BI Try.prog 61 [(0, .int .i64 v0), (1, .int .i64 v1), (2, .int .i64 v2), (3, .int .i64 v3), (5, .int .i64 v5), (6, .int .i64 v6), (7, .int .i64 v7), (8, .int .i64 v8), (10, .int .i64 v10)] [.int .i64 v0, .int .i64 v1, .int .i64 v2, .int .i64 v3, Value.int IntKind.i64 0, .int .i64 v5, .int .i64 v6, .int .i64 v7, .int .i64 v8, Value.int IntKind.i64 0, .int .i64 v10] := ⟨fun w => by simp [Instr.build, Instr.fill, Value.cells, Try.runUnderlying61, Try.zeroValue61, Try.sizeOf3]⟩
instance (v0 : Int) (v1 : Int) (v3 : Int) : BI Try.prog 61 [(0, .int .i64 v0), (1, .int .i64 v1), (3, .int .i64 v3)] [.int .i64 v0, .int .i64 v1, Value.int IntKind.i64 0, .int .i64 v3, Value.int IntKind.i64 0, Value.int IntKind.i64 0, Value.int IntKind.i64 0, Value.int IntKind.i64 0, Value.int IntKind.i64 0, Value.int IntKind.i64 0, Value.int IntKind.i64 0] := ⟨fun w => by simp [Instr.build, Instr.fill, Value.cells, Try.runUnderlying61, Try.zeroValue61, Try.sizeOf3]⟩
instance (v3 : Int) : BI Try.prog 61 [(3, .int .i64 v3)] [Value.int IntKind.i64 0, Value.int IntKind.i64 0, Value.int IntKind.i64 0, .int .i64 v3, Value.int IntKind.i64 0, Value.int IntKind.i64 0, Value.int IntKind.i64 0, Value.int IntKind.i64 0, Value.int IntKind.i64 0, Value.int IntKind.i64 0, Value.int IntKind.i64 0] := ⟨fun w => by simp [Instr.build, Instr.fill, Value.cells, Try.runUnderlying61, Try.zeroValue61, Try.sizeOf3]⟩
instance (v0 : Int) (v1 : Int) (v2 : Int) : BI Try.prog 79 [(0, .int .i64 v0), (1, .int .i64 v1), (2, .int .i64 v2)] [.int .i64 v0, .int .i64 v1, .int .i64 v2, Value.int IntKind.i64 0] := ⟨fun w => by simp [Instr.build, Instr.fill, Value.cells, Try.runUnderlying79, Try.zeroValue79, Try.sizeOf3]⟩
instance (v0_0 : Int) (v0_1 : Int) (v0_2 : Int) (v0_3 : Int) (v0_4 : Int) (v0_5 : Int) (v0_6 : Int) (v0_7 : Int) (v0_8 : Int) (v0_9 : Int) (v0_10 : Int) (v1_0 : Int) (v1_1 : Int) (Av1_2 : Option Addr) (mv1_2 : Nat) (cv1_2 : Nat) (v2_0 : Int) (v2_1 : Int) (v2_2 : Int) (v2_3 : Int) : BI Try.prog 81 [(0, .agg #[.int .i64 v0_0, .int .i64 v0_1, .int .i64 v0_2, .int .i64 v0_3, .int .i64 v0_4, .int .i64 v0_5, .int .i64 v0_6, .int .i64 v0_7, .int .i64 v0_8, .int .i64 v0_9, .int .i64 v0_10]), (1, .agg #[.int .i64 v1_0, .int .i64 v1_1, .slice Av1_2 mv1_2 cv1_2]), (2, .agg #[.int .i64 v2_0, .int .i64 v2_1, .int .i64 v2_2, .int .i64 v2_3])] [.int .i64 v0_0, .int .i64 v0_1, .int .i64 v0_2, .int .i64 v0_3, .int .i64 v0_4, .int .i64 v0_5, .int .i64 v0_6, .int .i64 v0_7, .int .i64 v0_8, .int .i64 v0_9, .int .i64 v0_10, .int .i64 v1_0, .int .i64 v1_1, .slice Av1_2 mv1_2 cv1_2, .int .i64 v2_0, .int .i64 v2_1, .int .i64 v2_2, .int .i64 v2_3, Value.int IntKind.i64 0] := ⟨fun w => by simp [Instr.build, Instr.fill, Value.cells, Try.runUnderlying81, Try.zeroValue81, Try.sizeOf3, Try.sizeOf28, Try.sizeOf61, Try.sizeOf79]⟩
instance (v0 : Int) (v1 : Int) : BI Try.prog 113 [(0, .int .i64 v0), (1, .int .i64 v1)] [.int .i64 v0, .int .i64 v1] := ⟨fun w => by simp [Instr.build, Instr.fill, Value.cells, Try.runUnderlying113, Try.zeroValue113, Try.sizeOf3]⟩
instance (Av3 : Option Addr) (mv3 : Nat) (cv3 : Nat) : BI Try.prog 122 [(3, .slice Av3 mv3 cv3)] [Value.int IntKind.i64 0, Value.int IntKind.i64 0, Value.slice none 0 0, Value.int IntKind.i64 0, Value.int IntKind.i64 0, Value.int IntKind.i64 0, Value.int IntKind.i64 0, .slice Av3 mv3 cv3] := ⟨fun w => by simp [Instr.build, Instr.fill, Value.cells, Try.runUnderlying122, Try.zeroValue122, Try.sizeOf3, Try.sizeOf26, Try.sizeOf33]⟩
instance (v0 : Int) (v1 : Int) : BI Try.prog 139 [(0, .int .i64 v0), (1, .int .i64 v1)] [.int .i64 v0, .int .i64 v1, Value.slice none 0 0] := ⟨fun w => by simp [Instr.build, Instr.fill, Value.cells, Try.runUnderlying139, Try.zeroValue139, Try.sizeOf3, Try.sizeOf26]⟩
instance (v0 : Int) : BI Try.prog 151 [(0, .int .i64 v0)] [.int .i64 v0, Value.int IntKind.i64 0, Value.slice none 0 0, Value.slice none 0 0, Value.slice none 0 0] := ⟨fun w => by simp [Instr.build, Instr.fill, Value.cells, Try.runUnderlying151, Try.zeroValue151, Try.sizeOf3, Try.sizeOf31, Try.sizeOf148, Try.sizeOf149]⟩
instance (v0 : Int) (Av3 : Option Addr) (mv3 : Nat) (cv3 : Nat) : BI Try.prog 151 [(0, .int .i64 v0), (3, .slice Av3 mv3 cv3)] [.int .i64 v0, Value.int IntKind.i64 0, Value.slice none 0 0, .slice Av3 mv3 cv3, Value.slice none 0 0] := ⟨fun w => by simp [Instr.build, Instr.fill, Value.cells, Try.runUnderlying151, Try.zeroValue151, Try.sizeOf3, Try.sizeOf31, Try.sizeOf148, Try.sizeOf149]⟩
instance (v0_0 : Int) (v0_1 : Int) (v0_2 : Int) (v0_3 : Int) (v0_4 : Int) (v0_5 : Int) (v0_6 : Int) (v0_7 : Int) (v0_8 : Int) (v0_9 : Int) (v0_10 : Int) (v1 : Option Addr) (v2 : Option Addr) : BI Try.prog 157 [(0, .agg #[.int .i64 v0_0, .int .i64 v0_1, .int .i64 v0_2, .int .i64 v0_3, .int .i64 v0_4, .int .i64 v0_5, .int .i64 v0_6, .int .i64 v0_7, .int .i64 v0_8, .int .i64 v0_9, .int .i64 v0_10]), (1, .pointer v1), (2, .pointer v2)] [.int .i64 v0_0, .int .i64 v0_1, .int .i64 v0_2, .int .i64 v0_3, .int .i64 v0_4, .int .i64 v0_5, .int .i64 v0_6, .int .i64 v0_7, .int .i64 v0_8, .int .i64 v0_9, .int .i64 v0_10, .pointer v1, .pointer v2, Value.int IntKind.i64 0] := ⟨fun w => by simp [Instr.build, Instr.fill, Value.cells, Try.runUnderlying157, Try.zeroValue157, Try.sizeOf3, Try.sizeOf24, Try.sizeOf61, Try.sizeOf154]⟩
instance (v0 : Option Nat) : BI Try.prog 165 [(0, .map v0)] [.map v0, Value.int IntKind.i64 0] := ⟨fun w => by simp [Instr.build, Instr.fill, Value.cells, Try.runUnderlying165, Try.zeroValue165, Try.sizeOf3, Try.sizeOf163]⟩
instance (v0 : Int) (v1 : Int) : BI Try.prog 167 [(0, .int .i64 v0), (1, .int .i64 v1)] [.int .i64 v0, .int .i64 v1] := ⟨fun w => by simp [Instr.build, Instr.fill, Value.cells, Try.runUnderlying167, Try.zeroValue167, Try.sizeOf3]⟩
instance (v0 : Option Addr) (v1 : Int) : BI Try.prog 175 [(0, .pointer v0), (1, .int .i64 v1)] [.pointer v0, .int .i64 v1, Value.slice none 0 0, Value.slice none 0 0] := ⟨fun w => by simp [Instr.build, Instr.fill, Value.cells, Try.runUnderlying175, Try.zeroValue175, Try.sizeOf3, Try.sizeOf26, Try.sizeOf31, Try.sizeOf87]⟩
instance (v0 : Int) (v1 : Int) (v2 : Int) : BI Try.prog 185 [(0, .int .i64 v0), (1, .int .i64 v1), (2, .int .i64 v2)] [.int .i64 v0, .int .i64 v1, .int .i64 v2] := ⟨fun w => by simp [Instr.build, Instr.fill, Value.cells, Try.runUnderlying185, Try.zeroValue185, Try.sizeOf3]⟩
instance (v0 : Int) (v1 : Int) (v2 : Int) : BI Try.prog 189 [(0, .int .i64 v0), (1, .int .i64 v1), (2, .int .i64 v2)] [.int .i64 v0, .int .i64 v1, .int .i64 v2, Value.int IntKind.i64 0] := ⟨fun w => by simp [Instr.build, Instr.fill, Value.cells, Try.runUnderlying189, Try.zeroValue189, Try.sizeOf3]⟩
end Go.Proofs.Ytmkpbbdocndfbaa
