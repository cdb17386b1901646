/- The abstract machine, the third part. -/
import Derived.Test.YtabliglgeiajlaaGreatProg
import Derived.Laws.BitsLemmas
import Derived.RangeFuncIn
import Derived.RangeFuncRecord
import Derived.WalkKit
import Derived.ProofKit
import Derived.OpenShut
import Derived.ShutString
import Derived.ChangeOld
import Derived.Below
import Derived.SizedLaws
import Derived.Test.YtabliglgeiajlaaGreatMb
set_option linter.unusedSimpArgs false
set_option linter.unusedVariables false
/- Type facts, printed. -/
namespace Go.Proofs.YtabliglgeiajlaaGreat.AM
open Go Go.RowKit Go.Proofs
@[push_cast] theorem ty1 : tyI Tryz.prog 1 = some ⟨TypeDesc.func #[] #[] false, 1, 8, Value.nilFunc⟩ := by kernel_rfl
@[push_cast] theorem ty2 : tyI Tryz.prog 2 = some ⟨TypeDesc.int IntKind.i64, 1, 8, (Value.int IntKind.i64 0)⟩ := by kernel_rfl
@[push_cast] theorem ty3 : tyI Tryz.prog 3 = some ⟨TypeDesc.int IntKind.i64, 1, 8, (Value.int IntKind.i64 0)⟩ := by kernel_rfl
@[push_cast] theorem ty4 : tyI Tryz.prog 4 = some ⟨TypeDesc.bool, 1, 1, (Value.bool false)⟩ := by kernel_rfl
@[push_cast] theorem ty5 : tyI Tryz.prog 5 = some ⟨TypeDesc.int IntKind.u8, 1, 1, (Value.int IntKind.u8 0)⟩ := by kernel_rfl
@[push_cast] theorem ty9 : tyI Tryz.prog 9 = some ⟨TypeDesc.string, 1, 16, (Value.string { data := #[] })⟩ := by kernel_rfl
@[push_cast] theorem zXU : tyI Tryz.prog 12 = some ⟨TypeDesc.int IntKind.u64, 1, 8, (Value.int IntKind.u64 0)⟩ := by kernel_rfl
@[push_cast] theorem zXI : tyI Tryz.prog 21 = some ⟨TypeDesc.int IntKind.i32, 1, 4, (Value.int IntKind.i32 0)⟩ := by kernel_rfl
@[push_cast] theorem zXb : tyI Tryz.prog 22 = some ⟨TypeDesc.slice 9, 1, 24, (Value.slice none 0 0)⟩ := by kernel_rfl
@[push_cast] theorem zXq : tyI Tryz.prog 23 = some ⟨TypeDesc.slice 98, 1, 24, (Value.slice none 0 0)⟩ := by kernel_rfl
@[push_cast] theorem zWk : tyI Tryz.prog 24 = some ⟨TypeDesc.struct #[{ name := "Names", type := 22, offset := 0, embedded := false, tag := "", pkgPath := "", byteOffset := 0 }, { name := "Up", type := 23, offset := 1, embedded := false, tag := "", pkgPath := "", byteOffset := 24 }], 2, 48, (Value.agg #[Value.slice none 0 0, Value.slice none 0 0])⟩ := by kernel_rfl
@[push_cast] theorem zXa : tyI Tryz.prog 25 = some ⟨TypeDesc.struct #[{ name := "Names", type := 22, offset := 0, embedded := false, tag := "", pkgPath := "", byteOffset := 0 }, { name := "Up", type := 23, offset := 1, embedded := false, tag := "", pkgPath := "", byteOffset := 24 }], 2, 48, (Value.agg #[Value.slice none 0 0, Value.slice none 0 0])⟩ := by kernel_rfl
@[push_cast] theorem zWq : tyI Tryz.prog 26 = some ⟨TypeDesc.slice 3, 1, 24, (Value.slice none 0 0)⟩ := by kernel_rfl
@[push_cast] theorem zWf : tyI Tryz.prog 27 = some ⟨TypeDesc.struct #[{ name := "Code", type := 3, offset := 0, embedded := false, tag := "", pkgPath := "", byteOffset := 0 }, { name := "Mem", type := 3, offset := 1, embedded := false, tag := "", pkgPath := "", byteOffset := 8 }, { name := "Stack", type := 3, offset := 2, embedded := false, tag := "", pkgPath := "", byteOffset := 16 }, { name := "Val", type := 3, offset := 3, embedded := false, tag := "", pkgPath := "", byteOffset := 24 }, { name := "Weights", type := 26, offset := 4, embedded := false, tag := "", pkgPath := "", byteOffset := 32 }], 5, 56, (Value.agg #[Value.int IntKind.i64 0, Value.int IntKind.i64 0, Value.int IntKind.i64 0, Value.int IntKind.i64 0, Value.slice none 0 0])⟩ := by kernel_rfl
@[push_cast] theorem zWu : tyI Tryz.prog 28 = some ⟨TypeDesc.struct #[{ name := "Code", type := 3, offset := 0, embedded := false, tag := "", pkgPath := "", byteOffset := 0 }, { name := "Mem", type := 3, offset := 1, embedded := false, tag := "", pkgPath := "", byteOffset := 8 }, { name := "Stack", type := 3, offset := 2, embedded := false, tag := "", pkgPath := "", byteOffset := 16 }, { name := "Val", type := 3, offset := 3, embedded := false, tag := "", pkgPath := "", byteOffset := 24 }, { name := "Weights", type := 26, offset := 4, embedded := false, tag := "", pkgPath := "", byteOffset := 32 }], 5, 56, (Value.agg #[Value.int IntKind.i64 0, Value.int IntKind.i64 0, Value.int IntKind.i64 0, Value.int IntKind.i64 0, Value.slice none 0 0])⟩ := by kernel_rfl
@[push_cast] theorem zXm : tyI Tryz.prog 29 = some ⟨TypeDesc.struct #[{ name := "List", type := 26, offset := 0, embedded := false, tag := "", pkgPath := "", byteOffset := 0 }, { name := "At", type := 3, offset := 1, embedded := false, tag := "", pkgPath := "", byteOffset := 24 }, { name := "Log", type := 26, offset := 2, embedded := false, tag := "", pkgPath := "", byteOffset := 32 }], 3, 56, (Value.agg #[Value.slice none 0 0, Value.int IntKind.i64 0, Value.slice none 0 0])⟩ := by kernel_rfl
@[push_cast] theorem zXv : tyI Tryz.prog 30 = some ⟨TypeDesc.struct #[{ name := "List", type := 26, offset := 0, embedded := false, tag := "", pkgPath := "", byteOffset := 0 }, { name := "At", type := 3, offset := 1, embedded := false, tag := "", pkgPath := "", byteOffset := 24 }, { name := "Log", type := 26, offset := 2, embedded := false, tag := "", pkgPath := "", byteOffset := 32 }], 3, 56, (Value.agg #[Value.slice none 0 0, Value.int IntKind.i64 0, Value.slice none 0 0])⟩ := by kernel_rfl
@[push_cast] theorem zWp : tyI Tryz.prog 31 = some ⟨TypeDesc.func #[25] #[25] false, 1, 8, Value.nilFunc⟩ := by kernel_rfl
@[push_cast] theorem zXZ : tyI Tryz.prog 32 = some ⟨TypeDesc.func #[30] #[30] false, 1, 8, Value.nilFunc⟩ := by kernel_rfl
@[push_cast] theorem zXp : tyI Tryz.prog 33 = some ⟨TypeDesc.struct #[{ name := "V", type := 3, offset := 0, embedded := false, tag := "", pkgPath := "", byteOffset := 0 }, { name := "L", type := 3, offset := 1, embedded := false, tag := "", pkgPath := "", byteOffset := 8 }], 2, 16, (Value.agg #[Value.int IntKind.i64 0, Value.int IntKind.i64 0])⟩ := by kernel_rfl
@[push_cast] theorem zXC : tyI Tryz.prog 34 = some ⟨TypeDesc.struct #[{ name := "V", type := 3, offset := 0, embedded := false, tag := "", pkgPath := "", byteOffset := 0 }, { name := "L", type := 3, offset := 1, embedded := false, tag := "", pkgPath := "", byteOffset := 8 }], 2, 16, (Value.agg #[Value.int IntKind.i64 0, Value.int IntKind.i64 0])⟩ := by kernel_rfl
@[push_cast] theorem zWt : tyI Tryz.prog 35 = some ⟨TypeDesc.slice 100, 1, 24, (Value.slice none 0 0)⟩ := by kernel_rfl
@[push_cast] theorem zWi : tyI Tryz.prog 36 = some ⟨TypeDesc.slice 34, 1, 24, (Value.slice none 0 0)⟩ := by kernel_rfl
@[push_cast] theorem zXc : tyI Tryz.prog 37 = some ⟨TypeDesc.slice 104, 1, 24, (Value.slice none 0 0)⟩ := by kernel_rfl
@[push_cast] theorem zWe : tyI Tryz.prog 38 = some ⟨TypeDesc.struct #[{ name := "Pc", type := 34, offset := 0, embedded := false, tag := "", pkgPath := "", byteOffset := 0 }, { name := "Code", type := 35, offset := 2, embedded := false, tag := "", pkgPath := "", byteOffset := 16 }, { name := "Mem", type := 36, offset := 3, embedded := false, tag := "", pkgPath := "", byteOffset := 40 }, { name := "Stack", type := 37, offset := 4, embedded := false, tag := "", pkgPath := "", byteOffset := 64 }, { name := "Out", type := 36, offset := 5, embedded := false, tag := "", pkgPath := "", byteOffset := 88 }], 6, 112, (Value.agg #[Value.int IntKind.i64 0, Value.int IntKind.i64 0, Value.slice none 0 0, Value.slice none 0 0, Value.slice none 0 0, Value.slice none 0 0])⟩ := by kernel_rfl
@[push_cast] theorem zWm : tyI Tryz.prog 39 = some ⟨TypeDesc.struct #[{ name := "Pc", type := 34, offset := 0, embedded := false, tag := "", pkgPath := "", byteOffset := 0 }, { name := "Code", type := 35, offset := 2, embedded := false, tag := "", pkgPath := "", byteOffset := 16 }, { name := "Mem", type := 36, offset := 3, embedded := false, tag := "", pkgPath := "", byteOffset := 40 }, { name := "Stack", type := 37, offset := 4, embedded := false, tag := "", pkgPath := "", byteOffset := 64 }, { name := "Out", type := 36, offset := 5, embedded := false, tag := "", pkgPath := "", byteOffset := 88 }], 6, 112, (Value.agg #[Value.int IntKind.i64 0, Value.int IntKind.i64 0, Value.slice none 0 0, Value.slice none 0 0, Value.slice none 0 0, Value.slice none 0 0])⟩ := by kernel_rfl
@[push_cast] theorem zXW : tyI Tryz.prog 40 = some ⟨TypeDesc.int IntKind.i64, 1, 8, (Value.int IntKind.i64 0)⟩ := by kernel_rfl
@[push_cast] theorem zXQ : tyI Tryz.prog 42 = some ⟨TypeDesc.func #[25, 28, 30] #[30, 39, 40] false, 1, 8, Value.nilFunc⟩ := by kernel_rfl
@[push_cast] theorem zXo : tyI Tryz.prog 43 = some ⟨TypeDesc.slice 26, 1, 24, (Value.slice none 0 0)⟩ := by kernel_rfl
@[push_cast] theorem zXO : tyI Tryz.prog 44 = some ⟨TypeDesc.func #[] #[43] false, 1, 8, Value.nilFunc⟩ := by kernel_rfl
@[push_cast] theorem zXB : tyI Tryz.prog 45 = some ⟨TypeDesc.func #[26, 26] #[4] false, 1, 8, Value.nilFunc⟩ := by kernel_rfl
@[push_cast] theorem zXn : tyI Tryz.prog 46 = some ⟨TypeDesc.func #[25, 28] #[40] false, 1, 8, Value.nilFunc⟩ := by kernel_rfl
@[push_cast] theorem zXH : tyI Tryz.prog 47 = some ⟨TypeDesc.func #[30] #[4] false, 1, 8, Value.nilFunc⟩ := by kernel_rfl
@[push_cast] theorem zWb : tyI Tryz.prog 48 = some ⟨TypeDesc.func #[] #[4] false, 1, 8, Value.nilFunc⟩ := by kernel_rfl
@[push_cast] theorem zWh : tyI Tryz.prog 49 = some ⟨TypeDesc.func #[30, 30] #[4] false, 1, 8, Value.nilFunc⟩ := by kernel_rfl
@[push_cast] theorem zWc : tyI Tryz.prog 50 = some ⟨TypeDesc.func #[39, 39] #[4] false, 1, 8, Value.nilFunc⟩ := by kernel_rfl
@[push_cast] theorem zXg : tyI Tryz.prog 51 = some ⟨TypeDesc.struct #[{ name := "D", type := 30, offset := 0, embedded := false, tag := "", pkgPath := "", byteOffset := 0 }, { name := "S", type := 39, offset := 3, embedded := false, tag := "", pkgPath := "", byteOffset := 56 }, { name := "E", type := 40, offset := 9, embedded := false, tag := "", pkgPath := "", byteOffset := 168 }], 10, 176, (Value.agg #[Value.slice none 0 0, Value.int IntKind.i64 0, Value.slice none 0 0, Value.int IntKind.i64 0, Value.int IntKind.i64 0, Value.slice none 0 0, Value.slice none 0 0, Value.slice none 0 0, Value.slice none 0 0, Value.int IntKind.i64 0])⟩ := by kernel_rfl
@[push_cast] theorem zXd : tyI Tryz.prog 52 = some ⟨TypeDesc.struct #[{ name := "D", type := 30, offset := 0, embedded := false, tag := "", pkgPath := "", byteOffset := 0 }, { name := "S", type := 39, offset := 3, embedded := false, tag := "", pkgPath := "", byteOffset := 56 }, { name := "E", type := 40, offset := 9, embedded := false, tag := "", pkgPath := "", byteOffset := 168 }], 10, 176, (Value.agg #[Value.slice none 0 0, Value.int IntKind.i64 0, Value.slice none 0 0, Value.int IntKind.i64 0, Value.int IntKind.i64 0, Value.slice none 0 0, Value.slice none 0 0, Value.slice none 0 0, Value.slice none 0 0, Value.int IntKind.i64 0])⟩ := by kernel_rfl
@[push_cast] theorem zXS : tyI Tryz.prog 53 = some ⟨TypeDesc.func #[25, 28, 30] #[52] false, 1, 8, Value.nilFunc⟩ := by kernel_rfl
@[push_cast] theorem zWg : tyI Tryz.prog 54 = some ⟨TypeDesc.func #[25, 28, 30] #[4] false, 1, 8, Value.nilFunc⟩ := by kernel_rfl
@[push_cast] theorem zXs : tyI Tryz.prog 55 = some ⟨TypeDesc.struct #[{ name := "A", type := 39, offset := 0, embedded := false, tag := "", pkgPath := "", byteOffset := 0 }, { name := "B", type := 39, offset := 6, embedded := false, tag := "", pkgPath := "", byteOffset := 112 }], 12, 224, (Value.agg #[Value.int IntKind.i64 0, Value.int IntKind.i64 0, Value.slice none 0 0, Value.slice none 0 0, Value.slice none 0 0, Value.slice none 0 0, Value.int IntKind.i64 0, Value.int IntKind.i64 0, Value.slice none 0 0, Value.slice none 0 0, Value.slice none 0 0, Value.slice none 0 0])⟩ := by kernel_rfl
@[push_cast] theorem zXE : tyI Tryz.prog 56 = some ⟨TypeDesc.struct #[{ name := "A", type := 39, offset := 0, embedded := false, tag := "", pkgPath := "", byteOffset := 0 }, { name := "B", type := 39, offset := 6, embedded := false, tag := "", pkgPath := "", byteOffset := 112 }], 12, 224, (Value.agg #[Value.int IntKind.i64 0, Value.int IntKind.i64 0, Value.slice none 0 0, Value.slice none 0 0, Value.slice none 0 0, Value.slice none 0 0, Value.int IntKind.i64 0, Value.int IntKind.i64 0, Value.slice none 0 0, Value.slice none 0 0, Value.slice none 0 0, Value.slice none 0 0])⟩ := by kernel_rfl
@[push_cast] theorem zWl : tyI Tryz.prog 57 = some ⟨TypeDesc.func #[39] #[39] false, 1, 8, Value.nilFunc⟩ := by kernel_rfl
@[push_cast] theorem zXf : tyI Tryz.prog 58 = some ⟨TypeDesc.slice 56, 1, 24, (Value.slice none 0 0)⟩ := by kernel_rfl
@[push_cast] theorem zXF : tyI Tryz.prog 60 = some ⟨TypeDesc.func #[25, 56] #[58, 40] false, 1, 8, Value.nilFunc⟩ := by kernel_rfl
@[push_cast] theorem zXM : tyI Tryz.prog 61 = some ⟨TypeDesc.func #[25, 56] #[40] false, 1, 8, Value.nilFunc⟩ := by kernel_rfl
@[push_cast] theorem zWa : tyI Tryz.prog 62 = some ⟨TypeDesc.func #[25, 56] #[58] false, 1, 8, Value.nilFunc⟩ := by kernel_rfl
@[push_cast] theorem zWd : tyI Tryz.prog 63 = some ⟨TypeDesc.func #[56, 56] #[4] false, 1, 8, Value.nilFunc⟩ := by kernel_rfl
@[push_cast] theorem zWr : tyI Tryz.prog 64 = some ⟨TypeDesc.func #[25, 56] #[4] false, 1, 8, Value.nilFunc⟩ := by kernel_rfl
@[push_cast] theorem zXR : tyI Tryz.prog 65 = some ⟨TypeDesc.struct #[{ name := "Count", type := 3, offset := 0, embedded := false, tag := "", pkgPath := "", byteOffset := 0 }, { name := "Sum", type := 3, offset := 1, embedded := false, tag := "", pkgPath := "", byteOffset := 8 }, { name := "Height", type := 3, offset := 2, embedded := false, tag := "", pkgPath := "", byteOffset := 16 }], 3, 24, (Value.agg #[Value.int IntKind.i64 0, Value.int IntKind.i64 0, Value.int IntKind.i64 0])⟩ := by kernel_rfl
@[push_cast] theorem zWv : tyI Tryz.prog 66 = some ⟨TypeDesc.struct #[{ name := "Count", type := 3, offset := 0, embedded := false, tag := "", pkgPath := "", byteOffset := 0 }, { name := "Sum", type := 3, offset := 1, embedded := false, tag := "", pkgPath := "", byteOffset := 8 }, { name := "Height", type := 3, offset := 2, embedded := false, tag := "", pkgPath := "", byteOffset := 16 }], 3, 24, (Value.agg #[Value.int IntKind.i64 0, Value.int IntKind.i64 0, Value.int IntKind.i64 0])⟩ := by kernel_rfl
@[push_cast] theorem zWn : tyI Tryz.prog 68 = some ⟨TypeDesc.func #[25, 56] #[66, 40] false, 1, 8, Value.nilFunc⟩ := by kernel_rfl
@[push_cast] theorem zXe : tyI Tryz.prog 69 = some ⟨TypeDesc.func #[66, 66] #[4] false, 1, 8, Value.nilFunc⟩ := by kernel_rfl
@[push_cast] theorem zXN : tyI Tryz.prog 70 = some ⟨TypeDesc.func #[25, 56] #[66] false, 1, 8, Value.nilFunc⟩ := by kernel_rfl
@[push_cast] theorem zXr : tyI Tryz.prog 71 = some ⟨TypeDesc.func #[25, 56, 66, 66] #[4] false, 1, 8, Value.nilFunc⟩ := by kernel_rfl
@[push_cast] theorem zWw : tyI Tryz.prog 73 = some ⟨TypeDesc.func #[25, 28, 39] #[26, 40] false, 1, 8, Value.nilFunc⟩ := by kernel_rfl
@[push_cast] theorem zXG : tyI Tryz.prog 74 = some ⟨TypeDesc.func #[25, 28, 3, 39, 39] #[26, 40] false, 1, 8, Value.nilFunc⟩ := by kernel_rfl
@[push_cast] theorem zXA : tyI Tryz.prog 75 = some ⟨TypeDesc.func #[25, 28, 39] #[4] false, 1, 8, Value.nilFunc⟩ := by kernel_rfl
@[push_cast] theorem zXV : tyI Tryz.prog 76 = some ⟨TypeDesc.func #[28, 39] #[26] false, 1, 8, Value.nilFunc⟩ := by kernel_rfl
@[push_cast] theorem zXl : tyI Tryz.prog 77 = some ⟨TypeDesc.func #[25, 28, 3, 39, 39] #[40] false, 1, 8, Value.nilFunc⟩ := by kernel_rfl
@[push_cast] theorem zWj : tyI Tryz.prog 78 = some ⟨TypeDesc.func #[25, 28, 3, 39, 39] #[26] false, 1, 8, Value.nilFunc⟩ := by kernel_rfl
@[push_cast] theorem zWs : tyI Tryz.prog 79 = some ⟨TypeDesc.func #[43] #[26] true, 1, 8, Value.nilFunc⟩ := by kernel_rfl
@[push_cast] theorem zXJ : tyI Tryz.prog 80 = some ⟨TypeDesc.func #[25, 28, 3, 39, 39] #[4] false, 1, 8, Value.nilFunc⟩ := by kernel_rfl
@[push_cast] theorem zXh : tyI Tryz.prog 82 = some ⟨TypeDesc.func #[25, 28, 3, 30] #[30, 39, 39, 40] false, 1, 8, Value.nilFunc⟩ := by kernel_rfl
@[push_cast] theorem zXL : tyI Tryz.prog 83 = some ⟨TypeDesc.func #[26] #[30] false, 1, 8, Value.nilFunc⟩ := by kernel_rfl
@[push_cast] theorem zWy : tyI Tryz.prog 85 = some ⟨TypeDesc.func #[25, 28, 39] #[4, 40] false, 1, 8, Value.nilFunc⟩ := by kernel_rfl
@[push_cast] theorem zWZ : tyI Tryz.prog 86 = some ⟨TypeDesc.func #[25, 3, 39, 39] #[4, 40] false, 1, 8, Value.nilFunc⟩ := by kernel_rfl
@[push_cast] theorem zWz : tyI Tryz.prog 88 = some ⟨TypeDesc.func #[25] #[3, 40] false, 1, 8, Value.nilFunc⟩ := by kernel_rfl
@[push_cast] theorem zWo : tyI Tryz.prog 89 = some ⟨TypeDesc.func #[25, 28, 3, 26] #[4] false, 1, 8, Value.nilFunc⟩ := by kernel_rfl
@[push_cast] theorem zXD : tyI Tryz.prog 90 = some ⟨TypeDesc.pointer 92, 1, 8, (Value.pointer none)⟩ := by kernel_rfl
@[push_cast] theorem zWx : tyI Tryz.prog 91 = some ⟨TypeDesc.struct #[{ name := "labels", type := 3, offset := 0, embedded := false, tag := "", pkgPath := "reticent/seq", byteOffset := 0 }, { name := "sp", type := 28, offset := 1, embedded := false, tag := "", pkgPath := "reticent/seq", byteOffset := 8 }, { name := "d", type := 30, offset := 6, embedded := false, tag := "", pkgPath := "reticent/seq", byteOffset := 64 }, { name := "bad", type := 40, offset := 9, embedded := false, tag := "", pkgPath := "reticent/seq", byteOffset := 120 }], 10, 128, (Value.agg #[Value.int IntKind.i64 0, Value.int IntKind.i64 0, Value.int IntKind.i64 0, Value.int IntKind.i64 0, Value.int IntKind.i64 0, Value.slice none 0 0, Value.slice none 0 0, Value.int IntKind.i64 0, Value.slice none 0 0, Value.int IntKind.i64 0])⟩ := by kernel_rfl
@[push_cast] theorem zXP : tyI Tryz.prog 92 = some ⟨TypeDesc.struct #[{ name := "labels", type := 3, offset := 0, embedded := false, tag := "", pkgPath := "reticent/seq", byteOffset := 0 }, { name := "sp", type := 28, offset := 1, embedded := false, tag := "", pkgPath := "reticent/seq", byteOffset := 8 }, { name := "d", type := 30, offset := 6, embedded := false, tag := "", pkgPath := "reticent/seq", byteOffset := 64 }, { name := "bad", type := 40, offset := 9, embedded := false, tag := "", pkgPath := "reticent/seq", byteOffset := 120 }], 10, 128, (Value.agg #[Value.int IntKind.i64 0, Value.int IntKind.i64 0, Value.int IntKind.i64 0, Value.int IntKind.i64 0, Value.int IntKind.i64 0, Value.slice none 0 0, Value.slice none 0 0, Value.int IntKind.i64 0, Value.slice none 0 0, Value.int IntKind.i64 0])⟩ := by kernel_rfl
@[push_cast] theorem zXY : tyI Tryz.prog 93 = some ⟨TypeDesc.func #[] #[35] false, 1, 8, Value.nilFunc⟩ := by kernel_rfl
@[push_cast] theorem zXX : tyI Tryz.prog 94 = some ⟨TypeDesc.func #[26] #[26] true, 1, 8, Value.nilFunc⟩ := by kernel_rfl
@[push_cast] theorem zXi : tyI Tryz.prog 95 = some ⟨TypeDesc.func #[26, 26] #[3] false, 1, 8, Value.nilFunc⟩ := by kernel_rfl
@[push_cast] theorem zXt : tyI Tryz.prog 96 = some ⟨TypeDesc.func #[25] #[40] false, 1, 8, Value.nilFunc⟩ := by kernel_rfl
@[push_cast] theorem zXT : tyI Tryz.prog 97 = some ⟨TypeDesc.func #[28] #[4] false, 1, 8, Value.nilFunc⟩ := by kernel_rfl
@[push_cast] theorem zXj : tyI Tryz.prog 98 = some ⟨TypeDesc.int IntKind.u32, 1, 4, (Value.int IntKind.u32 0)⟩ := by kernel_rfl
@[push_cast] theorem zXk : tyI Tryz.prog 99 = some ⟨TypeDesc.struct #[{ name := "Op", type := 3, offset := 0, embedded := false, tag := "", pkgPath := "", byteOffset := 0 }, { name := "N", type := 3, offset := 1, embedded := false, tag := "", pkgPath := "", byteOffset := 8 }, { name := "L", type := 3, offset := 2, embedded := false, tag := "", pkgPath := "", byteOffset := 16 }], 3, 24, (Value.agg #[Value.int IntKind.i64 0, Value.int IntKind.i64 0, Value.int IntKind.i64 0])⟩ := by kernel_rfl
@[push_cast] theorem zUx : tyI Tryz.prog 100 = some ⟨TypeDesc.struct #[{ name := "Op", type := 3, offset := 0, embedded := false, tag := "", pkgPath := "", byteOffset := 0 }, { name := "N", type := 3, offset := 1, embedded := false, tag := "", pkgPath := "", byteOffset := 8 }, { name := "L", type := 3, offset := 2, embedded := false, tag := "", pkgPath := "", byteOffset := 16 }], 3, 24, (Value.agg #[Value.int IntKind.i64 0, Value.int IntKind.i64 0, Value.int IntKind.i64 0])⟩ := by kernel_rfl
@[push_cast] theorem zUD : tyI Tryz.prog 101 = some ⟨TypeDesc.func #[35, 35] #[4] false, 1, 8, Value.nilFunc⟩ := by kernel_rfl
@[push_cast] theorem zVQ : tyI Tryz.prog 102 = some ⟨TypeDesc.func #[36, 36] #[4] false, 1, 8, Value.nilFunc⟩ := by kernel_rfl
@[push_cast] theorem zTr : tyI Tryz.prog 103 = some ⟨TypeDesc.struct #[{ name := "Ret", type := 4, offset := 0, embedded := false, tag := "", pkgPath := "", byteOffset := 0 }, { name := "V", type := 3, offset := 1, embedded := false, tag := "", pkgPath := "", byteOffset := 8 }, { name := "L", type := 3, offset := 2, embedded := false, tag := "", pkgPath := "", byteOffset := 16 }], 3, 24, (Value.agg #[Value.bool false, Value.int IntKind.i64 0, Value.int IntKind.i64 0])⟩ := by kernel_rfl
@[push_cast] theorem zWA : tyI Tryz.prog 104 = some ⟨TypeDesc.struct #[{ name := "Ret", type := 4, offset := 0, embedded := false, tag := "", pkgPath := "", byteOffset := 0 }, { name := "V", type := 3, offset := 1, embedded := false, tag := "", pkgPath := "", byteOffset := 8 }, { name := "L", type := 3, offset := 2, embedded := false, tag := "", pkgPath := "", byteOffset := 16 }], 3, 24, (Value.agg #[Value.bool false, Value.int IntKind.i64 0, Value.int IntKind.i64 0])⟩ := by kernel_rfl
@[push_cast] theorem zVW : tyI Tryz.prog 105 = some ⟨TypeDesc.struct #[{ name := "D", type := 30, offset := 0, embedded := false, tag := "", pkgPath := "", byteOffset := 0 }, { name := "N", type := 3, offset := 3, embedded := false, tag := "", pkgPath := "", byteOffset := 56 }, { name := "E", type := 40, offset := 4, embedded := false, tag := "", pkgPath := "", byteOffset := 64 }], 5, 72, (Value.agg #[Value.slice none 0 0, Value.int IntKind.i64 0, Value.slice none 0 0, Value.int IntKind.i64 0, Value.int IntKind.i64 0])⟩ := by kernel_rfl
@[push_cast] theorem zVR : tyI Tryz.prog 106 = some ⟨TypeDesc.struct #[{ name := "D", type := 30, offset := 0, embedded := false, tag := "", pkgPath := "", byteOffset := 0 }, { name := "N", type := 3, offset := 3, embedded := false, tag := "", pkgPath := "", byteOffset := 56 }, { name := "E", type := 40, offset := 4, embedded := false, tag := "", pkgPath := "", byteOffset := 64 }], 5, 72, (Value.agg #[Value.slice none 0 0, Value.int IntKind.i64 0, Value.slice none 0 0, Value.int IntKind.i64 0, Value.int IntKind.i64 0])⟩ := by kernel_rfl
@[push_cast] theorem zTl : tyI Tryz.prog 107 = some ⟨TypeDesc.struct #[{ name := "M", type := 106, offset := 0, embedded := false, tag := "", pkgPath := "", byteOffset := 0 }, { name := "L", type := 35, offset := 5, embedded := false, tag := "", pkgPath := "", byteOffset := 72 }], 6, 96, (Value.agg #[Value.slice none 0 0, Value.int IntKind.i64 0, Value.slice none 0 0, Value.int IntKind.i64 0, Value.int IntKind.i64 0, Value.slice none 0 0])⟩ := by kernel_rfl
@[push_cast] theorem zUZ : tyI Tryz.prog 108 = some ⟨TypeDesc.struct #[{ name := "M", type := 106, offset := 0, embedded := false, tag := "", pkgPath := "", byteOffset := 0 }, { name := "L", type := 35, offset := 5, embedded := false, tag := "", pkgPath := "", byteOffset := 72 }], 6, 96, (Value.agg #[Value.slice none 0 0, Value.int IntKind.i64 0, Value.slice none 0 0, Value.int IntKind.i64 0, Value.int IntKind.i64 0, Value.slice none 0 0])⟩ := by kernel_rfl
@[push_cast] theorem zUw : tyI Tryz.prog 109 = some ⟨TypeDesc.func #[106, 3, 28] #[108] false, 1, 8, Value.nilFunc⟩ := by kernel_rfl
@[push_cast] theorem zWW : tyI Tryz.prog 110 = some ⟨TypeDesc.func #[211] #[] false, 1, 8, Value.nilFunc⟩ := by kernel_rfl
@[push_cast] theorem zVK : tyI Tryz.prog 111 = some ⟨TypeDesc.func #[211] #[] false, 1, 8, Value.nilFunc⟩ := by kernel_rfl
@[push_cast] theorem zTZ : tyI Tryz.prog 112 = some ⟨TypeDesc.func #[25, 56] #[111] false, 1, 8, Value.nilFunc⟩ := by kernel_rfl
@[push_cast] theorem zWO : tyI Tryz.prog 113 = some ⟨TypeDesc.func #[39] #[39] false, 1, 8, Value.nilFunc⟩ := by kernel_rfl
@[push_cast] theorem zUS : tyI Tryz.prog 114 = some ⟨TypeDesc.func #[25, 39] #[4] false, 1, 8, Value.nilFunc⟩ := by kernel_rfl
@[push_cast] theorem zWE : tyI Tryz.prog 115 = some ⟨TypeDesc.func #[58, 56, 56] #[58] false, 1, 8, Value.nilFunc⟩ := by kernel_rfl
@[push_cast] theorem zUf : tyI Tryz.prog 116 = some ⟨TypeDesc.func #[39, 3] #[39] false, 1, 8, Value.nilFunc⟩ := by kernel_rfl
@[push_cast] theorem zUE : tyI Tryz.prog 117 = some ⟨TypeDesc.func #[25, 56, 58] #[58] false, 1, 8, Value.nilFunc⟩ := by kernel_rfl
@[push_cast] theorem zUj : tyI Tryz.prog 118 = some ⟨TypeDesc.func #[25, 39] #[66] false, 1, 8, Value.nilFunc⟩ := by kernel_rfl
@[push_cast] theorem zVl : tyI Tryz.prog 119 = some ⟨TypeDesc.func #[26] #[3] true, 1, 8, Value.nilFunc⟩ := by kernel_rfl
@[push_cast] theorem zUe : tyI Tryz.prog 120 = some ⟨TypeDesc.func #[3, 3] #[3] false, 1, 8, Value.nilFunc⟩ := by kernel_rfl
@[push_cast] theorem zUa : tyI Tryz.prog 121 = some ⟨TypeDesc.func #[25, 66, 39] #[66] false, 1, 8, Value.nilFunc⟩ := by kernel_rfl
@[push_cast] theorem zWC : tyI Tryz.prog 122 = some ⟨TypeDesc.func #[25, 28, 232] #[40] true, 1, 8, Value.nilFunc⟩ := by kernel_rfl
@[push_cast] theorem zUn : tyI Tryz.prog 123 = some ⟨TypeDesc.pointer 125, 1, 8, (Value.pointer none)⟩ := by kernel_rfl
@[push_cast] theorem zWD : tyI Tryz.prog 124 = some ⟨TypeDesc.struct #[{ name := "l", type := 25, offset := 0, embedded := false, tag := "", pkgPath := "reticent/unpick", byteOffset := 0 }, { name := "sp", type := 28, offset := 2, embedded := false, tag := "", pkgPath := "reticent/unpick", byteOffset := 48 }, { name := "o", type := 3, offset := 7, embedded := false, tag := "", pkgPath := "reticent/unpick", byteOffset := 104 }, { name := "out", type := 26, offset := 8, embedded := false, tag := "", pkgPath := "reticent/unpick", byteOffset := 112 }], 9, 136, (Value.agg #[Value.slice none 0 0, Value.slice none 0 0, Value.int IntKind.i64 0, Value.int IntKind.i64 0, Value.int IntKind.i64 0, Value.int IntKind.i64 0, Value.slice none 0 0, Value.int IntKind.i64 0, Value.slice none 0 0])⟩ := by kernel_rfl
@[push_cast] theorem zVD : tyI Tryz.prog 125 = some ⟨TypeDesc.struct #[{ name := "l", type := 25, offset := 0, embedded := false, tag := "", pkgPath := "reticent/unpick", byteOffset := 0 }, { name := "sp", type := 28, offset := 2, embedded := false, tag := "", pkgPath := "reticent/unpick", byteOffset := 48 }, { name := "o", type := 3, offset := 7, embedded := false, tag := "", pkgPath := "reticent/unpick", byteOffset := 104 }, { name := "out", type := 26, offset := 8, embedded := false, tag := "", pkgPath := "reticent/unpick", byteOffset := 112 }], 9, 136, (Value.agg #[Value.slice none 0 0, Value.slice none 0 0, Value.int IntKind.i64 0, Value.int IntKind.i64 0, Value.int IntKind.i64 0, Value.int IntKind.i64 0, Value.slice none 0 0, Value.int IntKind.i64 0, Value.slice none 0 0])⟩ := by kernel_rfl
@[push_cast] theorem zWQ : tyI Tryz.prog 126 = some ⟨TypeDesc.func #[39] #[] false, 1, 8, Value.nilFunc⟩ := by kernel_rfl
@[push_cast] theorem zUJ : tyI Tryz.prog 127 = some ⟨TypeDesc.func #[39, 39] #[] false, 1, 8, Value.nilFunc⟩ := by kernel_rfl
@[push_cast] theorem zWH : tyI Tryz.prog 128 = some ⟨TypeDesc.func #[28, 3] #[4] false, 1, 8, Value.nilFunc⟩ := by kernel_rfl
@[push_cast] theorem zVX : tyI Tryz.prog 129 = some ⟨TypeDesc.struct #[{ name := "N", type := 3, offset := 0, embedded := false, tag := "", pkgPath := "", byteOffset := 0 }, { name := "E", type := 40, offset := 1, embedded := false, tag := "", pkgPath := "", byteOffset := 8 }], 2, 16, (Value.agg #[Value.int IntKind.i64 0, Value.int IntKind.i64 0])⟩ := by kernel_rfl
@[push_cast] theorem zVN : tyI Tryz.prog 130 = some ⟨TypeDesc.struct #[{ name := "N", type := 3, offset := 0, embedded := false, tag := "", pkgPath := "", byteOffset := 0 }, { name := "E", type := 40, offset := 1, embedded := false, tag := "", pkgPath := "", byteOffset := 8 }], 2, 16, (Value.agg #[Value.int IntKind.i64 0, Value.int IntKind.i64 0])⟩ := by kernel_rfl
@[push_cast] theorem zVO : tyI Tryz.prog 131 = some ⟨TypeDesc.func #[26, 3] #[130] false, 1, 8, Value.nilFunc⟩ := by kernel_rfl
@[push_cast] theorem zUo : tyI Tryz.prog 132 = some ⟨TypeDesc.func #[28, 3] #[3] false, 1, 8, Value.nilFunc⟩ := by kernel_rfl
@[push_cast] theorem zVt : tyI Tryz.prog 133 = some ⟨TypeDesc.func #[104] #[3] false, 1, 8, Value.nilFunc⟩ := by kernel_rfl
@[push_cast] theorem zUc : tyI Tryz.prog 134 = some ⟨TypeDesc.func #[28, 104] #[3] false, 1, 8, Value.nilFunc⟩ := by kernel_rfl
@[push_cast] theorem zVI : tyI Tryz.prog 135 = some ⟨TypeDesc.func #[25, 3, 39, 39] #[4] false, 1, 8, Value.nilFunc⟩ := by kernel_rfl
@[push_cast] theorem zUG : tyI Tryz.prog 136 = some ⟨TypeDesc.func #[25, 3, 3] #[4] false, 1, 8, Value.nilFunc⟩ := by kernel_rfl
@[push_cast] theorem zVM : tyI Tryz.prog 137 = some ⟨TypeDesc.func #[25, 28, 3, 37] #[26] false, 1, 8, Value.nilFunc⟩ := by kernel_rfl
@[push_cast] theorem zTc : tyI Tryz.prog 138 = some ⟨TypeDesc.func #[25, 3, 37] #[37] false, 1, 8, Value.nilFunc⟩ := by kernel_rfl
@[push_cast] theorem zUL : tyI Tryz.prog 139 = some ⟨TypeDesc.func #[25, 3] #[26] false, 1, 8, Value.nilFunc⟩ := by kernel_rfl
@[push_cast] theorem zVx : tyI Tryz.prog 140 = some ⟨TypeDesc.func #[26, 3] #[26] false, 1, 8, Value.nilFunc⟩ := by kernel_rfl
@[push_cast] theorem zTf : tyI Tryz.prog 141 = some ⟨TypeDesc.func #[25, 28, 3, 39, 30] #[30, 39, 40] false, 1, 8, Value.nilFunc⟩ := by kernel_rfl
@[push_cast] theorem zTt : tyI Tryz.prog 142 = some ⟨TypeDesc.func #[3] #[4] false, 1, 8, Value.nilFunc⟩ := by kernel_rfl
@[push_cast] theorem zTY : tyI Tryz.prog 143 = some ⟨TypeDesc.func #[100] #[4] false, 1, 8, Value.nilFunc⟩ := by kernel_rfl
@[push_cast] theorem zVZ : tyI Tryz.prog 144 = some ⟨TypeDesc.func #[35, 143] #[4] false, 1, 8, Value.nilFunc⟩ := by kernel_rfl
@[push_cast] theorem zTh : tyI Tryz.prog 145 = some ⟨TypeDesc.func #[36, 146] #[4] false, 1, 8, Value.nilFunc⟩ := by kernel_rfl
@[push_cast] theorem zWJ : tyI Tryz.prog 146 = some ⟨TypeDesc.func #[34] #[4] false, 1, 8, Value.nilFunc⟩ := by kernel_rfl
@[push_cast] theorem zVg : tyI Tryz.prog 147 = some ⟨TypeDesc.func #[37, 148] #[4] false, 1, 8, Value.nilFunc⟩ := by kernel_rfl
@[push_cast] theorem zVq : tyI Tryz.prog 148 = some ⟨TypeDesc.func #[104] #[4] false, 1, 8, Value.nilFunc⟩ := by kernel_rfl
@[push_cast] theorem zWB : tyI Tryz.prog 149 = some ⟨TypeDesc.func #[153, 251] #[26] true, 1, 8, Value.nilFunc⟩ := by kernel_rfl
@[push_cast] theorem zTx : tyI Tryz.prog 150 = some ⟨TypeDesc.func #[100, 100] #[4] false, 1, 8, Value.nilFunc⟩ := by kernel_rfl
@[push_cast] theorem zWX : tyI Tryz.prog 151 = some ⟨TypeDesc.func #[100] #[3] false, 1, 8, Value.nilFunc⟩ := by kernel_rfl
@[push_cast] theorem zTw : tyI Tryz.prog 152 = some ⟨TypeDesc.struct #[{ name := "same", type := 150, offset := 0, embedded := false, tag := "", pkgPath := "reticent/equiv", byteOffset := 0 }, { name := "label", type := 151, offset := 1, embedded := false, tag := "", pkgPath := "reticent/equiv", byteOffset := 8 }, { name := "seen", type := 150, offset := 2, embedded := false, tag := "", pkgPath := "reticent/equiv", byteOffset := 16 }], 3, 24, (Value.agg #[Value.nilFunc, Value.nilFunc, Value.nilFunc])⟩ := by kernel_rfl
@[push_cast] theorem zVj : tyI Tryz.prog 153 = some ⟨TypeDesc.struct #[{ name := "same", type := 150, offset := 0, embedded := false, tag := "", pkgPath := "reticent/equiv", byteOffset := 0 }, { name := "label", type := 151, offset := 1, embedded := false, tag := "", pkgPath := "reticent/equiv", byteOffset := 8 }, { name := "seen", type := 150, offset := 2, embedded := false, tag := "", pkgPath := "reticent/equiv", byteOffset := 16 }], 3, 24, (Value.agg #[Value.nilFunc, Value.nilFunc, Value.nilFunc])⟩ := by kernel_rfl
@[push_cast] theorem zTv : tyI Tryz.prog 154 = some ⟨TypeDesc.func #[] #[153] false, 1, 8, Value.nilFunc⟩ := by kernel_rfl
@[push_cast] theorem zVm : tyI Tryz.prog 156 = some ⟨TypeDesc.func #[34, 34] #[4] false, 1, 8, Value.nilFunc⟩ := by kernel_rfl
@[push_cast] theorem zUg : tyI Tryz.prog 157 = some ⟨TypeDesc.func #[34] #[3] false, 1, 8, Value.nilFunc⟩ := by kernel_rfl
@[push_cast] theorem zUr : tyI Tryz.prog 158 = some ⟨TypeDesc.struct #[{ name := "same", type := 156, offset := 0, embedded := false, tag := "", pkgPath := "reticent/equiv", byteOffset := 0 }, { name := "label", type := 157, offset := 1, embedded := false, tag := "", pkgPath := "reticent/equiv", byteOffset := 8 }, { name := "seen", type := 156, offset := 2, embedded := false, tag := "", pkgPath := "reticent/equiv", byteOffset := 16 }], 3, 24, (Value.agg #[Value.nilFunc, Value.nilFunc, Value.nilFunc])⟩ := by kernel_rfl
@[push_cast] theorem zUs : tyI Tryz.prog 159 = some ⟨TypeDesc.struct #[{ name := "same", type := 156, offset := 0, embedded := false, tag := "", pkgPath := "reticent/equiv", byteOffset := 0 }, { name := "label", type := 157, offset := 1, embedded := false, tag := "", pkgPath := "reticent/equiv", byteOffset := 8 }, { name := "seen", type := 156, offset := 2, embedded := false, tag := "", pkgPath := "reticent/equiv", byteOffset := 16 }], 3, 24, (Value.agg #[Value.nilFunc, Value.nilFunc, Value.nilFunc])⟩ := by kernel_rfl
@[push_cast] theorem zUb : tyI Tryz.prog 162 = some ⟨TypeDesc.func #[104, 104] #[4] false, 1, 8, Value.nilFunc⟩ := by kernel_rfl
@[push_cast] theorem zUu : tyI Tryz.prog 164 = some ⟨TypeDesc.struct #[{ name := "same", type := 162, offset := 0, embedded := false, tag := "", pkgPath := "reticent/equiv", byteOffset := 0 }, { name := "label", type := 133, offset := 1, embedded := false, tag := "", pkgPath := "reticent/equiv", byteOffset := 8 }, { name := "seen", type := 162, offset := 2, embedded := false, tag := "", pkgPath := "reticent/equiv", byteOffset := 16 }], 3, 24, (Value.agg #[Value.nilFunc, Value.nilFunc, Value.nilFunc])⟩ := by kernel_rfl
@[push_cast] theorem zVu : tyI Tryz.prog 166 = some ⟨TypeDesc.func #[25, 26] #[40] true, 1, 8, Value.nilFunc⟩ := by kernel_rfl
@[push_cast] theorem zVy : tyI Tryz.prog 168 = some ⟨TypeDesc.struct #[{ name := "l", type := 25, offset := 0, embedded := false, tag := "", pkgPath := "reticent/equiv", byteOffset := 0 }, { name := "o", type := 3, offset := 2, embedded := false, tag := "", pkgPath := "reticent/equiv", byteOffset := 48 }], 3, 56, (Value.agg #[Value.slice none 0 0, Value.slice none 0 0, Value.int IntKind.i64 0])⟩ := by kernel_rfl
@[push_cast] theorem zUY : tyI Tryz.prog 172 = some ⟨TypeDesc.func #[168, 164, 37, 37] #[4] false, 1, 8, Value.nilFunc⟩ := by kernel_rfl
@[push_cast] theorem zVG : tyI Tryz.prog 173 = some ⟨TypeDesc.func #[168, 37] #[37] false, 1, 8, Value.nilFunc⟩ := by kernel_rfl
@[push_cast] theorem zTX : tyI Tryz.prog 174 = some ⟨TypeDesc.func #[23, 176] #[3] false, 1, 8, Value.nilFunc⟩ := by kernel_rfl
@[push_cast] theorem zUB : tyI Tryz.prog 175 = some ⟨TypeDesc.func #[98] #[3] false, 1, 8, Value.nilFunc⟩ := by kernel_rfl
@[push_cast] theorem zTi : tyI Tryz.prog 176 = some ⟨TypeDesc.func #[98] #[4] false, 1, 8, Value.nilFunc⟩ := by kernel_rfl
@[push_cast] theorem zVJ : tyI Tryz.prog 177 = some ⟨TypeDesc.pointer 179, 1, 8, (Value.pointer none)⟩ := by kernel_rfl
@[push_cast] theorem zWK : tyI Tryz.prog 178 = some ⟨TypeDesc.struct #[{ name := "labels", type := 3, offset := 0, embedded := false, tag := "", pkgPath := "reticent/gen", byteOffset := 0 }, { name := "sp", type := 28, offset := 1, embedded := false, tag := "", pkgPath := "reticent/gen", byteOffset := 8 }, { name := "d", type := 30, offset := 6, embedded := false, tag := "", pkgPath := "reticent/gen", byteOffset := 64 }, { name := "bad", type := 40, offset := 9, embedded := false, tag := "", pkgPath := "reticent/gen", byteOffset := 120 }], 10, 128, (Value.agg #[Value.int IntKind.i64 0, Value.int IntKind.i64 0, Value.int IntKind.i64 0, Value.int IntKind.i64 0, Value.int IntKind.i64 0, Value.slice none 0 0, Value.slice none 0 0, Value.int IntKind.i64 0, Value.slice none 0 0, Value.int IntKind.i64 0])⟩ := by kernel_rfl
@[push_cast] theorem zTp : tyI Tryz.prog 179 = some ⟨TypeDesc.struct #[{ name := "labels", type := 3, offset := 0, embedded := false, tag := "", pkgPath := "reticent/gen", byteOffset := 0 }, { name := "sp", type := 28, offset := 1, embedded := false, tag := "", pkgPath := "reticent/gen", byteOffset := 8 }, { name := "d", type := 30, offset := 6, embedded := false, tag := "", pkgPath := "reticent/gen", byteOffset := 64 }, { name := "bad", type := 40, offset := 9, embedded := false, tag := "", pkgPath := "reticent/gen", byteOffset := 120 }], 10, 128, (Value.agg #[Value.int IntKind.i64 0, Value.int IntKind.i64 0, Value.int IntKind.i64 0, Value.int IntKind.i64 0, Value.int IntKind.i64 0, Value.slice none 0 0, Value.slice none 0 0, Value.int IntKind.i64 0, Value.slice none 0 0, Value.int IntKind.i64 0])⟩ := by kernel_rfl
@[push_cast] theorem zVY : tyI Tryz.prog 180 = some ⟨TypeDesc.func #[177, 3, 181] #[35] false, 1, 8, Value.nilFunc⟩ := by kernel_rfl
@[push_cast] theorem zWI : tyI Tryz.prog 181 = some ⟨TypeDesc.func #[] #[100] false, 1, 8, Value.nilFunc⟩ := by kernel_rfl
@[push_cast] theorem zWL : tyI Tryz.prog 182 = some ⟨TypeDesc.func #[177, 3, 183] #[36] false, 1, 8, Value.nilFunc⟩ := by kernel_rfl
@[push_cast] theorem zWP : tyI Tryz.prog 183 = some ⟨TypeDesc.func #[] #[34] false, 1, 8, Value.nilFunc⟩ := by kernel_rfl
@[push_cast] theorem zTy : tyI Tryz.prog 184 = some ⟨TypeDesc.func #[177, 3, 185] #[37] false, 1, 8, Value.nilFunc⟩ := by kernel_rfl
@[push_cast] theorem zWS : tyI Tryz.prog 185 = some ⟨TypeDesc.func #[] #[104] false, 1, 8, Value.nilFunc⟩ := by kernel_rfl
@[push_cast] theorem zTq : tyI Tryz.prog 186 = some ⟨TypeDesc.func #[] #[3] false, 1, 8, Value.nilFunc⟩ := by kernel_rfl
@[push_cast] theorem zWV : tyI Tryz.prog 187 = some ⟨TypeDesc.func #[3] #[3] false, 1, 8, Value.nilFunc⟩ := by kernel_rfl
@[push_cast] theorem zWT : tyI Tryz.prog 189 = some ⟨TypeDesc.func #[25] #[4] false, 1, 8, Value.nilFunc⟩ := by kernel_rfl
@[push_cast] theorem zTu : tyI Tryz.prog 190 = some ⟨TypeDesc.func #[25, 3, 3] #[3] false, 1, 8, Value.nilFunc⟩ := by kernel_rfl
@[push_cast] theorem zTo : tyI Tryz.prog 191 = some ⟨TypeDesc.func #[3, 3] #[4] false, 1, 8, Value.nilFunc⟩ := by kernel_rfl
@[push_cast] theorem zUd : tyI Tryz.prog 192 = some ⟨TypeDesc.func #[26] #[4] false, 1, 8, Value.nilFunc⟩ := by kernel_rfl
@[push_cast] theorem zVc : tyI Tryz.prog 193 = some ⟨TypeDesc.func #[106, 3] #[106] false, 1, 8, Value.nilFunc⟩ := by kernel_rfl
@[push_cast] theorem zVE : tyI Tryz.prog 194 = some ⟨TypeDesc.struct #[{ name := "M", type := 106, offset := 0, embedded := false, tag := "", pkgPath := "", byteOffset := 0 }, { name := "X", type := 100, offset := 5, embedded := false, tag := "", pkgPath := "", byteOffset := 72 }], 8, 96, (Value.agg #[Value.slice none 0 0, Value.int IntKind.i64 0, Value.slice none 0 0, Value.int IntKind.i64 0, Value.int IntKind.i64 0, Value.int IntKind.i64 0, Value.int IntKind.i64 0, Value.int IntKind.i64 0])⟩ := by kernel_rfl
@[push_cast] theorem zWR : tyI Tryz.prog 195 = some ⟨TypeDesc.struct #[{ name := "M", type := 106, offset := 0, embedded := false, tag := "", pkgPath := "", byteOffset := 0 }, { name := "X", type := 100, offset := 5, embedded := false, tag := "", pkgPath := "", byteOffset := 72 }], 8, 96, (Value.agg #[Value.slice none 0 0, Value.int IntKind.i64 0, Value.slice none 0 0, Value.int IntKind.i64 0, Value.int IntKind.i64 0, Value.int IntKind.i64 0, Value.int IntKind.i64 0, Value.int IntKind.i64 0])⟩ := by kernel_rfl
@[push_cast] theorem zUm : tyI Tryz.prog 196 = some ⟨TypeDesc.func #[106, 3, 28, 26, 3] #[195] false, 1, 8, Value.nilFunc⟩ := by kernel_rfl
@[push_cast] theorem zUC : tyI Tryz.prog 197 = some ⟨TypeDesc.struct #[{ name := "M", type := 106, offset := 0, embedded := false, tag := "", pkgPath := "", byteOffset := 0 }, { name := "X", type := 100, offset := 5, embedded := false, tag := "", pkgPath := "", byteOffset := 72 }], 8, 96, (Value.agg #[Value.slice none 0 0, Value.int IntKind.i64 0, Value.slice none 0 0, Value.int IntKind.i64 0, Value.int IntKind.i64 0, Value.int IntKind.i64 0, Value.int IntKind.i64 0, Value.int IntKind.i64 0])⟩ := by kernel_rfl
@[push_cast] theorem zVS : tyI Tryz.prog 198 = some ⟨TypeDesc.func #[106, 3, 28] #[197] false, 1, 8, Value.nilFunc⟩ := by kernel_rfl
@[push_cast] theorem zUt : tyI Tryz.prog 199 = some ⟨TypeDesc.struct #[{ name := "M", type := 106, offset := 0, embedded := false, tag := "", pkgPath := "", byteOffset := 0 }, { name := "X", type := 104, offset := 5, embedded := false, tag := "", pkgPath := "", byteOffset := 72 }], 8, 96, (Value.agg #[Value.slice none 0 0, Value.int IntKind.i64 0, Value.slice none 0 0, Value.int IntKind.i64 0, Value.int IntKind.i64 0, Value.bool false, Value.int IntKind.i64 0, Value.int IntKind.i64 0])⟩ := by kernel_rfl
@[push_cast] theorem zVh : tyI Tryz.prog 200 = some ⟨TypeDesc.struct #[{ name := "M", type := 106, offset := 0, embedded := false, tag := "", pkgPath := "", byteOffset := 0 }, { name := "X", type := 104, offset := 5, embedded := false, tag := "", pkgPath := "", byteOffset := 72 }], 8, 96, (Value.agg #[Value.slice none 0 0, Value.int IntKind.i64 0, Value.slice none 0 0, Value.int IntKind.i64 0, Value.int IntKind.i64 0, Value.bool false, Value.int IntKind.i64 0, Value.int IntKind.i64 0])⟩ := by kernel_rfl
@[push_cast] theorem zUh : tyI Tryz.prog 201 = some ⟨TypeDesc.func #[106, 3, 28, 4] #[200] false, 1, 8, Value.nilFunc⟩ := by kernel_rfl
@[push_cast] theorem zVU : tyI Tryz.prog 202 = some ⟨TypeDesc.slice 203, 1, 24, (Value.slice none 0 0)⟩ := by kernel_rfl
@[push_cast] theorem zUA : tyI Tryz.prog 203 = some ⟨TypeDesc.array 2 113, 2, 16, (Value.agg #[Value.nilFunc, Value.nilFunc])⟩ := by kernel_rfl
@[push_cast] theorem zVP : tyI Tryz.prog 204 = some ⟨TypeDesc.func #[113] #[] false, 1, 8, Value.nilFunc⟩ := by kernel_rfl
@[push_cast] theorem zUX : tyI Tryz.prog 205 = some ⟨TypeDesc.func #[3] #[113] false, 1, 8, Value.nilFunc⟩ := by kernel_rfl
@[push_cast] theorem zUy : tyI Tryz.prog 206 = some ⟨TypeDesc.slice 208, 1, 24, (Value.slice none 0 0)⟩ := by kernel_rfl
@[push_cast] theorem zVp : tyI Tryz.prog 207 = some ⟨TypeDesc.func #[39] #[206] false, 1, 8, Value.nilFunc⟩ := by kernel_rfl
@[push_cast] theorem zVB : tyI Tryz.prog 208 = some ⟨TypeDesc.array 2 3, 2, 16, (Value.agg #[Value.int IntKind.i64 0, Value.int IntKind.i64 0])⟩ := by kernel_rfl
@[push_cast] theorem zVn : tyI Tryz.prog 209 = some ⟨TypeDesc.func #[3, 3, 210] #[113] false, 1, 8, Value.nilFunc⟩ := by kernel_rfl
@[push_cast] theorem zUz : tyI Tryz.prog 210 = some ⟨TypeDesc.func #[3, 3] #[3, 3] false, 1, 8, Value.nilFunc⟩ := by kernel_rfl
@[push_cast] theorem zUp : tyI Tryz.prog 211 = some ⟨TypeDesc.func #[113, 113] #[4] false, 1, 8, Value.nilFunc⟩ := by kernel_rfl
@[push_cast] theorem zVA : tyI Tryz.prog 212 = some ⟨TypeDesc.func #[37, 37] #[4] false, 1, 8, Value.nilFunc⟩ := by kernel_rfl
@[push_cast] theorem zWM : tyI Tryz.prog 213 = some ⟨TypeDesc.func #[25, 35] #[4] false, 1, 8, Value.nilFunc⟩ := by kernel_rfl
@[push_cast] theorem zTz : tyI Tryz.prog 214 = some ⟨TypeDesc.func #[25, 3] #[4] false, 1, 8, Value.nilFunc⟩ := by kernel_rfl
@[push_cast] theorem zTk : tyI Tryz.prog 215 = some ⟨TypeDesc.func #[25, 36] #[4] false, 1, 8, Value.nilFunc⟩ := by kernel_rfl
@[push_cast] theorem zTW : tyI Tryz.prog 216 = some ⟨TypeDesc.func #[25, 37] #[4] false, 1, 8, Value.nilFunc⟩ := by kernel_rfl
@[push_cast] theorem zUO : tyI Tryz.prog 217 = some ⟨TypeDesc.slice 220, 1, 24, (Value.slice none 0 0)⟩ := by kernel_rfl
@[push_cast] theorem zVH : tyI Tryz.prog 218 = some ⟨TypeDesc.func #[39] #[217] false, 1, 8, Value.nilFunc⟩ := by kernel_rfl
@[push_cast] theorem zVo : tyI Tryz.prog 219 = some ⟨TypeDesc.struct #[{ name := "Kind", type := 3, offset := 0, embedded := false, tag := "", pkgPath := "", byteOffset := 0 }, { name := "I", type := 3, offset := 1, embedded := false, tag := "", pkgPath := "", byteOffset := 8 }], 2, 16, (Value.agg #[Value.int IntKind.i64 0, Value.int IntKind.i64 0])⟩ := by kernel_rfl
@[push_cast] theorem zVa : tyI Tryz.prog 220 = some ⟨TypeDesc.struct #[{ name := "Kind", type := 3, offset := 0, embedded := false, tag := "", pkgPath := "", byteOffset := 0 }, { name := "I", type := 3, offset := 1, embedded := false, tag := "", pkgPath := "", byteOffset := 8 }], 2, 16, (Value.agg #[Value.int IntKind.i64 0, Value.int IntKind.i64 0])⟩ := by kernel_rfl
@[push_cast] theorem zUK : tyI Tryz.prog 227 = some ⟨TypeDesc.func #[191] #[] false, 1, 8, Value.nilFunc⟩ := by kernel_rfl
@[push_cast] theorem zUI : tyI Tryz.prog 228 = some ⟨TypeDesc.func #[191] #[] false, 1, 8, Value.nilFunc⟩ := by kernel_rfl
@[push_cast] theorem zUT : tyI Tryz.prog 229 = some ⟨TypeDesc.func #[39] #[228] false, 1, 8, Value.nilFunc⟩ := by kernel_rfl
@[push_cast] theorem zVv : tyI Tryz.prog 230 = some ⟨TypeDesc.func #[25, 3] #[3, 40] false, 1, 8, Value.nilFunc⟩ := by kernel_rfl
@[push_cast] theorem zUM : tyI Tryz.prog 232 = some ⟨TypeDesc.slice 39, 1, 24, (Value.slice none 0 0)⟩ := by kernel_rfl
@[push_cast] theorem zVi : tyI Tryz.prog 233 = some ⟨TypeDesc.func #[3] #[] false, 1, 8, Value.nilFunc⟩ := by kernel_rfl
@[push_cast] theorem zVV : tyI Tryz.prog 234 = some ⟨TypeDesc.map 3 233, 1, 8, (Value.map none)⟩ := by kernel_rfl
@[push_cast] theorem zWU : tyI Tryz.prog 236 = some ⟨TypeDesc.func #[104] #[] false, 1, 8, Value.nilFunc⟩ := by kernel_rfl
@[push_cast] theorem zVd : tyI Tryz.prog 238 = some ⟨TypeDesc.func #[25, 3, 37] #[37, 40] false, 1, 8, Value.nilFunc⟩ := by kernel_rfl
@[push_cast] theorem zUN : tyI Tryz.prog 239 = some ⟨TypeDesc.func #[26] #[3] false, 1, 8, Value.nilFunc⟩ := by kernel_rfl
@[push_cast] theorem zUF : tyI Tryz.prog 250 = some ⟨TypeDesc.func #[37, 148] #[3] false, 1, 8, Value.nilFunc⟩ := by kernel_rfl
@[push_cast] theorem zVs : tyI Tryz.prog 251 = some ⟨TypeDesc.slice 35, 1, 24, (Value.slice none 0 0)⟩ := by kernel_rfl
@[push_cast] theorem zVz : tyI Tryz.prog 252 = some ⟨TypeDesc.slice 36, 1, 24, (Value.slice none 0 0)⟩ := by kernel_rfl
@[push_cast] theorem zUk : tyI Tryz.prog 253 = some ⟨TypeDesc.slice 37, 1, 24, (Value.slice none 0 0)⟩ := by kernel_rfl
@[push_cast] theorem zVe : tyI Tryz.prog 255 = some ⟨TypeDesc.func #[35, 35, 150] #[4] false, 1, 8, Value.nilFunc⟩ := by kernel_rfl
@[push_cast] theorem zWG : tyI Tryz.prog 256 = some ⟨TypeDesc.func #[36, 36, 156] #[4] false, 1, 8, Value.nilFunc⟩ := by kernel_rfl
@[push_cast] theorem zUq : tyI Tryz.prog 257 = some ⟨TypeDesc.func #[36, 146] #[36] false, 1, 8, Value.nilFunc⟩ := by kernel_rfl
@[push_cast] theorem zTe : tyI Tryz.prog 258 = some ⟨TypeDesc.func #[36] #[36] false, 1, 8, Value.nilFunc⟩ := by kernel_rfl
@[push_cast] theorem zTm : tyI Tryz.prog 259 = some ⟨TypeDesc.func #[25, 3, 3] #[4, 40] false, 1, 8, Value.nilFunc⟩ := by kernel_rfl
@[push_cast] theorem zUH : tyI Tryz.prog 260 = some ⟨TypeDesc.func #[37, 37, 162] #[4] false, 1, 8, Value.nilFunc⟩ := by kernel_rfl
@[push_cast] theorem zUV : tyI Tryz.prog 267 = some ⟨TypeDesc.func #[3, 3] #[100] false, 1, 8, Value.nilFunc⟩ := by kernel_rfl
@[push_cast] theorem zUi : tyI Tryz.prog 268 = some ⟨TypeDesc.func #[9] #[4] false, 1, 8, Value.nilFunc⟩ := by kernel_rfl
@[push_cast] theorem zVf : tyI Tryz.prog 269 = some ⟨TypeDesc.func #[98, 3] #[4] false, 1, 8, Value.nilFunc⟩ := by kernel_rfl
@[push_cast] theorem zWY : tyI Tryz.prog 270 = some ⟨TypeDesc.func #[106, 272] #[106] false, 1, 8, Value.nilFunc⟩ := by kernel_rfl
@[push_cast] theorem zTs : tyI Tryz.prog 271 = some ⟨TypeDesc.struct #[{ name := "D", type := 30, offset := 0, embedded := false, tag := "", pkgPath := "", byteOffset := 0 }, { name := "N", type := 3, offset := 3, embedded := false, tag := "", pkgPath := "", byteOffset := 56 }, { name := "L", type := 26, offset := 4, embedded := false, tag := "", pkgPath := "", byteOffset := 64 }, { name := "E", type := 40, offset := 5, embedded := false, tag := "", pkgPath := "", byteOffset := 88 }], 6, 96, (Value.agg #[Value.slice none 0 0, Value.int IntKind.i64 0, Value.slice none 0 0, Value.int IntKind.i64 0, Value.slice none 0 0, Value.int IntKind.i64 0])⟩ := by kernel_rfl
@[push_cast] theorem zUP : tyI Tryz.prog 272 = some ⟨TypeDesc.struct #[{ name := "D", type := 30, offset := 0, embedded := false, tag := "", pkgPath := "", byteOffset := 0 }, { name := "N", type := 3, offset := 3, embedded := false, tag := "", pkgPath := "", byteOffset := 56 }, { name := "L", type := 26, offset := 4, embedded := false, tag := "", pkgPath := "", byteOffset := 64 }, { name := "E", type := 40, offset := 5, embedded := false, tag := "", pkgPath := "", byteOffset := 88 }], 6, 96, (Value.agg #[Value.slice none 0 0, Value.int IntKind.i64 0, Value.slice none 0 0, Value.int IntKind.i64 0, Value.slice none 0 0, Value.int IntKind.i64 0])⟩ := by kernel_rfl
@[push_cast] theorem zUR : tyI Tryz.prog 275 = some ⟨TypeDesc.func #[30, 26] #[272] false, 1, 8, Value.nilFunc⟩ := by kernel_rfl
@[push_cast] theorem zVr : tyI Tryz.prog 276 = some ⟨TypeDesc.func #[3] #[228] false, 1, 8, Value.nilFunc⟩ := by kernel_rfl
@[push_cast] theorem zUv : tyI Tryz.prog 281 = some ⟨TypeDesc.pointer 100, 1, 8, (Value.pointer none)⟩ := by kernel_rfl
@[push_cast] theorem zTn : tyI Tryz.prog 283 = some ⟨TypeDesc.pointer 34, 1, 8, (Value.pointer none)⟩ := by kernel_rfl
@[push_cast] theorem zVw : tyI Tryz.prog 284 = some ⟨TypeDesc.pointer 104, 1, 8, (Value.pointer none)⟩ := by kernel_rfl
@[push_cast] theorem zVk : tyI Tryz.prog 285 = some ⟨TypeDesc.func #[3, 100] #[4] false, 1, 8, Value.nilFunc⟩ := by kernel_rfl
@[push_cast] theorem zVL : tyI Tryz.prog 287 = some ⟨TypeDesc.func #[252] #[36] true, 1, 8, Value.nilFunc⟩ := by kernel_rfl
@[push_cast] theorem zTa : tyI Tryz.prog 288 = some ⟨TypeDesc.func #[25, 3] #[3] false, 1, 8, Value.nilFunc⟩ := by kernel_rfl
@[push_cast] theorem zTg : tyI Tryz.prog 292 = some ⟨TypeDesc.func #[25, 3, 36] #[36] false, 1, 8, Value.nilFunc⟩ := by kernel_rfl
@[push_cast] theorem zVb : tyI Tryz.prog 294 = some ⟨TypeDesc.func #[30, 26] #[30, 3, 40] false, 1, 8, Value.nilFunc⟩ := by kernel_rfl
@[push_cast] theorem zUl : tyI Tryz.prog 295 = some ⟨TypeDesc.func #[26, 142] #[3] false, 1, 8, Value.nilFunc⟩ := by kernel_rfl
@[push_cast] theorem zVT : tyI Tryz.prog 296 = some ⟨TypeDesc.func #[30, 3] #[3] false, 1, 8, Value.nilFunc⟩ := by kernel_rfl
@[push_cast] theorem zUW : tyI Tryz.prog 297 = some ⟨TypeDesc.func #[26] #[26] false, 1, 8, Value.nilFunc⟩ := by kernel_rfl
@[push_cast] theorem zWN : tyI Tryz.prog 298 = some ⟨TypeDesc.func #[22, 9] #[4] false, 1, 8, Value.nilFunc⟩ := by kernel_rfl
@[push_cast] theorem zVC : tyI Tryz.prog 299 = some ⟨TypeDesc.func #[25, 3] #[98] false, 1, 8, Value.nilFunc⟩ := by kernel_rfl
@[push_cast] theorem zTb : tyI Tryz.prog 304 = some ⟨TypeDesc.map 3 142, 1, 8, (Value.map none)⟩ := by kernel_rfl
@[push_cast] theorem zVF : tyI Tryz.prog 308 = some ⟨TypeDesc.func #[3, 3] #[142] false, 1, 8, Value.nilFunc⟩ := by kernel_rfl
@[push_cast] theorem zUQ : zEG Tryz.prog 33 = some [(0, EK.int), (1, EK.int)] := by kernel_rfl
@[push_cast] theorem zUU : zEG Tryz.prog 34 = some [(0, EK.int), (1, EK.int)] := by kernel_rfl
@[push_cast] theorem zWF : zEG Tryz.prog 65 = some [(0, EK.int), (1, EK.int), (2, EK.int)] := by kernel_rfl
@[push_cast] theorem zTd : zEG Tryz.prog 66 = some [(0, EK.int), (1, EK.int), (2, EK.int)] := by kernel_rfl
@[push_cast] theorem zTj : zEG Tryz.prog 99 = some [(0, EK.int), (1, EK.int), (2, EK.int)] := by kernel_rfl
@[push_cast] theorem zTR : zEG Tryz.prog 100 = some [(0, EK.int), (1, EK.int), (2, EK.int)] := by kernel_rfl
@[push_cast] theorem zTP : zEG Tryz.prog 103 = some [(0, EK.bool), (1, EK.int), (2, EK.int)] := by kernel_rfl
@[push_cast] theorem zTL : zEG Tryz.prog 104 = some [(0, EK.bool), (1, EK.int), (2, EK.int)] := by kernel_rfl
@[push_cast] theorem zTS : zEG Tryz.prog 129 = some [(0, EK.int), (1, EK.int)] := by kernel_rfl
@[push_cast] theorem zTT : zEG Tryz.prog 130 = some [(0, EK.int), (1, EK.int)] := by kernel_rfl
@[push_cast] theorem zTU : zEG Tryz.prog 219 = some [(0, EK.int), (1, EK.int)] := by kernel_rfl
@[push_cast] theorem zTQ : zEG Tryz.prog 220 = some [(0, EK.int), (1, EK.int)] := by kernel_rfl

def zIx (s t : Slot) : Prop := t = .dead ∨ s = t ∨ ∃ e cs, s = .ent e ∧ t = .ent { e with cells := cs } ∧ leF e.cells cs
def leS : List Slot → List Slot → Prop
 | [], [] => True
 | a :: l, b :: m => zIx a b ∧ leS l m
 | _, _ => False
theorem zHP {l m : List Slot} (h : leS l m) : l.length = m.length ∧ ∀ (j : Nat) (b : Slot), m[j]? = some b → ∃ a, l[j]? = some a ∧ zIx a b := by
 induction l generalizing m with
 | nil => cases m with
  | nil => exact ⟨rfl, fun j b hb => by simp at hb⟩
  | cons _ _ => exact h.elim
 | cons a l ih =>
  cases m with
  | nil => exact h.elim
  | cons b m =>
   obtain ⟨h1, h2⟩ := ih h.2
   refine ⟨by simp [h1], fun j c hc => ?_⟩
   cases j with
   | zero => simp at hc; subst hc; exact ⟨a, rfl, h.1⟩
   | succ j => exact h2 j c (by simpa using hc)
theorem zKf {l m : List Slot} (h : leS l m) {k : Nat} {e : Ent} (hk : m[k]? = some (.ent e)) : ∃ e0, l[k]? = some (.ent e0) ∧ e = { e0 with cells := e.cells } ∧ (e0.cells = e.cells ∨ leF e0.cells e.cells) := by
 obtain ⟨a, ha, hle⟩ := (zHP h).2 k _ hk
 rcases hle with h | rfl | ⟨e0, cs, rfl, h2, h3⟩
 ·cases h
 ·exact ⟨e, ha, rfl, .inl rfl⟩
 ·simp only [Slot.ent.injEq] at h2
  subst h2
  exact ⟨e0, ha, rfl, .inr h3⟩

theorem Rel.le {B : Base} {s t : St} {a : Act} {w : World} (h : Rel B s a w) (hf : leF s.fr t.fr) (hs : leS s.σ t.σ) : Rel B t a w := by
 obtain ⟨ρ, hp, ⟨hl, hr⟩, hm⟩ := h
 have hlive : ∀ k, live t.σ k → live s.σ k := fun k ⟨e, he⟩ => by obtain ⟨e0, h1, _⟩ := zKf hs he; exact ⟨e0, h1⟩
 have hmove : Move B s.σ ρ w t.σ ρ w := {
  size := Nat.le_refl _
  keep := fun _ _ _ => rfl
  lives := fun k hk => .inl ⟨k, hlive k hk, rfl⟩
  uses := fun k g ⟨x, hx, hg⟩ => by
   have hlt : k < t.σ.length := by rw [← (zHP hs).1]; exact (List.getElem?_eq_some_iff.1 hx).1
   refine ⟨t.σ[k], List.getElem?_eq_getElem hlt, ?_⟩
   obtain ⟨b, hb, hle⟩ := (zHP hs).2 k _ (List.getElem?_eq_getElem hlt)
   rw [hx] at hb
   cases hb
   rcases hle with h | h | ⟨e, cs, h1, h2, _⟩
   ·rw [h]; trivial
   ·rw [← h]; exact hg
   ·rw [h2]; rw [h1] at hg; exact hg
  tabs := fun k g p _ ht => by
   obtain ⟨e, he, hg, hp⟩ := Tb.live ht
   obtain ⟨e0, h1, h2, _⟩ := zKf hs he
   have := Tb.of (ρ := ρ) h1
   have hge : e0.gen = e.gen := by rw [h2]
   rw [hge, hg, hp] at this
   exact this }
 refine ⟨ρ, hmove.hp hp rfl rfl rfl (fun k e he => ?_) (fun k k' hk hk' => hp.inj k k' (hlive k hk) (hlive k' hk')), ⟨by rw [← (zEh hf).1]; exact hl, fun j b hb => ?_⟩, hm⟩
 ·obtain ⟨e0, h1, h2, h3⟩ := zKf hs he
  obtain ⟨cs, o, c1, c0, c2, c3⟩ := hmove.entOk (hp.ent k e0 h1) rfl
  have hty : e0.ty = e.ty := by rw [h2]
  have harr : e0.arr = e.arr := by rw [h2]
  have hkd : e0.kd = e.kd := by rw [h2]
  have hlen : e0.cells.length = e.cells.length := by
   rcases h3 with h3 | h3
   ·rw [h3]
   ·exact (zEh h3).1
  refine ⟨cs, o, c1, by unfold zGt at c0 ⊢; rw [← hkd, ← hty]; exact c0, by unfold zLL at c2 ⊢; rw [← hkd, ← harr, ← hlen]; exact c2, fun j d hd => ?_⟩
  rw [← hkd]
  rcases h3 with h3 | h3
  ·exact c3 j d (by rw [h3]; exact hd)
  ·obtain ⟨d0, hd0, hle⟩ := (zEh h3).2 j d hd
   obtain ⟨u, a1, a2, a3⟩ := c3 j d0 hd0
   exact ⟨u, a1, a2, hle.rep a3⟩
 ·obtain ⟨d0, hd0, hle⟩ := (zEh hf).2 j b hb
  obtain ⟨u, h1, h2⟩ := hr j d0 hd0
  exact ⟨u, h1, hle.rep (hmove.rp h2)⟩

theorem Rel.pick {B : Base} {s : St} {a : Act} {w : World} (h : Rel B s a w) {ks : List Nat} (hn : ks.Nodup) (hid : ∀ k g, zBX B.σ0 k g → ks[k]? = some k) : Rel B ⟨s.fr.map (ren (mOf ks)), AM.pick ks s.σ⟩ a w := by
 obtain ⟨ρ, hp, ⟨hl, hr⟩, hm⟩ := h
 have hz : ∀ b, Fz B s.σ ρ w b → Fz B (AM.pick ks s.σ) (zAZ ks ρ) w b := fun b hb => ⟨hb.1, hb.2.1, fun j hj => by obtain ⟨k, _, h2, h3⟩ := zAd (ρ := ρ) hj; rw [h3]; exact hb.2.2 k h2⟩
 refine ⟨zAZ ks ρ, {
  ent := fun j e he => zFO hp hz j e he
  inj := fun j j' h h' he => zHj hp hn j j' h h' he
  nf := fun j hj => by obtain ⟨k, _, h2, h3⟩ := zAd (ρ := ρ) hj; rw [h3]; exact hp.nf k h2
  own := fun j hj => by obtain ⟨k, _, h2, h3⟩ := zAd (ρ := ρ) hj; rw [h3]; exact hp.own k h2
  size := hp.size
  os := hp.os
  tape := hp.tape
  output := hp.output
  base := hp.base
  n0 := hp.n0
  m0 := hp.m0
  hist := fun k g hk => by
   have hks := hid k g hk
   obtain ⟨h1, h2⟩ := hp.hist k g hk
   refine ⟨zDh hks h1, fun p hp' => ?_⟩
   obtain ⟨k', hk', ht⟩ := zHQ hp'
   rw [hks] at hk'
   cases hk'
   exact h2 p ht }, ⟨by simpa using hl, fun j d hd => ?_⟩, hm⟩
 obtain ⟨d0, hd0, rfl⟩ := zAE hd
 obtain ⟨u, h1, h2⟩ := hr j d0 hd0
 exact ⟨u, h1, (zJv (ks := ks) hz).ren h2⟩

def zQN (n : Nat) (s t : St) : Prop := ∃ ks : List Nat, ks.Nodup ∧ (∀ k, k < n → ks[k]? = some k) ∧ leF (s.fr.map (ren (mOf ks))) t.fr ∧ leS (pick ks s.σ) t.σ
theorem Rel.weak {B : Base} {s t : St} {a : Act} {w : World} {n : Nat} (h : Rel B s a w) (hw : zQN n s t) (hn : ∀ k g, zBX B.σ0 k g → k < n) : Rel B t a w := by
 obtain ⟨ks, h1, h2, h3, h4⟩ := hw
 exact (h.pick h1 (fun k g hk => h2 k (hn k g hk))).le h3 h4
theorem Rel.used_lt {B : Base} {s : St} {a : Act} {w : World} (h : Rel B s a w) : ∀ k g, zBX B.σ0 k g → k < s.σ.length := by
 obtain ⟨ρ, hp, _⟩ := h
 intro k g hk
 obtain ⟨x, hx, _⟩ := (hp.hist k g hk).1
 exact (List.getElem?_eq_some_iff.1 hx).1

section
variable {P : Program} {ro : Option Nat} {st : St} {K : Exit → St → Prop}
theorem zJk {γ : Type} {c : Code} (inv : γ → St) (m : γ → Nat) (g0 : γ) (h0 : zQN st.σ.length st (inv g0))
  (round : ∀ g, AWP P ro c (inv g) (zGo (fun s' => ∃ g', m g' < m g ∧ zQN st.σ.length s' (inv g')) K)) : AWP P ro (.loop c) st K := fun B a w hr Q hQ => by
 intro b k cs hro hb hrm
 have hlt := hr.used_lt
 have key : ∀ j g a w, m g = j → Rel B (inv g) a w →
   ∃ e a' w', Q e a' w' ∧ ArrivesIn (Machine.fenced P (FW ro)) P (lone (b.atR a (.code c :: .inLoop c :: k)) cs w) b k cs e a' w' := by
  intro j
  induction j using Nat.strongRecOn with
  | _ j ih =>
   intro g a w hj hrel
   have hw := round g B a w hrel (fun e a' w' => (e = .normal ∧ ∃ g', m g' < m g ∧ Rel B (inv g') a' w') ∨ (e ≠ .normal ∧ Q e a' w')) (fun e st' a' w' hK hr' => by
    cases e with
    | normal => obtain ⟨g', hg, hI'⟩ := hK; exact .inl ⟨rfl, g', hg, hr'.weak hI' hlt⟩
    | exit id => exact .inr ⟨by simp, hQ _ _ _ _ hK hr'⟩
    | goto l => exact .inr ⟨by simp, hQ _ _ _ _ hK hr'⟩
    | ret => exact .inr ⟨by simp, hQ _ _ _ _ hK hr'⟩
    | panic c => exact .inr ⟨by simp, hQ _ _ _ _ hK hr'⟩
    | outgrown => exact .inr ⟨by simp, hQ _ _ _ _ hK hr'⟩)
   obtain ⟨e, a₁, w₁, hq, harr⟩ := hw b (.inLoop c :: k) cs hro hb hrm
   rcases hq with ⟨rfl, g', hg, hr'⟩ | ⟨hne, hq⟩
   ·obtain ⟨e₂, a₂, w₂, hq₂, harr₂⟩ := ih (m g') (hj ▸ hg) g' a₁ w₁ rfl hr'
    exact ⟨e₂, a₂, w₂, hq₂, .of_steps (StepsIn.trans harr (.one (fenced_calm hb hrm rfl) stepR_inLoop)) harr₂⟩
   ·exact ⟨e, a₁, w₁, hq, .pass (x := .inLoop c) rfl (fun _ _ => .inl hne) harr⟩
 obtain ⟨e, a', w', hq, harr⟩ := key _ g0 a w rfl (hr.weak h0 hlt)
 exact ⟨e, a', w', hq, .of_steps (.one (fenced_calm hb hrm rfl) stepR_loop) harr⟩
end

@[simp] theorem zSi {a : Slot} : zIx a a ↔ True := by simp [zIx]
@[simp] theorem zSn {a : Slot} : zIx a .dead ↔ True := by simp [zIx]
theorem zPq {a b : Ent} (h1 : a.gen = b.gen) (h2 : a.arr = b.arr) (h3 : a.ty = b.ty) (h5 : a.kd = b.kd) (h4 : leF a.cells b.cells) : zIx (.ent a) (.ent b) := by
 refine .inr (.inr ⟨a, b.cells, rfl, ?_, h4⟩)
 cases a; cases b; simp_all

section
variable {P : Program} {ro : Option Nat} {K : Exit → St → Prop} {s : St} {J : St → Prop}
theorem zB {y : Code} (h : AWP P ro y s K) : zGo (fun s => AWP P ro y s K) K .normal s := h
theorem zS (h : K .ret s) : zGo J K .ret s := h
theorem zX {i : Nat} (h : K (.exit i) s) : zGo J K (.exit i) s := h
theorem zO {id : Nat} (h : K .normal s) : zEH id K .normal s := h
theorem zg {id : Nat} (h : K .ret s) : zEH id K .ret s := h
theorem zW {id : Nat} (h : K .normal s) : zEH id K (.exit id) s := by
 unfold zEH
 simp [h]
theorem zFW {id i : Nat} (hne : Nat.beq i id = false) (h : K (.exit i) s) : zEH id K (.exit i) s := by
 unfold zEH
 have : i ≠ id := fun e => by subst e; simp at hne
 simp [this, h]
theorem zF {c : Operand} {x y : Code} (hc : s.eval c = .v (.bool true)) (h : AWP P ro x s K) : AWP P ro (.cond c x y) s K := zs hc (fun _ => h) (fun h => by cases h)
theorem zH {c : Operand} {x y : Code} (hc : s.eval c = .v (.bool false)) (h : AWP P ro y s K) : AWP P ro (.cond c x y) s K := zs hc (fun h => by cases h) (fun _ => h)
theorem zC {id : Nat} {ops : List Oper} (h : ∀ (KC : Oper → List Oper → Nat → St → List Rec → Prop) (J : List Rec → St → Prop), (∀ recs s, K .normal s → J recs s) →
   (∀ o os nx s recs, CallV P ro o s.eval s.σ (if zAi o then nx else zHI) (fun rd out => rvc (zFR P) ops.toArray KC J os (if zAi o then nx + 1 else nx) (out.app o.dst s) (recs ++ [⟨true, rd, out⟩])) → KC o os nx s recs) →
   rvc (zFR P) ops.toArray KC J ops s.σ.length (zLd s (zFQ ops)) []) : AWP P ro (.region id ops.toArray false) s K := zNH (zGH P ro) h
theorem zU {st : St} {id : Nat} {ops : List Oper} (hm : P.follows .mixedOrders = true) (h : ∀ (KC : Oper → List Oper → Nat → St → List Rec → Prop) (J : List Rec → St → Prop), (∀ recs s, chk ops (fun j => (zDy ops st.σ.length).getD j 0) recs = true → K .normal s → J recs s) →
   (∀ o os nx s recs, CallV P ro o s.eval s.σ (if zAi o then nx else zHI) (fun rd out => rvc (zFR P) ops.toArray KC J os (if zAi o then nx + 1 else nx) (out.app o.dst s) (recs ++ [⟨true, rd, out⟩])) → KC o os nx s recs) →
   rvc (zFR P) ops.toArray KC J ops st.σ.length (zLd st (zFQ ops)) []) : AWP P ro (.region id ops.toArray true) st K := zHF (zGH P ro) hm h
end

theorem zE {P : Program} {fn : Func} {res : D} {st : St} (h : match zHK P fn st with | some (c, d) => c ∧ leD (ren (mOf []) d) res | none => False) : zIv P fn 0 res [] .ret st := by
 split at h
 ·rename_i c d hd
  exact ⟨.inr rfl, [], c, d, hd, h.1, by simp, fun k hk => by omega, rfl, h.2⟩
 ·exact h.elim
theorem zCP {n : Int} (h1 : -9223372036854775808 ≤ n) (h2 : n ≤ 9223372036854775807) : IntKind.i64.wrap n = n := by rw [IntKind.wrap_i64]; omega
theorem zb {i n : Nat} (h : i < n) (hn : n ≤ 9223372036854775807) : IntKind.i64.wrap ((i : Int) + 1) = ((i + 1 : Nat) : Int) := by rw [zCP (by omega) (by omega)]; rfl

theorem zBe {α : Type} (f : α → List D) (l : List α) (n : Nat) (a : α) (h : l[n]? = some a) : zEt (l.map f) n = f a := by
 unfold zEt; rw [List.getElem?_map, h]; rfl
theorem zTJ (b : Bool) : (b == true) = b := by cases b <;> rfl
theorem zTV (b : Bool) : (b == false) = !b := by cases b <;> rfl
attribute [push_cast] zTJ zTV Bool.not_true Bool.not_false
theorem zDv {α : Type} (f : α → List D) (l : List α) (a b : Nat) : sub (l.map f) a b = ((l.take b).drop a).map f := by simp [sub, List.map_take, List.map_drop]
theorem zMK {α : Type} : zBQ ([] : List α) = true := rfl
theorem zLu {α : Type} (a : α) (l : List α) : zBQ (a :: l) = false := rfl
attribute [push_cast] List.flatten_cons List.flatten_nil zDv Int.toNat_zero List.drop_zero rvc zCs zFR zDK St.eval zDn zBH zEL Out.app zJA zAS zLd zFQ zAi zJc SR.pureO SR.readO SR.valO SR.vO SR.cvO SR.rdO zPZ zPn zIX zKq zGT eqV zKi zMU zMO zKN unD zLV zRa zQF zQT zPX zES zCw zIl zAD zOY zCr zGC zIK zCz zIG zFC zHr zAv zIS zQH zEC zFk zFw zLj zIL zHC zNJ zKp Instr.sameNow zCg zIB zIt zEp zIm zDH zGi zEn zQy zCn zGU zPD zDc zMK zLu isZ zEF zDT zAl zAx zAc D.solid zFr zAT frz frz0 splice Value.cells Value.oneCell' Nat.beq_eq_true_eq Nat.beq_eq List.set_cons_zero List.set_cons_succ List.length_cons List.length_nil List.map_cons List.map_nil List.toList_toArray List.getElem?_toArray List.getElem?_cons_zero List.getElem?_cons_succ Option.bind_some Option.map_some Option.map_none List.nil_append List.cons_append List.append_nil List.replicate List.drop_zero List.drop_succ_cons List.take_zero List.take_succ_cons if_true if_false Bool.false_eq_true true_and and_true Bool.and_true Bool.true_and ne_eq not_false_eq_true List.length_map decide_eq_true_eq Int.toNat_natCast

def zBF (sz : Nat) : Nat → List D → List (List D)
 | 0, _ => []
 | n + 1, l => l.take sz :: zBF sz n (l.drop sz)
theorem chunk_length {sz n : Nat} {l : List D} : (zBF sz n l).length = n := by
 induction n generalizing l with
 | zero => rfl
 | succ n ih => simp [zBF, ih]
theorem zGZ {sz : Nat} : ∀ {n : Nat} {l : List D} {i : Nat} {x : List D}, (zBF sz n l)[i]? = some x → n * sz ≤ l.length → x.length = sz ∧ ∀ (j : Nat) (d : D), x[j]? = some d → l[i * sz + j]? = some d := by
 intro n
 induction n with
 | zero => intro l i x h; simp [zBF] at h
 | succ n ih =>
  intro l i x h hl
  rw [Nat.add_mul] at hl
  cases i with
  | zero =>
   simp only [zBF, List.getElem?_cons_zero, Option.some.injEq] at h
   subst h
   refine ⟨by simp; omega, fun j d hd => ?_⟩
   have hj : j < sz := by have := (List.getElem?_eq_some_iff.1 hd).1; simp at this; omega
   rw [List.getElem?_take_of_lt hj] at hd
   rw [Nat.zero_mul, Nat.zero_add]; exact hd
  | succ i =>
   simp only [zBF, List.getElem?_cons_succ] at h
   obtain ⟨h1, h2⟩ := ih h (by simp; omega)
   refine ⟨h1, fun j d hd => ?_⟩
   have := h2 j d hd
   rw [List.getElem?_drop] at this
   rw [Nat.add_mul, show i * sz + 1 * sz + j = sz + (i * sz + j) from by omega]
   exact this
theorem zGg {α : Type} (f : α → D) (l : List α) : zBF 1 l.length (l.map f) = l.map fun x => [f x] := by
 induction l with
 | nil => rfl
 | cons a l ih => simp [zBF, ih]

def zl (j h k g : Nat) : Bool := match Nat.beq j k with
 | true => Nat.beq h g
 | false => false
theorem zMA {j h k g : Nat} (e : zl j h k g = true) : j = k ∧ h = g := by
 unfold zl at e
 split at e
 ·rename_i e'; exact ⟨Nat.eq_of_beq_eq_true e', Nat.eq_of_beq_eq_true e⟩
 ·cases e
def fr0 (k g sz : Nat) (cells : List D) : D → D
 | .ref j h n => match zl j h k g with
  | true => match Nat.ble (n * sz) cells.length with
   | true => .sl false sz (zBF sz n cells)
   | false => .any
  | false => .ref j h n
 | .ptr j h o => match zl j h k g with
  | true => .fad (cells.drop o)
  | false => .ptr j h o
 | d => d
def fr1 (k g sz : Nat) (cells : List D) : D → D
 | .fn f caps => .fn f (caps.map (fr0 k g sz cells))
 | .bnd f caps => .bnd f (caps.map (fr0 k g sz cells))
 | d => fr0 k g sz cells d
def fr2 (k g sz : Nat) (cells : List D) : D → D
 | .agg ds => .agg (ds.map (fr1 k g sz cells))
 | d => fr1 k g sz cells d
def fr3 (k g sz : Nat) (cells : List D) : D → D
 | .tup ds => .tup (ds.map (fr2 k g sz cells))
 | d => fr2 k g sz cells d
def zd (k g sz : Nat) (cells : List D) : Slot → Slot
 | .ent e => .ent { e with cells := e.cells.map (fr1 k g sz cells) }
 | s => s
def zAH (k g sz : Nat) (cells : List D) (st : St) : St := ⟨st.fr.map (fr3 k g sz cells), (st.σ.map (zd k g sz cells)).set k .dead⟩
def zj (e : Ent) : Nat := match e.arr with | some sz => sz | none => 1

section
variable {B : Base} {σ : List Slot} {ρ : Nat → Nat × Nat} {w : World} {k : Nat} {e : Ent}
theorem zNn {g sz : Nat} {cells : List D} {j : Nat} {s : Slot} (h : ((σ.map (zd k g sz cells)).set k .dead)[j]? = some s) : (j = k ∧ s = .dead) ∨ (j ≠ k ∧ ∃ s0, σ[j]? = some s0 ∧ s = zd k g sz cells s0) := by
 rw [List.getElem?_set] at h
 by_cases hj : k = j
 ·subst hj
  rw [if_pos rfl] at h
  split at h
  ·cases h; exact .inl ⟨rfl, rfl⟩
  ·cases h
 ·rw [if_neg hj] at h
  obtain ⟨s0, h1, h2⟩ := zAE h
  exact .inr ⟨fun e => hj e.symm, s0, h1, h2.symm⟩
theorem zEd {g sz : Nat} {cells : List D} {j : Nat} {e' : Ent} (h : ((σ.map (zd k g sz cells)).set k .dead)[j]? = some (.ent e')) : j ≠ k ∧ ∃ e0, σ[j]? = some (.ent e0) ∧ e' = { e0 with cells := e0.cells.map (fr1 k g sz cells) } := by
 rcases zNn h with ⟨_, h⟩ | ⟨h1, s0, h2, h3⟩
 ·cases h
 ·cases s0 with
  | free => cases h3
  | dead => cases h3
  | ent e0 => simp only [zd, Slot.ent.injEq] at h3; exact ⟨h1, e0, h2, h3⟩

theorem Rel.freeze {st : St} {a : Act} (h : Rel B st a w) (hkC : zEL st.σ k = .ent e) (hf : zAT e.cells = true) : Rel B (zAH k e.gen (zj e) e.cells st) a w := by
 obtain ⟨ρ, hp, ⟨hl, hr⟩, hm⟩ := h
 have hk' := zCe (zCf hkC).1
 obtain ⟨cs, e1, e2, e3⟩ := (hp.ent k e hk').row (zCf hkC).2
 let σ' := (st.σ.map (zd k e.gen (zj e) e.cells)).set k .dead
 have hmove : Move B st.σ ρ w σ' ρ w := {
  size := Nat.le_refl _
  keep := fun _ _ _ => rfl
  lives := fun j ⟨e', he'⟩ => by
   obtain ⟨_, e0, h1, _⟩ := zEd he'
   exact .inl ⟨j, ⟨e0, h1⟩, rfl⟩
  uses := fun j g ⟨s, hs, hg⟩ => by
   have hlt : j < σ'.length := by
    have := (List.getElem?_eq_some_iff.1 hs).1
    simpa [σ'] using this
   refine ⟨σ'[j], List.getElem?_eq_getElem hlt, ?_⟩
   rcases zNn (List.getElem?_eq_getElem hlt) with ⟨_, h2⟩ | ⟨_, s0, h1, h2⟩
   ·rw [h2]; trivial
   ·rw [hs] at h1
    cases h1
    rw [h2]
    cases s <;> exact hg
  tabs := fun j g p _ ht => by
   obtain ⟨e', he', hg, hp'⟩ := Tb.live ht
   obtain ⟨_, e0, h1, h2⟩ := zEd he'
   have := Tb.of (ρ := ρ) h1
   have hge : e0.gen = e'.gen := by rw [h2]
   rw [hge, hg, hp'] at this
   exact this }
 have hfz : Fz B σ' ρ w (ρ k).1 := ⟨hp.lt ⟨e, hk'⟩, hp.nf k ⟨e, hk'⟩, fun j ⟨e', he'⟩ hb => by
  obtain ⟨hne, e0, h1, _⟩ := zEd he'
  exact hne (hp.inj j k ⟨e0, h1⟩ ⟨e, hk'⟩ hb)⟩
 have htb : Tb st.σ ρ k e.gen = some (ρ k) := Tb.of hk'
 have hcell : ∀ (j : Nat) (d : D), e.cells[j]? = some d → ∃ u, w.cell? ⟨(ρ k).1, j, none⟩ = some u ∧ u.oneCell' = true ∧ RepF w (Fz B σ' ρ w) d u := by
  intro j d hd
  obtain ⟨u, a1, a2, a3⟩ := e3 j d hd
  exact ⟨u, zDm e1 a1, a2, (hmove.rp a3).frz (zHm hf hd)⟩
 have t0 : ∀ {d : D} {u : Value}, Rp B st.σ ρ w d u → Rp B σ' ρ w (fr0 k e.gen (zj e) e.cells d) u := by
  intro d u hd
  cases d with
  | ref j h n =>
   simp only [fr0]
   split
   ·rename_i hs
    obtain ⟨h1, h2⟩ := zMA hs
    subst h1; subst h2
    split
    ·rename_i hb
     have hle : n * zj e ≤ e.cells.length := Nat.le_of_ble_eq_true hb
     obtain ⟨hu, hc⟩ := hd.ref_inv.2 _ _ htb
     rw [hu]
     refine .fro _ _ ?_
     cases n with
     | zero => exact .sl0 _ _ _ _ (fun h => by cases h)
     | succ n =>
      refine .sl false _ _ (ρ j).1 0 (ρ j).2 (n + 1) (fun i l => (w.cell? ⟨(ρ j).1, i * zj e + l, none⟩).getD undef) chunk_length.symm (by omega) hc (fun h => by cases h) hfz (fun x hx => ?_) (fun i x l d hi hj => ?_) (fun i x l d hi hj => ?_)
      ·obtain ⟨i, hi⟩ := List.mem_iff_getElem?.1 hx
       exact (zGZ hi hle).1
      ·obtain ⟨u, a1, a2, a3⟩ := hcell _ _ ((zGZ hi hle).2 l d hj)
       simp only [Nat.zero_add, a1, Option.getD_some]
       exact ⟨trivial, a2⟩
      ·obtain ⟨u, a1, a2, a3⟩ := hcell _ _ ((zGZ hi hle).2 l d hj)
       simp only [a1, Option.getD_some]
       exact a3
    ·exact .fro _ _ (.any _)
   ·exact hmove.rp hd
  | ptr j h o =>
   simp only [fr0]
   split
   ·rename_i hs
    obtain ⟨h1, h2⟩ := zMA hs
    subst h1; subst h2
    have hu := hd.ptr_inv.2 _ _ htb
    rw [hu]
    refine .fro _ _ (.fad _ (ρ j).1 o (fun l => (w.cell? ⟨(ρ j).1, o + l, none⟩).getD undef) hfz (fun l d hl => ?_) (fun l d hl => ?_))
    ·rw [List.getElem?_drop] at hl
     obtain ⟨u, a1, a2, a3⟩ := hcell _ _ hl
     simp only [a1, Option.getD_some]
     exact ⟨trivial, a2⟩
    ·rw [List.getElem?_drop] at hl
     obtain ⟨u, a1, a2, a3⟩ := hcell _ _ hl
     simp only [a1, Option.getD_some]
     exact a3
   ·exact hmove.rp hd
  | _ => exact hmove.rp hd
 have t1 : ∀ {d : D} {u : Value}, Rp B st.σ ρ w d u → Rp B σ' ρ w (fr1 k e.gen (zj e) e.cells d) u := by
  intro d u hd
  cases d with
  | fn f caps =>
   obtain ⟨cs', rfl, h1, h2⟩ := hd.fn_inv
   refine .fn f _ cs' (by simpa using h1) (fun j d u hd hu => ?_)
   obtain ⟨d0, hd0, rfl⟩ := zAE hd
   exact t0 (h2 j d0 u hd0 hu)
  | bnd f caps =>
   obtain ⟨cs', rfl, h1, h2⟩ := hd.bnd_inv
   refine .bnd f _ cs' (by simpa using h1) (fun j d u hd hu => ?_)
   obtain ⟨d0, hd0, rfl⟩ := zAE hd
   exact t0 (h2 j d0 u hd0 hu)
  | _ => exact t0 hd
 have t2 : ∀ {d : D} {u : Value}, Rp B st.σ ρ w d u → Rp B σ' ρ w (fr2 k e.gen (zj e) e.cells d) u := by
  intro d u hd
  cases d with
  | agg ds =>
   obtain ⟨cs', rfl, h1, h2⟩ := hd.agg_inv
   refine .agg _ cs' (by simpa using h1) (fun j d u hd hu => ?_)
   obtain ⟨d0, hd0, rfl⟩ := zAE hd
   exact t1 (h2 j d0 u hd0 hu)
  | _ => exact t1 hd
 have t3 : ∀ {d : D} {u : Value}, Rp B st.σ ρ w d u → Rp B σ' ρ w (fr3 k e.gen (zj e) e.cells d) u := by
  intro d u hd
  cases d with
  | tup ds =>
   obtain ⟨cs', rfl, h1, h2⟩ := hd.tup_inv
   refine .tup _ cs' (by simpa using h1) (fun j d u hd hu => ?_)
   obtain ⟨d0, hd0, rfl⟩ := zAE hd
   exact t2 (h2 j d0 u hd0 hu)
  | _ => exact t2 hd
 refine ⟨ρ, hmove.hp hp rfl rfl rfl (fun j e' he' => ?_) (fun j j' ⟨a, ha⟩ ⟨b, hb⟩ hjj => ?_), ⟨by simpa [zAH] using hl, fun j d hd => ?_⟩, hm⟩
 ·obtain ⟨hne, e0, h1, rfl⟩ := zEd he'
  obtain ⟨c', o, c1, c0, c2, c3⟩ := hp.ent j e0 h1
  refine ⟨c', o, c1, c0, by simpa [zLL] using c2, fun l d hd => ?_⟩
  obtain ⟨d0, hd0, rfl⟩ := zAE hd
  obtain ⟨u, a1, a2, a3⟩ := c3 l d0 hd0
  exact ⟨u, a1, a2, t1 a3⟩
 ·obtain ⟨_, e0, h1, _⟩ := zEd ha
  obtain ⟨_, e0', h1', _⟩ := zEd hb
  exact hp.inj j j' ⟨e0, h1⟩ ⟨e0', h1'⟩ hjj
 ·obtain ⟨d0, hd0, rfl⟩ := zAE hd
  obtain ⟨u, a1, a2⟩ := hr j d0 hd0
  exact ⟨u, a1, t3 a2⟩
end

theorem zt {P : Program} {ro : Option Nat} {c : Code} {st : St} {K : Exit → St → Prop} (k : Nat) {e : Ent} (hk : zEL st.σ k = .ent e) (hf : zAT e.cells = true) (h : AWP P ro c (zAH k e.gen (zj e) e.cells st) K) : AWP P ro c st K :=
 fun B a w hr Q hQ => h B a w (hr.freeze hk hf) Q hQ

structure Fn (P : Program) (f : Nat) (args : List D) (ext : List Slot) (res : D) (out : List Slot) : Prop where
 spec : Spec P f args ext res out
 enter : ∀ args w, (callFunc f args).run P w = .ok (.enter f args) w
theorem Fn.of {P : Program} {f : Nat} {fn : Func} {c : Code} {args : List D} {ext : List Slot} {res : D} {out : List Slot} (hf : P.funcs[f]? = some fn) (hb : fn.body = some c) (hn : (fn.name == "runtime.NumGoroutine") = false)
  (st : St) (hst : (⟨args ++ List.replicate (fn.ntmps - args.length) (.v undef), ext⟩ : St) = st) (h : AWP P none c st (zIv P fn ext.length res out)) : Fn P f args ext res out where
 spec := zLU hf hb (by rw [hst]; exact h)
 enter := fun args w => by
  have hn' : ¬ fn.name = "runtime.NumGoroutine" := by simpa using hn
  simp [callFunc, Go.program, Bind.bind, Sem.bind, Sem.run, hf, hb, hn', Pure.pure]

theorem Spec.le {P : Program} {f : Nat} {args args' : List D} {ext : List Slot} {res : D} {out : List Slot} (h : Spec P f args' ext res out) (hle : leF args args') : Spec P f args ext res out :=
 fun N0 ρ w vs hp hs hr => h N0 ρ w vs hp (by rw [hs]; exact (zEh hle).1) (fun j d u hd hu => by
  obtain ⟨a, ha, hl⟩ := (zEh hle).2 j d hd
  exact hl.rep (hr j a u ha hu))
theorem zD {P : Program} {ro : Option Nat} {o : Oper} {c : Call} {fo : Operand} {f : Nat} {caps args : List D} {res : D} {opd : Operand → D} {σ : List Slot} {slot : Nat} {k : List Nat → Out → Prop} (hfn : Fn P f args [] res [])
  (ho : o.op = .call c) (hcal : c.callee = .value fo) (hfo : opd fo = .fn f caps) (hargs : leF ((c.args.toList.map opd ++ caps).map (ren (mOf []))) args) (hk : k [] ⟨ren (zy [slot]) res, []⟩) : CallV P ro o opd σ slot k :=
 CallV.intro (zMd ho hcal hfo hfn.enter (hfn.spec.le hargs)) (fun p hp => by cases hp) hk
theorem zw {P : Program} {ro : Option Nat} {o : Oper} {c : Call} {fo : Operand} {f : Nat} {caps args : List D} {ext : List Slot} {res : D} {out : List Slot} {opd : Operand → D} {σ : List Slot} {slot : Nat} {k : List Nat → Out → Prop} (ks : List Nat) (hfn : Fn P f args ext res out)
  (ho : o.op = .call c) (hcal : c.callee = .value fo) (hfo : opd fo = .fn f caps) (hn : (ks ++ [slot]).Nodup) (hks : ∀ k ∈ ks, k < σ.length) (hlen : ks.length = out.length) (hext : pick ks σ = ext)
  (hargs : leF ((c.args.toList.map opd ++ caps).map (ren (mOf ks))) args) (hk : k ks ⟨ren (zy (ks ++ [slot])) res, zf (ks ++ [slot]) out⟩) : CallV P ro o opd σ slot k := by
 subst hext
 refine CallV.intro (zFB ho hcal hfo hfn.enter hn hks (.inl (by omega)) (by omega) (by omega) (hfn.spec.le hargs)) (fun p hp => ?_) hk
 have := (List.of_mem_zip hp).1
 simp only [List.mem_append, List.mem_singleton] at this
 exact this.symm
theorem zDz {P : Program} {ro : Option Nat} {o : Oper} {c : Call} {fo : Operand} {f : Nat} {caps args : List D} {ext : List Slot} {res : D} {out : List Slot} {opd : Operand → D} {σ : List Slot} {slot : Nat} {k : List Nat → Out → Prop} (ks : List Nat) (hfn : Fn P f args ext res out)
  (ho : o.op = .call c) (hcal : c.callee = .value fo) (hfo : opd fo = .fn f caps) (hn : (ks ++ [slot]).Nodup) (hks : ∀ k ∈ ks, k < σ.length) (hfree : zBH σ slot = .free) (hlen : ks.length + 1 = out.length) (hext : pick ks σ = ext)
  (hargs : leF ((c.args.toList.map opd ++ caps).map (ren (mOf ks))) args) (hk : k ks ⟨ren (zy (ks ++ [slot])) res, zf (ks ++ [slot]) out⟩) : CallV P ro o opd σ slot k := by
 subst hext
 refine CallV.intro (zFB ho hcal hfo hfn.enter hn hks (.inr (zBj hfree)) (by omega) (by omega) (hfn.spec.le hargs)) (fun p hp => ?_) hk
 have := (List.of_mem_zip hp).1
 simp only [List.mem_append, List.mem_singleton] at this
 exact this.symm
theorem zNs {P : Program} {ro : Option Nat} {o : Oper} {c : Call} {fo : Operand} {f : Nat} {caps args : List D} {ext : List Slot} {res : D} {out : List Slot} {opd : Operand → D} {σ : List Slot} {slot : Nat} {k : List Nat → Out → Prop} (ks : List Nat) (hfn : Fn P f args ext res out)
  (ho : o.op = .call c) (hcal : c.callee = .value fo) (hfo : opd fo = .bnd f caps) (hn : (ks ++ [slot]).Nodup) (hks : ∀ k ∈ ks, k < σ.length) (hlen : ks.length = out.length) (hext : pick ks σ = ext)
  (hargs : leF ((caps ++ c.args.toList.map opd).map (ren (mOf ks))) args) (hk : k ks ⟨ren (zy (ks ++ [slot])) res, zf (ks ++ [slot]) out⟩) : CallV P ro o opd σ slot k := by
 subst hext
 refine CallV.intro (zKt ho hcal hfo hfn.enter hn hks (.inl (by omega)) (by omega) (by omega) (hfn.spec.le hargs)) (fun p hp => ?_) hk
 have := (List.of_mem_zip hp).1
 simp only [List.mem_append, List.mem_singleton] at this
 exact this.symm
attribute [push_cast] ren ren2 ren1 ren0 zHK zDq zFA

def zAt (fr : List D) (r : Loop) : Slot := .ent ⟨0, none, 0, fr, .loop r⟩

theorem zBK : ∀ l : List Slot, leS l l
 | [] => trivial
 | a :: l => ⟨.inr (.inl rfl), zBK l⟩

theorem Wr.putObj (w : World) (l : Nat) (o : Obj) : Wr w (w.putObj l o) l where
 size := by simp [World.putObj]
 keep := fun j _ hne => World.putObj_heap_other hne
 os := rfl
 tape := rfl
 output := rfl
theorem zRZ {ρ : Nat → Nat × Nat} {k : Nat} : zDC ρ k (ρ k) = ρ := by
 funext j; unfold zDC; split
 ·rename_i h; rw [h]
 ·rfl

theorem Hp.recOf {B : Base} {σ : List Slot} {ρ : Nat → Nat × Nat} {w : World} (hp : Hp B σ ρ w) {k : Nat} {fr : List D} {r : Loop} (hk : σ[k]? = some (zAt fr r)) :
  ∃ cs : Array Value, w.heap[(ρ k).1]? = some (.loop { r with tmps := cs }) ∧ cs.size = fr.length ∧ (∀ (j : Nat) (d : D), fr[j]? = some d → ∃ u, cs[j]? = some u ∧ Rp B σ ρ w d u) ∧
   ∀ r' : Loop, Move B σ ρ w (σ.set k (zAt fr r')) ρ (w.putObj (ρ k).1 (.loop { r' with tmps := cs })) ∧ Hp B (σ.set k (zAt fr r')) ρ (w.putObj (ρ k).1 (.loop { r' with tmps := cs })) := by
 obtain ⟨cs, o, h1, h2, h3, h4⟩ := hp.ent k _ hk
 have h2' : o = .loop { r with tmps := cs } := h2
 subst h2'
 have hlt : (ρ k).1 < w.heap.size := (Array.getElem?_eq_some_iff.1 h1).1
 refine ⟨cs, h1, h3, fun j d hd => let ⟨u, a1, _, a3⟩ := h4 j d hd; ⟨u, a1, a3⟩, fun r' => ?_⟩
 have := zGL hp (k := k) (e' := ⟨0, none, 0, fr, .loop r'⟩) (b := (ρ k).1) (cap := (ρ k).2) (Wr.putObj w (ρ k).1 (.loop { r' with tmps := cs })) (.inr ⟨_, hk, .inl ⟨Nat.le_refl _, rfl⟩⟩)
  ⟨cs, _, World.putObj_heap_same hlt, rfl, h3, fun j d hd => let ⟨u, a1, _, a3⟩ := h4 j d hd; ⟨u, a1, (fun h => by cases h), a3⟩⟩
 rw [show ((ρ k).1, (ρ k).2) = ρ k from rfl, zRZ] at this
 exact this

theorem Hp.at {B : Base} {σ : List Slot} {ρ : Nat → Nat × Nat} {w : World} (hp : Hp B σ ρ w) {k : Nat} {e e0 : Ent} (h0 : B.σ0[k]? = some (.ent e0)) (h : σ[k]? = some (.ent e)) (hg : e.gen = e0.gen) : ρ k = B.ρ0 k := by
 have h1 := (hp.hist k e0.gen ⟨_, h0, Nat.le_refl _⟩).2 (ρ k) (hg ▸ Tb.of h)
 rw [Tb.of h0] at h1
 exact (Option.some.inj h1).symm

def zHA (n : Nat) (s t : List Slot) : Prop := ∃ ks : List Nat, ks.Nodup ∧ (∀ k, k < n → ks[k]? = some k) ∧ leS (pick ks s) t
theorem Rel.weakS {B : Base} {s : St} {a : Act} {w : World} {n : Nat} {t : List Slot} (h : Rel B s a w) (hw : zHA n s.σ t) (hn : ∀ k g, zBX B.σ0 k g → k < n) : ∃ fr, Rel B ⟨fr, t⟩ a w := by
 obtain ⟨ks, h1, h2, h3⟩ := hw
 exact ⟨_, (h.pick h1 (fun k g hk => h2 k (hn k g hk))).le (t := ⟨s.fr.map (ren (mOf ks)), t⟩) (zCq _) h3⟩

def zPR (P : Program) (kk : Nat) (ρ : Nat → Nat × Nat) (vs : Array Value) (w : World) (R : Ending → World → Prop) : Prop :=
 ∃ fn tmps assign body, (Instr.yield (ρ kk).1 vs).run P w = .ok (.round (ρ kk).1 fn tmps assign body) w ∧ RoundIn (FW none) 0 P (ρ kk).1 fn tmps assign body w R
def Yld (P : Program) (kk : Nat) (args : List D) (ext : List Slot) (b : Bool) (out : List Slot) : Prop :=
 ∀ (N0 : Nat → Prop) (ρ : Nat → Nat × Nat) (w : World) (vs : Array Value), Hp (zAU w N0 ext ρ) ext ρ w → vs.size = args.length →
  (∀ (j : Nat) (d : D) (u : Value), args[j]? = some d → vs[j]? = some u → Rp (zAU w N0 ext ρ) ext ρ w d u) →
  zPR P kk ρ vs w (fun e w' => ∃ v ρ', e = .returned v ∧ Hp (zAU w N0 ext ρ) out ρ' w' ∧ Rp (zAU w N0 ext ρ) out ρ' w' (.v (.bool b)) v)

def setsP (fr : List D) : List (Nat × D) → List D
 | [] => fr
 | p :: l => setsP (fr.set p.1 p.2) l
theorem FrOk.setsP {B : Base} {σ : List Slot} {ρ : Nat → Nat × Nat} {w : World} (l : List (Nat × Value)) : ∀ {fr : List D} {tmps : Array Value} (ds : List D), FrOk B ⟨fr, σ⟩ ρ tmps w → ds.length = l.length →
  (∀ (j : Nat) (d : D) (p : Nat × Value), ds[j]? = some d → l[j]? = some p → Rp B σ ρ w d p.2) → FrOk B ⟨AM.setsP fr ((l.map (·.1)).zip ds), σ⟩ ρ (l.foldl (fun t p => t.setIfInBounds p.1 p.2) tmps) w := by
 induction l with
 | nil => intro fr tmps ds h _ _; exact h
 | cons p l ih =>
  intro fr tmps ds h hl hr
  cases ds with
  | nil => simp at hl
  | cons d ds =>
   have := FrOk.put (a := ⟨tmps, []⟩) h (some p.1) (hr 0 d p rfl rfl)
   exact ih ds this (by simpa using hl) (fun j d' p' h1 h2 => hr (j + 1) d' p' (by simpa using h1) (by simpa using h2))

def zFg : Exit → Option (Option Code)
 | .normal => some none
 | .ret => some (some .ret)
 | .exit id => some (some (.exit id))
 | _ => none
def zBf (r : Loop) (jump : Option Code) : Loop := { r with state := if jump.isNone then .ready else .done, pending := jump }

theorem Yld.of {P : Program} {kk : Nat} {args : List D} {ext : List Slot} {b : Bool} {out : List Slot} {fr : List D} {r : Loop} (hk : ext[kk]? = some (zAt fr r)) (hready : r.state = .ready) (hps : r.params.size = args.length)
  (fr1 : List D) (hassign : ∀ l, AWP P (some l) r.assign ⟨setsP fr (r.params.toList.zip args), ext⟩ (fun e s => e = .normal ∧ s = ⟨fr1, ext⟩))
  (ks : List Nat) (slot : Nat) (hn : (ks ++ [slot]).Nodup) (hkk : kk ∉ ks) (hks : ∀ k ∈ ks, k < ext.length)
  (σu : List Slot) (hσu : pick ks (ext.set kk (zAt fr { r with state := .busy })) = σu) (fr2 : List D) (hfr2 : fr1.map (ren (mOf ks)) = fr2)
  (hbody : ∀ l, AWP P (some l) r.body ⟨fr2, σu⟩ (fun e s => ∃ σv jump, zHA ks.length s.σ σv ∧ σv.length = ks.length ∧ zFg e = some jump ∧ jump.isNone = b ∧
   (zAS (ext.set kk (zAt fr { r with state := .busy })) (zf (ks ++ [slot]) σv))[kk]? = some (zAt fr { r with state := .busy }) ∧
   out = (zAS (ext.set kk (zAt fr { r with state := .busy })) (zf (ks ++ [slot]) σv)).set kk (zAt fr (zBf r jump)))) : Yld P kk args ext b out := by
 intro N0 ρ w vs hp hvs hrep
 obtain ⟨cs, hl, hsz, hcs, hturn⟩ := hp.recOf hk
 refine ⟨_, _, _, _, run_yield hl (by rw [hvs]; exact hps.symm), ?_⟩
 have hkkl : kk < ext.length := (List.getElem?_eq_some_iff.1 hk).1
 refine roundIn_of_wpIn trivial ?_
 have hfr : FrOk (zAU w N0 ext ρ) ⟨setsP fr (r.params.toList.zip args), ext⟩ ρ ((r.params.zip vs).foldl (fun tmps (t, a) => tmps.setIfInBounds t a) cs) w := by
  have h := FrOk.setsP (B := zAU w N0 ext ρ) (σ := ext) (ρ := ρ) (w := w) (r.params.toList.zip vs.toList) (fr := fr) (tmps := cs) args ⟨hsz.symm, hcs⟩ (by simp [hvs, hps]) (fun j d p h1 h2 => by
   rw [List.getElem?_zip_eq_some] at h2
   exact hrep j d p.2 h1 (by simpa using h2.2))
  rw [List.map_fst_zip (by simp [hvs, hps])] at h
  rw [← Array.foldl_toList, Array.toList_zip]
  exact h
 refine hassign (ρ kk).1 (zAU w N0 ext ρ) _ w ⟨ρ, hp, hfr, [], rfl, List.nodup_nil, fun D hD => by cases hD⟩ _ (fun e st' a1 w1 hK hr1 => ?_)
 obtain ⟨rfl, rfl⟩ := hK
 obtain ⟨ρ1, hp1, hfr1, Ds, hDs, hnd, hDm⟩ := hr1
 obtain ⟨cs1, hl1, _, _, hturn1⟩ := hp1.recOf hk
 have hat1 : ρ1 kk = ρ kk := hp1.at hk hk rfl
 rw [hat1] at hl1 hturn1
 refine ⟨_, run_beginRound hl1 hready, ?_⟩
 obtain ⟨m1, hp2⟩ := hturn1 { r with state := .busy }
 have hnks : ks.Nodup := (List.nodup_append.1 hn).1
 obtain ⟨hcp, T⟩ := zSP hp2 hnks
 generalize hw2 : w1.putObj (ρ kk).1 (.loop { ({ r with state := .busy } : Loop) with tmps := cs1 }) = w2 at m1 hp2 hcp T
 show r.body.wpIn (FW (some (ρ kk).1)) 0 P _ a1 w2
 let B2 : Base := { zAU w2 (zFp (zAU w N0 ext ρ) (ext.set kk (zAt fr { r with state := .busy })) ρ1 ks) (pick ks (ext.set kk (zAt fr { r with state := .busy }))) (zAZ ks ρ1) with m0 := 0 }
 have hcp' : Hp B2 (pick ks (ext.set kk (zAt fr { r with state := .busy }))) (zAZ ks ρ1) w2 := ⟨hcp.ent, hcp.inj, hcp.nf, hcp.own, hcp.size, hcp.os, hcp.tape, hcp.output, hcp.base, hcp.n0, Nat.zero_le _, hcp.hist⟩
 have hdef : ∀ D ∈ Ds, w2.heap[D]? = some (.deferred (some [])) := fun D hD => by
  have h1 := (hDm D hD).2
  rw [← hw2, World.putObj_heap_other (by rintro rfl; rw [hl1] at h1; cases h1)]
  exact h1
 subst hσu
 subst hfr2
 refine hbody (ρ kk).1 B2 a1 w2 ⟨zAZ ks ρ1, hcp', ⟨by simpa using hfr1.1, fun t d hd => ?_⟩, Ds, hDs, hnd, fun D hD => ⟨Nat.zero_le _, hdef D hD⟩⟩ _ (fun e st' a3 w3 hK hr3 => ?_)
 ·obtain ⟨d0, hd0, rfl⟩ := zAE hd
  obtain ⟨u, h1, h2⟩ := hfr1.2 t d0 hd0
  exact ⟨u, h1, T.ren (m1.rp h2)⟩
 ·obtain ⟨σv, jump, hweak, hlen, hej, hb, hrec, hout⟩ := hK
  obtain ⟨fr3, ρ3, hp3, _, _⟩ := hr3.weakS hweak (fun k g hu => by
   obtain ⟨s, hs, _⟩ := hu
   have := (List.getElem?_eq_some_iff.1 hs).1
   simpa [B2, zAU, pick] using this)
  have hp3' : Hp (zAU w2 (zFp (zAU w N0 ext ρ) (ext.set kk (zAt fr { r with state := .busy })) ρ1 ks) (pick ks (ext.set kk (zAt fr { r with state := .busy }))) (zAZ ks ρ1)) σv ρ3 w3 :=
   ⟨hp3.ent, hp3.inj, hp3.nf, hp3.own, hp3.size, hp3.os, hp3.tape, hp3.output, hp3.base, hp3.n0, Nat.le_refl _, hp3.hist⟩
  obtain ⟨_, hp4, _⟩ := zQz hp2 hn (by simpa using hks) (.inl (by omega)) (by omega) (by omega) hp3'
  obtain ⟨cs4, hl4, _, _, hturn4⟩ := hp4.recOf hrec
  have hat4 := hp4.at hk hrec rfl
  have hat4' : (zDg (ks ++ [slot]) σv.length ρ1 ρ3 kk) = ρ kk := hat4
  rw [hat4'] at hl4 hturn4
  have hend := run_endRound (P := P) jump hl4
  obtain ⟨_, hp5⟩ := hturn4 (zBf r jump)
  rw [← hout] at hp5
  have hfin : ∃ v w', (Instr.endRound (ρ kk).1 jump).run P w3 = .ok v w' ∧ (∃ v' ρ', Ending.returned v = .returned v' ∧ Hp (zAU w N0 ext ρ) out ρ' w' ∧ Rp (zAU w N0 ext ρ) out ρ' w' (.v (.bool b)) v') :=
   ⟨_, _, hend, _, _, rfl, hp5, by rw [hb]; exact .fro _ _ (.v _)⟩
  cases e with
  | normal => cases hej; exact hfin
  | ret => cases hej; exact hfin
  | exit id => cases hej; exact hfin
  | goto t => cases hej
  | panic c => cases hej
  | outgrown => cases hej

theorem zPp {m : Nat → Option Nat} (d : D) : ∀ f caps, ren0 m d ≠ .fn f caps := by
 intro f caps; cases d <;> simp only [ren0, ne_eq, reduceCtorEq, not_false_eq_true] <;> split <;> simp
theorem zOO {m : Nat → Option Nat} (d : D) : ∀ f caps, ren0 m d ≠ .bnd f caps := by
 intro f caps; cases d <;> simp only [ren0, ne_eq, reduceCtorEq, not_false_eq_true] <;> split <;> simp
theorem zQC {m : Nat → Option Nat} (d : D) : ∀ ds, ren1 m d ≠ .agg ds := by
 intro ds; cases d <;> simp only [ren1, ren0, ne_eq, reduceCtorEq, not_false_eq_true] <;> split <;> simp
theorem zOy {m : Nat → Option Nat} (d : D) : ∀ ds, ren2 m d ≠ .tup ds := by
 intro ds; cases d <;> simp only [ren2, ren1, ren0, ne_eq, reduceCtorEq, not_false_eq_true] <;> split <;> simp
section
variable {m m' : Nat → Option Nat} (h : ∀ k j, m k = some j → m' j = some j)
include h
theorem zGb (d : D) : ren0 m' (ren0 m d) = ren0 m d := by
 cases d <;> simp only [ren0]
 ·rename_i k g n; cases hk : m k with
  | none => rfl
  | some j => simp only [ren0, h k j hk]
 ·rename_i k g n; cases hk : m k with
  | none => rfl
  | some j => simp only [ren0, h k j hk]
 ·rename_i b k g; cases hk : m k with
  | none => rfl
  | some j => simp only [ren0, h k j hk]
 ·rename_i k g o n; cases hk : m k with
  | none => rfl
  | some j => simp only [ren0, h k j hk]
theorem zOm (d : D) : ren1 m' (ren0 m d) = ren0 m d := by
 have h0 := zGb h d
 cases hd : ren0 m d with
 | fn f caps => exact absurd hd (zPp d f caps)
 | bnd f caps => exact absurd hd (zOO d f caps)
 | _ => rw [hd] at h0; exact h0
theorem zJT (d : D) : ren1 m' (ren1 m d) = ren1 m d := by
 by_cases hf : ∃ f caps, d = .fn f caps
 ·obtain ⟨f, caps, rfl⟩ := hf
  simp only [ren1, List.map_map, D.fn.injEq, true_and]
  refine List.map_congr_left fun x _ => ?_
  exact zGb h x
 ·by_cases hf2 : ∃ f caps, d = .bnd f caps
  ·obtain ⟨f, caps, rfl⟩ := hf2
   simp only [ren1, List.map_map, D.bnd.injEq, true_and]
   refine List.map_congr_left fun x _ => ?_
   exact zGb h x
  ·have e : ren1 m d = ren0 m d := by cases d <;> first | rfl | exact absurd ⟨_, _, rfl⟩ hf | exact absurd ⟨_, _, rfl⟩ hf2
   rw [e]; exact zOm h d
theorem zOJ (d : D) : ren2 m' (ren1 m d) = ren1 m d := by
 have h0 := zJT h d
 cases hd : ren1 m d with
 | agg ds => exact absurd hd (zQC d ds)
 | _ => rw [hd] at h0; exact h0
theorem zJQ (d : D) : ren2 m' (ren2 m d) = ren2 m d := by
 by_cases hf : ∃ ds, d = .agg ds
 ·obtain ⟨ds, rfl⟩ := hf
  simp only [ren2, List.map_map, D.agg.injEq]
  refine List.map_congr_left fun x _ => ?_
  exact zJT h x
 ·have e : ren2 m d = ren1 m d := by cases d <;> first | rfl | exact absurd ⟨_, rfl⟩ hf
  rw [e]; exact zOJ h d
theorem zQW (d : D) : ren m' (ren2 m d) = ren2 m d := by
 have h0 := zJQ h d
 cases hd : ren2 m d with
 | tup ds => exact absurd hd (zOy d ds)
 | _ => rw [hd] at h0; exact h0
theorem zRP (d : D) : ren m' (ren m d) = ren m d := by
 by_cases hf : ∃ ds, d = .tup ds
 ·obtain ⟨ds, rfl⟩ := hf
  simp only [ren, List.map_map, D.tup.injEq]
  refine List.map_congr_left fun x _ => ?_
  exact zJQ h x
 ·have e : ren m d = ren2 m d := by cases d <;> first | rfl | exact absurd ⟨_, rfl⟩ hf
  rw [e]; exact zQW h d
theorem zHH (s : Slot) : zT m' (zT m s) = zT m s := by
 cases s with
 | ent e =>
  simp only [zT, List.map_map]
  congr 2
  refine List.map_congr_left fun x _ => ?_
  exact zRP h x
 | _ => rfl
end

theorem zGW {n k : Nat} : mOf (List.range n) k = if k < n then some k else none := by
 split
 ·rename_i h; exact zDJ List.nodup_range (by simp [h])
 ·rename_i h; exact zQE (by simpa using h)
theorem zGj {a b : List Slot} {k : Nat} (h : k < a.length) : zBH (a ++ b) k = zBH a k := by rw [zBD, zBD, List.getElem?_append_left h]
theorem pick_range_append {ext rest : List Slot} : pick (List.range ext.length) (ext ++ rest) = pick (List.range ext.length) ext := by
 unfold pick
 refine List.map_congr_left fun k hk => ?_
 rw [zGj (by simpa using hk)]
theorem zDt {n s : Nat} (h : n ≤ s) : (List.range n ++ [s]).Nodup := by
 rw [List.nodup_append]
 refine ⟨List.nodup_range, by simp, fun a ha b hb => ?_⟩
 simp at ha hb; omega
def zCc (s : List Slot) : Prop := pick (List.range s.length) s = s
theorem zCh {out : List Slot} {s : Nat} (h : zCc out) : zf (List.range out.length ++ [s]) out = (List.range out.length).zip out := by
 have hm : out.map (zT (zy (List.range out.length ++ [s]))) = out := by
  refine List.ext_getElem? fun j => ?_
  rw [List.getElem?_map]
  cases hj : out[j]? with
  | none => rfl
  | some x =>
   have hlt := (List.getElem?_eq_some_iff.1 hj).1
   have h1 : (pick (List.range out.length) out)[j]? = some x := by rw [h, hj]
   rw [zMH (k := j) (by simp [hlt])] at h1
   simp only [Option.map_some, Option.some.injEq] at h1 ⊢
   rw [← h1]
   refine zHH (fun k i hk => ?_) _
   rw [zGW] at hk
   split at hk
   ·rename_i hk'; cases hk; simp [zy, List.getElem?_append_left, hk']
   ·cases hk
 unfold zf
 rw [hm]
 have : ∀ (a b : List Nat) (c : List Slot), a.length = c.length → (a ++ b).zip c = a.zip c := by
  intro a
  induction a with
  | nil => intro b c hc; cases c with
   | nil => simp
   | cons _ _ => simp at hc
  | cons x a ih => intro b c hc; cases c with
   | nil => simp at hc
   | cons y c => simp only [List.cons_append, List.zip_cons_cons]; rw [ih b c (by simpa using hc)]
 exact this _ _ _ (by simp)
theorem zEY {ext rest out : List Slot} (h : out.length = ext.length) : zAS (ext ++ rest) ((List.range out.length).zip out) = out ++ rest := by
 refine List.ext_getElem? fun k => ?_
 rw [zJj _ _ _ _ List.nodup_range, zGW]
 by_cases hk : k < out.length
 ·rw [if_pos hk]
  simp only [Option.bind_some, List.getElem?_eq_getElem hk]
  rw [if_pos (by simp; omega), List.getElem?_append_left hk, List.getElem?_eq_getElem hk]
 ·rw [if_neg hk]
  simp only [Option.bind_none]
  rw [List.getElem?_append_right (by omega), List.getElem?_append_right (by omega), h]

theorem zJM {P : Program} {ρ : Operand → Value} {o : Oper} {c : Call} {fo : Operand} {l : Nat} {w : World} (ho : o.op = .call c) (hcal : c.callee = .value fo) (hf : ρ fo = .func (.yield l) #[] #[]) :
  (execOp ρ o).run P w = (Instr.yield l (c.args.map ρ)).run P w := by
 simp only [execOp, ho, resolve, hcal, Deferred.ofValue, hf, Sem.run_bind, Pure.pure, Sem.run, Result.andThen, invoke]
 simp

theorem zLY {P : Program} {o : Oper} {c : Call} {fo : Operand} {kk : Nat} {args : List D} {ext out rest : List Slot} {b : Bool} {opd : Operand → D} {slot : Nat} {fr : List D} {r : Loop}
  (ho : o.op = .call c) (hcal : c.callee = .value fo) (hfo : opd fo = .kref false kk 0) (hrec : ext[kk]? = some (zAt fr r))
  (hargs : (c.args.toList.map opd).map (ren (mOf (List.range ext.length))) = args) (hext : zCc ext) (hout : zCc out) (hl : out.length = ext.length) (hsl : ext.length ≤ slot) (hy : Yld P kk args ext b out) :
  OpS P none o opd (ext ++ rest) (List.range ext.length) slot ⟨.v (.bool b), (List.range ext.length).zip out⟩ := by
 have hpick : pick (List.range ext.length) (ext ++ rest) = ext := pick_range_append.trans hext
 have hkk : kk < ext.length := (List.getElem?_eq_some_iff.1 hrec).1
 have key := zHt (P := P) (ro := none) (o := o) (T := zPR P kk) (dargs := c.args.toList.map opd) (ks := List.range ext.length) (res := .v (.bool b)) (out := out) (opd := opd) (σ := ext ++ rest) (slot := slot)
  (zDt hsl) (by simp; omega) (.inl (by simp [hl])) (by simp [hl]) (by simp [hl])
  (fun ρ vs w R R' ⟨fn, tmps, asg, bd, h1, h2⟩ hr => ⟨fn, tmps, asg, bd, h1, h2.mono hr⟩)
  (fun B st ρ a w hopd hσ hp hfr => by
   have hoperands : ∀ x, x ∈ o.op.operands ↔ x ∈ c.operands := by intro x; rw [ho]; rfl
   have hfoV := hfr.eval fo
   rw [hopd fo ((hoperands fo).2 (by simp [Call.operands, hcal])), hfo] at hfoV
   -- the record's key
   have h1 : (pick (List.range ext.length) (ext ++ rest))[kk]? = some (zAt fr r) := by rw [hpick]; exact hrec
   have hst : st.σ[kk]? = (ext ++ rest)[kk]? := hσ kk (.inr (by simp [hkk]))
   obtain ⟨k0, e0, g1, g2, g3, _⟩ := zFs (ρ := ρ) h1
   have hk0 : k0 = kk := by simpa [hkk] using g1.symm
   subst hk0
   have hg : e0.gen = 0 := by
    have : (⟨0, none, 0, fr, .loop r⟩ : Ent).gen = e0.gen := by rw [g3]
    exact this.symm
   have hval := hfoV.kref_inv.2 (ρ k0).1 (ρ k0).2 (by rw [← hg]; exact Tb.of (hst.trans g2))
   refine ⟨c.args.map a.eval, by simp, fun j d u hd hu => ?_, fun next Q hT => ?_⟩
   ·obtain ⟨x, hx, rfl⟩ := zAE hd
    rw [Array.getElem?_map] at hu
    have hx' : c.args[j]? = some x := by simpa using hx
    rw [hx'] at hu
    simp only [Option.map_some, Option.some.injEq] at hu
    subst hu
    have hmem : x ∈ c.args := Array.mem_of_getElem? hx'
    rw [← hopd x ((hoperands x).2 (by simp [Call.operands, hcal, hmem]))]
    exact hfr.eval x
   ·refine ⟨fun _ _ => trivial, ?_⟩
    have hsem : o.semAt (FW none).round a.eval = execOp a.eval o := Oper.semAt_eq _ _ _ (fun c' h => by rw [ho] at h; cases h)
    obtain ⟨fn, tmps, asg, bd, h5, h6⟩ := hT
    have hpk : zAZ (List.range ext.length) ρ k0 = ρ k0 := by simp [zAZ, List.getD_eq_getElem?_getD, hkk]
    rw [hpk] at h5 h6
    rw [hsem, zJM ho hcal hval, h5, Oper.uponIn_round]
    refine ⟨fun h => by simp at h, h6.mono ?_⟩
    rintro e w' ⟨v, rfl, h⟩
    exact h)
  (fun N0 ρ w vs h1 h2 h3 => by
   rw [hpick] at h1 h3 ⊢
   exact hy N0 ρ w vs h1 (by rw [← hargs]; simpa using h2) (fun j d u hd hu => h3 j d u (by rw [hargs]; exact hd) hu))
 have hcs := zCh (s := slot) hout
 rw [hl] at hcs
 rw [hcs] at key
 exact key

theorem zNg {P : Program} {o : Oper} {c : Call} {fo : Operand} {kk : Nat} {args : List D} {ext out rest σ : List Slot} {b : Bool} {opd : Operand → D} {slot : Nat} {fr : List D} {r : Loop} {k : List Nat → Out → Prop}
  (hy : Yld P kk args ext b out) (hrec : ext[kk]? = some (zAt fr r)) (hext : zCc ext) (hout : zCc out) (hl : out.length = ext.length) (hσ : ext ++ rest = σ) (hsl : ext.length ≤ slot)
  (ho : o.op = .call c) (hcal : c.callee = .value fo) (hfo : opd fo = .kref false kk 0) (hargs : (c.args.toList.map opd).map (ren (mOf (List.range ext.length))) = args)
  (hk : k (List.range ext.length) ⟨.v (.bool b), (List.range out.length).zip out⟩) : CallV P none o opd σ slot k := by
 subst hσ
 refine CallV.intro (zLY ho hcal hfo hrec hargs hext hout hl hsl hy) (fun p hp => .inr ?_) (by rw [← hl]; rw [← hl] at hk; exact hk)
 have := (List.of_mem_zip hp).1
 exact this

theorem zLP : ∀ (l : List Slot) (n : Nat) (s : Slot), leS (l.set n s) (l.set n .dead)
 | [], _, _ => trivial
 | a :: l, 0, s => ⟨.inl rfl, zBK l⟩
 | a :: l, n + 1, s => ⟨.inr (.inl rfl), zLP l n s⟩

theorem zIy {P : Program} {st : St} {K : Exit → St → Prop} {g : Operand} {ps : Array Tmp} {assign body : Code} {f : Nat} {caps : List D} (hg : st.eval g = .fn f caps)
  (h : ∀ r : Loop, r.state = .ready → r.pending = none → r.params = ps → r.assign = assign → r.body = body →
   ∃ res out fr' r', Fn P f ((.kref false st.σ.length 0 :: caps).map (ren (mOf (List.range (st.σ.length + 1))))) (pick (List.range (st.σ.length + 1)) (st.σ ++ [zAt st.fr r])) res out ∧ out.length = st.σ.length + 1 ∧
    (zAS (st.σ ++ [zAt st.fr r]) (zf (List.range (st.σ.length + 1) ++ [st.σ.length + 1]) out))[st.σ.length]? = some (zAt fr' r') ∧ r'.state ≠ .busy ∧
    ∃ e, zFg e = some r'.pending ∧ K e ⟨st.fr, (zAS (st.σ ++ [zAt st.fr r]) (zf (List.range (st.σ.length + 1) ++ [st.σ.length + 1]) out)).set st.σ.length .dead⟩) :
  AWP P none (.rangeFunc g ps assign body) st K := by
 intro B a w hr Q hQ
 obtain ⟨ρ, hp, hfr, Ds, hDs, hnd, hDm⟩ := hr
 refine wpIn_rangeFunc (F := FW none) (fun fn _ => ?_)
 have hev := hfr.eval g
 rw [hg] at hev
 obtain ⟨cs, hfv, hcl, hcr⟩ := hev.fn_inv
 obtain ⟨res, out, fr', r', hfn, hlen, hrec, hbusy, e, hej, hK⟩ := h { state := .ready, pending := none, fn, tmps := a.tmps, params := ps, assign, body, defers := w.heap.size } rfl rfl rfl rfl rfl
 generalize hr0 : ({ state := .ready, pending := none, fn, tmps := a.tmps, params := ps, assign, body, defers := w.heap.size } : Loop) = r0 at hfn hrec hK
 -- the block of the mark
 have hput1 := zHu hp (Wr.alloc w (.deferred (some [])))
 have hs1 : (w.alloc (.deferred (some []))).heap.size = w.heap.size + 1 := World.size_alloc _ _
 have hd1 : (w.alloc (.deferred (some []))).heap[w.heap.size]? = some (.deferred (some [])) := heap_alloc_new w _
 have hen : (Instr.enterLoop fn a.tmps ps assign body none).run P w = .ok (w.heap.size + 1, [zFH w.heap.size]) ((w.alloc (.deferred (some []))).alloc (.loop r0)) := by rw [← hr0]; exact run_enterLoop_outer _ _ _ _ _
 generalize w.alloc (.deferred (some [])) = w1 at hput1 hs1 hd1 hen
 obtain ⟨m1, hp1⟩ := hput1
 -- the record
 have mr := Move.room B st.σ ρ w1 1
 have hpr : Hp B (st.σ ++ List.replicate 1 .free) ρ w1 := mr.hp hp1 rfl rfl rfl (fun k e he => mr.entOk (hp1.ent k e (zCB.1 he)) rfl) (fun k k' hk hk' he => hp1.inj k k' (zBO.1 hk) (zBO.1 hk') he)
 have hput2 := zGL hpr (k := st.σ.length) (e' := ⟨0, none, 0, st.fr, .loop r0⟩) (b := w1.heap.size) (cap := 0) (Wr.alloc w1 (.loop r0)) (.inl ⟨by simp, rfl⟩)
  ⟨a.tmps, _, heap_alloc_new w1 _, by show Obj.loop r0 = .loop { r0 with tmps := a.tmps }; rw [← hr0], hfr.1.symm, fun j d hd => by
   obtain ⟨u, a1, a2⟩ := hfr.2 j d hd
   exact ⟨u, a1, (fun h => by cases h), mr.rp (m1.rp a2)⟩⟩
 have hset : (st.σ ++ List.replicate 1 Slot.free).set st.σ.length (.ent ⟨0, none, 0, st.fr, .loop r0⟩) = st.σ ++ [zAt st.fr r0] := by simp [zAt]
 rw [hset] at hput2
 obtain ⟨m2, hp2⟩ := hput2
 have hs2 : (w1.alloc (.loop r0)).heap.size = w1.heap.size + 1 := World.size_alloc _ _
 generalize w1.alloc (.loop r0) = w2 at m2 hp2 hen hs2
 generalize hρ2 : zDC ρ st.σ.length (w1.heap.size, 0) = ρ2 at m2 hp2
 have hρn : ρ2 st.σ.length = (w1.heap.size, 0) := by rw [← hρ2]; exact zBh
 have hkn : (st.σ ++ [zAt st.fr r0])[st.σ.length]? = some (zAt st.fr r0) := by simp
 obtain ⟨hcp, T⟩ := zSP hp2 (ks := List.range (st.σ.length + 1)) List.nodup_range
 have hcall := hfn.spec _ _ w2 (#[.func (.yield (w.heap.size + 1)) #[] #[]] ++ cs) hcp (by simp [hcl]; omega) (fun j d u hd hu => by
  obtain ⟨d0, hd0, rfl⟩ := zAE hd
  refine T.ren ?_
  cases j with
  | zero =>
   rw [Array.getElem?_append_left (by simp)] at hu
   simp at hd0 hu
   subst hd0; subst hu
   refine .kref false st.σ.length 0 _ ⟨_, hkn, Nat.zero_le _⟩ rfl (fun b c hb => ?_)
   have := Tb.of (ρ := ρ2) hkn
   rw [show (⟨0, none, 0, st.fr, .loop r0⟩ : Ent).gen = 0 from rfl] at this
   rw [this, hρn] at hb
   cases hb
   rw [hs1]; rfl
  | succ j =>
   rw [Array.getElem?_append_right (by simp)] at hu
   exact m2.rp (mr.rp (m1.rp (hcr j d0 u (by simpa using hd0) (by simpa using hu)))))
 refine ⟨w.heap.size + 1, [zFH w.heap.size], w2, { target := .fn (.func f) cs, args := #[.func (.yield (w.heap.size + 1)) #[] #[]] }, w2, f, #[.func (.yield (w.heap.size + 1)) #[] #[]] ++ cs, w2, hen, ?_, (fun _ _ => trivial), ?_, (fun h => by cases h), ?_⟩
 ·simp only [resolve, hfv]
  simp [go_sem]
 ·simp [invoke, go_sem, hfn.enter]
 ·refine CallsIn.mono (show CallsIn (FW none) 0 P f _ w2 _ from callsIn_wide.2 hcall) ?_
  rintro e' w3 ⟨v, ρ', rfl, hp', _⟩
  obtain ⟨m3, hp3, _⟩ := zQz (slot := st.σ.length + 1) hp2 (zDt (Nat.le_refl _)) (by simp) (.inl (by simp [hlen])) (by simp [hlen]) (by simp [hlen]) hp'
  generalize zDg (List.range (st.σ.length + 1) ++ [st.σ.length + 1]) out.length ρ2 ρ' = ρ3 at m3 hp3
  generalize zAS (st.σ ++ [zAt st.fr r0]) (zf (List.range (st.σ.length + 1) ++ [st.σ.length + 1]) out) = σ3 at m3 hp3 hrec hK
  have hρ3 : ρ3 st.σ.length = (w1.heap.size, 0) := by
   have h1 := m3.tabs st.σ.length 0 (ρ3 st.σ.length) ⟨_, hkn, Nat.zero_le _⟩ (Tb.of (e := ⟨0, none, 0, fr', .loop r'⟩) hrec)
   have h2 := Tb.of (ρ := ρ2) (e := ⟨0, none, 0, st.fr, .loop r0⟩) hkn
   rw [h2] at h1
   rw [← hρn]
   exact (Option.some.inj h1).symm
  obtain ⟨cs3, hl3, _, _, hturn⟩ := hp3.recOf hrec
  rw [hρ3] at hl3 hturn
  obtain ⟨m4, hp4⟩ := hturn { r' with state := .exhausted }
  have hend := run_endLoop (P := P) hl3 hbusy
  rw [← hs1]
  have hfr4 := m4.frOk (fr := st.fr) (m3.frOk (fr := st.fr) (m2.frOk (fr := st.fr) (mr.frOk (fr := st.fr) (m1.frOk (fr := st.fr) hfr))))
  have hmk1 : Marks B { a with defers := [zFH w.heap.size] ++ a.defers } w1 := by
   have hlt : ∀ D ∈ Ds, D < w.heap.size := fun D hD => (Array.getElem?_eq_some_iff.1 (hDm D hD).2).1
   refine ⟨w.heap.size :: Ds, by simp [hDs], List.nodup_cons.2 ⟨fun hc => by have := hlt _ hc; omega, hnd⟩, fun D hD => ?_⟩
   rcases List.mem_cons.1 hD with rfl | hD
   ·exact ⟨Nat.le_trans hp.m0 hp.size, hd1⟩
   ·obtain ⟨_, _, _, hm⟩ := (show Marks B a w1 from m1.marks hp ⟨Ds, hDs, hnd, hDm⟩)
    have hD1 := hDm D hD
    refine ⟨hD1.1, ?_⟩
    rw [m1.keep D (hlt D hD) (fun k hk => by
     rintro rfl
     obtain ⟨en, he⟩ := hk
     obtain ⟨cs, o, hc, ho, _⟩ := hp.ent k en he
     rw [hD1.2] at hc; cases hc; exact zCu ho)]
    exact hD1.2
  have hmk4 := m4.marks hp3 (m3.marks hp2 (m2.marks hpr (mr.marks hp1 hmk1)))
  have hrel : Rel B ⟨st.fr, σ3.set st.σ.length .dead⟩ { a with defers := [zFH w.heap.size] ++ a.defers } (w3.putObj w1.heap.size (.loop { ({ r' with state := .exhausted } : Loop) with tmps := cs3 })) :=
   (Rel.le (s := ⟨st.fr, σ3.set st.σ.length (zAt fr' { r' with state := .exhausted })⟩) ⟨ρ3, hp4, hfr4, hmk4⟩ (zCq _) (zLP _ _ _))
  obtain ⟨w4, hend', hrel⟩ : ∃ w4, (Instr.endLoop w1.heap.size).run P w3 = .ok r'.pending w4 ∧ Rel B ⟨st.fr, σ3.set st.σ.length .dead⟩ { a with defers := [zFH w.heap.size] ++ a.defers } w4 := ⟨_, hend, hrel⟩
  refine ⟨r'.pending, w4, hend', ?_⟩
  clear hend'
  cases e with
  | normal =>
   have hj : r'.pending = none := (Option.some.inj hej).symm
   rw [hj]
   exact hQ _ _ _ _ hK hrel
  | ret =>
   have hj : r'.pending = some .ret := (Option.some.inj hej).symm
   rw [hj]
   exact wpIn_ret (hQ _ _ _ _ hK hrel)
  | exit id =>
   have hj : r'.pending = some (.exit id) := (Option.some.inj hej).symm
   rw [hj]
   exact wpIn_exit (hQ _ _ _ _ hK hrel)
  | goto t => cases hej
  | panic c => cases hej
  | outgrown => cases hej

theorem zAo {p : Prop} [Decidable p] {a b : Prop} (h1 : p → a) (h2 : ¬ p → b) : if p then a else b := by
 by_cases h : p
 ·rw [if_pos h]; exact h1 h
 ·rw [if_neg h]; exact h2 h
theorem zDU {m : Nat → Option Nat} {d : D} (h : frz0 d = true) : ren0 m d = d := by cases d <;> first | rfl | (simp [frz0] at h; done)
theorem zLH {m : Nat → Option Nat} {d : D} (h : frz0 d = true) : ren m d = d := by cases d <;> first | rfl | (simp [frz0] at h; done)
theorem zCd {f : D → D} (hf : ∀ d, frz0 d = true → f d = d) : ∀ {l : List D}, zk l = true → l.map f = l
 | [], _ => rfl
 | d :: l, h => by
  simp only [zk, Bool.and_eq_true] at h
  rw [List.map_cons, hf d h.1, zCd hf h.2]
theorem zPW {m : Nat → Option Nat} {caps : List D} (h : zk caps = true) : leF (caps.map (ren m)) caps := by rw [zCd (fun d hd => zLH hd) h]; exact zCq _
theorem zMq {m : Nat → Option Nat} {f : Nat} {caps : List D} (h : zk caps = true) : leD (ren m (.fn f caps)) (.fn f caps) := by
 show leD (.fn f (caps.map (ren0 m))) _
 rw [zCd (fun d hd => zDU hd) h]; exact zN _
theorem zDa {P : Program} {fn : Func} {n : Nat} {res : D} {out : List Slot} {st : St} (h : match zHK P fn st with | some (c, d) => c ∧ pick (List.range n) st.σ = out ∧ leD (ren (mOf (List.range n)) d) res | none => False) : zIv P fn n res out .ret st := by
 split at h
 ·rename_i c d hd
  exact ⟨.inr rfl, List.range n, c, d, hd, h.1, List.nodup_range, fun k hk => by simp [hk], h.2.1, h.2.2⟩
 ·exact h.elim
theorem zOz {P : Program} {fn : Func} {n : Nat} {res : D} {out : List Slot} {st : St} (h : match zHK P fn st with | some (c, d) => c ∧ pick (List.range n) st.σ = out ∧ leD (ren (mOf (List.range n)) d) res | none => False) : zIv P fn n res out .normal st := by
 split at h
 ·rename_i c d hd
  exact ⟨.inl rfl, List.range n, c, d, hd, h.1, List.nodup_range, fun k hk => by simp [hk], h.2.1, h.2.2⟩
 ·exact h.elim

theorem zKB {P : Program} {fn : Func} {st : St} {out : List Slot} {m : Nat} (k : Nat) {e : Exit} (he : e = .normal ∨ e = .ret) (hr : fn.results = #[]) (hσ : st.σ = out ++ List.replicate k .free) (hcl : zCc out) (hl : out.length = m) : zIv P fn m .any out e st := by
 refine ⟨he, List.range m, True, .tup [], by simp [zHK, hr, zDq], trivial, List.nodup_range, fun k hk => by simp [hk], ?_, zNh⟩
 rw [hσ, ← hl, pick_range_append]; exact hcl
theorem zRU {σ : List Slot} {n : Nat} {ρ : Nat → Nat × Nat} {k g : Nat} {p : Nat × Nat} (h : Tb σ ρ k g = some p) : Tb (σ ++ List.replicate n .free) ρ k g = some p := by
 obtain ⟨e, he, hg, hp⟩ := Tb.live h
 have := Tb.of (ρ := ρ) (zCB (n := n).2 he)
 rw [hg, hp] at this
 exact this
theorem Move.unroom (B : Base) (σ : List Slot) (ρ : Nat → Nat × Nat) (w : World) (n : Nat) : Move B (σ ++ List.replicate n .free) ρ w σ ρ w where
 size := Nat.le_refl _
 keep := fun _ _ _ => rfl
 lives := fun k hk => .inl ⟨k, zBO.2 hk, rfl⟩
 uses := fun k g hk => zGr.1 hk
 tabs := fun _ _ _ _ h => zRU h
theorem Rel.unroom {B : Base} {fr : List D} {σ : List Slot} {a : Act} {w : World} {n : Nat} (h : Rel B ⟨fr, σ ++ List.replicate n .free⟩ a w) : Rel B ⟨fr, σ⟩ a w := by
 obtain ⟨ρ, h1, h2, h3⟩ := h
 have m := Move.unroom B σ ρ w n
 exact ⟨ρ, m.hp h1 rfl rfl rfl (fun k e he => m.entOk (h1.ent k e (zCB.2 he)) rfl) (fun k k' hk hk' he => h1.inj k k' (zBO.2 hk) (zBO.2 hk') he), m.frOk (fr := fr) h2, h3⟩

section
variable {P : Program} {ro : Option Nat} {st : St} {K : Exit → St → Prop}
theorem ze {γ : Type} {c : Code} (inv : γ → St) (m : γ → Nat) (g0 : γ) (h0 : leF st.fr (inv g0).fr ∧ ∃ k, st.σ = (inv g0).σ ++ List.replicate k .free)
  (round : ∀ g, AWP P ro c (inv g) (zGo (fun s' => ∃ g', m g' < m g ∧ leF s'.fr (inv g').fr ∧ ∃ k, s'.σ = (inv g').σ ++ List.replicate k .free) K)) : AWP P ro (.loop c) st K := fun B a w hr Q hQ => by
 intro b k cs hro hb hrm
 have key : ∀ j g a w, m g = j → Rel B (inv g) a w →
   ∃ e a' w', Q e a' w' ∧ ArrivesIn (Machine.fenced P (FW ro)) P (lone (b.atR a (.code c :: .inLoop c :: k)) cs w) b k cs e a' w' := by
  intro j
  induction j using Nat.strongRecOn with
  | _ j ih =>
   intro g a w hj hrel
   have hw := round g B a w hrel (fun e a' w' => (e = .normal ∧ ∃ g', m g' < m g ∧ Rel B (inv g') a' w') ∨ (e ≠ .normal ∧ Q e a' w')) (fun e st' a' w' hK hr' => by
    cases e with
    | normal => obtain ⟨g', hg, h1, n, h2⟩ := hK; exact .inl ⟨rfl, g', hg, (hr'.le (t := ⟨(inv g').fr, (inv g').σ ++ List.replicate n .free⟩) h1 (by rw [h2]; exact zBK _)).unroom⟩
    | exit id => exact .inr ⟨by simp, hQ _ _ _ _ hK hr'⟩
    | goto l => exact .inr ⟨by simp, hQ _ _ _ _ hK hr'⟩
    | ret => exact .inr ⟨by simp, hQ _ _ _ _ hK hr'⟩
    | panic c => exact .inr ⟨by simp, hQ _ _ _ _ hK hr'⟩
    | outgrown => exact .inr ⟨by simp, hQ _ _ _ _ hK hr'⟩)
   obtain ⟨e, a₁, w₁, hq, harr⟩ := hw b (.inLoop c :: k) cs hro hb hrm
   rcases hq with ⟨rfl, g', hg, hr'⟩ | ⟨hne, hq⟩
   ·obtain ⟨e₂, a₂, w₂, hq₂, harr₂⟩ := ih (m g') (hj ▸ hg) g' a₁ w₁ rfl hr'
    exact ⟨e₂, a₂, w₂, hq₂, .of_steps (StepsIn.trans harr (.one (fenced_calm hb hrm rfl) stepR_inLoop)) harr₂⟩
   ·exact ⟨e, a₁, w₁, hq, .pass (x := .inLoop c) rfl (fun _ _ => .inl hne) harr⟩
 obtain ⟨e, a', w', hq, harr⟩ := key _ g0 a w rfl (let ⟨h1, n, h2⟩ := h0; (hr.le (t := ⟨(inv g0).fr, (inv g0).σ ++ List.replicate n .free⟩) h1 (by rw [h2]; exact zBK _)).unroom)
 exact ⟨e, a', w', hq, .of_steps (.one (fenced_calm hb hrm rfl) stepR_loop) harr⟩
end
attribute [push_cast] Bool.not_eq_true' Bool.not_eq_false' decide_true decide_false Int.natCast_zero Int.cast_ofNat_Int

def zRL (P : Program) (f : Nat) (caps : List D) (n : Nat) (el : Nat → List D) : Prop :=
 ∀ (m : Nat) (inv : Nat → List Slot) (ok : Nat → Bool) (frr : Nat → List D) (rr : Nat → Loop) (_ : ∀ i, (inv i)[m]? = some (zAt (frr i) (rr i))) (_ : ∀ i, zCc (inv i)) (_ : ∀ i, (inv i).length = m + 1)
  (_ : ∀ i, i < n → (∀ j, j < i → ok j = true) → Yld P m (el i) (inv i) (ok i) (inv (i + 1))) (k : Nat)
  (_ : (k = n ∧ ∀ j, j < k → ok j = true) ∨ (∃ s, s < n ∧ k = s + 1 ∧ ok s = false ∧ ∀ j, j < s → ok j = true)), Fn P f (.kref false m 0 :: caps) (inv 0) .any (inv k)

theorem zNx {s : List Slot} {fr : List D} {r : Loop} (h : s.map (zT (mOf (List.range (s.length + 1)))) = s) (hf : fr.map (ren (mOf (List.range (s.length + 1)))) = fr) : zCc (s ++ [zAt fr r]) := by
 unfold zCc pick
 refine List.ext_getElem? fun k => ?_
 simp only [List.length_append, List.length_cons, List.length_nil, Nat.zero_add]
 rw [List.getElem?_map]
 by_cases hk : k < s.length
 ·rw [List.getElem?_range (by omega), List.getElem?_append_left hk]
  simp only [Option.map_some]
  rw [zGj hk, zBD, List.getElem?_eq_getElem hk]
  have h1 : (s.map (zT (mOf (List.range (s.length + 1)))))[k]? = s[k]? := by rw [h]
  rw [List.getElem?_map, List.getElem?_eq_getElem hk] at h1
  simp only [Option.map_some] at h1
  exact h1
 ·by_cases hk2 : k = s.length
  ·subst hk2
   rw [List.getElem?_range (by omega), List.getElem?_append_right (by omega)]
   simp only [Option.map_some, Nat.sub_self, List.getElem?_cons_zero]
   rw [zBD, List.getElem?_append_right (by omega)]
   simp only [Nat.sub_self, List.getElem?_cons_zero, Option.getD_some, zAt, zT, hf]
  ·rw [List.getElem?_eq_none (by simp; omega), List.getElem?_eq_none (by simp; omega)]
   rfl
theorem zP {s t : List Slot} {m k : Nat} (h : s = t ++ List.replicate k .free) (hc : zCc t) (hl : t.length = m) : zHA m s t := by
 refine ⟨List.range m, List.nodup_range, fun k hk => by simp [hk], ?_⟩
 rw [h, ← hl, pick_range_append, hc]
 exact zBK _
theorem zNG {r : Loop} (h1 : r.state = .ready) (h2 : r.pending = none) : zBf r none = r := by
 cases r; simp only [zBf] at *; subst h1; subst h2; rfl
theorem zFt {s : List Slot} {a b : Slot} {m : Nat} (h : s.length = m) : (s ++ [a]).set m b = s ++ [b] := by subst h; simp
theorem zMh {s t : List Slot} (h : t.length = s.length) : zAS s ((List.range t.length).zip t) = t := by
 have := zEY (rest := []) h
 simpa using this

theorem zQQ (n : Nat) (ok : Nat → Bool) : (∀ j, j < n → ok j = true) ∨ ∃ s, s < n ∧ ok s = false ∧ ∀ j, j < s → ok j = true := by
 induction n with
 | zero => exact .inl (fun j hj => by omega)
 | succ n ih =>
  rcases ih with h | ⟨s, h6, h7⟩
  ·by_cases hn : ok n = true
   ·refine .inl (fun j hj => ?_)
    by_cases he : j = n
    ·rw [he]; exact hn
    ·exact h j (by omega)
   ·exact .inr ⟨n, by omega, by simpa using hn, h⟩
  ·exact .inr ⟨s, by omega, h7⟩
theorem zJs {P : Program} {st : St} {K : Exit → St → Prop} {g : Operand} {ps : Array Tmp} {assign body : Code} {f : Nat} {caps : List D} {n : Nat} {el : Nat → List D} (hg : st.eval g = .fn f caps) (hcaps : zk caps = true) (hit : zRL P f caps n el)
  (hps : ∀ i, i < n → ps.size = (el i).length) (m : Nat) (hm : st.σ.length = m) (hfr : st.fr.map (ren (mOf (List.range (m + 1)))) = st.fr)
  (σs : Nat → List Slot) (hs0 : σs 0 = st.σ) (hsl : ∀ i, (σs i).length = m) (hsc : ∀ i, (σs i).map (zT (mOf (List.range (m + 1)))) = σs i) (hsc' : ∀ i, zCc (σs i))
  (ok : Nat → Bool) (jmp : Exit) (jc : Code) (hj : zFg jmp = some (some jc))
  (fr1 : Nat → List D) (hassign : ∀ l i r, i < n → AWP P (some l) assign ⟨setsP st.fr (ps.toList.zip (el i)), σs i ++ [zAt st.fr r]⟩ (fun e s => e = .normal ∧ s = ⟨fr1 i, σs i ++ [zAt st.fr r]⟩))
  (hfr1 : ∀ i, (fr1 i).map (ren (mOf (List.range m))) = fr1 i)
  (hbody : ∀ l i, i < n → (∀ j, j < i → ok j = true) → AWP P (some l) body ⟨fr1 i, σs i⟩ (fun e s => zHA m s.σ (σs (i + 1)) ∧ e = if ok i = true then .normal else jmp))
  (hdone : (∀ j, j < n → ok j = true) → K .normal ⟨st.fr, σs n ++ [.dead]⟩)
  (hstop : ∀ k, k < n → ok k = false → (∀ j, j < k → ok j = true) → K jmp ⟨st.fr, σs (k + 1) ++ [.dead]⟩) : AWP P none (.rangeFunc g ps assign body) st K := by
 refine zIy hg fun r h1 h2 h3 h4 h5 => ?_
 rw [hm]
 let rr : Nat → Loop := fun i => match i with | 0 => r | i + 1 => if ok i = true then r else zBf r (some jc)
 let inv : Nat → List Slot := fun i => σs i ++ [zAt st.fr (rr i)]
 have hcl : ∀ i, zCc (inv i) := fun i => zNx (by rw [hsl]; exact hsc i) (by rw [hsl]; exact hfr)
 have hlen : ∀ i, (inv i).length = m + 1 := fun i => by simp [inv, hsl]
 have hrec : ∀ i, (inv i)[m]? = some (zAt st.fr (rr i)) := fun i => by
  show (σs i ++ [zAt st.fr (rr i)])[m]? = _
  rw [List.getElem?_append_right (by rw [hsl]; exact Nat.le_refl _), hsl]
  simp
 have hinv0 : pick (List.range (m + 1)) (st.σ ++ [zAt st.fr r]) = inv 0 := by
  have := hcl 0
  unfold zCc at this
  rw [hlen] at this
  rw [← hs0]
  exact this
 have hy : ∀ i, i < n → (∀ j, j < i → ok j = true) → Yld P m (el i) (inv i) (ok i) (inv (i + 1)) := by
  intro i hi hok
  have hri : rr i = r := by
   cases i with
   | zero => rfl
   | succ i => show (if ok i = true then r else _) = r; rw [if_pos (hok i (by omega))]
  have hset : ∀ b : Slot, (inv i).set m b = σs i ++ [b] := fun b => zFt (hsl i)
  have hpick : pick (List.range m) ((inv i).set m (zAt st.fr { r with state := .busy })) = σs i := by
   rw [hset]
   have := hsc' i
   unfold zCc at this
   rw [hsl] at this
   have h9 := pick_range_append (ext := σs i) (rest := [zAt st.fr { r with state := .busy }])
   rw [hsl] at h9
   rw [h9]; exact this
  have hcs : ∀ b : Slot, zAS ((inv i).set m b) (zf (List.range m ++ [m + 1]) (σs (i + 1))) = σs (i + 1) ++ [b] := by
   intro b
   have h9 := zCh (s := m + 1) (hsc' (i + 1))
   rw [hsl] at h9
   rw [hset, h9]
   have h10 := zEY (ext := σs i) (rest := [b]) (out := σs (i + 1)) (by rw [hsl, hsl])
   rw [hsl] at h10
   exact h10
  refine Yld.of (kk := m) (fr := st.fr) (r := r) (by rw [hrec, hri]) h1 (by rw [h3]; exact hps i hi) (fr1 i) (fun l => ?_) (List.range m) (m + 1) (zDt (by omega)) (by simp) (by rw [hlen]; simp; omega) (σs i) hpick (fr1 i) (hfr1 i) (fun l => ?_)
  ·rw [h3, h4]
   show AWP P (some l) assign ⟨_, σs i ++ [zAt st.fr (rr i)]⟩ _
   rw [hri]
   have := hassign l i r hi
   show AWP P (some l) assign _ (fun e s => e = .normal ∧ s = ⟨fr1 i, σs i ++ [zAt st.fr (rr i)]⟩)
   rw [hri]
   exact this
  ·rw [h5]
   refine (hbody l i hi hok).mono fun e s hs => ?_
   obtain ⟨hw, he⟩ := hs
   refine ⟨σs (i + 1), if ok i = true then none else some jc, by simpa using hw, by rw [hsl]; simp, ?_, ?_, ?_, ?_⟩
   ·rw [he]
    by_cases h : ok i = true
    ·rw [if_pos h, if_pos h]; rfl
    ·rw [if_neg h, if_neg h]; exact hj
   ·cases ok i <;> rfl
   ·rw [hcs, List.getElem?_append_right (by rw [hsl]; exact Nat.le_refl _), hsl]; simp
   ·rw [hcs, zFt (hsl (i + 1))]
    show σs (i + 1) ++ [zAt st.fr (if ok i = true then r else zBf r (some jc))] = _
    by_cases h : ok i = true
    ·rw [if_pos h, if_pos h, zNG h1 h2]
    ·rw [if_neg h, if_neg h]
 have hargs : (D.kref false m 0 :: caps).map (ren (mOf (List.range (m + 1)))) = .kref false m 0 :: caps := by
  rw [List.map_cons, zCd (fun d hd => zLH hd) hcaps]
  congr 1
  show ren0 (mOf (List.range (m + 1))) (.kref false m 0) = _
  simp only [ren0, zGW]
  rw [if_pos (by omega)]
 have hfin : ∀ k, zAS (st.σ ++ [zAt st.fr r]) (zf (List.range (m + 1) ++ [m + 1]) (inv k)) = inv k := by
  intro k
  have h9 := zCh (s := m + 1) (hcl k)
  rw [hlen] at h9
  rw [h9]
  have h10 := zMh (s := st.σ ++ [zAt st.fr r]) (t := inv k) (by rw [hlen]; simp [hm])
  rw [hlen] at h10
  exact h10
 have hdec := zQQ n ok
 rcases hdec with hall | ⟨s, hs, hsf, hsb⟩
 ·refine ⟨.any, inv n, st.fr, rr n, ?_, hlen n, by rw [hfin]; exact hrec n, ?_, .normal, ?_, ?_⟩
  ·rw [hargs, hinv0]
   exact hit m inv ok (fun _ => st.fr) rr hrec hcl hlen hy n (.inl ⟨rfl, hall⟩)
  ·have : rr n = r := by
    cases n with
    | zero => rfl
    | succ n => show (if ok n = true then r else _) = r; rw [if_pos (hall n (by omega))]
   rw [this, h1]; simp
  ·have : rr n = r := by
    cases n with
    | zero => rfl
    | succ n => show (if ok n = true then r else _) = r; rw [if_pos (hall n (by omega))]
   rw [this, h2]; rfl
  ·rw [hfin]
   show K .normal ⟨st.fr, (σs n ++ [zAt st.fr (rr n)]).set m .dead⟩
   rw [zFt (hsl n)]
   exact hdone hall
 ·have hrs : rr (s + 1) = zBf r (some jc) := by show (if ok s = true then r else _) = _; rw [hsf]; simp
  refine ⟨.any, inv (s + 1), st.fr, rr (s + 1), ?_, hlen _, by rw [hfin]; exact hrec _, ?_, jmp, ?_, ?_⟩
  ·rw [hargs, hinv0]
   exact hit m inv ok (fun _ => st.fr) rr hrec hcl hlen hy (s + 1) (.inr ⟨s, hs, rfl, hsf, hsb⟩)
  ·rw [hrs]; simp [zBf]
  ·rw [hrs, hj]; rfl
  ·rw [hfin]
   show K jmp ⟨st.fr, (σs (s + 1) ++ [zAt st.fr (rr (s + 1))]).set m .dead⟩
   rw [zFt (hsl _)]
   exact hstop s hs hsf hsb
theorem zKj {P : Program} {ro : Option Nat} {st : St} {K : Exit → St → Prop} {c : Code} (fr : List D) (h : leF st.fr fr) (hc : AWP P ro c ⟨fr, st.σ⟩ K) : AWP P ro c st K :=
 fun B a w hr Q hQ => hc B a w (hr.le (t := ⟨fr, st.σ⟩) h (zBK _)) Q hQ
theorem zDl {P : Program} {st : St} {K : Exit → St → Prop} {g : Operand} {ps : Array Tmp} {assign body : Code} {f : Nat} {caps : List D} {n : Nat} {el : Nat → List D} (hg : st.eval g = .fn f caps) (hcaps : zk caps = true) (hit : zRL P f caps n el)
  (hps : ∀ i, i < n → ps.size = (el i).length) (m : Nat) (hm : st.σ.length = m) (hfr : st.fr.map (ren (mOf (List.range (m + 1)))) = st.fr)
  (σs σx : Nat → List Slot) (hs0 : σs 0 = st.σ) (hsl : ∀ i, (σs i).length = m ∧ (σx i).length = m) (hsc : ∀ i, (σs i).map (zT (mOf (List.range (m + 1)))) = σs i ∧ (σx i).map (zT (mOf (List.range (m + 1)))) = σx i) (hsc' : ∀ i, zCc (σs i) ∧ zCc (σx i))
  (ok : Nat → Bool) (jmp : Exit) (jc : Code) (hj : zFg jmp = some (some jc))
  (fr1 : Nat → List D) (hassign : ∀ l i r σ, i < n → AWP P (some l) assign ⟨setsP st.fr (ps.toList.zip (el i)), σ ++ [zAt st.fr r]⟩ (fun e s => e = .normal ∧ s = ⟨fr1 i, σ ++ [zAt st.fr r]⟩))
  (hfr1 : ∀ i, (fr1 i).map (ren (mOf (List.range m))) = fr1 i)
  (hbody : ∀ l i, i < n → (∀ j, j < i → ok j = true) → AWP P (some l) body ⟨fr1 i, σs i⟩ (fun e s => (ok i = true ∧ e = .normal ∧ zHA m s.σ (σs (i + 1))) ∨ (ok i = false ∧ e = jmp ∧ zHA m s.σ (σx i))))
  (hdone : (∀ j, j < n → ok j = true) → K .normal ⟨st.fr, σs n ++ [.dead]⟩)
  (hstop : ∀ k, k < n → ok k = false → (∀ j, j < k → ok j = true) → K jmp ⟨st.fr, σx k ++ [.dead]⟩) : AWP P none (.rangeFunc g ps assign body) st K := by
 let σq : Nat → List Slot := fun i => match i with | 0 => σs 0 | i + 1 => if ok i = true then σs (i + 1) else σx i
 have hq : ∀ i, (∀ j, j < i → ok j = true) → σq i = σs i := fun i h => by
  cases i with
  | zero => rfl
  | succ i => show (if ok i = true then _ else _) = _; rw [if_pos (h i (by omega))]
 have hall : ∀ (p : List Slot → Prop), (∀ i, p (σs i) ∧ p (σx i)) → ∀ i, p (σq i) := fun p h i => by
  cases i with
  | zero => exact (h 0).1
  | succ i =>
   show p (if ok i = true then _ else _)
   split
   ·exact (h (i + 1)).1
   ·exact (h i).2
 refine zJs hg hcaps hit hps m hm hfr σq hs0 (hall (fun s => s.length = m) hsl) (hall (fun s => s.map (zT (mOf (List.range (m + 1)))) = s) hsc) (hall zCc hsc') ok jmp jc hj fr1 (fun l i r hi => hassign l i r _ hi) hfr1 (fun l i hi hb => ?_) (fun h => ?_) (fun k hk h hb => ?_)
 ·rw [hq i hb]
  refine (hbody l i hi hb).mono fun e s h => ?_
  show zHA m s.σ (if ok i = true then σs (i + 1) else σx i) ∧ _
  rcases h with ⟨h1, h2, h3⟩ | ⟨h1, h2, h3⟩
  ·rw [h1]; exact ⟨h3, h2⟩
  ·rw [h1]; exact ⟨h3, h2⟩
 ·rw [hq n h]; exact hdone h
 ·have : σq (k + 1) = σx k := by show (if ok k = true then _ else _) = _; rw [h]; rfl
  rw [this]; exact hstop k hk h hb
theorem zQo {P : Program} {ro : Option Nat} {st : St} {K : Exit → St → Prop} {c : Code} (σ : List Slot) (h : leS st.σ σ) (hc : AWP P ro c ⟨st.fr, σ⟩ K) : AWP P ro c st K :=
 fun B a w hr Q hQ => hc B a w (hr.le (t := ⟨st.fr, σ⟩) (zCq _) h) Q hQ
theorem zV {P : Program} {ro : Option Nat} {st : St} {K : Exit → St → Prop} {ops : Array Oper} {dr : Bool} (id k : Nat) {e : Ent} (hk : zEL st.σ k = .ent e) (hf : zAT e.cells = true) (h : AWP P ro (.region id ops dr) (zAH k e.gen (zj e) e.cells st) K) : AWP P ro (.region id ops dr) st K := zt k hk hf h
attribute [push_cast] setsP List.zip_cons_cons List.zip_nil_left List.zip_nil_right

inductive Kk where
 | bool
 | int (k : IntKind)
 | str
 | sl (e : Kk)
 | st (ks : Kk)
 | unit
 | pair (k ks : Kk)
def Kk.width : Kk → Nat
 | .bool => 1
 | .int _ => 1
 | .str => 1
 | .sl _ => 1
 | .st ks => ks.width
 | .unit => 0
 | .pair k ks => k.width + ks.width
inductive Tg where
 | ty (t : TypeId)
 | fl (fs : List Field) (off : Nat)
inductive Conf (P : Program) : Tg → Kk → Prop
 | bool {t : TypeId} (h : P.underlying t = some .bool) : Conf P (.ty t) .bool
 | int {t : TypeId} {k : IntKind} (h : P.underlying t = some (.int k)) : Conf P (.ty t) (.int k)
 | str {t : TypeId} (h : P.underlying t = some .string) : Conf P (.ty t) .str
 | sl {t e : TypeId} {k : Kk} (h : P.underlying t = some (.slice e)) (hc : P.cellsOf e = k.width) (h0 : 0 < k.width) (he : Conf P (.ty e) k) : Conf P (.ty t) (.sl k)
 | st {t : TypeId} {fs : Array Field} {ks : Kk} (h : P.underlying t = some (.struct fs)) (hc : P.cellsOf t = ks.width) (he : Conf P (.fl fs.toList 0) ks) : Conf P (.ty t) (.st ks)
 | unit {off : Nat} : Conf P (.fl [] off) .unit
 | pair {f : Field} {fs : List Field} {off : Nat} {k ks : Kk} (ho : f.offset = off) (hc : P.cellsOf f.type = k.width) (hk : Conf P (.ty f.type) k) (hs : Conf P (.fl fs (off + k.width)) ks) : Conf P (.fl (f :: fs) off) (.pair k ks)
inductive Shape : Kk → List D → Prop
 | bool (b : Bool) : Shape .bool [.v (.bool b)]
 | int (k : IntKind) (n : Int) (h : (Lit.int k n).wf = true) : Shape (.int k) [.v (.int k n)]
 | str (s : ByteArray) (h : s.size ≤ maxLen) : Shape .str [.v (.string s)]
 | sl (k : Kk) (xs : List (List D)) (h : ∀ x ∈ xs, Shape k x) (hl : xs.length ≤ maxLen) : Shape (.sl k) [.sl false k.width xs]
 | st (ks : Kk) (ds : List D) (h : Shape ks ds) : Shape (.st ks) ds
 | unit : Shape .unit []
 | pair (k ks : Kk) (a b : List D) (h : Shape k a) (h2 : Shape ks b) : Shape (.pair k ks) (a ++ b)
theorem Shape.width {k : Kk} {ds : List D} (h : Shape k ds) : ds.length = k.width := by
 induction h with
 | pair k ks a b _ _ h1 h2 => simp [Kk.width, h1, h2]
 | st ks ds _ h => exact h
 | _ => rfl

def Good (w : World) (fz : Nat → Prop) (ds : List D) (us : List Value) : Prop := ds.length = us.length ∧ ∀ (j : Nat) (d : D) (u : Value), ds[j]? = some d → us[j]? = some u → u.oneCell' = true ∧ RepF w fz d u
theorem Good.one {w : World} {fz : Nat → Prop} {d : D} {u : Value} (h1 : u.oneCell' = true) (h2 : RepF w fz d u) : Good w fz [d] [u] := by
 refine ⟨rfl, fun j d' u' hd hu => ?_⟩
 cases j with
 | zero => simp at hd hu; subst hd; subst hu; exact ⟨h1, h2⟩
 | succ j => simp at hd
theorem Good.app {w : World} {fz : Nat → Prop} {a b : List D} {x y : List Value} (h1 : Good w fz a x) (h2 : Good w fz b y) : Good w fz (a ++ b) (x ++ y) := by
 refine ⟨by simp [h1.1, h2.1], fun j d u hd hu => ?_⟩
 by_cases hj : j < a.length
 ·rw [List.getElem?_append_left hj] at hd
  rw [List.getElem?_append_left (by rw [← h1.1]; exact hj)] at hu
  exact h1.2 j d u hd hu
 ·rw [List.getElem?_append_right (by omega)] at hd
  rw [List.getElem?_append_right (by rw [← h1.1]; omega), ← h1.1] at hu
  exact h2.2 _ d u hd hu
theorem zOF {w : World} {a : Addr} {v : Value} (h : w.cell? (a.add 0) = some v) : a.spot = none ∧ a.block < w.heap.size := by
 obtain ⟨b, o, sp⟩ := a
 cases sp with
 | none =>
  refine ⟨rfl, ?_⟩
  rw [zAX] at h
  simp only [World.cell?] at h
  split at h
  ·rename_i hh; exact (Array.getElem?_eq_some_iff.1 hh).1
  ·cases h
 | some s =>
  exfalso
  simp only [World.cell?] at h
  split at h
  ·have : ((⟨b, o, some s⟩ : Addr).add 0).spot.isSome = true := by unfold Addr.add; rfl
   rw [this] at h
   simp at h
  ·cases h

theorem zIP {H : Type} {enc : TypeId × Value → H} {P : Program} {w : World} {base : Nat} {spare : Nat → Bool} {held : Bool} {fz : Nat → Prop} (hfz : ∀ b, b < w.heap.size → fz b) {tg : Tg} {k : Kk} (hk : Conf P tg k) :
  match tg with
  | .ty t => ∀ fuel cs x, DataW.trod enc P w base spare held fuel t cs = some x → ∃ ds, Shape k ds ∧ Good w fz ds cs
  | .fl fs off => ∀ (n : Nat) (cs : List Value) (xs : List (DataW H × List MemPlace)), off + k.width ≤ cs.length →
    (∀ (i : Nat) (f : Field), fs[i]? = some f → ∃ x, DataW.trod enc P w base spare held n f.type ((cs.drop f.offset).take (P.cellsOf f.type)) = some x) → ∃ ds, Shape k ds ∧ Good w fz ds ((cs.drop off).take k.width) := by
 induction hk with
 | bool h =>
  intro fuel cs x hx
  obtain ⟨b, rfl, _⟩ := DataW.trod_bool h hx
  exact ⟨_, .bool b, .one rfl (.v _)⟩
 | int h =>
  intro fuel cs x hx
  obtain ⟨n, rfl, _, hw⟩ := DataW.trod_int h hx
  exact ⟨_, .int _ n hw, .one rfl (.v _)⟩
 | str h =>
  intro fuel cs x hx
  obtain ⟨s, rfl, _, hs⟩ := DataW.trod_string h hx
  exact ⟨_, .str s hs, .one rfl (.v _)⟩
 | @sl t e k h hc h0 he ih =>
  intro fuel cs x hx
  rcases DataW.trod_slice h hx with ⟨rfl, _⟩ | ⟨a, len, cap, elems, rest, n, _, rfl, _, hb, hl, hm, hlen, hel, _, _⟩
  ·exact ⟨_, .sl k [] (fun x hx => by cases hx) (Nat.zero_le _), .one rfl (.sl0 _ _ _ _ (fun h => by cases h))⟩
  ·have hrow : ∀ i, i < len → ∃ ds cs', w.cells? base (a.add (i * k.width)) k.width = some cs' ∧ Shape k ds ∧ Good w fz ds cs' := by
    intro i hi
    have h1 := hel i hi
    rw [hc, List.getElem?_eq_getElem (by omega : i < elems.length), Option.bind_eq_some_iff] at h1
    obtain ⟨cs', h2, h3⟩ := h1
    obtain ⟨ds, h4, h5⟩ := ih n cs' _ h3
    exact ⟨ds, cs', h2, h4, h5⟩
   by_cases hz : len = 0
   ·subst hz
    exact ⟨_, .sl k [] (fun x hx => by cases hx) (Nat.zero_le _), .one rfl (.sl0 _ _ _ _ (fun h => by cases h))⟩
   ·obtain ⟨rows, hrl, hrows⟩ : ∃ rows : List (List D × List Value), rows.length = len ∧ ∀ i r, rows[i]? = some r → w.cells? base (a.add (i * k.width)) k.width = some r.2 ∧ Shape k r.1 ∧ Good w fz r.1 r.2 := by
     clear hz hl hm hx hel
     have : ∀ m, m ≤ len → ∃ rows : List (List D × List Value), rows.length = m ∧ ∀ i r, rows[i]? = some r → w.cells? base (a.add (i * k.width)) k.width = some r.2 ∧ Shape k r.1 ∧ Good w fz r.1 r.2 := by
      intro m
      induction m with
      | zero => intro _; exact ⟨[], rfl, fun i r h => by simp at h⟩
      | succ m ihm =>
       intro hm'
       obtain ⟨rows, h1, h2⟩ := ihm (by omega)
       obtain ⟨ds, cs', h3, h4, h5⟩ := hrow m (by omega)
       refine ⟨rows ++ [(ds, cs')], by simp [h1], fun i r hr => ?_⟩
       by_cases hi : i < rows.length
       ·rw [List.getElem?_append_left hi] at hr; exact h2 i r hr
       ·rw [List.getElem?_append_right (by omega)] at hr
        have hi2 : i = m := by have := (List.getElem?_eq_some_iff.1 hr).1; simp at this; omega
        subst hi2
        rw [h1] at hr
        simp at hr
        subst hr
        exact ⟨h3, h4, h5⟩
     exact this len (Nat.le_refl _)
    have hcell0 : ∀ (i : Nat) (r : List D × List Value) (j : Nat), rows[i]? = some r → j < k.width → w.cell? ((a.add (i * k.width)).add j) = r.2[j]? := by
     intro i r j hr hj
     exact (World.cells?_some (hrows i r hr).1).2.2 j hj
    obtain ⟨r0, hr0⟩ : ∃ r0, rows[0]? = some r0 := ⟨rows[0]'(by omega), List.getElem?_eq_getElem (by omega)⟩
    have hr0' := hrows 0 r0 hr0
    have hl0 : r0.2.length = k.width := (World.cells?_some hr0'.1).2.1
    have hspot := zOF (w := w) (a := a) (v := r0.2[0]) (by
     have := hcell0 0 r0 0 hr0 h0
     rw [Nat.zero_mul, List.getElem?_eq_getElem (by omega)] at this
     have hadd : a.add 0 = (a.add 0).add 0 := by
      obtain ⟨b, o, sp⟩ := a
      cases sp with
      | none => rw [zAX, zAX]
      | some s => simp [Addr.add]
     rw [hadd]; exact this)
    obtain ⟨b, o, sp⟩ := a
    obtain ⟨rfl, hblt⟩ := hspot
    refine ⟨_, .sl k (rows.map (·.1)) (fun x hx => ?_) (by simp; omega), .one rfl (.sl false k.width (rows.map (·.1)) b o cap len (fun i j => ((rows[i]?).bind (fun r => r.2[j]?)).getD undef) (by simp [hrl]) (by omega) hl (fun h => by cases h) (hfz b hblt) (fun x hx => ?_) (fun i x j d hi hj => ?_) (fun i x j d hi hj => ?_))⟩
    ·obtain ⟨r, hr, rfl⟩ := List.mem_map.1 hx
     obtain ⟨i, hi⟩ := List.mem_iff_getElem?.1 hr
     exact (hrows i r hi).2.1
    ·obtain ⟨r, hr, rfl⟩ := List.mem_map.1 hx
     obtain ⟨i, hi⟩ := List.mem_iff_getElem?.1 hr
     exact (hrows i r hi).2.1.width
    ·obtain ⟨r, hr, rfl⟩ := zAE hi
     obtain ⟨_, hs, hg⟩ := hrows i r hr
     have hjl : j < r.1.length := (List.getElem?_eq_some_iff.1 hj).1
     have hj2 : j < r.2.length := by rw [← hg.1]; exact hjl
     have := hcell0 i r j hr (by rw [← hs.width]; exact hjl)
     rw [zAX, zAX] at this
     simp only [hr, Option.bind_some]
     rw [this, List.getElem?_eq_getElem hj2]
     exact ⟨rfl, (hg.2 j d _ hj (List.getElem?_eq_getElem hj2)).1⟩
    ·obtain ⟨r, hr, rfl⟩ := zAE hi
     obtain ⟨_, hs, hg⟩ := hrows i r hr
     have hjl : j < r.1.length := (List.getElem?_eq_some_iff.1 hj).1
     have hj2 : j < r.2.length := by rw [← hg.1]; exact hjl
     simp only [hr, Option.bind_some]
     rw [List.getElem?_eq_getElem hj2]
     exact (hg.2 j d _ hj (List.getElem?_eq_getElem hj2)).2
 | @st t fs ks h hc he ih =>
  intro fuel cs x hx
  obtain ⟨xs, n, _, _, hl, hlen, hf⟩ := DataW.trod_struct h hx
  obtain ⟨ds, h1, h2⟩ := ih n cs xs (by rw [hl, hc]; omega) (fun i f hif => by
   have hif' : fs[i]? = some f := by simpa using hif
   have hlt : i < fs.size := (Array.getElem?_eq_some_iff.1 hif').1
   exact ⟨xs[i], by rw [hf i f hif', List.getElem?_eq_getElem (by omega)]⟩)
  refine ⟨ds, .st ks ds h1, ?_⟩
  rw [List.drop_zero, List.take_of_length_le (by omega)] at h2
  exact h2
 | unit =>
  intro n cs xs _ _
  exact ⟨[], .unit, by simp [Kk.width], fun j d u hd => by simp at hd⟩
 | @pair f fs off k ks ho hc hk hs ih1 ih2 =>
  intro n cs xs hle hf
  simp only [Kk.width] at hle
  obtain ⟨x, hx⟩ := hf 0 f rfl
  rw [ho, hc] at hx
  obtain ⟨a, ha1, ha2⟩ := ih1 n _ x hx
  obtain ⟨b, hb1, hb2⟩ := ih2 n cs xs (by omega) (fun i g hg => hf (i + 1) g (by simpa using hg))
  refine ⟨a ++ b, .pair k ks a b ha1 hb1, ?_⟩
  have : (cs.drop off).take (k.width + ks.width) = (cs.drop off).take k.width ++ (cs.drop (off + k.width)).take ks.width := by
   rw [List.take_add, List.drop_drop]
  show Good w fz (a ++ b) ((cs.drop off).take (k.width + ks.width))
  rw [this]
  exact ha2.app hb2

theorem hp0 (w : World) : Hp (zAU w (fun _ => False) [] (fun _ => (0, 0))) [] (fun _ => (0, 0)) w where
 ent := fun k e h => by simp at h
 inj := fun k k' ⟨e, h⟩ => by simp at h
 nf := fun k ⟨e, h⟩ => by simp at h
 own := fun k ⟨e, h⟩ => by simp at h
 size := Nat.le_refl _
 os := rfl
 tape := rfl
 output := rfl
 base := fun _ _ _ => rfl
 n0 := fun _ h => h.elim
 m0 := Nat.le_refl _
 hist := fun k g hk => ⟨hk, fun _ h => h⟩
abbrev Rp0 (w : World) (d : D) (u : Value) : Prop := Rp (zAU w (fun _ => False) [] (fun _ => (0, 0))) [] (fun _ => (0, 0)) w d u
theorem fz0 (w : World) (b : Nat) (h : b < w.heap.size) : Fz (zAU w (fun _ => False) [] (fun _ => (0, 0))) [] (fun _ => (0, 0)) w b := ⟨h, fun h => h, fun k ⟨e, h⟩ => by simp at h⟩
section
variable {H : Type} {enc : TypeId × Value → H} {P : Program} {w : World} {base : Nat} {spare : Nat → Bool} {held : Bool} {t : TypeId} {v : Value} {d : DataW H} {ps : List MemPlace} {r : Reach} {b' : Nat}
theorem arg_struct {ks : Kk} (hc : Conf P (.ty t) (.st ks)) (hv : Value.okWide P w r b' t v) (h : DataW.Trod enc P w base spare held t v d ps) : ∃ ds, Shape ks ds ∧ Rp0 w (.agg ds) v := by
 obtain ⟨fuel, hf⟩ := h
 obtain ⟨ds, h1, h2⟩ := zIP (fz0 w) hc fuel _ _ hf
 cases h1 with
 | st _ _ h1 =>
  cases hc with
  | st hu _ _ =>
   simp only [Value.okWide, hu] at hv
   obtain ⟨cs, rfl, _, _⟩ := hv
   refine ⟨ds, h1, .fro _ _ (.agg ds cs (by have := h2.1; simpa [Value.cells] using this) (fun j d u hd hu => ?_))⟩
   exact (h2.2 j d u hd (by simpa [Value.cells] using hu)).2
theorem arg_one {k : Kk} (hc : Conf P (.ty t) k) (hv : Value.okWide P w r b' t v) (h : DataW.Trod enc P w base spare held t v d ps) (hk : match k with | .bool | .int _ | .str | .sl _ => True | _ => False) : ∃ e, Shape k [e] ∧ Rp0 w e v := by
 obtain ⟨fuel, hf⟩ := h
 obtain ⟨ds, h1, h2⟩ := zIP (fz0 w) hc fuel _ _ hf
 have hone : v.cells = #[v] := by
  cases hc with
  | bool hu => simp only [Value.okWide, hu, Cell.okWide] at hv; cases v <;> simp_all [Cell.ok, Value.cells]
  | int hu => simp only [Value.okWide, hu, Cell.okWide] at hv; cases v <;> simp_all [Cell.ok, Value.cells]
  | str hu => simp only [Value.okWide, hu, Cell.okWide] at hv; cases v <;> simp_all [Cell.ok, Value.cells]
  | sl hu => simp only [Value.okWide, hu, Cell.okWide] at hv; cases v <;> simp_all [Cell.ok, Value.cells]
  | st => exact hk.elim
 rw [hone] at h2
 obtain ⟨hl, hr⟩ := h2
 match ds, hl with
 | [e], _ => exact ⟨e, h1, .fro _ _ (hr 0 e v rfl rfl).2⟩
end
theorem law_of {P : Program} {n : Nat} {args : List D} {vs : Array Value} {w : World} (h : Fn P n args [] (.v (.bool true)) []) (hs : vs.size = args.length)
  (ha : ∀ (j : Nat) (d : D) (u : Value), args[j]? = some d → vs[j]? = some u → Rp0 w d u) : Calls P n vs w (fun e w' => e = .returned (.bool true) ∧ Below w.heap.size w w') := by
 refine (h.spec (fun _ => False) (fun _ => (0, 0)) w vs (hp0 w) hs ha).mono ?_
 rintro e w' ⟨v, ρ', rfl, hp, hr⟩
 rw [hr.v_inv]
 exact ⟨rfl, hp.os, hp.tape, hp.output, hp.size, fun k hk => hp.base k hk (fun ⟨j, ⟨e, he⟩, _⟩ => by simp at he)⟩

theorem zJr {k : IntKind} {e : D} (h : Shape (.int k) [e]) : ∃ n, e = .v (.int k n) ∧ (Lit.int k n).wf = true := by
 generalize hd : [e] = ds at h
 cases h with
 | int _ n hw => cases hd; exact ⟨n, rfl, hw⟩
theorem zMZ {e : D} (h : Shape .bool [e]) : ∃ b, e = .v (.bool b) := by
 generalize hd : [e] = ds at h
 cases h with
 | bool b => cases hd; exact ⟨b, rfl⟩
theorem zOR {e : D} (h : Shape .str [e]) : ∃ s : ByteArray, e = .v (.string s) ∧ s.size ≤ maxLen := by
 generalize hd : [e] = ds at h
 cases h with
 | str s hs => cases hd; exact ⟨s, rfl, hs⟩
theorem zDe {k : Kk} {e : D} (h : Shape (.sl k) [e]) : ∃ xs, e = .sl false k.width xs ∧ (∀ x ∈ xs, Shape k x) ∧ xs.length ≤ maxLen := by
 generalize hd : [e] = ds at h
 cases h with
 | sl _ xs hs hl => cases hd; exact ⟨xs, rfl, hs, hl⟩
theorem zAA {k ks : Kk} {ds : List D} (h : Shape (.pair k ks) ds) : ∃ a b, ds = a ++ b ∧ Shape k a ∧ Shape ks b := by
 cases h with
 | pair _ _ a b h1 h2 => exact ⟨a, b, rfl, h1, h2⟩
theorem zCS {ds : List D} (h : Shape .unit ds) : ds = [] := by
 cases h; rfl
theorem zGA {ks : Kk} {ds : List D} (h : Shape (.st ks) ds) : Shape ks ds := by
 cases h; assumption
theorem zAC {k : Kk} {ds : List D} (h : Shape k ds) (hw : k.width = 1) : ∃ e, ds = [e] ∧ Shape k [e] := by
 have := h.width
 rw [hw] at this
 match ds, this with
 | [e], _ => exact ⟨e, rfl, h⟩
theorem zBy {α : Type} {k : Kk} (f : α → List D) (hf : ∀ x, Shape k x → ∃ a, x = f a) : ∀ {xs : List (List D)}, (∀ x ∈ xs, Shape k x) → ∃ l : List α, xs = l.map f
 | [], _ => ⟨[], rfl⟩
 | x :: xs, h => by
  obtain ⟨a, rfl⟩ := hf x (h x (by simp))
  obtain ⟨l, rfl⟩ := zBy f hf (xs := xs) (fun y hy => h y (by simp [hy]))
  exact ⟨a :: l, rfl⟩
theorem zSF {α : Sort _} {x y : α} {b c : Prop} {s : Decidable b} [Decidable c] (h₁ : b = c) : ite b x y = ite c x y := by subst h₁; congr
attribute [congr] zSF
attribute [push_cast] beq_self_eq_true bne_self_eq_false
@[irreducible] def zLr (p : Prop) : Prop := p
def ToS (t : St) (e : Exit) (s : St) : Prop := e = .normal ∧ leF s.fr t.fr ∧ ∃ k, s.σ = t.σ ++ List.replicate k .free
theorem zFm {t s : St} (h1 : leF s.fr t.fr) (h2 : ∃ k, s.σ = t.σ ++ List.replicate k .free) : ToS t .normal s := ⟨rfl, h1, h2⟩
section
variable {P : Program} {ro : Option Nat} {st : St} {K : Exit → St → Prop} {ops : Array Oper} {dr : Bool} {c c2 : Code}
theorem zSJ (id : Nat) (h : zLr (AWP P ro (.seq (.seq (.region id ops dr) c) c2) st K)) : AWP P ro (.seq (.seq (.region id ops dr) c) c2) st K := by unfold zLr at h; exact h
theorem zLZ (id : Nat) (h : zLr (AWP P ro (.seq (.region id ops dr) c2) st K)) : AWP P ro (.seq (.region id ops dr) c2) st K := by unfold zLr at h; exact h
theorem zKF {c : Code} (t : St) (h1 : leF st.fr t.fr) (h2 : ∃ k, st.σ = t.σ ++ List.replicate k .free) (h : AWP P ro c t K) : AWP P ro c st K := fun B a w hr Q hQ => by
 obtain ⟨k, hk⟩ := h2
 refine h B a w ?_ Q hQ
 have := hr.le (t := ⟨t.fr, t.σ ++ List.replicate k .free⟩) h1 (by rw [hk]; exact zBK _)
 exact this.unroom
theorem zKG (t : St) (h1 : AWP P ro c st (ToS t)) (h2 : AWP P ro c2 t K) : zLr (AWP P ro (.seq c c2) st K) := by
 unfold zLr
 refine zA (h1.mono fun e s hs => ?_)
 obtain ⟨rfl, h3, h4⟩ := hs
 exact zKF t h3 h4 h2
end
theorem zEb {P : Program} {fn : Func} {n : Nat} {res : D} {out : List Slot} {st : St} (ks : List Nat) (h : match zHK P fn st with | some (c, d) => c ∧ pick ks st.σ = out ∧ leD (ren (mOf ks) d) res | none => False) (hn : ks.Nodup) (hk : ∀ k, k < n → ks[k]? = some k) : zIv P fn n res out .ret st := by
 split at h
 ·rename_i c d hd
  exact ⟨.inr rfl, ks, c, d, hd, h.1, hn, hk, h.2.1, h.2.2⟩
 ·exact h.elim
theorem Lq {p : Prop} (h : p := by (repeat' first | exact zCL | refine zQg ?_ | refine zOM ?_ ?_ | exact zPg | exact zJp _ | refine zLy ?_ | refine zCy ?_ ?_ | exact zN _ | exact zKY | exact zNh | exact .inl zIq | exact zPW (by assumption) | exact zMq (by assumption) | refine zRe ?_ | refine zOA ?_ ?_ | exact zPy | exact zGM _ | exact zIq | exact zLC); first | done | fail) : p := h
theorem Sq {p : Prop} (h : p := by first | trivial | omega | assumption | (simp; done) | (simp; omega)) : p := h
theorem Hq {p : Prop} (h : p := by first | assumption | omega | trivial | (simp; done) | (simp; omega)) : p := h
theorem Fq {p : Prop} (h : p := by first | exact ⟨0, (List.append_nil _).symm⟩ | exact ⟨1, rfl⟩ | exact ⟨2, rfl⟩ | exact ⟨3, rfl⟩ | exact ⟨4, rfl⟩ | exact ⟨5, rfl⟩ | exact ⟨6, rfl⟩ | exact ⟨7, rfl⟩ | exact ⟨8, rfl⟩) : p := h

section
variable {m : Nat → Option Nat}
theorem zKy {f : D → D} (h1 : f .any = .any) (h2 : ∀ x, f (.v x) = .v x) (h3 : ∀ b sz xs, f (.sl b sz xs) = .sl b sz xs) {a b : D} (h : leD0 a b) : leD0 (f a) (f b) := by
 rcases h with rfl | rfl | ⟨rfl, b, sz, rfl⟩
 ·rw [h1]; exact .inl rfl
 ·exact zGM _
 ·rw [h2, h3]; exact .inr (.inr ⟨rfl, b, sz, rfl⟩)
theorem zLc {f : D → D} (h : ∀ a b, leD0 a b → leD0 (f a) (f b)) : ∀ {l k : List D}, zJD l k → zJD (l.map f) (k.map f)
 | [], [], _ => trivial
 | _ :: _, _ :: _, hl => ⟨h _ _ hl.1, zLc h hl.2⟩
theorem zLQ {f g : D → D} (h1 : f .any = .any) (h2 : ∀ x, f (.v x) = .v x) (h3 : ∀ b sz xs, f (.sl b sz xs) = .sl b sz xs) (ha : ∀ ds, f (.agg ds) = .agg (ds.map g)) (hg : ∀ a b, leD0 a b → leD0 (g a) (g b)) {a b : D} (h : leD1 a b) : leD1 (f a) (f b) := by
 rcases h with h | ⟨ds, es, rfl, rfl, h⟩
 ·exact .inl (zKy h1 h2 h3 h)
 ·rw [ha, ha]; exact .inr ⟨_, _, rfl, rfl, zLc hg h⟩
theorem zLI {f : D → D} (h : ∀ a b, leD1 a b → leD1 (f a) (f b)) : ∀ {l k : List D}, zKS l k → zKS (l.map f) (k.map f)
 | [], [], _ => trivial
 | _ :: _, _ :: _, hl => ⟨h _ _ hl.1, zLI h hl.2⟩
theorem zRd {a b : D} (h : leD a b) : leD (ren m a) (ren m b) := by
 have h0 : ∀ a b, leD0 a b → leD0 (ren1 m a) (ren1 m b) := fun a b h => zKy rfl (fun _ => rfl) (fun _ _ _ => rfl) h
 have h1 : ∀ a b, leD1 a b → leD1 (ren2 m a) (ren2 m b) := fun a b h => zLQ rfl (fun _ => rfl) (fun _ _ _ => rfl) (fun _ => rfl) h0 h
 rcases h with h | ⟨ds, es, rfl, rfl, h⟩
 ·exact .inl (zLQ (f := ren m) rfl (fun _ => rfl) (fun _ _ _ => rfl) (fun _ => rfl) h0 h)
 ·exact .inr ⟨_, _, rfl, rfl, zLI h1 h⟩
theorem zHW : ∀ {l k : List D}, leF l k → leF (l.map (ren m)) (k.map (ren m))
 | [], [], _ => trivial
 | _ :: _, _ :: _, hl => ⟨zRd hl.1, zHW hl.2⟩
end
theorem zJt {n : Nat} {s t : St} (hl : t.σ.length = n) (hc : zCc t.σ) (hf : t.fr.map (ren (mOf (List.range n))) = t.fr) (h1 : leF s.fr t.fr) (h2 : ∃ ext, s.σ = t.σ ++ ext) : zQN n s t := by
 refine ⟨List.range n, List.nodup_range, fun k hk => by simp [hk], ?_, ?_⟩
 ·rw [← hf]; exact zHW h1
 ·obtain ⟨ext, h2⟩ := h2
  rw [h2, ← hl, pick_range_append, hc]
  exact zBK _
theorem zr {σ : List Slot} (h : σ.map (zT (mOf (List.range σ.length))) = σ) : zCc σ := by
 unfold zCc pick
 refine List.ext_getElem? fun k => ?_
 rw [List.getElem?_map]
 by_cases hk : k < σ.length
 ·rw [List.getElem?_range hk]
  simp only [Option.map_some]
  have h1 : (σ.map (zT (mOf (List.range σ.length))))[k]? = σ[k]? := by rw [h]
  rw [List.getElem?_map, List.getElem?_eq_getElem hk] at h1
  rw [zBD, List.getElem?_eq_getElem hk]
  simpa using h1
 ·rw [List.getElem?_eq_none (by simp; omega), List.getElem?_eq_none (by omega)]
  rfl
theorem zi {P : Program} {ro : Option Nat} {st : St} {K : Exit → St → Prop} {γ : Type} {c : Code} (n : Nat) (inv : γ → St) (m : γ → Nat) (g0 : γ) (hl : ∀ g, (inv g).σ.length = n) (hc : ∀ g, zCc (inv g).σ) (hf : ∀ g, (inv g).fr.map (ren (mOf (List.range n))) = (inv g).fr)
  (h0 : leF st.fr (inv g0).fr ∧ ∃ k, st.σ = (inv g0).σ ++ List.replicate k .free)
  (round : ∀ g, AWP P ro c (inv g) (zGo (fun s' => ∃ g', m g' < m g ∧ leF s'.fr (inv g').fr ∧ ∃ ext, s'.σ = (inv g').σ ++ ext) K)) : AWP P ro (.loop c) st K := by
 refine zKF (inv g0) h0.1 h0.2 ?_
 refine zJk inv m g0 (zJt (by rw [hl]) (hc g0) (by rw [hl]; exact hf g0) (zCq _) ⟨[], (List.append_nil _).symm⟩) fun g => (round g).mono fun e s h => ?_
 cases e with
 | normal =>
  obtain ⟨g', h1, h2, h3⟩ := h
  exact ⟨g', h1, by rw [hl]; exact zJt (hl g') (hc g') (hf g') h2 h3⟩
 | exit id => exact h
 | goto l => exact h
 | ret => exact h
 | panic c => exact h
 | outgrown => exact h
theorem zPV {m : Nat → Option Nat} {a b : Slot} (h : zIx a b) : zIx (zT m a) (zT m b) := by
 rcases h with rfl | rfl | ⟨e, cs, rfl, rfl, h⟩
 ·exact .inl rfl
 ·exact .inr (.inl rfl)
 ·exact .inr (.inr ⟨{ e with cells := e.cells.map (ren m) }, cs.map (ren m), rfl, rfl, zHW h⟩)
theorem zNV {m : Nat → Option Nat} : ∀ {a b : List Slot}, leS a b → leS (a.map (zT m)) (b.map (zT m))
 | [], [], _ => trivial
 | _ :: _, _ :: _, h => ⟨zPV h.1, zNV h.2⟩
theorem zIc {σ : List Slot} : pick (List.range σ.length) σ = σ.map (zT (mOf (List.range σ.length))) := by
 unfold pick
 refine List.ext_getElem? fun k => ?_
 rw [List.getElem?_map, List.getElem?_map]
 by_cases hk : k < σ.length
 ·rw [List.getElem?_range hk, List.getElem?_eq_getElem hk]
  simp only [Option.map_some]
  rw [zBD, List.getElem?_eq_getElem hk]; rfl
 ·rw [List.getElem?_eq_none (by simp; omega), List.getElem?_eq_none (by omega)]
  rfl
theorem zIA {n : Nat} {s t : St} (hl : n ≤ t.σ.length) (hc : zCc t.σ) (hf : t.fr.map (ren (mOf (List.range t.σ.length))) = t.fr) (h1 : leF s.fr t.fr) (h2 : ∃ a b, s.σ = a ++ b ∧ leS a t.σ) : zQN n s t := by
 refine ⟨List.range t.σ.length, List.nodup_range, fun k hk => by rw [List.getElem?_range (by omega)], ?_, ?_⟩
 ·rw [← hf]; exact zHW h1
 ·obtain ⟨a, b, h2, h3⟩ := h2
  have hla : a.length = t.σ.length := (zHP h3).1
  rw [h2, ← hla, pick_range_append, zIc, hla]
  have hc' := hc
  unfold zCc at hc'
  rw [zIc] at hc'
  have := zNV (m := mOf (List.range t.σ.length)) h3
  rw [hc'] at this
  exact this
theorem zCR {P : Program} {ro : Option Nat} {st : St} {K : Exit → St → Prop} {γ : Type} {c : Code} (n : Nat) (inv : γ → St) (m : γ → Nat) (g0 : γ) (hn : (inv g0).σ.length = n) (hl : ∀ g, n ≤ (inv g).σ.length) (hc : ∀ g, zCc (inv g).σ) (hf : ∀ g, (inv g).fr.map (ren (mOf (List.range (inv g).σ.length))) = (inv g).fr)
  (h0 : leF st.fr (inv g0).fr ∧ ∃ k, st.σ = (inv g0).σ ++ List.replicate k .free)
  (round : ∀ g, AWP P ro c (inv g) (zGo (fun s' => ∃ g', m g' < m g ∧ leF s'.fr (inv g').fr ∧ ∃ a b, s'.σ = a ++ b ∧ leS a (inv g').σ) K)) : AWP P ro (.loop c) st K := by
 refine zKF (inv g0) h0.1 h0.2 ?_
 refine zJk inv m g0 (zIA (Nat.le_refl _) (hc g0) (hf g0) (zCq _) ⟨_, [], (List.append_nil _).symm, zBK _⟩) fun g => (round g).mono fun e s h => ?_
 cases e with
 | normal =>
  obtain ⟨g', h1, h2, h3⟩ := h
  exact ⟨g', h1, zIA (by rw [hn]; exact hl g') (hc g') (hf g') h2 h3⟩
 | exit id => exact h
 | goto l => exact h
 | ret => exact h
 | panic c => exact h
 | outgrown => exact h
end Go.Proofs.YtabliglgeiajlaaGreat.AM
