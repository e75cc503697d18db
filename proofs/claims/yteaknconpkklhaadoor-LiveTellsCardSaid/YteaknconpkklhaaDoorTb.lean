/- Facts on the translation's types, fields and functions. No conditions. -/
import Derived.Test.YteaknconpkklhaaDoorTy
import Derived.Test.YteaknconpkklhaaDoorProg
set_option linter.unusedVariables false
set_option linter.unusedSimpArgs false
namespace Go.Proofs.YteaknconpkklhaaDoor
open Go Go.Proofs
theorem i1 : inf Tryd.prog 1 (.nilFunc) 1 8 := by unfold inf; kernel_rfl
theorem m1 : (Tryd.prog.info? 1).map (·.size) = some 1 := by kernel_rfl
theorem s1 : scB Tryd.prog 1 = true := by kernel_rfl
theorem i2 : inf Tryd.prog 2 (.int .i64 0) 1 8 := by unfold inf; kernel_rfl
theorem m2 : (Tryd.prog.info? 2).map (·.size) = some 1 := by kernel_rfl
theorem u2 : Tryd.prog.underlying 2 = some (.int .i64) := Tryd.underlying2
theorem s2 : scB Tryd.prog 2 = true := by kernel_rfl
theorem i3 : inf Tryd.prog 3 (.int .i64 0) 1 8 := by unfold inf; kernel_rfl
theorem m3 : (Tryd.prog.info? 3).map (·.size) = some 1 := by kernel_rfl
theorem s3 : scB Tryd.prog 3 = true := by kernel_rfl
theorem i4 : inf Tryd.prog 4 (.bool false) 1 1 := by unfold inf; kernel_rfl
theorem m4 : (Tryd.prog.info? 4).map (·.size) = some 1 := by kernel_rfl
theorem s4 : scB Tryd.prog 4 = true := by kernel_rfl
theorem u22 : Tryd.prog.underlying 22 = some (.slice 41) := Tryd.underlying22
theorem s22 : scB Tryd.prog 22 = true := by kernel_rfl
theorem ag_24 : agB Tryd.prog 24 1 = true := by kernel_rfl
theorem f24_0 : faB Tryd.prog 24 0 0 = true := by kernel_rfl
theorem i25 : inf Tryd.prog 25 (.nilFunc) 1 8 := by unfold inf; kernel_rfl
theorem u27 : Tryd.prog.underlying 27 = some (.slice 42) := Tryd.underlying27
theorem ifc_29 : Tryd.prog.underlying 29 = some (.interface (Tryd.prog.methodsAt 29)) := by kernel_rfl
theorem s29 : scB Tryd.prog 29 = true := by kernel_rfl
theorem i32 : inf Tryd.prog 32 (.slice none 0 0) 1 24 := by unfold inf; kernel_rfl
theorem m32 : (Tryd.prog.info? 32).map (·.size) = some 1 := by kernel_rfl
theorem u32 : Tryd.prog.underlying 32 = some (.slice 3) := Tryd.underlying32
theorem s32 : scB Tryd.prog 32 = true := by kernel_rfl
theorem u38 : Tryd.prog.underlying 38 = some (.int .i64) := Tryd.underlying38
theorem cmp_38 : (Tryd.prog.info? 38).map (·.comparable) = some true := by kernel_rfl
theorem u39 : Tryd.prog.underlying 39 = some (.slice 60) := Tryd.underlying39
theorem s39 : scB Tryd.prog 39 = true := by kernel_rfl
theorem i41 : inf Tryd.prog 41 (.agg #[.int .i64 0, .int .i64 0, .slice none 0 0, .slice none 0 0]) 4 64 := by unfold inf; kernel_rfl
theorem m41 : (Tryd.prog.info? 41).map (·.size) = some 4 := by kernel_rfl
theorem ag_41 : agB Tryd.prog 41 4 = true := by kernel_rfl
theorem f41_0 : faB Tryd.prog 41 0 0 = true := by kernel_rfl
theorem f41_1 : faB Tryd.prog 41 1 1 = true := by kernel_rfl
theorem f41_2 : faB Tryd.prog 41 2 2 = true := by kernel_rfl
theorem f41_3 : faB Tryd.prog 41 3 3 = true := by kernel_rfl
theorem i42 : inf Tryd.prog 42 (.slice none 0 0) 1 24 := by unfold inf; kernel_rfl
theorem m42 : (Tryd.prog.info? 42).map (·.size) = some 1 := by kernel_rfl
theorem u42 : Tryd.prog.underlying 42 = some (.slice 4) := Tryd.underlying42
theorem s42 : scB Tryd.prog 42 = true := by kernel_rfl
theorem ag_56 : agB Tryd.prog 56 3 = true := by kernel_rfl
theorem f56_0 : faB Tryd.prog 56 0 0 = true := by kernel_rfl
theorem f56_1 : faB Tryd.prog 56 1 1 = true := by kernel_rfl
theorem f56_2 : faB Tryd.prog 56 2 2 = true := by kernel_rfl
theorem u57 : Tryd.prog.underlying 57 = some (.slice 64) := Tryd.underlying57
theorem s57 : scB Tryd.prog 57 = true := by kernel_rfl
theorem u58 : Tryd.prog.underlying 58 = some (.slice 62) := Tryd.underlying58
theorem s58 : scB Tryd.prog 58 = true := by kernel_rfl
theorem i60 : inf Tryd.prog 60 (.agg #[.slice none 0 0, .slice none 0 0, .int .i64 0, .int .i64 0, .slice none 0 0]) 5 88 := by unfold inf; kernel_rfl
theorem m60 : (Tryd.prog.info? 60).map (·.size) = some 5 := by kernel_rfl
theorem ag_60 : agB Tryd.prog 60 5 = true := by kernel_rfl
theorem f60_0 : faB Tryd.prog 60 0 0 = true := by kernel_rfl
theorem f60_1 : faB Tryd.prog 60 1 1 = true := by kernel_rfl
theorem f60_2 : faB Tryd.prog 60 2 2 = true := by kernel_rfl
theorem i62 : inf Tryd.prog 62 (.agg #[.int .i64 0, .int .i64 0, .slice none 0 0, .int .i64 0, .int .i64 0]) 5 56 := by unfold inf; kernel_rfl
theorem m62 : (Tryd.prog.info? 62).map (·.size) = some 5 := by kernel_rfl
theorem ag_62 : agB Tryd.prog 62 5 = true := by kernel_rfl
theorem f62_0 : faB Tryd.prog 62 0 0 = true := by kernel_rfl
theorem f62_1 : faB Tryd.prog 62 1 1 = true := by kernel_rfl
theorem f62_2 : faB Tryd.prog 62 2 2 = true := by kernel_rfl
theorem f62_3 : faB Tryd.prog 62 3 3 = true := by kernel_rfl
theorem f62_4 : faB Tryd.prog 62 4 4 = true := by kernel_rfl
theorem i64 : inf Tryd.prog 64 (.agg #[.int .i64 0, .slice none 0 0]) 2 32 := by unfold inf; kernel_rfl
theorem m64 : (Tryd.prog.info? 64).map (·.size) = some 2 := by kernel_rfl
theorem ag_64 : agB Tryd.prog 64 2 = true := by kernel_rfl
theorem f64_0 : faB Tryd.prog 64 0 0 = true := by kernel_rfl
theorem f64_1 : faB Tryd.prog 64 1 1 = true := by kernel_rfl
theorem u65 : Tryd.prog.underlying 65 = some (.slice 32) := Tryd.underlying65
theorem i69 : inf Tryd.prog 69 (.pointer none) 1 8 := by unfold inf; kernel_rfl
theorem u69 : Tryd.prog.underlying 69 = some (.pointer 74) := Tryd.underlying69
theorem s69 : scB Tryd.prog 69 = true := by kernel_rfl
theorem u71 : Tryd.prog.underlying 71 = some (.pointer 69) := Tryd.underlying71
theorem f74_0 : faB Tryd.prog 74 0 0 = true := by kernel_rfl
theorem f74_1 : faB Tryd.prog 74 1 1 = true := by kernel_rfl
theorem s135 : scB Tryd.prog 135 = true := by kernel_rfl
theorem f137_0 : faB Tryd.prog 137 0 0 = true := by kernel_rfl
theorem f137_1 : faB Tryd.prog 137 1 1 = true := by kernel_rfl
theorem c3 : callB Tryd.prog 3 = true := by kernel_rfl
theorem c4 : callB Tryd.prog 4 = true := by kernel_rfl
theorem c6 : callB Tryd.prog 6 = true := by kernel_rfl
theorem c7 : callB Tryd.prog 7 = true := by kernel_rfl
theorem c8 : callB Tryd.prog 8 = true := by kernel_rfl
theorem c9 : callB Tryd.prog 9 = true := by kernel_rfl
theorem c10 : callB Tryd.prog 10 = true := by kernel_rfl
theorem c11 : callB Tryd.prog 11 = true := by kernel_rfl
theorem c12 : callB Tryd.prog 12 = true := by kernel_rfl
theorem c13 : callB Tryd.prog 13 = true := by kernel_rfl
theorem c20 : callB Tryd.prog 20 = true := by kernel_rfl
theorem c21 : callB Tryd.prog 21 = true := by kernel_rfl
theorem c22 : callB Tryd.prog 22 = true := by kernel_rfl
theorem c23 : callB Tryd.prog 23 = true := by kernel_rfl
theorem c24 : callB Tryd.prog 24 = true := by kernel_rfl
theorem c26 : callB Tryd.prog 26 = true := by kernel_rfl
theorem c27 : callB Tryd.prog 27 = true := by kernel_rfl
theorem c28 : callB Tryd.prog 28 = true := by kernel_rfl
theorem c29 : callB Tryd.prog 29 = true := by kernel_rfl
theorem c30 : callB Tryd.prog 30 = true := by kernel_rfl
theorem c31 : callB Tryd.prog 31 = true := by kernel_rfl
theorem c32 : callB Tryd.prog 32 = true := by kernel_rfl
theorem c33 : callB Tryd.prog 33 = true := by kernel_rfl
theorem c44 : callB Tryd.prog 44 = true := by kernel_rfl
theorem c49 : callB Tryd.prog 49 = true := by kernel_rfl
theorem c50 : callB Tryd.prog 50 = true := by kernel_rfl
theorem c51 : callB Tryd.prog 51 = true := by kernel_rfl
theorem c52 : callB Tryd.prog 52 = true := by kernel_rfl
theorem c53 : callB Tryd.prog 53 = true := by kernel_rfl
theorem c54 : callB Tryd.prog 54 = true := by kernel_rfl
theorem c55 : callB Tryd.prog 55 = true := by kernel_rfl
theorem c56 : callB Tryd.prog 56 = true := by kernel_rfl
theorem c64 : callB Tryd.prog 64 = true := by kernel_rfl
theorem c68 : callB Tryd.prog 68 = true := by kernel_rfl
theorem c69 : callB Tryd.prog 69 = true := by kernel_rfl
theorem c70 : callB Tryd.prog 70 = true := by kernel_rfl
theorem c71 : callB Tryd.prog 71 = true := by kernel_rfl
theorem c72 : callB Tryd.prog 72 = true := by kernel_rfl
theorem c73 : callB Tryd.prog 73 = true := by kernel_rfl
theorem c79 : callB Tryd.prog 79 = true := by kernel_rfl
theorem c80 : callB Tryd.prog 80 = true := by kernel_rfl
theorem c81 : callB Tryd.prog 81 = true := by kernel_rfl
theorem c82 : callB Tryd.prog 82 = true := by kernel_rfl
theorem c83 : callB Tryd.prog 83 = true := by kernel_rfl
theorem c84 : callB Tryd.prog 84 = true := by kernel_rfl
theorem c85 : callB Tryd.prog 85 = true := by kernel_rfl
theorem c86 : callB Tryd.prog 86 = true := by kernel_rfl
theorem c87 : callB Tryd.prog 87 = true := by kernel_rfl
theorem c88 : callB Tryd.prog 88 = true := by kernel_rfl
theorem c89 : callB Tryd.prog 89 = true := by kernel_rfl
theorem c90 : callB Tryd.prog 90 = true := by kernel_rfl
theorem c91 : callB Tryd.prog 91 = true := by kernel_rfl
theorem c92 : callB Tryd.prog 92 = true := by kernel_rfl
theorem c93 : callB Tryd.prog 93 = true := by kernel_rfl
theorem mix : Tryd.prog.follows .mixedOrders = true := by kernel_rfl
end Go.Proofs.YteaknconpkklhaaDoor
