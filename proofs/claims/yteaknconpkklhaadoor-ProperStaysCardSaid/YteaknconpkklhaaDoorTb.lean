/- Facts on the translation's types, fields and functions. No conditions. -/
import Derived.Test.YteaknconpkklhaaDoorTy
import Derived.Test.YteaknconpkklhaaDoorProg
set_option linter.unusedVariables false
set_option linter.unusedSimpArgs false
namespace Go.Proofs.YteaknconpkklhaaDoor
open Go Go.Proofs
theorem i1 : inf Tryd.prog 1 (.nilFunc) 1 8 := by unfold inf; kernel_rfl
theorem m1 : (Tryd.prog.info? 1).map (·.size) = some 1 := by kernel_rfl
theorem s1 : scB Tryd.prog 1 = true := by kernel_rfl
theorem i2 : inf Tryd.prog 2 (.int .i64 0) 1 8 := by unfold inf; kernel_rfl
theorem m2 : (Tryd.prog.info? 2).map (·.size) = some 1 := by kernel_rfl
theorem u2 : Tryd.prog.underlying 2 = some (.int .i64) := Tryd.underlying2
theorem s2 : scB Tryd.prog 2 = true := by kernel_rfl
theorem i3 : inf Tryd.prog 3 (.int .i64 0) 1 8 := by unfold inf; kernel_rfl
theorem m3 : (Tryd.prog.info? 3).map (·.size) = some 1 := by kernel_rfl
theorem u3 : Tryd.prog.underlying 3 = some (.int .i64) := Tryd.underlying3
theorem s3 : scB Tryd.prog 3 = true := by kernel_rfl
theorem i4 : inf Tryd.prog 4 (.bool false) 1 1 := by unfold inf; kernel_rfl
theorem m4 : (Tryd.prog.info? 4).map (·.size) = some 1 := by kernel_rfl
theorem s4 : scB Tryd.prog 4 = true := by kernel_rfl
theorem i5 : inf Tryd.prog 5 (.int .u8 0) 1 1 := by unfold inf; kernel_rfl
theorem m5 : (Tryd.prog.info? 5).map (·.size) = some 1 := by kernel_rfl
theorem u5 : Tryd.prog.underlying 5 = some (.int .u8) := Tryd.underlying5
theorem s5 : scB Tryd.prog 5 = true := by kernel_rfl
theorem i6 : inf Tryd.prog 6 (.int .u8 0) 1 1 := by unfold inf; kernel_rfl
theorem m6 : (Tryd.prog.info? 6).map (·.size) = some 1 := by kernel_rfl
theorem u6 : Tryd.prog.underlying 6 = some (.int .u8) := Tryd.underlying6
theorem s6 : scB Tryd.prog 6 = true := by kernel_rfl
theorem i7 : inf Tryd.prog 7 (.agg #[.int .i64 0, .int .i64 0, .bool false, .int .u8 0]) 4 24 := by unfold inf; kernel_rfl
theorem m7 : (Tryd.prog.info? 7).map (·.size) = some 4 := by kernel_rfl
theorem ag_7 : agB Tryd.prog 7 4 = true := by kernel_rfl
theorem f7_0 : faB Tryd.prog 7 0 0 = true := by kernel_rfl
theorem f7_1 : faB Tryd.prog 7 1 1 = true := by kernel_rfl
theorem f7_2 : faB Tryd.prog 7 2 2 = true := by kernel_rfl
theorem f7_3 : faB Tryd.prog 7 3 3 = true := by kernel_rfl
theorem i8 : inf Tryd.prog 8 (.agg #[.int .i64 0, .int .i64 0, .bool false, .int .u8 0]) 4 24 := by unfold inf; kernel_rfl
theorem m8 : (Tryd.prog.info? 8).map (·.size) = some 4 := by kernel_rfl
theorem ag_8 : agB Tryd.prog 8 4 = true := by kernel_rfl
theorem f8_0 : faB Tryd.prog 8 0 0 = true := by kernel_rfl
theorem f8_1 : faB Tryd.prog 8 1 1 = true := by kernel_rfl
theorem f8_2 : faB Tryd.prog 8 2 2 = true := by kernel_rfl
theorem f8_3 : faB Tryd.prog 8 3 3 = true := by kernel_rfl
theorem i12 : inf Tryd.prog 12 (.int .u64 0) 1 8 := by unfold inf; kernel_rfl
theorem m12 : (Tryd.prog.info? 12).map (·.size) = some 1 := by kernel_rfl
theorem u12 : Tryd.prog.underlying 12 = some (.int .u64) := Tryd.underlying12
theorem s12 : scB Tryd.prog 12 = true := by kernel_rfl
theorem i13 : inf Tryd.prog 13 (.agg #[.string ⟨#[]⟩, .int .u64 0]) 2 24 := by unfold inf; kernel_rfl
theorem m13 : (Tryd.prog.info? 13).map (·.size) = some 2 := by kernel_rfl
theorem ag_13 : agB Tryd.prog 13 2 = true := by kernel_rfl
theorem f13_0 : faB Tryd.prog 13 0 0 = true := by kernel_rfl
theorem f13_1 : faB Tryd.prog 13 1 1 = true := by kernel_rfl
theorem i14 : inf Tryd.prog 14 (.agg #[.string ⟨#[]⟩, .int .u64 0]) 2 24 := by unfold inf; kernel_rfl
theorem m14 : (Tryd.prog.info? 14).map (·.size) = some 2 := by kernel_rfl
theorem ag_14 : agB Tryd.prog 14 2 = true := by kernel_rfl
theorem f14_0 : faB Tryd.prog 14 0 0 = true := by kernel_rfl
theorem f14_1 : faB Tryd.prog 14 1 1 = true := by kernel_rfl
theorem i15 : inf Tryd.prog 15 (.pointer none) 1 8 := by unfold inf; kernel_rfl
theorem m15 : (Tryd.prog.info? 15).map (·.size) = some 1 := by kernel_rfl
theorem u15 : Tryd.prog.underlying 15 = some (.pointer 159) := Tryd.underlying15
theorem s15 : scB Tryd.prog 15 = true := by kernel_rfl
theorem i16 : inf Tryd.prog 16 (.pointer none) 1 8 := by unfold inf; kernel_rfl
theorem m16 : (Tryd.prog.info? 16).map (·.size) = some 1 := by kernel_rfl
theorem u16 : Tryd.prog.underlying 16 = some (.pointer 162) := Tryd.underlying16
theorem s16 : scB Tryd.prog 16 = true := by kernel_rfl
theorem i17 : inf Tryd.prog 17 (.pointer none) 1 8 := by unfold inf; kernel_rfl
theorem m17 : (Tryd.prog.info? 17).map (·.size) = some 1 := by kernel_rfl
theorem u17 : Tryd.prog.underlying 17 = some (.pointer 172) := Tryd.underlying17
theorem s17 : scB Tryd.prog 17 = true := by kernel_rfl
theorem i18 : inf Tryd.prog 18 (.agg #[.pointer none]) 1 8 := by unfold inf; kernel_rfl
theorem m18 : (Tryd.prog.info? 18).map (·.size) = some 1 := by kernel_rfl
theorem ag_18 : agB Tryd.prog 18 1 = true := by kernel_rfl
theorem f18_0 : faB Tryd.prog 18 0 0 = true := by kernel_rfl
theorem i19 : inf Tryd.prog 19 (.agg #[.pointer none]) 1 8 := by unfold inf; kernel_rfl
theorem m19 : (Tryd.prog.info? 19).map (·.size) = some 1 := by kernel_rfl
theorem ag_19 : agB Tryd.prog 19 1 = true := by kernel_rfl
theorem f19_0 : faB Tryd.prog 19 0 0 = true := by kernel_rfl
theorem i20 : inf Tryd.prog 20 (.nilIface) 1 16 := by unfold inf; kernel_rfl
theorem m20 : (Tryd.prog.info? 20).map (·.size) = some 1 := by kernel_rfl
theorem s20 : scB Tryd.prog 20 = true := by kernel_rfl
theorem i21 : inf Tryd.prog 21 (.int .i32 0) 1 4 := by unfold inf; kernel_rfl
theorem m21 : (Tryd.prog.info? 21).map (·.size) = some 1 := by kernel_rfl
theorem u21 : Tryd.prog.underlying 21 = some (.int .i32) := Tryd.underlying21
theorem s21 : scB Tryd.prog 21 = true := by kernel_rfl
theorem i22 : inf Tryd.prog 22 (.slice none 0 0) 1 24 := by unfold inf; kernel_rfl
theorem m22 : (Tryd.prog.info? 22).map (·.size) = some 1 := by kernel_rfl
theorem u22 : Tryd.prog.underlying 22 = some (.slice 41) := Tryd.underlying22
theorem s22 : scB Tryd.prog 22 = true := by kernel_rfl
theorem i23 : inf Tryd.prog 23 (.agg #[.slice none 0 0]) 1 24 := by unfold inf; kernel_rfl
theorem m23 : (Tryd.prog.info? 23).map (·.size) = some 1 := by kernel_rfl
theorem ag_23 : agB Tryd.prog 23 1 = true := by kernel_rfl
theorem f23_0 : faB Tryd.prog 23 0 0 = true := by kernel_rfl
theorem i24 : inf Tryd.prog 24 (.agg #[.slice none 0 0]) 1 24 := by unfold inf; kernel_rfl
theorem m24 : (Tryd.prog.info? 24).map (·.size) = some 1 := by kernel_rfl
theorem ag_24 : agB Tryd.prog 24 1 = true := by kernel_rfl
theorem f24_0 : faB Tryd.prog 24 0 0 = true := by kernel_rfl
theorem i25 : inf Tryd.prog 25 (.nilFunc) 1 8 := by unfold inf; kernel_rfl
theorem m25 : (Tryd.prog.info? 25).map (·.size) = some 1 := by kernel_rfl
theorem s25 : scB Tryd.prog 25 = true := by kernel_rfl
theorem i26 : inf Tryd.prog 26 (.nilFunc) 1 8 := by unfold inf; kernel_rfl
theorem m26 : (Tryd.prog.info? 26).map (·.size) = some 1 := by kernel_rfl
theorem s26 : scB Tryd.prog 26 = true := by kernel_rfl
theorem i27 : inf Tryd.prog 27 (.slice none 0 0) 1 24 := by unfold inf; kernel_rfl
theorem m27 : (Tryd.prog.info? 27).map (·.size) = some 1 := by kernel_rfl
theorem u27 : Tryd.prog.underlying 27 = some (.slice 42) := Tryd.underlying27
theorem s27 : scB Tryd.prog 27 = true := by kernel_rfl
theorem i28 : inf Tryd.prog 28 (.nilIface) 1 16 := by unfold inf; kernel_rfl
theorem m28 : (Tryd.prog.info? 28).map (·.size) = some 1 := by kernel_rfl
theorem s28 : scB Tryd.prog 28 = true := by kernel_rfl
theorem i29 : inf Tryd.prog 29 (.nilIface) 1 16 := by unfold inf; kernel_rfl
theorem m29 : (Tryd.prog.info? 29).map (·.size) = some 1 := by kernel_rfl
theorem ifc_29 : Tryd.prog.underlying 29 = some (.interface (Tryd.prog.methodsAt 29)) := by kernel_rfl
theorem s29 : scB Tryd.prog 29 = true := by kernel_rfl
theorem i31 : inf Tryd.prog 31 (.nilFunc) 1 8 := by unfold inf; kernel_rfl
theorem m31 : (Tryd.prog.info? 31).map (·.size) = some 1 := by kernel_rfl
theorem s31 : scB Tryd.prog 31 = true := by kernel_rfl
theorem i32 : inf Tryd.prog 32 (.slice none 0 0) 1 24 := by unfold inf; kernel_rfl
theorem m32 : (Tryd.prog.info? 32).map (·.size) = some 1 := by kernel_rfl
theorem u32 : Tryd.prog.underlying 32 = some (.slice 3) := Tryd.underlying32
theorem s32 : scB Tryd.prog 32 = true := by kernel_rfl
theorem i34 : inf Tryd.prog 34 (.nilFunc) 1 8 := by unfold inf; kernel_rfl
theorem m34 : (Tryd.prog.info? 34).map (·.size) = some 1 := by kernel_rfl
theorem s34 : scB Tryd.prog 34 = true := by kernel_rfl
theorem i36 : inf Tryd.prog 36 (.nilFunc) 1 8 := by unfold inf; kernel_rfl
theorem m36 : (Tryd.prog.info? 36).map (·.size) = some 1 := by kernel_rfl
theorem s36 : scB Tryd.prog 36 = true := by kernel_rfl
theorem i37 : inf Tryd.prog 37 (.nilFunc) 1 8 := by unfold inf; kernel_rfl
theorem m37 : (Tryd.prog.info? 37).map (·.size) = some 1 := by kernel_rfl
theorem s37 : scB Tryd.prog 37 = true := by kernel_rfl
theorem i38 : inf Tryd.prog 38 (.int .i64 0) 1 8 := by unfold inf; kernel_rfl
theorem m38 : (Tryd.prog.info? 38).map (·.size) = some 1 := by kernel_rfl
theorem u38 : Tryd.prog.underlying 38 = some (.int .i64) := Tryd.underlying38
theorem cmp_38 : (Tryd.prog.info? 38).map (·.comparable) = some true := by kernel_rfl
theorem s38 : scB Tryd.prog 38 = true := by kernel_rfl
theorem i39 : inf Tryd.prog 39 (.slice none 0 0) 1 24 := by unfold inf; kernel_rfl
theorem m39 : (Tryd.prog.info? 39).map (·.size) = some 1 := by kernel_rfl
theorem u39 : Tryd.prog.underlying 39 = some (.slice 60) := Tryd.underlying39
theorem s39 : scB Tryd.prog 39 = true := by kernel_rfl
theorem i40 : inf Tryd.prog 40 (.agg #[.int .i64 0, .int .i64 0, .slice none 0 0, .slice none 0 0]) 4 64 := by unfold inf; kernel_rfl
theorem m40 : (Tryd.prog.info? 40).map (·.size) = some 4 := by kernel_rfl
theorem ag_40 : agB Tryd.prog 40 4 = true := by kernel_rfl
theorem f40_0 : faB Tryd.prog 40 0 0 = true := by kernel_rfl
theorem f40_1 : faB Tryd.prog 40 1 1 = true := by kernel_rfl
theorem f40_2 : faB Tryd.prog 40 2 2 = true := by kernel_rfl
theorem f40_3 : faB Tryd.prog 40 3 3 = true := by kernel_rfl
theorem i41 : inf Tryd.prog 41 (.agg #[.int .i64 0, .int .i64 0, .slice none 0 0, .slice none 0 0]) 4 64 := by unfold inf; kernel_rfl
theorem m41 : (Tryd.prog.info? 41).map (·.size) = some 4 := by kernel_rfl
theorem ag_41 : agB Tryd.prog 41 4 = true := by kernel_rfl
theorem f41_0 : faB Tryd.prog 41 0 0 = true := by kernel_rfl
theorem f41_1 : faB Tryd.prog 41 1 1 = true := by kernel_rfl
theorem f41_2 : faB Tryd.prog 41 2 2 = true := by kernel_rfl
theorem f41_3 : faB Tryd.prog 41 3 3 = true := by kernel_rfl
theorem i42 : inf Tryd.prog 42 (.slice none 0 0) 1 24 := by unfold inf; kernel_rfl
theorem m42 : (Tryd.prog.info? 42).map (·.size) = some 1 := by kernel_rfl
theorem u42 : Tryd.prog.underlying 42 = some (.slice 4) := Tryd.underlying42
theorem s42 : scB Tryd.prog 42 = true := by kernel_rfl
theorem i44 : inf Tryd.prog 44 (.nilFunc) 1 8 := by unfold inf; kernel_rfl
theorem m44 : (Tryd.prog.info? 44).map (·.size) = some 1 := by kernel_rfl
theorem s44 : scB Tryd.prog 44 = true := by kernel_rfl
theorem i45 : inf Tryd.prog 45 (.nilFunc) 1 8 := by unfold inf; kernel_rfl
theorem m45 : (Tryd.prog.info? 45).map (·.size) = some 1 := by kernel_rfl
theorem s45 : scB Tryd.prog 45 = true := by kernel_rfl
theorem i46 : inf Tryd.prog 46 (.nilFunc) 1 8 := by unfold inf; kernel_rfl
theorem m46 : (Tryd.prog.info? 46).map (·.size) = some 1 := by kernel_rfl
theorem s46 : scB Tryd.prog 46 = true := by kernel_rfl
theorem i47 : inf Tryd.prog 47 (.nilFunc) 1 8 := by unfold inf; kernel_rfl
theorem m47 : (Tryd.prog.info? 47).map (·.size) = some 1 := by kernel_rfl
theorem s47 : scB Tryd.prog 47 = true := by kernel_rfl
theorem i48 : inf Tryd.prog 48 (.nilFunc) 1 8 := by unfold inf; kernel_rfl
theorem m48 : (Tryd.prog.info? 48).map (·.size) = some 1 := by kernel_rfl
theorem s48 : scB Tryd.prog 48 = true := by kernel_rfl
theorem i49 : inf Tryd.prog 49 (.nilFunc) 1 8 := by unfold inf; kernel_rfl
theorem m49 : (Tryd.prog.info? 49).map (·.size) = some 1 := by kernel_rfl
theorem s49 : scB Tryd.prog 49 = true := by kernel_rfl
theorem i50 : inf Tryd.prog 50 (.nilFunc) 1 8 := by unfold inf; kernel_rfl
theorem m50 : (Tryd.prog.info? 50).map (·.size) = some 1 := by kernel_rfl
theorem s50 : scB Tryd.prog 50 = true := by kernel_rfl
theorem i51 : inf Tryd.prog 51 (.slice none 0 0) 1 24 := by unfold inf; kernel_rfl
theorem m51 : (Tryd.prog.info? 51).map (·.size) = some 1 := by kernel_rfl
theorem u51 : Tryd.prog.underlying 51 = some (.slice 54) := Tryd.underlying51
theorem s51 : scB Tryd.prog 51 = true := by kernel_rfl
theorem i52 : inf Tryd.prog 52 (.nilFunc) 1 8 := by unfold inf; kernel_rfl
theorem m52 : (Tryd.prog.info? 52).map (·.size) = some 1 := by kernel_rfl
theorem s52 : scB Tryd.prog 52 = true := by kernel_rfl
theorem i53 : inf Tryd.prog 53 (.agg #[.int .i64 0, .int .i64 0]) 2 16 := by unfold inf; kernel_rfl
theorem m53 : (Tryd.prog.info? 53).map (·.size) = some 2 := by kernel_rfl
theorem ag_53 : agB Tryd.prog 53 2 = true := by kernel_rfl
theorem f53_0 : faB Tryd.prog 53 0 0 = true := by kernel_rfl
theorem f53_1 : faB Tryd.prog 53 1 1 = true := by kernel_rfl
theorem i54 : inf Tryd.prog 54 (.agg #[.int .i64 0, .int .i64 0]) 2 16 := by unfold inf; kernel_rfl
theorem m54 : (Tryd.prog.info? 54).map (·.size) = some 2 := by kernel_rfl
theorem ag_54 : agB Tryd.prog 54 2 = true := by kernel_rfl
theorem f54_0 : faB Tryd.prog 54 0 0 = true := by kernel_rfl
theorem f54_1 : faB Tryd.prog 54 1 1 = true := by kernel_rfl
theorem i55 : inf Tryd.prog 55 (.agg #[.int .i64 0, .int .i64 0, .slice none 0 0]) 3 40 := by unfold inf; kernel_rfl
theorem m55 : (Tryd.prog.info? 55).map (·.size) = some 3 := by kernel_rfl
theorem ag_55 : agB Tryd.prog 55 3 = true := by kernel_rfl
theorem f55_0 : faB Tryd.prog 55 0 0 = true := by kernel_rfl
theorem f55_1 : faB Tryd.prog 55 1 1 = true := by kernel_rfl
theorem f55_2 : faB Tryd.prog 55 2 2 = true := by kernel_rfl
theorem i56 : inf Tryd.prog 56 (.agg #[.int .i64 0, .int .i64 0, .slice none 0 0]) 3 40 := by unfold inf; kernel_rfl
theorem m56 : (Tryd.prog.info? 56).map (·.size) = some 3 := by kernel_rfl
theorem ag_56 : agB Tryd.prog 56 3 = true := by kernel_rfl
theorem f56_0 : faB Tryd.prog 56 0 0 = true := by kernel_rfl
theorem f56_1 : faB Tryd.prog 56 1 1 = true := by kernel_rfl
theorem f56_2 : faB Tryd.prog 56 2 2 = true := by kernel_rfl
theorem i57 : inf Tryd.prog 57 (.slice none 0 0) 1 24 := by unfold inf; kernel_rfl
theorem m57 : (Tryd.prog.info? 57).map (·.size) = some 1 := by kernel_rfl
theorem u57 : Tryd.prog.underlying 57 = some (.slice 64) := Tryd.underlying57
theorem s57 : scB Tryd.prog 57 = true := by kernel_rfl
theorem i58 : inf Tryd.prog 58 (.slice none 0 0) 1 24 := by unfold inf; kernel_rfl
theorem m58 : (Tryd.prog.info? 58).map (·.size) = some 1 := by kernel_rfl
theorem u58 : Tryd.prog.underlying 58 = some (.slice 62) := Tryd.underlying58
theorem s58 : scB Tryd.prog 58 = true := by kernel_rfl
theorem i59 : inf Tryd.prog 59 (.agg #[.slice none 0 0, .slice none 0 0, .int .i64 0, .int .i64 0, .slice none 0 0]) 5 88 := by unfold inf; kernel_rfl
theorem m59 : (Tryd.prog.info? 59).map (·.size) = some 5 := by kernel_rfl
theorem ag_59 : agB Tryd.prog 59 5 = true := by kernel_rfl
theorem f59_0 : faB Tryd.prog 59 0 0 = true := by kernel_rfl
theorem f59_1 : faB Tryd.prog 59 1 1 = true := by kernel_rfl
theorem f59_2 : faB Tryd.prog 59 2 2 = true := by kernel_rfl
theorem i60 : inf Tryd.prog 60 (.agg #[.slice none 0 0, .slice none 0 0, .int .i64 0, .int .i64 0, .slice none 0 0]) 5 88 := by unfold inf; kernel_rfl
theorem m60 : (Tryd.prog.info? 60).map (·.size) = some 5 := by kernel_rfl
theorem ag_60 : agB Tryd.prog 60 5 = true := by kernel_rfl
theorem f60_0 : faB Tryd.prog 60 0 0 = true := by kernel_rfl
theorem f60_1 : faB Tryd.prog 60 1 1 = true := by kernel_rfl
theorem f60_2 : faB Tryd.prog 60 2 2 = true := by kernel_rfl
theorem i61 : inf Tryd.prog 61 (.agg #[.int .i64 0, .int .i64 0, .slice none 0 0, .int .i64 0, .int .i64 0]) 5 56 := by unfold inf; kernel_rfl
theorem m61 : (Tryd.prog.info? 61).map (·.size) = some 5 := by kernel_rfl
theorem ag_61 : agB Tryd.prog 61 5 = true := by kernel_rfl
theorem f61_0 : faB Tryd.prog 61 0 0 = true := by kernel_rfl
theorem f61_1 : faB Tryd.prog 61 1 1 = true := by kernel_rfl
theorem f61_2 : faB Tryd.prog 61 2 2 = true := by kernel_rfl
theorem f61_3 : faB Tryd.prog 61 3 3 = true := by kernel_rfl
theorem f61_4 : faB Tryd.prog 61 4 4 = true := by kernel_rfl
theorem i62 : inf Tryd.prog 62 (.agg #[.int .i64 0, .int .i64 0, .slice none 0 0, .int .i64 0, .int .i64 0]) 5 56 := by unfold inf; kernel_rfl
theorem m62 : (Tryd.prog.info? 62).map (·.size) = some 5 := by kernel_rfl
theorem ag_62 : agB Tryd.prog 62 5 = true := by kernel_rfl
theorem f62_0 : faB Tryd.prog 62 0 0 = true := by kernel_rfl
theorem f62_1 : faB Tryd.prog 62 1 1 = true := by kernel_rfl
theorem f62_2 : faB Tryd.prog 62 2 2 = true := by kernel_rfl
theorem f62_3 : faB Tryd.prog 62 3 3 = true := by kernel_rfl
theorem f62_4 : faB Tryd.prog 62 4 4 = true := by kernel_rfl
theorem i63 : inf Tryd.prog 63 (.agg #[.int .i64 0, .slice none 0 0]) 2 32 := by unfold inf; kernel_rfl
theorem m63 : (Tryd.prog.info? 63).map (·.size) = some 2 := by kernel_rfl
theorem ag_63 : agB Tryd.prog 63 2 = true := by kernel_rfl
theorem f63_0 : faB Tryd.prog 63 0 0 = true := by kernel_rfl
theorem f63_1 : faB Tryd.prog 63 1 1 = true := by kernel_rfl
theorem i64 : inf Tryd.prog 64 (.agg #[.int .i64 0, .slice none 0 0]) 2 32 := by unfold inf; kernel_rfl
theorem m64 : (Tryd.prog.info? 64).map (·.size) = some 2 := by kernel_rfl
theorem ag_64 : agB Tryd.prog 64 2 = true := by kernel_rfl
theorem f64_0 : faB Tryd.prog 64 0 0 = true := by kernel_rfl
theorem f64_1 : faB Tryd.prog 64 1 1 = true := by kernel_rfl
theorem i65 : inf Tryd.prog 65 (.slice none 0 0) 1 24 := by unfold inf; kernel_rfl
theorem m65 : (Tryd.prog.info? 65).map (·.size) = some 1 := by kernel_rfl
theorem u65 : Tryd.prog.underlying 65 = some (.slice 32) := Tryd.underlying65
theorem s65 : scB Tryd.prog 65 = true := by kernel_rfl
theorem i66 : inf Tryd.prog 66 (.nilFunc) 1 8 := by unfold inf; kernel_rfl
theorem m66 : (Tryd.prog.info? 66).map (·.size) = some 1 := by kernel_rfl
theorem s66 : scB Tryd.prog 66 = true := by kernel_rfl
theorem i67 : inf Tryd.prog 67 (.nilFunc) 1 8 := by unfold inf; kernel_rfl
theorem m67 : (Tryd.prog.info? 67).map (·.size) = some 1 := by kernel_rfl
theorem s67 : scB Tryd.prog 67 = true := by kernel_rfl
theorem i68 : inf Tryd.prog 68 (.nilFunc) 1 8 := by unfold inf; kernel_rfl
theorem m68 : (Tryd.prog.info? 68).map (·.size) = some 1 := by kernel_rfl
theorem s68 : scB Tryd.prog 68 = true := by kernel_rfl
theorem i69 : inf Tryd.prog 69 (.pointer none) 1 8 := by unfold inf; kernel_rfl
theorem m69 : (Tryd.prog.info? 69).map (·.size) = some 1 := by kernel_rfl
theorem u69 : Tryd.prog.underlying 69 = some (.pointer 74) := Tryd.underlying69
theorem s69 : scB Tryd.prog 69 = true := by kernel_rfl
theorem i70 : inf Tryd.prog 70 (.nilFunc) 1 8 := by unfold inf; kernel_rfl
theorem m70 : (Tryd.prog.info? 70).map (·.size) = some 1 := by kernel_rfl
theorem s70 : scB Tryd.prog 70 = true := by kernel_rfl
theorem i71 : inf Tryd.prog 71 (.pointer none) 1 8 := by unfold inf; kernel_rfl
theorem m71 : (Tryd.prog.info? 71).map (·.size) = some 1 := by kernel_rfl
theorem u71 : Tryd.prog.underlying 71 = some (.pointer 69) := Tryd.underlying71
theorem s71 : scB Tryd.prog 71 = true := by kernel_rfl
theorem i72 : inf Tryd.prog 72 (.nilFunc) 1 8 := by unfold inf; kernel_rfl
theorem m72 : (Tryd.prog.info? 72).map (·.size) = some 1 := by kernel_rfl
theorem s72 : scB Tryd.prog 72 = true := by kernel_rfl
theorem i73 : inf Tryd.prog 73 (.agg #[.int .i64 0, .nilIface]) 2 24 := by unfold inf; kernel_rfl
theorem m73 : (Tryd.prog.info? 73).map (·.size) = some 2 := by kernel_rfl
theorem ag_73 : agB Tryd.prog 73 2 = true := by kernel_rfl
theorem f73_0 : faB Tryd.prog 73 0 0 = true := by kernel_rfl
theorem f73_1 : faB Tryd.prog 73 1 1 = true := by kernel_rfl
theorem i74 : inf Tryd.prog 74 (.agg #[.int .i64 0, .nilIface]) 2 24 := by unfold inf; kernel_rfl
theorem m74 : (Tryd.prog.info? 74).map (·.size) = some 2 := by kernel_rfl
theorem ag_74 : agB Tryd.prog 74 2 = true := by kernel_rfl
theorem f74_0 : faB Tryd.prog 74 0 0 = true := by kernel_rfl
theorem f74_1 : faB Tryd.prog 74 1 1 = true := by kernel_rfl
theorem i75 : inf Tryd.prog 75 (.nilFunc) 1 8 := by unfold inf; kernel_rfl
theorem m75 : (Tryd.prog.info? 75).map (·.size) = some 1 := by kernel_rfl
theorem s75 : scB Tryd.prog 75 = true := by kernel_rfl
theorem i76 : inf Tryd.prog 76 (.nilFunc) 1 8 := by unfold inf; kernel_rfl
theorem m76 : (Tryd.prog.info? 76).map (·.size) = some 1 := by kernel_rfl
theorem s76 : scB Tryd.prog 76 = true := by kernel_rfl
theorem i77 : inf Tryd.prog 77 (.nilFunc) 1 8 := by unfold inf; kernel_rfl
theorem m77 : (Tryd.prog.info? 77).map (·.size) = some 1 := by kernel_rfl
theorem s77 : scB Tryd.prog 77 = true := by kernel_rfl
theorem i78 : inf Tryd.prog 78 (.nilFunc) 1 8 := by unfold inf; kernel_rfl
theorem m78 : (Tryd.prog.info? 78).map (·.size) = some 1 := by kernel_rfl
theorem s78 : scB Tryd.prog 78 = true := by kernel_rfl
theorem i79 : inf Tryd.prog 79 (.nilFunc) 1 8 := by unfold inf; kernel_rfl
theorem m79 : (Tryd.prog.info? 79).map (·.size) = some 1 := by kernel_rfl
theorem s79 : scB Tryd.prog 79 = true := by kernel_rfl
theorem i80 : inf Tryd.prog 80 (.nilFunc) 1 8 := by unfold inf; kernel_rfl
theorem m80 : (Tryd.prog.info? 80).map (·.size) = some 1 := by kernel_rfl
theorem s80 : scB Tryd.prog 80 = true := by kernel_rfl
theorem i82 : inf Tryd.prog 82 (.nilFunc) 1 8 := by unfold inf; kernel_rfl
theorem m82 : (Tryd.prog.info? 82).map (·.size) = some 1 := by kernel_rfl
theorem s82 : scB Tryd.prog 82 = true := by kernel_rfl
theorem i83 : inf Tryd.prog 83 (.pointer none) 1 8 := by unfold inf; kernel_rfl
theorem m83 : (Tryd.prog.info? 83).map (·.size) = some 1 := by kernel_rfl
theorem u83 : Tryd.prog.underlying 83 = some (.pointer 85) := Tryd.underlying83
theorem s83 : scB Tryd.prog 83 = true := by kernel_rfl
theorem i84 : inf Tryd.prog 84 (.agg #[.int .i64 0, .int .i64 0, .slice none 0 0, .slice none 0 0, .slice none 0 0, .slice none 0 0, .int .i64 0]) 7 120 := by unfold inf; kernel_rfl
theorem m84 : (Tryd.prog.info? 84).map (·.size) = some 7 := by kernel_rfl
theorem ag_84 : agB Tryd.prog 84 7 = true := by kernel_rfl
theorem f84_0 : faB Tryd.prog 84 0 0 = true := by kernel_rfl
theorem f84_1 : faB Tryd.prog 84 1 4 = true := by kernel_rfl
theorem f84_2 : faB Tryd.prog 84 2 5 = true := by kernel_rfl
theorem f84_3 : faB Tryd.prog 84 3 6 = true := by kernel_rfl
theorem i85 : inf Tryd.prog 85 (.agg #[.int .i64 0, .int .i64 0, .slice none 0 0, .slice none 0 0, .slice none 0 0, .slice none 0 0, .int .i64 0]) 7 120 := by unfold inf; kernel_rfl
theorem m85 : (Tryd.prog.info? 85).map (·.size) = some 7 := by kernel_rfl
theorem ag_85 : agB Tryd.prog 85 7 = true := by kernel_rfl
theorem f85_0 : faB Tryd.prog 85 0 0 = true := by kernel_rfl
theorem f85_1 : faB Tryd.prog 85 1 4 = true := by kernel_rfl
theorem f85_2 : faB Tryd.prog 85 2 5 = true := by kernel_rfl
theorem f85_3 : faB Tryd.prog 85 3 6 = true := by kernel_rfl
theorem i86 : inf Tryd.prog 86 (.nilFunc) 1 8 := by unfold inf; kernel_rfl
theorem m86 : (Tryd.prog.info? 86).map (·.size) = some 1 := by kernel_rfl
theorem s86 : scB Tryd.prog 86 = true := by kernel_rfl
theorem i88 : inf Tryd.prog 88 (.nilFunc) 1 8 := by unfold inf; kernel_rfl
theorem m88 : (Tryd.prog.info? 88).map (·.size) = some 1 := by kernel_rfl
theorem s88 : scB Tryd.prog 88 = true := by kernel_rfl
theorem i89 : inf Tryd.prog 89 (.nilFunc) 1 8 := by unfold inf; kernel_rfl
theorem m89 : (Tryd.prog.info? 89).map (·.size) = some 1 := by kernel_rfl
theorem s89 : scB Tryd.prog 89 = true := by kernel_rfl
theorem i90 : inf Tryd.prog 90 (.nilFunc) 1 8 := by unfold inf; kernel_rfl
theorem m90 : (Tryd.prog.info? 90).map (·.size) = some 1 := by kernel_rfl
theorem s90 : scB Tryd.prog 90 = true := by kernel_rfl
theorem i91 : inf Tryd.prog 91 (.nilFunc) 1 8 := by unfold inf; kernel_rfl
theorem m91 : (Tryd.prog.info? 91).map (·.size) = some 1 := by kernel_rfl
theorem s91 : scB Tryd.prog 91 = true := by kernel_rfl
theorem i92 : inf Tryd.prog 92 (.nilFunc) 1 8 := by unfold inf; kernel_rfl
theorem m92 : (Tryd.prog.info? 92).map (·.size) = some 1 := by kernel_rfl
theorem s92 : scB Tryd.prog 92 = true := by kernel_rfl
theorem i93 : inf Tryd.prog 93 (.pointer none) 1 8 := by unfold inf; kernel_rfl
theorem m93 : (Tryd.prog.info? 93).map (·.size) = some 1 := by kernel_rfl
theorem i94 : inf Tryd.prog 94 (.int .u64 0) 1 8 := by unfold inf; kernel_rfl
theorem m94 : (Tryd.prog.info? 94).map (·.size) = some 1 := by kernel_rfl
theorem u94 : Tryd.prog.underlying 94 = some (.int .u64) := Tryd.underlying94
theorem s94 : scB Tryd.prog 94 = true := by kernel_rfl
theorem i95 : inf Tryd.prog 95 (.agg #[.pointer none, .pointer none, .int .u64 0]) 3 24 := by unfold inf; kernel_rfl
theorem m95 : (Tryd.prog.info? 95).map (·.size) = some 3 := by kernel_rfl
theorem ag_95 : agB Tryd.prog 95 3 = true := by kernel_rfl
theorem f95_0 : faB Tryd.prog 95 0 0 = true := by kernel_rfl
theorem f95_1 : faB Tryd.prog 95 1 1 = true := by kernel_rfl
theorem f95_2 : faB Tryd.prog 95 2 2 = true := by kernel_rfl
theorem i96 : inf Tryd.prog 96 (.agg #[.pointer none, .pointer none, .int .u64 0]) 3 24 := by unfold inf; kernel_rfl
theorem m96 : (Tryd.prog.info? 96).map (·.size) = some 3 := by kernel_rfl
theorem ag_96 : agB Tryd.prog 96 3 = true := by kernel_rfl
theorem f96_0 : faB Tryd.prog 96 0 0 = true := by kernel_rfl
theorem f96_1 : faB Tryd.prog 96 1 1 = true := by kernel_rfl
theorem f96_2 : faB Tryd.prog 96 2 2 = true := by kernel_rfl
theorem i97 : inf Tryd.prog 97 (.nilFunc) 1 8 := by unfold inf; kernel_rfl
theorem m97 : (Tryd.prog.info? 97).map (·.size) = some 1 := by kernel_rfl
theorem s97 : scB Tryd.prog 97 = true := by kernel_rfl
theorem i98 : inf Tryd.prog 98 (.nilIface) 1 16 := by unfold inf; kernel_rfl
theorem m98 : (Tryd.prog.info? 98).map (·.size) = some 1 := by kernel_rfl
theorem s98 : scB Tryd.prog 98 = true := by kernel_rfl
theorem i99 : inf Tryd.prog 99 (.nilIface) 1 16 := by unfold inf; kernel_rfl
theorem m99 : (Tryd.prog.info? 99).map (·.size) = some 1 := by kernel_rfl
theorem s99 : scB Tryd.prog 99 = true := by kernel_rfl
theorem i100 : inf Tryd.prog 100 (.nilFunc) 1 8 := by unfold inf; kernel_rfl
theorem m100 : (Tryd.prog.info? 100).map (·.size) = some 1 := by kernel_rfl
theorem s100 : scB Tryd.prog 100 = true := by kernel_rfl
theorem i101 : inf Tryd.prog 101 (.int .u8 0) 1 1 := by unfold inf; kernel_rfl
theorem m101 : (Tryd.prog.info? 101).map (·.size) = some 1 := by kernel_rfl
theorem u101 : Tryd.prog.underlying 101 = some (.int .u8) := Tryd.underlying101
theorem s101 : scB Tryd.prog 101 = true := by kernel_rfl
theorem i102 : inf Tryd.prog 102 (.nilFunc) 1 8 := by unfold inf; kernel_rfl
theorem m102 : (Tryd.prog.info? 102).map (·.size) = some 1 := by kernel_rfl
theorem s102 : scB Tryd.prog 102 = true := by kernel_rfl
theorem i103 : inf Tryd.prog 103 (.nilFunc) 1 8 := by unfold inf; kernel_rfl
theorem m103 : (Tryd.prog.info? 103).map (·.size) = some 1 := by kernel_rfl
theorem s103 : scB Tryd.prog 103 = true := by kernel_rfl
theorem i104 : inf Tryd.prog 104 (.nilFunc) 1 8 := by unfold inf; kernel_rfl
theorem m104 : (Tryd.prog.info? 104).map (·.size) = some 1 := by kernel_rfl
theorem s104 : scB Tryd.prog 104 = true := by kernel_rfl
theorem i105 : inf Tryd.prog 105 (.nilFunc) 1 8 := by unfold inf; kernel_rfl
theorem m105 : (Tryd.prog.info? 105).map (·.size) = some 1 := by kernel_rfl
theorem s105 : scB Tryd.prog 105 = true := by kernel_rfl
theorem i106 : inf Tryd.prog 106 (.nilFunc) 1 8 := by unfold inf; kernel_rfl
theorem m106 : (Tryd.prog.info? 106).map (·.size) = some 1 := by kernel_rfl
theorem s106 : scB Tryd.prog 106 = true := by kernel_rfl
theorem i107 : inf Tryd.prog 107 (.nilFunc) 1 8 := by unfold inf; kernel_rfl
theorem m107 : (Tryd.prog.info? 107).map (·.size) = some 1 := by kernel_rfl
theorem s107 : scB Tryd.prog 107 = true := by kernel_rfl
theorem i108 : inf Tryd.prog 108 (.nilFunc) 1 8 := by unfold inf; kernel_rfl
theorem m108 : (Tryd.prog.info? 108).map (·.size) = some 1 := by kernel_rfl
theorem s108 : scB Tryd.prog 108 = true := by kernel_rfl
theorem i109 : inf Tryd.prog 109 (.nilFunc) 1 8 := by unfold inf; kernel_rfl
theorem m109 : (Tryd.prog.info? 109).map (·.size) = some 1 := by kernel_rfl
theorem s109 : scB Tryd.prog 109 = true := by kernel_rfl
theorem i111 : inf Tryd.prog 111 (.nilFunc) 1 8 := by unfold inf; kernel_rfl
theorem m111 : (Tryd.prog.info? 111).map (·.size) = some 1 := by kernel_rfl
theorem s111 : scB Tryd.prog 111 = true := by kernel_rfl
theorem i112 : inf Tryd.prog 112 (.nilFunc) 1 8 := by unfold inf; kernel_rfl
theorem m112 : (Tryd.prog.info? 112).map (·.size) = some 1 := by kernel_rfl
theorem s112 : scB Tryd.prog 112 = true := by kernel_rfl
theorem i113 : inf Tryd.prog 113 (.nilFunc) 1 8 := by unfold inf; kernel_rfl
theorem m113 : (Tryd.prog.info? 113).map (·.size) = some 1 := by kernel_rfl
theorem s113 : scB Tryd.prog 113 = true := by kernel_rfl
theorem i114 : inf Tryd.prog 114 (.nilFunc) 1 8 := by unfold inf; kernel_rfl
theorem m114 : (Tryd.prog.info? 114).map (·.size) = some 1 := by kernel_rfl
theorem s114 : scB Tryd.prog 114 = true := by kernel_rfl
theorem i115 : inf Tryd.prog 115 (.nilFunc) 1 8 := by unfold inf; kernel_rfl
theorem m115 : (Tryd.prog.info? 115).map (·.size) = some 1 := by kernel_rfl
theorem s115 : scB Tryd.prog 115 = true := by kernel_rfl
theorem i116 : inf Tryd.prog 116 (.nilFunc) 1 8 := by unfold inf; kernel_rfl
theorem m116 : (Tryd.prog.info? 116).map (·.size) = some 1 := by kernel_rfl
theorem s116 : scB Tryd.prog 116 = true := by kernel_rfl
theorem i117 : inf Tryd.prog 117 (.nilFunc) 1 8 := by unfold inf; kernel_rfl
theorem m117 : (Tryd.prog.info? 117).map (·.size) = some 1 := by kernel_rfl
theorem s117 : scB Tryd.prog 117 = true := by kernel_rfl
theorem i118 : inf Tryd.prog 118 (.agg #[.pointer none]) 1 8 := by unfold inf; kernel_rfl
theorem m118 : (Tryd.prog.info? 118).map (·.size) = some 1 := by kernel_rfl
theorem ag_118 : agB Tryd.prog 118 1 = true := by kernel_rfl
theorem f118_0 : faB Tryd.prog 118 0 0 = true := by kernel_rfl
theorem i119 : inf Tryd.prog 119 (.agg #[.pointer none]) 1 8 := by unfold inf; kernel_rfl
theorem m119 : (Tryd.prog.info? 119).map (·.size) = some 1 := by kernel_rfl
theorem ag_119 : agB Tryd.prog 119 1 = true := by kernel_rfl
theorem f119_0 : faB Tryd.prog 119 0 0 = true := by kernel_rfl
theorem i120 : inf Tryd.prog 120 (.pointer none) 1 8 := by unfold inf; kernel_rfl
theorem m120 : (Tryd.prog.info? 120).map (·.size) = some 1 := by kernel_rfl
theorem u120 : Tryd.prog.underlying 120 = some (.pointer 176) := Tryd.underlying120
theorem s120 : scB Tryd.prog 120 = true := by kernel_rfl
theorem i121 : inf Tryd.prog 121 (.nilFunc) 1 8 := by unfold inf; kernel_rfl
theorem m121 : (Tryd.prog.info? 121).map (·.size) = some 1 := by kernel_rfl
theorem s121 : scB Tryd.prog 121 = true := by kernel_rfl
theorem i122 : inf Tryd.prog 122 (.nilFunc) 1 8 := by unfold inf; kernel_rfl
theorem m122 : (Tryd.prog.info? 122).map (·.size) = some 1 := by kernel_rfl
theorem s122 : scB Tryd.prog 122 = true := by kernel_rfl
theorem i123 : inf Tryd.prog 123 (.nilFunc) 1 8 := by unfold inf; kernel_rfl
theorem m123 : (Tryd.prog.info? 123).map (·.size) = some 1 := by kernel_rfl
theorem s123 : scB Tryd.prog 123 = true := by kernel_rfl
theorem i124 : inf Tryd.prog 124 (.nilIface) 1 16 := by unfold inf; kernel_rfl
theorem m124 : (Tryd.prog.info? 124).map (·.size) = some 1 := by kernel_rfl
theorem s124 : scB Tryd.prog 124 = true := by kernel_rfl
theorem i126 : inf Tryd.prog 126 (.nilFunc) 1 8 := by unfold inf; kernel_rfl
theorem m126 : (Tryd.prog.info? 126).map (·.size) = some 1 := by kernel_rfl
theorem s126 : scB Tryd.prog 126 = true := by kernel_rfl
theorem i127 : inf Tryd.prog 127 (.nilIface) 1 16 := by unfold inf; kernel_rfl
theorem m127 : (Tryd.prog.info? 127).map (·.size) = some 1 := by kernel_rfl
theorem s127 : scB Tryd.prog 127 = true := by kernel_rfl
theorem i128 : inf Tryd.prog 128 (.nilFunc) 1 8 := by unfold inf; kernel_rfl
theorem m128 : (Tryd.prog.info? 128).map (·.size) = some 1 := by kernel_rfl
theorem s128 : scB Tryd.prog 128 = true := by kernel_rfl
theorem i129 : inf Tryd.prog 129 (.nilIface) 1 16 := by unfold inf; kernel_rfl
theorem m129 : (Tryd.prog.info? 129).map (·.size) = some 1 := by kernel_rfl
theorem s129 : scB Tryd.prog 129 = true := by kernel_rfl
theorem i130 : inf Tryd.prog 130 (.slice none 0 0) 1 24 := by unfold inf; kernel_rfl
theorem m130 : (Tryd.prog.info? 130).map (·.size) = some 1 := by kernel_rfl
theorem u130 : Tryd.prog.underlying 130 = some (.slice 29) := Tryd.underlying130
theorem s130 : scB Tryd.prog 130 = true := by kernel_rfl
theorem i131 : inf Tryd.prog 131 (.nilFunc) 1 8 := by unfold inf; kernel_rfl
theorem m131 : (Tryd.prog.info? 131).map (·.size) = some 1 := by kernel_rfl
theorem s131 : scB Tryd.prog 131 = true := by kernel_rfl
theorem i132 : inf Tryd.prog 132 (.nilFunc) 1 8 := by unfold inf; kernel_rfl
theorem m132 : (Tryd.prog.info? 132).map (·.size) = some 1 := by kernel_rfl
theorem s132 : scB Tryd.prog 132 = true := by kernel_rfl
theorem i134 : inf Tryd.prog 134 (.nilFunc) 1 8 := by unfold inf; kernel_rfl
theorem m134 : (Tryd.prog.info? 134).map (·.size) = some 1 := by kernel_rfl
theorem s134 : scB Tryd.prog 134 = true := by kernel_rfl
theorem i135 : inf Tryd.prog 135 (.pointer none) 1 8 := by unfold inf; kernel_rfl
theorem m135 : (Tryd.prog.info? 135).map (·.size) = some 1 := by kernel_rfl
theorem u135 : Tryd.prog.underlying 135 = some (.pointer 137) := Tryd.underlying135
theorem s135 : scB Tryd.prog 135 = true := by kernel_rfl
theorem i136 : inf Tryd.prog 136 (.agg #[.slice none 0 0, .int .i64 0, .int .i64 0, .slice none 0 0, .slice none 0 0]) 5 88 := by unfold inf; kernel_rfl
theorem m136 : (Tryd.prog.info? 136).map (·.size) = some 5 := by kernel_rfl
theorem ag_136 : agB Tryd.prog 136 5 = true := by kernel_rfl
theorem f136_0 : faB Tryd.prog 136 0 0 = true := by kernel_rfl
theorem f136_1 : faB Tryd.prog 136 1 1 = true := by kernel_rfl
theorem i137 : inf Tryd.prog 137 (.agg #[.slice none 0 0, .int .i64 0, .int .i64 0, .slice none 0 0, .slice none 0 0]) 5 88 := by unfold inf; kernel_rfl
theorem m137 : (Tryd.prog.info? 137).map (·.size) = some 5 := by kernel_rfl
theorem ag_137 : agB Tryd.prog 137 5 = true := by kernel_rfl
theorem f137_0 : faB Tryd.prog 137 0 0 = true := by kernel_rfl
theorem f137_1 : faB Tryd.prog 137 1 1 = true := by kernel_rfl
theorem i138 : inf Tryd.prog 138 (.nilFunc) 1 8 := by unfold inf; kernel_rfl
theorem m138 : (Tryd.prog.info? 138).map (·.size) = some 1 := by kernel_rfl
theorem s138 : scB Tryd.prog 138 = true := by kernel_rfl
theorem i139 : inf Tryd.prog 139 (.nilFunc) 1 8 := by unfold inf; kernel_rfl
theorem m139 : (Tryd.prog.info? 139).map (·.size) = some 1 := by kernel_rfl
theorem s139 : scB Tryd.prog 139 = true := by kernel_rfl
theorem i140 : inf Tryd.prog 140 (.nilFunc) 1 8 := by unfold inf; kernel_rfl
theorem m140 : (Tryd.prog.info? 140).map (·.size) = some 1 := by kernel_rfl
theorem s140 : scB Tryd.prog 140 = true := by kernel_rfl
theorem i141 : inf Tryd.prog 141 (.nilFunc) 1 8 := by unfold inf; kernel_rfl
theorem m141 : (Tryd.prog.info? 141).map (·.size) = some 1 := by kernel_rfl
theorem s141 : scB Tryd.prog 141 = true := by kernel_rfl
theorem i142 : inf Tryd.prog 142 (.nilFunc) 1 8 := by unfold inf; kernel_rfl
theorem m142 : (Tryd.prog.info? 142).map (·.size) = some 1 := by kernel_rfl
theorem s142 : scB Tryd.prog 142 = true := by kernel_rfl
theorem i143 : inf Tryd.prog 143 (.nilFunc) 1 8 := by unfold inf; kernel_rfl
theorem m143 : (Tryd.prog.info? 143).map (·.size) = some 1 := by kernel_rfl
theorem s143 : scB Tryd.prog 143 = true := by kernel_rfl
theorem i144 : inf Tryd.prog 144 (.nilFunc) 1 8 := by unfold inf; kernel_rfl
theorem m144 : (Tryd.prog.info? 144).map (·.size) = some 1 := by kernel_rfl
theorem s144 : scB Tryd.prog 144 = true := by kernel_rfl
theorem i145 : inf Tryd.prog 145 (.nilFunc) 1 8 := by unfold inf; kernel_rfl
theorem m145 : (Tryd.prog.info? 145).map (·.size) = some 1 := by kernel_rfl
theorem s145 : scB Tryd.prog 145 = true := by kernel_rfl
theorem i146 : inf Tryd.prog 146 (.nilFunc) 1 8 := by unfold inf; kernel_rfl
theorem m146 : (Tryd.prog.info? 146).map (·.size) = some 1 := by kernel_rfl
theorem s146 : scB Tryd.prog 146 = true := by kernel_rfl
theorem i147 : inf Tryd.prog 147 (.nilFunc) 1 8 := by unfold inf; kernel_rfl
theorem m147 : (Tryd.prog.info? 147).map (·.size) = some 1 := by kernel_rfl
theorem s147 : scB Tryd.prog 147 = true := by kernel_rfl
theorem i148 : inf Tryd.prog 148 (.nilFunc) 1 8 := by unfold inf; kernel_rfl
theorem m148 : (Tryd.prog.info? 148).map (·.size) = some 1 := by kernel_rfl
theorem s148 : scB Tryd.prog 148 = true := by kernel_rfl
theorem i149 : inf Tryd.prog 149 (.nilFunc) 1 8 := by unfold inf; kernel_rfl
theorem m149 : (Tryd.prog.info? 149).map (·.size) = some 1 := by kernel_rfl
theorem s149 : scB Tryd.prog 149 = true := by kernel_rfl
theorem i150 : inf Tryd.prog 150 (.nilFunc) 1 8 := by unfold inf; kernel_rfl
theorem m150 : (Tryd.prog.info? 150).map (·.size) = some 1 := by kernel_rfl
theorem s150 : scB Tryd.prog 150 = true := by kernel_rfl
theorem i151 : inf Tryd.prog 151 (.nilFunc) 1 8 := by unfold inf; kernel_rfl
theorem m151 : (Tryd.prog.info? 151).map (·.size) = some 1 := by kernel_rfl
theorem s151 : scB Tryd.prog 151 = true := by kernel_rfl
theorem i153 : inf Tryd.prog 153 (.nilFunc) 1 8 := by unfold inf; kernel_rfl
theorem m153 : (Tryd.prog.info? 153).map (·.size) = some 1 := by kernel_rfl
theorem s153 : scB Tryd.prog 153 = true := by kernel_rfl
theorem i154 : inf Tryd.prog 154 (.nilFunc) 1 8 := by unfold inf; kernel_rfl
theorem m154 : (Tryd.prog.info? 154).map (·.size) = some 1 := by kernel_rfl
theorem s154 : scB Tryd.prog 154 = true := by kernel_rfl
theorem i156 : inf Tryd.prog 156 (.nilFunc) 1 8 := by unfold inf; kernel_rfl
theorem m156 : (Tryd.prog.info? 156).map (·.size) = some 1 := by kernel_rfl
theorem s156 : scB Tryd.prog 156 = true := by kernel_rfl
theorem i157 : inf Tryd.prog 157 (.nilFunc) 1 8 := by unfold inf; kernel_rfl
theorem m157 : (Tryd.prog.info? 157).map (·.size) = some 1 := by kernel_rfl
theorem s157 : scB Tryd.prog 157 = true := by kernel_rfl
theorem i158 : inf Tryd.prog 158 (.agg #[.pointer none, .pointer none, .pointer none, .string ⟨#[]⟩]) 4 40 := by unfold inf; kernel_rfl
theorem m158 : (Tryd.prog.info? 158).map (·.size) = some 4 := by kernel_rfl
theorem ag_158 : agB Tryd.prog 158 4 = true := by kernel_rfl
theorem f158_0 : faB Tryd.prog 158 0 0 = true := by kernel_rfl
theorem f158_1 : faB Tryd.prog 158 1 1 = true := by kernel_rfl
theorem f158_2 : faB Tryd.prog 158 2 2 = true := by kernel_rfl
theorem f158_3 : faB Tryd.prog 158 3 3 = true := by kernel_rfl
theorem i159 : inf Tryd.prog 159 (.agg #[.pointer none, .pointer none, .pointer none, .string ⟨#[]⟩]) 4 40 := by unfold inf; kernel_rfl
theorem m159 : (Tryd.prog.info? 159).map (·.size) = some 4 := by kernel_rfl
theorem ag_159 : agB Tryd.prog 159 4 = true := by kernel_rfl
theorem f159_0 : faB Tryd.prog 159 0 0 = true := by kernel_rfl
theorem f159_1 : faB Tryd.prog 159 1 1 = true := by kernel_rfl
theorem f159_2 : faB Tryd.prog 159 2 2 = true := by kernel_rfl
theorem f159_3 : faB Tryd.prog 159 3 3 = true := by kernel_rfl
theorem i160 : inf Tryd.prog 160 (.agg #[]) 0 0 := by unfold inf; kernel_rfl
theorem m160 : (Tryd.prog.info? 160).map (·.size) = some 0 := by kernel_rfl
theorem ag_160 : agB Tryd.prog 160 0 = true := by kernel_rfl
theorem i161 : inf Tryd.prog 161 (.agg #[]) 0 0 := by unfold inf; kernel_rfl
theorem m161 : (Tryd.prog.info? 161).map (·.size) = some 0 := by kernel_rfl
theorem ag_161 : agB Tryd.prog 161 0 = true := by kernel_rfl
theorem i162 : inf Tryd.prog 162 (.agg #[]) 0 0 := by unfold inf; kernel_rfl
theorem m162 : (Tryd.prog.info? 162).map (·.size) = some 0 := by kernel_rfl
theorem ag_162 : agB Tryd.prog 162 0 = true := by kernel_rfl
theorem i163 : inf Tryd.prog 163 (.nilFunc) 1 8 := by unfold inf; kernel_rfl
theorem m163 : (Tryd.prog.info? 163).map (·.size) = some 1 := by kernel_rfl
theorem s163 : scB Tryd.prog 163 = true := by kernel_rfl
theorem i164 : inf Tryd.prog 164 (.nilFunc) 1 8 := by unfold inf; kernel_rfl
theorem m164 : (Tryd.prog.info? 164).map (·.size) = some 1 := by kernel_rfl
theorem s164 : scB Tryd.prog 164 = true := by kernel_rfl
theorem i165 : inf Tryd.prog 165 (.int .u32 0) 1 4 := by unfold inf; kernel_rfl
theorem m165 : (Tryd.prog.info? 165).map (·.size) = some 1 := by kernel_rfl
theorem u165 : Tryd.prog.underlying 165 = some (.int .u32) := Tryd.underlying165
theorem s165 : scB Tryd.prog 165 = true := by kernel_rfl
theorem i166 : inf Tryd.prog 166 (.int .u8 0) 1 1 := by unfold inf; kernel_rfl
theorem m166 : (Tryd.prog.info? 166).map (·.size) = some 1 := by kernel_rfl
theorem u166 : Tryd.prog.underlying 166 = some (.int .u8) := Tryd.underlying166
theorem s166 : scB Tryd.prog 166 = true := by kernel_rfl
theorem i167 : inf Tryd.prog 167 (.nilFunc) 1 8 := by unfold inf; kernel_rfl
theorem m167 : (Tryd.prog.info? 167).map (·.size) = some 1 := by kernel_rfl
theorem s167 : scB Tryd.prog 167 = true := by kernel_rfl
theorem i168 : inf Tryd.prog 168 (.pointer none) 1 8 := by unfold inf; kernel_rfl
theorem m168 : (Tryd.prog.info? 168).map (·.size) = some 1 := by kernel_rfl
theorem u168 : Tryd.prog.underlying 168 = some (.pointer 5) := Tryd.underlying168
theorem s168 : scB Tryd.prog 168 = true := by kernel_rfl
theorem i169 : inf Tryd.prog 169 (.int .i32 0) 1 4 := by unfold inf; kernel_rfl
theorem m169 : (Tryd.prog.info? 169).map (·.size) = some 1 := by kernel_rfl
theorem u169 : Tryd.prog.underlying 169 = some (.int .i32) := Tryd.underlying169
theorem s169 : scB Tryd.prog 169 = true := by kernel_rfl
theorem i170 : inf Tryd.prog 170 (.int .i32 0) 1 4 := by unfold inf; kernel_rfl
theorem m170 : (Tryd.prog.info? 170).map (·.size) = some 1 := by kernel_rfl
theorem u170 : Tryd.prog.underlying 170 = some (.int .i32) := Tryd.underlying170
theorem s170 : scB Tryd.prog 170 = true := by kernel_rfl
theorem i171 : inf Tryd.prog 171 (.agg #[.int .u64 0, .int .u64 0, .int .u32 0, .int .u8 0, .int .u8 0, .int .u8 0, .int .u8 0, .nilFunc, .pointer none, .int .i32 0, .int .i32 0]) 11 48 := by unfold inf; kernel_rfl
theorem m171 : (Tryd.prog.info? 171).map (·.size) = some 11 := by kernel_rfl
theorem ag_171 : agB Tryd.prog 171 11 = true := by kernel_rfl
theorem f171_0 : faB Tryd.prog 171 0 0 = true := by kernel_rfl
theorem f171_1 : faB Tryd.prog 171 1 1 = true := by kernel_rfl
theorem f171_2 : faB Tryd.prog 171 2 2 = true := by kernel_rfl
theorem f171_3 : faB Tryd.prog 171 3 3 = true := by kernel_rfl
theorem f171_4 : faB Tryd.prog 171 4 4 = true := by kernel_rfl
theorem f171_5 : faB Tryd.prog 171 5 5 = true := by kernel_rfl
theorem f171_6 : faB Tryd.prog 171 6 6 = true := by kernel_rfl
theorem f171_7 : faB Tryd.prog 171 7 7 = true := by kernel_rfl
theorem f171_8 : faB Tryd.prog 171 8 8 = true := by kernel_rfl
theorem f171_9 : faB Tryd.prog 171 9 9 = true := by kernel_rfl
theorem f171_10 : faB Tryd.prog 171 10 10 = true := by kernel_rfl
theorem i172 : inf Tryd.prog 172 (.agg #[.int .u64 0, .int .u64 0, .int .u32 0, .int .u8 0, .int .u8 0, .int .u8 0, .int .u8 0, .nilFunc, .pointer none, .int .i32 0, .int .i32 0]) 11 48 := by unfold inf; kernel_rfl
theorem m172 : (Tryd.prog.info? 172).map (·.size) = some 11 := by kernel_rfl
theorem ag_172 : agB Tryd.prog 172 11 = true := by kernel_rfl
theorem f172_0 : faB Tryd.prog 172 0 0 = true := by kernel_rfl
theorem f172_1 : faB Tryd.prog 172 1 1 = true := by kernel_rfl
theorem f172_2 : faB Tryd.prog 172 2 2 = true := by kernel_rfl
theorem f172_3 : faB Tryd.prog 172 3 3 = true := by kernel_rfl
theorem f172_4 : faB Tryd.prog 172 4 4 = true := by kernel_rfl
theorem f172_5 : faB Tryd.prog 172 5 5 = true := by kernel_rfl
theorem f172_6 : faB Tryd.prog 172 6 6 = true := by kernel_rfl
theorem f172_7 : faB Tryd.prog 172 7 7 = true := by kernel_rfl
theorem f172_8 : faB Tryd.prog 172 8 8 = true := by kernel_rfl
theorem f172_9 : faB Tryd.prog 172 9 9 = true := by kernel_rfl
theorem f172_10 : faB Tryd.prog 172 10 10 = true := by kernel_rfl
theorem i173 : inf Tryd.prog 173 (.nilFunc) 1 8 := by unfold inf; kernel_rfl
theorem m173 : (Tryd.prog.info? 173).map (·.size) = some 1 := by kernel_rfl
theorem s173 : scB Tryd.prog 173 = true := by kernel_rfl
theorem i174 : inf Tryd.prog 174 (.nilFunc) 1 8 := by unfold inf; kernel_rfl
theorem m174 : (Tryd.prog.info? 174).map (·.size) = some 1 := by kernel_rfl
theorem s174 : scB Tryd.prog 174 = true := by kernel_rfl
theorem i175 : inf Tryd.prog 175 (.agg #[.string ⟨#[]⟩, .int .u8 0]) 2 24 := by unfold inf; kernel_rfl
theorem m175 : (Tryd.prog.info? 175).map (·.size) = some 2 := by kernel_rfl
theorem ag_175 : agB Tryd.prog 175 2 = true := by kernel_rfl
theorem f175_0 : faB Tryd.prog 175 0 0 = true := by kernel_rfl
theorem f175_1 : faB Tryd.prog 175 1 1 = true := by kernel_rfl
theorem i176 : inf Tryd.prog 176 (.agg #[.string ⟨#[]⟩, .int .u8 0]) 2 24 := by unfold inf; kernel_rfl
theorem m176 : (Tryd.prog.info? 176).map (·.size) = some 2 := by kernel_rfl
theorem ag_176 : agB Tryd.prog 176 2 = true := by kernel_rfl
theorem f176_0 : faB Tryd.prog 176 0 0 = true := by kernel_rfl
theorem f176_1 : faB Tryd.prog 176 1 1 = true := by kernel_rfl
theorem i177 : inf Tryd.prog 177 (.pointer none) 1 8 := by unfold inf; kernel_rfl
theorem m177 : (Tryd.prog.info? 177).map (·.size) = some 1 := by kernel_rfl
theorem u177 : Tryd.prog.underlying 177 = some (.pointer 181) := Tryd.underlying177
theorem s177 : scB Tryd.prog 177 = true := by kernel_rfl
theorem i178 : inf Tryd.prog 178 (.nilFunc) 1 8 := by unfold inf; kernel_rfl
theorem m178 : (Tryd.prog.info? 178).map (·.size) = some 1 := by kernel_rfl
theorem s178 : scB Tryd.prog 178 = true := by kernel_rfl
theorem i179 : inf Tryd.prog 179 (.int .u16 0) 1 2 := by unfold inf; kernel_rfl
theorem m179 : (Tryd.prog.info? 179).map (·.size) = some 1 := by kernel_rfl
theorem u179 : Tryd.prog.underlying 179 = some (.int .u16) := Tryd.underlying179
theorem s179 : scB Tryd.prog 179 = true := by kernel_rfl
theorem i180 : inf Tryd.prog 180 (.agg #[.int .i32 0, .int .u16 0, .int .u16 0, .int .u32 0, .int .u32 0]) 5 16 := by unfold inf; kernel_rfl
theorem m180 : (Tryd.prog.info? 180).map (·.size) = some 5 := by kernel_rfl
theorem ag_180 : agB Tryd.prog 180 5 = true := by kernel_rfl
theorem f180_0 : faB Tryd.prog 180 0 0 = true := by kernel_rfl
theorem f180_1 : faB Tryd.prog 180 1 1 = true := by kernel_rfl
theorem f180_2 : faB Tryd.prog 180 2 2 = true := by kernel_rfl
theorem f180_3 : faB Tryd.prog 180 3 3 = true := by kernel_rfl
theorem f180_4 : faB Tryd.prog 180 4 4 = true := by kernel_rfl
theorem i181 : inf Tryd.prog 181 (.agg #[.int .i32 0, .int .u16 0, .int .u16 0, .int .u32 0, .int .u32 0]) 5 16 := by unfold inf; kernel_rfl
theorem m181 : (Tryd.prog.info? 181).map (·.size) = some 5 := by kernel_rfl
theorem ag_181 : agB Tryd.prog 181 5 = true := by kernel_rfl
theorem f181_0 : faB Tryd.prog 181 0 0 = true := by kernel_rfl
theorem f181_1 : faB Tryd.prog 181 1 1 = true := by kernel_rfl
theorem f181_2 : faB Tryd.prog 181 2 2 = true := by kernel_rfl
theorem f181_3 : faB Tryd.prog 181 3 3 = true := by kernel_rfl
theorem f181_4 : faB Tryd.prog 181 4 4 = true := by kernel_rfl
theorem i182 : inf Tryd.prog 182 (.slice none 0 0) 1 24 := by unfold inf; kernel_rfl
theorem m182 : (Tryd.prog.info? 182).map (·.size) = some 1 := by kernel_rfl
theorem u182 : Tryd.prog.underlying 182 = some (.slice 185) := Tryd.underlying182
theorem s182 : scB Tryd.prog 182 = true := by kernel_rfl
theorem i183 : inf Tryd.prog 183 (.int .i32 0) 1 4 := by unfold inf; kernel_rfl
theorem m183 : (Tryd.prog.info? 183).map (·.size) = some 1 := by kernel_rfl
theorem u183 : Tryd.prog.underlying 183 = some (.int .i32) := Tryd.underlying183
theorem s183 : scB Tryd.prog 183 = true := by kernel_rfl
theorem i184 : inf Tryd.prog 184 (.agg #[.int .i32 0, .int .i32 0, .int .i32 0, .int .i32 0]) 4 16 := by unfold inf; kernel_rfl
theorem m184 : (Tryd.prog.info? 184).map (·.size) = some 4 := by kernel_rfl
theorem ag_184 : agB Tryd.prog 184 4 = true := by kernel_rfl
theorem f184_0 : faB Tryd.prog 184 0 0 = true := by kernel_rfl
theorem f184_1 : faB Tryd.prog 184 1 1 = true := by kernel_rfl
theorem f184_2 : faB Tryd.prog 184 2 2 = true := by kernel_rfl
theorem f184_3 : faB Tryd.prog 184 3 3 = true := by kernel_rfl
theorem i185 : inf Tryd.prog 185 (.agg #[.int .i32 0, .int .i32 0, .int .i32 0, .int .i32 0]) 4 16 := by unfold inf; kernel_rfl
theorem m185 : (Tryd.prog.info? 185).map (·.size) = some 4 := by kernel_rfl
theorem ag_185 : agB Tryd.prog 185 4 = true := by kernel_rfl
theorem f185_0 : faB Tryd.prog 185 0 0 = true := by kernel_rfl
theorem f185_1 : faB Tryd.prog 185 1 1 = true := by kernel_rfl
theorem f185_2 : faB Tryd.prog 185 2 2 = true := by kernel_rfl
theorem f185_3 : faB Tryd.prog 185 3 3 = true := by kernel_rfl
theorem i186 : inf Tryd.prog 186 (.pointer none) 1 8 := by unfold inf; kernel_rfl
theorem m186 : (Tryd.prog.info? 186).map (·.size) = some 1 := by kernel_rfl
theorem u186 : Tryd.prog.underlying 186 = some (.pointer 29) := Tryd.underlying186
theorem s186 : scB Tryd.prog 186 = true := by kernel_rfl
theorem c3 : callB Tryd.prog 3 = true := by kernel_rfl
theorem c4 : callB Tryd.prog 4 = true := by kernel_rfl
theorem c5 : callB Tryd.prog 5 = true := by kernel_rfl
theorem c6 : callB Tryd.prog 6 = true := by kernel_rfl
theorem c7 : callB Tryd.prog 7 = true := by kernel_rfl
theorem c8 : callB Tryd.prog 8 = true := by kernel_rfl
theorem c9 : callB Tryd.prog 9 = true := by kernel_rfl
theorem c10 : callB Tryd.prog 10 = true := by kernel_rfl
theorem c11 : callB Tryd.prog 11 = true := by kernel_rfl
theorem c12 : callB Tryd.prog 12 = true := by kernel_rfl
theorem c13 : callB Tryd.prog 13 = true := by kernel_rfl
theorem c14 : callB Tryd.prog 14 = true := by kernel_rfl
theorem c15 : callB Tryd.prog 15 = true := by kernel_rfl
theorem c16 : callB Tryd.prog 16 = true := by kernel_rfl
theorem c17 : callB Tryd.prog 17 = true := by kernel_rfl
theorem c18 : callB Tryd.prog 18 = true := by kernel_rfl
theorem c19 : callB Tryd.prog 19 = true := by kernel_rfl
theorem c20 : callB Tryd.prog 20 = true := by kernel_rfl
theorem c21 : callB Tryd.prog 21 = true := by kernel_rfl
theorem c22 : callB Tryd.prog 22 = true := by kernel_rfl
theorem c23 : callB Tryd.prog 23 = true := by kernel_rfl
theorem c24 : callB Tryd.prog 24 = true := by kernel_rfl
theorem c26 : callB Tryd.prog 26 = true := by kernel_rfl
theorem c27 : callB Tryd.prog 27 = true := by kernel_rfl
theorem c28 : callB Tryd.prog 28 = true := by kernel_rfl
theorem c29 : callB Tryd.prog 29 = true := by kernel_rfl
theorem c30 : callB Tryd.prog 30 = true := by kernel_rfl
theorem c31 : callB Tryd.prog 31 = true := by kernel_rfl
theorem c32 : callB Tryd.prog 32 = true := by kernel_rfl
theorem c33 : callB Tryd.prog 33 = true := by kernel_rfl
theorem c34 : callB Tryd.prog 34 = true := by kernel_rfl
theorem c35 : callB Tryd.prog 35 = true := by kernel_rfl
theorem c36 : callB Tryd.prog 36 = true := by kernel_rfl
theorem c37 : callB Tryd.prog 37 = true := by kernel_rfl
theorem c38 : callB Tryd.prog 38 = true := by kernel_rfl
theorem c39 : callB Tryd.prog 39 = true := by kernel_rfl
theorem c40 : callB Tryd.prog 40 = true := by kernel_rfl
theorem c41 : callB Tryd.prog 41 = true := by kernel_rfl
theorem c42 : callB Tryd.prog 42 = true := by kernel_rfl
theorem c43 : callB Tryd.prog 43 = true := by kernel_rfl
theorem c44 : callB Tryd.prog 44 = true := by kernel_rfl
theorem c49 : callB Tryd.prog 49 = true := by kernel_rfl
theorem c50 : callB Tryd.prog 50 = true := by kernel_rfl
theorem c51 : callB Tryd.prog 51 = true := by kernel_rfl
theorem c52 : callB Tryd.prog 52 = true := by kernel_rfl
theorem c53 : callB Tryd.prog 53 = true := by kernel_rfl
theorem c54 : callB Tryd.prog 54 = true := by kernel_rfl
theorem c55 : callB Tryd.prog 55 = true := by kernel_rfl
theorem c56 : callB Tryd.prog 56 = true := by kernel_rfl
theorem c57 : callB Tryd.prog 57 = true := by kernel_rfl
theorem c58 : callB Tryd.prog 58 = true := by kernel_rfl
theorem c59 : callB Tryd.prog 59 = true := by kernel_rfl
theorem c60 : callB Tryd.prog 60 = true := by kernel_rfl
theorem c61 : callB Tryd.prog 61 = true := by kernel_rfl
theorem c62 : callB Tryd.prog 62 = true := by kernel_rfl
theorem c63 : callB Tryd.prog 63 = true := by kernel_rfl
theorem c64 : callB Tryd.prog 64 = true := by kernel_rfl
theorem c68 : callB Tryd.prog 68 = true := by kernel_rfl
theorem c69 : callB Tryd.prog 69 = true := by kernel_rfl
theorem c70 : callB Tryd.prog 70 = true := by kernel_rfl
theorem c71 : callB Tryd.prog 71 = true := by kernel_rfl
theorem c72 : callB Tryd.prog 72 = true := by kernel_rfl
theorem c73 : callB Tryd.prog 73 = true := by kernel_rfl
theorem c74 : callB Tryd.prog 74 = true := by kernel_rfl
theorem c75 : callB Tryd.prog 75 = true := by kernel_rfl
theorem c76 : callB Tryd.prog 76 = true := by kernel_rfl
theorem c77 : callB Tryd.prog 77 = true := by kernel_rfl
theorem c78 : callB Tryd.prog 78 = true := by kernel_rfl
theorem c79 : callB Tryd.prog 79 = true := by kernel_rfl
theorem c80 : callB Tryd.prog 80 = true := by kernel_rfl
theorem c81 : callB Tryd.prog 81 = true := by kernel_rfl
theorem c82 : callB Tryd.prog 82 = true := by kernel_rfl
theorem c83 : callB Tryd.prog 83 = true := by kernel_rfl
theorem c84 : callB Tryd.prog 84 = true := by kernel_rfl
theorem c85 : callB Tryd.prog 85 = true := by kernel_rfl
theorem c86 : callB Tryd.prog 86 = true := by kernel_rfl
theorem c87 : callB Tryd.prog 87 = true := by kernel_rfl
theorem c88 : callB Tryd.prog 88 = true := by kernel_rfl
theorem c89 : callB Tryd.prog 89 = true := by kernel_rfl
theorem c90 : callB Tryd.prog 90 = true := by kernel_rfl
theorem c91 : callB Tryd.prog 91 = true := by kernel_rfl
theorem c92 : callB Tryd.prog 92 = true := by kernel_rfl
theorem c93 : callB Tryd.prog 93 = true := by kernel_rfl
theorem mix : Tryd.prog.follows .mixedOrders = true := by kernel_rfl
end Go.Proofs.YteaknconpkklhaaDoor
