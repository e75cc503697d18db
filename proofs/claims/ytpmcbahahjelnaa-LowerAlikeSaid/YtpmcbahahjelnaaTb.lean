/- Facts on the translation's types, fields and functions. No conditions. -/
import Derived.Test.YtpmcbahahjelnaaTy
import Derived.Test.YtpmcbahahjelnaaProg
set_option linter.unusedVariables false
set_option linter.unusedSimpArgs false
namespace Go.Proofs.Ytpmcbahahjelnaa
open Go Go.Proofs
theorem i1 : inf Try.prog 1 (.nilFunc) 1 8 := by unfold inf; kernel_rfl
theorem m1 : (Try.prog.info? 1).map (·.size) = some 1 := by kernel_rfl
theorem s1 : scB Try.prog 1 = true := by kernel_rfl
theorem i2 : inf Try.prog 2 (.int .i64 0) 1 8 := by unfold inf; kernel_rfl
theorem m2 : (Try.prog.info? 2).map (·.size) = some 1 := by kernel_rfl
theorem u2 : Try.prog.underlying 2 = some (.int .i64) := Try.underlying2
theorem s2 : scB Try.prog 2 = true := by kernel_rfl
theorem i3 : inf Try.prog 3 (.int .i64 0) 1 8 := by unfold inf; kernel_rfl
theorem m3 : (Try.prog.info? 3).map (·.size) = some 1 := by kernel_rfl
theorem u3 : Try.prog.underlying 3 = some (.int .i64) := Try.underlying3
theorem s3 : scB Try.prog 3 = true := by kernel_rfl
theorem i4 : inf Try.prog 4 (.bool false) 1 1 := by unfold inf; kernel_rfl
theorem m4 : (Try.prog.info? 4).map (·.size) = some 1 := by kernel_rfl
theorem s4 : scB Try.prog 4 = true := by kernel_rfl
theorem i5 : inf Try.prog 5 (.int .u8 0) 1 1 := by unfold inf; kernel_rfl
theorem m5 : (Try.prog.info? 5).map (·.size) = some 1 := by kernel_rfl
theorem u5 : Try.prog.underlying 5 = some (.int .u8) := Try.underlying5
theorem s5 : scB Try.prog 5 = true := by kernel_rfl
theorem i6 : inf Try.prog 6 (.int .u8 0) 1 1 := by unfold inf; kernel_rfl
theorem m6 : (Try.prog.info? 6).map (·.size) = some 1 := by kernel_rfl
theorem u6 : Try.prog.underlying 6 = some (.int .u8) := Try.underlying6
theorem s6 : scB Try.prog 6 = true := by kernel_rfl
theorem i7 : inf Try.prog 7 (.agg #[.int .i64 0, .int .i64 0, .bool false, .int .u8 0]) 4 24 := by unfold inf; kernel_rfl
theorem m7 : (Try.prog.info? 7).map (·.size) = some 4 := by kernel_rfl
theorem ag_7 : agB Try.prog 7 4 = true := by kernel_rfl
theorem f7_0 : faB Try.prog 7 0 0 = true := by kernel_rfl
theorem f7_1 : faB Try.prog 7 1 1 = true := by kernel_rfl
theorem f7_2 : faB Try.prog 7 2 2 = true := by kernel_rfl
theorem f7_3 : faB Try.prog 7 3 3 = true := by kernel_rfl
theorem i8 : inf Try.prog 8 (.agg #[.int .i64 0, .int .i64 0, .bool false, .int .u8 0]) 4 24 := by unfold inf; kernel_rfl
theorem m8 : (Try.prog.info? 8).map (·.size) = some 4 := by kernel_rfl
theorem ag_8 : agB Try.prog 8 4 = true := by kernel_rfl
theorem f8_0 : faB Try.prog 8 0 0 = true := by kernel_rfl
theorem f8_1 : faB Try.prog 8 1 1 = true := by kernel_rfl
theorem f8_2 : faB Try.prog 8 2 2 = true := by kernel_rfl
theorem f8_3 : faB Try.prog 8 3 3 = true := by kernel_rfl
theorem i12 : inf Try.prog 12 (.int .u64 0) 1 8 := by unfold inf; kernel_rfl
theorem m12 : (Try.prog.info? 12).map (·.size) = some 1 := by kernel_rfl
theorem u12 : Try.prog.underlying 12 = some (.int .u64) := Try.underlying12
theorem s12 : scB Try.prog 12 = true := by kernel_rfl
theorem i13 : inf Try.prog 13 (.agg #[.string ⟨#[]⟩, .int .u64 0]) 2 24 := by unfold inf; kernel_rfl
theorem m13 : (Try.prog.info? 13).map (·.size) = some 2 := by kernel_rfl
theorem ag_13 : agB Try.prog 13 2 = true := by kernel_rfl
theorem f13_0 : faB Try.prog 13 0 0 = true := by kernel_rfl
theorem f13_1 : faB Try.prog 13 1 1 = true := by kernel_rfl
theorem i14 : inf Try.prog 14 (.agg #[.string ⟨#[]⟩, .int .u64 0]) 2 24 := by unfold inf; kernel_rfl
theorem m14 : (Try.prog.info? 14).map (·.size) = some 2 := by kernel_rfl
theorem ag_14 : agB Try.prog 14 2 = true := by kernel_rfl
theorem f14_0 : faB Try.prog 14 0 0 = true := by kernel_rfl
theorem f14_1 : faB Try.prog 14 1 1 = true := by kernel_rfl
theorem i15 : inf Try.prog 15 (.pointer none) 1 8 := by unfold inf; kernel_rfl
theorem m15 : (Try.prog.info? 15).map (·.size) = some 1 := by kernel_rfl
theorem u15 : Try.prog.underlying 15 = some (.pointer 168) := Try.underlying15
theorem s15 : scB Try.prog 15 = true := by kernel_rfl
theorem i16 : inf Try.prog 16 (.pointer none) 1 8 := by unfold inf; kernel_rfl
theorem m16 : (Try.prog.info? 16).map (·.size) = some 1 := by kernel_rfl
theorem u16 : Try.prog.underlying 16 = some (.pointer 171) := Try.underlying16
theorem s16 : scB Try.prog 16 = true := by kernel_rfl
theorem i17 : inf Try.prog 17 (.pointer none) 1 8 := by unfold inf; kernel_rfl
theorem m17 : (Try.prog.info? 17).map (·.size) = some 1 := by kernel_rfl
theorem u17 : Try.prog.underlying 17 = some (.pointer 181) := Try.underlying17
theorem s17 : scB Try.prog 17 = true := by kernel_rfl
theorem i18 : inf Try.prog 18 (.agg #[.pointer none]) 1 8 := by unfold inf; kernel_rfl
theorem m18 : (Try.prog.info? 18).map (·.size) = some 1 := by kernel_rfl
theorem ag_18 : agB Try.prog 18 1 = true := by kernel_rfl
theorem f18_0 : faB Try.prog 18 0 0 = true := by kernel_rfl
theorem i19 : inf Try.prog 19 (.agg #[.pointer none]) 1 8 := by unfold inf; kernel_rfl
theorem m19 : (Try.prog.info? 19).map (·.size) = some 1 := by kernel_rfl
theorem ag_19 : agB Try.prog 19 1 = true := by kernel_rfl
theorem f19_0 : faB Try.prog 19 0 0 = true := by kernel_rfl
theorem i20 : inf Try.prog 20 (.nilIface) 1 16 := by unfold inf; kernel_rfl
theorem m20 : (Try.prog.info? 20).map (·.size) = some 1 := by kernel_rfl
theorem s20 : scB Try.prog 20 = true := by kernel_rfl
theorem i21 : inf Try.prog 21 (.int .i32 0) 1 4 := by unfold inf; kernel_rfl
theorem m21 : (Try.prog.info? 21).map (·.size) = some 1 := by kernel_rfl
theorem u21 : Try.prog.underlying 21 = some (.int .i32) := Try.underlying21
theorem s21 : scB Try.prog 21 = true := by kernel_rfl
theorem i22 : inf Try.prog 22 (.slice none 0 0) 1 24 := by unfold inf; kernel_rfl
theorem m22 : (Try.prog.info? 22).map (·.size) = some 1 := by kernel_rfl
theorem u22 : Try.prog.underlying 22 = some (.slice 31) := Try.underlying22
theorem s22 : scB Try.prog 22 = true := by kernel_rfl
theorem i23 : inf Try.prog 23 (.slice none 0 0) 1 24 := by unfold inf; kernel_rfl
theorem m23 : (Try.prog.info? 23).map (·.size) = some 1 := by kernel_rfl
theorem u23 : Try.prog.underlying 23 = some (.slice 2) := Try.underlying23
theorem s23 : scB Try.prog 23 = true := by kernel_rfl
theorem i24 : inf Try.prog 24 (.nilFunc) 1 8 := by unfold inf; kernel_rfl
theorem m24 : (Try.prog.info? 24).map (·.size) = some 1 := by kernel_rfl
theorem s24 : scB Try.prog 24 = true := by kernel_rfl
theorem i25 : inf Try.prog 25 (.slice none 0 0) 1 24 := by unfold inf; kernel_rfl
theorem m25 : (Try.prog.info? 25).map (·.size) = some 1 := by kernel_rfl
theorem u25 : Try.prog.underlying 25 = some (.slice 3) := Try.underlying25
theorem s25 : scB Try.prog 25 = true := by kernel_rfl
theorem i26 : inf Try.prog 26 (.nilIface) 1 16 := by unfold inf; kernel_rfl
theorem m26 : (Try.prog.info? 26).map (·.size) = some 1 := by kernel_rfl
theorem s26 : scB Try.prog 26 = true := by kernel_rfl
theorem i27 : inf Try.prog 27 (.nilIface) 1 16 := by unfold inf; kernel_rfl
theorem m27 : (Try.prog.info? 27).map (·.size) = some 1 := by kernel_rfl
theorem ifc_27 : Try.prog.underlying 27 = some (.interface (Try.prog.methodsAt 27)) := by kernel_rfl
theorem s27 : scB Try.prog 27 = true := by kernel_rfl
theorem i29 : inf Try.prog 29 (.nilFunc) 1 8 := by unfold inf; kernel_rfl
theorem m29 : (Try.prog.info? 29).map (·.size) = some 1 := by kernel_rfl
theorem s29 : scB Try.prog 29 = true := by kernel_rfl
theorem i30 : inf Try.prog 30 (.nilFunc) 1 8 := by unfold inf; kernel_rfl
theorem m30 : (Try.prog.info? 30).map (·.size) = some 1 := by kernel_rfl
theorem s30 : scB Try.prog 30 = true := by kernel_rfl
theorem i31 : inf Try.prog 31 (.agg #[.int .i64 0, .int .i64 0]) 2 16 := by unfold inf; kernel_rfl
theorem m31 : (Try.prog.info? 31).map (·.size) = some 2 := by kernel_rfl
theorem ag_31 : agB Try.prog 31 2 = true := by kernel_rfl
theorem ax_31 : Try.prog.underlying 31 = some (.array 2 3) := by kernel_rfl
theorem ac_31 : Try.prog.cellsOf 3 = 1 := by kernel_rfl
theorem ap_31 : Try.prog.plainKey 3 = true := by kernel_rfl
theorem aq_31 : Try.prog.eqGuardType Try.prog.depth 31 = false := by kernel_rfl
theorem i32 : inf Try.prog 32 (.nilFunc) 1 8 := by unfold inf; kernel_rfl
theorem m32 : (Try.prog.info? 32).map (·.size) = some 1 := by kernel_rfl
theorem s32 : scB Try.prog 32 = true := by kernel_rfl
theorem i33 : inf Try.prog 33 (.slice none 0 0) 1 24 := by unfold inf; kernel_rfl
theorem m33 : (Try.prog.info? 33).map (·.size) = some 1 := by kernel_rfl
theorem u33 : Try.prog.underlying 33 = some (.slice 41) := Try.underlying33
theorem s33 : scB Try.prog 33 = true := by kernel_rfl
theorem i34 : inf Try.prog 34 (.agg #[.slice none 0 0]) 1 24 := by unfold inf; kernel_rfl
theorem m34 : (Try.prog.info? 34).map (·.size) = some 1 := by kernel_rfl
theorem ag_34 : agB Try.prog 34 1 = true := by kernel_rfl
theorem f34_0 : faB Try.prog 34 0 0 = true := by kernel_rfl
theorem i35 : inf Try.prog 35 (.agg #[.slice none 0 0]) 1 24 := by unfold inf; kernel_rfl
theorem m35 : (Try.prog.info? 35).map (·.size) = some 1 := by kernel_rfl
theorem ag_35 : agB Try.prog 35 1 = true := by kernel_rfl
theorem f35_0 : faB Try.prog 35 0 0 = true := by kernel_rfl
theorem i36 : inf Try.prog 36 (.nilFunc) 1 8 := by unfold inf; kernel_rfl
theorem m36 : (Try.prog.info? 36).map (·.size) = some 1 := by kernel_rfl
theorem s36 : scB Try.prog 36 = true := by kernel_rfl
theorem i37 : inf Try.prog 37 (.nilFunc) 1 8 := by unfold inf; kernel_rfl
theorem m37 : (Try.prog.info? 37).map (·.size) = some 1 := by kernel_rfl
theorem s37 : scB Try.prog 37 = true := by kernel_rfl
theorem i38 : inf Try.prog 38 (.nilFunc) 1 8 := by unfold inf; kernel_rfl
theorem m38 : (Try.prog.info? 38).map (·.size) = some 1 := by kernel_rfl
theorem s38 : scB Try.prog 38 = true := by kernel_rfl
theorem i39 : inf Try.prog 39 (.slice none 0 0) 1 24 := by unfold inf; kernel_rfl
theorem m39 : (Try.prog.info? 39).map (·.size) = some 1 := by kernel_rfl
theorem u39 : Try.prog.underlying 39 = some (.slice 50) := Try.underlying39
theorem s39 : scB Try.prog 39 = true := by kernel_rfl
theorem i40 : inf Try.prog 40 (.agg #[.int .i64 0, .int .i64 0, .slice none 0 0, .slice none 0 0]) 4 64 := by unfold inf; kernel_rfl
theorem m40 : (Try.prog.info? 40).map (·.size) = some 4 := by kernel_rfl
theorem ag_40 : agB Try.prog 40 4 = true := by kernel_rfl
theorem f40_0 : faB Try.prog 40 0 0 = true := by kernel_rfl
theorem f40_1 : faB Try.prog 40 1 1 = true := by kernel_rfl
theorem f40_2 : faB Try.prog 40 2 2 = true := by kernel_rfl
theorem f40_3 : faB Try.prog 40 3 3 = true := by kernel_rfl
theorem i41 : inf Try.prog 41 (.agg #[.int .i64 0, .int .i64 0, .slice none 0 0, .slice none 0 0]) 4 64 := by unfold inf; kernel_rfl
theorem m41 : (Try.prog.info? 41).map (·.size) = some 4 := by kernel_rfl
theorem ag_41 : agB Try.prog 41 4 = true := by kernel_rfl
theorem f41_0 : faB Try.prog 41 0 0 = true := by kernel_rfl
theorem f41_1 : faB Try.prog 41 1 1 = true := by kernel_rfl
theorem f41_2 : faB Try.prog 41 2 2 = true := by kernel_rfl
theorem f41_3 : faB Try.prog 41 3 3 = true := by kernel_rfl
theorem i43 : inf Try.prog 43 (.nilFunc) 1 8 := by unfold inf; kernel_rfl
theorem m43 : (Try.prog.info? 43).map (·.size) = some 1 := by kernel_rfl
theorem s43 : scB Try.prog 43 = true := by kernel_rfl
theorem i44 : inf Try.prog 44 (.nilFunc) 1 8 := by unfold inf; kernel_rfl
theorem m44 : (Try.prog.info? 44).map (·.size) = some 1 := by kernel_rfl
theorem s44 : scB Try.prog 44 = true := by kernel_rfl
theorem i45 : inf Try.prog 45 (.agg #[.int .i64 0, .int .i64 0, .slice none 0 0]) 3 40 := by unfold inf; kernel_rfl
theorem m45 : (Try.prog.info? 45).map (·.size) = some 3 := by kernel_rfl
theorem ag_45 : agB Try.prog 45 3 = true := by kernel_rfl
theorem f45_0 : faB Try.prog 45 0 0 = true := by kernel_rfl
theorem f45_1 : faB Try.prog 45 1 1 = true := by kernel_rfl
theorem f45_2 : faB Try.prog 45 2 2 = true := by kernel_rfl
theorem i46 : inf Try.prog 46 (.agg #[.int .i64 0, .int .i64 0, .slice none 0 0]) 3 40 := by unfold inf; kernel_rfl
theorem m46 : (Try.prog.info? 46).map (·.size) = some 3 := by kernel_rfl
theorem ag_46 : agB Try.prog 46 3 = true := by kernel_rfl
theorem f46_0 : faB Try.prog 46 0 0 = true := by kernel_rfl
theorem f46_1 : faB Try.prog 46 1 1 = true := by kernel_rfl
theorem f46_2 : faB Try.prog 46 2 2 = true := by kernel_rfl
theorem i47 : inf Try.prog 47 (.slice none 0 0) 1 24 := by unfold inf; kernel_rfl
theorem m47 : (Try.prog.info? 47).map (·.size) = some 1 := by kernel_rfl
theorem u47 : Try.prog.underlying 47 = some (.slice 70) := Try.underlying47
theorem s47 : scB Try.prog 47 = true := by kernel_rfl
theorem i48 : inf Try.prog 48 (.slice none 0 0) 1 24 := by unfold inf; kernel_rfl
theorem m48 : (Try.prog.info? 48).map (·.size) = some 1 := by kernel_rfl
theorem u48 : Try.prog.underlying 48 = some (.slice 52) := Try.underlying48
theorem s48 : scB Try.prog 48 = true := by kernel_rfl
theorem i49 : inf Try.prog 49 (.agg #[.slice none 0 0, .slice none 0 0, .int .i64 0, .int .i64 0, .slice none 0 0]) 5 88 := by unfold inf; kernel_rfl
theorem m49 : (Try.prog.info? 49).map (·.size) = some 5 := by kernel_rfl
theorem ag_49 : agB Try.prog 49 5 = true := by kernel_rfl
theorem f49_0 : faB Try.prog 49 0 0 = true := by kernel_rfl
theorem f49_1 : faB Try.prog 49 1 1 = true := by kernel_rfl
theorem f49_2 : faB Try.prog 49 2 2 = true := by kernel_rfl
theorem i50 : inf Try.prog 50 (.agg #[.slice none 0 0, .slice none 0 0, .int .i64 0, .int .i64 0, .slice none 0 0]) 5 88 := by unfold inf; kernel_rfl
theorem m50 : (Try.prog.info? 50).map (·.size) = some 5 := by kernel_rfl
theorem ag_50 : agB Try.prog 50 5 = true := by kernel_rfl
theorem f50_0 : faB Try.prog 50 0 0 = true := by kernel_rfl
theorem f50_1 : faB Try.prog 50 1 1 = true := by kernel_rfl
theorem f50_2 : faB Try.prog 50 2 2 = true := by kernel_rfl
theorem i51 : inf Try.prog 51 (.agg #[.int .i64 0, .int .i64 0, .slice none 0 0, .int .i64 0, .int .i64 0]) 5 56 := by unfold inf; kernel_rfl
theorem m51 : (Try.prog.info? 51).map (·.size) = some 5 := by kernel_rfl
theorem ag_51 : agB Try.prog 51 5 = true := by kernel_rfl
theorem f51_0 : faB Try.prog 51 0 0 = true := by kernel_rfl
theorem f51_1 : faB Try.prog 51 1 1 = true := by kernel_rfl
theorem f51_2 : faB Try.prog 51 2 2 = true := by kernel_rfl
theorem f51_3 : faB Try.prog 51 3 3 = true := by kernel_rfl
theorem f51_4 : faB Try.prog 51 4 4 = true := by kernel_rfl
theorem i52 : inf Try.prog 52 (.agg #[.int .i64 0, .int .i64 0, .slice none 0 0, .int .i64 0, .int .i64 0]) 5 56 := by unfold inf; kernel_rfl
theorem m52 : (Try.prog.info? 52).map (·.size) = some 5 := by kernel_rfl
theorem ag_52 : agB Try.prog 52 5 = true := by kernel_rfl
theorem f52_0 : faB Try.prog 52 0 0 = true := by kernel_rfl
theorem f52_1 : faB Try.prog 52 1 1 = true := by kernel_rfl
theorem f52_2 : faB Try.prog 52 2 2 = true := by kernel_rfl
theorem f52_3 : faB Try.prog 52 3 3 = true := by kernel_rfl
theorem f52_4 : faB Try.prog 52 4 4 = true := by kernel_rfl
theorem i53 : inf Try.prog 53 (.nilFunc) 1 8 := by unfold inf; kernel_rfl
theorem m53 : (Try.prog.info? 53).map (·.size) = some 1 := by kernel_rfl
theorem s53 : scB Try.prog 53 = true := by kernel_rfl
theorem i54 : inf Try.prog 54 (.nilFunc) 1 8 := by unfold inf; kernel_rfl
theorem m54 : (Try.prog.info? 54).map (·.size) = some 1 := by kernel_rfl
theorem s54 : scB Try.prog 54 = true := by kernel_rfl
theorem i55 : inf Try.prog 55 (.nilFunc) 1 8 := by unfold inf; kernel_rfl
theorem m55 : (Try.prog.info? 55).map (·.size) = some 1 := by kernel_rfl
theorem s55 : scB Try.prog 55 = true := by kernel_rfl
theorem i56 : inf Try.prog 56 (.nilFunc) 1 8 := by unfold inf; kernel_rfl
theorem m56 : (Try.prog.info? 56).map (·.size) = some 1 := by kernel_rfl
theorem s56 : scB Try.prog 56 = true := by kernel_rfl
theorem i57 : inf Try.prog 57 (.slice none 0 0) 1 24 := by unfold inf; kernel_rfl
theorem m57 : (Try.prog.info? 57).map (·.size) = some 1 := by kernel_rfl
theorem u57 : Try.prog.underlying 57 = some (.slice 62) := Try.underlying57
theorem s57 : scB Try.prog 57 = true := by kernel_rfl
theorem i58 : inf Try.prog 58 (.slice none 0 0) 1 24 := by unfold inf; kernel_rfl
theorem m58 : (Try.prog.info? 58).map (·.size) = some 1 := by kernel_rfl
theorem u58 : Try.prog.underlying 58 = some (.slice 4) := Try.underlying58
theorem s58 : scB Try.prog 58 = true := by kernel_rfl
theorem i60 : inf Try.prog 60 (.nilFunc) 1 8 := by unfold inf; kernel_rfl
theorem m60 : (Try.prog.info? 60).map (·.size) = some 1 := by kernel_rfl
theorem s60 : scB Try.prog 60 = true := by kernel_rfl
theorem i61 : inf Try.prog 61 (.agg #[.int .i64 0, .int .i64 0]) 2 16 := by unfold inf; kernel_rfl
theorem m61 : (Try.prog.info? 61).map (·.size) = some 2 := by kernel_rfl
theorem ag_61 : agB Try.prog 61 2 = true := by kernel_rfl
theorem f61_0 : faB Try.prog 61 0 0 = true := by kernel_rfl
theorem f61_1 : faB Try.prog 61 1 1 = true := by kernel_rfl
theorem i62 : inf Try.prog 62 (.agg #[.int .i64 0, .int .i64 0]) 2 16 := by unfold inf; kernel_rfl
theorem m62 : (Try.prog.info? 62).map (·.size) = some 2 := by kernel_rfl
theorem ag_62 : agB Try.prog 62 2 = true := by kernel_rfl
theorem f62_0 : faB Try.prog 62 0 0 = true := by kernel_rfl
theorem f62_1 : faB Try.prog 62 1 1 = true := by kernel_rfl
theorem i63 : inf Try.prog 63 (.int .i64 0) 1 8 := by unfold inf; kernel_rfl
theorem m63 : (Try.prog.info? 63).map (·.size) = some 1 := by kernel_rfl
theorem u63 : Try.prog.underlying 63 = some (.int .i64) := Try.underlying63
theorem cmp_63 : (Try.prog.info? 63).map (·.comparable) = some true := by kernel_rfl
theorem s63 : scB Try.prog 63 = true := by kernel_rfl
theorem i64 : inf Try.prog 64 (.nilFunc) 1 8 := by unfold inf; kernel_rfl
theorem m64 : (Try.prog.info? 64).map (·.size) = some 1 := by kernel_rfl
theorem s64 : scB Try.prog 64 = true := by kernel_rfl
theorem i65 : inf Try.prog 65 (.nilFunc) 1 8 := by unfold inf; kernel_rfl
theorem m65 : (Try.prog.info? 65).map (·.size) = some 1 := by kernel_rfl
theorem s65 : scB Try.prog 65 = true := by kernel_rfl
theorem i66 : inf Try.prog 66 (.nilFunc) 1 8 := by unfold inf; kernel_rfl
theorem m66 : (Try.prog.info? 66).map (·.size) = some 1 := by kernel_rfl
theorem s66 : scB Try.prog 66 = true := by kernel_rfl
theorem i67 : inf Try.prog 67 (.nilFunc) 1 8 := by unfold inf; kernel_rfl
theorem m67 : (Try.prog.info? 67).map (·.size) = some 1 := by kernel_rfl
theorem s67 : scB Try.prog 67 = true := by kernel_rfl
theorem i68 : inf Try.prog 68 (.nilFunc) 1 8 := by unfold inf; kernel_rfl
theorem m68 : (Try.prog.info? 68).map (·.size) = some 1 := by kernel_rfl
theorem s68 : scB Try.prog 68 = true := by kernel_rfl
theorem i69 : inf Try.prog 69 (.agg #[.int .i64 0, .slice none 0 0]) 2 32 := by unfold inf; kernel_rfl
theorem m69 : (Try.prog.info? 69).map (·.size) = some 2 := by kernel_rfl
theorem ag_69 : agB Try.prog 69 2 = true := by kernel_rfl
theorem f69_0 : faB Try.prog 69 0 0 = true := by kernel_rfl
theorem f69_1 : faB Try.prog 69 1 1 = true := by kernel_rfl
theorem i70 : inf Try.prog 70 (.agg #[.int .i64 0, .slice none 0 0]) 2 32 := by unfold inf; kernel_rfl
theorem m70 : (Try.prog.info? 70).map (·.size) = some 2 := by kernel_rfl
theorem ag_70 : agB Try.prog 70 2 = true := by kernel_rfl
theorem f70_0 : faB Try.prog 70 0 0 = true := by kernel_rfl
theorem f70_1 : faB Try.prog 70 1 1 = true := by kernel_rfl
theorem i71 : inf Try.prog 71 (.nilFunc) 1 8 := by unfold inf; kernel_rfl
theorem m71 : (Try.prog.info? 71).map (·.size) = some 1 := by kernel_rfl
theorem s71 : scB Try.prog 71 = true := by kernel_rfl
theorem i72 : inf Try.prog 72 (.pointer none) 1 8 := by unfold inf; kernel_rfl
theorem m72 : (Try.prog.info? 72).map (·.size) = some 1 := by kernel_rfl
theorem u72 : Try.prog.underlying 72 = some (.pointer 77) := Try.underlying72
theorem s72 : scB Try.prog 72 = true := by kernel_rfl
theorem i73 : inf Try.prog 73 (.slice none 0 0) 1 24 := by unfold inf; kernel_rfl
theorem m73 : (Try.prog.info? 73).map (·.size) = some 1 := by kernel_rfl
theorem u73 : Try.prog.underlying 73 = some (.slice 25) := Try.underlying73
theorem s73 : scB Try.prog 73 = true := by kernel_rfl
theorem i74 : inf Try.prog 74 (.nilFunc) 1 8 := by unfold inf; kernel_rfl
theorem m74 : (Try.prog.info? 74).map (·.size) = some 1 := by kernel_rfl
theorem s74 : scB Try.prog 74 = true := by kernel_rfl
theorem i75 : inf Try.prog 75 (.nilFunc) 1 8 := by unfold inf; kernel_rfl
theorem m75 : (Try.prog.info? 75).map (·.size) = some 1 := by kernel_rfl
theorem s75 : scB Try.prog 75 = true := by kernel_rfl
theorem i76 : inf Try.prog 76 (.agg #[.int .i64 0, .int .i64 0, .slice none 0 0, .slice none 0 0, .slice none 0 0, .int .i64 0, .int .i64 0, .slice none 0 0, .slice none 0 0]) 9 152 := by unfold inf; kernel_rfl
theorem m76 : (Try.prog.info? 76).map (·.size) = some 9 := by kernel_rfl
theorem ag_76 : agB Try.prog 76 9 = true := by kernel_rfl
theorem f76_0 : faB Try.prog 76 0 0 = true := by kernel_rfl
theorem f76_1 : faB Try.prog 76 1 4 = true := by kernel_rfl
theorem f76_2 : faB Try.prog 76 2 5 = true := by kernel_rfl
theorem i77 : inf Try.prog 77 (.agg #[.int .i64 0, .int .i64 0, .slice none 0 0, .slice none 0 0, .slice none 0 0, .int .i64 0, .int .i64 0, .slice none 0 0, .slice none 0 0]) 9 152 := by unfold inf; kernel_rfl
theorem m77 : (Try.prog.info? 77).map (·.size) = some 9 := by kernel_rfl
theorem ag_77 : agB Try.prog 77 9 = true := by kernel_rfl
theorem f77_0 : faB Try.prog 77 0 0 = true := by kernel_rfl
theorem f77_1 : faB Try.prog 77 1 4 = true := by kernel_rfl
theorem f77_2 : faB Try.prog 77 2 5 = true := by kernel_rfl
theorem i78 : inf Try.prog 78 (.nilFunc) 1 8 := by unfold inf; kernel_rfl
theorem m78 : (Try.prog.info? 78).map (·.size) = some 1 := by kernel_rfl
theorem s78 : scB Try.prog 78 = true := by kernel_rfl
theorem i79 : inf Try.prog 79 (.nilFunc) 1 8 := by unfold inf; kernel_rfl
theorem m79 : (Try.prog.info? 79).map (·.size) = some 1 := by kernel_rfl
theorem s79 : scB Try.prog 79 = true := by kernel_rfl
theorem i80 : inf Try.prog 80 (.nilFunc) 1 8 := by unfold inf; kernel_rfl
theorem m80 : (Try.prog.info? 80).map (·.size) = some 1 := by kernel_rfl
theorem s80 : scB Try.prog 80 = true := by kernel_rfl
theorem i81 : inf Try.prog 81 (.pointer none) 1 8 := by unfold inf; kernel_rfl
theorem m81 : (Try.prog.info? 81).map (·.size) = some 1 := by kernel_rfl
theorem u81 : Try.prog.underlying 81 = some (.pointer 87) := Try.underlying81
theorem s81 : scB Try.prog 81 = true := by kernel_rfl
theorem i83 : inf Try.prog 83 (.nilFunc) 1 8 := by unfold inf; kernel_rfl
theorem m83 : (Try.prog.info? 83).map (·.size) = some 1 := by kernel_rfl
theorem s83 : scB Try.prog 83 = true := by kernel_rfl
theorem i84 : inf Try.prog 84 (.slice none 0 0) 1 24 := by unfold inf; kernel_rfl
theorem m84 : (Try.prog.info? 84).map (·.size) = some 1 := by kernel_rfl
theorem u84 : Try.prog.underlying 84 = some (.slice 46) := Try.underlying84
theorem s84 : scB Try.prog 84 = true := by kernel_rfl
theorem i85 : inf Try.prog 85 (.slice none 0 0) 1 24 := by unfold inf; kernel_rfl
theorem m85 : (Try.prog.info? 85).map (·.size) = some 1 := by kernel_rfl
theorem u85 : Try.prog.underlying 85 = some (.slice 58) := Try.underlying85
theorem s85 : scB Try.prog 85 = true := by kernel_rfl
theorem i86 : inf Try.prog 86 (.agg #[.int .i64 0, .int .i64 0, .slice none 0 0, .slice none 0 0, .slice none 0 0, .slice none 0 0, .slice none 0 0, .slice none 0 0, .bool false]) 9 168 := by unfold inf; kernel_rfl
theorem m86 : (Try.prog.info? 86).map (·.size) = some 9 := by kernel_rfl
theorem ag_86 : agB Try.prog 86 9 = true := by kernel_rfl
theorem f86_0 : faB Try.prog 86 0 0 = true := by kernel_rfl
theorem f86_1 : faB Try.prog 86 1 4 = true := by kernel_rfl
theorem f86_2 : faB Try.prog 86 2 5 = true := by kernel_rfl
theorem f86_3 : faB Try.prog 86 3 6 = true := by kernel_rfl
theorem f86_4 : faB Try.prog 86 4 7 = true := by kernel_rfl
theorem f86_5 : faB Try.prog 86 5 8 = true := by kernel_rfl
theorem i87 : inf Try.prog 87 (.agg #[.int .i64 0, .int .i64 0, .slice none 0 0, .slice none 0 0, .slice none 0 0, .slice none 0 0, .slice none 0 0, .slice none 0 0, .bool false]) 9 168 := by unfold inf; kernel_rfl
theorem m87 : (Try.prog.info? 87).map (·.size) = some 9 := by kernel_rfl
theorem ag_87 : agB Try.prog 87 9 = true := by kernel_rfl
theorem f87_0 : faB Try.prog 87 0 0 = true := by kernel_rfl
theorem f87_1 : faB Try.prog 87 1 4 = true := by kernel_rfl
theorem f87_2 : faB Try.prog 87 2 5 = true := by kernel_rfl
theorem f87_3 : faB Try.prog 87 3 6 = true := by kernel_rfl
theorem f87_4 : faB Try.prog 87 4 7 = true := by kernel_rfl
theorem f87_5 : faB Try.prog 87 5 8 = true := by kernel_rfl
theorem i88 : inf Try.prog 88 (.nilFunc) 1 8 := by unfold inf; kernel_rfl
theorem m88 : (Try.prog.info? 88).map (·.size) = some 1 := by kernel_rfl
theorem s88 : scB Try.prog 88 = true := by kernel_rfl
theorem i89 : inf Try.prog 89 (.nilFunc) 1 8 := by unfold inf; kernel_rfl
theorem m89 : (Try.prog.info? 89).map (·.size) = some 1 := by kernel_rfl
theorem s89 : scB Try.prog 89 = true := by kernel_rfl
theorem i91 : inf Try.prog 91 (.nilFunc) 1 8 := by unfold inf; kernel_rfl
theorem m91 : (Try.prog.info? 91).map (·.size) = some 1 := by kernel_rfl
theorem s91 : scB Try.prog 91 = true := by kernel_rfl
theorem i92 : inf Try.prog 92 (.nilFunc) 1 8 := by unfold inf; kernel_rfl
theorem m92 : (Try.prog.info? 92).map (·.size) = some 1 := by kernel_rfl
theorem s92 : scB Try.prog 92 = true := by kernel_rfl
theorem i93 : inf Try.prog 93 (.nilFunc) 1 8 := by unfold inf; kernel_rfl
theorem m93 : (Try.prog.info? 93).map (·.size) = some 1 := by kernel_rfl
theorem s93 : scB Try.prog 93 = true := by kernel_rfl
theorem i94 : inf Try.prog 94 (.nilFunc) 1 8 := by unfold inf; kernel_rfl
theorem m94 : (Try.prog.info? 94).map (·.size) = some 1 := by kernel_rfl
theorem s94 : scB Try.prog 94 = true := by kernel_rfl
theorem i96 : inf Try.prog 96 (.nilFunc) 1 8 := by unfold inf; kernel_rfl
theorem m96 : (Try.prog.info? 96).map (·.size) = some 1 := by kernel_rfl
theorem s96 : scB Try.prog 96 = true := by kernel_rfl
theorem i97 : inf Try.prog 97 (.pointer none) 1 8 := by unfold inf; kernel_rfl
theorem m97 : (Try.prog.info? 97).map (·.size) = some 1 := by kernel_rfl
theorem u97 : Try.prog.underlying 97 = some (.pointer 100) := Try.underlying97
theorem s97 : scB Try.prog 97 = true := by kernel_rfl
theorem i98 : inf Try.prog 98 (.nilFunc) 1 8 := by unfold inf; kernel_rfl
theorem m98 : (Try.prog.info? 98).map (·.size) = some 1 := by kernel_rfl
theorem s98 : scB Try.prog 98 = true := by kernel_rfl
theorem i99 : inf Try.prog 99 (.agg #[.int .i64 0, .int .i64 0, .slice none 0 0, .slice none 0 0, .slice none 0 0, .slice none 0 0, .slice none 0 0, .slice none 0 0, .slice none 0 0, .slice none 0 0, .slice none 0 0, .slice none 0 0, .slice none 0 0, .slice none 0 0, .slice none 0 0]) 15 328 := by unfold inf; kernel_rfl
theorem m99 : (Try.prog.info? 99).map (·.size) = some 15 := by kernel_rfl
theorem ag_99 : agB Try.prog 99 15 = true := by kernel_rfl
theorem f99_0 : faB Try.prog 99 0 0 = true := by kernel_rfl
theorem f99_1 : faB Try.prog 99 1 4 = true := by kernel_rfl
theorem f99_2 : faB Try.prog 99 2 5 = true := by kernel_rfl
theorem f99_3 : faB Try.prog 99 3 6 = true := by kernel_rfl
theorem f99_4 : faB Try.prog 99 4 7 = true := by kernel_rfl
theorem f99_5 : faB Try.prog 99 5 8 = true := by kernel_rfl
theorem f99_6 : faB Try.prog 99 6 9 = true := by kernel_rfl
theorem f99_7 : faB Try.prog 99 7 10 = true := by kernel_rfl
theorem f99_8 : faB Try.prog 99 8 11 = true := by kernel_rfl
theorem f99_9 : faB Try.prog 99 9 12 = true := by kernel_rfl
theorem f99_10 : faB Try.prog 99 10 13 = true := by kernel_rfl
theorem f99_11 : faB Try.prog 99 11 14 = true := by kernel_rfl
theorem i100 : inf Try.prog 100 (.agg #[.int .i64 0, .int .i64 0, .slice none 0 0, .slice none 0 0, .slice none 0 0, .slice none 0 0, .slice none 0 0, .slice none 0 0, .slice none 0 0, .slice none 0 0, .slice none 0 0, .slice none 0 0, .slice none 0 0, .slice none 0 0, .slice none 0 0]) 15 328 := by unfold inf; kernel_rfl
theorem m100 : (Try.prog.info? 100).map (·.size) = some 15 := by kernel_rfl
theorem ag_100 : agB Try.prog 100 15 = true := by kernel_rfl
theorem f100_0 : faB Try.prog 100 0 0 = true := by kernel_rfl
theorem f100_1 : faB Try.prog 100 1 4 = true := by kernel_rfl
theorem f100_2 : faB Try.prog 100 2 5 = true := by kernel_rfl
theorem f100_3 : faB Try.prog 100 3 6 = true := by kernel_rfl
theorem f100_4 : faB Try.prog 100 4 7 = true := by kernel_rfl
theorem f100_5 : faB Try.prog 100 5 8 = true := by kernel_rfl
theorem f100_6 : faB Try.prog 100 6 9 = true := by kernel_rfl
theorem f100_7 : faB Try.prog 100 7 10 = true := by kernel_rfl
theorem f100_8 : faB Try.prog 100 8 11 = true := by kernel_rfl
theorem f100_9 : faB Try.prog 100 9 12 = true := by kernel_rfl
theorem f100_10 : faB Try.prog 100 10 13 = true := by kernel_rfl
theorem f100_11 : faB Try.prog 100 11 14 = true := by kernel_rfl
theorem i101 : inf Try.prog 101 (.nilFunc) 1 8 := by unfold inf; kernel_rfl
theorem m101 : (Try.prog.info? 101).map (·.size) = some 1 := by kernel_rfl
theorem s101 : scB Try.prog 101 = true := by kernel_rfl
theorem i102 : inf Try.prog 102 (.nilFunc) 1 8 := by unfold inf; kernel_rfl
theorem m102 : (Try.prog.info? 102).map (·.size) = some 1 := by kernel_rfl
theorem s102 : scB Try.prog 102 = true := by kernel_rfl
theorem i103 : inf Try.prog 103 (.slice none 0 0) 1 24 := by unfold inf; kernel_rfl
theorem m103 : (Try.prog.info? 103).map (·.size) = some 1 := by kernel_rfl
theorem u103 : Try.prog.underlying 103 = some (.slice 133) := Try.underlying103
theorem s103 : scB Try.prog 103 = true := by kernel_rfl
theorem i105 : inf Try.prog 105 (.nilFunc) 1 8 := by unfold inf; kernel_rfl
theorem m105 : (Try.prog.info? 105).map (·.size) = some 1 := by kernel_rfl
theorem s105 : scB Try.prog 105 = true := by kernel_rfl
theorem i106 : inf Try.prog 106 (.pointer none) 1 8 := by unfold inf; kernel_rfl
theorem m106 : (Try.prog.info? 106).map (·.size) = some 1 := by kernel_rfl
theorem u106 : Try.prog.underlying 106 = some (.pointer 108) := Try.underlying106
theorem s106 : scB Try.prog 106 = true := by kernel_rfl
theorem i107 : inf Try.prog 107 (.agg #[.int .i64 0, .nilIface]) 2 24 := by unfold inf; kernel_rfl
theorem m107 : (Try.prog.info? 107).map (·.size) = some 2 := by kernel_rfl
theorem ag_107 : agB Try.prog 107 2 = true := by kernel_rfl
theorem f107_0 : faB Try.prog 107 0 0 = true := by kernel_rfl
theorem f107_1 : faB Try.prog 107 1 1 = true := by kernel_rfl
theorem i108 : inf Try.prog 108 (.agg #[.int .i64 0, .nilIface]) 2 24 := by unfold inf; kernel_rfl
theorem m108 : (Try.prog.info? 108).map (·.size) = some 2 := by kernel_rfl
theorem ag_108 : agB Try.prog 108 2 = true := by kernel_rfl
theorem f108_0 : faB Try.prog 108 0 0 = true := by kernel_rfl
theorem f108_1 : faB Try.prog 108 1 1 = true := by kernel_rfl
theorem i109 : inf Try.prog 109 (.pointer none) 1 8 := by unfold inf; kernel_rfl
theorem m109 : (Try.prog.info? 109).map (·.size) = some 1 := by kernel_rfl
theorem u109 : Try.prog.underlying 109 = some (.pointer 112) := Try.underlying109
theorem s109 : scB Try.prog 109 = true := by kernel_rfl
theorem i110 : inf Try.prog 110 (.nilFunc) 1 8 := by unfold inf; kernel_rfl
theorem m110 : (Try.prog.info? 110).map (·.size) = some 1 := by kernel_rfl
theorem s110 : scB Try.prog 110 = true := by kernel_rfl
theorem i111 : inf Try.prog 111 (.agg #[.int .i64 0, .int .i64 0, .slice none 0 0, .slice none 0 0, .slice none 0 0, .slice none 0 0, .int .i64 0]) 7 120 := by unfold inf; kernel_rfl
theorem m111 : (Try.prog.info? 111).map (·.size) = some 7 := by kernel_rfl
theorem ag_111 : agB Try.prog 111 7 = true := by kernel_rfl
theorem f111_0 : faB Try.prog 111 0 0 = true := by kernel_rfl
theorem f111_1 : faB Try.prog 111 1 4 = true := by kernel_rfl
theorem f111_2 : faB Try.prog 111 2 5 = true := by kernel_rfl
theorem f111_3 : faB Try.prog 111 3 6 = true := by kernel_rfl
theorem i112 : inf Try.prog 112 (.agg #[.int .i64 0, .int .i64 0, .slice none 0 0, .slice none 0 0, .slice none 0 0, .slice none 0 0, .int .i64 0]) 7 120 := by unfold inf; kernel_rfl
theorem m112 : (Try.prog.info? 112).map (·.size) = some 7 := by kernel_rfl
theorem ag_112 : agB Try.prog 112 7 = true := by kernel_rfl
theorem f112_0 : faB Try.prog 112 0 0 = true := by kernel_rfl
theorem f112_1 : faB Try.prog 112 1 4 = true := by kernel_rfl
theorem f112_2 : faB Try.prog 112 2 5 = true := by kernel_rfl
theorem f112_3 : faB Try.prog 112 3 6 = true := by kernel_rfl
theorem i113 : inf Try.prog 113 (.nilFunc) 1 8 := by unfold inf; kernel_rfl
theorem m113 : (Try.prog.info? 113).map (·.size) = some 1 := by kernel_rfl
theorem s113 : scB Try.prog 113 = true := by kernel_rfl
theorem i114 : inf Try.prog 114 (.nilFunc) 1 8 := by unfold inf; kernel_rfl
theorem m114 : (Try.prog.info? 114).map (·.size) = some 1 := by kernel_rfl
theorem s114 : scB Try.prog 114 = true := by kernel_rfl
theorem i115 : inf Try.prog 115 (.nilFunc) 1 8 := by unfold inf; kernel_rfl
theorem m115 : (Try.prog.info? 115).map (·.size) = some 1 := by kernel_rfl
theorem s115 : scB Try.prog 115 = true := by kernel_rfl
theorem i116 : inf Try.prog 116 (.nilFunc) 1 8 := by unfold inf; kernel_rfl
theorem m116 : (Try.prog.info? 116).map (·.size) = some 1 := by kernel_rfl
theorem s116 : scB Try.prog 116 = true := by kernel_rfl
theorem i118 : inf Try.prog 118 (.nilFunc) 1 8 := by unfold inf; kernel_rfl
theorem m118 : (Try.prog.info? 118).map (·.size) = some 1 := by kernel_rfl
theorem s118 : scB Try.prog 118 = true := by kernel_rfl
theorem i120 : inf Try.prog 120 (.nilFunc) 1 8 := by unfold inf; kernel_rfl
theorem m120 : (Try.prog.info? 120).map (·.size) = some 1 := by kernel_rfl
theorem s120 : scB Try.prog 120 = true := by kernel_rfl
theorem i121 : inf Try.prog 121 (.nilFunc) 1 8 := by unfold inf; kernel_rfl
theorem m121 : (Try.prog.info? 121).map (·.size) = some 1 := by kernel_rfl
theorem s121 : scB Try.prog 121 = true := by kernel_rfl
theorem i122 : inf Try.prog 122 (.nilFunc) 1 8 := by unfold inf; kernel_rfl
theorem m122 : (Try.prog.info? 122).map (·.size) = some 1 := by kernel_rfl
theorem s122 : scB Try.prog 122 = true := by kernel_rfl
theorem i123 : inf Try.prog 123 (.nilFunc) 1 8 := by unfold inf; kernel_rfl
theorem m123 : (Try.prog.info? 123).map (·.size) = some 1 := by kernel_rfl
theorem s123 : scB Try.prog 123 = true := by kernel_rfl
theorem i124 : inf Try.prog 124 (.nilFunc) 1 8 := by unfold inf; kernel_rfl
theorem m124 : (Try.prog.info? 124).map (·.size) = some 1 := by kernel_rfl
theorem s124 : scB Try.prog 124 = true := by kernel_rfl
theorem i125 : inf Try.prog 125 (.nilFunc) 1 8 := by unfold inf; kernel_rfl
theorem m125 : (Try.prog.info? 125).map (·.size) = some 1 := by kernel_rfl
theorem s125 : scB Try.prog 125 = true := by kernel_rfl
theorem i126 : inf Try.prog 126 (.nilFunc) 1 8 := by unfold inf; kernel_rfl
theorem m126 : (Try.prog.info? 126).map (·.size) = some 1 := by kernel_rfl
theorem s126 : scB Try.prog 126 = true := by kernel_rfl
theorem i127 : inf Try.prog 127 (.nilFunc) 1 8 := by unfold inf; kernel_rfl
theorem m127 : (Try.prog.info? 127).map (·.size) = some 1 := by kernel_rfl
theorem s127 : scB Try.prog 127 = true := by kernel_rfl
theorem i128 : inf Try.prog 128 (.nilFunc) 1 8 := by unfold inf; kernel_rfl
theorem m128 : (Try.prog.info? 128).map (·.size) = some 1 := by kernel_rfl
theorem s128 : scB Try.prog 128 = true := by kernel_rfl
theorem i129 : inf Try.prog 129 (.nilFunc) 1 8 := by unfold inf; kernel_rfl
theorem m129 : (Try.prog.info? 129).map (·.size) = some 1 := by kernel_rfl
theorem s129 : scB Try.prog 129 = true := by kernel_rfl
theorem i131 : inf Try.prog 131 (.nilFunc) 1 8 := by unfold inf; kernel_rfl
theorem m131 : (Try.prog.info? 131).map (·.size) = some 1 := by kernel_rfl
theorem s131 : scB Try.prog 131 = true := by kernel_rfl
theorem i132 : inf Try.prog 132 (.agg #[.int .i64 0, .int .i64 0]) 2 16 := by unfold inf; kernel_rfl
theorem m132 : (Try.prog.info? 132).map (·.size) = some 2 := by kernel_rfl
theorem ag_132 : agB Try.prog 132 2 = true := by kernel_rfl
theorem f132_0 : faB Try.prog 132 0 0 = true := by kernel_rfl
theorem f132_1 : faB Try.prog 132 1 1 = true := by kernel_rfl
theorem i133 : inf Try.prog 133 (.agg #[.int .i64 0, .int .i64 0]) 2 16 := by unfold inf; kernel_rfl
theorem m133 : (Try.prog.info? 133).map (·.size) = some 2 := by kernel_rfl
theorem ag_133 : agB Try.prog 133 2 = true := by kernel_rfl
theorem f133_0 : faB Try.prog 133 0 0 = true := by kernel_rfl
theorem f133_1 : faB Try.prog 133 1 1 = true := by kernel_rfl
theorem i134 : inf Try.prog 134 (.nilFunc) 1 8 := by unfold inf; kernel_rfl
theorem m134 : (Try.prog.info? 134).map (·.size) = some 1 := by kernel_rfl
theorem s134 : scB Try.prog 134 = true := by kernel_rfl
theorem i135 : inf Try.prog 135 (.nilFunc) 1 8 := by unfold inf; kernel_rfl
theorem m135 : (Try.prog.info? 135).map (·.size) = some 1 := by kernel_rfl
theorem s135 : scB Try.prog 135 = true := by kernel_rfl
theorem i136 : inf Try.prog 136 (.nilFunc) 1 8 := by unfold inf; kernel_rfl
theorem m136 : (Try.prog.info? 136).map (·.size) = some 1 := by kernel_rfl
theorem s136 : scB Try.prog 136 = true := by kernel_rfl
theorem i137 : inf Try.prog 137 (.nilFunc) 1 8 := by unfold inf; kernel_rfl
theorem m137 : (Try.prog.info? 137).map (·.size) = some 1 := by kernel_rfl
theorem s137 : scB Try.prog 137 = true := by kernel_rfl
theorem i138 : inf Try.prog 138 (.nilFunc) 1 8 := by unfold inf; kernel_rfl
theorem m138 : (Try.prog.info? 138).map (·.size) = some 1 := by kernel_rfl
theorem s138 : scB Try.prog 138 = true := by kernel_rfl
theorem i139 : inf Try.prog 139 (.nilFunc) 1 8 := by unfold inf; kernel_rfl
theorem m139 : (Try.prog.info? 139).map (·.size) = some 1 := by kernel_rfl
theorem s139 : scB Try.prog 139 = true := by kernel_rfl
theorem i140 : inf Try.prog 140 (.nilFunc) 1 8 := by unfold inf; kernel_rfl
theorem m140 : (Try.prog.info? 140).map (·.size) = some 1 := by kernel_rfl
theorem s140 : scB Try.prog 140 = true := by kernel_rfl
theorem i141 : inf Try.prog 141 (.nilFunc) 1 8 := by unfold inf; kernel_rfl
theorem m141 : (Try.prog.info? 141).map (·.size) = some 1 := by kernel_rfl
theorem s141 : scB Try.prog 141 = true := by kernel_rfl
theorem i142 : inf Try.prog 142 (.nilFunc) 1 8 := by unfold inf; kernel_rfl
theorem m142 : (Try.prog.info? 142).map (·.size) = some 1 := by kernel_rfl
theorem s142 : scB Try.prog 142 = true := by kernel_rfl
theorem i143 : inf Try.prog 143 (.pointer none) 1 8 := by unfold inf; kernel_rfl
theorem m143 : (Try.prog.info? 143).map (·.size) = some 1 := by kernel_rfl
theorem u143 : Try.prog.underlying 143 = some (.pointer 145) := Try.underlying143
theorem s143 : scB Try.prog 143 = true := by kernel_rfl
theorem i144 : inf Try.prog 144 (.agg #[.slice none 0 0, .int .i64 0, .int .i64 0, .slice none 0 0, .slice none 0 0]) 5 88 := by unfold inf; kernel_rfl
theorem m144 : (Try.prog.info? 144).map (·.size) = some 5 := by kernel_rfl
theorem ag_144 : agB Try.prog 144 5 = true := by kernel_rfl
theorem f144_0 : faB Try.prog 144 0 0 = true := by kernel_rfl
theorem f144_1 : faB Try.prog 144 1 1 = true := by kernel_rfl
theorem i145 : inf Try.prog 145 (.agg #[.slice none 0 0, .int .i64 0, .int .i64 0, .slice none 0 0, .slice none 0 0]) 5 88 := by unfold inf; kernel_rfl
theorem m145 : (Try.prog.info? 145).map (·.size) = some 5 := by kernel_rfl
theorem ag_145 : agB Try.prog 145 5 = true := by kernel_rfl
theorem f145_0 : faB Try.prog 145 0 0 = true := by kernel_rfl
theorem f145_1 : faB Try.prog 145 1 1 = true := by kernel_rfl
theorem i146 : inf Try.prog 146 (.nilFunc) 1 8 := by unfold inf; kernel_rfl
theorem m146 : (Try.prog.info? 146).map (·.size) = some 1 := by kernel_rfl
theorem s146 : scB Try.prog 146 = true := by kernel_rfl
theorem i147 : inf Try.prog 147 (.nilFunc) 1 8 := by unfold inf; kernel_rfl
theorem m147 : (Try.prog.info? 147).map (·.size) = some 1 := by kernel_rfl
theorem s147 : scB Try.prog 147 = true := by kernel_rfl
theorem i148 : inf Try.prog 148 (.nilFunc) 1 8 := by unfold inf; kernel_rfl
theorem m148 : (Try.prog.info? 148).map (·.size) = some 1 := by kernel_rfl
theorem s148 : scB Try.prog 148 = true := by kernel_rfl
theorem i149 : inf Try.prog 149 (.nilFunc) 1 8 := by unfold inf; kernel_rfl
theorem m149 : (Try.prog.info? 149).map (·.size) = some 1 := by kernel_rfl
theorem s149 : scB Try.prog 149 = true := by kernel_rfl
theorem i150 : inf Try.prog 150 (.nilFunc) 1 8 := by unfold inf; kernel_rfl
theorem m150 : (Try.prog.info? 150).map (·.size) = some 1 := by kernel_rfl
theorem s150 : scB Try.prog 150 = true := by kernel_rfl
theorem i152 : inf Try.prog 152 (.nilFunc) 1 8 := by unfold inf; kernel_rfl
theorem m152 : (Try.prog.info? 152).map (·.size) = some 1 := by kernel_rfl
theorem s152 : scB Try.prog 152 = true := by kernel_rfl
theorem i153 : inf Try.prog 153 (.nilFunc) 1 8 := by unfold inf; kernel_rfl
theorem m153 : (Try.prog.info? 153).map (·.size) = some 1 := by kernel_rfl
theorem s153 : scB Try.prog 153 = true := by kernel_rfl
theorem i154 : inf Try.prog 154 (.nilFunc) 1 8 := by unfold inf; kernel_rfl
theorem m154 : (Try.prog.info? 154).map (·.size) = some 1 := by kernel_rfl
theorem s154 : scB Try.prog 154 = true := by kernel_rfl
theorem i155 : inf Try.prog 155 (.nilFunc) 1 8 := by unfold inf; kernel_rfl
theorem m155 : (Try.prog.info? 155).map (·.size) = some 1 := by kernel_rfl
theorem s155 : scB Try.prog 155 = true := by kernel_rfl
theorem i156 : inf Try.prog 156 (.nilFunc) 1 8 := by unfold inf; kernel_rfl
theorem m156 : (Try.prog.info? 156).map (·.size) = some 1 := by kernel_rfl
theorem s156 : scB Try.prog 156 = true := by kernel_rfl
theorem i157 : inf Try.prog 157 (.nilFunc) 1 8 := by unfold inf; kernel_rfl
theorem m157 : (Try.prog.info? 157).map (·.size) = some 1 := by kernel_rfl
theorem s157 : scB Try.prog 157 = true := by kernel_rfl
theorem i158 : inf Try.prog 158 (.nilFunc) 1 8 := by unfold inf; kernel_rfl
theorem m158 : (Try.prog.info? 158).map (·.size) = some 1 := by kernel_rfl
theorem s158 : scB Try.prog 158 = true := by kernel_rfl
theorem i159 : inf Try.prog 159 (.int .u64 0) 1 8 := by unfold inf; kernel_rfl
theorem m159 : (Try.prog.info? 159).map (·.size) = some 1 := by kernel_rfl
theorem u159 : Try.prog.underlying 159 = some (.int .u64) := Try.underlying159
theorem s159 : scB Try.prog 159 = true := by kernel_rfl
theorem i160 : inf Try.prog 160 (.nilFunc) 1 8 := by unfold inf; kernel_rfl
theorem m160 : (Try.prog.info? 160).map (·.size) = some 1 := by kernel_rfl
theorem s160 : scB Try.prog 160 = true := by kernel_rfl
theorem i161 : inf Try.prog 161 (.nilFunc) 1 8 := by unfold inf; kernel_rfl
theorem m161 : (Try.prog.info? 161).map (·.size) = some 1 := by kernel_rfl
theorem s161 : scB Try.prog 161 = true := by kernel_rfl
theorem i162 : inf Try.prog 162 (.nilFunc) 1 8 := by unfold inf; kernel_rfl
theorem m162 : (Try.prog.info? 162).map (·.size) = some 1 := by kernel_rfl
theorem s162 : scB Try.prog 162 = true := by kernel_rfl
theorem i163 : inf Try.prog 163 (.nilFunc) 1 8 := by unfold inf; kernel_rfl
theorem m163 : (Try.prog.info? 163).map (·.size) = some 1 := by kernel_rfl
theorem s163 : scB Try.prog 163 = true := by kernel_rfl
theorem i165 : inf Try.prog 165 (.nilFunc) 1 8 := by unfold inf; kernel_rfl
theorem m165 : (Try.prog.info? 165).map (·.size) = some 1 := by kernel_rfl
theorem s165 : scB Try.prog 165 = true := by kernel_rfl
theorem i166 : inf Try.prog 166 (.nilFunc) 1 8 := by unfold inf; kernel_rfl
theorem m166 : (Try.prog.info? 166).map (·.size) = some 1 := by kernel_rfl
theorem s166 : scB Try.prog 166 = true := by kernel_rfl
theorem i167 : inf Try.prog 167 (.agg #[.pointer none, .pointer none, .pointer none, .string ⟨#[]⟩]) 4 40 := by unfold inf; kernel_rfl
theorem m167 : (Try.prog.info? 167).map (·.size) = some 4 := by kernel_rfl
theorem ag_167 : agB Try.prog 167 4 = true := by kernel_rfl
theorem f167_0 : faB Try.prog 167 0 0 = true := by kernel_rfl
theorem f167_1 : faB Try.prog 167 1 1 = true := by kernel_rfl
theorem f167_2 : faB Try.prog 167 2 2 = true := by kernel_rfl
theorem f167_3 : faB Try.prog 167 3 3 = true := by kernel_rfl
theorem i168 : inf Try.prog 168 (.agg #[.pointer none, .pointer none, .pointer none, .string ⟨#[]⟩]) 4 40 := by unfold inf; kernel_rfl
theorem m168 : (Try.prog.info? 168).map (·.size) = some 4 := by kernel_rfl
theorem ag_168 : agB Try.prog 168 4 = true := by kernel_rfl
theorem f168_0 : faB Try.prog 168 0 0 = true := by kernel_rfl
theorem f168_1 : faB Try.prog 168 1 1 = true := by kernel_rfl
theorem f168_2 : faB Try.prog 168 2 2 = true := by kernel_rfl
theorem f168_3 : faB Try.prog 168 3 3 = true := by kernel_rfl
theorem i169 : inf Try.prog 169 (.agg #[]) 0 0 := by unfold inf; kernel_rfl
theorem m169 : (Try.prog.info? 169).map (·.size) = some 0 := by kernel_rfl
theorem ag_169 : agB Try.prog 169 0 = true := by kernel_rfl
theorem i170 : inf Try.prog 170 (.agg #[]) 0 0 := by unfold inf; kernel_rfl
theorem m170 : (Try.prog.info? 170).map (·.size) = some 0 := by kernel_rfl
theorem ag_170 : agB Try.prog 170 0 = true := by kernel_rfl
theorem i171 : inf Try.prog 171 (.agg #[]) 0 0 := by unfold inf; kernel_rfl
theorem m171 : (Try.prog.info? 171).map (·.size) = some 0 := by kernel_rfl
theorem ag_171 : agB Try.prog 171 0 = true := by kernel_rfl
theorem i172 : inf Try.prog 172 (.nilFunc) 1 8 := by unfold inf; kernel_rfl
theorem m172 : (Try.prog.info? 172).map (·.size) = some 1 := by kernel_rfl
theorem s172 : scB Try.prog 172 = true := by kernel_rfl
theorem i173 : inf Try.prog 173 (.int .u32 0) 1 4 := by unfold inf; kernel_rfl
theorem m173 : (Try.prog.info? 173).map (·.size) = some 1 := by kernel_rfl
theorem u173 : Try.prog.underlying 173 = some (.int .u32) := Try.underlying173
theorem s173 : scB Try.prog 173 = true := by kernel_rfl
theorem i174 : inf Try.prog 174 (.int .u8 0) 1 1 := by unfold inf; kernel_rfl
theorem m174 : (Try.prog.info? 174).map (·.size) = some 1 := by kernel_rfl
theorem u174 : Try.prog.underlying 174 = some (.int .u8) := Try.underlying174
theorem s174 : scB Try.prog 174 = true := by kernel_rfl
theorem i175 : inf Try.prog 175 (.int .u8 0) 1 1 := by unfold inf; kernel_rfl
theorem m175 : (Try.prog.info? 175).map (·.size) = some 1 := by kernel_rfl
theorem u175 : Try.prog.underlying 175 = some (.int .u8) := Try.underlying175
theorem s175 : scB Try.prog 175 = true := by kernel_rfl
theorem i176 : inf Try.prog 176 (.nilFunc) 1 8 := by unfold inf; kernel_rfl
theorem m176 : (Try.prog.info? 176).map (·.size) = some 1 := by kernel_rfl
theorem s176 : scB Try.prog 176 = true := by kernel_rfl
theorem i177 : inf Try.prog 177 (.pointer none) 1 8 := by unfold inf; kernel_rfl
theorem m177 : (Try.prog.info? 177).map (·.size) = some 1 := by kernel_rfl
theorem u177 : Try.prog.underlying 177 = some (.pointer 5) := Try.underlying177
theorem s177 : scB Try.prog 177 = true := by kernel_rfl
theorem i178 : inf Try.prog 178 (.int .i32 0) 1 4 := by unfold inf; kernel_rfl
theorem m178 : (Try.prog.info? 178).map (·.size) = some 1 := by kernel_rfl
theorem u178 : Try.prog.underlying 178 = some (.int .i32) := Try.underlying178
theorem s178 : scB Try.prog 178 = true := by kernel_rfl
theorem i179 : inf Try.prog 179 (.int .i32 0) 1 4 := by unfold inf; kernel_rfl
theorem m179 : (Try.prog.info? 179).map (·.size) = some 1 := by kernel_rfl
theorem u179 : Try.prog.underlying 179 = some (.int .i32) := Try.underlying179
theorem s179 : scB Try.prog 179 = true := by kernel_rfl
theorem i180 : inf Try.prog 180 (.agg #[.int .u64 0, .int .u64 0, .int .u32 0, .int .u8 0, .int .u8 0, .int .u8 0, .int .u8 0, .nilFunc, .pointer none, .int .i32 0, .int .i32 0]) 11 48 := by unfold inf; kernel_rfl
theorem m180 : (Try.prog.info? 180).map (·.size) = some 11 := by kernel_rfl
theorem ag_180 : agB Try.prog 180 11 = true := by kernel_rfl
theorem f180_0 : faB Try.prog 180 0 0 = true := by kernel_rfl
theorem f180_1 : faB Try.prog 180 1 1 = true := by kernel_rfl
theorem f180_2 : faB Try.prog 180 2 2 = true := by kernel_rfl
theorem f180_3 : faB Try.prog 180 3 3 = true := by kernel_rfl
theorem f180_4 : faB Try.prog 180 4 4 = true := by kernel_rfl
theorem f180_5 : faB Try.prog 180 5 5 = true := by kernel_rfl
theorem f180_6 : faB Try.prog 180 6 6 = true := by kernel_rfl
theorem f180_7 : faB Try.prog 180 7 7 = true := by kernel_rfl
theorem f180_8 : faB Try.prog 180 8 8 = true := by kernel_rfl
theorem f180_9 : faB Try.prog 180 9 9 = true := by kernel_rfl
theorem f180_10 : faB Try.prog 180 10 10 = true := by kernel_rfl
theorem i181 : inf Try.prog 181 (.agg #[.int .u64 0, .int .u64 0, .int .u32 0, .int .u8 0, .int .u8 0, .int .u8 0, .int .u8 0, .nilFunc, .pointer none, .int .i32 0, .int .i32 0]) 11 48 := by unfold inf; kernel_rfl
theorem m181 : (Try.prog.info? 181).map (·.size) = some 11 := by kernel_rfl
theorem ag_181 : agB Try.prog 181 11 = true := by kernel_rfl
theorem f181_0 : faB Try.prog 181 0 0 = true := by kernel_rfl
theorem f181_1 : faB Try.prog 181 1 1 = true := by kernel_rfl
theorem f181_2 : faB Try.prog 181 2 2 = true := by kernel_rfl
theorem f181_3 : faB Try.prog 181 3 3 = true := by kernel_rfl
theorem f181_4 : faB Try.prog 181 4 4 = true := by kernel_rfl
theorem f181_5 : faB Try.prog 181 5 5 = true := by kernel_rfl
theorem f181_6 : faB Try.prog 181 6 6 = true := by kernel_rfl
theorem f181_7 : faB Try.prog 181 7 7 = true := by kernel_rfl
theorem f181_8 : faB Try.prog 181 8 8 = true := by kernel_rfl
theorem f181_9 : faB Try.prog 181 9 9 = true := by kernel_rfl
theorem f181_10 : faB Try.prog 181 10 10 = true := by kernel_rfl
theorem i182 : inf Try.prog 182 (.pointer none) 1 8 := by unfold inf; kernel_rfl
theorem m182 : (Try.prog.info? 182).map (·.size) = some 1 := by kernel_rfl
theorem c3 : callB Try.prog 3 = true := by kernel_rfl
theorem c4 : callB Try.prog 4 = true := by kernel_rfl
theorem c5 : callB Try.prog 5 = true := by kernel_rfl
theorem c6 : callB Try.prog 6 = true := by kernel_rfl
theorem c7 : callB Try.prog 7 = true := by kernel_rfl
theorem c8 : callB Try.prog 8 = true := by kernel_rfl
theorem c9 : callB Try.prog 9 = true := by kernel_rfl
theorem c10 : callB Try.prog 10 = true := by kernel_rfl
theorem c11 : callB Try.prog 11 = true := by kernel_rfl
theorem c12 : callB Try.prog 12 = true := by kernel_rfl
theorem c13 : callB Try.prog 13 = true := by kernel_rfl
theorem c14 : callB Try.prog 14 = true := by kernel_rfl
theorem c15 : callB Try.prog 15 = true := by kernel_rfl
theorem c16 : callB Try.prog 16 = true := by kernel_rfl
theorem c17 : callB Try.prog 17 = true := by kernel_rfl
theorem c18 : callB Try.prog 18 = true := by kernel_rfl
theorem c19 : callB Try.prog 19 = true := by kernel_rfl
theorem c20 : callB Try.prog 20 = true := by kernel_rfl
theorem c21 : callB Try.prog 21 = true := by kernel_rfl
theorem c22 : callB Try.prog 22 = true := by kernel_rfl
theorem c23 : callB Try.prog 23 = true := by kernel_rfl
theorem c24 : callB Try.prog 24 = true := by kernel_rfl
theorem c25 : callB Try.prog 25 = true := by kernel_rfl
theorem c26 : callB Try.prog 26 = true := by kernel_rfl
theorem c27 : callB Try.prog 27 = true := by kernel_rfl
theorem c28 : callB Try.prog 28 = true := by kernel_rfl
theorem c29 : callB Try.prog 29 = true := by kernel_rfl
theorem c30 : callB Try.prog 30 = true := by kernel_rfl
theorem c31 : callB Try.prog 31 = true := by kernel_rfl
theorem c32 : callB Try.prog 32 = true := by kernel_rfl
theorem c33 : callB Try.prog 33 = true := by kernel_rfl
theorem c34 : callB Try.prog 34 = true := by kernel_rfl
theorem c35 : callB Try.prog 35 = true := by kernel_rfl
theorem c36 : callB Try.prog 36 = true := by kernel_rfl
theorem c37 : callB Try.prog 37 = true := by kernel_rfl
theorem c38 : callB Try.prog 38 = true := by kernel_rfl
theorem c39 : callB Try.prog 39 = true := by kernel_rfl
theorem c40 : callB Try.prog 40 = true := by kernel_rfl
theorem c41 : callB Try.prog 41 = true := by kernel_rfl
theorem c42 : callB Try.prog 42 = true := by kernel_rfl
theorem c43 : callB Try.prog 43 = true := by kernel_rfl
theorem c44 : callB Try.prog 44 = true := by kernel_rfl
theorem c45 : callB Try.prog 45 = true := by kernel_rfl
theorem c46 : callB Try.prog 46 = true := by kernel_rfl
theorem c47 : callB Try.prog 47 = true := by kernel_rfl
theorem c48 : callB Try.prog 48 = true := by kernel_rfl
theorem c49 : callB Try.prog 49 = true := by kernel_rfl
theorem c50 : callB Try.prog 50 = true := by kernel_rfl
theorem c51 : callB Try.prog 51 = true := by kernel_rfl
theorem c52 : callB Try.prog 52 = true := by kernel_rfl
theorem c53 : callB Try.prog 53 = true := by kernel_rfl
theorem c54 : callB Try.prog 54 = true := by kernel_rfl
theorem c55 : callB Try.prog 55 = true := by kernel_rfl
theorem c56 : callB Try.prog 56 = true := by kernel_rfl
theorem c57 : callB Try.prog 57 = true := by kernel_rfl
theorem c58 : callB Try.prog 58 = true := by kernel_rfl
theorem c59 : callB Try.prog 59 = true := by kernel_rfl
theorem c60 : callB Try.prog 60 = true := by kernel_rfl
theorem c61 : callB Try.prog 61 = true := by kernel_rfl
theorem c62 : callB Try.prog 62 = true := by kernel_rfl
theorem c63 : callB Try.prog 63 = true := by kernel_rfl
theorem c64 : callB Try.prog 64 = true := by kernel_rfl
theorem c65 : callB Try.prog 65 = true := by kernel_rfl
theorem c66 : callB Try.prog 66 = true := by kernel_rfl
theorem c67 : callB Try.prog 67 = true := by kernel_rfl
theorem c68 : callB Try.prog 68 = true := by kernel_rfl
theorem c69 : callB Try.prog 69 = true := by kernel_rfl
theorem c70 : callB Try.prog 70 = true := by kernel_rfl
theorem c71 : callB Try.prog 71 = true := by kernel_rfl
theorem c72 : callB Try.prog 72 = true := by kernel_rfl
theorem c73 : callB Try.prog 73 = true := by kernel_rfl
theorem c74 : callB Try.prog 74 = true := by kernel_rfl
theorem c75 : callB Try.prog 75 = true := by kernel_rfl
theorem c76 : callB Try.prog 76 = true := by kernel_rfl
theorem c77 : callB Try.prog 77 = true := by kernel_rfl
theorem c78 : callB Try.prog 78 = true := by kernel_rfl
theorem c79 : callB Try.prog 79 = true := by kernel_rfl
theorem c80 : callB Try.prog 80 = true := by kernel_rfl
theorem c81 : callB Try.prog 81 = true := by kernel_rfl
theorem c82 : callB Try.prog 82 = true := by kernel_rfl
theorem c83 : callB Try.prog 83 = true := by kernel_rfl
theorem c84 : callB Try.prog 84 = true := by kernel_rfl
theorem c85 : callB Try.prog 85 = true := by kernel_rfl
theorem c86 : callB Try.prog 86 = true := by kernel_rfl
theorem c87 : callB Try.prog 87 = true := by kernel_rfl
theorem c88 : callB Try.prog 88 = true := by kernel_rfl
theorem c89 : callB Try.prog 89 = true := by kernel_rfl
theorem c90 : callB Try.prog 90 = true := by kernel_rfl
theorem c91 : callB Try.prog 91 = true := by kernel_rfl
theorem c92 : callB Try.prog 92 = true := by kernel_rfl
theorem c93 : callB Try.prog 93 = true := by kernel_rfl
theorem c94 : callB Try.prog 94 = true := by kernel_rfl
theorem c95 : callB Try.prog 95 = true := by kernel_rfl
theorem c96 : callB Try.prog 96 = true := by kernel_rfl
theorem c97 : callB Try.prog 97 = true := by kernel_rfl
theorem c98 : callB Try.prog 98 = true := by kernel_rfl
theorem c99 : callB Try.prog 99 = true := by kernel_rfl
theorem c100 : callB Try.prog 100 = true := by kernel_rfl
theorem c101 : callB Try.prog 101 = true := by kernel_rfl
theorem c102 : callB Try.prog 102 = true := by kernel_rfl
theorem c103 : callB Try.prog 103 = true := by kernel_rfl
theorem c104 : callB Try.prog 104 = true := by kernel_rfl
theorem c105 : callB Try.prog 105 = true := by kernel_rfl
theorem c106 : callB Try.prog 106 = true := by kernel_rfl
theorem c107 : callB Try.prog 107 = true := by kernel_rfl
theorem mix : Try.prog.follows .mixedOrders = true := by kernel_rfl
end Go.Proofs.Ytpmcbahahjelnaa
