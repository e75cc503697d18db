/- Facts on the translation's types, fields and functions. No conditions. -/
import Derived.Test.YtpomfbdbkejedaaTy
import Derived.Test.YtpomfbdbkejedaaProg
set_option linter.unusedVariables false
set_option linter.unusedSimpArgs false
namespace Go.Proofs.Ytpomfbdbkejedaa
open Go Go.Proofs
theorem i1 : inf Try.prog 1 (.nilFunc) 1 8 := by unfold inf; kernel_rfl
theorem m1 : (Try.prog.info? 1).map (·.size) = some 1 := by kernel_rfl
theorem s1 : scB Try.prog 1 = true := by kernel_rfl
theorem i2 : inf Try.prog 2 (.int .i64 0) 1 8 := by unfold inf; kernel_rfl
theorem m2 : (Try.prog.info? 2).map (·.size) = some 1 := by kernel_rfl
theorem u2 : Try.prog.underlying 2 = some (.int .i64) := Try.underlying2
theorem s2 : scB Try.prog 2 = true := by kernel_rfl
theorem i3 : inf Try.prog 3 (.int .i64 0) 1 8 := by unfold inf; kernel_rfl
theorem m3 : (Try.prog.info? 3).map (·.size) = some 1 := by kernel_rfl
theorem u3 : Try.prog.underlying 3 = some (.int .i64) := Try.underlying3
theorem s3 : scB Try.prog 3 = true := by kernel_rfl
theorem i4 : inf Try.prog 4 (.bool false) 1 1 := by unfold inf; kernel_rfl
theorem m4 : (Try.prog.info? 4).map (·.size) = some 1 := by kernel_rfl
theorem s4 : scB Try.prog 4 = true := by kernel_rfl
theorem i5 : inf Try.prog 5 (.int .u8 0) 1 1 := by unfold inf; kernel_rfl
theorem m5 : (Try.prog.info? 5).map (·.size) = some 1 := by kernel_rfl
theorem u5 : Try.prog.underlying 5 = some (.int .u8) := Try.underlying5
theorem s5 : scB Try.prog 5 = true := by kernel_rfl
theorem i6 : inf Try.prog 6 (.int .u8 0) 1 1 := by unfold inf; kernel_rfl
theorem m6 : (Try.prog.info? 6).map (·.size) = some 1 := by kernel_rfl
theorem u6 : Try.prog.underlying 6 = some (.int .u8) := Try.underlying6
theorem s6 : scB Try.prog 6 = true := by kernel_rfl
theorem i7 : inf Try.prog 7 (.agg #[.int .i64 0, .int .i64 0, .bool false, .int .u8 0]) 4 24 := by unfold inf; kernel_rfl
theorem m7 : (Try.prog.info? 7).map (·.size) = some 4 := by kernel_rfl
theorem ag_7 : agB Try.prog 7 4 = true := by kernel_rfl
theorem f7_0 : faB Try.prog 7 0 0 = true := by kernel_rfl
theorem f7_1 : faB Try.prog 7 1 1 = true := by kernel_rfl
theorem f7_2 : faB Try.prog 7 2 2 = true := by kernel_rfl
theorem f7_3 : faB Try.prog 7 3 3 = true := by kernel_rfl
theorem i8 : inf Try.prog 8 (.agg #[.int .i64 0, .int .i64 0, .bool false, .int .u8 0]) 4 24 := by unfold inf; kernel_rfl
theorem m8 : (Try.prog.info? 8).map (·.size) = some 4 := by kernel_rfl
theorem ag_8 : agB Try.prog 8 4 = true := by kernel_rfl
theorem f8_0 : faB Try.prog 8 0 0 = true := by kernel_rfl
theorem f8_1 : faB Try.prog 8 1 1 = true := by kernel_rfl
theorem f8_2 : faB Try.prog 8 2 2 = true := by kernel_rfl
theorem f8_3 : faB Try.prog 8 3 3 = true := by kernel_rfl
theorem i12 : inf Try.prog 12 (.int .u64 0) 1 8 := by unfold inf; kernel_rfl
theorem m12 : (Try.prog.info? 12).map (·.size) = some 1 := by kernel_rfl
theorem u12 : Try.prog.underlying 12 = some (.int .u64) := Try.underlying12
theorem s12 : scB Try.prog 12 = true := by kernel_rfl
theorem i13 : inf Try.prog 13 (.agg #[.string ⟨#[]⟩, .int .u64 0]) 2 24 := by unfold inf; kernel_rfl
theorem m13 : (Try.prog.info? 13).map (·.size) = some 2 := by kernel_rfl
theorem ag_13 : agB Try.prog 13 2 = true := by kernel_rfl
theorem f13_0 : faB Try.prog 13 0 0 = true := by kernel_rfl
theorem f13_1 : faB Try.prog 13 1 1 = true := by kernel_rfl
theorem i14 : inf Try.prog 14 (.agg #[.string ⟨#[]⟩, .int .u64 0]) 2 24 := by unfold inf; kernel_rfl
theorem m14 : (Try.prog.info? 14).map (·.size) = some 2 := by kernel_rfl
theorem ag_14 : agB Try.prog 14 2 = true := by kernel_rfl
theorem f14_0 : faB Try.prog 14 0 0 = true := by kernel_rfl
theorem f14_1 : faB Try.prog 14 1 1 = true := by kernel_rfl
theorem i15 : inf Try.prog 15 (.pointer none) 1 8 := by unfold inf; kernel_rfl
theorem m15 : (Try.prog.info? 15).map (·.size) = some 1 := by kernel_rfl
theorem u15 : Try.prog.underlying 15 = some (.pointer 167) := Try.underlying15
theorem s15 : scB Try.prog 15 = true := by kernel_rfl
theorem i16 : inf Try.prog 16 (.pointer none) 1 8 := by unfold inf; kernel_rfl
theorem m16 : (Try.prog.info? 16).map (·.size) = some 1 := by kernel_rfl
theorem u16 : Try.prog.underlying 16 = some (.pointer 170) := Try.underlying16
theorem s16 : scB Try.prog 16 = true := by kernel_rfl
theorem i17 : inf Try.prog 17 (.pointer none) 1 8 := by unfold inf; kernel_rfl
theorem m17 : (Try.prog.info? 17).map (·.size) = some 1 := by kernel_rfl
theorem u17 : Try.prog.underlying 17 = some (.pointer 179) := Try.underlying17
theorem s17 : scB Try.prog 17 = true := by kernel_rfl
theorem i18 : inf Try.prog 18 (.agg #[.pointer none]) 1 8 := by unfold inf; kernel_rfl
theorem m18 : (Try.prog.info? 18).map (·.size) = some 1 := by kernel_rfl
theorem ag_18 : agB Try.prog 18 1 = true := by kernel_rfl
theorem f18_0 : faB Try.prog 18 0 0 = true := by kernel_rfl
theorem i19 : inf Try.prog 19 (.agg #[.pointer none]) 1 8 := by unfold inf; kernel_rfl
theorem m19 : (Try.prog.info? 19).map (·.size) = some 1 := by kernel_rfl
theorem ag_19 : agB Try.prog 19 1 = true := by kernel_rfl
theorem f19_0 : faB Try.prog 19 0 0 = true := by kernel_rfl
theorem i20 : inf Try.prog 20 (.nilIface) 1 16 := by unfold inf; kernel_rfl
theorem m20 : (Try.prog.info? 20).map (·.size) = some 1 := by kernel_rfl
theorem s20 : scB Try.prog 20 = true := by kernel_rfl
theorem i21 : inf Try.prog 21 (.int .i32 0) 1 4 := by unfold inf; kernel_rfl
theorem m21 : (Try.prog.info? 21).map (·.size) = some 1 := by kernel_rfl
theorem u21 : Try.prog.underlying 21 = some (.int .i32) := Try.underlying21
theorem s21 : scB Try.prog 21 = true := by kernel_rfl
theorem i22 : inf Try.prog 22 (.slice none 0 0) 1 24 := by unfold inf; kernel_rfl
theorem m22 : (Try.prog.info? 22).map (·.size) = some 1 := by kernel_rfl
theorem u22 : Try.prog.underlying 22 = some (.slice 39) := Try.underlying22
theorem s22 : scB Try.prog 22 = true := by kernel_rfl
theorem i23 : inf Try.prog 23 (.agg #[.slice none 0 0]) 1 24 := by unfold inf; kernel_rfl
theorem m23 : (Try.prog.info? 23).map (·.size) = some 1 := by kernel_rfl
theorem ag_23 : agB Try.prog 23 1 = true := by kernel_rfl
theorem f23_0 : faB Try.prog 23 0 0 = true := by kernel_rfl
theorem i24 : inf Try.prog 24 (.agg #[.slice none 0 0]) 1 24 := by unfold inf; kernel_rfl
theorem m24 : (Try.prog.info? 24).map (·.size) = some 1 := by kernel_rfl
theorem ag_24 : agB Try.prog 24 1 = true := by kernel_rfl
theorem f24_0 : faB Try.prog 24 0 0 = true := by kernel_rfl
theorem i25 : inf Try.prog 25 (.nilFunc) 1 8 := by unfold inf; kernel_rfl
theorem m25 : (Try.prog.info? 25).map (·.size) = some 1 := by kernel_rfl
theorem s25 : scB Try.prog 25 = true := by kernel_rfl
theorem i26 : inf Try.prog 26 (.nilFunc) 1 8 := by unfold inf; kernel_rfl
theorem m26 : (Try.prog.info? 26).map (·.size) = some 1 := by kernel_rfl
theorem s26 : scB Try.prog 26 = true := by kernel_rfl
theorem i27 : inf Try.prog 27 (.nilFunc) 1 8 := by unfold inf; kernel_rfl
theorem m27 : (Try.prog.info? 27).map (·.size) = some 1 := by kernel_rfl
theorem s27 : scB Try.prog 27 = true := by kernel_rfl
theorem i28 : inf Try.prog 28 (.slice none 0 0) 1 24 := by unfold inf; kernel_rfl
theorem m28 : (Try.prog.info? 28).map (·.size) = some 1 := by kernel_rfl
theorem u28 : Try.prog.underlying 28 = some (.slice 34) := Try.underlying28
theorem s28 : scB Try.prog 28 = true := by kernel_rfl
theorem i29 : inf Try.prog 29 (.nilIface) 1 16 := by unfold inf; kernel_rfl
theorem m29 : (Try.prog.info? 29).map (·.size) = some 1 := by kernel_rfl
theorem s29 : scB Try.prog 29 = true := by kernel_rfl
theorem i30 : inf Try.prog 30 (.nilIface) 1 16 := by unfold inf; kernel_rfl
theorem m30 : (Try.prog.info? 30).map (·.size) = some 1 := by kernel_rfl
theorem ifc_30 : Try.prog.underlying 30 = some (.interface (Try.prog.methodsAt 30)) := by kernel_rfl
theorem s30 : scB Try.prog 30 = true := by kernel_rfl
theorem i32 : inf Try.prog 32 (.nilFunc) 1 8 := by unfold inf; kernel_rfl
theorem m32 : (Try.prog.info? 32).map (·.size) = some 1 := by kernel_rfl
theorem s32 : scB Try.prog 32 = true := by kernel_rfl
theorem i33 : inf Try.prog 33 (.agg #[.bool false, .bool false, .bool false, .bool false, .bool false]) 5 5 := by unfold inf; kernel_rfl
theorem m33 : (Try.prog.info? 33).map (·.size) = some 5 := by kernel_rfl
theorem ag_33 : agB Try.prog 33 5 = true := by kernel_rfl
theorem f33_0 : faB Try.prog 33 0 0 = true := by kernel_rfl
theorem f33_1 : faB Try.prog 33 1 1 = true := by kernel_rfl
theorem f33_2 : faB Try.prog 33 2 2 = true := by kernel_rfl
theorem f33_3 : faB Try.prog 33 3 3 = true := by kernel_rfl
theorem f33_4 : faB Try.prog 33 4 4 = true := by kernel_rfl
theorem i34 : inf Try.prog 34 (.agg #[.bool false, .bool false, .bool false, .bool false, .bool false]) 5 5 := by unfold inf; kernel_rfl
theorem m34 : (Try.prog.info? 34).map (·.size) = some 5 := by kernel_rfl
theorem ag_34 : agB Try.prog 34 5 = true := by kernel_rfl
theorem f34_0 : faB Try.prog 34 0 0 = true := by kernel_rfl
theorem f34_1 : faB Try.prog 34 1 1 = true := by kernel_rfl
theorem f34_2 : faB Try.prog 34 2 2 = true := by kernel_rfl
theorem f34_3 : faB Try.prog 34 3 3 = true := by kernel_rfl
theorem f34_4 : faB Try.prog 34 4 4 = true := by kernel_rfl
theorem i35 : inf Try.prog 35 (.nilFunc) 1 8 := by unfold inf; kernel_rfl
theorem m35 : (Try.prog.info? 35).map (·.size) = some 1 := by kernel_rfl
theorem s35 : scB Try.prog 35 = true := by kernel_rfl
theorem i36 : inf Try.prog 36 (.slice none 0 0) 1 24 := by unfold inf; kernel_rfl
theorem m36 : (Try.prog.info? 36).map (·.size) = some 1 := by kernel_rfl
theorem u36 : Try.prog.underlying 36 = some (.slice 3) := Try.underlying36
theorem s36 : scB Try.prog 36 = true := by kernel_rfl
theorem i37 : inf Try.prog 37 (.slice none 0 0) 1 24 := by unfold inf; kernel_rfl
theorem m37 : (Try.prog.info? 37).map (·.size) = some 1 := by kernel_rfl
theorem u37 : Try.prog.underlying 37 = some (.slice 45) := Try.underlying37
theorem s37 : scB Try.prog 37 = true := by kernel_rfl
theorem i38 : inf Try.prog 38 (.agg #[.int .i64 0, .int .i64 0, .slice none 0 0, .slice none 0 0]) 4 64 := by unfold inf; kernel_rfl
theorem m38 : (Try.prog.info? 38).map (·.size) = some 4 := by kernel_rfl
theorem ag_38 : agB Try.prog 38 4 = true := by kernel_rfl
theorem f38_0 : faB Try.prog 38 0 0 = true := by kernel_rfl
theorem f38_1 : faB Try.prog 38 1 1 = true := by kernel_rfl
theorem f38_2 : faB Try.prog 38 2 2 = true := by kernel_rfl
theorem f38_3 : faB Try.prog 38 3 3 = true := by kernel_rfl
theorem i39 : inf Try.prog 39 (.agg #[.int .i64 0, .int .i64 0, .slice none 0 0, .slice none 0 0]) 4 64 := by unfold inf; kernel_rfl
theorem m39 : (Try.prog.info? 39).map (·.size) = some 4 := by kernel_rfl
theorem ag_39 : agB Try.prog 39 4 = true := by kernel_rfl
theorem f39_0 : faB Try.prog 39 0 0 = true := by kernel_rfl
theorem f39_1 : faB Try.prog 39 1 1 = true := by kernel_rfl
theorem f39_2 : faB Try.prog 39 2 2 = true := by kernel_rfl
theorem f39_3 : faB Try.prog 39 3 3 = true := by kernel_rfl
theorem i40 : inf Try.prog 40 (.slice none 0 0) 1 24 := by unfold inf; kernel_rfl
theorem m40 : (Try.prog.info? 40).map (·.size) = some 1 := by kernel_rfl
theorem u40 : Try.prog.underlying 40 = some (.slice 62) := Try.underlying40
theorem s40 : scB Try.prog 40 = true := by kernel_rfl
theorem i41 : inf Try.prog 41 (.slice none 0 0) 1 24 := by unfold inf; kernel_rfl
theorem m41 : (Try.prog.info? 41).map (·.size) = some 1 := by kernel_rfl
theorem u41 : Try.prog.underlying 41 = some (.slice 49) := Try.underlying41
theorem s41 : scB Try.prog 41 = true := by kernel_rfl
theorem i42 : inf Try.prog 42 (.agg #[.int .i64 0, .int .i64 0, .slice none 0 0]) 3 40 := by unfold inf; kernel_rfl
theorem m42 : (Try.prog.info? 42).map (·.size) = some 3 := by kernel_rfl
theorem ag_42 : agB Try.prog 42 3 = true := by kernel_rfl
theorem f42_0 : faB Try.prog 42 0 0 = true := by kernel_rfl
theorem f42_1 : faB Try.prog 42 1 1 = true := by kernel_rfl
theorem f42_2 : faB Try.prog 42 2 2 = true := by kernel_rfl
theorem i43 : inf Try.prog 43 (.agg #[.int .i64 0, .int .i64 0, .slice none 0 0]) 3 40 := by unfold inf; kernel_rfl
theorem m43 : (Try.prog.info? 43).map (·.size) = some 3 := by kernel_rfl
theorem ag_43 : agB Try.prog 43 3 = true := by kernel_rfl
theorem f43_0 : faB Try.prog 43 0 0 = true := by kernel_rfl
theorem f43_1 : faB Try.prog 43 1 1 = true := by kernel_rfl
theorem f43_2 : faB Try.prog 43 2 2 = true := by kernel_rfl
theorem i44 : inf Try.prog 44 (.agg #[.slice none 0 0, .slice none 0 0, .int .i64 0, .int .i64 0, .slice none 0 0]) 5 88 := by unfold inf; kernel_rfl
theorem m44 : (Try.prog.info? 44).map (·.size) = some 5 := by kernel_rfl
theorem ag_44 : agB Try.prog 44 5 = true := by kernel_rfl
theorem f44_0 : faB Try.prog 44 0 0 = true := by kernel_rfl
theorem f44_1 : faB Try.prog 44 1 1 = true := by kernel_rfl
theorem f44_2 : faB Try.prog 44 2 2 = true := by kernel_rfl
theorem i45 : inf Try.prog 45 (.agg #[.slice none 0 0, .slice none 0 0, .int .i64 0, .int .i64 0, .slice none 0 0]) 5 88 := by unfold inf; kernel_rfl
theorem m45 : (Try.prog.info? 45).map (·.size) = some 5 := by kernel_rfl
theorem ag_45 : agB Try.prog 45 5 = true := by kernel_rfl
theorem f45_0 : faB Try.prog 45 0 0 = true := by kernel_rfl
theorem f45_1 : faB Try.prog 45 1 1 = true := by kernel_rfl
theorem f45_2 : faB Try.prog 45 2 2 = true := by kernel_rfl
theorem i46 : inf Try.prog 46 (.nilFunc) 1 8 := by unfold inf; kernel_rfl
theorem m46 : (Try.prog.info? 46).map (·.size) = some 1 := by kernel_rfl
theorem s46 : scB Try.prog 46 = true := by kernel_rfl
theorem i47 : inf Try.prog 47 (.nilFunc) 1 8 := by unfold inf; kernel_rfl
theorem m47 : (Try.prog.info? 47).map (·.size) = some 1 := by kernel_rfl
theorem s47 : scB Try.prog 47 = true := by kernel_rfl
theorem i48 : inf Try.prog 48 (.agg #[.int .i64 0, .int .i64 0, .slice none 0 0, .int .i64 0, .int .i64 0]) 5 56 := by unfold inf; kernel_rfl
theorem m48 : (Try.prog.info? 48).map (·.size) = some 5 := by kernel_rfl
theorem ag_48 : agB Try.prog 48 5 = true := by kernel_rfl
theorem f48_0 : faB Try.prog 48 0 0 = true := by kernel_rfl
theorem f48_1 : faB Try.prog 48 1 1 = true := by kernel_rfl
theorem f48_2 : faB Try.prog 48 2 2 = true := by kernel_rfl
theorem f48_3 : faB Try.prog 48 3 3 = true := by kernel_rfl
theorem f48_4 : faB Try.prog 48 4 4 = true := by kernel_rfl
theorem i49 : inf Try.prog 49 (.agg #[.int .i64 0, .int .i64 0, .slice none 0 0, .int .i64 0, .int .i64 0]) 5 56 := by unfold inf; kernel_rfl
theorem m49 : (Try.prog.info? 49).map (·.size) = some 5 := by kernel_rfl
theorem ag_49 : agB Try.prog 49 5 = true := by kernel_rfl
theorem f49_0 : faB Try.prog 49 0 0 = true := by kernel_rfl
theorem f49_1 : faB Try.prog 49 1 1 = true := by kernel_rfl
theorem f49_2 : faB Try.prog 49 2 2 = true := by kernel_rfl
theorem f49_3 : faB Try.prog 49 3 3 = true := by kernel_rfl
theorem f49_4 : faB Try.prog 49 4 4 = true := by kernel_rfl
theorem i50 : inf Try.prog 50 (.nilFunc) 1 8 := by unfold inf; kernel_rfl
theorem m50 : (Try.prog.info? 50).map (·.size) = some 1 := by kernel_rfl
theorem s50 : scB Try.prog 50 = true := by kernel_rfl
theorem i51 : inf Try.prog 51 (.nilFunc) 1 8 := by unfold inf; kernel_rfl
theorem m51 : (Try.prog.info? 51).map (·.size) = some 1 := by kernel_rfl
theorem s51 : scB Try.prog 51 = true := by kernel_rfl
theorem i52 : inf Try.prog 52 (.nilFunc) 1 8 := by unfold inf; kernel_rfl
theorem m52 : (Try.prog.info? 52).map (·.size) = some 1 := by kernel_rfl
theorem s52 : scB Try.prog 52 = true := by kernel_rfl
theorem i53 : inf Try.prog 53 (.nilFunc) 1 8 := by unfold inf; kernel_rfl
theorem m53 : (Try.prog.info? 53).map (·.size) = some 1 := by kernel_rfl
theorem s53 : scB Try.prog 53 = true := by kernel_rfl
theorem i54 : inf Try.prog 54 (.slice none 0 0) 1 24 := by unfold inf; kernel_rfl
theorem m54 : (Try.prog.info? 54).map (·.size) = some 1 := by kernel_rfl
theorem u54 : Try.prog.underlying 54 = some (.slice 2) := Try.underlying54
theorem s54 : scB Try.prog 54 = true := by kernel_rfl
theorem i55 : inf Try.prog 55 (.agg #[.int .i64 0, .int .i64 0, .int .i64 0, .int .i64 0, .int .i64 0, .int .i64 0, .int .i64 0, .int .i64 0, .int .i64 0, .int .i64 0, .int .i64 0, .int .i64 0, .int .i64 0, .int .i64 0, .int .i64 0, .int .i64 0, .int .i64 0, .int .i64 0, .int .i64 0, .int .i64 0, .int .i64 0, .int .i64 0, .int .i64 0, .int .i64 0, .int .i64 0, .int .i64 0, .int .i64 0, .int .i64 0, .int .i64 0, .int .i64 0, .int .i64 0, .int .i64 0, .int .i64 0, .int .i64 0, .int .i64 0, .int .i64 0, .int .i64 0, .int .i64 0, .int .i64 0, .int .i64 0, .int .i64 0, .int .i64 0, .int .i64 0, .int .i64 0, .int .i64 0, .int .i64 0, .int .i64 0, .int .i64 0, .int .i64 0, .int .i64 0, .int .i64 0, .int .i64 0, .int .i64 0, .int .i64 0, .int .i64 0, .int .i64 0, .int .i64 0, .int .i64 0, .int .i64 0, .int .i64 0, .int .i64 0, .int .i64 0, .int .i64 0, .int .i64 0]) 64 512 := by unfold inf; kernel_rfl
theorem m55 : (Try.prog.info? 55).map (·.size) = some 64 := by kernel_rfl
theorem al_55 : Try.prog.underlying 55 = some (.array 64 2) := by kernel_rfl
theorem ac_55 : Try.prog.cellsOf 2 = 1 := by kernel_rfl
theorem ap_55 : Try.prog.plainKey 2 = true := by kernel_rfl
theorem aq_55 : Try.prog.eqGuardType Try.prog.depth 55 = false := by kernel_rfl
theorem ag_55 : agB Try.prog 55 64 = true := by kernel_rfl
theorem i56 : inf Try.prog 56 (.agg #[.bool false, .int .i64 0, .int .i64 0, .slice none 0 0, .int .i64 0, .int .i64 0, .int .i64 0, .int .i64 0, .int .i64 0, .int .i64 0, .int .i64 0, .int .i64 0, .int .i64 0, .int .i64 0, .int .i64 0, .int .i64 0, .int .i64 0, .int .i64 0, .int .i64 0, .int .i64 0, .int .i64 0, .int .i64 0, .int .i64 0, .int .i64 0, .int .i64 0, .int .i64 0, .int .i64 0, .int .i64 0, .int .i64 0, .int .i64 0, .int .i64 0, .int .i64 0, .int .i64 0, .int .i64 0, .int .i64 0, .int .i64 0, .int .i64 0, .int .i64 0, .int .i64 0, .int .i64 0, .int .i64 0, .int .i64 0, .int .i64 0, .int .i64 0, .int .i64 0, .int .i64 0, .int .i64 0, .int .i64 0, .int .i64 0, .int .i64 0, .int .i64 0, .int .i64 0, .int .i64 0, .int .i64 0, .int .i64 0, .int .i64 0, .int .i64 0, .int .i64 0, .int .i64 0, .int .i64 0, .int .i64 0, .int .i64 0, .int .i64 0, .int .i64 0, .int .i64 0, .int .i64 0, .int .i64 0, .int .i64 0, .int .i64 0]) 69 568 := by unfold inf; kernel_rfl
theorem m56 : (Try.prog.info? 56).map (·.size) = some 69 := by kernel_rfl
theorem ag_56 : agB Try.prog 56 69 = true := by kernel_rfl
theorem f56_0 : faB Try.prog 56 0 0 = true := by kernel_rfl
theorem f56_1 : faB Try.prog 56 1 1 = true := by kernel_rfl
theorem f56_2 : faB Try.prog 56 2 2 = true := by kernel_rfl
theorem f56_3 : faB Try.prog 56 3 3 = true := by kernel_rfl
theorem f56_4 : faB Try.prog 56 4 4 = true := by kernel_rfl
theorem f56_5 : faB Try.prog 56 5 5 = true := by kernel_rfl
theorem i57 : inf Try.prog 57 (.agg #[.bool false, .int .i64 0, .int .i64 0, .slice none 0 0, .int .i64 0, .int .i64 0, .int .i64 0, .int .i64 0, .int .i64 0, .int .i64 0, .int .i64 0, .int .i64 0, .int .i64 0, .int .i64 0, .int .i64 0, .int .i64 0, .int .i64 0, .int .i64 0, .int .i64 0, .int .i64 0, .int .i64 0, .int .i64 0, .int .i64 0, .int .i64 0, .int .i64 0, .int .i64 0, .int .i64 0, .int .i64 0, .int .i64 0, .int .i64 0, .int .i64 0, .int .i64 0, .int .i64 0, .int .i64 0, .int .i64 0, .int .i64 0, .int .i64 0, .int .i64 0, .int .i64 0, .int .i64 0, .int .i64 0, .int .i64 0, .int .i64 0, .int .i64 0, .int .i64 0, .int .i64 0, .int .i64 0, .int .i64 0, .int .i64 0, .int .i64 0, .int .i64 0, .int .i64 0, .int .i64 0, .int .i64 0, .int .i64 0, .int .i64 0, .int .i64 0, .int .i64 0, .int .i64 0, .int .i64 0, .int .i64 0, .int .i64 0, .int .i64 0, .int .i64 0, .int .i64 0, .int .i64 0, .int .i64 0, .int .i64 0, .int .i64 0]) 69 568 := by unfold inf; kernel_rfl
theorem m57 : (Try.prog.info? 57).map (·.size) = some 69 := by kernel_rfl
theorem ag_57 : agB Try.prog 57 69 = true := by kernel_rfl
theorem f57_0 : faB Try.prog 57 0 0 = true := by kernel_rfl
theorem f57_1 : faB Try.prog 57 1 1 = true := by kernel_rfl
theorem f57_2 : faB Try.prog 57 2 2 = true := by kernel_rfl
theorem f57_3 : faB Try.prog 57 3 3 = true := by kernel_rfl
theorem f57_4 : faB Try.prog 57 4 4 = true := by kernel_rfl
theorem f57_5 : faB Try.prog 57 5 5 = true := by kernel_rfl
theorem i59 : inf Try.prog 59 (.nilFunc) 1 8 := by unfold inf; kernel_rfl
theorem m59 : (Try.prog.info? 59).map (·.size) = some 1 := by kernel_rfl
theorem s59 : scB Try.prog 59 = true := by kernel_rfl
theorem i60 : inf Try.prog 60 (.nilFunc) 1 8 := by unfold inf; kernel_rfl
theorem m60 : (Try.prog.info? 60).map (·.size) = some 1 := by kernel_rfl
theorem s60 : scB Try.prog 60 = true := by kernel_rfl
theorem i61 : inf Try.prog 61 (.agg #[.int .i64 0, .slice none 0 0]) 2 32 := by unfold inf; kernel_rfl
theorem m61 : (Try.prog.info? 61).map (·.size) = some 2 := by kernel_rfl
theorem ag_61 : agB Try.prog 61 2 = true := by kernel_rfl
theorem f61_0 : faB Try.prog 61 0 0 = true := by kernel_rfl
theorem f61_1 : faB Try.prog 61 1 1 = true := by kernel_rfl
theorem i62 : inf Try.prog 62 (.agg #[.int .i64 0, .slice none 0 0]) 2 32 := by unfold inf; kernel_rfl
theorem m62 : (Try.prog.info? 62).map (·.size) = some 2 := by kernel_rfl
theorem ag_62 : agB Try.prog 62 2 = true := by kernel_rfl
theorem f62_0 : faB Try.prog 62 0 0 = true := by kernel_rfl
theorem f62_1 : faB Try.prog 62 1 1 = true := by kernel_rfl
theorem i63 : inf Try.prog 63 (.nilFunc) 1 8 := by unfold inf; kernel_rfl
theorem m63 : (Try.prog.info? 63).map (·.size) = some 1 := by kernel_rfl
theorem s63 : scB Try.prog 63 = true := by kernel_rfl
theorem i64 : inf Try.prog 64 (.nilFunc) 1 8 := by unfold inf; kernel_rfl
theorem m64 : (Try.prog.info? 64).map (·.size) = some 1 := by kernel_rfl
theorem s64 : scB Try.prog 64 = true := by kernel_rfl
theorem i65 : inf Try.prog 65 (.slice none 0 0) 1 24 := by unfold inf; kernel_rfl
theorem m65 : (Try.prog.info? 65).map (·.size) = some 1 := by kernel_rfl
theorem u65 : Try.prog.underlying 65 = some (.slice 36) := Try.underlying65
theorem s65 : scB Try.prog 65 = true := by kernel_rfl
theorem i66 : inf Try.prog 66 (.nilFunc) 1 8 := by unfold inf; kernel_rfl
theorem m66 : (Try.prog.info? 66).map (·.size) = some 1 := by kernel_rfl
theorem s66 : scB Try.prog 66 = true := by kernel_rfl
theorem i68 : inf Try.prog 68 (.nilFunc) 1 8 := by unfold inf; kernel_rfl
theorem m68 : (Try.prog.info? 68).map (·.size) = some 1 := by kernel_rfl
theorem s68 : scB Try.prog 68 = true := by kernel_rfl
theorem i69 : inf Try.prog 69 (.nilFunc) 1 8 := by unfold inf; kernel_rfl
theorem m69 : (Try.prog.info? 69).map (·.size) = some 1 := by kernel_rfl
theorem s69 : scB Try.prog 69 = true := by kernel_rfl
theorem i70 : inf Try.prog 70 (.nilFunc) 1 8 := by unfold inf; kernel_rfl
theorem m70 : (Try.prog.info? 70).map (·.size) = some 1 := by kernel_rfl
theorem s70 : scB Try.prog 70 = true := by kernel_rfl
theorem i71 : inf Try.prog 71 (.nilFunc) 1 8 := by unfold inf; kernel_rfl
theorem m71 : (Try.prog.info? 71).map (·.size) = some 1 := by kernel_rfl
theorem s71 : scB Try.prog 71 = true := by kernel_rfl
theorem i72 : inf Try.prog 72 (.nilFunc) 1 8 := by unfold inf; kernel_rfl
theorem m72 : (Try.prog.info? 72).map (·.size) = some 1 := by kernel_rfl
theorem s72 : scB Try.prog 72 = true := by kernel_rfl
theorem i73 : inf Try.prog 73 (.nilFunc) 1 8 := by unfold inf; kernel_rfl
theorem m73 : (Try.prog.info? 73).map (·.size) = some 1 := by kernel_rfl
theorem s73 : scB Try.prog 73 = true := by kernel_rfl
theorem i74 : inf Try.prog 74 (.nilFunc) 1 8 := by unfold inf; kernel_rfl
theorem m74 : (Try.prog.info? 74).map (·.size) = some 1 := by kernel_rfl
theorem s74 : scB Try.prog 74 = true := by kernel_rfl
theorem i75 : inf Try.prog 75 (.int .i64 0) 1 8 := by unfold inf; kernel_rfl
theorem m75 : (Try.prog.info? 75).map (·.size) = some 1 := by kernel_rfl
theorem u75 : Try.prog.underlying 75 = some (.int .i64) := Try.underlying75
theorem cmp_75 : (Try.prog.info? 75).map (·.comparable) = some true := by kernel_rfl
theorem s75 : scB Try.prog 75 = true := by kernel_rfl
theorem i76 : inf Try.prog 76 (.pointer none) 1 8 := by unfold inf; kernel_rfl
theorem m76 : (Try.prog.info? 76).map (·.size) = some 1 := by kernel_rfl
theorem u76 : Try.prog.underlying 76 = some (.pointer 80) := Try.underlying76
theorem s76 : scB Try.prog 76 = true := by kernel_rfl
theorem i77 : inf Try.prog 77 (.slice none 0 0) 1 24 := by unfold inf; kernel_rfl
theorem m77 : (Try.prog.info? 77).map (·.size) = some 1 := by kernel_rfl
theorem u77 : Try.prog.underlying 77 = some (.slice 65) := Try.underlying77
theorem s77 : scB Try.prog 77 = true := by kernel_rfl
theorem i78 : inf Try.prog 78 (.slice none 0 0) 1 24 := by unfold inf; kernel_rfl
theorem m78 : (Try.prog.info? 78).map (·.size) = some 1 := by kernel_rfl
theorem u78 : Try.prog.underlying 78 = some (.slice 102) := Try.underlying78
theorem s78 : scB Try.prog 78 = true := by kernel_rfl
theorem i79 : inf Try.prog 79 (.agg #[.slice none 0 0, .slice none 0 0, .slice none 0 0, .bool false, .int .i64 0, .int .i64 0, .slice none 0 0, .int .i64 0, .int .i64 0, .int .i64 0, .int .i64 0, .int .i64 0, .int .i64 0, .int .i64 0, .int .i64 0, .int .i64 0, .int .i64 0, .int .i64 0, .int .i64 0, .int .i64 0, .int .i64 0, .int .i64 0, .int .i64 0, .int .i64 0, .int .i64 0, .int .i64 0, .int .i64 0, .int .i64 0, .int .i64 0, .int .i64 0, .int .i64 0, .int .i64 0, .int .i64 0, .int .i64 0, .int .i64 0, .int .i64 0, .int .i64 0, .int .i64 0, .int .i64 0, .int .i64 0, .int .i64 0, .int .i64 0, .int .i64 0, .int .i64 0, .int .i64 0, .int .i64 0, .int .i64 0, .int .i64 0, .int .i64 0, .int .i64 0, .int .i64 0, .int .i64 0, .int .i64 0, .int .i64 0, .int .i64 0, .int .i64 0, .int .i64 0, .int .i64 0, .int .i64 0, .int .i64 0, .int .i64 0, .int .i64 0, .int .i64 0, .int .i64 0, .int .i64 0, .int .i64 0, .int .i64 0, .int .i64 0, .int .i64 0, .int .i64 0, .int .i64 0, .int .i64 0]) 72 640 := by unfold inf; kernel_rfl
theorem m79 : (Try.prog.info? 79).map (·.size) = some 72 := by kernel_rfl
theorem ag_79 : agB Try.prog 79 72 = true := by kernel_rfl
theorem f79_0 : faB Try.prog 79 0 0 = true := by kernel_rfl
theorem f79_1 : faB Try.prog 79 1 1 = true := by kernel_rfl
theorem f79_2 : faB Try.prog 79 2 2 = true := by kernel_rfl
theorem f79_3 : faB Try.prog 79 3 3 = true := by kernel_rfl
theorem i80 : inf Try.prog 80 (.agg #[.slice none 0 0, .slice none 0 0, .slice none 0 0, .bool false, .int .i64 0, .int .i64 0, .slice none 0 0, .int .i64 0, .int .i64 0, .int .i64 0, .int .i64 0, .int .i64 0, .int .i64 0, .int .i64 0, .int .i64 0, .int .i64 0, .int .i64 0, .int .i64 0, .int .i64 0, .int .i64 0, .int .i64 0, .int .i64 0, .int .i64 0, .int .i64 0, .int .i64 0, .int .i64 0, .int .i64 0, .int .i64 0, .int .i64 0, .int .i64 0, .int .i64 0, .int .i64 0, .int .i64 0, .int .i64 0, .int .i64 0, .int .i64 0, .int .i64 0, .int .i64 0, .int .i64 0, .int .i64 0, .int .i64 0, .int .i64 0, .int .i64 0, .int .i64 0, .int .i64 0, .int .i64 0, .int .i64 0, .int .i64 0, .int .i64 0, .int .i64 0, .int .i64 0, .int .i64 0, .int .i64 0, .int .i64 0, .int .i64 0, .int .i64 0, .int .i64 0, .int .i64 0, .int .i64 0, .int .i64 0, .int .i64 0, .int .i64 0, .int .i64 0, .int .i64 0, .int .i64 0, .int .i64 0, .int .i64 0, .int .i64 0, .int .i64 0, .int .i64 0, .int .i64 0, .int .i64 0]) 72 640 := by unfold inf; kernel_rfl
theorem m80 : (Try.prog.info? 80).map (·.size) = some 72 := by kernel_rfl
theorem ag_80 : agB Try.prog 80 72 = true := by kernel_rfl
theorem f80_0 : faB Try.prog 80 0 0 = true := by kernel_rfl
theorem f80_1 : faB Try.prog 80 1 1 = true := by kernel_rfl
theorem f80_2 : faB Try.prog 80 2 2 = true := by kernel_rfl
theorem f80_3 : faB Try.prog 80 3 3 = true := by kernel_rfl
theorem i81 : inf Try.prog 81 (.nilFunc) 1 8 := by unfold inf; kernel_rfl
theorem m81 : (Try.prog.info? 81).map (·.size) = some 1 := by kernel_rfl
theorem s81 : scB Try.prog 81 = true := by kernel_rfl
theorem i82 : inf Try.prog 82 (.nilFunc) 1 8 := by unfold inf; kernel_rfl
theorem m82 : (Try.prog.info? 82).map (·.size) = some 1 := by kernel_rfl
theorem s82 : scB Try.prog 82 = true := by kernel_rfl
theorem i83 : inf Try.prog 83 (.nilFunc) 1 8 := by unfold inf; kernel_rfl
theorem m83 : (Try.prog.info? 83).map (·.size) = some 1 := by kernel_rfl
theorem s83 : scB Try.prog 83 = true := by kernel_rfl
theorem i84 : inf Try.prog 84 (.pointer none) 1 8 := by unfold inf; kernel_rfl
theorem m84 : (Try.prog.info? 84).map (·.size) = some 1 := by kernel_rfl
theorem u84 : Try.prog.underlying 84 = some (.pointer 86) := Try.underlying84
theorem s84 : scB Try.prog 84 = true := by kernel_rfl
theorem i85 : inf Try.prog 85 (.agg #[.int .i64 0, .nilIface]) 2 24 := by unfold inf; kernel_rfl
theorem m85 : (Try.prog.info? 85).map (·.size) = some 2 := by kernel_rfl
theorem ag_85 : agB Try.prog 85 2 = true := by kernel_rfl
theorem f85_0 : faB Try.prog 85 0 0 = true := by kernel_rfl
theorem f85_1 : faB Try.prog 85 1 1 = true := by kernel_rfl
theorem i86 : inf Try.prog 86 (.agg #[.int .i64 0, .nilIface]) 2 24 := by unfold inf; kernel_rfl
theorem m86 : (Try.prog.info? 86).map (·.size) = some 2 := by kernel_rfl
theorem ag_86 : agB Try.prog 86 2 = true := by kernel_rfl
theorem f86_0 : faB Try.prog 86 0 0 = true := by kernel_rfl
theorem f86_1 : faB Try.prog 86 1 1 = true := by kernel_rfl
theorem i87 : inf Try.prog 87 (.nilFunc) 1 8 := by unfold inf; kernel_rfl
theorem m87 : (Try.prog.info? 87).map (·.size) = some 1 := by kernel_rfl
theorem s87 : scB Try.prog 87 = true := by kernel_rfl
theorem i88 : inf Try.prog 88 (.nilFunc) 1 8 := by unfold inf; kernel_rfl
theorem m88 : (Try.prog.info? 88).map (·.size) = some 1 := by kernel_rfl
theorem s88 : scB Try.prog 88 = true := by kernel_rfl
theorem i89 : inf Try.prog 89 (.nilFunc) 1 8 := by unfold inf; kernel_rfl
theorem m89 : (Try.prog.info? 89).map (·.size) = some 1 := by kernel_rfl
theorem s89 : scB Try.prog 89 = true := by kernel_rfl
theorem i90 : inf Try.prog 90 (.slice none 0 0) 1 24 := by unfold inf; kernel_rfl
theorem m90 : (Try.prog.info? 90).map (·.size) = some 1 := by kernel_rfl
theorem u90 : Try.prog.underlying 90 = some (.slice 4) := Try.underlying90
theorem s90 : scB Try.prog 90 = true := by kernel_rfl
theorem i91 : inf Try.prog 91 (.nilFunc) 1 8 := by unfold inf; kernel_rfl
theorem m91 : (Try.prog.info? 91).map (·.size) = some 1 := by kernel_rfl
theorem s91 : scB Try.prog 91 = true := by kernel_rfl
theorem i92 : inf Try.prog 92 (.nilFunc) 1 8 := by unfold inf; kernel_rfl
theorem m92 : (Try.prog.info? 92).map (·.size) = some 1 := by kernel_rfl
theorem s92 : scB Try.prog 92 = true := by kernel_rfl
theorem i93 : inf Try.prog 93 (.nilFunc) 1 8 := by unfold inf; kernel_rfl
theorem m93 : (Try.prog.info? 93).map (·.size) = some 1 := by kernel_rfl
theorem s93 : scB Try.prog 93 = true := by kernel_rfl
theorem i94 : inf Try.prog 94 (.nilFunc) 1 8 := by unfold inf; kernel_rfl
theorem m94 : (Try.prog.info? 94).map (·.size) = some 1 := by kernel_rfl
theorem s94 : scB Try.prog 94 = true := by kernel_rfl
theorem i95 : inf Try.prog 95 (.nilFunc) 1 8 := by unfold inf; kernel_rfl
theorem m95 : (Try.prog.info? 95).map (·.size) = some 1 := by kernel_rfl
theorem s95 : scB Try.prog 95 = true := by kernel_rfl
theorem i96 : inf Try.prog 96 (.nilFunc) 1 8 := by unfold inf; kernel_rfl
theorem m96 : (Try.prog.info? 96).map (·.size) = some 1 := by kernel_rfl
theorem s96 : scB Try.prog 96 = true := by kernel_rfl
theorem i97 : inf Try.prog 97 (.nilFunc) 1 8 := by unfold inf; kernel_rfl
theorem m97 : (Try.prog.info? 97).map (·.size) = some 1 := by kernel_rfl
theorem s97 : scB Try.prog 97 = true := by kernel_rfl
theorem i99 : inf Try.prog 99 (.nilFunc) 1 8 := by unfold inf; kernel_rfl
theorem m99 : (Try.prog.info? 99).map (·.size) = some 1 := by kernel_rfl
theorem s99 : scB Try.prog 99 = true := by kernel_rfl
theorem i100 : inf Try.prog 100 (.nilFunc) 1 8 := by unfold inf; kernel_rfl
theorem m100 : (Try.prog.info? 100).map (·.size) = some 1 := by kernel_rfl
theorem s100 : scB Try.prog 100 = true := by kernel_rfl
theorem i101 : inf Try.prog 101 (.agg #[.int .i64 0, .slice none 0 0, .int .i64 0, .int .i64 0, .int .i64 0]) 5 56 := by unfold inf; kernel_rfl
theorem m101 : (Try.prog.info? 101).map (·.size) = some 5 := by kernel_rfl
theorem ag_101 : agB Try.prog 101 5 = true := by kernel_rfl
theorem f101_0 : faB Try.prog 101 0 0 = true := by kernel_rfl
theorem f101_1 : faB Try.prog 101 1 1 = true := by kernel_rfl
theorem f101_2 : faB Try.prog 101 2 2 = true := by kernel_rfl
theorem f101_3 : faB Try.prog 101 3 3 = true := by kernel_rfl
theorem f101_4 : faB Try.prog 101 4 4 = true := by kernel_rfl
theorem i102 : inf Try.prog 102 (.agg #[.int .i64 0, .slice none 0 0, .int .i64 0, .int .i64 0, .int .i64 0]) 5 56 := by unfold inf; kernel_rfl
theorem m102 : (Try.prog.info? 102).map (·.size) = some 5 := by kernel_rfl
theorem ag_102 : agB Try.prog 102 5 = true := by kernel_rfl
theorem f102_0 : faB Try.prog 102 0 0 = true := by kernel_rfl
theorem f102_1 : faB Try.prog 102 1 1 = true := by kernel_rfl
theorem f102_2 : faB Try.prog 102 2 2 = true := by kernel_rfl
theorem f102_3 : faB Try.prog 102 3 3 = true := by kernel_rfl
theorem f102_4 : faB Try.prog 102 4 4 = true := by kernel_rfl
theorem i103 : inf Try.prog 103 (.pointer none) 1 8 := by unfold inf; kernel_rfl
theorem m103 : (Try.prog.info? 103).map (·.size) = some 1 := by kernel_rfl
theorem u103 : Try.prog.underlying 103 = some (.pointer 102) := Try.underlying103
theorem s103 : scB Try.prog 103 = true := by kernel_rfl
theorem i104 : inf Try.prog 104 (.nilFunc) 1 8 := by unfold inf; kernel_rfl
theorem m104 : (Try.prog.info? 104).map (·.size) = some 1 := by kernel_rfl
theorem s104 : scB Try.prog 104 = true := by kernel_rfl
theorem i105 : inf Try.prog 105 (.nilFunc) 1 8 := by unfold inf; kernel_rfl
theorem m105 : (Try.prog.info? 105).map (·.size) = some 1 := by kernel_rfl
theorem s105 : scB Try.prog 105 = true := by kernel_rfl
theorem i106 : inf Try.prog 106 (.pointer none) 1 8 := by unfold inf; kernel_rfl
theorem m106 : (Try.prog.info? 106).map (·.size) = some 1 := by kernel_rfl
theorem u106 : Try.prog.underlying 106 = some (.pointer 108) := Try.underlying106
theorem s106 : scB Try.prog 106 = true := by kernel_rfl
theorem i107 : inf Try.prog 107 (.agg #[.slice none 0 0, .int .i64 0, .int .i64 0, .slice none 0 0, .slice none 0 0]) 5 88 := by unfold inf; kernel_rfl
theorem m107 : (Try.prog.info? 107).map (·.size) = some 5 := by kernel_rfl
theorem ag_107 : agB Try.prog 107 5 = true := by kernel_rfl
theorem f107_0 : faB Try.prog 107 0 0 = true := by kernel_rfl
theorem f107_1 : faB Try.prog 107 1 1 = true := by kernel_rfl
theorem i108 : inf Try.prog 108 (.agg #[.slice none 0 0, .int .i64 0, .int .i64 0, .slice none 0 0, .slice none 0 0]) 5 88 := by unfold inf; kernel_rfl
theorem m108 : (Try.prog.info? 108).map (·.size) = some 5 := by kernel_rfl
theorem ag_108 : agB Try.prog 108 5 = true := by kernel_rfl
theorem f108_0 : faB Try.prog 108 0 0 = true := by kernel_rfl
theorem f108_1 : faB Try.prog 108 1 1 = true := by kernel_rfl
theorem i109 : inf Try.prog 109 (.nilFunc) 1 8 := by unfold inf; kernel_rfl
theorem m109 : (Try.prog.info? 109).map (·.size) = some 1 := by kernel_rfl
theorem s109 : scB Try.prog 109 = true := by kernel_rfl
theorem i110 : inf Try.prog 110 (.nilFunc) 1 8 := by unfold inf; kernel_rfl
theorem m110 : (Try.prog.info? 110).map (·.size) = some 1 := by kernel_rfl
theorem s110 : scB Try.prog 110 = true := by kernel_rfl
theorem i111 : inf Try.prog 111 (.nilFunc) 1 8 := by unfold inf; kernel_rfl
theorem m111 : (Try.prog.info? 111).map (·.size) = some 1 := by kernel_rfl
theorem s111 : scB Try.prog 111 = true := by kernel_rfl
theorem i112 : inf Try.prog 112 (.nilFunc) 1 8 := by unfold inf; kernel_rfl
theorem m112 : (Try.prog.info? 112).map (·.size) = some 1 := by kernel_rfl
theorem s112 : scB Try.prog 112 = true := by kernel_rfl
theorem i113 : inf Try.prog 113 (.int .u64 0) 1 8 := by unfold inf; kernel_rfl
theorem m113 : (Try.prog.info? 113).map (·.size) = some 1 := by kernel_rfl
theorem u113 : Try.prog.underlying 113 = some (.int .u64) := Try.underlying113
theorem s113 : scB Try.prog 113 = true := by kernel_rfl
theorem i114 : inf Try.prog 114 (.nilFunc) 1 8 := by unfold inf; kernel_rfl
theorem m114 : (Try.prog.info? 114).map (·.size) = some 1 := by kernel_rfl
theorem s114 : scB Try.prog 114 = true := by kernel_rfl
theorem i115 : inf Try.prog 115 (.nilFunc) 1 8 := by unfold inf; kernel_rfl
theorem m115 : (Try.prog.info? 115).map (·.size) = some 1 := by kernel_rfl
theorem s115 : scB Try.prog 115 = true := by kernel_rfl
theorem i117 : inf Try.prog 117 (.nilFunc) 1 8 := by unfold inf; kernel_rfl
theorem m117 : (Try.prog.info? 117).map (·.size) = some 1 := by kernel_rfl
theorem s117 : scB Try.prog 117 = true := by kernel_rfl
theorem i118 : inf Try.prog 118 (.pointer none) 1 8 := by unfold inf; kernel_rfl
theorem m118 : (Try.prog.info? 118).map (·.size) = some 1 := by kernel_rfl
theorem u118 : Try.prog.underlying 118 = some (.pointer 120) := Try.underlying118
theorem s118 : scB Try.prog 118 = true := by kernel_rfl
theorem i119 : inf Try.prog 119 (.agg #[.slice none 0 0, .slice none 0 0, .slice none 0 0, .slice none 0 0, .slice none 0 0, .slice none 0 0, .int .i64 0]) 7 152 := by unfold inf; kernel_rfl
theorem m119 : (Try.prog.info? 119).map (·.size) = some 7 := by kernel_rfl
theorem ag_119 : agB Try.prog 119 7 = true := by kernel_rfl
theorem f119_0 : faB Try.prog 119 0 0 = true := by kernel_rfl
theorem f119_1 : faB Try.prog 119 1 1 = true := by kernel_rfl
theorem f119_2 : faB Try.prog 119 2 2 = true := by kernel_rfl
theorem f119_3 : faB Try.prog 119 3 3 = true := by kernel_rfl
theorem f119_4 : faB Try.prog 119 4 4 = true := by kernel_rfl
theorem f119_5 : faB Try.prog 119 5 5 = true := by kernel_rfl
theorem f119_6 : faB Try.prog 119 6 6 = true := by kernel_rfl
theorem i120 : inf Try.prog 120 (.agg #[.slice none 0 0, .slice none 0 0, .slice none 0 0, .slice none 0 0, .slice none 0 0, .slice none 0 0, .int .i64 0]) 7 152 := by unfold inf; kernel_rfl
theorem m120 : (Try.prog.info? 120).map (·.size) = some 7 := by kernel_rfl
theorem ag_120 : agB Try.prog 120 7 = true := by kernel_rfl
theorem f120_0 : faB Try.prog 120 0 0 = true := by kernel_rfl
theorem f120_1 : faB Try.prog 120 1 1 = true := by kernel_rfl
theorem f120_2 : faB Try.prog 120 2 2 = true := by kernel_rfl
theorem f120_3 : faB Try.prog 120 3 3 = true := by kernel_rfl
theorem f120_4 : faB Try.prog 120 4 4 = true := by kernel_rfl
theorem f120_5 : faB Try.prog 120 5 5 = true := by kernel_rfl
theorem f120_6 : faB Try.prog 120 6 6 = true := by kernel_rfl
theorem i121 : inf Try.prog 121 (.nilFunc) 1 8 := by unfold inf; kernel_rfl
theorem m121 : (Try.prog.info? 121).map (·.size) = some 1 := by kernel_rfl
theorem s121 : scB Try.prog 121 = true := by kernel_rfl
theorem i122 : inf Try.prog 122 (.nilFunc) 1 8 := by unfold inf; kernel_rfl
theorem m122 : (Try.prog.info? 122).map (·.size) = some 1 := by kernel_rfl
theorem s122 : scB Try.prog 122 = true := by kernel_rfl
theorem i123 : inf Try.prog 123 (.nilFunc) 1 8 := by unfold inf; kernel_rfl
theorem m123 : (Try.prog.info? 123).map (·.size) = some 1 := by kernel_rfl
theorem s123 : scB Try.prog 123 = true := by kernel_rfl
theorem i124 : inf Try.prog 124 (.nilFunc) 1 8 := by unfold inf; kernel_rfl
theorem m124 : (Try.prog.info? 124).map (·.size) = some 1 := by kernel_rfl
theorem s124 : scB Try.prog 124 = true := by kernel_rfl
theorem i126 : inf Try.prog 126 (.nilFunc) 1 8 := by unfold inf; kernel_rfl
theorem m126 : (Try.prog.info? 126).map (·.size) = some 1 := by kernel_rfl
theorem s126 : scB Try.prog 126 = true := by kernel_rfl
theorem i127 : inf Try.prog 127 (.nilFunc) 1 8 := by unfold inf; kernel_rfl
theorem m127 : (Try.prog.info? 127).map (·.size) = some 1 := by kernel_rfl
theorem s127 : scB Try.prog 127 = true := by kernel_rfl
theorem i128 : inf Try.prog 128 (.nilFunc) 1 8 := by unfold inf; kernel_rfl
theorem m128 : (Try.prog.info? 128).map (·.size) = some 1 := by kernel_rfl
theorem s128 : scB Try.prog 128 = true := by kernel_rfl
theorem i129 : inf Try.prog 129 (.nilFunc) 1 8 := by unfold inf; kernel_rfl
theorem m129 : (Try.prog.info? 129).map (·.size) = some 1 := by kernel_rfl
theorem s129 : scB Try.prog 129 = true := by kernel_rfl
theorem i130 : inf Try.prog 130 (.nilFunc) 1 8 := by unfold inf; kernel_rfl
theorem m130 : (Try.prog.info? 130).map (·.size) = some 1 := by kernel_rfl
theorem s130 : scB Try.prog 130 = true := by kernel_rfl
theorem i131 : inf Try.prog 131 (.int .i64 0) 1 8 := by unfold inf; kernel_rfl
theorem m131 : (Try.prog.info? 131).map (·.size) = some 1 := by kernel_rfl
theorem u131 : Try.prog.underlying 131 = some (.int .i64) := Try.underlying131
theorem s131 : scB Try.prog 131 = true := by kernel_rfl
theorem i133 : inf Try.prog 133 (.nilFunc) 1 8 := by unfold inf; kernel_rfl
theorem m133 : (Try.prog.info? 133).map (·.size) = some 1 := by kernel_rfl
theorem s133 : scB Try.prog 133 = true := by kernel_rfl
theorem i134 : inf Try.prog 134 (.nilFunc) 1 8 := by unfold inf; kernel_rfl
theorem m134 : (Try.prog.info? 134).map (·.size) = some 1 := by kernel_rfl
theorem s134 : scB Try.prog 134 = true := by kernel_rfl
theorem i135 : inf Try.prog 135 (.nilFunc) 1 8 := by unfold inf; kernel_rfl
theorem m135 : (Try.prog.info? 135).map (·.size) = some 1 := by kernel_rfl
theorem s135 : scB Try.prog 135 = true := by kernel_rfl
theorem i136 : inf Try.prog 136 (.nilFunc) 1 8 := by unfold inf; kernel_rfl
theorem m136 : (Try.prog.info? 136).map (·.size) = some 1 := by kernel_rfl
theorem s136 : scB Try.prog 136 = true := by kernel_rfl
theorem i137 : inf Try.prog 137 (.nilFunc) 1 8 := by unfold inf; kernel_rfl
theorem m137 : (Try.prog.info? 137).map (·.size) = some 1 := by kernel_rfl
theorem s137 : scB Try.prog 137 = true := by kernel_rfl
theorem i138 : inf Try.prog 138 (.nilFunc) 1 8 := by unfold inf; kernel_rfl
theorem m138 : (Try.prog.info? 138).map (·.size) = some 1 := by kernel_rfl
theorem s138 : scB Try.prog 138 = true := by kernel_rfl
theorem i139 : inf Try.prog 139 (.int .u32 0) 1 4 := by unfold inf; kernel_rfl
theorem m139 : (Try.prog.info? 139).map (·.size) = some 1 := by kernel_rfl
theorem u139 : Try.prog.underlying 139 = some (.int .u32) := Try.underlying139
theorem s139 : scB Try.prog 139 = true := by kernel_rfl
theorem i140 : inf Try.prog 140 (.nilFunc) 1 8 := by unfold inf; kernel_rfl
theorem m140 : (Try.prog.info? 140).map (·.size) = some 1 := by kernel_rfl
theorem s140 : scB Try.prog 140 = true := by kernel_rfl
theorem i141 : inf Try.prog 141 (.int .u64 0) 1 8 := by unfold inf; kernel_rfl
theorem m141 : (Try.prog.info? 141).map (·.size) = some 1 := by kernel_rfl
theorem u141 : Try.prog.underlying 141 = some (.int .u64) := Try.underlying141
theorem s141 : scB Try.prog 141 = true := by kernel_rfl
theorem i142 : inf Try.prog 142 (.nilFunc) 1 8 := by unfold inf; kernel_rfl
theorem m142 : (Try.prog.info? 142).map (·.size) = some 1 := by kernel_rfl
theorem s142 : scB Try.prog 142 = true := by kernel_rfl
theorem i143 : inf Try.prog 143 (.nilFunc) 1 8 := by unfold inf; kernel_rfl
theorem m143 : (Try.prog.info? 143).map (·.size) = some 1 := by kernel_rfl
theorem s143 : scB Try.prog 143 = true := by kernel_rfl
theorem i144 : inf Try.prog 144 (.nilFunc) 1 8 := by unfold inf; kernel_rfl
theorem m144 : (Try.prog.info? 144).map (·.size) = some 1 := by kernel_rfl
theorem s144 : scB Try.prog 144 = true := by kernel_rfl
theorem i145 : inf Try.prog 145 (.nilFunc) 1 8 := by unfold inf; kernel_rfl
theorem m145 : (Try.prog.info? 145).map (·.size) = some 1 := by kernel_rfl
theorem s145 : scB Try.prog 145 = true := by kernel_rfl
theorem i146 : inf Try.prog 146 (.nilFunc) 1 8 := by unfold inf; kernel_rfl
theorem m146 : (Try.prog.info? 146).map (·.size) = some 1 := by kernel_rfl
theorem s146 : scB Try.prog 146 = true := by kernel_rfl
theorem i147 : inf Try.prog 147 (.nilFunc) 1 8 := by unfold inf; kernel_rfl
theorem m147 : (Try.prog.info? 147).map (·.size) = some 1 := by kernel_rfl
theorem s147 : scB Try.prog 147 = true := by kernel_rfl
theorem i148 : inf Try.prog 148 (.nilFunc) 1 8 := by unfold inf; kernel_rfl
theorem m148 : (Try.prog.info? 148).map (·.size) = some 1 := by kernel_rfl
theorem s148 : scB Try.prog 148 = true := by kernel_rfl
theorem i149 : inf Try.prog 149 (.nilFunc) 1 8 := by unfold inf; kernel_rfl
theorem m149 : (Try.prog.info? 149).map (·.size) = some 1 := by kernel_rfl
theorem s149 : scB Try.prog 149 = true := by kernel_rfl
theorem i150 : inf Try.prog 150 (.nilFunc) 1 8 := by unfold inf; kernel_rfl
theorem m150 : (Try.prog.info? 150).map (·.size) = some 1 := by kernel_rfl
theorem s150 : scB Try.prog 150 = true := by kernel_rfl
theorem i152 : inf Try.prog 152 (.nilFunc) 1 8 := by unfold inf; kernel_rfl
theorem m152 : (Try.prog.info? 152).map (·.size) = some 1 := by kernel_rfl
theorem s152 : scB Try.prog 152 = true := by kernel_rfl
theorem i153 : inf Try.prog 153 (.int .u64 0) 1 8 := by unfold inf; kernel_rfl
theorem m153 : (Try.prog.info? 153).map (·.size) = some 1 := by kernel_rfl
theorem u153 : Try.prog.underlying 153 = some (.int .u64) := Try.underlying153
theorem s153 : scB Try.prog 153 = true := by kernel_rfl
theorem i154 : inf Try.prog 154 (.nilFunc) 1 8 := by unfold inf; kernel_rfl
theorem m154 : (Try.prog.info? 154).map (·.size) = some 1 := by kernel_rfl
theorem s154 : scB Try.prog 154 = true := by kernel_rfl
theorem i155 : inf Try.prog 155 (.nilFunc) 1 8 := by unfold inf; kernel_rfl
theorem m155 : (Try.prog.info? 155).map (·.size) = some 1 := by kernel_rfl
theorem s155 : scB Try.prog 155 = true := by kernel_rfl
theorem i156 : inf Try.prog 156 (.nilFunc) 1 8 := by unfold inf; kernel_rfl
theorem m156 : (Try.prog.info? 156).map (·.size) = some 1 := by kernel_rfl
theorem s156 : scB Try.prog 156 = true := by kernel_rfl
theorem i157 : inf Try.prog 157 (.pointer none) 1 8 := by unfold inf; kernel_rfl
theorem m157 : (Try.prog.info? 157).map (·.size) = some 1 := by kernel_rfl
theorem u157 : Try.prog.underlying 157 = some (.pointer 3) := Try.underlying157
theorem s157 : scB Try.prog 157 = true := by kernel_rfl
theorem i158 : inf Try.prog 158 (.nilFunc) 1 8 := by unfold inf; kernel_rfl
theorem m158 : (Try.prog.info? 158).map (·.size) = some 1 := by kernel_rfl
theorem s158 : scB Try.prog 158 = true := by kernel_rfl
theorem i159 : inf Try.prog 159 (.nilFunc) 1 8 := by unfold inf; kernel_rfl
theorem m159 : (Try.prog.info? 159).map (·.size) = some 1 := by kernel_rfl
theorem s159 : scB Try.prog 159 = true := by kernel_rfl
theorem i160 : inf Try.prog 160 (.nilFunc) 1 8 := by unfold inf; kernel_rfl
theorem m160 : (Try.prog.info? 160).map (·.size) = some 1 := by kernel_rfl
theorem s160 : scB Try.prog 160 = true := by kernel_rfl
theorem i161 : inf Try.prog 161 (.pointer none) 1 8 := by unfold inf; kernel_rfl
theorem m161 : (Try.prog.info? 161).map (·.size) = some 1 := by kernel_rfl
theorem u161 : Try.prog.underlying 161 = some (.pointer 153) := Try.underlying161
theorem s161 : scB Try.prog 161 = true := by kernel_rfl
theorem i163 : inf Try.prog 163 (.nilFunc) 1 8 := by unfold inf; kernel_rfl
theorem m163 : (Try.prog.info? 163).map (·.size) = some 1 := by kernel_rfl
theorem s163 : scB Try.prog 163 = true := by kernel_rfl
theorem i164 : inf Try.prog 164 (.nilFunc) 1 8 := by unfold inf; kernel_rfl
theorem m164 : (Try.prog.info? 164).map (·.size) = some 1 := by kernel_rfl
theorem s164 : scB Try.prog 164 = true := by kernel_rfl
theorem i165 : inf Try.prog 165 (.nilFunc) 1 8 := by unfold inf; kernel_rfl
theorem m165 : (Try.prog.info? 165).map (·.size) = some 1 := by kernel_rfl
theorem s165 : scB Try.prog 165 = true := by kernel_rfl
theorem i166 : inf Try.prog 166 (.agg #[.pointer none, .pointer none, .pointer none, .string ⟨#[]⟩]) 4 40 := by unfold inf; kernel_rfl
theorem m166 : (Try.prog.info? 166).map (·.size) = some 4 := by kernel_rfl
theorem ag_166 : agB Try.prog 166 4 = true := by kernel_rfl
theorem f166_0 : faB Try.prog 166 0 0 = true := by kernel_rfl
theorem f166_1 : faB Try.prog 166 1 1 = true := by kernel_rfl
theorem f166_2 : faB Try.prog 166 2 2 = true := by kernel_rfl
theorem f166_3 : faB Try.prog 166 3 3 = true := by kernel_rfl
theorem i167 : inf Try.prog 167 (.agg #[.pointer none, .pointer none, .pointer none, .string ⟨#[]⟩]) 4 40 := by unfold inf; kernel_rfl
theorem m167 : (Try.prog.info? 167).map (·.size) = some 4 := by kernel_rfl
theorem ag_167 : agB Try.prog 167 4 = true := by kernel_rfl
theorem f167_0 : faB Try.prog 167 0 0 = true := by kernel_rfl
theorem f167_1 : faB Try.prog 167 1 1 = true := by kernel_rfl
theorem f167_2 : faB Try.prog 167 2 2 = true := by kernel_rfl
theorem f167_3 : faB Try.prog 167 3 3 = true := by kernel_rfl
theorem i168 : inf Try.prog 168 (.agg #[]) 0 0 := by unfold inf; kernel_rfl
theorem m168 : (Try.prog.info? 168).map (·.size) = some 0 := by kernel_rfl
theorem ag_168 : agB Try.prog 168 0 = true := by kernel_rfl
theorem i169 : inf Try.prog 169 (.agg #[]) 0 0 := by unfold inf; kernel_rfl
theorem m169 : (Try.prog.info? 169).map (·.size) = some 0 := by kernel_rfl
theorem ag_169 : agB Try.prog 169 0 = true := by kernel_rfl
theorem i170 : inf Try.prog 170 (.agg #[]) 0 0 := by unfold inf; kernel_rfl
theorem m170 : (Try.prog.info? 170).map (·.size) = some 0 := by kernel_rfl
theorem ag_170 : agB Try.prog 170 0 = true := by kernel_rfl
theorem i171 : inf Try.prog 171 (.nilFunc) 1 8 := by unfold inf; kernel_rfl
theorem m171 : (Try.prog.info? 171).map (·.size) = some 1 := by kernel_rfl
theorem s171 : scB Try.prog 171 = true := by kernel_rfl
theorem i172 : inf Try.prog 172 (.int .u8 0) 1 1 := by unfold inf; kernel_rfl
theorem m172 : (Try.prog.info? 172).map (·.size) = some 1 := by kernel_rfl
theorem u172 : Try.prog.underlying 172 = some (.int .u8) := Try.underlying172
theorem s172 : scB Try.prog 172 = true := by kernel_rfl
theorem i173 : inf Try.prog 173 (.int .u8 0) 1 1 := by unfold inf; kernel_rfl
theorem m173 : (Try.prog.info? 173).map (·.size) = some 1 := by kernel_rfl
theorem u173 : Try.prog.underlying 173 = some (.int .u8) := Try.underlying173
theorem s173 : scB Try.prog 173 = true := by kernel_rfl
theorem i174 : inf Try.prog 174 (.nilFunc) 1 8 := by unfold inf; kernel_rfl
theorem m174 : (Try.prog.info? 174).map (·.size) = some 1 := by kernel_rfl
theorem s174 : scB Try.prog 174 = true := by kernel_rfl
theorem i175 : inf Try.prog 175 (.pointer none) 1 8 := by unfold inf; kernel_rfl
theorem m175 : (Try.prog.info? 175).map (·.size) = some 1 := by kernel_rfl
theorem u175 : Try.prog.underlying 175 = some (.pointer 5) := Try.underlying175
theorem s175 : scB Try.prog 175 = true := by kernel_rfl
theorem i176 : inf Try.prog 176 (.int .i32 0) 1 4 := by unfold inf; kernel_rfl
theorem m176 : (Try.prog.info? 176).map (·.size) = some 1 := by kernel_rfl
theorem u176 : Try.prog.underlying 176 = some (.int .i32) := Try.underlying176
theorem s176 : scB Try.prog 176 = true := by kernel_rfl
theorem i177 : inf Try.prog 177 (.int .i32 0) 1 4 := by unfold inf; kernel_rfl
theorem m177 : (Try.prog.info? 177).map (·.size) = some 1 := by kernel_rfl
theorem u177 : Try.prog.underlying 177 = some (.int .i32) := Try.underlying177
theorem s177 : scB Try.prog 177 = true := by kernel_rfl
theorem i178 : inf Try.prog 178 (.agg #[.int .u64 0, .int .u64 0, .int .u32 0, .int .u8 0, .int .u8 0, .int .u8 0, .int .u8 0, .nilFunc, .pointer none, .int .i32 0, .int .i32 0]) 11 48 := by unfold inf; kernel_rfl
theorem m178 : (Try.prog.info? 178).map (·.size) = some 11 := by kernel_rfl
theorem ag_178 : agB Try.prog 178 11 = true := by kernel_rfl
theorem f178_0 : faB Try.prog 178 0 0 = true := by kernel_rfl
theorem f178_1 : faB Try.prog 178 1 1 = true := by kernel_rfl
theorem f178_2 : faB Try.prog 178 2 2 = true := by kernel_rfl
theorem f178_3 : faB Try.prog 178 3 3 = true := by kernel_rfl
theorem f178_4 : faB Try.prog 178 4 4 = true := by kernel_rfl
theorem f178_5 : faB Try.prog 178 5 5 = true := by kernel_rfl
theorem f178_6 : faB Try.prog 178 6 6 = true := by kernel_rfl
theorem f178_7 : faB Try.prog 178 7 7 = true := by kernel_rfl
theorem f178_8 : faB Try.prog 178 8 8 = true := by kernel_rfl
theorem f178_9 : faB Try.prog 178 9 9 = true := by kernel_rfl
theorem f178_10 : faB Try.prog 178 10 10 = true := by kernel_rfl
theorem i179 : inf Try.prog 179 (.agg #[.int .u64 0, .int .u64 0, .int .u32 0, .int .u8 0, .int .u8 0, .int .u8 0, .int .u8 0, .nilFunc, .pointer none, .int .i32 0, .int .i32 0]) 11 48 := by unfold inf; kernel_rfl
theorem m179 : (Try.prog.info? 179).map (·.size) = some 11 := by kernel_rfl
theorem ag_179 : agB Try.prog 179 11 = true := by kernel_rfl
theorem f179_0 : faB Try.prog 179 0 0 = true := by kernel_rfl
theorem f179_1 : faB Try.prog 179 1 1 = true := by kernel_rfl
theorem f179_2 : faB Try.prog 179 2 2 = true := by kernel_rfl
theorem f179_3 : faB Try.prog 179 3 3 = true := by kernel_rfl
theorem f179_4 : faB Try.prog 179 4 4 = true := by kernel_rfl
theorem f179_5 : faB Try.prog 179 5 5 = true := by kernel_rfl
theorem f179_6 : faB Try.prog 179 6 6 = true := by kernel_rfl
theorem f179_7 : faB Try.prog 179 7 7 = true := by kernel_rfl
theorem f179_8 : faB Try.prog 179 8 8 = true := by kernel_rfl
theorem f179_9 : faB Try.prog 179 9 9 = true := by kernel_rfl
theorem f179_10 : faB Try.prog 179 10 10 = true := by kernel_rfl
theorem i180 : inf Try.prog 180 (.pointer none) 1 8 := by unfold inf; kernel_rfl
theorem m180 : (Try.prog.info? 180).map (·.size) = some 1 := by kernel_rfl
theorem c3 : callB Try.prog 3 = true := by kernel_rfl
theorem c4 : callB Try.prog 4 = true := by kernel_rfl
theorem c5 : callB Try.prog 5 = true := by kernel_rfl
theorem c6 : callB Try.prog 6 = true := by kernel_rfl
theorem c7 : callB Try.prog 7 = true := by kernel_rfl
theorem c8 : callB Try.prog 8 = true := by kernel_rfl
theorem c9 : callB Try.prog 9 = true := by kernel_rfl
theorem c10 : callB Try.prog 10 = true := by kernel_rfl
theorem c11 : callB Try.prog 11 = true := by kernel_rfl
theorem c12 : callB Try.prog 12 = true := by kernel_rfl
theorem c13 : callB Try.prog 13 = true := by kernel_rfl
theorem c14 : callB Try.prog 14 = true := by kernel_rfl
theorem c15 : callB Try.prog 15 = true := by kernel_rfl
theorem c16 : callB Try.prog 16 = true := by kernel_rfl
theorem c17 : callB Try.prog 17 = true := by kernel_rfl
theorem c18 : callB Try.prog 18 = true := by kernel_rfl
theorem c19 : callB Try.prog 19 = true := by kernel_rfl
theorem c20 : callB Try.prog 20 = true := by kernel_rfl
theorem c21 : callB Try.prog 21 = true := by kernel_rfl
theorem c22 : callB Try.prog 22 = true := by kernel_rfl
theorem c23 : callB Try.prog 23 = true := by kernel_rfl
theorem c24 : callB Try.prog 24 = true := by kernel_rfl
theorem c25 : callB Try.prog 25 = true := by kernel_rfl
theorem c26 : callB Try.prog 26 = true := by kernel_rfl
theorem c27 : callB Try.prog 27 = true := by kernel_rfl
theorem c28 : callB Try.prog 28 = true := by kernel_rfl
theorem c29 : callB Try.prog 29 = true := by kernel_rfl
theorem c30 : callB Try.prog 30 = true := by kernel_rfl
theorem c31 : callB Try.prog 31 = true := by kernel_rfl
theorem c32 : callB Try.prog 32 = true := by kernel_rfl
theorem c33 : callB Try.prog 33 = true := by kernel_rfl
theorem c34 : callB Try.prog 34 = true := by kernel_rfl
theorem c35 : callB Try.prog 35 = true := by kernel_rfl
theorem c36 : callB Try.prog 36 = true := by kernel_rfl
theorem c37 : callB Try.prog 37 = true := by kernel_rfl
theorem c38 : callB Try.prog 38 = true := by kernel_rfl
theorem c39 : callB Try.prog 39 = true := by kernel_rfl
theorem c40 : callB Try.prog 40 = true := by kernel_rfl
theorem c41 : callB Try.prog 41 = true := by kernel_rfl
theorem c42 : callB Try.prog 42 = true := by kernel_rfl
theorem c43 : callB Try.prog 43 = true := by kernel_rfl
theorem c44 : callB Try.prog 44 = true := by kernel_rfl
theorem c45 : callB Try.prog 45 = true := by kernel_rfl
theorem c46 : callB Try.prog 46 = true := by kernel_rfl
theorem c47 : callB Try.prog 47 = true := by kernel_rfl
theorem c48 : callB Try.prog 48 = true := by kernel_rfl
theorem c49 : callB Try.prog 49 = true := by kernel_rfl
theorem c50 : callB Try.prog 50 = true := by kernel_rfl
theorem c51 : callB Try.prog 51 = true := by kernel_rfl
theorem c52 : callB Try.prog 52 = true := by kernel_rfl
theorem c53 : callB Try.prog 53 = true := by kernel_rfl
theorem c54 : callB Try.prog 54 = true := by kernel_rfl
theorem c55 : callB Try.prog 55 = true := by kernel_rfl
theorem c56 : callB Try.prog 56 = true := by kernel_rfl
theorem c57 : callB Try.prog 57 = true := by kernel_rfl
theorem c58 : callB Try.prog 58 = true := by kernel_rfl
theorem c59 : callB Try.prog 59 = true := by kernel_rfl
theorem c60 : callB Try.prog 60 = true := by kernel_rfl
theorem c61 : callB Try.prog 61 = true := by kernel_rfl
theorem c62 : callB Try.prog 62 = true := by kernel_rfl
theorem c63 : callB Try.prog 63 = true := by kernel_rfl
theorem c64 : callB Try.prog 64 = true := by kernel_rfl
theorem c65 : callB Try.prog 65 = true := by kernel_rfl
theorem c66 : callB Try.prog 66 = true := by kernel_rfl
theorem c67 : callB Try.prog 67 = true := by kernel_rfl
theorem c68 : callB Try.prog 68 = true := by kernel_rfl
theorem c69 : callB Try.prog 69 = true := by kernel_rfl
theorem c70 : callB Try.prog 70 = true := by kernel_rfl
theorem c71 : callB Try.prog 71 = true := by kernel_rfl
theorem c72 : callB Try.prog 72 = true := by kernel_rfl
theorem c73 : callB Try.prog 73 = true := by kernel_rfl
theorem c74 : callB Try.prog 74 = true := by kernel_rfl
theorem c75 : callB Try.prog 75 = true := by kernel_rfl
theorem c76 : callB Try.prog 76 = true := by kernel_rfl
theorem c77 : callB Try.prog 77 = true := by kernel_rfl
theorem c78 : callB Try.prog 78 = true := by kernel_rfl
theorem c79 : callB Try.prog 79 = true := by kernel_rfl
theorem c80 : callB Try.prog 80 = true := by kernel_rfl
theorem c81 : callB Try.prog 81 = true := by kernel_rfl
theorem c82 : callB Try.prog 82 = true := by kernel_rfl
theorem c83 : callB Try.prog 83 = true := by kernel_rfl
theorem c84 : callB Try.prog 84 = true := by kernel_rfl
theorem c85 : callB Try.prog 85 = true := by kernel_rfl
theorem c86 : callB Try.prog 86 = true := by kernel_rfl
theorem c87 : callB Try.prog 87 = true := by kernel_rfl
theorem c88 : callB Try.prog 88 = true := by kernel_rfl
theorem c89 : callB Try.prog 89 = true := by kernel_rfl
theorem c90 : callB Try.prog 90 = true := by kernel_rfl
theorem c91 : callB Try.prog 91 = true := by kernel_rfl
theorem c92 : callB Try.prog 92 = true := by kernel_rfl
theorem c93 : callB Try.prog 93 = true := by kernel_rfl
theorem c94 : callB Try.prog 94 = true := by kernel_rfl
theorem c95 : callB Try.prog 95 = true := by kernel_rfl
theorem c96 : callB Try.prog 96 = true := by kernel_rfl
theorem c97 : callB Try.prog 97 = true := by kernel_rfl
theorem c98 : callB Try.prog 98 = true := by kernel_rfl
theorem c99 : callB Try.prog 99 = true := by kernel_rfl
theorem c100 : callB Try.prog 100 = true := by kernel_rfl
theorem c101 : callB Try.prog 101 = true := by kernel_rfl
theorem c102 : callB Try.prog 102 = true := by kernel_rfl
theorem c103 : callB Try.prog 103 = true := by kernel_rfl
theorem c104 : callB Try.prog 104 = true := by kernel_rfl
theorem c105 : callB Try.prog 105 = true := by kernel_rfl
theorem c106 : callB Try.prog 106 = true := by kernel_rfl
theorem c107 : callB Try.prog 107 = true := by kernel_rfl
theorem c108 : callB Try.prog 108 = true := by kernel_rfl
theorem c109 : callB Try.prog 109 = true := by kernel_rfl
theorem c110 : callB Try.prog 110 = true := by kernel_rfl
theorem c111 : callB Try.prog 111 = true := by kernel_rfl
theorem c112 : callB Try.prog 112 = true := by kernel_rfl
theorem c113 : callB Try.prog 113 = true := by kernel_rfl
theorem c114 : callB Try.prog 114 = true := by kernel_rfl
theorem mix : Try.prog.follows .mixedOrders = true := by kernel_rfl
end Go.Proofs.Ytpomfbdbkejedaa
