/- Facts on the translation's types, fields and functions. No conditions. -/
import Derived.Test.YteaknconpkklhaaTy
import Derived.Test.YteaknconpkklhaaProg
set_option linter.unusedVariables false
set_option linter.unusedSimpArgs false
namespace Go.Proofs.Yteaknconpkklhaa
open Go Go.Proofs
theorem i1 : inf Try.prog 1 (.nilFunc) 1 8 := by unfold inf; kernel_rfl
theorem m1 : (Try.prog.info? 1).map (·.size) = some 1 := by kernel_rfl
theorem s1 : scB Try.prog 1 = true := by kernel_rfl
theorem i2 : inf Try.prog 2 (.int .i64 0) 1 8 := by unfold inf; kernel_rfl
theorem m2 : (Try.prog.info? 2).map (·.size) = some 1 := by kernel_rfl
theorem u2 : Try.prog.underlying 2 = some (.int .i64) := Try.underlying2
theorem s2 : scB Try.prog 2 = true := by kernel_rfl
theorem i3 : inf Try.prog 3 (.int .i64 0) 1 8 := by unfold inf; kernel_rfl
theorem m3 : (Try.prog.info? 3).map (·.size) = some 1 := by kernel_rfl
theorem u3 : Try.prog.underlying 3 = some (.int .i64) := Try.underlying3
theorem s3 : scB Try.prog 3 = true := by kernel_rfl
theorem i4 : inf Try.prog 4 (.bool false) 1 1 := by unfold inf; kernel_rfl
theorem m4 : (Try.prog.info? 4).map (·.size) = some 1 := by kernel_rfl
theorem s4 : scB Try.prog 4 = true := by kernel_rfl
theorem i5 : inf Try.prog 5 (.int .u8 0) 1 1 := by unfold inf; kernel_rfl
theorem m5 : (Try.prog.info? 5).map (·.size) = some 1 := by kernel_rfl
theorem u5 : Try.prog.underlying 5 = some (.int .u8) := Try.underlying5
theorem s5 : scB Try.prog 5 = true := by kernel_rfl
theorem i6 : inf Try.prog 6 (.int .u8 0) 1 1 := by unfold inf; kernel_rfl
theorem m6 : (Try.prog.info? 6).map (·.size) = some 1 := by kernel_rfl
theorem u6 : Try.prog.underlying 6 = some (.int .u8) := Try.underlying6
theorem s6 : scB Try.prog 6 = true := by kernel_rfl
theorem i7 : inf Try.prog 7 (.agg #[.int .i64 0, .int .i64 0, .bool false, .int .u8 0]) 4 24 := by unfold inf; kernel_rfl
theorem m7 : (Try.prog.info? 7).map (·.size) = some 4 := by kernel_rfl
theorem ag_7 : agB Try.prog 7 4 = true := by kernel_rfl
theorem f7_0 : faB Try.prog 7 0 0 = true := by kernel_rfl
theorem f7_1 : faB Try.prog 7 1 1 = true := by kernel_rfl
theorem f7_2 : faB Try.prog 7 2 2 = true := by kernel_rfl
theorem f7_3 : faB Try.prog 7 3 3 = true := by kernel_rfl
theorem i8 : inf Try.prog 8 (.agg #[.int .i64 0, .int .i64 0, .bool false, .int .u8 0]) 4 24 := by unfold inf; kernel_rfl
theorem m8 : (Try.prog.info? 8).map (·.size) = some 4 := by kernel_rfl
theorem ag_8 : agB Try.prog 8 4 = true := by kernel_rfl
theorem f8_0 : faB Try.prog 8 0 0 = true := by kernel_rfl
theorem f8_1 : faB Try.prog 8 1 1 = true := by kernel_rfl
theorem f8_2 : faB Try.prog 8 2 2 = true := by kernel_rfl
theorem f8_3 : faB Try.prog 8 3 3 = true := by kernel_rfl
theorem i12 : inf Try.prog 12 (.int .u64 0) 1 8 := by unfold inf; kernel_rfl
theorem m12 : (Try.prog.info? 12).map (·.size) = some 1 := by kernel_rfl
theorem u12 : Try.prog.underlying 12 = some (.int .u64) := Try.underlying12
theorem s12 : scB Try.prog 12 = true := by kernel_rfl
theorem i13 : inf Try.prog 13 (.agg #[.string ⟨#[]⟩, .int .u64 0]) 2 24 := by unfold inf; kernel_rfl
theorem m13 : (Try.prog.info? 13).map (·.size) = some 2 := by kernel_rfl
theorem ag_13 : agB Try.prog 13 2 = true := by kernel_rfl
theorem f13_0 : faB Try.prog 13 0 0 = true := by kernel_rfl
theorem f13_1 : faB Try.prog 13 1 1 = true := by kernel_rfl
theorem i14 : inf Try.prog 14 (.agg #[.string ⟨#[]⟩, .int .u64 0]) 2 24 := by unfold inf; kernel_rfl
theorem m14 : (Try.prog.info? 14).map (·.size) = some 2 := by kernel_rfl
theorem ag_14 : agB Try.prog 14 2 = true := by kernel_rfl
theorem f14_0 : faB Try.prog 14 0 0 = true := by kernel_rfl
theorem f14_1 : faB Try.prog 14 1 1 = true := by kernel_rfl
theorem i15 : inf Try.prog 15 (.pointer none) 1 8 := by unfold inf; kernel_rfl
theorem m15 : (Try.prog.info? 15).map (·.size) = some 1 := by kernel_rfl
theorem u15 : Try.prog.underlying 15 = some (.pointer 191) := Try.underlying15
theorem s15 : scB Try.prog 15 = true := by kernel_rfl
theorem i16 : inf Try.prog 16 (.pointer none) 1 8 := by unfold inf; kernel_rfl
theorem m16 : (Try.prog.info? 16).map (·.size) = some 1 := by kernel_rfl
theorem u16 : Try.prog.underlying 16 = some (.pointer 194) := Try.underlying16
theorem s16 : scB Try.prog 16 = true := by kernel_rfl
theorem i17 : inf Try.prog 17 (.pointer none) 1 8 := by unfold inf; kernel_rfl
theorem m17 : (Try.prog.info? 17).map (·.size) = some 1 := by kernel_rfl
theorem u17 : Try.prog.underlying 17 = some (.pointer 203) := Try.underlying17
theorem s17 : scB Try.prog 17 = true := by kernel_rfl
theorem i18 : inf Try.prog 18 (.agg #[.pointer none]) 1 8 := by unfold inf; kernel_rfl
theorem m18 : (Try.prog.info? 18).map (·.size) = some 1 := by kernel_rfl
theorem ag_18 : agB Try.prog 18 1 = true := by kernel_rfl
theorem f18_0 : faB Try.prog 18 0 0 = true := by kernel_rfl
theorem i19 : inf Try.prog 19 (.agg #[.pointer none]) 1 8 := by unfold inf; kernel_rfl
theorem m19 : (Try.prog.info? 19).map (·.size) = some 1 := by kernel_rfl
theorem ag_19 : agB Try.prog 19 1 = true := by kernel_rfl
theorem f19_0 : faB Try.prog 19 0 0 = true := by kernel_rfl
theorem i20 : inf Try.prog 20 (.nilIface) 1 16 := by unfold inf; kernel_rfl
theorem m20 : (Try.prog.info? 20).map (·.size) = some 1 := by kernel_rfl
theorem s20 : scB Try.prog 20 = true := by kernel_rfl
theorem i21 : inf Try.prog 21 (.int .i32 0) 1 4 := by unfold inf; kernel_rfl
theorem m21 : (Try.prog.info? 21).map (·.size) = some 1 := by kernel_rfl
theorem u21 : Try.prog.underlying 21 = some (.int .i32) := Try.underlying21
theorem s21 : scB Try.prog 21 = true := by kernel_rfl
theorem i22 : inf Try.prog 22 (.slice none 0 0) 1 24 := by unfold inf; kernel_rfl
theorem m22 : (Try.prog.info? 22).map (·.size) = some 1 := by kernel_rfl
theorem u22 : Try.prog.underlying 22 = some (.slice 31) := Try.underlying22
theorem s22 : scB Try.prog 22 = true := by kernel_rfl
theorem i23 : inf Try.prog 23 (.slice none 0 0) 1 24 := by unfold inf; kernel_rfl
theorem m23 : (Try.prog.info? 23).map (·.size) = some 1 := by kernel_rfl
theorem u23 : Try.prog.underlying 23 = some (.slice 2) := Try.underlying23
theorem s23 : scB Try.prog 23 = true := by kernel_rfl
theorem i24 : inf Try.prog 24 (.nilFunc) 1 8 := by unfold inf; kernel_rfl
theorem m24 : (Try.prog.info? 24).map (·.size) = some 1 := by kernel_rfl
theorem s24 : scB Try.prog 24 = true := by kernel_rfl
theorem i25 : inf Try.prog 25 (.slice none 0 0) 1 24 := by unfold inf; kernel_rfl
theorem m25 : (Try.prog.info? 25).map (·.size) = some 1 := by kernel_rfl
theorem u25 : Try.prog.underlying 25 = some (.slice 3) := Try.underlying25
theorem s25 : scB Try.prog 25 = true := by kernel_rfl
theorem i26 : inf Try.prog 26 (.nilIface) 1 16 := by unfold inf; kernel_rfl
theorem m26 : (Try.prog.info? 26).map (·.size) = some 1 := by kernel_rfl
theorem s26 : scB Try.prog 26 = true := by kernel_rfl
theorem i27 : inf Try.prog 27 (.nilIface) 1 16 := by unfold inf; kernel_rfl
theorem m27 : (Try.prog.info? 27).map (·.size) = some 1 := by kernel_rfl
theorem ifc_27 : Try.prog.underlying 27 = some (.interface (Try.prog.methodsAt 27)) := by kernel_rfl
theorem s27 : scB Try.prog 27 = true := by kernel_rfl
theorem i29 : inf Try.prog 29 (.nilFunc) 1 8 := by unfold inf; kernel_rfl
theorem m29 : (Try.prog.info? 29).map (·.size) = some 1 := by kernel_rfl
theorem s29 : scB Try.prog 29 = true := by kernel_rfl
theorem i30 : inf Try.prog 30 (.nilFunc) 1 8 := by unfold inf; kernel_rfl
theorem m30 : (Try.prog.info? 30).map (·.size) = some 1 := by kernel_rfl
theorem s30 : scB Try.prog 30 = true := by kernel_rfl
theorem i31 : inf Try.prog 31 (.agg #[.int .i64 0, .int .i64 0]) 2 16 := by unfold inf; kernel_rfl
theorem m31 : (Try.prog.info? 31).map (·.size) = some 2 := by kernel_rfl
theorem ag_31 : agB Try.prog 31 2 = true := by kernel_rfl
theorem i32 : inf Try.prog 32 (.nilFunc) 1 8 := by unfold inf; kernel_rfl
theorem m32 : (Try.prog.info? 32).map (·.size) = some 1 := by kernel_rfl
theorem s32 : scB Try.prog 32 = true := by kernel_rfl
theorem i33 : inf Try.prog 33 (.slice none 0 0) 1 24 := by unfold inf; kernel_rfl
theorem m33 : (Try.prog.info? 33).map (·.size) = some 1 := by kernel_rfl
theorem u33 : Try.prog.underlying 33 = some (.slice 40) := Try.underlying33
theorem s33 : scB Try.prog 33 = true := by kernel_rfl
theorem i34 : inf Try.prog 34 (.agg #[.slice none 0 0]) 1 24 := by unfold inf; kernel_rfl
theorem m34 : (Try.prog.info? 34).map (·.size) = some 1 := by kernel_rfl
theorem ag_34 : agB Try.prog 34 1 = true := by kernel_rfl
theorem f34_0 : faB Try.prog 34 0 0 = true := by kernel_rfl
theorem i35 : inf Try.prog 35 (.agg #[.slice none 0 0]) 1 24 := by unfold inf; kernel_rfl
theorem m35 : (Try.prog.info? 35).map (·.size) = some 1 := by kernel_rfl
theorem ag_35 : agB Try.prog 35 1 = true := by kernel_rfl
theorem f35_0 : faB Try.prog 35 0 0 = true := by kernel_rfl
theorem i36 : inf Try.prog 36 (.nilFunc) 1 8 := by unfold inf; kernel_rfl
theorem m36 : (Try.prog.info? 36).map (·.size) = some 1 := by kernel_rfl
theorem s36 : scB Try.prog 36 = true := by kernel_rfl
theorem i37 : inf Try.prog 37 (.nilFunc) 1 8 := by unfold inf; kernel_rfl
theorem m37 : (Try.prog.info? 37).map (·.size) = some 1 := by kernel_rfl
theorem s37 : scB Try.prog 37 = true := by kernel_rfl
theorem i38 : inf Try.prog 38 (.slice none 0 0) 1 24 := by unfold inf; kernel_rfl
theorem m38 : (Try.prog.info? 38).map (·.size) = some 1 := by kernel_rfl
theorem u38 : Try.prog.underlying 38 = some (.slice 50) := Try.underlying38
theorem s38 : scB Try.prog 38 = true := by kernel_rfl
theorem i39 : inf Try.prog 39 (.agg #[.int .i64 0, .int .i64 0, .slice none 0 0, .slice none 0 0]) 4 64 := by unfold inf; kernel_rfl
theorem m39 : (Try.prog.info? 39).map (·.size) = some 4 := by kernel_rfl
theorem ag_39 : agB Try.prog 39 4 = true := by kernel_rfl
theorem f39_0 : faB Try.prog 39 0 0 = true := by kernel_rfl
theorem f39_1 : faB Try.prog 39 1 1 = true := by kernel_rfl
theorem f39_2 : faB Try.prog 39 2 2 = true := by kernel_rfl
theorem f39_3 : faB Try.prog 39 3 3 = true := by kernel_rfl
theorem i40 : inf Try.prog 40 (.agg #[.int .i64 0, .int .i64 0, .slice none 0 0, .slice none 0 0]) 4 64 := by unfold inf; kernel_rfl
theorem m40 : (Try.prog.info? 40).map (·.size) = some 4 := by kernel_rfl
theorem ag_40 : agB Try.prog 40 4 = true := by kernel_rfl
theorem f40_0 : faB Try.prog 40 0 0 = true := by kernel_rfl
theorem f40_1 : faB Try.prog 40 1 1 = true := by kernel_rfl
theorem f40_2 : faB Try.prog 40 2 2 = true := by kernel_rfl
theorem f40_3 : faB Try.prog 40 3 3 = true := by kernel_rfl
theorem i42 : inf Try.prog 42 (.nilFunc) 1 8 := by unfold inf; kernel_rfl
theorem m42 : (Try.prog.info? 42).map (·.size) = some 1 := by kernel_rfl
theorem s42 : scB Try.prog 42 = true := by kernel_rfl
theorem i43 : inf Try.prog 43 (.nilFunc) 1 8 := by unfold inf; kernel_rfl
theorem m43 : (Try.prog.info? 43).map (·.size) = some 1 := by kernel_rfl
theorem s43 : scB Try.prog 43 = true := by kernel_rfl
theorem i44 : inf Try.prog 44 (.nilFunc) 1 8 := by unfold inf; kernel_rfl
theorem m44 : (Try.prog.info? 44).map (·.size) = some 1 := by kernel_rfl
theorem s44 : scB Try.prog 44 = true := by kernel_rfl
theorem i45 : inf Try.prog 45 (.agg #[.int .i64 0, .int .i64 0, .slice none 0 0]) 3 40 := by unfold inf; kernel_rfl
theorem m45 : (Try.prog.info? 45).map (·.size) = some 3 := by kernel_rfl
theorem ag_45 : agB Try.prog 45 3 = true := by kernel_rfl
theorem f45_0 : faB Try.prog 45 0 0 = true := by kernel_rfl
theorem f45_1 : faB Try.prog 45 1 1 = true := by kernel_rfl
theorem f45_2 : faB Try.prog 45 2 2 = true := by kernel_rfl
theorem i46 : inf Try.prog 46 (.agg #[.int .i64 0, .int .i64 0, .slice none 0 0]) 3 40 := by unfold inf; kernel_rfl
theorem m46 : (Try.prog.info? 46).map (·.size) = some 3 := by kernel_rfl
theorem ag_46 : agB Try.prog 46 3 = true := by kernel_rfl
theorem f46_0 : faB Try.prog 46 0 0 = true := by kernel_rfl
theorem f46_1 : faB Try.prog 46 1 1 = true := by kernel_rfl
theorem f46_2 : faB Try.prog 46 2 2 = true := by kernel_rfl
theorem i47 : inf Try.prog 47 (.slice none 0 0) 1 24 := by unfold inf; kernel_rfl
theorem m47 : (Try.prog.info? 47).map (·.size) = some 1 := by kernel_rfl
theorem u47 : Try.prog.underlying 47 = some (.slice 76) := Try.underlying47
theorem s47 : scB Try.prog 47 = true := by kernel_rfl
theorem i48 : inf Try.prog 48 (.slice none 0 0) 1 24 := by unfold inf; kernel_rfl
theorem m48 : (Try.prog.info? 48).map (·.size) = some 1 := by kernel_rfl
theorem u48 : Try.prog.underlying 48 = some (.slice 52) := Try.underlying48
theorem s48 : scB Try.prog 48 = true := by kernel_rfl
theorem i49 : inf Try.prog 49 (.agg #[.slice none 0 0, .slice none 0 0, .int .i64 0, .int .i64 0, .slice none 0 0]) 5 88 := by unfold inf; kernel_rfl
theorem m49 : (Try.prog.info? 49).map (·.size) = some 5 := by kernel_rfl
theorem ag_49 : agB Try.prog 49 5 = true := by kernel_rfl
theorem f49_0 : faB Try.prog 49 0 0 = true := by kernel_rfl
theorem f49_1 : faB Try.prog 49 1 1 = true := by kernel_rfl
theorem f49_2 : faB Try.prog 49 2 2 = true := by kernel_rfl
theorem i50 : inf Try.prog 50 (.agg #[.slice none 0 0, .slice none 0 0, .int .i64 0, .int .i64 0, .slice none 0 0]) 5 88 := by unfold inf; kernel_rfl
theorem m50 : (Try.prog.info? 50).map (·.size) = some 5 := by kernel_rfl
theorem ag_50 : agB Try.prog 50 5 = true := by kernel_rfl
theorem f50_0 : faB Try.prog 50 0 0 = true := by kernel_rfl
theorem f50_1 : faB Try.prog 50 1 1 = true := by kernel_rfl
theorem f50_2 : faB Try.prog 50 2 2 = true := by kernel_rfl
theorem i51 : inf Try.prog 51 (.agg #[.int .i64 0, .int .i64 0, .slice none 0 0, .int .i64 0, .int .i64 0]) 5 56 := by unfold inf; kernel_rfl
theorem m51 : (Try.prog.info? 51).map (·.size) = some 5 := by kernel_rfl
theorem ag_51 : agB Try.prog 51 5 = true := by kernel_rfl
theorem f51_0 : faB Try.prog 51 0 0 = true := by kernel_rfl
theorem f51_1 : faB Try.prog 51 1 1 = true := by kernel_rfl
theorem f51_2 : faB Try.prog 51 2 2 = true := by kernel_rfl
theorem f51_3 : faB Try.prog 51 3 3 = true := by kernel_rfl
theorem f51_4 : faB Try.prog 51 4 4 = true := by kernel_rfl
theorem i52 : inf Try.prog 52 (.agg #[.int .i64 0, .int .i64 0, .slice none 0 0, .int .i64 0, .int .i64 0]) 5 56 := by unfold inf; kernel_rfl
theorem m52 : (Try.prog.info? 52).map (·.size) = some 5 := by kernel_rfl
theorem ag_52 : agB Try.prog 52 5 = true := by kernel_rfl
theorem f52_0 : faB Try.prog 52 0 0 = true := by kernel_rfl
theorem f52_1 : faB Try.prog 52 1 1 = true := by kernel_rfl
theorem f52_2 : faB Try.prog 52 2 2 = true := by kernel_rfl
theorem f52_3 : faB Try.prog 52 3 3 = true := by kernel_rfl
theorem f52_4 : faB Try.prog 52 4 4 = true := by kernel_rfl
theorem i53 : inf Try.prog 53 (.nilFunc) 1 8 := by unfold inf; kernel_rfl
theorem m53 : (Try.prog.info? 53).map (·.size) = some 1 := by kernel_rfl
theorem s53 : scB Try.prog 53 = true := by kernel_rfl
theorem i54 : inf Try.prog 54 (.nilFunc) 1 8 := by unfold inf; kernel_rfl
theorem m54 : (Try.prog.info? 54).map (·.size) = some 1 := by kernel_rfl
theorem s54 : scB Try.prog 54 = true := by kernel_rfl
theorem i56 : inf Try.prog 56 (.nilFunc) 1 8 := by unfold inf; kernel_rfl
theorem m56 : (Try.prog.info? 56).map (·.size) = some 1 := by kernel_rfl
theorem s56 : scB Try.prog 56 = true := by kernel_rfl
theorem i57 : inf Try.prog 57 (.nilFunc) 1 8 := by unfold inf; kernel_rfl
theorem m57 : (Try.prog.info? 57).map (·.size) = some 1 := by kernel_rfl
theorem s57 : scB Try.prog 57 = true := by kernel_rfl
theorem i58 : inf Try.prog 58 (.slice none 0 0) 1 24 := by unfold inf; kernel_rfl
theorem m58 : (Try.prog.info? 58).map (·.size) = some 1 := by kernel_rfl
theorem u58 : Try.prog.underlying 58 = some (.slice 60) := Try.underlying58
theorem s58 : scB Try.prog 58 = true := by kernel_rfl
theorem i59 : inf Try.prog 59 (.nilFunc) 1 8 := by unfold inf; kernel_rfl
theorem m59 : (Try.prog.info? 59).map (·.size) = some 1 := by kernel_rfl
theorem s59 : scB Try.prog 59 = true := by kernel_rfl
theorem i60 : inf Try.prog 60 (.slice none 0 0) 1 24 := by unfold inf; kernel_rfl
theorem m60 : (Try.prog.info? 60).map (·.size) = some 1 := by kernel_rfl
theorem u60 : Try.prog.underlying 60 = some (.slice 25) := Try.underlying60
theorem s60 : scB Try.prog 60 = true := by kernel_rfl
theorem i61 : inf Try.prog 61 (.nilFunc) 1 8 := by unfold inf; kernel_rfl
theorem m61 : (Try.prog.info? 61).map (·.size) = some 1 := by kernel_rfl
theorem s61 : scB Try.prog 61 = true := by kernel_rfl
theorem i62 : inf Try.prog 62 (.slice none 0 0) 1 24 := by unfold inf; kernel_rfl
theorem m62 : (Try.prog.info? 62).map (·.size) = some 1 := by kernel_rfl
theorem u62 : Try.prog.underlying 62 = some (.slice 88) := Try.underlying62
theorem s62 : scB Try.prog 62 = true := by kernel_rfl
theorem i63 : inf Try.prog 63 (.nilFunc) 1 8 := by unfold inf; kernel_rfl
theorem m63 : (Try.prog.info? 63).map (·.size) = some 1 := by kernel_rfl
theorem s63 : scB Try.prog 63 = true := by kernel_rfl
theorem i64 : inf Try.prog 64 (.nilFunc) 1 8 := by unfold inf; kernel_rfl
theorem m64 : (Try.prog.info? 64).map (·.size) = some 1 := by kernel_rfl
theorem s64 : scB Try.prog 64 = true := by kernel_rfl
theorem i65 : inf Try.prog 65 (.nilFunc) 1 8 := by unfold inf; kernel_rfl
theorem m65 : (Try.prog.info? 65).map (·.size) = some 1 := by kernel_rfl
theorem s65 : scB Try.prog 65 = true := by kernel_rfl
theorem i66 : inf Try.prog 66 (.nilFunc) 1 8 := by unfold inf; kernel_rfl
theorem m66 : (Try.prog.info? 66).map (·.size) = some 1 := by kernel_rfl
theorem s66 : scB Try.prog 66 = true := by kernel_rfl
theorem i67 : inf Try.prog 67 (.nilFunc) 1 8 := by unfold inf; kernel_rfl
theorem m67 : (Try.prog.info? 67).map (·.size) = some 1 := by kernel_rfl
theorem s67 : scB Try.prog 67 = true := by kernel_rfl
theorem i68 : inf Try.prog 68 (.nilFunc) 1 8 := by unfold inf; kernel_rfl
theorem m68 : (Try.prog.info? 68).map (·.size) = some 1 := by kernel_rfl
theorem s68 : scB Try.prog 68 = true := by kernel_rfl
theorem i69 : inf Try.prog 69 (.nilFunc) 1 8 := by unfold inf; kernel_rfl
theorem m69 : (Try.prog.info? 69).map (·.size) = some 1 := by kernel_rfl
theorem s69 : scB Try.prog 69 = true := by kernel_rfl
theorem i70 : inf Try.prog 70 (.int .i64 0) 1 8 := by unfold inf; kernel_rfl
theorem m70 : (Try.prog.info? 70).map (·.size) = some 1 := by kernel_rfl
theorem u70 : Try.prog.underlying 70 = some (.int .i64) := Try.underlying70
theorem cmp_70 : (Try.prog.info? 70).map (·.comparable) = some true := by kernel_rfl
theorem s70 : scB Try.prog 70 = true := by kernel_rfl
theorem i71 : inf Try.prog 71 (.nilFunc) 1 8 := by unfold inf; kernel_rfl
theorem m71 : (Try.prog.info? 71).map (·.size) = some 1 := by kernel_rfl
theorem s71 : scB Try.prog 71 = true := by kernel_rfl
theorem i72 : inf Try.prog 72 (.nilFunc) 1 8 := by unfold inf; kernel_rfl
theorem m72 : (Try.prog.info? 72).map (·.size) = some 1 := by kernel_rfl
theorem s72 : scB Try.prog 72 = true := by kernel_rfl
theorem i73 : inf Try.prog 73 (.nilFunc) 1 8 := by unfold inf; kernel_rfl
theorem m73 : (Try.prog.info? 73).map (·.size) = some 1 := by kernel_rfl
theorem s73 : scB Try.prog 73 = true := by kernel_rfl
theorem i74 : inf Try.prog 74 (.nilFunc) 1 8 := by unfold inf; kernel_rfl
theorem m74 : (Try.prog.info? 74).map (·.size) = some 1 := by kernel_rfl
theorem s74 : scB Try.prog 74 = true := by kernel_rfl
theorem i75 : inf Try.prog 75 (.agg #[.int .i64 0, .slice none 0 0]) 2 32 := by unfold inf; kernel_rfl
theorem m75 : (Try.prog.info? 75).map (·.size) = some 2 := by kernel_rfl
theorem ag_75 : agB Try.prog 75 2 = true := by kernel_rfl
theorem f75_0 : faB Try.prog 75 0 0 = true := by kernel_rfl
theorem f75_1 : faB Try.prog 75 1 1 = true := by kernel_rfl
theorem i76 : inf Try.prog 76 (.agg #[.int .i64 0, .slice none 0 0]) 2 32 := by unfold inf; kernel_rfl
theorem m76 : (Try.prog.info? 76).map (·.size) = some 2 := by kernel_rfl
theorem ag_76 : agB Try.prog 76 2 = true := by kernel_rfl
theorem f76_0 : faB Try.prog 76 0 0 = true := by kernel_rfl
theorem f76_1 : faB Try.prog 76 1 1 = true := by kernel_rfl
theorem i77 : inf Try.prog 77 (.nilFunc) 1 8 := by unfold inf; kernel_rfl
theorem m77 : (Try.prog.info? 77).map (·.size) = some 1 := by kernel_rfl
theorem s77 : scB Try.prog 77 = true := by kernel_rfl
theorem i78 : inf Try.prog 78 (.nilFunc) 1 8 := by unfold inf; kernel_rfl
theorem m78 : (Try.prog.info? 78).map (·.size) = some 1 := by kernel_rfl
theorem s78 : scB Try.prog 78 = true := by kernel_rfl
theorem i80 : inf Try.prog 80 (.nilFunc) 1 8 := by unfold inf; kernel_rfl
theorem m80 : (Try.prog.info? 80).map (·.size) = some 1 := by kernel_rfl
theorem s80 : scB Try.prog 80 = true := by kernel_rfl
theorem i81 : inf Try.prog 81 (.pointer none) 1 8 := by unfold inf; kernel_rfl
theorem m81 : (Try.prog.info? 81).map (·.size) = some 1 := by kernel_rfl
theorem u81 : Try.prog.underlying 81 = some (.pointer 85) := Try.underlying81
theorem s81 : scB Try.prog 81 = true := by kernel_rfl
theorem i82 : inf Try.prog 82 (.nilFunc) 1 8 := by unfold inf; kernel_rfl
theorem m82 : (Try.prog.info? 82).map (·.size) = some 1 := by kernel_rfl
theorem s82 : scB Try.prog 82 = true := by kernel_rfl
theorem i83 : inf Try.prog 83 (.nilFunc) 1 8 := by unfold inf; kernel_rfl
theorem m83 : (Try.prog.info? 83).map (·.size) = some 1 := by kernel_rfl
theorem s83 : scB Try.prog 83 = true := by kernel_rfl
theorem i84 : inf Try.prog 84 (.agg #[.int .i64 0, .int .i64 0, .slice none 0 0, .slice none 0 0, .slice none 0 0, .slice none 0 0, .slice none 0 0, .slice none 0 0, .slice none 0 0, .slice none 0 0, .slice none 0 0, .slice none 0 0, .slice none 0 0, .slice none 0 0, .slice none 0 0]) 15 328 := by unfold inf; kernel_rfl
theorem m84 : (Try.prog.info? 84).map (·.size) = some 15 := by kernel_rfl
theorem ag_84 : agB Try.prog 84 15 = true := by kernel_rfl
theorem f84_0 : faB Try.prog 84 0 0 = true := by kernel_rfl
theorem f84_1 : faB Try.prog 84 1 4 = true := by kernel_rfl
theorem f84_2 : faB Try.prog 84 2 5 = true := by kernel_rfl
theorem f84_3 : faB Try.prog 84 3 6 = true := by kernel_rfl
theorem f84_4 : faB Try.prog 84 4 7 = true := by kernel_rfl
theorem f84_5 : faB Try.prog 84 5 8 = true := by kernel_rfl
theorem f84_6 : faB Try.prog 84 6 9 = true := by kernel_rfl
theorem f84_7 : faB Try.prog 84 7 10 = true := by kernel_rfl
theorem f84_8 : faB Try.prog 84 8 11 = true := by kernel_rfl
theorem f84_9 : faB Try.prog 84 9 12 = true := by kernel_rfl
theorem f84_10 : faB Try.prog 84 10 13 = true := by kernel_rfl
theorem f84_11 : faB Try.prog 84 11 14 = true := by kernel_rfl
theorem i85 : inf Try.prog 85 (.agg #[.int .i64 0, .int .i64 0, .slice none 0 0, .slice none 0 0, .slice none 0 0, .slice none 0 0, .slice none 0 0, .slice none 0 0, .slice none 0 0, .slice none 0 0, .slice none 0 0, .slice none 0 0, .slice none 0 0, .slice none 0 0, .slice none 0 0]) 15 328 := by unfold inf; kernel_rfl
theorem m85 : (Try.prog.info? 85).map (·.size) = some 15 := by kernel_rfl
theorem ag_85 : agB Try.prog 85 15 = true := by kernel_rfl
theorem f85_0 : faB Try.prog 85 0 0 = true := by kernel_rfl
theorem f85_1 : faB Try.prog 85 1 4 = true := by kernel_rfl
theorem f85_2 : faB Try.prog 85 2 5 = true := by kernel_rfl
theorem f85_3 : faB Try.prog 85 3 6 = true := by kernel_rfl
theorem f85_4 : faB Try.prog 85 4 7 = true := by kernel_rfl
theorem f85_5 : faB Try.prog 85 5 8 = true := by kernel_rfl
theorem f85_6 : faB Try.prog 85 6 9 = true := by kernel_rfl
theorem f85_7 : faB Try.prog 85 7 10 = true := by kernel_rfl
theorem f85_8 : faB Try.prog 85 8 11 = true := by kernel_rfl
theorem f85_9 : faB Try.prog 85 9 12 = true := by kernel_rfl
theorem f85_10 : faB Try.prog 85 10 13 = true := by kernel_rfl
theorem f85_11 : faB Try.prog 85 11 14 = true := by kernel_rfl
theorem i86 : inf Try.prog 86 (.nilFunc) 1 8 := by unfold inf; kernel_rfl
theorem m86 : (Try.prog.info? 86).map (·.size) = some 1 := by kernel_rfl
theorem s86 : scB Try.prog 86 = true := by kernel_rfl
theorem i87 : inf Try.prog 87 (.nilFunc) 1 8 := by unfold inf; kernel_rfl
theorem m87 : (Try.prog.info? 87).map (·.size) = some 1 := by kernel_rfl
theorem s87 : scB Try.prog 87 = true := by kernel_rfl
theorem i88 : inf Try.prog 88 (.slice none 0 0) 1 24 := by unfold inf; kernel_rfl
theorem m88 : (Try.prog.info? 88).map (·.size) = some 1 := by kernel_rfl
theorem u88 : Try.prog.underlying 88 = some (.slice 4) := Try.underlying88
theorem s88 : scB Try.prog 88 = true := by kernel_rfl
theorem i89 : inf Try.prog 89 (.nilFunc) 1 8 := by unfold inf; kernel_rfl
theorem m89 : (Try.prog.info? 89).map (·.size) = some 1 := by kernel_rfl
theorem s89 : scB Try.prog 89 = true := by kernel_rfl
theorem i90 : inf Try.prog 90 (.nilFunc) 1 8 := by unfold inf; kernel_rfl
theorem m90 : (Try.prog.info? 90).map (·.size) = some 1 := by kernel_rfl
theorem s90 : scB Try.prog 90 = true := by kernel_rfl
theorem i91 : inf Try.prog 91 (.nilFunc) 1 8 := by unfold inf; kernel_rfl
theorem m91 : (Try.prog.info? 91).map (·.size) = some 1 := by kernel_rfl
theorem s91 : scB Try.prog 91 = true := by kernel_rfl
theorem i92 : inf Try.prog 92 (.nilFunc) 1 8 := by unfold inf; kernel_rfl
theorem m92 : (Try.prog.info? 92).map (·.size) = some 1 := by kernel_rfl
theorem s92 : scB Try.prog 92 = true := by kernel_rfl
theorem i93 : inf Try.prog 93 (.slice none 0 0) 1 24 := by unfold inf; kernel_rfl
theorem m93 : (Try.prog.info? 93).map (·.size) = some 1 := by kernel_rfl
theorem u93 : Try.prog.underlying 93 = some (.slice 125) := Try.underlying93
theorem s93 : scB Try.prog 93 = true := by kernel_rfl
theorem i95 : inf Try.prog 95 (.nilFunc) 1 8 := by unfold inf; kernel_rfl
theorem m95 : (Try.prog.info? 95).map (·.size) = some 1 := by kernel_rfl
theorem s95 : scB Try.prog 95 = true := by kernel_rfl
theorem i96 : inf Try.prog 96 (.pointer none) 1 8 := by unfold inf; kernel_rfl
theorem m96 : (Try.prog.info? 96).map (·.size) = some 1 := by kernel_rfl
theorem u96 : Try.prog.underlying 96 = some (.pointer 98) := Try.underlying96
theorem s96 : scB Try.prog 96 = true := by kernel_rfl
theorem i97 : inf Try.prog 97 (.agg #[.int .i64 0, .nilIface]) 2 24 := by unfold inf; kernel_rfl
theorem m97 : (Try.prog.info? 97).map (·.size) = some 2 := by kernel_rfl
theorem ag_97 : agB Try.prog 97 2 = true := by kernel_rfl
theorem f97_0 : faB Try.prog 97 0 0 = true := by kernel_rfl
theorem f97_1 : faB Try.prog 97 1 1 = true := by kernel_rfl
theorem i98 : inf Try.prog 98 (.agg #[.int .i64 0, .nilIface]) 2 24 := by unfold inf; kernel_rfl
theorem m98 : (Try.prog.info? 98).map (·.size) = some 2 := by kernel_rfl
theorem ag_98 : agB Try.prog 98 2 = true := by kernel_rfl
theorem f98_0 : faB Try.prog 98 0 0 = true := by kernel_rfl
theorem f98_1 : faB Try.prog 98 1 1 = true := by kernel_rfl
theorem i99 : inf Try.prog 99 (.pointer none) 1 8 := by unfold inf; kernel_rfl
theorem m99 : (Try.prog.info? 99).map (·.size) = some 1 := by kernel_rfl
theorem u99 : Try.prog.underlying 99 = some (.pointer 102) := Try.underlying99
theorem s99 : scB Try.prog 99 = true := by kernel_rfl
theorem i100 : inf Try.prog 100 (.nilFunc) 1 8 := by unfold inf; kernel_rfl
theorem m100 : (Try.prog.info? 100).map (·.size) = some 1 := by kernel_rfl
theorem s100 : scB Try.prog 100 = true := by kernel_rfl
theorem i101 : inf Try.prog 101 (.agg #[.int .i64 0, .int .i64 0, .slice none 0 0, .slice none 0 0, .slice none 0 0, .slice none 0 0, .int .i64 0]) 7 120 := by unfold inf; kernel_rfl
theorem m101 : (Try.prog.info? 101).map (·.size) = some 7 := by kernel_rfl
theorem ag_101 : agB Try.prog 101 7 = true := by kernel_rfl
theorem f101_0 : faB Try.prog 101 0 0 = true := by kernel_rfl
theorem f101_1 : faB Try.prog 101 1 4 = true := by kernel_rfl
theorem f101_2 : faB Try.prog 101 2 5 = true := by kernel_rfl
theorem f101_3 : faB Try.prog 101 3 6 = true := by kernel_rfl
theorem i102 : inf Try.prog 102 (.agg #[.int .i64 0, .int .i64 0, .slice none 0 0, .slice none 0 0, .slice none 0 0, .slice none 0 0, .int .i64 0]) 7 120 := by unfold inf; kernel_rfl
theorem m102 : (Try.prog.info? 102).map (·.size) = some 7 := by kernel_rfl
theorem ag_102 : agB Try.prog 102 7 = true := by kernel_rfl
theorem f102_0 : faB Try.prog 102 0 0 = true := by kernel_rfl
theorem f102_1 : faB Try.prog 102 1 4 = true := by kernel_rfl
theorem f102_2 : faB Try.prog 102 2 5 = true := by kernel_rfl
theorem f102_3 : faB Try.prog 102 3 6 = true := by kernel_rfl
theorem i103 : inf Try.prog 103 (.nilFunc) 1 8 := by unfold inf; kernel_rfl
theorem m103 : (Try.prog.info? 103).map (·.size) = some 1 := by kernel_rfl
theorem s103 : scB Try.prog 103 = true := by kernel_rfl
theorem i104 : inf Try.prog 104 (.nilFunc) 1 8 := by unfold inf; kernel_rfl
theorem m104 : (Try.prog.info? 104).map (·.size) = some 1 := by kernel_rfl
theorem s104 : scB Try.prog 104 = true := by kernel_rfl
theorem i105 : inf Try.prog 105 (.nilFunc) 1 8 := by unfold inf; kernel_rfl
theorem m105 : (Try.prog.info? 105).map (·.size) = some 1 := by kernel_rfl
theorem s105 : scB Try.prog 105 = true := by kernel_rfl
theorem i106 : inf Try.prog 106 (.nilFunc) 1 8 := by unfold inf; kernel_rfl
theorem m106 : (Try.prog.info? 106).map (·.size) = some 1 := by kernel_rfl
theorem s106 : scB Try.prog 106 = true := by kernel_rfl
theorem i107 : inf Try.prog 107 (.nilFunc) 1 8 := by unfold inf; kernel_rfl
theorem m107 : (Try.prog.info? 107).map (·.size) = some 1 := by kernel_rfl
theorem s107 : scB Try.prog 107 = true := by kernel_rfl
theorem i108 : inf Try.prog 108 (.nilFunc) 1 8 := by unfold inf; kernel_rfl
theorem m108 : (Try.prog.info? 108).map (·.size) = some 1 := by kernel_rfl
theorem s108 : scB Try.prog 108 = true := by kernel_rfl
theorem i109 : inf Try.prog 109 (.pointer none) 1 8 := by unfold inf; kernel_rfl
theorem m109 : (Try.prog.info? 109).map (·.size) = some 1 := by kernel_rfl
theorem u109 : Try.prog.underlying 109 = some (.pointer 111) := Try.underlying109
theorem s109 : scB Try.prog 109 = true := by kernel_rfl
theorem i110 : inf Try.prog 110 (.agg #[.int .i64 0, .int .i64 0, .slice none 0 0, .slice none 0 0, .slice none 0 0, .int .i64 0, .int .i64 0, .slice none 0 0, .slice none 0 0]) 9 152 := by unfold inf; kernel_rfl
theorem m110 : (Try.prog.info? 110).map (·.size) = some 9 := by kernel_rfl
theorem ag_110 : agB Try.prog 110 9 = true := by kernel_rfl
theorem f110_0 : faB Try.prog 110 0 0 = true := by kernel_rfl
theorem f110_1 : faB Try.prog 110 1 4 = true := by kernel_rfl
theorem f110_2 : faB Try.prog 110 2 5 = true := by kernel_rfl
theorem i111 : inf Try.prog 111 (.agg #[.int .i64 0, .int .i64 0, .slice none 0 0, .slice none 0 0, .slice none 0 0, .int .i64 0, .int .i64 0, .slice none 0 0, .slice none 0 0]) 9 152 := by unfold inf; kernel_rfl
theorem m111 : (Try.prog.info? 111).map (·.size) = some 9 := by kernel_rfl
theorem ag_111 : agB Try.prog 111 9 = true := by kernel_rfl
theorem f111_0 : faB Try.prog 111 0 0 = true := by kernel_rfl
theorem f111_1 : faB Try.prog 111 1 4 = true := by kernel_rfl
theorem f111_2 : faB Try.prog 111 2 5 = true := by kernel_rfl
theorem i112 : inf Try.prog 112 (.nilFunc) 1 8 := by unfold inf; kernel_rfl
theorem m112 : (Try.prog.info? 112).map (·.size) = some 1 := by kernel_rfl
theorem s112 : scB Try.prog 112 = true := by kernel_rfl
theorem i113 : inf Try.prog 113 (.nilFunc) 1 8 := by unfold inf; kernel_rfl
theorem m113 : (Try.prog.info? 113).map (·.size) = some 1 := by kernel_rfl
theorem s113 : scB Try.prog 113 = true := by kernel_rfl
theorem i114 : inf Try.prog 114 (.nilFunc) 1 8 := by unfold inf; kernel_rfl
theorem m114 : (Try.prog.info? 114).map (·.size) = some 1 := by kernel_rfl
theorem s114 : scB Try.prog 114 = true := by kernel_rfl
theorem i115 : inf Try.prog 115 (.nilFunc) 1 8 := by unfold inf; kernel_rfl
theorem m115 : (Try.prog.info? 115).map (·.size) = some 1 := by kernel_rfl
theorem s115 : scB Try.prog 115 = true := by kernel_rfl
theorem i116 : inf Try.prog 116 (.nilFunc) 1 8 := by unfold inf; kernel_rfl
theorem m116 : (Try.prog.info? 116).map (·.size) = some 1 := by kernel_rfl
theorem s116 : scB Try.prog 116 = true := by kernel_rfl
theorem i117 : inf Try.prog 117 (.nilFunc) 1 8 := by unfold inf; kernel_rfl
theorem m117 : (Try.prog.info? 117).map (·.size) = some 1 := by kernel_rfl
theorem s117 : scB Try.prog 117 = true := by kernel_rfl
theorem i118 : inf Try.prog 118 (.nilFunc) 1 8 := by unfold inf; kernel_rfl
theorem m118 : (Try.prog.info? 118).map (·.size) = some 1 := by kernel_rfl
theorem s118 : scB Try.prog 118 = true := by kernel_rfl
theorem i119 : inf Try.prog 119 (.nilFunc) 1 8 := by unfold inf; kernel_rfl
theorem m119 : (Try.prog.info? 119).map (·.size) = some 1 := by kernel_rfl
theorem s119 : scB Try.prog 119 = true := by kernel_rfl
theorem i120 : inf Try.prog 120 (.nilFunc) 1 8 := by unfold inf; kernel_rfl
theorem m120 : (Try.prog.info? 120).map (·.size) = some 1 := by kernel_rfl
theorem s120 : scB Try.prog 120 = true := by kernel_rfl
theorem i121 : inf Try.prog 121 (.nilFunc) 1 8 := by unfold inf; kernel_rfl
theorem m121 : (Try.prog.info? 121).map (·.size) = some 1 := by kernel_rfl
theorem s121 : scB Try.prog 121 = true := by kernel_rfl
theorem i123 : inf Try.prog 123 (.nilFunc) 1 8 := by unfold inf; kernel_rfl
theorem m123 : (Try.prog.info? 123).map (·.size) = some 1 := by kernel_rfl
theorem s123 : scB Try.prog 123 = true := by kernel_rfl
theorem i124 : inf Try.prog 124 (.agg #[.int .i64 0, .int .i64 0]) 2 16 := by unfold inf; kernel_rfl
theorem m124 : (Try.prog.info? 124).map (·.size) = some 2 := by kernel_rfl
theorem ag_124 : agB Try.prog 124 2 = true := by kernel_rfl
theorem f124_0 : faB Try.prog 124 0 0 = true := by kernel_rfl
theorem f124_1 : faB Try.prog 124 1 1 = true := by kernel_rfl
theorem i125 : inf Try.prog 125 (.agg #[.int .i64 0, .int .i64 0]) 2 16 := by unfold inf; kernel_rfl
theorem m125 : (Try.prog.info? 125).map (·.size) = some 2 := by kernel_rfl
theorem ag_125 : agB Try.prog 125 2 = true := by kernel_rfl
theorem f125_0 : faB Try.prog 125 0 0 = true := by kernel_rfl
theorem f125_1 : faB Try.prog 125 1 1 = true := by kernel_rfl
theorem i126 : inf Try.prog 126 (.nilFunc) 1 8 := by unfold inf; kernel_rfl
theorem m126 : (Try.prog.info? 126).map (·.size) = some 1 := by kernel_rfl
theorem s126 : scB Try.prog 126 = true := by kernel_rfl
theorem i127 : inf Try.prog 127 (.pointer none) 1 8 := by unfold inf; kernel_rfl
theorem m127 : (Try.prog.info? 127).map (·.size) = some 1 := by kernel_rfl
theorem u127 : Try.prog.underlying 127 = some (.pointer 129) := Try.underlying127
theorem s127 : scB Try.prog 127 = true := by kernel_rfl
theorem i128 : inf Try.prog 128 (.agg #[.slice none 0 0, .slice none 0 0, .slice none 0 0, .slice none 0 0, .slice none 0 0, .slice none 0 0, .int .i64 0]) 7 152 := by unfold inf; kernel_rfl
theorem m128 : (Try.prog.info? 128).map (·.size) = some 7 := by kernel_rfl
theorem ag_128 : agB Try.prog 128 7 = true := by kernel_rfl
theorem f128_0 : faB Try.prog 128 0 0 = true := by kernel_rfl
theorem f128_1 : faB Try.prog 128 1 1 = true := by kernel_rfl
theorem f128_2 : faB Try.prog 128 2 2 = true := by kernel_rfl
theorem f128_3 : faB Try.prog 128 3 3 = true := by kernel_rfl
theorem f128_4 : faB Try.prog 128 4 4 = true := by kernel_rfl
theorem f128_5 : faB Try.prog 128 5 5 = true := by kernel_rfl
theorem f128_6 : faB Try.prog 128 6 6 = true := by kernel_rfl
theorem i129 : inf Try.prog 129 (.agg #[.slice none 0 0, .slice none 0 0, .slice none 0 0, .slice none 0 0, .slice none 0 0, .slice none 0 0, .int .i64 0]) 7 152 := by unfold inf; kernel_rfl
theorem m129 : (Try.prog.info? 129).map (·.size) = some 7 := by kernel_rfl
theorem ag_129 : agB Try.prog 129 7 = true := by kernel_rfl
theorem f129_0 : faB Try.prog 129 0 0 = true := by kernel_rfl
theorem f129_1 : faB Try.prog 129 1 1 = true := by kernel_rfl
theorem f129_2 : faB Try.prog 129 2 2 = true := by kernel_rfl
theorem f129_3 : faB Try.prog 129 3 3 = true := by kernel_rfl
theorem f129_4 : faB Try.prog 129 4 4 = true := by kernel_rfl
theorem f129_5 : faB Try.prog 129 5 5 = true := by kernel_rfl
theorem f129_6 : faB Try.prog 129 6 6 = true := by kernel_rfl
theorem i130 : inf Try.prog 130 (.nilFunc) 1 8 := by unfold inf; kernel_rfl
theorem m130 : (Try.prog.info? 130).map (·.size) = some 1 := by kernel_rfl
theorem s130 : scB Try.prog 130 = true := by kernel_rfl
theorem i131 : inf Try.prog 131 (.nilFunc) 1 8 := by unfold inf; kernel_rfl
theorem m131 : (Try.prog.info? 131).map (·.size) = some 1 := by kernel_rfl
theorem s131 : scB Try.prog 131 = true := by kernel_rfl
theorem i132 : inf Try.prog 132 (.nilFunc) 1 8 := by unfold inf; kernel_rfl
theorem m132 : (Try.prog.info? 132).map (·.size) = some 1 := by kernel_rfl
theorem s132 : scB Try.prog 132 = true := by kernel_rfl
theorem i133 : inf Try.prog 133 (.nilFunc) 1 8 := by unfold inf; kernel_rfl
theorem m133 : (Try.prog.info? 133).map (·.size) = some 1 := by kernel_rfl
theorem s133 : scB Try.prog 133 = true := by kernel_rfl
theorem i134 : inf Try.prog 134 (.int .u64 0) 1 8 := by unfold inf; kernel_rfl
theorem m134 : (Try.prog.info? 134).map (·.size) = some 1 := by kernel_rfl
theorem u134 : Try.prog.underlying 134 = some (.int .u64) := Try.underlying134
theorem s134 : scB Try.prog 134 = true := by kernel_rfl
theorem i135 : inf Try.prog 135 (.nilFunc) 1 8 := by unfold inf; kernel_rfl
theorem m135 : (Try.prog.info? 135).map (·.size) = some 1 := by kernel_rfl
theorem s135 : scB Try.prog 135 = true := by kernel_rfl
theorem i136 : inf Try.prog 136 (.nilFunc) 1 8 := by unfold inf; kernel_rfl
theorem m136 : (Try.prog.info? 136).map (·.size) = some 1 := by kernel_rfl
theorem s136 : scB Try.prog 136 = true := by kernel_rfl
theorem i137 : inf Try.prog 137 (.nilFunc) 1 8 := by unfold inf; kernel_rfl
theorem m137 : (Try.prog.info? 137).map (·.size) = some 1 := by kernel_rfl
theorem s137 : scB Try.prog 137 = true := by kernel_rfl
theorem i138 : inf Try.prog 138 (.nilFunc) 1 8 := by unfold inf; kernel_rfl
theorem m138 : (Try.prog.info? 138).map (·.size) = some 1 := by kernel_rfl
theorem s138 : scB Try.prog 138 = true := by kernel_rfl
theorem i139 : inf Try.prog 139 (.nilFunc) 1 8 := by unfold inf; kernel_rfl
theorem m139 : (Try.prog.info? 139).map (·.size) = some 1 := by kernel_rfl
theorem s139 : scB Try.prog 139 = true := by kernel_rfl
theorem i140 : inf Try.prog 140 (.pointer none) 1 8 := by unfold inf; kernel_rfl
theorem m140 : (Try.prog.info? 140).map (·.size) = some 1 := by kernel_rfl
theorem u140 : Try.prog.underlying 140 = some (.pointer 142) := Try.underlying140
theorem s140 : scB Try.prog 140 = true := by kernel_rfl
theorem i141 : inf Try.prog 141 (.agg #[.slice none 0 0, .int .i64 0, .int .i64 0, .slice none 0 0, .slice none 0 0]) 5 88 := by unfold inf; kernel_rfl
theorem m141 : (Try.prog.info? 141).map (·.size) = some 5 := by kernel_rfl
theorem ag_141 : agB Try.prog 141 5 = true := by kernel_rfl
theorem f141_0 : faB Try.prog 141 0 0 = true := by kernel_rfl
theorem f141_1 : faB Try.prog 141 1 1 = true := by kernel_rfl
theorem i142 : inf Try.prog 142 (.agg #[.slice none 0 0, .int .i64 0, .int .i64 0, .slice none 0 0, .slice none 0 0]) 5 88 := by unfold inf; kernel_rfl
theorem m142 : (Try.prog.info? 142).map (·.size) = some 5 := by kernel_rfl
theorem ag_142 : agB Try.prog 142 5 = true := by kernel_rfl
theorem f142_0 : faB Try.prog 142 0 0 = true := by kernel_rfl
theorem f142_1 : faB Try.prog 142 1 1 = true := by kernel_rfl
theorem i143 : inf Try.prog 143 (.nilFunc) 1 8 := by unfold inf; kernel_rfl
theorem m143 : (Try.prog.info? 143).map (·.size) = some 1 := by kernel_rfl
theorem s143 : scB Try.prog 143 = true := by kernel_rfl
theorem i144 : inf Try.prog 144 (.nilFunc) 1 8 := by unfold inf; kernel_rfl
theorem m144 : (Try.prog.info? 144).map (·.size) = some 1 := by kernel_rfl
theorem s144 : scB Try.prog 144 = true := by kernel_rfl
theorem i145 : inf Try.prog 145 (.nilFunc) 1 8 := by unfold inf; kernel_rfl
theorem m145 : (Try.prog.info? 145).map (·.size) = some 1 := by kernel_rfl
theorem s145 : scB Try.prog 145 = true := by kernel_rfl
theorem i146 : inf Try.prog 146 (.nilFunc) 1 8 := by unfold inf; kernel_rfl
theorem m146 : (Try.prog.info? 146).map (·.size) = some 1 := by kernel_rfl
theorem s146 : scB Try.prog 146 = true := by kernel_rfl
theorem i147 : inf Try.prog 147 (.int .i64 0) 1 8 := by unfold inf; kernel_rfl
theorem m147 : (Try.prog.info? 147).map (·.size) = some 1 := by kernel_rfl
theorem u147 : Try.prog.underlying 147 = some (.int .i64) := Try.underlying147
theorem s147 : scB Try.prog 147 = true := by kernel_rfl
theorem i149 : inf Try.prog 149 (.nilFunc) 1 8 := by unfold inf; kernel_rfl
theorem m149 : (Try.prog.info? 149).map (·.size) = some 1 := by kernel_rfl
theorem s149 : scB Try.prog 149 = true := by kernel_rfl
theorem i150 : inf Try.prog 150 (.nilFunc) 1 8 := by unfold inf; kernel_rfl
theorem m150 : (Try.prog.info? 150).map (·.size) = some 1 := by kernel_rfl
theorem s150 : scB Try.prog 150 = true := by kernel_rfl
theorem i151 : inf Try.prog 151 (.nilFunc) 1 8 := by unfold inf; kernel_rfl
theorem m151 : (Try.prog.info? 151).map (·.size) = some 1 := by kernel_rfl
theorem s151 : scB Try.prog 151 = true := by kernel_rfl
theorem i153 : inf Try.prog 153 (.nilFunc) 1 8 := by unfold inf; kernel_rfl
theorem m153 : (Try.prog.info? 153).map (·.size) = some 1 := by kernel_rfl
theorem s153 : scB Try.prog 153 = true := by kernel_rfl
theorem i154 : inf Try.prog 154 (.nilFunc) 1 8 := by unfold inf; kernel_rfl
theorem m154 : (Try.prog.info? 154).map (·.size) = some 1 := by kernel_rfl
theorem s154 : scB Try.prog 154 = true := by kernel_rfl
theorem i155 : inf Try.prog 155 (.int .u32 0) 1 4 := by unfold inf; kernel_rfl
theorem m155 : (Try.prog.info? 155).map (·.size) = some 1 := by kernel_rfl
theorem u155 : Try.prog.underlying 155 = some (.int .u32) := Try.underlying155
theorem s155 : scB Try.prog 155 = true := by kernel_rfl
theorem i156 : inf Try.prog 156 (.nilFunc) 1 8 := by unfold inf; kernel_rfl
theorem m156 : (Try.prog.info? 156).map (·.size) = some 1 := by kernel_rfl
theorem s156 : scB Try.prog 156 = true := by kernel_rfl
theorem i157 : inf Try.prog 157 (.int .u64 0) 1 8 := by unfold inf; kernel_rfl
theorem m157 : (Try.prog.info? 157).map (·.size) = some 1 := by kernel_rfl
theorem u157 : Try.prog.underlying 157 = some (.int .u64) := Try.underlying157
theorem s157 : scB Try.prog 157 = true := by kernel_rfl
theorem i158 : inf Try.prog 158 (.nilFunc) 1 8 := by unfold inf; kernel_rfl
theorem m158 : (Try.prog.info? 158).map (·.size) = some 1 := by kernel_rfl
theorem s158 : scB Try.prog 158 = true := by kernel_rfl
theorem i159 : inf Try.prog 159 (.nilFunc) 1 8 := by unfold inf; kernel_rfl
theorem m159 : (Try.prog.info? 159).map (·.size) = some 1 := by kernel_rfl
theorem s159 : scB Try.prog 159 = true := by kernel_rfl
theorem i160 : inf Try.prog 160 (.nilFunc) 1 8 := by unfold inf; kernel_rfl
theorem m160 : (Try.prog.info? 160).map (·.size) = some 1 := by kernel_rfl
theorem s160 : scB Try.prog 160 = true := by kernel_rfl
theorem i161 : inf Try.prog 161 (.nilFunc) 1 8 := by unfold inf; kernel_rfl
theorem m161 : (Try.prog.info? 161).map (·.size) = some 1 := by kernel_rfl
theorem s161 : scB Try.prog 161 = true := by kernel_rfl
theorem i162 : inf Try.prog 162 (.nilFunc) 1 8 := by unfold inf; kernel_rfl
theorem m162 : (Try.prog.info? 162).map (·.size) = some 1 := by kernel_rfl
theorem s162 : scB Try.prog 162 = true := by kernel_rfl
theorem i163 : inf Try.prog 163 (.nilFunc) 1 8 := by unfold inf; kernel_rfl
theorem m163 : (Try.prog.info? 163).map (·.size) = some 1 := by kernel_rfl
theorem s163 : scB Try.prog 163 = true := by kernel_rfl
theorem i164 : inf Try.prog 164 (.nilFunc) 1 8 := by unfold inf; kernel_rfl
theorem m164 : (Try.prog.info? 164).map (·.size) = some 1 := by kernel_rfl
theorem s164 : scB Try.prog 164 = true := by kernel_rfl
theorem i165 : inf Try.prog 165 (.nilFunc) 1 8 := by unfold inf; kernel_rfl
theorem m165 : (Try.prog.info? 165).map (·.size) = some 1 := by kernel_rfl
theorem s165 : scB Try.prog 165 = true := by kernel_rfl
theorem i166 : inf Try.prog 166 (.nilFunc) 1 8 := by unfold inf; kernel_rfl
theorem m166 : (Try.prog.info? 166).map (·.size) = some 1 := by kernel_rfl
theorem s166 : scB Try.prog 166 = true := by kernel_rfl
theorem i167 : inf Try.prog 167 (.nilFunc) 1 8 := by unfold inf; kernel_rfl
theorem m167 : (Try.prog.info? 167).map (·.size) = some 1 := by kernel_rfl
theorem s167 : scB Try.prog 167 = true := by kernel_rfl
theorem i168 : inf Try.prog 168 (.nilFunc) 1 8 := by unfold inf; kernel_rfl
theorem m168 : (Try.prog.info? 168).map (·.size) = some 1 := by kernel_rfl
theorem s168 : scB Try.prog 168 = true := by kernel_rfl
theorem i169 : inf Try.prog 169 (.nilFunc) 1 8 := by unfold inf; kernel_rfl
theorem m169 : (Try.prog.info? 169).map (·.size) = some 1 := by kernel_rfl
theorem s169 : scB Try.prog 169 = true := by kernel_rfl
theorem i170 : inf Try.prog 170 (.nilFunc) 1 8 := by unfold inf; kernel_rfl
theorem m170 : (Try.prog.info? 170).map (·.size) = some 1 := by kernel_rfl
theorem s170 : scB Try.prog 170 = true := by kernel_rfl
theorem i171 : inf Try.prog 171 (.int .u64 0) 1 8 := by unfold inf; kernel_rfl
theorem m171 : (Try.prog.info? 171).map (·.size) = some 1 := by kernel_rfl
theorem u171 : Try.prog.underlying 171 = some (.int .u64) := Try.underlying171
theorem s171 : scB Try.prog 171 = true := by kernel_rfl
theorem i172 : inf Try.prog 172 (.nilFunc) 1 8 := by unfold inf; kernel_rfl
theorem m172 : (Try.prog.info? 172).map (·.size) = some 1 := by kernel_rfl
theorem s172 : scB Try.prog 172 = true := by kernel_rfl
theorem i173 : inf Try.prog 173 (.nilFunc) 1 8 := by unfold inf; kernel_rfl
theorem m173 : (Try.prog.info? 173).map (·.size) = some 1 := by kernel_rfl
theorem s173 : scB Try.prog 173 = true := by kernel_rfl
theorem i174 : inf Try.prog 174 (.nilFunc) 1 8 := by unfold inf; kernel_rfl
theorem m174 : (Try.prog.info? 174).map (·.size) = some 1 := by kernel_rfl
theorem s174 : scB Try.prog 174 = true := by kernel_rfl
theorem i175 : inf Try.prog 175 (.pointer none) 1 8 := by unfold inf; kernel_rfl
theorem m175 : (Try.prog.info? 175).map (·.size) = some 1 := by kernel_rfl
theorem u175 : Try.prog.underlying 175 = some (.pointer 3) := Try.underlying175
theorem s175 : scB Try.prog 175 = true := by kernel_rfl
theorem i176 : inf Try.prog 176 (.nilFunc) 1 8 := by unfold inf; kernel_rfl
theorem m176 : (Try.prog.info? 176).map (·.size) = some 1 := by kernel_rfl
theorem s176 : scB Try.prog 176 = true := by kernel_rfl
theorem i177 : inf Try.prog 177 (.nilFunc) 1 8 := by unfold inf; kernel_rfl
theorem m177 : (Try.prog.info? 177).map (·.size) = some 1 := by kernel_rfl
theorem s177 : scB Try.prog 177 = true := by kernel_rfl
theorem i178 : inf Try.prog 178 (.nilFunc) 1 8 := by unfold inf; kernel_rfl
theorem m178 : (Try.prog.info? 178).map (·.size) = some 1 := by kernel_rfl
theorem s178 : scB Try.prog 178 = true := by kernel_rfl
theorem i179 : inf Try.prog 179 (.nilFunc) 1 8 := by unfold inf; kernel_rfl
theorem m179 : (Try.prog.info? 179).map (·.size) = some 1 := by kernel_rfl
theorem s179 : scB Try.prog 179 = true := by kernel_rfl
theorem i180 : inf Try.prog 180 (.nilFunc) 1 8 := by unfold inf; kernel_rfl
theorem m180 : (Try.prog.info? 180).map (·.size) = some 1 := by kernel_rfl
theorem s180 : scB Try.prog 180 = true := by kernel_rfl
theorem i181 : inf Try.prog 181 (.nilFunc) 1 8 := by unfold inf; kernel_rfl
theorem m181 : (Try.prog.info? 181).map (·.size) = some 1 := by kernel_rfl
theorem s181 : scB Try.prog 181 = true := by kernel_rfl
theorem i183 : inf Try.prog 183 (.nilFunc) 1 8 := by unfold inf; kernel_rfl
theorem m183 : (Try.prog.info? 183).map (·.size) = some 1 := by kernel_rfl
theorem s183 : scB Try.prog 183 = true := by kernel_rfl
theorem i184 : inf Try.prog 184 (.pointer none) 1 8 := by unfold inf; kernel_rfl
theorem m184 : (Try.prog.info? 184).map (·.size) = some 1 := by kernel_rfl
theorem u184 : Try.prog.underlying 184 = some (.pointer 171) := Try.underlying184
theorem s184 : scB Try.prog 184 = true := by kernel_rfl
theorem i186 : inf Try.prog 186 (.nilFunc) 1 8 := by unfold inf; kernel_rfl
theorem m186 : (Try.prog.info? 186).map (·.size) = some 1 := by kernel_rfl
theorem s186 : scB Try.prog 186 = true := by kernel_rfl
theorem i187 : inf Try.prog 187 (.nilFunc) 1 8 := by unfold inf; kernel_rfl
theorem m187 : (Try.prog.info? 187).map (·.size) = some 1 := by kernel_rfl
theorem s187 : scB Try.prog 187 = true := by kernel_rfl
theorem i188 : inf Try.prog 188 (.nilFunc) 1 8 := by unfold inf; kernel_rfl
theorem m188 : (Try.prog.info? 188).map (·.size) = some 1 := by kernel_rfl
theorem s188 : scB Try.prog 188 = true := by kernel_rfl
theorem i189 : inf Try.prog 189 (.nilFunc) 1 8 := by unfold inf; kernel_rfl
theorem m189 : (Try.prog.info? 189).map (·.size) = some 1 := by kernel_rfl
theorem s189 : scB Try.prog 189 = true := by kernel_rfl
theorem i190 : inf Try.prog 190 (.agg #[.pointer none, .pointer none, .pointer none, .string ⟨#[]⟩]) 4 40 := by unfold inf; kernel_rfl
theorem m190 : (Try.prog.info? 190).map (·.size) = some 4 := by kernel_rfl
theorem ag_190 : agB Try.prog 190 4 = true := by kernel_rfl
theorem f190_0 : faB Try.prog 190 0 0 = true := by kernel_rfl
theorem f190_1 : faB Try.prog 190 1 1 = true := by kernel_rfl
theorem f190_2 : faB Try.prog 190 2 2 = true := by kernel_rfl
theorem f190_3 : faB Try.prog 190 3 3 = true := by kernel_rfl
theorem i191 : inf Try.prog 191 (.agg #[.pointer none, .pointer none, .pointer none, .string ⟨#[]⟩]) 4 40 := by unfold inf; kernel_rfl
theorem m191 : (Try.prog.info? 191).map (·.size) = some 4 := by kernel_rfl
theorem ag_191 : agB Try.prog 191 4 = true := by kernel_rfl
theorem f191_0 : faB Try.prog 191 0 0 = true := by kernel_rfl
theorem f191_1 : faB Try.prog 191 1 1 = true := by kernel_rfl
theorem f191_2 : faB Try.prog 191 2 2 = true := by kernel_rfl
theorem f191_3 : faB Try.prog 191 3 3 = true := by kernel_rfl
theorem i192 : inf Try.prog 192 (.agg #[]) 0 0 := by unfold inf; kernel_rfl
theorem m192 : (Try.prog.info? 192).map (·.size) = some 0 := by kernel_rfl
theorem ag_192 : agB Try.prog 192 0 = true := by kernel_rfl
theorem i193 : inf Try.prog 193 (.agg #[]) 0 0 := by unfold inf; kernel_rfl
theorem m193 : (Try.prog.info? 193).map (·.size) = some 0 := by kernel_rfl
theorem ag_193 : agB Try.prog 193 0 = true := by kernel_rfl
theorem i194 : inf Try.prog 194 (.agg #[]) 0 0 := by unfold inf; kernel_rfl
theorem m194 : (Try.prog.info? 194).map (·.size) = some 0 := by kernel_rfl
theorem ag_194 : agB Try.prog 194 0 = true := by kernel_rfl
theorem i195 : inf Try.prog 195 (.nilFunc) 1 8 := by unfold inf; kernel_rfl
theorem m195 : (Try.prog.info? 195).map (·.size) = some 1 := by kernel_rfl
theorem s195 : scB Try.prog 195 = true := by kernel_rfl
theorem i196 : inf Try.prog 196 (.int .u8 0) 1 1 := by unfold inf; kernel_rfl
theorem m196 : (Try.prog.info? 196).map (·.size) = some 1 := by kernel_rfl
theorem u196 : Try.prog.underlying 196 = some (.int .u8) := Try.underlying196
theorem s196 : scB Try.prog 196 = true := by kernel_rfl
theorem i197 : inf Try.prog 197 (.int .u8 0) 1 1 := by unfold inf; kernel_rfl
theorem m197 : (Try.prog.info? 197).map (·.size) = some 1 := by kernel_rfl
theorem u197 : Try.prog.underlying 197 = some (.int .u8) := Try.underlying197
theorem s197 : scB Try.prog 197 = true := by kernel_rfl
theorem i198 : inf Try.prog 198 (.nilFunc) 1 8 := by unfold inf; kernel_rfl
theorem m198 : (Try.prog.info? 198).map (·.size) = some 1 := by kernel_rfl
theorem s198 : scB Try.prog 198 = true := by kernel_rfl
theorem i199 : inf Try.prog 199 (.pointer none) 1 8 := by unfold inf; kernel_rfl
theorem m199 : (Try.prog.info? 199).map (·.size) = some 1 := by kernel_rfl
theorem u199 : Try.prog.underlying 199 = some (.pointer 5) := Try.underlying199
theorem s199 : scB Try.prog 199 = true := by kernel_rfl
theorem i200 : inf Try.prog 200 (.int .i32 0) 1 4 := by unfold inf; kernel_rfl
theorem m200 : (Try.prog.info? 200).map (·.size) = some 1 := by kernel_rfl
theorem u200 : Try.prog.underlying 200 = some (.int .i32) := Try.underlying200
theorem s200 : scB Try.prog 200 = true := by kernel_rfl
theorem i201 : inf Try.prog 201 (.int .i32 0) 1 4 := by unfold inf; kernel_rfl
theorem m201 : (Try.prog.info? 201).map (·.size) = some 1 := by kernel_rfl
theorem u201 : Try.prog.underlying 201 = some (.int .i32) := Try.underlying201
theorem s201 : scB Try.prog 201 = true := by kernel_rfl
theorem i202 : inf Try.prog 202 (.agg #[.int .u64 0, .int .u64 0, .int .u32 0, .int .u8 0, .int .u8 0, .int .u8 0, .int .u8 0, .nilFunc, .pointer none, .int .i32 0, .int .i32 0]) 11 48 := by unfold inf; kernel_rfl
theorem m202 : (Try.prog.info? 202).map (·.size) = some 11 := by kernel_rfl
theorem ag_202 : agB Try.prog 202 11 = true := by kernel_rfl
theorem f202_0 : faB Try.prog 202 0 0 = true := by kernel_rfl
theorem f202_1 : faB Try.prog 202 1 1 = true := by kernel_rfl
theorem f202_2 : faB Try.prog 202 2 2 = true := by kernel_rfl
theorem f202_3 : faB Try.prog 202 3 3 = true := by kernel_rfl
theorem f202_4 : faB Try.prog 202 4 4 = true := by kernel_rfl
theorem f202_5 : faB Try.prog 202 5 5 = true := by kernel_rfl
theorem f202_6 : faB Try.prog 202 6 6 = true := by kernel_rfl
theorem f202_7 : faB Try.prog 202 7 7 = true := by kernel_rfl
theorem f202_8 : faB Try.prog 202 8 8 = true := by kernel_rfl
theorem f202_9 : faB Try.prog 202 9 9 = true := by kernel_rfl
theorem f202_10 : faB Try.prog 202 10 10 = true := by kernel_rfl
theorem i203 : inf Try.prog 203 (.agg #[.int .u64 0, .int .u64 0, .int .u32 0, .int .u8 0, .int .u8 0, .int .u8 0, .int .u8 0, .nilFunc, .pointer none, .int .i32 0, .int .i32 0]) 11 48 := by unfold inf; kernel_rfl
theorem m203 : (Try.prog.info? 203).map (·.size) = some 11 := by kernel_rfl
theorem ag_203 : agB Try.prog 203 11 = true := by kernel_rfl
theorem f203_0 : faB Try.prog 203 0 0 = true := by kernel_rfl
theorem f203_1 : faB Try.prog 203 1 1 = true := by kernel_rfl
theorem f203_2 : faB Try.prog 203 2 2 = true := by kernel_rfl
theorem f203_3 : faB Try.prog 203 3 3 = true := by kernel_rfl
theorem f203_4 : faB Try.prog 203 4 4 = true := by kernel_rfl
theorem f203_5 : faB Try.prog 203 5 5 = true := by kernel_rfl
theorem f203_6 : faB Try.prog 203 6 6 = true := by kernel_rfl
theorem f203_7 : faB Try.prog 203 7 7 = true := by kernel_rfl
theorem f203_8 : faB Try.prog 203 8 8 = true := by kernel_rfl
theorem f203_9 : faB Try.prog 203 9 9 = true := by kernel_rfl
theorem f203_10 : faB Try.prog 203 10 10 = true := by kernel_rfl
theorem i204 : inf Try.prog 204 (.pointer none) 1 8 := by unfold inf; kernel_rfl
theorem m204 : (Try.prog.info? 204).map (·.size) = some 1 := by kernel_rfl
theorem c3 : callB Try.prog 3 = true := by kernel_rfl
theorem c4 : callB Try.prog 4 = true := by kernel_rfl
theorem c5 : callB Try.prog 5 = true := by kernel_rfl
theorem c6 : callB Try.prog 6 = true := by kernel_rfl
theorem c7 : callB Try.prog 7 = true := by kernel_rfl
theorem c8 : callB Try.prog 8 = true := by kernel_rfl
theorem c9 : callB Try.prog 9 = true := by kernel_rfl
theorem c10 : callB Try.prog 10 = true := by kernel_rfl
theorem c11 : callB Try.prog 11 = true := by kernel_rfl
theorem c12 : callB Try.prog 12 = true := by kernel_rfl
theorem c13 : callB Try.prog 13 = true := by kernel_rfl
theorem c14 : callB Try.prog 14 = true := by kernel_rfl
theorem c15 : callB Try.prog 15 = true := by kernel_rfl
theorem c16 : callB Try.prog 16 = true := by kernel_rfl
theorem c17 : callB Try.prog 17 = true := by kernel_rfl
theorem c18 : callB Try.prog 18 = true := by kernel_rfl
theorem c19 : callB Try.prog 19 = true := by kernel_rfl
theorem c20 : callB Try.prog 20 = true := by kernel_rfl
theorem c21 : callB Try.prog 21 = true := by kernel_rfl
theorem c22 : callB Try.prog 22 = true := by kernel_rfl
theorem c23 : callB Try.prog 23 = true := by kernel_rfl
theorem c24 : callB Try.prog 24 = true := by kernel_rfl
theorem c25 : callB Try.prog 25 = true := by kernel_rfl
theorem c26 : callB Try.prog 26 = true := by kernel_rfl
theorem c27 : callB Try.prog 27 = true := by kernel_rfl
theorem c28 : callB Try.prog 28 = true := by kernel_rfl
theorem c29 : callB Try.prog 29 = true := by kernel_rfl
theorem c30 : callB Try.prog 30 = true := by kernel_rfl
theorem c31 : callB Try.prog 31 = true := by kernel_rfl
theorem c32 : callB Try.prog 32 = true := by kernel_rfl
theorem c33 : callB Try.prog 33 = true := by kernel_rfl
theorem c34 : callB Try.prog 34 = true := by kernel_rfl
theorem c35 : callB Try.prog 35 = true := by kernel_rfl
theorem c36 : callB Try.prog 36 = true := by kernel_rfl
theorem c37 : callB Try.prog 37 = true := by kernel_rfl
theorem c38 : callB Try.prog 38 = true := by kernel_rfl
theorem c39 : callB Try.prog 39 = true := by kernel_rfl
theorem c40 : callB Try.prog 40 = true := by kernel_rfl
theorem c41 : callB Try.prog 41 = true := by kernel_rfl
theorem c42 : callB Try.prog 42 = true := by kernel_rfl
theorem c43 : callB Try.prog 43 = true := by kernel_rfl
theorem c44 : callB Try.prog 44 = true := by kernel_rfl
theorem c45 : callB Try.prog 45 = true := by kernel_rfl
theorem c46 : callB Try.prog 46 = true := by kernel_rfl
theorem c47 : callB Try.prog 47 = true := by kernel_rfl
theorem c48 : callB Try.prog 48 = true := by kernel_rfl
theorem c49 : callB Try.prog 49 = true := by kernel_rfl
theorem c50 : callB Try.prog 50 = true := by kernel_rfl
theorem c51 : callB Try.prog 51 = true := by kernel_rfl
theorem c52 : callB Try.prog 52 = true := by kernel_rfl
theorem c53 : callB Try.prog 53 = true := by kernel_rfl
theorem c54 : callB Try.prog 54 = true := by kernel_rfl
theorem c55 : callB Try.prog 55 = true := by kernel_rfl
theorem c56 : callB Try.prog 56 = true := by kernel_rfl
theorem c57 : callB Try.prog 57 = true := by kernel_rfl
theorem c58 : callB Try.prog 58 = true := by kernel_rfl
theorem c59 : callB Try.prog 59 = true := by kernel_rfl
theorem c60 : callB Try.prog 60 = true := by kernel_rfl
theorem c61 : callB Try.prog 61 = true := by kernel_rfl
theorem c62 : callB Try.prog 62 = true := by kernel_rfl
theorem c63 : callB Try.prog 63 = true := by kernel_rfl
theorem c64 : callB Try.prog 64 = true := by kernel_rfl
theorem c65 : callB Try.prog 65 = true := by kernel_rfl
theorem c66 : callB Try.prog 66 = true := by kernel_rfl
theorem c67 : callB Try.prog 67 = true := by kernel_rfl
theorem c68 : callB Try.prog 68 = true := by kernel_rfl
theorem c69 : callB Try.prog 69 = true := by kernel_rfl
theorem c70 : callB Try.prog 70 = true := by kernel_rfl
theorem c71 : callB Try.prog 71 = true := by kernel_rfl
theorem c72 : callB Try.prog 72 = true := by kernel_rfl
theorem c73 : callB Try.prog 73 = true := by kernel_rfl
theorem c74 : callB Try.prog 74 = true := by kernel_rfl
theorem c75 : callB Try.prog 75 = true := by kernel_rfl
theorem c76 : callB Try.prog 76 = true := by kernel_rfl
theorem c77 : callB Try.prog 77 = true := by kernel_rfl
theorem c78 : callB Try.prog 78 = true := by kernel_rfl
theorem c79 : callB Try.prog 79 = true := by kernel_rfl
theorem c80 : callB Try.prog 80 = true := by kernel_rfl
theorem c81 : callB Try.prog 81 = true := by kernel_rfl
theorem c82 : callB Try.prog 82 = true := by kernel_rfl
theorem c83 : callB Try.prog 83 = true := by kernel_rfl
theorem c84 : callB Try.prog 84 = true := by kernel_rfl
theorem c85 : callB Try.prog 85 = true := by kernel_rfl
theorem c86 : callB Try.prog 86 = true := by kernel_rfl
theorem c87 : callB Try.prog 87 = true := by kernel_rfl
theorem c88 : callB Try.prog 88 = true := by kernel_rfl
theorem c89 : callB Try.prog 89 = true := by kernel_rfl
theorem c90 : callB Try.prog 90 = true := by kernel_rfl
theorem c91 : callB Try.prog 91 = true := by kernel_rfl
theorem c92 : callB Try.prog 92 = true := by kernel_rfl
theorem c93 : callB Try.prog 93 = true := by kernel_rfl
theorem c94 : callB Try.prog 94 = true := by kernel_rfl
theorem c95 : callB Try.prog 95 = true := by kernel_rfl
theorem c96 : callB Try.prog 96 = true := by kernel_rfl
theorem c97 : callB Try.prog 97 = true := by kernel_rfl
theorem c98 : callB Try.prog 98 = true := by kernel_rfl
theorem c99 : callB Try.prog 99 = true := by kernel_rfl
theorem c100 : callB Try.prog 100 = true := by kernel_rfl
theorem c101 : callB Try.prog 101 = true := by kernel_rfl
theorem c102 : callB Try.prog 102 = true := by kernel_rfl
theorem c103 : callB Try.prog 103 = true := by kernel_rfl
theorem c104 : callB Try.prog 104 = true := by kernel_rfl
theorem c105 : callB Try.prog 105 = true := by kernel_rfl
theorem c106 : callB Try.prog 106 = true := by kernel_rfl
theorem c107 : callB Try.prog 107 = true := by kernel_rfl
theorem c108 : callB Try.prog 108 = true := by kernel_rfl
theorem c109 : callB Try.prog 109 = true := by kernel_rfl
theorem c110 : callB Try.prog 110 = true := by kernel_rfl
theorem c111 : callB Try.prog 111 = true := by kernel_rfl
theorem c112 : callB Try.prog 112 = true := by kernel_rfl
theorem c113 : callB Try.prog 113 = true := by kernel_rfl
theorem c114 : callB Try.prog 114 = true := by kernel_rfl
theorem c115 : callB Try.prog 115 = true := by kernel_rfl
theorem c116 : callB Try.prog 116 = true := by kernel_rfl
theorem c117 : callB Try.prog 117 = true := by kernel_rfl
theorem c118 : callB Try.prog 118 = true := by kernel_rfl
theorem c119 : callB Try.prog 119 = true := by kernel_rfl
theorem c120 : callB Try.prog 120 = true := by kernel_rfl
theorem c121 : callB Try.prog 121 = true := by kernel_rfl
theorem c122 : callB Try.prog 122 = true := by kernel_rfl
theorem c123 : callB Try.prog 123 = true := by kernel_rfl
theorem c124 : callB Try.prog 124 = true := by kernel_rfl
theorem c125 : callB Try.prog 125 = true := by kernel_rfl
theorem c126 : callB Try.prog 126 = true := by kernel_rfl
theorem c127 : callB Try.prog 127 = true := by kernel_rfl
theorem c128 : callB Try.prog 128 = true := by kernel_rfl
theorem c129 : callB Try.prog 129 = true := by kernel_rfl
theorem c130 : callB Try.prog 130 = true := by kernel_rfl
theorem c131 : callB Try.prog 131 = true := by kernel_rfl
theorem c132 : callB Try.prog 132 = true := by kernel_rfl
theorem c133 : callB Try.prog 133 = true := by kernel_rfl
theorem c134 : callB Try.prog 134 = true := by kernel_rfl
theorem c135 : callB Try.prog 135 = true := by kernel_rfl
theorem c136 : callB Try.prog 136 = true := by kernel_rfl
theorem c137 : callB Try.prog 137 = true := by kernel_rfl
theorem c138 : callB Try.prog 138 = true := by kernel_rfl
theorem c139 : callB Try.prog 139 = true := by kernel_rfl
theorem c140 : callB Try.prog 140 = true := by kernel_rfl
theorem c141 : callB Try.prog 141 = true := by kernel_rfl
theorem c142 : callB Try.prog 142 = true := by kernel_rfl
theorem c143 : callB Try.prog 143 = true := by kernel_rfl
theorem c144 : callB Try.prog 144 = true := by kernel_rfl
theorem c145 : callB Try.prog 145 = true := by kernel_rfl
theorem c146 : callB Try.prog 146 = true := by kernel_rfl
theorem c147 : callB Try.prog 147 = true := by kernel_rfl
theorem mix : Try.prog.follows .mixedOrders = true := by kernel_rfl
end Go.Proofs.Yteaknconpkklhaa
