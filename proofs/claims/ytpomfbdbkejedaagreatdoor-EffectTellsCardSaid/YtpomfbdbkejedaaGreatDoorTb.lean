/- Facts on the translation's types, fields and functions. No conditions. -/
import Derived.Test.YtpomfbdbkejedaaGreatDoorTy
import Derived.Test.YtpomfbdbkejedaaGreatDoorProg
set_option linter.unusedVariables false
set_option linter.unusedSimpArgs false
namespace Go.Proofs.YtpomfbdbkejedaaGreatDoor
open Go Go.Proofs
theorem i1 : inf Tryz.prog 1 (.nilFunc) 1 8 := by unfold inf; kernel_rfl
theorem m1 : (Tryz.prog.info? 1).map (·.size) = some 1 := by kernel_rfl
theorem s1 : scB Tryz.prog 1 = true := by kernel_rfl
theorem i2 : inf Tryz.prog 2 (.int .i64 0) 1 8 := by unfold inf; kernel_rfl
theorem m2 : (Tryz.prog.info? 2).map (·.size) = some 1 := by kernel_rfl
theorem u2 : Tryz.prog.underlying 2 = some (.int .i64) := Tryz.underlying2
theorem s2 : scB Tryz.prog 2 = true := by kernel_rfl
theorem i3 : inf Tryz.prog 3 (.int .i64 0) 1 8 := by unfold inf; kernel_rfl
theorem m3 : (Tryz.prog.info? 3).map (·.size) = some 1 := by kernel_rfl
theorem u3 : Tryz.prog.underlying 3 = some (.int .i64) := Tryz.underlying3
theorem s3 : scB Tryz.prog 3 = true := by kernel_rfl
theorem i4 : inf Tryz.prog 4 (.bool false) 1 1 := by unfold inf; kernel_rfl
theorem m4 : (Tryz.prog.info? 4).map (·.size) = some 1 := by kernel_rfl
theorem s4 : scB Tryz.prog 4 = true := by kernel_rfl
theorem i5 : inf Tryz.prog 5 (.int .u8 0) 1 1 := by unfold inf; kernel_rfl
theorem m5 : (Tryz.prog.info? 5).map (·.size) = some 1 := by kernel_rfl
theorem u5 : Tryz.prog.underlying 5 = some (.int .u8) := Tryz.underlying5
theorem s5 : scB Tryz.prog 5 = true := by kernel_rfl
theorem i6 : inf Tryz.prog 6 (.int .u8 0) 1 1 := by unfold inf; kernel_rfl
theorem m6 : (Tryz.prog.info? 6).map (·.size) = some 1 := by kernel_rfl
theorem u6 : Tryz.prog.underlying 6 = some (.int .u8) := Tryz.underlying6
theorem s6 : scB Tryz.prog 6 = true := by kernel_rfl
theorem i7 : inf Tryz.prog 7 (.agg #[.int .i64 0, .int .i64 0, .bool false, .int .u8 0]) 4 24 := by unfold inf; kernel_rfl
theorem m7 : (Tryz.prog.info? 7).map (·.size) = some 4 := by kernel_rfl
theorem ag_7 : agB Tryz.prog 7 4 = true := by kernel_rfl
theorem f7_0 : faB Tryz.prog 7 0 0 = true := by kernel_rfl
theorem f7_1 : faB Tryz.prog 7 1 1 = true := by kernel_rfl
theorem f7_2 : faB Tryz.prog 7 2 2 = true := by kernel_rfl
theorem f7_3 : faB Tryz.prog 7 3 3 = true := by kernel_rfl
theorem i8 : inf Tryz.prog 8 (.agg #[.int .i64 0, .int .i64 0, .bool false, .int .u8 0]) 4 24 := by unfold inf; kernel_rfl
theorem m8 : (Tryz.prog.info? 8).map (·.size) = some 4 := by kernel_rfl
theorem ag_8 : agB Tryz.prog 8 4 = true := by kernel_rfl
theorem f8_0 : faB Tryz.prog 8 0 0 = true := by kernel_rfl
theorem f8_1 : faB Tryz.prog 8 1 1 = true := by kernel_rfl
theorem f8_2 : faB Tryz.prog 8 2 2 = true := by kernel_rfl
theorem f8_3 : faB Tryz.prog 8 3 3 = true := by kernel_rfl
theorem i12 : inf Tryz.prog 12 (.int .u64 0) 1 8 := by unfold inf; kernel_rfl
theorem m12 : (Tryz.prog.info? 12).map (·.size) = some 1 := by kernel_rfl
theorem u12 : Tryz.prog.underlying 12 = some (.int .u64) := Tryz.underlying12
theorem s12 : scB Tryz.prog 12 = true := by kernel_rfl
theorem i13 : inf Tryz.prog 13 (.agg #[.string ⟨#[]⟩, .int .u64 0]) 2 24 := by unfold inf; kernel_rfl
theorem m13 : (Tryz.prog.info? 13).map (·.size) = some 2 := by kernel_rfl
theorem ag_13 : agB Tryz.prog 13 2 = true := by kernel_rfl
theorem f13_0 : faB Tryz.prog 13 0 0 = true := by kernel_rfl
theorem f13_1 : faB Tryz.prog 13 1 1 = true := by kernel_rfl
theorem i14 : inf Tryz.prog 14 (.agg #[.string ⟨#[]⟩, .int .u64 0]) 2 24 := by unfold inf; kernel_rfl
theorem m14 : (Tryz.prog.info? 14).map (·.size) = some 2 := by kernel_rfl
theorem ag_14 : agB Tryz.prog 14 2 = true := by kernel_rfl
theorem f14_0 : faB Tryz.prog 14 0 0 = true := by kernel_rfl
theorem f14_1 : faB Tryz.prog 14 1 1 = true := by kernel_rfl
theorem i15 : inf Tryz.prog 15 (.pointer none) 1 8 := by unfold inf; kernel_rfl
theorem m15 : (Tryz.prog.info? 15).map (·.size) = some 1 := by kernel_rfl
theorem u15 : Tryz.prog.underlying 15 = some (.pointer 178) := Tryz.underlying15
theorem s15 : scB Tryz.prog 15 = true := by kernel_rfl
theorem i16 : inf Tryz.prog 16 (.pointer none) 1 8 := by unfold inf; kernel_rfl
theorem m16 : (Tryz.prog.info? 16).map (·.size) = some 1 := by kernel_rfl
theorem u16 : Tryz.prog.underlying 16 = some (.pointer 181) := Tryz.underlying16
theorem s16 : scB Tryz.prog 16 = true := by kernel_rfl
theorem i17 : inf Tryz.prog 17 (.pointer none) 1 8 := by unfold inf; kernel_rfl
theorem m17 : (Tryz.prog.info? 17).map (·.size) = some 1 := by kernel_rfl
theorem u17 : Tryz.prog.underlying 17 = some (.pointer 190) := Tryz.underlying17
theorem s17 : scB Tryz.prog 17 = true := by kernel_rfl
theorem i18 : inf Tryz.prog 18 (.agg #[.pointer none]) 1 8 := by unfold inf; kernel_rfl
theorem m18 : (Tryz.prog.info? 18).map (·.size) = some 1 := by kernel_rfl
theorem ag_18 : agB Tryz.prog 18 1 = true := by kernel_rfl
theorem f18_0 : faB Tryz.prog 18 0 0 = true := by kernel_rfl
theorem i19 : inf Tryz.prog 19 (.agg #[.pointer none]) 1 8 := by unfold inf; kernel_rfl
theorem m19 : (Tryz.prog.info? 19).map (·.size) = some 1 := by kernel_rfl
theorem ag_19 : agB Tryz.prog 19 1 = true := by kernel_rfl
theorem f19_0 : faB Tryz.prog 19 0 0 = true := by kernel_rfl
theorem i20 : inf Tryz.prog 20 (.nilIface) 1 16 := by unfold inf; kernel_rfl
theorem m20 : (Tryz.prog.info? 20).map (·.size) = some 1 := by kernel_rfl
theorem s20 : scB Tryz.prog 20 = true := by kernel_rfl
theorem i21 : inf Tryz.prog 21 (.int .i32 0) 1 4 := by unfold inf; kernel_rfl
theorem m21 : (Tryz.prog.info? 21).map (·.size) = some 1 := by kernel_rfl
theorem u21 : Tryz.prog.underlying 21 = some (.int .i32) := Tryz.underlying21
theorem s21 : scB Tryz.prog 21 = true := by kernel_rfl
theorem i22 : inf Tryz.prog 22 (.slice none 0 0) 1 24 := by unfold inf; kernel_rfl
theorem m22 : (Tryz.prog.info? 22).map (·.size) = some 1 := by kernel_rfl
theorem u22 : Tryz.prog.underlying 22 = some (.slice 47) := Tryz.underlying22
theorem s22 : scB Tryz.prog 22 = true := by kernel_rfl
theorem i23 : inf Tryz.prog 23 (.agg #[.slice none 0 0]) 1 24 := by unfold inf; kernel_rfl
theorem m23 : (Tryz.prog.info? 23).map (·.size) = some 1 := by kernel_rfl
theorem ag_23 : agB Tryz.prog 23 1 = true := by kernel_rfl
theorem f23_0 : faB Tryz.prog 23 0 0 = true := by kernel_rfl
theorem i24 : inf Tryz.prog 24 (.agg #[.slice none 0 0]) 1 24 := by unfold inf; kernel_rfl
theorem m24 : (Tryz.prog.info? 24).map (·.size) = some 1 := by kernel_rfl
theorem ag_24 : agB Tryz.prog 24 1 = true := by kernel_rfl
theorem f24_0 : faB Tryz.prog 24 0 0 = true := by kernel_rfl
theorem i25 : inf Tryz.prog 25 (.nilFunc) 1 8 := by unfold inf; kernel_rfl
theorem m25 : (Tryz.prog.info? 25).map (·.size) = some 1 := by kernel_rfl
theorem s25 : scB Tryz.prog 25 = true := by kernel_rfl
theorem i26 : inf Tryz.prog 26 (.nilFunc) 1 8 := by unfold inf; kernel_rfl
theorem m26 : (Tryz.prog.info? 26).map (·.size) = some 1 := by kernel_rfl
theorem s26 : scB Tryz.prog 26 = true := by kernel_rfl
theorem i27 : inf Tryz.prog 27 (.slice none 0 0) 1 24 := by unfold inf; kernel_rfl
theorem m27 : (Tryz.prog.info? 27).map (·.size) = some 1 := by kernel_rfl
theorem u27 : Tryz.prog.underlying 27 = some (.slice 37) := Tryz.underlying27
theorem s27 : scB Tryz.prog 27 = true := by kernel_rfl
theorem i28 : inf Tryz.prog 28 (.nilIface) 1 16 := by unfold inf; kernel_rfl
theorem m28 : (Tryz.prog.info? 28).map (·.size) = some 1 := by kernel_rfl
theorem s28 : scB Tryz.prog 28 = true := by kernel_rfl
theorem i29 : inf Tryz.prog 29 (.nilIface) 1 16 := by unfold inf; kernel_rfl
theorem m29 : (Tryz.prog.info? 29).map (·.size) = some 1 := by kernel_rfl
theorem ifc_29 : Tryz.prog.underlying 29 = some (.interface (Tryz.prog.methodsAt 29)) := by kernel_rfl
theorem s29 : scB Tryz.prog 29 = true := by kernel_rfl
theorem i31 : inf Tryz.prog 31 (.nilFunc) 1 8 := by unfold inf; kernel_rfl
theorem m31 : (Tryz.prog.info? 31).map (·.size) = some 1 := by kernel_rfl
theorem s31 : scB Tryz.prog 31 = true := by kernel_rfl
theorem i33 : inf Tryz.prog 33 (.nilFunc) 1 8 := by unfold inf; kernel_rfl
theorem m33 : (Tryz.prog.info? 33).map (·.size) = some 1 := by kernel_rfl
theorem s33 : scB Tryz.prog 33 = true := by kernel_rfl
theorem i34 : inf Tryz.prog 34 (.nilFunc) 1 8 := by unfold inf; kernel_rfl
theorem m34 : (Tryz.prog.info? 34).map (·.size) = some 1 := by kernel_rfl
theorem s34 : scB Tryz.prog 34 = true := by kernel_rfl
theorem i35 : inf Tryz.prog 35 (.nilFunc) 1 8 := by unfold inf; kernel_rfl
theorem m35 : (Tryz.prog.info? 35).map (·.size) = some 1 := by kernel_rfl
theorem s35 : scB Tryz.prog 35 = true := by kernel_rfl
theorem i36 : inf Tryz.prog 36 (.agg #[.bool false, .bool false, .bool false, .bool false, .bool false]) 5 5 := by unfold inf; kernel_rfl
theorem m36 : (Tryz.prog.info? 36).map (·.size) = some 5 := by kernel_rfl
theorem ag_36 : agB Tryz.prog 36 5 = true := by kernel_rfl
theorem f36_0 : faB Tryz.prog 36 0 0 = true := by kernel_rfl
theorem f36_1 : faB Tryz.prog 36 1 1 = true := by kernel_rfl
theorem f36_2 : faB Tryz.prog 36 2 2 = true := by kernel_rfl
theorem f36_3 : faB Tryz.prog 36 3 3 = true := by kernel_rfl
theorem f36_4 : faB Tryz.prog 36 4 4 = true := by kernel_rfl
theorem i37 : inf Tryz.prog 37 (.agg #[.bool false, .bool false, .bool false, .bool false, .bool false]) 5 5 := by unfold inf; kernel_rfl
theorem m37 : (Tryz.prog.info? 37).map (·.size) = some 5 := by kernel_rfl
theorem ag_37 : agB Tryz.prog 37 5 = true := by kernel_rfl
theorem f37_0 : faB Tryz.prog 37 0 0 = true := by kernel_rfl
theorem f37_1 : faB Tryz.prog 37 1 1 = true := by kernel_rfl
theorem f37_2 : faB Tryz.prog 37 2 2 = true := by kernel_rfl
theorem f37_3 : faB Tryz.prog 37 3 3 = true := by kernel_rfl
theorem f37_4 : faB Tryz.prog 37 4 4 = true := by kernel_rfl
theorem i38 : inf Tryz.prog 38 (.slice none 0 0) 1 24 := by unfold inf; kernel_rfl
theorem m38 : (Tryz.prog.info? 38).map (·.size) = some 1 := by kernel_rfl
theorem u38 : Tryz.prog.underlying 38 = some (.slice 3) := Tryz.underlying38
theorem s38 : scB Tryz.prog 38 = true := by kernel_rfl
theorem i39 : inf Tryz.prog 39 (.agg #[.int .i64 0, .int .i64 0, .slice none 0 0]) 3 40 := by unfold inf; kernel_rfl
theorem m39 : (Tryz.prog.info? 39).map (·.size) = some 3 := by kernel_rfl
theorem ag_39 : agB Tryz.prog 39 3 = true := by kernel_rfl
theorem f39_0 : faB Tryz.prog 39 0 0 = true := by kernel_rfl
theorem f39_1 : faB Tryz.prog 39 1 1 = true := by kernel_rfl
theorem f39_2 : faB Tryz.prog 39 2 2 = true := by kernel_rfl
theorem i40 : inf Tryz.prog 40 (.agg #[.int .i64 0, .int .i64 0, .slice none 0 0]) 3 40 := by unfold inf; kernel_rfl
theorem m40 : (Tryz.prog.info? 40).map (·.size) = some 3 := by kernel_rfl
theorem ag_40 : agB Tryz.prog 40 3 = true := by kernel_rfl
theorem f40_0 : faB Tryz.prog 40 0 0 = true := by kernel_rfl
theorem f40_1 : faB Tryz.prog 40 1 1 = true := by kernel_rfl
theorem f40_2 : faB Tryz.prog 40 2 2 = true := by kernel_rfl
theorem i41 : inf Tryz.prog 41 (.slice none 0 0) 1 24 := by unfold inf; kernel_rfl
theorem m41 : (Tryz.prog.info? 41).map (·.size) = some 1 := by kernel_rfl
theorem u41 : Tryz.prog.underlying 41 = some (.slice 52) := Tryz.underlying41
theorem s41 : scB Tryz.prog 41 = true := by kernel_rfl
theorem i42 : inf Tryz.prog 42 (.slice none 0 0) 1 24 := by unfold inf; kernel_rfl
theorem m42 : (Tryz.prog.info? 42).map (·.size) = some 1 := by kernel_rfl
theorem u42 : Tryz.prog.underlying 42 = some (.slice 50) := Tryz.underlying42
theorem s42 : scB Tryz.prog 42 = true := by kernel_rfl
theorem i43 : inf Tryz.prog 43 (.agg #[.slice none 0 0, .slice none 0 0, .int .i64 0, .int .i64 0, .slice none 0 0]) 5 88 := by unfold inf; kernel_rfl
theorem m43 : (Tryz.prog.info? 43).map (·.size) = some 5 := by kernel_rfl
theorem ag_43 : agB Tryz.prog 43 5 = true := by kernel_rfl
theorem f43_0 : faB Tryz.prog 43 0 0 = true := by kernel_rfl
theorem f43_1 : faB Tryz.prog 43 1 1 = true := by kernel_rfl
theorem f43_2 : faB Tryz.prog 43 2 2 = true := by kernel_rfl
theorem i44 : inf Tryz.prog 44 (.agg #[.slice none 0 0, .slice none 0 0, .int .i64 0, .int .i64 0, .slice none 0 0]) 5 88 := by unfold inf; kernel_rfl
theorem m44 : (Tryz.prog.info? 44).map (·.size) = some 5 := by kernel_rfl
theorem ag_44 : agB Tryz.prog 44 5 = true := by kernel_rfl
theorem f44_0 : faB Tryz.prog 44 0 0 = true := by kernel_rfl
theorem f44_1 : faB Tryz.prog 44 1 1 = true := by kernel_rfl
theorem f44_2 : faB Tryz.prog 44 2 2 = true := by kernel_rfl
theorem i45 : inf Tryz.prog 45 (.slice none 0 0) 1 24 := by unfold inf; kernel_rfl
theorem m45 : (Tryz.prog.info? 45).map (·.size) = some 1 := by kernel_rfl
theorem u45 : Tryz.prog.underlying 45 = some (.slice 44) := Tryz.underlying45
theorem s45 : scB Tryz.prog 45 = true := by kernel_rfl
theorem i46 : inf Tryz.prog 46 (.agg #[.int .i64 0, .int .i64 0, .slice none 0 0, .slice none 0 0]) 4 64 := by unfold inf; kernel_rfl
theorem m46 : (Tryz.prog.info? 46).map (·.size) = some 4 := by kernel_rfl
theorem ag_46 : agB Tryz.prog 46 4 = true := by kernel_rfl
theorem f46_0 : faB Tryz.prog 46 0 0 = true := by kernel_rfl
theorem f46_1 : faB Tryz.prog 46 1 1 = true := by kernel_rfl
theorem f46_2 : faB Tryz.prog 46 2 2 = true := by kernel_rfl
theorem f46_3 : faB Tryz.prog 46 3 3 = true := by kernel_rfl
theorem i47 : inf Tryz.prog 47 (.agg #[.int .i64 0, .int .i64 0, .slice none 0 0, .slice none 0 0]) 4 64 := by unfold inf; kernel_rfl
theorem m47 : (Tryz.prog.info? 47).map (·.size) = some 4 := by kernel_rfl
theorem ag_47 : agB Tryz.prog 47 4 = true := by kernel_rfl
theorem f47_0 : faB Tryz.prog 47 0 0 = true := by kernel_rfl
theorem f47_1 : faB Tryz.prog 47 1 1 = true := by kernel_rfl
theorem f47_2 : faB Tryz.prog 47 2 2 = true := by kernel_rfl
theorem f47_3 : faB Tryz.prog 47 3 3 = true := by kernel_rfl
theorem i48 : inf Tryz.prog 48 (.nilFunc) 1 8 := by unfold inf; kernel_rfl
theorem m48 : (Tryz.prog.info? 48).map (·.size) = some 1 := by kernel_rfl
theorem s48 : scB Tryz.prog 48 = true := by kernel_rfl
theorem i49 : inf Tryz.prog 49 (.agg #[.int .i64 0, .int .i64 0, .slice none 0 0, .int .i64 0, .int .i64 0]) 5 56 := by unfold inf; kernel_rfl
theorem m49 : (Tryz.prog.info? 49).map (·.size) = some 5 := by kernel_rfl
theorem ag_49 : agB Tryz.prog 49 5 = true := by kernel_rfl
theorem f49_0 : faB Tryz.prog 49 0 0 = true := by kernel_rfl
theorem f49_1 : faB Tryz.prog 49 1 1 = true := by kernel_rfl
theorem f49_2 : faB Tryz.prog 49 2 2 = true := by kernel_rfl
theorem f49_3 : faB Tryz.prog 49 3 3 = true := by kernel_rfl
theorem f49_4 : faB Tryz.prog 49 4 4 = true := by kernel_rfl
theorem i50 : inf Tryz.prog 50 (.agg #[.int .i64 0, .int .i64 0, .slice none 0 0, .int .i64 0, .int .i64 0]) 5 56 := by unfold inf; kernel_rfl
theorem m50 : (Tryz.prog.info? 50).map (·.size) = some 5 := by kernel_rfl
theorem ag_50 : agB Tryz.prog 50 5 = true := by kernel_rfl
theorem f50_0 : faB Tryz.prog 50 0 0 = true := by kernel_rfl
theorem f50_1 : faB Tryz.prog 50 1 1 = true := by kernel_rfl
theorem f50_2 : faB Tryz.prog 50 2 2 = true := by kernel_rfl
theorem f50_3 : faB Tryz.prog 50 3 3 = true := by kernel_rfl
theorem f50_4 : faB Tryz.prog 50 4 4 = true := by kernel_rfl
theorem i51 : inf Tryz.prog 51 (.agg #[.int .i64 0, .slice none 0 0]) 2 32 := by unfold inf; kernel_rfl
theorem m51 : (Tryz.prog.info? 51).map (·.size) = some 2 := by kernel_rfl
theorem ag_51 : agB Tryz.prog 51 2 = true := by kernel_rfl
theorem f51_0 : faB Tryz.prog 51 0 0 = true := by kernel_rfl
theorem f51_1 : faB Tryz.prog 51 1 1 = true := by kernel_rfl
theorem i52 : inf Tryz.prog 52 (.agg #[.int .i64 0, .slice none 0 0]) 2 32 := by unfold inf; kernel_rfl
theorem m52 : (Tryz.prog.info? 52).map (·.size) = some 2 := by kernel_rfl
theorem ag_52 : agB Tryz.prog 52 2 = true := by kernel_rfl
theorem f52_0 : faB Tryz.prog 52 0 0 = true := by kernel_rfl
theorem f52_1 : faB Tryz.prog 52 1 1 = true := by kernel_rfl
theorem i53 : inf Tryz.prog 53 (.nilFunc) 1 8 := by unfold inf; kernel_rfl
theorem m53 : (Tryz.prog.info? 53).map (·.size) = some 1 := by kernel_rfl
theorem s53 : scB Tryz.prog 53 = true := by kernel_rfl
theorem i54 : inf Tryz.prog 54 (.slice none 0 0) 1 24 := by unfold inf; kernel_rfl
theorem m54 : (Tryz.prog.info? 54).map (·.size) = some 1 := by kernel_rfl
theorem u54 : Tryz.prog.underlying 54 = some (.slice 38) := Tryz.underlying54
theorem s54 : scB Tryz.prog 54 = true := by kernel_rfl
theorem i55 : inf Tryz.prog 55 (.nilFunc) 1 8 := by unfold inf; kernel_rfl
theorem m55 : (Tryz.prog.info? 55).map (·.size) = some 1 := by kernel_rfl
theorem s55 : scB Tryz.prog 55 = true := by kernel_rfl
theorem i57 : inf Tryz.prog 57 (.nilFunc) 1 8 := by unfold inf; kernel_rfl
theorem m57 : (Tryz.prog.info? 57).map (·.size) = some 1 := by kernel_rfl
theorem s57 : scB Tryz.prog 57 = true := by kernel_rfl
theorem i58 : inf Tryz.prog 58 (.nilFunc) 1 8 := by unfold inf; kernel_rfl
theorem m58 : (Tryz.prog.info? 58).map (·.size) = some 1 := by kernel_rfl
theorem s58 : scB Tryz.prog 58 = true := by kernel_rfl
theorem i59 : inf Tryz.prog 59 (.nilFunc) 1 8 := by unfold inf; kernel_rfl
theorem m59 : (Tryz.prog.info? 59).map (·.size) = some 1 := by kernel_rfl
theorem s59 : scB Tryz.prog 59 = true := by kernel_rfl
theorem i60 : inf Tryz.prog 60 (.pointer none) 1 8 := by unfold inf; kernel_rfl
theorem m60 : (Tryz.prog.info? 60).map (·.size) = some 1 := by kernel_rfl
theorem u60 : Tryz.prog.underlying 60 = some (.pointer 65) := Tryz.underlying60
theorem s60 : scB Tryz.prog 60 = true := by kernel_rfl
theorem i61 : inf Tryz.prog 61 (.nilFunc) 1 8 := by unfold inf; kernel_rfl
theorem m61 : (Tryz.prog.info? 61).map (·.size) = some 1 := by kernel_rfl
theorem s61 : scB Tryz.prog 61 = true := by kernel_rfl
theorem i62 : inf Tryz.prog 62 (.pointer none) 1 8 := by unfold inf; kernel_rfl
theorem m62 : (Tryz.prog.info? 62).map (·.size) = some 1 := by kernel_rfl
theorem u62 : Tryz.prog.underlying 62 = some (.pointer 60) := Tryz.underlying62
theorem s62 : scB Tryz.prog 62 = true := by kernel_rfl
theorem i63 : inf Tryz.prog 63 (.nilFunc) 1 8 := by unfold inf; kernel_rfl
theorem m63 : (Tryz.prog.info? 63).map (·.size) = some 1 := by kernel_rfl
theorem s63 : scB Tryz.prog 63 = true := by kernel_rfl
theorem i64 : inf Tryz.prog 64 (.agg #[.int .i64 0, .nilIface]) 2 24 := by unfold inf; kernel_rfl
theorem m64 : (Tryz.prog.info? 64).map (·.size) = some 2 := by kernel_rfl
theorem ag_64 : agB Tryz.prog 64 2 = true := by kernel_rfl
theorem f64_0 : faB Tryz.prog 64 0 0 = true := by kernel_rfl
theorem f64_1 : faB Tryz.prog 64 1 1 = true := by kernel_rfl
theorem i65 : inf Tryz.prog 65 (.agg #[.int .i64 0, .nilIface]) 2 24 := by unfold inf; kernel_rfl
theorem m65 : (Tryz.prog.info? 65).map (·.size) = some 2 := by kernel_rfl
theorem ag_65 : agB Tryz.prog 65 2 = true := by kernel_rfl
theorem f65_0 : faB Tryz.prog 65 0 0 = true := by kernel_rfl
theorem f65_1 : faB Tryz.prog 65 1 1 = true := by kernel_rfl
theorem i66 : inf Tryz.prog 66 (.nilFunc) 1 8 := by unfold inf; kernel_rfl
theorem m66 : (Tryz.prog.info? 66).map (·.size) = some 1 := by kernel_rfl
theorem s66 : scB Tryz.prog 66 = true := by kernel_rfl
theorem i67 : inf Tryz.prog 67 (.slice none 0 0) 1 24 := by unfold inf; kernel_rfl
theorem m67 : (Tryz.prog.info? 67).map (·.size) = some 1 := by kernel_rfl
theorem u67 : Tryz.prog.underlying 67 = some (.slice 69) := Tryz.underlying67
theorem s67 : scB Tryz.prog 67 = true := by kernel_rfl
theorem i68 : inf Tryz.prog 68 (.nilFunc) 1 8 := by unfold inf; kernel_rfl
theorem m68 : (Tryz.prog.info? 68).map (·.size) = some 1 := by kernel_rfl
theorem s68 : scB Tryz.prog 68 = true := by kernel_rfl
theorem i69 : inf Tryz.prog 69 (.slice none 0 0) 1 24 := by unfold inf; kernel_rfl
theorem m69 : (Tryz.prog.info? 69).map (·.size) = some 1 := by kernel_rfl
theorem u69 : Tryz.prog.underlying 69 = some (.slice 4) := Tryz.underlying69
theorem s69 : scB Tryz.prog 69 = true := by kernel_rfl
theorem i70 : inf Tryz.prog 70 (.nilFunc) 1 8 := by unfold inf; kernel_rfl
theorem m70 : (Tryz.prog.info? 70).map (·.size) = some 1 := by kernel_rfl
theorem s70 : scB Tryz.prog 70 = true := by kernel_rfl
theorem i71 : inf Tryz.prog 71 (.nilFunc) 1 8 := by unfold inf; kernel_rfl
theorem m71 : (Tryz.prog.info? 71).map (·.size) = some 1 := by kernel_rfl
theorem s71 : scB Tryz.prog 71 = true := by kernel_rfl
theorem i72 : inf Tryz.prog 72 (.nilFunc) 1 8 := by unfold inf; kernel_rfl
theorem m72 : (Tryz.prog.info? 72).map (·.size) = some 1 := by kernel_rfl
theorem s72 : scB Tryz.prog 72 = true := by kernel_rfl
theorem i73 : inf Tryz.prog 73 (.int .i64 0) 1 8 := by unfold inf; kernel_rfl
theorem m73 : (Tryz.prog.info? 73).map (·.size) = some 1 := by kernel_rfl
theorem u73 : Tryz.prog.underlying 73 = some (.int .i64) := Tryz.underlying73
theorem cmp_73 : (Tryz.prog.info? 73).map (·.comparable) = some true := by kernel_rfl
theorem s73 : scB Tryz.prog 73 = true := by kernel_rfl
theorem i74 : inf Tryz.prog 74 (.nilFunc) 1 8 := by unfold inf; kernel_rfl
theorem m74 : (Tryz.prog.info? 74).map (·.size) = some 1 := by kernel_rfl
theorem s74 : scB Tryz.prog 74 = true := by kernel_rfl
theorem i75 : inf Tryz.prog 75 (.nilFunc) 1 8 := by unfold inf; kernel_rfl
theorem m75 : (Tryz.prog.info? 75).map (·.size) = some 1 := by kernel_rfl
theorem s75 : scB Tryz.prog 75 = true := by kernel_rfl
theorem i76 : inf Tryz.prog 76 (.nilFunc) 1 8 := by unfold inf; kernel_rfl
theorem m76 : (Tryz.prog.info? 76).map (·.size) = some 1 := by kernel_rfl
theorem s76 : scB Tryz.prog 76 = true := by kernel_rfl
theorem i77 : inf Tryz.prog 77 (.nilFunc) 1 8 := by unfold inf; kernel_rfl
theorem m77 : (Tryz.prog.info? 77).map (·.size) = some 1 := by kernel_rfl
theorem s77 : scB Tryz.prog 77 = true := by kernel_rfl
theorem i78 : inf Tryz.prog 78 (.nilFunc) 1 8 := by unfold inf; kernel_rfl
theorem m78 : (Tryz.prog.info? 78).map (·.size) = some 1 := by kernel_rfl
theorem s78 : scB Tryz.prog 78 = true := by kernel_rfl
theorem i79 : inf Tryz.prog 79 (.nilFunc) 1 8 := by unfold inf; kernel_rfl
theorem m79 : (Tryz.prog.info? 79).map (·.size) = some 1 := by kernel_rfl
theorem s79 : scB Tryz.prog 79 = true := by kernel_rfl
theorem i80 : inf Tryz.prog 80 (.nilFunc) 1 8 := by unfold inf; kernel_rfl
theorem m80 : (Tryz.prog.info? 80).map (·.size) = some 1 := by kernel_rfl
theorem s80 : scB Tryz.prog 80 = true := by kernel_rfl
theorem i81 : inf Tryz.prog 81 (.nilFunc) 1 8 := by unfold inf; kernel_rfl
theorem m81 : (Tryz.prog.info? 81).map (·.size) = some 1 := by kernel_rfl
theorem s81 : scB Tryz.prog 81 = true := by kernel_rfl
theorem i82 : inf Tryz.prog 82 (.nilFunc) 1 8 := by unfold inf; kernel_rfl
theorem m82 : (Tryz.prog.info? 82).map (·.size) = some 1 := by kernel_rfl
theorem s82 : scB Tryz.prog 82 = true := by kernel_rfl
theorem i83 : inf Tryz.prog 83 (.pointer none) 1 8 := by unfold inf; kernel_rfl
theorem m83 : (Tryz.prog.info? 83).map (·.size) = some 1 := by kernel_rfl
theorem i84 : inf Tryz.prog 84 (.int .u64 0) 1 8 := by unfold inf; kernel_rfl
theorem m84 : (Tryz.prog.info? 84).map (·.size) = some 1 := by kernel_rfl
theorem u84 : Tryz.prog.underlying 84 = some (.int .u64) := Tryz.underlying84
theorem s84 : scB Tryz.prog 84 = true := by kernel_rfl
theorem i85 : inf Tryz.prog 85 (.agg #[.pointer none, .pointer none, .int .u64 0]) 3 24 := by unfold inf; kernel_rfl
theorem m85 : (Tryz.prog.info? 85).map (·.size) = some 3 := by kernel_rfl
theorem ag_85 : agB Tryz.prog 85 3 = true := by kernel_rfl
theorem f85_0 : faB Tryz.prog 85 0 0 = true := by kernel_rfl
theorem f85_1 : faB Tryz.prog 85 1 1 = true := by kernel_rfl
theorem f85_2 : faB Tryz.prog 85 2 2 = true := by kernel_rfl
theorem i86 : inf Tryz.prog 86 (.agg #[.pointer none, .pointer none, .int .u64 0]) 3 24 := by unfold inf; kernel_rfl
theorem m86 : (Tryz.prog.info? 86).map (·.size) = some 3 := by kernel_rfl
theorem ag_86 : agB Tryz.prog 86 3 = true := by kernel_rfl
theorem f86_0 : faB Tryz.prog 86 0 0 = true := by kernel_rfl
theorem f86_1 : faB Tryz.prog 86 1 1 = true := by kernel_rfl
theorem f86_2 : faB Tryz.prog 86 2 2 = true := by kernel_rfl
theorem i87 : inf Tryz.prog 87 (.nilFunc) 1 8 := by unfold inf; kernel_rfl
theorem m87 : (Tryz.prog.info? 87).map (·.size) = some 1 := by kernel_rfl
theorem s87 : scB Tryz.prog 87 = true := by kernel_rfl
theorem i88 : inf Tryz.prog 88 (.nilIface) 1 16 := by unfold inf; kernel_rfl
theorem m88 : (Tryz.prog.info? 88).map (·.size) = some 1 := by kernel_rfl
theorem s88 : scB Tryz.prog 88 = true := by kernel_rfl
theorem i89 : inf Tryz.prog 89 (.nilIface) 1 16 := by unfold inf; kernel_rfl
theorem m89 : (Tryz.prog.info? 89).map (·.size) = some 1 := by kernel_rfl
theorem s89 : scB Tryz.prog 89 = true := by kernel_rfl
theorem i90 : inf Tryz.prog 90 (.nilFunc) 1 8 := by unfold inf; kernel_rfl
theorem m90 : (Tryz.prog.info? 90).map (·.size) = some 1 := by kernel_rfl
theorem s90 : scB Tryz.prog 90 = true := by kernel_rfl
theorem i91 : inf Tryz.prog 91 (.int .u8 0) 1 1 := by unfold inf; kernel_rfl
theorem m91 : (Tryz.prog.info? 91).map (·.size) = some 1 := by kernel_rfl
theorem u91 : Tryz.prog.underlying 91 = some (.int .u8) := Tryz.underlying91
theorem s91 : scB Tryz.prog 91 = true := by kernel_rfl
theorem i92 : inf Tryz.prog 92 (.nilFunc) 1 8 := by unfold inf; kernel_rfl
theorem m92 : (Tryz.prog.info? 92).map (·.size) = some 1 := by kernel_rfl
theorem s92 : scB Tryz.prog 92 = true := by kernel_rfl
theorem i93 : inf Tryz.prog 93 (.nilFunc) 1 8 := by unfold inf; kernel_rfl
theorem m93 : (Tryz.prog.info? 93).map (·.size) = some 1 := by kernel_rfl
theorem s93 : scB Tryz.prog 93 = true := by kernel_rfl
theorem i94 : inf Tryz.prog 94 (.nilFunc) 1 8 := by unfold inf; kernel_rfl
theorem m94 : (Tryz.prog.info? 94).map (·.size) = some 1 := by kernel_rfl
theorem s94 : scB Tryz.prog 94 = true := by kernel_rfl
theorem i95 : inf Tryz.prog 95 (.nilFunc) 1 8 := by unfold inf; kernel_rfl
theorem m95 : (Tryz.prog.info? 95).map (·.size) = some 1 := by kernel_rfl
theorem s95 : scB Tryz.prog 95 = true := by kernel_rfl
theorem i96 : inf Tryz.prog 96 (.nilFunc) 1 8 := by unfold inf; kernel_rfl
theorem m96 : (Tryz.prog.info? 96).map (·.size) = some 1 := by kernel_rfl
theorem s96 : scB Tryz.prog 96 = true := by kernel_rfl
theorem i97 : inf Tryz.prog 97 (.nilFunc) 1 8 := by unfold inf; kernel_rfl
theorem m97 : (Tryz.prog.info? 97).map (·.size) = some 1 := by kernel_rfl
theorem s97 : scB Tryz.prog 97 = true := by kernel_rfl
theorem i98 : inf Tryz.prog 98 (.nilFunc) 1 8 := by unfold inf; kernel_rfl
theorem m98 : (Tryz.prog.info? 98).map (·.size) = some 1 := by kernel_rfl
theorem s98 : scB Tryz.prog 98 = true := by kernel_rfl
theorem i99 : inf Tryz.prog 99 (.nilFunc) 1 8 := by unfold inf; kernel_rfl
theorem m99 : (Tryz.prog.info? 99).map (·.size) = some 1 := by kernel_rfl
theorem s99 : scB Tryz.prog 99 = true := by kernel_rfl
theorem i100 : inf Tryz.prog 100 (.nilFunc) 1 8 := by unfold inf; kernel_rfl
theorem m100 : (Tryz.prog.info? 100).map (·.size) = some 1 := by kernel_rfl
theorem s100 : scB Tryz.prog 100 = true := by kernel_rfl
theorem i101 : inf Tryz.prog 101 (.nilFunc) 1 8 := by unfold inf; kernel_rfl
theorem m101 : (Tryz.prog.info? 101).map (·.size) = some 1 := by kernel_rfl
theorem s101 : scB Tryz.prog 101 = true := by kernel_rfl
theorem i102 : inf Tryz.prog 102 (.pointer none) 1 8 := by unfold inf; kernel_rfl
theorem m102 : (Tryz.prog.info? 102).map (·.size) = some 1 := by kernel_rfl
theorem u102 : Tryz.prog.underlying 102 = some (.pointer 104) := Tryz.underlying102
theorem s102 : scB Tryz.prog 102 = true := by kernel_rfl
theorem i103 : inf Tryz.prog 103 (.agg #[.slice none 0 0, .int .i64 0, .int .i64 0, .slice none 0 0, .slice none 0 0]) 5 88 := by unfold inf; kernel_rfl
theorem m103 : (Tryz.prog.info? 103).map (·.size) = some 5 := by kernel_rfl
theorem ag_103 : agB Tryz.prog 103 5 = true := by kernel_rfl
theorem f103_0 : faB Tryz.prog 103 0 0 = true := by kernel_rfl
theorem f103_1 : faB Tryz.prog 103 1 1 = true := by kernel_rfl
theorem i104 : inf Tryz.prog 104 (.agg #[.slice none 0 0, .int .i64 0, .int .i64 0, .slice none 0 0, .slice none 0 0]) 5 88 := by unfold inf; kernel_rfl
theorem m104 : (Tryz.prog.info? 104).map (·.size) = some 5 := by kernel_rfl
theorem ag_104 : agB Tryz.prog 104 5 = true := by kernel_rfl
theorem f104_0 : faB Tryz.prog 104 0 0 = true := by kernel_rfl
theorem f104_1 : faB Tryz.prog 104 1 1 = true := by kernel_rfl
theorem i105 : inf Tryz.prog 105 (.nilFunc) 1 8 := by unfold inf; kernel_rfl
theorem m105 : (Tryz.prog.info? 105).map (·.size) = some 1 := by kernel_rfl
theorem s105 : scB Tryz.prog 105 = true := by kernel_rfl
theorem i106 : inf Tryz.prog 106 (.nilFunc) 1 8 := by unfold inf; kernel_rfl
theorem m106 : (Tryz.prog.info? 106).map (·.size) = some 1 := by kernel_rfl
theorem s106 : scB Tryz.prog 106 = true := by kernel_rfl
theorem i107 : inf Tryz.prog 107 (.nilFunc) 1 8 := by unfold inf; kernel_rfl
theorem m107 : (Tryz.prog.info? 107).map (·.size) = some 1 := by kernel_rfl
theorem s107 : scB Tryz.prog 107 = true := by kernel_rfl
theorem i108 : inf Tryz.prog 108 (.nilFunc) 1 8 := by unfold inf; kernel_rfl
theorem m108 : (Tryz.prog.info? 108).map (·.size) = some 1 := by kernel_rfl
theorem s108 : scB Tryz.prog 108 = true := by kernel_rfl
theorem i109 : inf Tryz.prog 109 (.nilFunc) 1 8 := by unfold inf; kernel_rfl
theorem m109 : (Tryz.prog.info? 109).map (·.size) = some 1 := by kernel_rfl
theorem s109 : scB Tryz.prog 109 = true := by kernel_rfl
theorem i110 : inf Tryz.prog 110 (.int .u64 0) 1 8 := by unfold inf; kernel_rfl
theorem m110 : (Tryz.prog.info? 110).map (·.size) = some 1 := by kernel_rfl
theorem u110 : Tryz.prog.underlying 110 = some (.int .u64) := Tryz.underlying110
theorem s110 : scB Tryz.prog 110 = true := by kernel_rfl
theorem i111 : inf Tryz.prog 111 (.nilFunc) 1 8 := by unfold inf; kernel_rfl
theorem m111 : (Tryz.prog.info? 111).map (·.size) = some 1 := by kernel_rfl
theorem s111 : scB Tryz.prog 111 = true := by kernel_rfl
theorem i112 : inf Tryz.prog 112 (.nilFunc) 1 8 := by unfold inf; kernel_rfl
theorem m112 : (Tryz.prog.info? 112).map (·.size) = some 1 := by kernel_rfl
theorem s112 : scB Tryz.prog 112 = true := by kernel_rfl
theorem i113 : inf Tryz.prog 113 (.nilFunc) 1 8 := by unfold inf; kernel_rfl
theorem m113 : (Tryz.prog.info? 113).map (·.size) = some 1 := by kernel_rfl
theorem s113 : scB Tryz.prog 113 = true := by kernel_rfl
theorem i115 : inf Tryz.prog 115 (.nilFunc) 1 8 := by unfold inf; kernel_rfl
theorem m115 : (Tryz.prog.info? 115).map (·.size) = some 1 := by kernel_rfl
theorem s115 : scB Tryz.prog 115 = true := by kernel_rfl
theorem i116 : inf Tryz.prog 116 (.pointer none) 1 8 := by unfold inf; kernel_rfl
theorem m116 : (Tryz.prog.info? 116).map (·.size) = some 1 := by kernel_rfl
theorem u116 : Tryz.prog.underlying 116 = some (.pointer 118) := Tryz.underlying116
theorem s116 : scB Tryz.prog 116 = true := by kernel_rfl
theorem i117 : inf Tryz.prog 117 (.agg #[.slice none 0 0, .slice none 0 0, .slice none 0 0, .slice none 0 0, .slice none 0 0, .slice none 0 0, .int .i64 0]) 7 152 := by unfold inf; kernel_rfl
theorem m117 : (Tryz.prog.info? 117).map (·.size) = some 7 := by kernel_rfl
theorem ag_117 : agB Tryz.prog 117 7 = true := by kernel_rfl
theorem f117_0 : faB Tryz.prog 117 0 0 = true := by kernel_rfl
theorem f117_1 : faB Tryz.prog 117 1 1 = true := by kernel_rfl
theorem f117_2 : faB Tryz.prog 117 2 2 = true := by kernel_rfl
theorem f117_3 : faB Tryz.prog 117 3 3 = true := by kernel_rfl
theorem f117_4 : faB Tryz.prog 117 4 4 = true := by kernel_rfl
theorem f117_5 : faB Tryz.prog 117 5 5 = true := by kernel_rfl
theorem f117_6 : faB Tryz.prog 117 6 6 = true := by kernel_rfl
theorem i118 : inf Tryz.prog 118 (.agg #[.slice none 0 0, .slice none 0 0, .slice none 0 0, .slice none 0 0, .slice none 0 0, .slice none 0 0, .int .i64 0]) 7 152 := by unfold inf; kernel_rfl
theorem m118 : (Tryz.prog.info? 118).map (·.size) = some 7 := by kernel_rfl
theorem ag_118 : agB Tryz.prog 118 7 = true := by kernel_rfl
theorem f118_0 : faB Tryz.prog 118 0 0 = true := by kernel_rfl
theorem f118_1 : faB Tryz.prog 118 1 1 = true := by kernel_rfl
theorem f118_2 : faB Tryz.prog 118 2 2 = true := by kernel_rfl
theorem f118_3 : faB Tryz.prog 118 3 3 = true := by kernel_rfl
theorem f118_4 : faB Tryz.prog 118 4 4 = true := by kernel_rfl
theorem f118_5 : faB Tryz.prog 118 5 5 = true := by kernel_rfl
theorem f118_6 : faB Tryz.prog 118 6 6 = true := by kernel_rfl
theorem i119 : inf Tryz.prog 119 (.nilFunc) 1 8 := by unfold inf; kernel_rfl
theorem m119 : (Tryz.prog.info? 119).map (·.size) = some 1 := by kernel_rfl
theorem s119 : scB Tryz.prog 119 = true := by kernel_rfl
theorem i120 : inf Tryz.prog 120 (.nilFunc) 1 8 := by unfold inf; kernel_rfl
theorem m120 : (Tryz.prog.info? 120).map (·.size) = some 1 := by kernel_rfl
theorem s120 : scB Tryz.prog 120 = true := by kernel_rfl
theorem i121 : inf Tryz.prog 121 (.agg #[.pointer none]) 1 8 := by unfold inf; kernel_rfl
theorem m121 : (Tryz.prog.info? 121).map (·.size) = some 1 := by kernel_rfl
theorem ag_121 : agB Tryz.prog 121 1 = true := by kernel_rfl
theorem f121_0 : faB Tryz.prog 121 0 0 = true := by kernel_rfl
theorem i122 : inf Tryz.prog 122 (.agg #[.pointer none]) 1 8 := by unfold inf; kernel_rfl
theorem m122 : (Tryz.prog.info? 122).map (·.size) = some 1 := by kernel_rfl
theorem ag_122 : agB Tryz.prog 122 1 = true := by kernel_rfl
theorem f122_0 : faB Tryz.prog 122 0 0 = true := by kernel_rfl
theorem i123 : inf Tryz.prog 123 (.pointer none) 1 8 := by unfold inf; kernel_rfl
theorem m123 : (Tryz.prog.info? 123).map (·.size) = some 1 := by kernel_rfl
theorem u123 : Tryz.prog.underlying 123 = some (.pointer 194) := Tryz.underlying123
theorem s123 : scB Tryz.prog 123 = true := by kernel_rfl
theorem i124 : inf Tryz.prog 124 (.nilFunc) 1 8 := by unfold inf; kernel_rfl
theorem m124 : (Tryz.prog.info? 124).map (·.size) = some 1 := by kernel_rfl
theorem s124 : scB Tryz.prog 124 = true := by kernel_rfl
theorem i125 : inf Tryz.prog 125 (.nilFunc) 1 8 := by unfold inf; kernel_rfl
theorem m125 : (Tryz.prog.info? 125).map (·.size) = some 1 := by kernel_rfl
theorem s125 : scB Tryz.prog 125 = true := by kernel_rfl
theorem i126 : inf Tryz.prog 126 (.nilFunc) 1 8 := by unfold inf; kernel_rfl
theorem m126 : (Tryz.prog.info? 126).map (·.size) = some 1 := by kernel_rfl
theorem s126 : scB Tryz.prog 126 = true := by kernel_rfl
theorem i127 : inf Tryz.prog 127 (.nilIface) 1 16 := by unfold inf; kernel_rfl
theorem m127 : (Tryz.prog.info? 127).map (·.size) = some 1 := by kernel_rfl
theorem s127 : scB Tryz.prog 127 = true := by kernel_rfl
theorem i129 : inf Tryz.prog 129 (.nilFunc) 1 8 := by unfold inf; kernel_rfl
theorem m129 : (Tryz.prog.info? 129).map (·.size) = some 1 := by kernel_rfl
theorem s129 : scB Tryz.prog 129 = true := by kernel_rfl
theorem i130 : inf Tryz.prog 130 (.nilIface) 1 16 := by unfold inf; kernel_rfl
theorem m130 : (Tryz.prog.info? 130).map (·.size) = some 1 := by kernel_rfl
theorem s130 : scB Tryz.prog 130 = true := by kernel_rfl
theorem i131 : inf Tryz.prog 131 (.nilFunc) 1 8 := by unfold inf; kernel_rfl
theorem m131 : (Tryz.prog.info? 131).map (·.size) = some 1 := by kernel_rfl
theorem s131 : scB Tryz.prog 131 = true := by kernel_rfl
theorem i132 : inf Tryz.prog 132 (.nilIface) 1 16 := by unfold inf; kernel_rfl
theorem m132 : (Tryz.prog.info? 132).map (·.size) = some 1 := by kernel_rfl
theorem s132 : scB Tryz.prog 132 = true := by kernel_rfl
theorem i133 : inf Tryz.prog 133 (.slice none 0 0) 1 24 := by unfold inf; kernel_rfl
theorem m133 : (Tryz.prog.info? 133).map (·.size) = some 1 := by kernel_rfl
theorem u133 : Tryz.prog.underlying 133 = some (.slice 29) := Tryz.underlying133
theorem s133 : scB Tryz.prog 133 = true := by kernel_rfl
theorem i134 : inf Tryz.prog 134 (.nilFunc) 1 8 := by unfold inf; kernel_rfl
theorem m134 : (Tryz.prog.info? 134).map (·.size) = some 1 := by kernel_rfl
theorem s134 : scB Tryz.prog 134 = true := by kernel_rfl
theorem i136 : inf Tryz.prog 136 (.nilFunc) 1 8 := by unfold inf; kernel_rfl
theorem m136 : (Tryz.prog.info? 136).map (·.size) = some 1 := by kernel_rfl
theorem s136 : scB Tryz.prog 136 = true := by kernel_rfl
theorem i137 : inf Tryz.prog 137 (.nilFunc) 1 8 := by unfold inf; kernel_rfl
theorem m137 : (Tryz.prog.info? 137).map (·.size) = some 1 := by kernel_rfl
theorem s137 : scB Tryz.prog 137 = true := by kernel_rfl
theorem i138 : inf Tryz.prog 138 (.nilFunc) 1 8 := by unfold inf; kernel_rfl
theorem m138 : (Tryz.prog.info? 138).map (·.size) = some 1 := by kernel_rfl
theorem s138 : scB Tryz.prog 138 = true := by kernel_rfl
theorem i139 : inf Tryz.prog 139 (.nilFunc) 1 8 := by unfold inf; kernel_rfl
theorem m139 : (Tryz.prog.info? 139).map (·.size) = some 1 := by kernel_rfl
theorem s139 : scB Tryz.prog 139 = true := by kernel_rfl
theorem i140 : inf Tryz.prog 140 (.nilFunc) 1 8 := by unfold inf; kernel_rfl
theorem m140 : (Tryz.prog.info? 140).map (·.size) = some 1 := by kernel_rfl
theorem s140 : scB Tryz.prog 140 = true := by kernel_rfl
theorem i141 : inf Tryz.prog 141 (.int .i64 0) 1 8 := by unfold inf; kernel_rfl
theorem m141 : (Tryz.prog.info? 141).map (·.size) = some 1 := by kernel_rfl
theorem u141 : Tryz.prog.underlying 141 = some (.int .i64) := Tryz.underlying141
theorem s141 : scB Tryz.prog 141 = true := by kernel_rfl
theorem i143 : inf Tryz.prog 143 (.nilFunc) 1 8 := by unfold inf; kernel_rfl
theorem m143 : (Tryz.prog.info? 143).map (·.size) = some 1 := by kernel_rfl
theorem s143 : scB Tryz.prog 143 = true := by kernel_rfl
theorem i144 : inf Tryz.prog 144 (.nilFunc) 1 8 := by unfold inf; kernel_rfl
theorem m144 : (Tryz.prog.info? 144).map (·.size) = some 1 := by kernel_rfl
theorem s144 : scB Tryz.prog 144 = true := by kernel_rfl
theorem i145 : inf Tryz.prog 145 (.nilFunc) 1 8 := by unfold inf; kernel_rfl
theorem m145 : (Tryz.prog.info? 145).map (·.size) = some 1 := by kernel_rfl
theorem s145 : scB Tryz.prog 145 = true := by kernel_rfl
theorem i146 : inf Tryz.prog 146 (.nilFunc) 1 8 := by unfold inf; kernel_rfl
theorem m146 : (Tryz.prog.info? 146).map (·.size) = some 1 := by kernel_rfl
theorem s146 : scB Tryz.prog 146 = true := by kernel_rfl
theorem i148 : inf Tryz.prog 148 (.nilFunc) 1 8 := by unfold inf; kernel_rfl
theorem m148 : (Tryz.prog.info? 148).map (·.size) = some 1 := by kernel_rfl
theorem s148 : scB Tryz.prog 148 = true := by kernel_rfl
theorem i149 : inf Tryz.prog 149 (.nilFunc) 1 8 := by unfold inf; kernel_rfl
theorem m149 : (Tryz.prog.info? 149).map (·.size) = some 1 := by kernel_rfl
theorem s149 : scB Tryz.prog 149 = true := by kernel_rfl
theorem i150 : inf Tryz.prog 150 (.int .u32 0) 1 4 := by unfold inf; kernel_rfl
theorem m150 : (Tryz.prog.info? 150).map (·.size) = some 1 := by kernel_rfl
theorem u150 : Tryz.prog.underlying 150 = some (.int .u32) := Tryz.underlying150
theorem s150 : scB Tryz.prog 150 = true := by kernel_rfl
theorem i151 : inf Tryz.prog 151 (.nilFunc) 1 8 := by unfold inf; kernel_rfl
theorem m151 : (Tryz.prog.info? 151).map (·.size) = some 1 := by kernel_rfl
theorem s151 : scB Tryz.prog 151 = true := by kernel_rfl
theorem i152 : inf Tryz.prog 152 (.int .u64 0) 1 8 := by unfold inf; kernel_rfl
theorem m152 : (Tryz.prog.info? 152).map (·.size) = some 1 := by kernel_rfl
theorem u152 : Tryz.prog.underlying 152 = some (.int .u64) := Tryz.underlying152
theorem s152 : scB Tryz.prog 152 = true := by kernel_rfl
theorem i153 : inf Tryz.prog 153 (.nilFunc) 1 8 := by unfold inf; kernel_rfl
theorem m153 : (Tryz.prog.info? 153).map (·.size) = some 1 := by kernel_rfl
theorem s153 : scB Tryz.prog 153 = true := by kernel_rfl
theorem i154 : inf Tryz.prog 154 (.nilFunc) 1 8 := by unfold inf; kernel_rfl
theorem m154 : (Tryz.prog.info? 154).map (·.size) = some 1 := by kernel_rfl
theorem s154 : scB Tryz.prog 154 = true := by kernel_rfl
theorem i155 : inf Tryz.prog 155 (.nilFunc) 1 8 := by unfold inf; kernel_rfl
theorem m155 : (Tryz.prog.info? 155).map (·.size) = some 1 := by kernel_rfl
theorem s155 : scB Tryz.prog 155 = true := by kernel_rfl
theorem i156 : inf Tryz.prog 156 (.nilFunc) 1 8 := by unfold inf; kernel_rfl
theorem m156 : (Tryz.prog.info? 156).map (·.size) = some 1 := by kernel_rfl
theorem s156 : scB Tryz.prog 156 = true := by kernel_rfl
theorem i157 : inf Tryz.prog 157 (.nilFunc) 1 8 := by unfold inf; kernel_rfl
theorem m157 : (Tryz.prog.info? 157).map (·.size) = some 1 := by kernel_rfl
theorem s157 : scB Tryz.prog 157 = true := by kernel_rfl
theorem i158 : inf Tryz.prog 158 (.nilFunc) 1 8 := by unfold inf; kernel_rfl
theorem m158 : (Tryz.prog.info? 158).map (·.size) = some 1 := by kernel_rfl
theorem s158 : scB Tryz.prog 158 = true := by kernel_rfl
theorem i159 : inf Tryz.prog 159 (.nilFunc) 1 8 := by unfold inf; kernel_rfl
theorem m159 : (Tryz.prog.info? 159).map (·.size) = some 1 := by kernel_rfl
theorem s159 : scB Tryz.prog 159 = true := by kernel_rfl
theorem i160 : inf Tryz.prog 160 (.nilFunc) 1 8 := by unfold inf; kernel_rfl
theorem m160 : (Tryz.prog.info? 160).map (·.size) = some 1 := by kernel_rfl
theorem s160 : scB Tryz.prog 160 = true := by kernel_rfl
theorem i162 : inf Tryz.prog 162 (.nilFunc) 1 8 := by unfold inf; kernel_rfl
theorem m162 : (Tryz.prog.info? 162).map (·.size) = some 1 := by kernel_rfl
theorem s162 : scB Tryz.prog 162 = true := by kernel_rfl
theorem i163 : inf Tryz.prog 163 (.nilFunc) 1 8 := by unfold inf; kernel_rfl
theorem m163 : (Tryz.prog.info? 163).map (·.size) = some 1 := by kernel_rfl
theorem s163 : scB Tryz.prog 163 = true := by kernel_rfl
theorem i164 : inf Tryz.prog 164 (.int .u64 0) 1 8 := by unfold inf; kernel_rfl
theorem m164 : (Tryz.prog.info? 164).map (·.size) = some 1 := by kernel_rfl
theorem u164 : Tryz.prog.underlying 164 = some (.int .u64) := Tryz.underlying164
theorem s164 : scB Tryz.prog 164 = true := by kernel_rfl
theorem i165 : inf Tryz.prog 165 (.nilFunc) 1 8 := by unfold inf; kernel_rfl
theorem m165 : (Tryz.prog.info? 165).map (·.size) = some 1 := by kernel_rfl
theorem s165 : scB Tryz.prog 165 = true := by kernel_rfl
theorem i166 : inf Tryz.prog 166 (.nilFunc) 1 8 := by unfold inf; kernel_rfl
theorem m166 : (Tryz.prog.info? 166).map (·.size) = some 1 := by kernel_rfl
theorem s166 : scB Tryz.prog 166 = true := by kernel_rfl
theorem i167 : inf Tryz.prog 167 (.nilFunc) 1 8 := by unfold inf; kernel_rfl
theorem m167 : (Tryz.prog.info? 167).map (·.size) = some 1 := by kernel_rfl
theorem s167 : scB Tryz.prog 167 = true := by kernel_rfl
theorem i168 : inf Tryz.prog 168 (.pointer none) 1 8 := by unfold inf; kernel_rfl
theorem m168 : (Tryz.prog.info? 168).map (·.size) = some 1 := by kernel_rfl
theorem u168 : Tryz.prog.underlying 168 = some (.pointer 3) := Tryz.underlying168
theorem s168 : scB Tryz.prog 168 = true := by kernel_rfl
theorem i169 : inf Tryz.prog 169 (.nilFunc) 1 8 := by unfold inf; kernel_rfl
theorem m169 : (Tryz.prog.info? 169).map (·.size) = some 1 := by kernel_rfl
theorem s169 : scB Tryz.prog 169 = true := by kernel_rfl
theorem i170 : inf Tryz.prog 170 (.nilFunc) 1 8 := by unfold inf; kernel_rfl
theorem m170 : (Tryz.prog.info? 170).map (·.size) = some 1 := by kernel_rfl
theorem s170 : scB Tryz.prog 170 = true := by kernel_rfl
theorem i171 : inf Tryz.prog 171 (.nilFunc) 1 8 := by unfold inf; kernel_rfl
theorem m171 : (Tryz.prog.info? 171).map (·.size) = some 1 := by kernel_rfl
theorem s171 : scB Tryz.prog 171 = true := by kernel_rfl
theorem i172 : inf Tryz.prog 172 (.nilFunc) 1 8 := by unfold inf; kernel_rfl
theorem m172 : (Tryz.prog.info? 172).map (·.size) = some 1 := by kernel_rfl
theorem s172 : scB Tryz.prog 172 = true := by kernel_rfl
theorem i173 : inf Tryz.prog 173 (.pointer none) 1 8 := by unfold inf; kernel_rfl
theorem m173 : (Tryz.prog.info? 173).map (·.size) = some 1 := by kernel_rfl
theorem u173 : Tryz.prog.underlying 173 = some (.pointer 164) := Tryz.underlying173
theorem s173 : scB Tryz.prog 173 = true := by kernel_rfl
theorem i174 : inf Tryz.prog 174 (.nilFunc) 1 8 := by unfold inf; kernel_rfl
theorem m174 : (Tryz.prog.info? 174).map (·.size) = some 1 := by kernel_rfl
theorem s174 : scB Tryz.prog 174 = true := by kernel_rfl
theorem i175 : inf Tryz.prog 175 (.nilFunc) 1 8 := by unfold inf; kernel_rfl
theorem m175 : (Tryz.prog.info? 175).map (·.size) = some 1 := by kernel_rfl
theorem s175 : scB Tryz.prog 175 = true := by kernel_rfl
theorem i176 : inf Tryz.prog 176 (.nilFunc) 1 8 := by unfold inf; kernel_rfl
theorem m176 : (Tryz.prog.info? 176).map (·.size) = some 1 := by kernel_rfl
theorem s176 : scB Tryz.prog 176 = true := by kernel_rfl
theorem i177 : inf Tryz.prog 177 (.agg #[.pointer none, .pointer none, .pointer none, .string ⟨#[]⟩]) 4 40 := by unfold inf; kernel_rfl
theorem m177 : (Tryz.prog.info? 177).map (·.size) = some 4 := by kernel_rfl
theorem ag_177 : agB Tryz.prog 177 4 = true := by kernel_rfl
theorem f177_0 : faB Tryz.prog 177 0 0 = true := by kernel_rfl
theorem f177_1 : faB Tryz.prog 177 1 1 = true := by kernel_rfl
theorem f177_2 : faB Tryz.prog 177 2 2 = true := by kernel_rfl
theorem f177_3 : faB Tryz.prog 177 3 3 = true := by kernel_rfl
theorem i178 : inf Tryz.prog 178 (.agg #[.pointer none, .pointer none, .pointer none, .string ⟨#[]⟩]) 4 40 := by unfold inf; kernel_rfl
theorem m178 : (Tryz.prog.info? 178).map (·.size) = some 4 := by kernel_rfl
theorem ag_178 : agB Tryz.prog 178 4 = true := by kernel_rfl
theorem f178_0 : faB Tryz.prog 178 0 0 = true := by kernel_rfl
theorem f178_1 : faB Tryz.prog 178 1 1 = true := by kernel_rfl
theorem f178_2 : faB Tryz.prog 178 2 2 = true := by kernel_rfl
theorem f178_3 : faB Tryz.prog 178 3 3 = true := by kernel_rfl
theorem i179 : inf Tryz.prog 179 (.agg #[]) 0 0 := by unfold inf; kernel_rfl
theorem m179 : (Tryz.prog.info? 179).map (·.size) = some 0 := by kernel_rfl
theorem ag_179 : agB Tryz.prog 179 0 = true := by kernel_rfl
theorem i180 : inf Tryz.prog 180 (.agg #[]) 0 0 := by unfold inf; kernel_rfl
theorem m180 : (Tryz.prog.info? 180).map (·.size) = some 0 := by kernel_rfl
theorem ag_180 : agB Tryz.prog 180 0 = true := by kernel_rfl
theorem i181 : inf Tryz.prog 181 (.agg #[]) 0 0 := by unfold inf; kernel_rfl
theorem m181 : (Tryz.prog.info? 181).map (·.size) = some 0 := by kernel_rfl
theorem ag_181 : agB Tryz.prog 181 0 = true := by kernel_rfl
theorem i182 : inf Tryz.prog 182 (.nilFunc) 1 8 := by unfold inf; kernel_rfl
theorem m182 : (Tryz.prog.info? 182).map (·.size) = some 1 := by kernel_rfl
theorem s182 : scB Tryz.prog 182 = true := by kernel_rfl
theorem i183 : inf Tryz.prog 183 (.nilFunc) 1 8 := by unfold inf; kernel_rfl
theorem m183 : (Tryz.prog.info? 183).map (·.size) = some 1 := by kernel_rfl
theorem s183 : scB Tryz.prog 183 = true := by kernel_rfl
theorem i184 : inf Tryz.prog 184 (.int .u8 0) 1 1 := by unfold inf; kernel_rfl
theorem m184 : (Tryz.prog.info? 184).map (·.size) = some 1 := by kernel_rfl
theorem u184 : Tryz.prog.underlying 184 = some (.int .u8) := Tryz.underlying184
theorem s184 : scB Tryz.prog 184 = true := by kernel_rfl
theorem i185 : inf Tryz.prog 185 (.nilFunc) 1 8 := by unfold inf; kernel_rfl
theorem m185 : (Tryz.prog.info? 185).map (·.size) = some 1 := by kernel_rfl
theorem s185 : scB Tryz.prog 185 = true := by kernel_rfl
theorem i186 : inf Tryz.prog 186 (.pointer none) 1 8 := by unfold inf; kernel_rfl
theorem m186 : (Tryz.prog.info? 186).map (·.size) = some 1 := by kernel_rfl
theorem u186 : Tryz.prog.underlying 186 = some (.pointer 5) := Tryz.underlying186
theorem s186 : scB Tryz.prog 186 = true := by kernel_rfl
theorem i187 : inf Tryz.prog 187 (.int .i32 0) 1 4 := by unfold inf; kernel_rfl
theorem m187 : (Tryz.prog.info? 187).map (·.size) = some 1 := by kernel_rfl
theorem u187 : Tryz.prog.underlying 187 = some (.int .i32) := Tryz.underlying187
theorem s187 : scB Tryz.prog 187 = true := by kernel_rfl
theorem i188 : inf Tryz.prog 188 (.int .i32 0) 1 4 := by unfold inf; kernel_rfl
theorem m188 : (Tryz.prog.info? 188).map (·.size) = some 1 := by kernel_rfl
theorem u188 : Tryz.prog.underlying 188 = some (.int .i32) := Tryz.underlying188
theorem s188 : scB Tryz.prog 188 = true := by kernel_rfl
theorem i189 : inf Tryz.prog 189 (.agg #[.int .u64 0, .int .u64 0, .int .u32 0, .int .u8 0, .int .u8 0, .int .u8 0, .int .u8 0, .nilFunc, .pointer none, .int .i32 0, .int .i32 0]) 11 48 := by unfold inf; kernel_rfl
theorem m189 : (Tryz.prog.info? 189).map (·.size) = some 11 := by kernel_rfl
theorem ag_189 : agB Tryz.prog 189 11 = true := by kernel_rfl
theorem f189_0 : faB Tryz.prog 189 0 0 = true := by kernel_rfl
theorem f189_1 : faB Tryz.prog 189 1 1 = true := by kernel_rfl
theorem f189_2 : faB Tryz.prog 189 2 2 = true := by kernel_rfl
theorem f189_3 : faB Tryz.prog 189 3 3 = true := by kernel_rfl
theorem f189_4 : faB Tryz.prog 189 4 4 = true := by kernel_rfl
theorem f189_5 : faB Tryz.prog 189 5 5 = true := by kernel_rfl
theorem f189_6 : faB Tryz.prog 189 6 6 = true := by kernel_rfl
theorem f189_7 : faB Tryz.prog 189 7 7 = true := by kernel_rfl
theorem f189_8 : faB Tryz.prog 189 8 8 = true := by kernel_rfl
theorem f189_9 : faB Tryz.prog 189 9 9 = true := by kernel_rfl
theorem f189_10 : faB Tryz.prog 189 10 10 = true := by kernel_rfl
theorem i190 : inf Tryz.prog 190 (.agg #[.int .u64 0, .int .u64 0, .int .u32 0, .int .u8 0, .int .u8 0, .int .u8 0, .int .u8 0, .nilFunc, .pointer none, .int .i32 0, .int .i32 0]) 11 48 := by unfold inf; kernel_rfl
theorem m190 : (Tryz.prog.info? 190).map (·.size) = some 11 := by kernel_rfl
theorem ag_190 : agB Tryz.prog 190 11 = true := by kernel_rfl
theorem f190_0 : faB Tryz.prog 190 0 0 = true := by kernel_rfl
theorem f190_1 : faB Tryz.prog 190 1 1 = true := by kernel_rfl
theorem f190_2 : faB Tryz.prog 190 2 2 = true := by kernel_rfl
theorem f190_3 : faB Tryz.prog 190 3 3 = true := by kernel_rfl
theorem f190_4 : faB Tryz.prog 190 4 4 = true := by kernel_rfl
theorem f190_5 : faB Tryz.prog 190 5 5 = true := by kernel_rfl
theorem f190_6 : faB Tryz.prog 190 6 6 = true := by kernel_rfl
theorem f190_7 : faB Tryz.prog 190 7 7 = true := by kernel_rfl
theorem f190_8 : faB Tryz.prog 190 8 8 = true := by kernel_rfl
theorem f190_9 : faB Tryz.prog 190 9 9 = true := by kernel_rfl
theorem f190_10 : faB Tryz.prog 190 10 10 = true := by kernel_rfl
theorem i191 : inf Tryz.prog 191 (.nilFunc) 1 8 := by unfold inf; kernel_rfl
theorem m191 : (Tryz.prog.info? 191).map (·.size) = some 1 := by kernel_rfl
theorem s191 : scB Tryz.prog 191 = true := by kernel_rfl
theorem i192 : inf Tryz.prog 192 (.nilFunc) 1 8 := by unfold inf; kernel_rfl
theorem m192 : (Tryz.prog.info? 192).map (·.size) = some 1 := by kernel_rfl
theorem s192 : scB Tryz.prog 192 = true := by kernel_rfl
theorem i193 : inf Tryz.prog 193 (.agg #[.string ⟨#[]⟩, .int .u8 0]) 2 24 := by unfold inf; kernel_rfl
theorem m193 : (Tryz.prog.info? 193).map (·.size) = some 2 := by kernel_rfl
theorem ag_193 : agB Tryz.prog 193 2 = true := by kernel_rfl
theorem f193_0 : faB Tryz.prog 193 0 0 = true := by kernel_rfl
theorem f193_1 : faB Tryz.prog 193 1 1 = true := by kernel_rfl
theorem i194 : inf Tryz.prog 194 (.agg #[.string ⟨#[]⟩, .int .u8 0]) 2 24 := by unfold inf; kernel_rfl
theorem m194 : (Tryz.prog.info? 194).map (·.size) = some 2 := by kernel_rfl
theorem ag_194 : agB Tryz.prog 194 2 = true := by kernel_rfl
theorem f194_0 : faB Tryz.prog 194 0 0 = true := by kernel_rfl
theorem f194_1 : faB Tryz.prog 194 1 1 = true := by kernel_rfl
theorem i195 : inf Tryz.prog 195 (.pointer none) 1 8 := by unfold inf; kernel_rfl
theorem m195 : (Tryz.prog.info? 195).map (·.size) = some 1 := by kernel_rfl
theorem u195 : Tryz.prog.underlying 195 = some (.pointer 199) := Tryz.underlying195
theorem s195 : scB Tryz.prog 195 = true := by kernel_rfl
theorem i196 : inf Tryz.prog 196 (.nilFunc) 1 8 := by unfold inf; kernel_rfl
theorem m196 : (Tryz.prog.info? 196).map (·.size) = some 1 := by kernel_rfl
theorem s196 : scB Tryz.prog 196 = true := by kernel_rfl
theorem i197 : inf Tryz.prog 197 (.int .u16 0) 1 2 := by unfold inf; kernel_rfl
theorem m197 : (Tryz.prog.info? 197).map (·.size) = some 1 := by kernel_rfl
theorem u197 : Tryz.prog.underlying 197 = some (.int .u16) := Tryz.underlying197
theorem s197 : scB Tryz.prog 197 = true := by kernel_rfl
theorem i198 : inf Tryz.prog 198 (.agg #[.int .i32 0, .int .u16 0, .int .u16 0, .int .u32 0, .int .u32 0]) 5 16 := by unfold inf; kernel_rfl
theorem m198 : (Tryz.prog.info? 198).map (·.size) = some 5 := by kernel_rfl
theorem ag_198 : agB Tryz.prog 198 5 = true := by kernel_rfl
theorem f198_0 : faB Tryz.prog 198 0 0 = true := by kernel_rfl
theorem f198_1 : faB Tryz.prog 198 1 1 = true := by kernel_rfl
theorem f198_2 : faB Tryz.prog 198 2 2 = true := by kernel_rfl
theorem f198_3 : faB Tryz.prog 198 3 3 = true := by kernel_rfl
theorem f198_4 : faB Tryz.prog 198 4 4 = true := by kernel_rfl
theorem i199 : inf Tryz.prog 199 (.agg #[.int .i32 0, .int .u16 0, .int .u16 0, .int .u32 0, .int .u32 0]) 5 16 := by unfold inf; kernel_rfl
theorem m199 : (Tryz.prog.info? 199).map (·.size) = some 5 := by kernel_rfl
theorem ag_199 : agB Tryz.prog 199 5 = true := by kernel_rfl
theorem f199_0 : faB Tryz.prog 199 0 0 = true := by kernel_rfl
theorem f199_1 : faB Tryz.prog 199 1 1 = true := by kernel_rfl
theorem f199_2 : faB Tryz.prog 199 2 2 = true := by kernel_rfl
theorem f199_3 : faB Tryz.prog 199 3 3 = true := by kernel_rfl
theorem f199_4 : faB Tryz.prog 199 4 4 = true := by kernel_rfl
theorem i200 : inf Tryz.prog 200 (.slice none 0 0) 1 24 := by unfold inf; kernel_rfl
theorem m200 : (Tryz.prog.info? 200).map (·.size) = some 1 := by kernel_rfl
theorem u200 : Tryz.prog.underlying 200 = some (.slice 203) := Tryz.underlying200
theorem s200 : scB Tryz.prog 200 = true := by kernel_rfl
theorem i201 : inf Tryz.prog 201 (.int .i32 0) 1 4 := by unfold inf; kernel_rfl
theorem m201 : (Tryz.prog.info? 201).map (·.size) = some 1 := by kernel_rfl
theorem u201 : Tryz.prog.underlying 201 = some (.int .i32) := Tryz.underlying201
theorem s201 : scB Tryz.prog 201 = true := by kernel_rfl
theorem i202 : inf Tryz.prog 202 (.agg #[.int .i32 0, .int .i32 0, .int .i32 0, .int .i32 0]) 4 16 := by unfold inf; kernel_rfl
theorem m202 : (Tryz.prog.info? 202).map (·.size) = some 4 := by kernel_rfl
theorem ag_202 : agB Tryz.prog 202 4 = true := by kernel_rfl
theorem f202_0 : faB Tryz.prog 202 0 0 = true := by kernel_rfl
theorem f202_1 : faB Tryz.prog 202 1 1 = true := by kernel_rfl
theorem f202_2 : faB Tryz.prog 202 2 2 = true := by kernel_rfl
theorem f202_3 : faB Tryz.prog 202 3 3 = true := by kernel_rfl
theorem i203 : inf Tryz.prog 203 (.agg #[.int .i32 0, .int .i32 0, .int .i32 0, .int .i32 0]) 4 16 := by unfold inf; kernel_rfl
theorem m203 : (Tryz.prog.info? 203).map (·.size) = some 4 := by kernel_rfl
theorem ag_203 : agB Tryz.prog 203 4 = true := by kernel_rfl
theorem f203_0 : faB Tryz.prog 203 0 0 = true := by kernel_rfl
theorem f203_1 : faB Tryz.prog 203 1 1 = true := by kernel_rfl
theorem f203_2 : faB Tryz.prog 203 2 2 = true := by kernel_rfl
theorem f203_3 : faB Tryz.prog 203 3 3 = true := by kernel_rfl
theorem i204 : inf Tryz.prog 204 (.pointer none) 1 8 := by unfold inf; kernel_rfl
theorem m204 : (Tryz.prog.info? 204).map (·.size) = some 1 := by kernel_rfl
theorem u204 : Tryz.prog.underlying 204 = some (.pointer 29) := Tryz.underlying204
theorem s204 : scB Tryz.prog 204 = true := by kernel_rfl
theorem c3 : callB Tryz.prog 3 = true := by kernel_rfl
theorem c4 : callB Tryz.prog 4 = true := by kernel_rfl
theorem c5 : callB Tryz.prog 5 = true := by kernel_rfl
theorem c6 : callB Tryz.prog 6 = true := by kernel_rfl
theorem c7 : callB Tryz.prog 7 = true := by kernel_rfl
theorem c8 : callB Tryz.prog 8 = true := by kernel_rfl
theorem c9 : callB Tryz.prog 9 = true := by kernel_rfl
theorem c10 : callB Tryz.prog 10 = true := by kernel_rfl
theorem c11 : callB Tryz.prog 11 = true := by kernel_rfl
theorem c12 : callB Tryz.prog 12 = true := by kernel_rfl
theorem c13 : callB Tryz.prog 13 = true := by kernel_rfl
theorem c14 : callB Tryz.prog 14 = true := by kernel_rfl
theorem c15 : callB Tryz.prog 15 = true := by kernel_rfl
theorem c16 : callB Tryz.prog 16 = true := by kernel_rfl
theorem c17 : callB Tryz.prog 17 = true := by kernel_rfl
theorem c19 : callB Tryz.prog 19 = true := by kernel_rfl
theorem c20 : callB Tryz.prog 20 = true := by kernel_rfl
theorem c21 : callB Tryz.prog 21 = true := by kernel_rfl
theorem c22 : callB Tryz.prog 22 = true := by kernel_rfl
theorem c23 : callB Tryz.prog 23 = true := by kernel_rfl
theorem c24 : callB Tryz.prog 24 = true := by kernel_rfl
theorem c25 : callB Tryz.prog 25 = true := by kernel_rfl
theorem c26 : callB Tryz.prog 26 = true := by kernel_rfl
theorem c27 : callB Tryz.prog 27 = true := by kernel_rfl
theorem c28 : callB Tryz.prog 28 = true := by kernel_rfl
theorem c29 : callB Tryz.prog 29 = true := by kernel_rfl
theorem c30 : callB Tryz.prog 30 = true := by kernel_rfl
theorem c31 : callB Tryz.prog 31 = true := by kernel_rfl
theorem c32 : callB Tryz.prog 32 = true := by kernel_rfl
theorem c33 : callB Tryz.prog 33 = true := by kernel_rfl
theorem c34 : callB Tryz.prog 34 = true := by kernel_rfl
theorem c39 : callB Tryz.prog 39 = true := by kernel_rfl
theorem c40 : callB Tryz.prog 40 = true := by kernel_rfl
theorem c41 : callB Tryz.prog 41 = true := by kernel_rfl
theorem c42 : callB Tryz.prog 42 = true := by kernel_rfl
theorem c43 : callB Tryz.prog 43 = true := by kernel_rfl
theorem c44 : callB Tryz.prog 44 = true := by kernel_rfl
theorem c45 : callB Tryz.prog 45 = true := by kernel_rfl
theorem c46 : callB Tryz.prog 46 = true := by kernel_rfl
theorem c47 : callB Tryz.prog 47 = true := by kernel_rfl
theorem c48 : callB Tryz.prog 48 = true := by kernel_rfl
theorem c49 : callB Tryz.prog 49 = true := by kernel_rfl
theorem c50 : callB Tryz.prog 50 = true := by kernel_rfl
theorem c51 : callB Tryz.prog 51 = true := by kernel_rfl
theorem c52 : callB Tryz.prog 52 = true := by kernel_rfl
theorem c53 : callB Tryz.prog 53 = true := by kernel_rfl
theorem c54 : callB Tryz.prog 54 = true := by kernel_rfl
theorem c55 : callB Tryz.prog 55 = true := by kernel_rfl
theorem c56 : callB Tryz.prog 56 = true := by kernel_rfl
theorem c57 : callB Tryz.prog 57 = true := by kernel_rfl
theorem c58 : callB Tryz.prog 58 = true := by kernel_rfl
theorem c59 : callB Tryz.prog 59 = true := by kernel_rfl
theorem c60 : callB Tryz.prog 60 = true := by kernel_rfl
theorem c61 : callB Tryz.prog 61 = true := by kernel_rfl
theorem c65 : callB Tryz.prog 65 = true := by kernel_rfl
theorem c66 : callB Tryz.prog 66 = true := by kernel_rfl
theorem c67 : callB Tryz.prog 67 = true := by kernel_rfl
theorem c68 : callB Tryz.prog 68 = true := by kernel_rfl
theorem c69 : callB Tryz.prog 69 = true := by kernel_rfl
theorem c70 : callB Tryz.prog 70 = true := by kernel_rfl
theorem c71 : callB Tryz.prog 71 = true := by kernel_rfl
theorem c72 : callB Tryz.prog 72 = true := by kernel_rfl
theorem c73 : callB Tryz.prog 73 = true := by kernel_rfl
theorem c74 : callB Tryz.prog 74 = true := by kernel_rfl
theorem c75 : callB Tryz.prog 75 = true := by kernel_rfl
theorem c76 : callB Tryz.prog 76 = true := by kernel_rfl
theorem c77 : callB Tryz.prog 77 = true := by kernel_rfl
theorem c78 : callB Tryz.prog 78 = true := by kernel_rfl
theorem c79 : callB Tryz.prog 79 = true := by kernel_rfl
theorem c80 : callB Tryz.prog 80 = true := by kernel_rfl
theorem c81 : callB Tryz.prog 81 = true := by kernel_rfl
theorem c82 : callB Tryz.prog 82 = true := by kernel_rfl
theorem c83 : callB Tryz.prog 83 = true := by kernel_rfl
theorem c84 : callB Tryz.prog 84 = true := by kernel_rfl
theorem c85 : callB Tryz.prog 85 = true := by kernel_rfl
theorem c86 : callB Tryz.prog 86 = true := by kernel_rfl
theorem c87 : callB Tryz.prog 87 = true := by kernel_rfl
theorem c88 : callB Tryz.prog 88 = true := by kernel_rfl
theorem c89 : callB Tryz.prog 89 = true := by kernel_rfl
theorem c90 : callB Tryz.prog 90 = true := by kernel_rfl
theorem c91 : callB Tryz.prog 91 = true := by kernel_rfl
theorem c92 : callB Tryz.prog 92 = true := by kernel_rfl
theorem c93 : callB Tryz.prog 93 = true := by kernel_rfl
theorem c94 : callB Tryz.prog 94 = true := by kernel_rfl
theorem c95 : callB Tryz.prog 95 = true := by kernel_rfl
theorem c96 : callB Tryz.prog 96 = true := by kernel_rfl
theorem c97 : callB Tryz.prog 97 = true := by kernel_rfl
theorem c98 : callB Tryz.prog 98 = true := by kernel_rfl
theorem c99 : callB Tryz.prog 99 = true := by kernel_rfl
theorem c100 : callB Tryz.prog 100 = true := by kernel_rfl
theorem c101 : callB Tryz.prog 101 = true := by kernel_rfl
theorem c102 : callB Tryz.prog 102 = true := by kernel_rfl
theorem c103 : callB Tryz.prog 103 = true := by kernel_rfl
theorem c104 : callB Tryz.prog 104 = true := by kernel_rfl
theorem c105 : callB Tryz.prog 105 = true := by kernel_rfl
theorem c106 : callB Tryz.prog 106 = true := by kernel_rfl
theorem c107 : callB Tryz.prog 107 = true := by kernel_rfl
theorem c108 : callB Tryz.prog 108 = true := by kernel_rfl
theorem c109 : callB Tryz.prog 109 = true := by kernel_rfl
theorem c110 : callB Tryz.prog 110 = true := by kernel_rfl
theorem c111 : callB Tryz.prog 111 = true := by kernel_rfl
theorem c112 : callB Tryz.prog 112 = true := by kernel_rfl
theorem c113 : callB Tryz.prog 113 = true := by kernel_rfl
theorem c114 : callB Tryz.prog 114 = true := by kernel_rfl
theorem mix : Tryz.prog.follows .mixedOrders = true := by kernel_rfl
end Go.Proofs.YtpomfbdbkejedaaGreatDoor
