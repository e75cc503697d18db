/- Facts on the translation's types, fields and functions. No conditions. -/
import Derived.Test.YtoflleabpkgdpaaTy
import Derived.Test.YtoflleabpkgdpaaProg
set_option linter.unusedVariables false
set_option linter.unusedSimpArgs false
namespace Go.Proofs.Ytoflleabpkgdpaa
open Go Go.Proofs
theorem inf_1 : inf Try.prog 1 (.nilFunc) 1 8 := by unfold inf; kernel_rfl
theorem ms_1 : (Try.prog.info? 1).map (·.size) = some 1 := by kernel_rfl
theorem sc_1 : scB Try.prog 1 = true := by kernel_rfl
theorem inf_2 : inf Try.prog 2 (.int .i64 0) 1 8 := by unfold inf; kernel_rfl
theorem ms_2 : (Try.prog.info? 2).map (·.size) = some 1 := by kernel_rfl
theorem sc_2 : scB Try.prog 2 = true := by kernel_rfl
theorem inf_3 : inf Try.prog 3 (.int .i64 0) 1 8 := by unfold inf; kernel_rfl
theorem ms_3 : (Try.prog.info? 3).map (·.size) = some 1 := by kernel_rfl
theorem sc_3 : scB Try.prog 3 = true := by kernel_rfl
theorem inf_4 : inf Try.prog 4 (.bool false) 1 1 := by unfold inf; kernel_rfl
theorem ms_4 : (Try.prog.info? 4).map (·.size) = some 1 := by kernel_rfl
theorem sc_4 : scB Try.prog 4 = true := by kernel_rfl
theorem inf_5 : inf Try.prog 5 (.int .u8 0) 1 1 := by unfold inf; kernel_rfl
theorem ms_5 : (Try.prog.info? 5).map (·.size) = some 1 := by kernel_rfl
theorem sc_5 : scB Try.prog 5 = true := by kernel_rfl
theorem inf_6 : inf Try.prog 6 (.int .u8 0) 1 1 := by unfold inf; kernel_rfl
theorem ms_6 : (Try.prog.info? 6).map (·.size) = some 1 := by kernel_rfl
theorem sc_6 : scB Try.prog 6 = true := by kernel_rfl
theorem inf_7 : inf Try.prog 7 (.agg #[.int .i64 0, .int .i64 0, .bool false, .int .u8 0]) 4 24 := by unfold inf; kernel_rfl
theorem ms_7 : (Try.prog.info? 7).map (·.size) = some 4 := by kernel_rfl
theorem ag_7 : agB Try.prog 7 4 = true := by kernel_rfl
theorem fa_7_0 : faB Try.prog 7 0 0 = true := by kernel_rfl
theorem fa_7_1 : faB Try.prog 7 1 1 = true := by kernel_rfl
theorem fa_7_2 : faB Try.prog 7 2 2 = true := by kernel_rfl
theorem fa_7_3 : faB Try.prog 7 3 3 = true := by kernel_rfl
theorem inf_8 : inf Try.prog 8 (.agg #[.int .i64 0, .int .i64 0, .bool false, .int .u8 0]) 4 24 := by unfold inf; kernel_rfl
theorem ms_8 : (Try.prog.info? 8).map (·.size) = some 4 := by kernel_rfl
theorem ag_8 : agB Try.prog 8 4 = true := by kernel_rfl
theorem fa_8_0 : faB Try.prog 8 0 0 = true := by kernel_rfl
theorem fa_8_1 : faB Try.prog 8 1 1 = true := by kernel_rfl
theorem fa_8_2 : faB Try.prog 8 2 2 = true := by kernel_rfl
theorem fa_8_3 : faB Try.prog 8 3 3 = true := by kernel_rfl
theorem inf_12 : inf Try.prog 12 (.int .u64 0) 1 8 := by unfold inf; kernel_rfl
theorem ms_12 : (Try.prog.info? 12).map (·.size) = some 1 := by kernel_rfl
theorem sc_12 : scB Try.prog 12 = true := by kernel_rfl
theorem inf_13 : inf Try.prog 13 (.agg #[.string ⟨#[]⟩, .int .u64 0]) 2 24 := by unfold inf; kernel_rfl
theorem ms_13 : (Try.prog.info? 13).map (·.size) = some 2 := by kernel_rfl
theorem ag_13 : agB Try.prog 13 2 = true := by kernel_rfl
theorem fa_13_0 : faB Try.prog 13 0 0 = true := by kernel_rfl
theorem fa_13_1 : faB Try.prog 13 1 1 = true := by kernel_rfl
theorem inf_14 : inf Try.prog 14 (.agg #[.string ⟨#[]⟩, .int .u64 0]) 2 24 := by unfold inf; kernel_rfl
theorem ms_14 : (Try.prog.info? 14).map (·.size) = some 2 := by kernel_rfl
theorem ag_14 : agB Try.prog 14 2 = true := by kernel_rfl
theorem fa_14_0 : faB Try.prog 14 0 0 = true := by kernel_rfl
theorem fa_14_1 : faB Try.prog 14 1 1 = true := by kernel_rfl
theorem inf_15 : inf Try.prog 15 (.pointer none) 1 8 := by unfold inf; kernel_rfl
theorem ms_15 : (Try.prog.info? 15).map (·.size) = some 1 := by kernel_rfl
theorem sc_15 : scB Try.prog 15 = true := by kernel_rfl
theorem inf_16 : inf Try.prog 16 (.pointer none) 1 8 := by unfold inf; kernel_rfl
theorem ms_16 : (Try.prog.info? 16).map (·.size) = some 1 := by kernel_rfl
theorem sc_16 : scB Try.prog 16 = true := by kernel_rfl
theorem inf_17 : inf Try.prog 17 (.pointer none) 1 8 := by unfold inf; kernel_rfl
theorem ms_17 : (Try.prog.info? 17).map (·.size) = some 1 := by kernel_rfl
theorem sc_17 : scB Try.prog 17 = true := by kernel_rfl
theorem inf_18 : inf Try.prog 18 (.agg #[.pointer none]) 1 8 := by unfold inf; kernel_rfl
theorem ms_18 : (Try.prog.info? 18).map (·.size) = some 1 := by kernel_rfl
theorem ag_18 : agB Try.prog 18 1 = true := by kernel_rfl
theorem fa_18_0 : faB Try.prog 18 0 0 = true := by kernel_rfl
theorem inf_19 : inf Try.prog 19 (.agg #[.pointer none]) 1 8 := by unfold inf; kernel_rfl
theorem ms_19 : (Try.prog.info? 19).map (·.size) = some 1 := by kernel_rfl
theorem ag_19 : agB Try.prog 19 1 = true := by kernel_rfl
theorem fa_19_0 : faB Try.prog 19 0 0 = true := by kernel_rfl
theorem inf_20 : inf Try.prog 20 (.nilIface) 1 16 := by unfold inf; kernel_rfl
theorem ms_20 : (Try.prog.info? 20).map (·.size) = some 1 := by kernel_rfl
theorem sc_20 : scB Try.prog 20 = true := by kernel_rfl
theorem inf_21 : inf Try.prog 21 (.int .i32 0) 1 4 := by unfold inf; kernel_rfl
theorem ms_21 : (Try.prog.info? 21).map (·.size) = some 1 := by kernel_rfl
theorem sc_21 : scB Try.prog 21 = true := by kernel_rfl
theorem inf_22 : inf Try.prog 22 (.slice none 0 0) 1 24 := by unfold inf; kernel_rfl
theorem ms_22 : (Try.prog.info? 22).map (·.size) = some 1 := by kernel_rfl
theorem sc_22 : scB Try.prog 22 = true := by kernel_rfl
theorem inf_23 : inf Try.prog 23 (.slice none 0 0) 1 24 := by unfold inf; kernel_rfl
theorem ms_23 : (Try.prog.info? 23).map (·.size) = some 1 := by kernel_rfl
theorem sc_23 : scB Try.prog 23 = true := by kernel_rfl
theorem inf_24 : inf Try.prog 24 (.agg #[.int .i64 0, .int .i64 0, .slice none 0 0, .slice none 0 0]) 4 64 := by unfold inf; kernel_rfl
theorem ms_24 : (Try.prog.info? 24).map (·.size) = some 4 := by kernel_rfl
theorem ag_24 : agB Try.prog 24 4 = true := by kernel_rfl
theorem fa_24_0 : faB Try.prog 24 0 0 = true := by kernel_rfl
theorem fa_24_1 : faB Try.prog 24 1 1 = true := by kernel_rfl
theorem fa_24_2 : faB Try.prog 24 2 2 = true := by kernel_rfl
theorem fa_24_3 : faB Try.prog 24 3 3 = true := by kernel_rfl
theorem inf_25 : inf Try.prog 25 (.agg #[.int .i64 0, .int .i64 0, .slice none 0 0, .slice none 0 0]) 4 64 := by unfold inf; kernel_rfl
theorem ms_25 : (Try.prog.info? 25).map (·.size) = some 4 := by kernel_rfl
theorem ag_25 : agB Try.prog 25 4 = true := by kernel_rfl
theorem fa_25_0 : faB Try.prog 25 0 0 = true := by kernel_rfl
theorem fa_25_1 : faB Try.prog 25 1 1 = true := by kernel_rfl
theorem fa_25_2 : faB Try.prog 25 2 2 = true := by kernel_rfl
theorem fa_25_3 : faB Try.prog 25 3 3 = true := by kernel_rfl
theorem inf_26 : inf Try.prog 26 (.nilFunc) 1 8 := by unfold inf; kernel_rfl
theorem ms_26 : (Try.prog.info? 26).map (·.size) = some 1 := by kernel_rfl
theorem sc_26 : scB Try.prog 26 = true := by kernel_rfl
theorem inf_27 : inf Try.prog 27 (.nilFunc) 1 8 := by unfold inf; kernel_rfl
theorem ms_27 : (Try.prog.info? 27).map (·.size) = some 1 := by kernel_rfl
theorem sc_27 : scB Try.prog 27 = true := by kernel_rfl
theorem inf_28 : inf Try.prog 28 (.slice none 0 0) 1 24 := by unfold inf; kernel_rfl
theorem ms_28 : (Try.prog.info? 28).map (·.size) = some 1 := by kernel_rfl
theorem sc_28 : scB Try.prog 28 = true := by kernel_rfl
theorem inf_29 : inf Try.prog 29 (.nilFunc) 1 8 := by unfold inf; kernel_rfl
theorem ms_29 : (Try.prog.info? 29).map (·.size) = some 1 := by kernel_rfl
theorem sc_29 : scB Try.prog 29 = true := by kernel_rfl
theorem inf_30 : inf Try.prog 30 (.slice none 0 0) 1 24 := by unfold inf; kernel_rfl
theorem ms_30 : (Try.prog.info? 30).map (·.size) = some 1 := by kernel_rfl
theorem sc_30 : scB Try.prog 30 = true := by kernel_rfl
theorem inf_31 : inf Try.prog 31 (.nilFunc) 1 8 := by unfold inf; kernel_rfl
theorem ms_31 : (Try.prog.info? 31).map (·.size) = some 1 := by kernel_rfl
theorem sc_31 : scB Try.prog 31 = true := by kernel_rfl
theorem inf_32 : inf Try.prog 32 (.nilFunc) 1 8 := by unfold inf; kernel_rfl
theorem ms_32 : (Try.prog.info? 32).map (·.size) = some 1 := by kernel_rfl
theorem sc_32 : scB Try.prog 32 = true := by kernel_rfl
theorem inf_33 : inf Try.prog 33 (.nilFunc) 1 8 := by unfold inf; kernel_rfl
theorem ms_33 : (Try.prog.info? 33).map (·.size) = some 1 := by kernel_rfl
theorem sc_33 : scB Try.prog 33 = true := by kernel_rfl
theorem inf_34 : inf Try.prog 34 (.nilFunc) 1 8 := by unfold inf; kernel_rfl
theorem ms_34 : (Try.prog.info? 34).map (·.size) = some 1 := by kernel_rfl
theorem sc_34 : scB Try.prog 34 = true := by kernel_rfl
theorem inf_35 : inf Try.prog 35 (.nilFunc) 1 8 := by unfold inf; kernel_rfl
theorem ms_35 : (Try.prog.info? 35).map (·.size) = some 1 := by kernel_rfl
theorem sc_35 : scB Try.prog 35 = true := by kernel_rfl
theorem inf_36 : inf Try.prog 36 (.slice none 0 0) 1 24 := by unfold inf; kernel_rfl
theorem ms_36 : (Try.prog.info? 36).map (·.size) = some 1 := by kernel_rfl
theorem sc_36 : scB Try.prog 36 = true := by kernel_rfl
theorem inf_37 : inf Try.prog 37 (.pointer none) 1 8 := by unfold inf; kernel_rfl
theorem ms_37 : (Try.prog.info? 37).map (·.size) = some 1 := by kernel_rfl
theorem pn_37 : Try.prog.underlying 37 = some (.pointer (Try.prog.pointee 37)) := by kernel_rfl
theorem sc_37 : scB Try.prog 37 = true := by kernel_rfl
theorem inf_38 : inf Try.prog 38 (.nilFunc) 1 8 := by unfold inf; kernel_rfl
theorem ms_38 : (Try.prog.info? 38).map (·.size) = some 1 := by kernel_rfl
theorem sc_38 : scB Try.prog 38 = true := by kernel_rfl
theorem inf_39 : inf Try.prog 39 (.slice none 0 0) 1 24 := by unfold inf; kernel_rfl
theorem ms_39 : (Try.prog.info? 39).map (·.size) = some 1 := by kernel_rfl
theorem sc_39 : scB Try.prog 39 = true := by kernel_rfl
theorem inf_40 : inf Try.prog 40 (.agg #[.int .i64 0, .int .i64 0, .int .i64 0]) 3 24 := by unfold inf; kernel_rfl
theorem ms_40 : (Try.prog.info? 40).map (·.size) = some 3 := by kernel_rfl
theorem ag_40 : agB Try.prog 40 3 = true := by kernel_rfl
theorem fa_40_0 : faB Try.prog 40 0 0 = true := by kernel_rfl
theorem fa_40_1 : faB Try.prog 40 1 1 = true := by kernel_rfl
theorem fa_40_2 : faB Try.prog 40 2 2 = true := by kernel_rfl
theorem inf_41 : inf Try.prog 41 (.agg #[.int .i64 0, .int .i64 0, .int .i64 0]) 3 24 := by unfold inf; kernel_rfl
theorem ms_41 : (Try.prog.info? 41).map (·.size) = some 3 := by kernel_rfl
theorem ag_41 : agB Try.prog 41 3 = true := by kernel_rfl
theorem fa_41_0 : faB Try.prog 41 0 0 = true := by kernel_rfl
theorem fa_41_1 : faB Try.prog 41 1 1 = true := by kernel_rfl
theorem fa_41_2 : faB Try.prog 41 2 2 = true := by kernel_rfl
theorem inf_42 : inf Try.prog 42 (.nilFunc) 1 8 := by unfold inf; kernel_rfl
theorem ms_42 : (Try.prog.info? 42).map (·.size) = some 1 := by kernel_rfl
theorem sc_42 : scB Try.prog 42 = true := by kernel_rfl
theorem inf_43 : inf Try.prog 43 (.nilFunc) 1 8 := by unfold inf; kernel_rfl
theorem ms_43 : (Try.prog.info? 43).map (·.size) = some 1 := by kernel_rfl
theorem sc_43 : scB Try.prog 43 = true := by kernel_rfl
theorem inf_44 : inf Try.prog 44 (.pointer none) 1 8 := by unfold inf; kernel_rfl
theorem ms_44 : (Try.prog.info? 44).map (·.size) = some 1 := by kernel_rfl
theorem pn_44 : Try.prog.underlying 44 = some (.pointer (Try.prog.pointee 44)) := by kernel_rfl
theorem sc_44 : scB Try.prog 44 = true := by kernel_rfl
theorem inf_45 : inf Try.prog 45 (.nilFunc) 1 8 := by unfold inf; kernel_rfl
theorem ms_45 : (Try.prog.info? 45).map (·.size) = some 1 := by kernel_rfl
theorem sc_45 : scB Try.prog 45 = true := by kernel_rfl
theorem inf_46 : inf Try.prog 46 (.agg #[.pointer none, .int .i64 0]) 2 16 := by unfold inf; kernel_rfl
theorem ms_46 : (Try.prog.info? 46).map (·.size) = some 2 := by kernel_rfl
theorem ag_46 : agB Try.prog 46 2 = true := by kernel_rfl
theorem fa_46_0 : faB Try.prog 46 0 0 = true := by kernel_rfl
theorem fa_46_1 : faB Try.prog 46 1 1 = true := by kernel_rfl
theorem inf_47 : inf Try.prog 47 (.agg #[.pointer none, .int .i64 0]) 2 16 := by unfold inf; kernel_rfl
theorem ms_47 : (Try.prog.info? 47).map (·.size) = some 2 := by kernel_rfl
theorem ag_47 : agB Try.prog 47 2 = true := by kernel_rfl
theorem fa_47_0 : faB Try.prog 47 0 0 = true := by kernel_rfl
theorem fa_47_1 : faB Try.prog 47 1 1 = true := by kernel_rfl
theorem inf_48 : inf Try.prog 48 (.nilIface) 1 16 := by unfold inf; kernel_rfl
theorem ms_48 : (Try.prog.info? 48).map (·.size) = some 1 := by kernel_rfl
theorem sc_48 : scB Try.prog 48 = true := by kernel_rfl
theorem inf_49 : inf Try.prog 49 (.nilIface) 1 16 := by unfold inf; kernel_rfl
theorem ms_49 : (Try.prog.info? 49).map (·.size) = some 1 := by kernel_rfl
theorem ifc_49 : Try.prog.underlying 49 = some (.interface (Try.prog.methodsAt 49)) := by kernel_rfl
theorem sc_49 : scB Try.prog 49 = true := by kernel_rfl
theorem inf_51 : inf Try.prog 51 (.nilFunc) 1 8 := by unfold inf; kernel_rfl
theorem ms_51 : (Try.prog.info? 51).map (·.size) = some 1 := by kernel_rfl
theorem sc_51 : scB Try.prog 51 = true := by kernel_rfl
theorem inf_53 : inf Try.prog 53 (.nilFunc) 1 8 := by unfold inf; kernel_rfl
theorem ms_53 : (Try.prog.info? 53).map (·.size) = some 1 := by kernel_rfl
theorem sc_53 : scB Try.prog 53 = true := by kernel_rfl
theorem inf_55 : inf Try.prog 55 (.nilFunc) 1 8 := by unfold inf; kernel_rfl
theorem ms_55 : (Try.prog.info? 55).map (·.size) = some 1 := by kernel_rfl
theorem sc_55 : scB Try.prog 55 = true := by kernel_rfl
theorem inf_56 : inf Try.prog 56 (.nilFunc) 1 8 := by unfold inf; kernel_rfl
theorem ms_56 : (Try.prog.info? 56).map (·.size) = some 1 := by kernel_rfl
theorem sc_56 : scB Try.prog 56 = true := by kernel_rfl
theorem inf_57 : inf Try.prog 57 (.nilFunc) 1 8 := by unfold inf; kernel_rfl
theorem ms_57 : (Try.prog.info? 57).map (·.size) = some 1 := by kernel_rfl
theorem sc_57 : scB Try.prog 57 = true := by kernel_rfl
theorem inf_59 : inf Try.prog 59 (.nilFunc) 1 8 := by unfold inf; kernel_rfl
theorem ms_59 : (Try.prog.info? 59).map (·.size) = some 1 := by kernel_rfl
theorem sc_59 : scB Try.prog 59 = true := by kernel_rfl
theorem inf_60 : inf Try.prog 60 (.nilFunc) 1 8 := by unfold inf; kernel_rfl
theorem ms_60 : (Try.prog.info? 60).map (·.size) = some 1 := by kernel_rfl
theorem sc_60 : scB Try.prog 60 = true := by kernel_rfl
theorem inf_61 : inf Try.prog 61 (.nilFunc) 1 8 := by unfold inf; kernel_rfl
theorem ms_61 : (Try.prog.info? 61).map (·.size) = some 1 := by kernel_rfl
theorem sc_61 : scB Try.prog 61 = true := by kernel_rfl
theorem inf_62 : inf Try.prog 62 (.nilFunc) 1 8 := by unfold inf; kernel_rfl
theorem ms_62 : (Try.prog.info? 62).map (·.size) = some 1 := by kernel_rfl
theorem sc_62 : scB Try.prog 62 = true := by kernel_rfl
theorem inf_63 : inf Try.prog 63 (.pointer none) 1 8 := by unfold inf; kernel_rfl
theorem ms_63 : (Try.prog.info? 63).map (·.size) = some 1 := by kernel_rfl
theorem sc_63 : scB Try.prog 63 = true := by kernel_rfl
theorem inf_64 : inf Try.prog 64 (.nilFunc) 1 8 := by unfold inf; kernel_rfl
theorem ms_64 : (Try.prog.info? 64).map (·.size) = some 1 := by kernel_rfl
theorem sc_64 : scB Try.prog 64 = true := by kernel_rfl
theorem inf_65 : inf Try.prog 65 (.slice none 0 0) 1 24 := by unfold inf; kernel_rfl
theorem ms_65 : (Try.prog.info? 65).map (·.size) = some 1 := by kernel_rfl
theorem sc_65 : scB Try.prog 65 = true := by kernel_rfl
theorem inf_66 : inf Try.prog 66 (.pointer none) 1 8 := by unfold inf; kernel_rfl
theorem ms_66 : (Try.prog.info? 66).map (·.size) = some 1 := by kernel_rfl
theorem pn_66 : Try.prog.underlying 66 = some (.pointer (Try.prog.pointee 66)) := by kernel_rfl
theorem sc_66 : scB Try.prog 66 = true := by kernel_rfl
theorem inf_67 : inf Try.prog 67 (.agg #[.pointer none, .pointer none]) 2 16 := by unfold inf; kernel_rfl
theorem ms_67 : (Try.prog.info? 67).map (·.size) = some 2 := by kernel_rfl
theorem ag_67 : agB Try.prog 67 2 = true := by kernel_rfl
theorem fa_67_0 : faB Try.prog 67 0 0 = true := by kernel_rfl
theorem fa_67_1 : faB Try.prog 67 1 1 = true := by kernel_rfl
theorem inf_68 : inf Try.prog 68 (.agg #[.pointer none, .pointer none]) 2 16 := by unfold inf; kernel_rfl
theorem ms_68 : (Try.prog.info? 68).map (·.size) = some 2 := by kernel_rfl
theorem ag_68 : agB Try.prog 68 2 = true := by kernel_rfl
theorem fa_68_0 : faB Try.prog 68 0 0 = true := by kernel_rfl
theorem fa_68_1 : faB Try.prog 68 1 1 = true := by kernel_rfl
theorem inf_70 : inf Try.prog 70 (.nilFunc) 1 8 := by unfold inf; kernel_rfl
theorem ms_70 : (Try.prog.info? 70).map (·.size) = some 1 := by kernel_rfl
theorem sc_70 : scB Try.prog 70 = true := by kernel_rfl
theorem inf_71 : inf Try.prog 71 (.nilFunc) 1 8 := by unfold inf; kernel_rfl
theorem ms_71 : (Try.prog.info? 71).map (·.size) = some 1 := by kernel_rfl
theorem sc_71 : scB Try.prog 71 = true := by kernel_rfl
theorem inf_72 : inf Try.prog 72 (.int .i64 0) 1 8 := by unfold inf; kernel_rfl
theorem ms_72 : (Try.prog.info? 72).map (·.size) = some 1 := by kernel_rfl
theorem cmp_72 : (Try.prog.info? 72).map (·.comparable) = some true := by kernel_rfl
theorem sc_72 : scB Try.prog 72 = true := by kernel_rfl
theorem inf_73 : inf Try.prog 73 (.agg #[.slice none 0 0, .int .i64 0, .int .i64 0, .bool false]) 4 48 := by unfold inf; kernel_rfl
theorem ms_73 : (Try.prog.info? 73).map (·.size) = some 4 := by kernel_rfl
theorem ag_73 : agB Try.prog 73 4 = true := by kernel_rfl
theorem fa_73_0 : faB Try.prog 73 0 0 = true := by kernel_rfl
theorem fa_73_1 : faB Try.prog 73 1 1 = true := by kernel_rfl
theorem fa_73_2 : faB Try.prog 73 2 2 = true := by kernel_rfl
theorem fa_73_3 : faB Try.prog 73 3 3 = true := by kernel_rfl
theorem inf_74 : inf Try.prog 74 (.agg #[.slice none 0 0, .int .i64 0, .int .i64 0, .bool false]) 4 48 := by unfold inf; kernel_rfl
theorem ms_74 : (Try.prog.info? 74).map (·.size) = some 4 := by kernel_rfl
theorem ag_74 : agB Try.prog 74 4 = true := by kernel_rfl
theorem fa_74_0 : faB Try.prog 74 0 0 = true := by kernel_rfl
theorem fa_74_1 : faB Try.prog 74 1 1 = true := by kernel_rfl
theorem fa_74_2 : faB Try.prog 74 2 2 = true := by kernel_rfl
theorem fa_74_3 : faB Try.prog 74 3 3 = true := by kernel_rfl
theorem inf_76 : inf Try.prog 76 (.nilFunc) 1 8 := by unfold inf; kernel_rfl
theorem ms_76 : (Try.prog.info? 76).map (·.size) = some 1 := by kernel_rfl
theorem sc_76 : scB Try.prog 76 = true := by kernel_rfl
theorem inf_77 : inf Try.prog 77 (.nilFunc) 1 8 := by unfold inf; kernel_rfl
theorem ms_77 : (Try.prog.info? 77).map (·.size) = some 1 := by kernel_rfl
theorem sc_77 : scB Try.prog 77 = true := by kernel_rfl
theorem inf_78 : inf Try.prog 78 (.nilFunc) 1 8 := by unfold inf; kernel_rfl
theorem ms_78 : (Try.prog.info? 78).map (·.size) = some 1 := by kernel_rfl
theorem sc_78 : scB Try.prog 78 = true := by kernel_rfl
theorem inf_79 : inf Try.prog 79 (.nilFunc) 1 8 := by unfold inf; kernel_rfl
theorem ms_79 : (Try.prog.info? 79).map (·.size) = some 1 := by kernel_rfl
theorem sc_79 : scB Try.prog 79 = true := by kernel_rfl
theorem inf_80 : inf Try.prog 80 (.agg #[.int .i64 0, .int .i64 0, .slice none 0 0]) 3 40 := by unfold inf; kernel_rfl
theorem ms_80 : (Try.prog.info? 80).map (·.size) = some 3 := by kernel_rfl
theorem ag_80 : agB Try.prog 80 3 = true := by kernel_rfl
theorem fa_80_0 : faB Try.prog 80 0 0 = true := by kernel_rfl
theorem fa_80_1 : faB Try.prog 80 1 1 = true := by kernel_rfl
theorem fa_80_2 : faB Try.prog 80 2 2 = true := by kernel_rfl
theorem inf_81 : inf Try.prog 81 (.agg #[.int .i64 0, .int .i64 0, .slice none 0 0]) 3 40 := by unfold inf; kernel_rfl
theorem ms_81 : (Try.prog.info? 81).map (·.size) = some 3 := by kernel_rfl
theorem ag_81 : agB Try.prog 81 3 = true := by kernel_rfl
theorem fa_81_0 : faB Try.prog 81 0 0 = true := by kernel_rfl
theorem fa_81_1 : faB Try.prog 81 1 1 = true := by kernel_rfl
theorem fa_81_2 : faB Try.prog 81 2 2 = true := by kernel_rfl
theorem inf_82 : inf Try.prog 82 (.slice none 0 0) 1 24 := by unfold inf; kernel_rfl
theorem ms_82 : (Try.prog.info? 82).map (·.size) = some 1 := by kernel_rfl
theorem sc_82 : scB Try.prog 82 = true := by kernel_rfl
theorem inf_83 : inf Try.prog 83 (.slice none 0 0) 1 24 := by unfold inf; kernel_rfl
theorem ms_83 : (Try.prog.info? 83).map (·.size) = some 1 := by kernel_rfl
theorem sc_83 : scB Try.prog 83 = true := by kernel_rfl
theorem inf_84 : inf Try.prog 84 (.agg #[.slice none 0 0, .slice none 0 0, .int .i64 0, .int .i64 0, .slice none 0 0]) 5 88 := by unfold inf; kernel_rfl
theorem ms_84 : (Try.prog.info? 84).map (·.size) = some 5 := by kernel_rfl
theorem ag_84 : agB Try.prog 84 5 = true := by kernel_rfl
theorem fa_84_0 : faB Try.prog 84 0 0 = true := by kernel_rfl
theorem fa_84_1 : faB Try.prog 84 1 1 = true := by kernel_rfl
theorem fa_84_2 : faB Try.prog 84 2 2 = true := by kernel_rfl
theorem inf_85 : inf Try.prog 85 (.agg #[.slice none 0 0, .slice none 0 0, .int .i64 0, .int .i64 0, .slice none 0 0]) 5 88 := by unfold inf; kernel_rfl
theorem ms_85 : (Try.prog.info? 85).map (·.size) = some 5 := by kernel_rfl
theorem ag_85 : agB Try.prog 85 5 = true := by kernel_rfl
theorem fa_85_0 : faB Try.prog 85 0 0 = true := by kernel_rfl
theorem fa_85_1 : faB Try.prog 85 1 1 = true := by kernel_rfl
theorem fa_85_2 : faB Try.prog 85 2 2 = true := by kernel_rfl
theorem inf_86 : inf Try.prog 86 (.agg #[.int .i64 0, .int .i64 0, .slice none 0 0, .int .i64 0, .int .i64 0]) 5 56 := by unfold inf; kernel_rfl
theorem ms_86 : (Try.prog.info? 86).map (·.size) = some 5 := by kernel_rfl
theorem ag_86 : agB Try.prog 86 5 = true := by kernel_rfl
theorem fa_86_0 : faB Try.prog 86 0 0 = true := by kernel_rfl
theorem fa_86_1 : faB Try.prog 86 1 1 = true := by kernel_rfl
theorem fa_86_2 : faB Try.prog 86 2 2 = true := by kernel_rfl
theorem fa_86_3 : faB Try.prog 86 3 3 = true := by kernel_rfl
theorem fa_86_4 : faB Try.prog 86 4 4 = true := by kernel_rfl
theorem inf_87 : inf Try.prog 87 (.agg #[.int .i64 0, .int .i64 0, .slice none 0 0, .int .i64 0, .int .i64 0]) 5 56 := by unfold inf; kernel_rfl
theorem ms_87 : (Try.prog.info? 87).map (·.size) = some 5 := by kernel_rfl
theorem ag_87 : agB Try.prog 87 5 = true := by kernel_rfl
theorem fa_87_0 : faB Try.prog 87 0 0 = true := by kernel_rfl
theorem fa_87_1 : faB Try.prog 87 1 1 = true := by kernel_rfl
theorem fa_87_2 : faB Try.prog 87 2 2 = true := by kernel_rfl
theorem fa_87_3 : faB Try.prog 87 3 3 = true := by kernel_rfl
theorem fa_87_4 : faB Try.prog 87 4 4 = true := by kernel_rfl
theorem inf_88 : inf Try.prog 88 (.slice none 0 0) 1 24 := by unfold inf; kernel_rfl
theorem ms_88 : (Try.prog.info? 88).map (·.size) = some 1 := by kernel_rfl
theorem sc_88 : scB Try.prog 88 = true := by kernel_rfl
theorem inf_89 : inf Try.prog 89 (.agg #[.slice none 0 0]) 1 24 := by unfold inf; kernel_rfl
theorem ms_89 : (Try.prog.info? 89).map (·.size) = some 1 := by kernel_rfl
theorem ag_89 : agB Try.prog 89 1 = true := by kernel_rfl
theorem fa_89_0 : faB Try.prog 89 0 0 = true := by kernel_rfl
theorem inf_90 : inf Try.prog 90 (.agg #[.slice none 0 0]) 1 24 := by unfold inf; kernel_rfl
theorem ms_90 : (Try.prog.info? 90).map (·.size) = some 1 := by kernel_rfl
theorem ag_90 : agB Try.prog 90 1 = true := by kernel_rfl
theorem fa_90_0 : faB Try.prog 90 0 0 = true := by kernel_rfl
theorem inf_91 : inf Try.prog 91 (.nilFunc) 1 8 := by unfold inf; kernel_rfl
theorem ms_91 : (Try.prog.info? 91).map (·.size) = some 1 := by kernel_rfl
theorem sc_91 : scB Try.prog 91 = true := by kernel_rfl
theorem inf_92 : inf Try.prog 92 (.nilFunc) 1 8 := by unfold inf; kernel_rfl
theorem ms_92 : (Try.prog.info? 92).map (·.size) = some 1 := by kernel_rfl
theorem sc_92 : scB Try.prog 92 = true := by kernel_rfl
theorem inf_93 : inf Try.prog 93 (.slice none 0 0) 1 24 := by unfold inf; kernel_rfl
theorem ms_93 : (Try.prog.info? 93).map (·.size) = some 1 := by kernel_rfl
theorem sc_93 : scB Try.prog 93 = true := by kernel_rfl
theorem inf_95 : inf Try.prog 95 (.nilFunc) 1 8 := by unfold inf; kernel_rfl
theorem ms_95 : (Try.prog.info? 95).map (·.size) = some 1 := by kernel_rfl
theorem sc_95 : scB Try.prog 95 = true := by kernel_rfl
theorem inf_97 : inf Try.prog 97 (.nilFunc) 1 8 := by unfold inf; kernel_rfl
theorem ms_97 : (Try.prog.info? 97).map (·.size) = some 1 := by kernel_rfl
theorem sc_97 : scB Try.prog 97 = true := by kernel_rfl
theorem inf_98 : inf Try.prog 98 (.nilFunc) 1 8 := by unfold inf; kernel_rfl
theorem ms_98 : (Try.prog.info? 98).map (·.size) = some 1 := by kernel_rfl
theorem sc_98 : scB Try.prog 98 = true := by kernel_rfl
theorem inf_99 : inf Try.prog 99 (.nilFunc) 1 8 := by unfold inf; kernel_rfl
theorem ms_99 : (Try.prog.info? 99).map (·.size) = some 1 := by kernel_rfl
theorem sc_99 : scB Try.prog 99 = true := by kernel_rfl
theorem inf_100 : inf Try.prog 100 (.slice none 0 0) 1 24 := by unfold inf; kernel_rfl
theorem ms_100 : (Try.prog.info? 100).map (·.size) = some 1 := by kernel_rfl
theorem sc_100 : scB Try.prog 100 = true := by kernel_rfl
theorem inf_101 : inf Try.prog 101 (.nilFunc) 1 8 := by unfold inf; kernel_rfl
theorem ms_101 : (Try.prog.info? 101).map (·.size) = some 1 := by kernel_rfl
theorem sc_101 : scB Try.prog 101 = true := by kernel_rfl
theorem inf_102 : inf Try.prog 102 (.agg #[.int .i64 0, .int .i64 0, .int .i64 0, .int .i64 0, .int .i64 0, .int .i64 0, .int .i64 0, .int .i64 0, .int .i64 0, .int .i64 0, .int .i64 0, .int .i64 0, .int .i64 0, .int .i64 0, .int .i64 0, .int .i64 0, .int .i64 0, .int .i64 0, .int .i64 0, .int .i64 0, .int .i64 0, .int .i64 0, .int .i64 0, .int .i64 0, .int .i64 0, .int .i64 0, .int .i64 0, .int .i64 0, .int .i64 0, .int .i64 0, .int .i64 0, .int .i64 0, .int .i64 0, .int .i64 0, .int .i64 0, .int .i64 0, .int .i64 0, .int .i64 0, .int .i64 0, .int .i64 0, .int .i64 0, .int .i64 0, .int .i64 0, .int .i64 0, .int .i64 0, .int .i64 0, .int .i64 0, .int .i64 0, .int .i64 0, .int .i64 0, .int .i64 0, .int .i64 0, .int .i64 0, .int .i64 0, .int .i64 0, .int .i64 0, .int .i64 0, .int .i64 0, .int .i64 0, .int .i64 0, .int .i64 0, .int .i64 0, .int .i64 0, .int .i64 0]) 64 512 := by unfold inf; kernel_rfl
theorem ms_102 : (Try.prog.info? 102).map (·.size) = some 64 := by kernel_rfl
theorem al_102 : Try.prog.underlying 102 = some (.array 64 2) := by kernel_rfl
theorem ac_102 : Try.prog.cellsOf 2 = 1 := by kernel_rfl
theorem ap_102 : Try.prog.plainKey 2 = true := by kernel_rfl
theorem aq_102 : Try.prog.eqGuardType Try.prog.depth 102 = false := by kernel_rfl
theorem ag_102 : agB Try.prog 102 64 = true := by kernel_rfl
theorem inf_103 : inf Try.prog 103 (.agg #[.bool false, .int .i64 0, .int .i64 0, .slice none 0 0, .int .i64 0, .int .i64 0, .int .i64 0, .int .i64 0, .int .i64 0, .int .i64 0, .int .i64 0, .int .i64 0, .int .i64 0, .int .i64 0, .int .i64 0, .int .i64 0, .int .i64 0, .int .i64 0, .int .i64 0, .int .i64 0, .int .i64 0, .int .i64 0, .int .i64 0, .int .i64 0, .int .i64 0, .int .i64 0, .int .i64 0, .int .i64 0, .int .i64 0, .int .i64 0, .int .i64 0, .int .i64 0, .int .i64 0, .int .i64 0, .int .i64 0, .int .i64 0, .int .i64 0, .int .i64 0, .int .i64 0, .int .i64 0, .int .i64 0, .int .i64 0, .int .i64 0, .int .i64 0, .int .i64 0, .int .i64 0, .int .i64 0, .int .i64 0, .int .i64 0, .int .i64 0, .int .i64 0, .int .i64 0, .int .i64 0, .int .i64 0, .int .i64 0, .int .i64 0, .int .i64 0, .int .i64 0, .int .i64 0, .int .i64 0, .int .i64 0, .int .i64 0, .int .i64 0, .int .i64 0, .int .i64 0, .int .i64 0, .int .i64 0, .int .i64 0, .int .i64 0]) 69 568 := by unfold inf; kernel_rfl
theorem ms_103 : (Try.prog.info? 103).map (·.size) = some 69 := by kernel_rfl
theorem ag_103 : agB Try.prog 103 69 = true := by kernel_rfl
theorem fa_103_0 : faB Try.prog 103 0 0 = true := by kernel_rfl
theorem fa_103_1 : faB Try.prog 103 1 1 = true := by kernel_rfl
theorem fa_103_2 : faB Try.prog 103 2 2 = true := by kernel_rfl
theorem fa_103_3 : faB Try.prog 103 3 3 = true := by kernel_rfl
theorem fa_103_4 : faB Try.prog 103 4 4 = true := by kernel_rfl
theorem fa_103_5 : faB Try.prog 103 5 5 = true := by kernel_rfl
theorem inf_104 : inf Try.prog 104 (.agg #[.bool false, .int .i64 0, .int .i64 0, .slice none 0 0, .int .i64 0, .int .i64 0, .int .i64 0, .int .i64 0, .int .i64 0, .int .i64 0, .int .i64 0, .int .i64 0, .int .i64 0, .int .i64 0, .int .i64 0, .int .i64 0, .int .i64 0, .int .i64 0, .int .i64 0, .int .i64 0, .int .i64 0, .int .i64 0, .int .i64 0, .int .i64 0, .int .i64 0, .int .i64 0, .int .i64 0, .int .i64 0, .int .i64 0, .int .i64 0, .int .i64 0, .int .i64 0, .int .i64 0, .int .i64 0, .int .i64 0, .int .i64 0, .int .i64 0, .int .i64 0, .int .i64 0, .int .i64 0, .int .i64 0, .int .i64 0, .int .i64 0, .int .i64 0, .int .i64 0, .int .i64 0, .int .i64 0, .int .i64 0, .int .i64 0, .int .i64 0, .int .i64 0, .int .i64 0, .int .i64 0, .int .i64 0, .int .i64 0, .int .i64 0, .int .i64 0, .int .i64 0, .int .i64 0, .int .i64 0, .int .i64 0, .int .i64 0, .int .i64 0, .int .i64 0, .int .i64 0, .int .i64 0, .int .i64 0, .int .i64 0, .int .i64 0]) 69 568 := by unfold inf; kernel_rfl
theorem ms_104 : (Try.prog.info? 104).map (·.size) = some 69 := by kernel_rfl
theorem ag_104 : agB Try.prog 104 69 = true := by kernel_rfl
theorem fa_104_0 : faB Try.prog 104 0 0 = true := by kernel_rfl
theorem fa_104_1 : faB Try.prog 104 1 1 = true := by kernel_rfl
theorem fa_104_2 : faB Try.prog 104 2 2 = true := by kernel_rfl
theorem fa_104_3 : faB Try.prog 104 3 3 = true := by kernel_rfl
theorem fa_104_4 : faB Try.prog 104 4 4 = true := by kernel_rfl
theorem fa_104_5 : faB Try.prog 104 5 5 = true := by kernel_rfl
theorem inf_106 : inf Try.prog 106 (.nilFunc) 1 8 := by unfold inf; kernel_rfl
theorem ms_106 : (Try.prog.info? 106).map (·.size) = some 1 := by kernel_rfl
theorem sc_106 : scB Try.prog 106 = true := by kernel_rfl
theorem inf_107 : inf Try.prog 107 (.nilFunc) 1 8 := by unfold inf; kernel_rfl
theorem ms_107 : (Try.prog.info? 107).map (·.size) = some 1 := by kernel_rfl
theorem sc_107 : scB Try.prog 107 = true := by kernel_rfl
theorem inf_108 : inf Try.prog 108 (.nilFunc) 1 8 := by unfold inf; kernel_rfl
theorem ms_108 : (Try.prog.info? 108).map (·.size) = some 1 := by kernel_rfl
theorem sc_108 : scB Try.prog 108 = true := by kernel_rfl
theorem inf_109 : inf Try.prog 109 (.nilFunc) 1 8 := by unfold inf; kernel_rfl
theorem ms_109 : (Try.prog.info? 109).map (·.size) = some 1 := by kernel_rfl
theorem sc_109 : scB Try.prog 109 = true := by kernel_rfl
theorem inf_110 : inf Try.prog 110 (.nilFunc) 1 8 := by unfold inf; kernel_rfl
theorem ms_110 : (Try.prog.info? 110).map (·.size) = some 1 := by kernel_rfl
theorem sc_110 : scB Try.prog 110 = true := by kernel_rfl
theorem inf_111 : inf Try.prog 111 (.nilFunc) 1 8 := by unfold inf; kernel_rfl
theorem ms_111 : (Try.prog.info? 111).map (·.size) = some 1 := by kernel_rfl
theorem sc_111 : scB Try.prog 111 = true := by kernel_rfl
theorem inf_112 : inf Try.prog 112 (.nilFunc) 1 8 := by unfold inf; kernel_rfl
theorem ms_112 : (Try.prog.info? 112).map (·.size) = some 1 := by kernel_rfl
theorem sc_112 : scB Try.prog 112 = true := by kernel_rfl
theorem inf_113 : inf Try.prog 113 (.slice none 0 0) 1 24 := by unfold inf; kernel_rfl
theorem ms_113 : (Try.prog.info? 113).map (·.size) = some 1 := by kernel_rfl
theorem sc_113 : scB Try.prog 113 = true := by kernel_rfl
theorem inf_114 : inf Try.prog 114 (.nilFunc) 1 8 := by unfold inf; kernel_rfl
theorem ms_114 : (Try.prog.info? 114).map (·.size) = some 1 := by kernel_rfl
theorem sc_114 : scB Try.prog 114 = true := by kernel_rfl
theorem inf_116 : inf Try.prog 116 (.nilFunc) 1 8 := by unfold inf; kernel_rfl
theorem ms_116 : (Try.prog.info? 116).map (·.size) = some 1 := by kernel_rfl
theorem sc_116 : scB Try.prog 116 = true := by kernel_rfl
theorem inf_117 : inf Try.prog 117 (.nilFunc) 1 8 := by unfold inf; kernel_rfl
theorem ms_117 : (Try.prog.info? 117).map (·.size) = some 1 := by kernel_rfl
theorem sc_117 : scB Try.prog 117 = true := by kernel_rfl
theorem inf_118 : inf Try.prog 118 (.nilFunc) 1 8 := by unfold inf; kernel_rfl
theorem ms_118 : (Try.prog.info? 118).map (·.size) = some 1 := by kernel_rfl
theorem sc_118 : scB Try.prog 118 = true := by kernel_rfl
theorem inf_119 : inf Try.prog 119 (.agg #[.int .i64 0, .int .i64 0, .int .i64 0, .int .i64 0, .int .i64 0, .int .i64 0, .int .i64 0, .int .i64 0, .int .i64 0, .int .i64 0, .int .i64 0, .int .i64 0, .int .i64 0, .int .i64 0, .int .i64 0, .int .i64 0, .int .i64 0, .int .i64 0, .int .i64 0, .int .i64 0, .int .i64 0, .int .i64 0, .int .i64 0, .int .i64 0, .int .i64 0, .int .i64 0, .int .i64 0, .int .i64 0, .int .i64 0, .int .i64 0, .int .i64 0, .int .i64 0, .int .i64 0, .int .i64 0, .int .i64 0, .int .i64 0, .int .i64 0, .int .i64 0, .int .i64 0, .int .i64 0, .int .i64 0, .int .i64 0, .int .i64 0, .int .i64 0, .int .i64 0, .int .i64 0, .int .i64 0, .int .i64 0, .int .i64 0, .int .i64 0, .int .i64 0, .int .i64 0, .int .i64 0, .int .i64 0, .int .i64 0, .int .i64 0, .int .i64 0, .int .i64 0, .int .i64 0, .int .i64 0, .int .i64 0, .int .i64 0, .int .i64 0, .int .i64 0]) 64 512 := by unfold inf; kernel_rfl
theorem ms_119 : (Try.prog.info? 119).map (·.size) = some 64 := by kernel_rfl
theorem al_119 : Try.prog.underlying 119 = some (.array 64 3) := by kernel_rfl
theorem ac_119 : Try.prog.cellsOf 3 = 1 := by kernel_rfl
theorem ap_119 : Try.prog.plainKey 3 = true := by kernel_rfl
theorem aq_119 : Try.prog.eqGuardType Try.prog.depth 119 = false := by kernel_rfl
theorem ag_119 : agB Try.prog 119 64 = true := by kernel_rfl
theorem inf_120 : inf Try.prog 120 (.agg #[.int .i64 0, .int .i64 0, .int .i64 0, .int .i64 0, .int .i64 0, .int .i64 0, .int .i64 0, .int .i64 0, .int .i64 0, .int .i64 0, .int .i64 0, .int .i64 0, .int .i64 0, .int .i64 0, .int .i64 0, .int .i64 0, .int .i64 0, .int .i64 0, .int .i64 0, .int .i64 0, .int .i64 0, .int .i64 0, .int .i64 0, .int .i64 0, .int .i64 0, .int .i64 0, .int .i64 0, .int .i64 0, .int .i64 0, .int .i64 0, .int .i64 0, .int .i64 0, .int .i64 0, .int .i64 0, .int .i64 0, .int .i64 0, .int .i64 0, .int .i64 0, .int .i64 0, .int .i64 0, .int .i64 0, .int .i64 0, .int .i64 0, .int .i64 0, .int .i64 0, .int .i64 0, .int .i64 0, .int .i64 0, .int .i64 0, .int .i64 0, .int .i64 0, .int .i64 0, .int .i64 0, .int .i64 0, .int .i64 0, .int .i64 0, .int .i64 0, .int .i64 0, .int .i64 0, .int .i64 0, .int .i64 0, .int .i64 0, .int .i64 0, .int .i64 0, .int .i64 0, .int .i64 0, .pointer none]) 67 536 := by unfold inf; kernel_rfl
theorem ms_120 : (Try.prog.info? 120).map (·.size) = some 67 := by kernel_rfl
theorem ag_120 : agB Try.prog 120 67 = true := by kernel_rfl
theorem fa_120_0 : faB Try.prog 120 0 0 = true := by kernel_rfl
theorem fa_120_1 : faB Try.prog 120 1 64 = true := by kernel_rfl
theorem fa_120_2 : faB Try.prog 120 2 65 = true := by kernel_rfl
theorem fa_120_3 : faB Try.prog 120 3 66 = true := by kernel_rfl
theorem inf_121 : inf Try.prog 121 (.agg #[.int .i64 0, .int .i64 0, .int .i64 0, .int .i64 0, .int .i64 0, .int .i64 0, .int .i64 0, .int .i64 0, .int .i64 0, .int .i64 0, .int .i64 0, .int .i64 0, .int .i64 0, .int .i64 0, .int .i64 0, .int .i64 0, .int .i64 0, .int .i64 0, .int .i64 0, .int .i64 0, .int .i64 0, .int .i64 0, .int .i64 0, .int .i64 0, .int .i64 0, .int .i64 0, .int .i64 0, .int .i64 0, .int .i64 0, .int .i64 0, .int .i64 0, .int .i64 0, .int .i64 0, .int .i64 0, .int .i64 0, .int .i64 0, .int .i64 0, .int .i64 0, .int .i64 0, .int .i64 0, .int .i64 0, .int .i64 0, .int .i64 0, .int .i64 0, .int .i64 0, .int .i64 0, .int .i64 0, .int .i64 0, .int .i64 0, .int .i64 0, .int .i64 0, .int .i64 0, .int .i64 0, .int .i64 0, .int .i64 0, .int .i64 0, .int .i64 0, .int .i64 0, .int .i64 0, .int .i64 0, .int .i64 0, .int .i64 0, .int .i64 0, .int .i64 0, .int .i64 0, .int .i64 0, .pointer none]) 67 536 := by unfold inf; kernel_rfl
theorem ms_121 : (Try.prog.info? 121).map (·.size) = some 67 := by kernel_rfl
theorem ag_121 : agB Try.prog 121 67 = true := by kernel_rfl
theorem fa_121_0 : faB Try.prog 121 0 0 = true := by kernel_rfl
theorem fa_121_1 : faB Try.prog 121 1 64 = true := by kernel_rfl
theorem fa_121_2 : faB Try.prog 121 2 65 = true := by kernel_rfl
theorem fa_121_3 : faB Try.prog 121 3 66 = true := by kernel_rfl
theorem inf_122 : inf Try.prog 122 (.agg #[.pointer none, .int .i64 0, .int .i64 0, .int .i64 0, .int .i64 0, .int .i64 0, .int .i64 0]) 7 56 := by unfold inf; kernel_rfl
theorem ms_122 : (Try.prog.info? 122).map (·.size) = some 7 := by kernel_rfl
theorem ag_122 : agB Try.prog 122 7 = true := by kernel_rfl
theorem fa_122_0 : faB Try.prog 122 0 0 = true := by kernel_rfl
theorem fa_122_1 : faB Try.prog 122 1 1 = true := by kernel_rfl
theorem fa_122_2 : faB Try.prog 122 2 2 = true := by kernel_rfl
theorem fa_122_3 : faB Try.prog 122 3 3 = true := by kernel_rfl
theorem fa_122_4 : faB Try.prog 122 4 4 = true := by kernel_rfl
theorem fa_122_5 : faB Try.prog 122 5 5 = true := by kernel_rfl
theorem fa_122_6 : faB Try.prog 122 6 6 = true := by kernel_rfl
theorem inf_123 : inf Try.prog 123 (.agg #[.pointer none, .int .i64 0, .int .i64 0, .int .i64 0, .int .i64 0, .int .i64 0, .int .i64 0]) 7 56 := by unfold inf; kernel_rfl
theorem ms_123 : (Try.prog.info? 123).map (·.size) = some 7 := by kernel_rfl
theorem ag_123 : agB Try.prog 123 7 = true := by kernel_rfl
theorem fa_123_0 : faB Try.prog 123 0 0 = true := by kernel_rfl
theorem fa_123_1 : faB Try.prog 123 1 1 = true := by kernel_rfl
theorem fa_123_2 : faB Try.prog 123 2 2 = true := by kernel_rfl
theorem fa_123_3 : faB Try.prog 123 3 3 = true := by kernel_rfl
theorem fa_123_4 : faB Try.prog 123 4 4 = true := by kernel_rfl
theorem fa_123_5 : faB Try.prog 123 5 5 = true := by kernel_rfl
theorem fa_123_6 : faB Try.prog 123 6 6 = true := by kernel_rfl
theorem inf_124 : inf Try.prog 124 (.nilFunc) 1 8 := by unfold inf; kernel_rfl
theorem ms_124 : (Try.prog.info? 124).map (·.size) = some 1 := by kernel_rfl
theorem sc_124 : scB Try.prog 124 = true := by kernel_rfl
theorem inf_125 : inf Try.prog 125 (.nilFunc) 1 8 := by unfold inf; kernel_rfl
theorem ms_125 : (Try.prog.info? 125).map (·.size) = some 1 := by kernel_rfl
theorem sc_125 : scB Try.prog 125 = true := by kernel_rfl
theorem inf_126 : inf Try.prog 126 (.agg #[.int .i64 0, .int .i64 0, .int .i64 0, .int .i64 0, .int .i64 0, .int .i64 0, .bool false]) 7 56 := by unfold inf; kernel_rfl
theorem ms_126 : (Try.prog.info? 126).map (·.size) = some 7 := by kernel_rfl
theorem ag_126 : agB Try.prog 126 7 = true := by kernel_rfl
theorem fa_126_0 : faB Try.prog 126 0 0 = true := by kernel_rfl
theorem fa_126_1 : faB Try.prog 126 1 1 = true := by kernel_rfl
theorem fa_126_2 : faB Try.prog 126 2 2 = true := by kernel_rfl
theorem fa_126_3 : faB Try.prog 126 3 3 = true := by kernel_rfl
theorem fa_126_4 : faB Try.prog 126 4 4 = true := by kernel_rfl
theorem fa_126_5 : faB Try.prog 126 5 5 = true := by kernel_rfl
theorem fa_126_6 : faB Try.prog 126 6 6 = true := by kernel_rfl
theorem inf_127 : inf Try.prog 127 (.agg #[.int .i64 0, .int .i64 0, .int .i64 0, .int .i64 0, .int .i64 0, .int .i64 0, .bool false]) 7 56 := by unfold inf; kernel_rfl
theorem ms_127 : (Try.prog.info? 127).map (·.size) = some 7 := by kernel_rfl
theorem ag_127 : agB Try.prog 127 7 = true := by kernel_rfl
theorem fa_127_0 : faB Try.prog 127 0 0 = true := by kernel_rfl
theorem fa_127_1 : faB Try.prog 127 1 1 = true := by kernel_rfl
theorem fa_127_2 : faB Try.prog 127 2 2 = true := by kernel_rfl
theorem fa_127_3 : faB Try.prog 127 3 3 = true := by kernel_rfl
theorem fa_127_4 : faB Try.prog 127 4 4 = true := by kernel_rfl
theorem fa_127_5 : faB Try.prog 127 5 5 = true := by kernel_rfl
theorem fa_127_6 : faB Try.prog 127 6 6 = true := by kernel_rfl
theorem inf_128 : inf Try.prog 128 (.nilFunc) 1 8 := by unfold inf; kernel_rfl
theorem ms_128 : (Try.prog.info? 128).map (·.size) = some 1 := by kernel_rfl
theorem sc_128 : scB Try.prog 128 = true := by kernel_rfl
theorem inf_129 : inf Try.prog 129 (.nilFunc) 1 8 := by unfold inf; kernel_rfl
theorem ms_129 : (Try.prog.info? 129).map (·.size) = some 1 := by kernel_rfl
theorem sc_129 : scB Try.prog 129 = true := by kernel_rfl
theorem inf_130 : inf Try.prog 130 (.agg #[.int .i64 0, .slice none 0 0]) 2 32 := by unfold inf; kernel_rfl
theorem ms_130 : (Try.prog.info? 130).map (·.size) = some 2 := by kernel_rfl
theorem ag_130 : agB Try.prog 130 2 = true := by kernel_rfl
theorem fa_130_0 : faB Try.prog 130 0 0 = true := by kernel_rfl
theorem fa_130_1 : faB Try.prog 130 1 1 = true := by kernel_rfl
theorem inf_131 : inf Try.prog 131 (.agg #[.int .i64 0, .slice none 0 0]) 2 32 := by unfold inf; kernel_rfl
theorem ms_131 : (Try.prog.info? 131).map (·.size) = some 2 := by kernel_rfl
theorem ag_131 : agB Try.prog 131 2 = true := by kernel_rfl
theorem fa_131_0 : faB Try.prog 131 0 0 = true := by kernel_rfl
theorem fa_131_1 : faB Try.prog 131 1 1 = true := by kernel_rfl
theorem inf_132 : inf Try.prog 132 (.nilFunc) 1 8 := by unfold inf; kernel_rfl
theorem ms_132 : (Try.prog.info? 132).map (·.size) = some 1 := by kernel_rfl
theorem sc_132 : scB Try.prog 132 = true := by kernel_rfl
theorem inf_133 : inf Try.prog 133 (.nilFunc) 1 8 := by unfold inf; kernel_rfl
theorem ms_133 : (Try.prog.info? 133).map (·.size) = some 1 := by kernel_rfl
theorem sc_133 : scB Try.prog 133 = true := by kernel_rfl
theorem inf_134 : inf Try.prog 134 (.nilFunc) 1 8 := by unfold inf; kernel_rfl
theorem ms_134 : (Try.prog.info? 134).map (·.size) = some 1 := by kernel_rfl
theorem sc_134 : scB Try.prog 134 = true := by kernel_rfl
theorem inf_135 : inf Try.prog 135 (.nilFunc) 1 8 := by unfold inf; kernel_rfl
theorem ms_135 : (Try.prog.info? 135).map (·.size) = some 1 := by kernel_rfl
theorem sc_135 : scB Try.prog 135 = true := by kernel_rfl
theorem inf_136 : inf Try.prog 136 (.nilFunc) 1 8 := by unfold inf; kernel_rfl
theorem ms_136 : (Try.prog.info? 136).map (·.size) = some 1 := by kernel_rfl
theorem sc_136 : scB Try.prog 136 = true := by kernel_rfl
theorem inf_137 : inf Try.prog 137 (.pointer none) 1 8 := by unfold inf; kernel_rfl
theorem ms_137 : (Try.prog.info? 137).map (·.size) = some 1 := by kernel_rfl
theorem sc_137 : scB Try.prog 137 = true := by kernel_rfl
theorem inf_138 : inf Try.prog 138 (.slice none 0 0) 1 24 := by unfold inf; kernel_rfl
theorem ms_138 : (Try.prog.info? 138).map (·.size) = some 1 := by kernel_rfl
theorem sc_138 : scB Try.prog 138 = true := by kernel_rfl
theorem inf_139 : inf Try.prog 139 (.slice none 0 0) 1 24 := by unfold inf; kernel_rfl
theorem ms_139 : (Try.prog.info? 139).map (·.size) = some 1 := by kernel_rfl
theorem sc_139 : scB Try.prog 139 = true := by kernel_rfl
theorem inf_140 : inf Try.prog 140 (.agg #[.slice none 0 0, .slice none 0 0, .slice none 0 0, .bool false, .int .i64 0, .int .i64 0, .slice none 0 0, .int .i64 0, .int .i64 0, .int .i64 0, .int .i64 0, .int .i64 0, .int .i64 0, .int .i64 0, .int .i64 0, .int .i64 0, .int .i64 0, .int .i64 0, .int .i64 0, .int .i64 0, .int .i64 0, .int .i64 0, .int .i64 0, .int .i64 0, .int .i64 0, .int .i64 0, .int .i64 0, .int .i64 0, .int .i64 0, .int .i64 0, .int .i64 0, .int .i64 0, .int .i64 0, .int .i64 0, .int .i64 0, .int .i64 0, .int .i64 0, .int .i64 0, .int .i64 0, .int .i64 0, .int .i64 0, .int .i64 0, .int .i64 0, .int .i64 0, .int .i64 0, .int .i64 0, .int .i64 0, .int .i64 0, .int .i64 0, .int .i64 0, .int .i64 0, .int .i64 0, .int .i64 0, .int .i64 0, .int .i64 0, .int .i64 0, .int .i64 0, .int .i64 0, .int .i64 0, .int .i64 0, .int .i64 0, .int .i64 0, .int .i64 0, .int .i64 0, .int .i64 0, .int .i64 0, .int .i64 0, .int .i64 0, .int .i64 0, .int .i64 0, .int .i64 0, .int .i64 0]) 72 640 := by unfold inf; kernel_rfl
theorem ms_140 : (Try.prog.info? 140).map (·.size) = some 72 := by kernel_rfl
theorem ag_140 : agB Try.prog 140 72 = true := by kernel_rfl
theorem fa_140_0 : faB Try.prog 140 0 0 = true := by kernel_rfl
theorem fa_140_1 : faB Try.prog 140 1 1 = true := by kernel_rfl
theorem fa_140_2 : faB Try.prog 140 2 2 = true := by kernel_rfl
theorem fa_140_3 : faB Try.prog 140 3 3 = true := by kernel_rfl
theorem inf_141 : inf Try.prog 141 (.agg #[.slice none 0 0, .slice none 0 0, .slice none 0 0, .bool false, .int .i64 0, .int .i64 0, .slice none 0 0, .int .i64 0, .int .i64 0, .int .i64 0, .int .i64 0, .int .i64 0, .int .i64 0, .int .i64 0, .int .i64 0, .int .i64 0, .int .i64 0, .int .i64 0, .int .i64 0, .int .i64 0, .int .i64 0, .int .i64 0, .int .i64 0, .int .i64 0, .int .i64 0, .int .i64 0, .int .i64 0, .int .i64 0, .int .i64 0, .int .i64 0, .int .i64 0, .int .i64 0, .int .i64 0, .int .i64 0, .int .i64 0, .int .i64 0, .int .i64 0, .int .i64 0, .int .i64 0, .int .i64 0, .int .i64 0, .int .i64 0, .int .i64 0, .int .i64 0, .int .i64 0, .int .i64 0, .int .i64 0, .int .i64 0, .int .i64 0, .int .i64 0, .int .i64 0, .int .i64 0, .int .i64 0, .int .i64 0, .int .i64 0, .int .i64 0, .int .i64 0, .int .i64 0, .int .i64 0, .int .i64 0, .int .i64 0, .int .i64 0, .int .i64 0, .int .i64 0, .int .i64 0, .int .i64 0, .int .i64 0, .int .i64 0, .int .i64 0, .int .i64 0, .int .i64 0, .int .i64 0]) 72 640 := by unfold inf; kernel_rfl
theorem ms_141 : (Try.prog.info? 141).map (·.size) = some 72 := by kernel_rfl
theorem ag_141 : agB Try.prog 141 72 = true := by kernel_rfl
theorem fa_141_0 : faB Try.prog 141 0 0 = true := by kernel_rfl
theorem fa_141_1 : faB Try.prog 141 1 1 = true := by kernel_rfl
theorem fa_141_2 : faB Try.prog 141 2 2 = true := by kernel_rfl
theorem fa_141_3 : faB Try.prog 141 3 3 = true := by kernel_rfl
theorem inf_142 : inf Try.prog 142 (.nilFunc) 1 8 := by unfold inf; kernel_rfl
theorem ms_142 : (Try.prog.info? 142).map (·.size) = some 1 := by kernel_rfl
theorem sc_142 : scB Try.prog 142 = true := by kernel_rfl
theorem inf_143 : inf Try.prog 143 (.pointer none) 1 8 := by unfold inf; kernel_rfl
theorem ms_143 : (Try.prog.info? 143).map (·.size) = some 1 := by kernel_rfl
theorem sc_143 : scB Try.prog 143 = true := by kernel_rfl
theorem inf_144 : inf Try.prog 144 (.agg #[.int .i64 0, .nilIface]) 2 24 := by unfold inf; kernel_rfl
theorem ms_144 : (Try.prog.info? 144).map (·.size) = some 2 := by kernel_rfl
theorem ag_144 : agB Try.prog 144 2 = true := by kernel_rfl
theorem fa_144_0 : faB Try.prog 144 0 0 = true := by kernel_rfl
theorem fa_144_1 : faB Try.prog 144 1 1 = true := by kernel_rfl
theorem inf_145 : inf Try.prog 145 (.agg #[.int .i64 0, .nilIface]) 2 24 := by unfold inf; kernel_rfl
theorem ms_145 : (Try.prog.info? 145).map (·.size) = some 2 := by kernel_rfl
theorem ag_145 : agB Try.prog 145 2 = true := by kernel_rfl
theorem fa_145_0 : faB Try.prog 145 0 0 = true := by kernel_rfl
theorem fa_145_1 : faB Try.prog 145 1 1 = true := by kernel_rfl
theorem inf_146 : inf Try.prog 146 (.nilFunc) 1 8 := by unfold inf; kernel_rfl
theorem ms_146 : (Try.prog.info? 146).map (·.size) = some 1 := by kernel_rfl
theorem sc_146 : scB Try.prog 146 = true := by kernel_rfl
theorem inf_147 : inf Try.prog 147 (.nilFunc) 1 8 := by unfold inf; kernel_rfl
theorem ms_147 : (Try.prog.info? 147).map (·.size) = some 1 := by kernel_rfl
theorem sc_147 : scB Try.prog 147 = true := by kernel_rfl
theorem inf_148 : inf Try.prog 148 (.nilFunc) 1 8 := by unfold inf; kernel_rfl
theorem ms_148 : (Try.prog.info? 148).map (·.size) = some 1 := by kernel_rfl
theorem sc_148 : scB Try.prog 148 = true := by kernel_rfl
theorem inf_149 : inf Try.prog 149 (.pointer none) 1 8 := by unfold inf; kernel_rfl
theorem ms_149 : (Try.prog.info? 149).map (·.size) = some 1 := by kernel_rfl
theorem sc_149 : scB Try.prog 149 = true := by kernel_rfl
theorem inf_150 : inf Try.prog 150 (.nilFunc) 1 8 := by unfold inf; kernel_rfl
theorem ms_150 : (Try.prog.info? 150).map (·.size) = some 1 := by kernel_rfl
theorem sc_150 : scB Try.prog 150 = true := by kernel_rfl
theorem inf_151 : inf Try.prog 151 (.nilFunc) 1 8 := by unfold inf; kernel_rfl
theorem ms_151 : (Try.prog.info? 151).map (·.size) = some 1 := by kernel_rfl
theorem sc_151 : scB Try.prog 151 = true := by kernel_rfl
theorem inf_152 : inf Try.prog 152 (.agg #[.int .i64 0, .slice none 0 0, .int .i64 0, .int .i64 0, .int .i64 0]) 5 56 := by unfold inf; kernel_rfl
theorem ms_152 : (Try.prog.info? 152).map (·.size) = some 5 := by kernel_rfl
theorem ag_152 : agB Try.prog 152 5 = true := by kernel_rfl
theorem fa_152_0 : faB Try.prog 152 0 0 = true := by kernel_rfl
theorem fa_152_1 : faB Try.prog 152 1 1 = true := by kernel_rfl
theorem fa_152_2 : faB Try.prog 152 2 2 = true := by kernel_rfl
theorem fa_152_3 : faB Try.prog 152 3 3 = true := by kernel_rfl
theorem fa_152_4 : faB Try.prog 152 4 4 = true := by kernel_rfl
theorem inf_153 : inf Try.prog 153 (.agg #[.int .i64 0, .slice none 0 0, .int .i64 0, .int .i64 0, .int .i64 0]) 5 56 := by unfold inf; kernel_rfl
theorem ms_153 : (Try.prog.info? 153).map (·.size) = some 5 := by kernel_rfl
theorem ag_153 : agB Try.prog 153 5 = true := by kernel_rfl
theorem fa_153_0 : faB Try.prog 153 0 0 = true := by kernel_rfl
theorem fa_153_1 : faB Try.prog 153 1 1 = true := by kernel_rfl
theorem fa_153_2 : faB Try.prog 153 2 2 = true := by kernel_rfl
theorem fa_153_3 : faB Try.prog 153 3 3 = true := by kernel_rfl
theorem fa_153_4 : faB Try.prog 153 4 4 = true := by kernel_rfl
theorem inf_154 : inf Try.prog 154 (.pointer none) 1 8 := by unfold inf; kernel_rfl
theorem ms_154 : (Try.prog.info? 154).map (·.size) = some 1 := by kernel_rfl
theorem sc_154 : scB Try.prog 154 = true := by kernel_rfl
theorem inf_155 : inf Try.prog 155 (.nilFunc) 1 8 := by unfold inf; kernel_rfl
theorem ms_155 : (Try.prog.info? 155).map (·.size) = some 1 := by kernel_rfl
theorem sc_155 : scB Try.prog 155 = true := by kernel_rfl
theorem inf_156 : inf Try.prog 156 (.nilFunc) 1 8 := by unfold inf; kernel_rfl
theorem ms_156 : (Try.prog.info? 156).map (·.size) = some 1 := by kernel_rfl
theorem sc_156 : scB Try.prog 156 = true := by kernel_rfl
theorem inf_157 : inf Try.prog 157 (.pointer none) 1 8 := by unfold inf; kernel_rfl
theorem ms_157 : (Try.prog.info? 157).map (·.size) = some 1 := by kernel_rfl
theorem sc_157 : scB Try.prog 157 = true := by kernel_rfl
theorem inf_158 : inf Try.prog 158 (.agg #[.slice none 0 0, .int .i64 0, .int .i64 0, .slice none 0 0, .slice none 0 0]) 5 88 := by unfold inf; kernel_rfl
theorem ms_158 : (Try.prog.info? 158).map (·.size) = some 5 := by kernel_rfl
theorem ag_158 : agB Try.prog 158 5 = true := by kernel_rfl
theorem fa_158_0 : faB Try.prog 158 0 0 = true := by kernel_rfl
theorem fa_158_1 : faB Try.prog 158 1 1 = true := by kernel_rfl
theorem inf_159 : inf Try.prog 159 (.agg #[.slice none 0 0, .int .i64 0, .int .i64 0, .slice none 0 0, .slice none 0 0]) 5 88 := by unfold inf; kernel_rfl
theorem ms_159 : (Try.prog.info? 159).map (·.size) = some 5 := by kernel_rfl
theorem ag_159 : agB Try.prog 159 5 = true := by kernel_rfl
theorem fa_159_0 : faB Try.prog 159 0 0 = true := by kernel_rfl
theorem fa_159_1 : faB Try.prog 159 1 1 = true := by kernel_rfl
theorem inf_160 : inf Try.prog 160 (.nilFunc) 1 8 := by unfold inf; kernel_rfl
theorem ms_160 : (Try.prog.info? 160).map (·.size) = some 1 := by kernel_rfl
theorem sc_160 : scB Try.prog 160 = true := by kernel_rfl
theorem inf_161 : inf Try.prog 161 (.nilFunc) 1 8 := by unfold inf; kernel_rfl
theorem ms_161 : (Try.prog.info? 161).map (·.size) = some 1 := by kernel_rfl
theorem sc_161 : scB Try.prog 161 = true := by kernel_rfl
theorem inf_162 : inf Try.prog 162 (.nilFunc) 1 8 := by unfold inf; kernel_rfl
theorem ms_162 : (Try.prog.info? 162).map (·.size) = some 1 := by kernel_rfl
theorem sc_162 : scB Try.prog 162 = true := by kernel_rfl
theorem inf_163 : inf Try.prog 163 (.nilFunc) 1 8 := by unfold inf; kernel_rfl
theorem ms_163 : (Try.prog.info? 163).map (·.size) = some 1 := by kernel_rfl
theorem sc_163 : scB Try.prog 163 = true := by kernel_rfl
theorem inf_165 : inf Try.prog 165 (.nilFunc) 1 8 := by unfold inf; kernel_rfl
theorem ms_165 : (Try.prog.info? 165).map (·.size) = some 1 := by kernel_rfl
theorem sc_165 : scB Try.prog 165 = true := by kernel_rfl
theorem inf_166 : inf Try.prog 166 (.nilFunc) 1 8 := by unfold inf; kernel_rfl
theorem ms_166 : (Try.prog.info? 166).map (·.size) = some 1 := by kernel_rfl
theorem sc_166 : scB Try.prog 166 = true := by kernel_rfl
theorem inf_167 : inf Try.prog 167 (.nilFunc) 1 8 := by unfold inf; kernel_rfl
theorem ms_167 : (Try.prog.info? 167).map (·.size) = some 1 := by kernel_rfl
theorem sc_167 : scB Try.prog 167 = true := by kernel_rfl
theorem inf_168 : inf Try.prog 168 (.nilFunc) 1 8 := by unfold inf; kernel_rfl
theorem ms_168 : (Try.prog.info? 168).map (·.size) = some 1 := by kernel_rfl
theorem sc_168 : scB Try.prog 168 = true := by kernel_rfl
theorem inf_169 : inf Try.prog 169 (.nilFunc) 1 8 := by unfold inf; kernel_rfl
theorem ms_169 : (Try.prog.info? 169).map (·.size) = some 1 := by kernel_rfl
theorem sc_169 : scB Try.prog 169 = true := by kernel_rfl
theorem inf_171 : inf Try.prog 171 (.nilFunc) 1 8 := by unfold inf; kernel_rfl
theorem ms_171 : (Try.prog.info? 171).map (·.size) = some 1 := by kernel_rfl
theorem sc_171 : scB Try.prog 171 = true := by kernel_rfl
theorem inf_172 : inf Try.prog 172 (.int .u64 0) 1 8 := by unfold inf; kernel_rfl
theorem ms_172 : (Try.prog.info? 172).map (·.size) = some 1 := by kernel_rfl
theorem sc_172 : scB Try.prog 172 = true := by kernel_rfl
theorem inf_173 : inf Try.prog 173 (.nilFunc) 1 8 := by unfold inf; kernel_rfl
theorem ms_173 : (Try.prog.info? 173).map (·.size) = some 1 := by kernel_rfl
theorem sc_173 : scB Try.prog 173 = true := by kernel_rfl
theorem inf_174 : inf Try.prog 174 (.nilFunc) 1 8 := by unfold inf; kernel_rfl
theorem ms_174 : (Try.prog.info? 174).map (·.size) = some 1 := by kernel_rfl
theorem sc_174 : scB Try.prog 174 = true := by kernel_rfl
theorem inf_175 : inf Try.prog 175 (.nilFunc) 1 8 := by unfold inf; kernel_rfl
theorem ms_175 : (Try.prog.info? 175).map (·.size) = some 1 := by kernel_rfl
theorem sc_175 : scB Try.prog 175 = true := by kernel_rfl
theorem inf_176 : inf Try.prog 176 (.nilFunc) 1 8 := by unfold inf; kernel_rfl
theorem ms_176 : (Try.prog.info? 176).map (·.size) = some 1 := by kernel_rfl
theorem sc_176 : scB Try.prog 176 = true := by kernel_rfl
theorem inf_178 : inf Try.prog 178 (.nilFunc) 1 8 := by unfold inf; kernel_rfl
theorem ms_178 : (Try.prog.info? 178).map (·.size) = some 1 := by kernel_rfl
theorem sc_178 : scB Try.prog 178 = true := by kernel_rfl
theorem inf_179 : inf Try.prog 179 (.nilFunc) 1 8 := by unfold inf; kernel_rfl
theorem ms_179 : (Try.prog.info? 179).map (·.size) = some 1 := by kernel_rfl
theorem sc_179 : scB Try.prog 179 = true := by kernel_rfl
theorem inf_180 : inf Try.prog 180 (.nilFunc) 1 8 := by unfold inf; kernel_rfl
theorem ms_180 : (Try.prog.info? 180).map (·.size) = some 1 := by kernel_rfl
theorem sc_180 : scB Try.prog 180 = true := by kernel_rfl
theorem inf_181 : inf Try.prog 181 (.agg #[.pointer none, .pointer none, .pointer none, .string ⟨#[]⟩]) 4 40 := by unfold inf; kernel_rfl
theorem ms_181 : (Try.prog.info? 181).map (·.size) = some 4 := by kernel_rfl
theorem ag_181 : agB Try.prog 181 4 = true := by kernel_rfl
theorem fa_181_0 : faB Try.prog 181 0 0 = true := by kernel_rfl
theorem fa_181_1 : faB Try.prog 181 1 1 = true := by kernel_rfl
theorem fa_181_2 : faB Try.prog 181 2 2 = true := by kernel_rfl
theorem fa_181_3 : faB Try.prog 181 3 3 = true := by kernel_rfl
theorem inf_182 : inf Try.prog 182 (.agg #[.pointer none, .pointer none, .pointer none, .string ⟨#[]⟩]) 4 40 := by unfold inf; kernel_rfl
theorem ms_182 : (Try.prog.info? 182).map (·.size) = some 4 := by kernel_rfl
theorem ag_182 : agB Try.prog 182 4 = true := by kernel_rfl
theorem fa_182_0 : faB Try.prog 182 0 0 = true := by kernel_rfl
theorem fa_182_1 : faB Try.prog 182 1 1 = true := by kernel_rfl
theorem fa_182_2 : faB Try.prog 182 2 2 = true := by kernel_rfl
theorem fa_182_3 : faB Try.prog 182 3 3 = true := by kernel_rfl
theorem inf_183 : inf Try.prog 183 (.agg #[]) 0 0 := by unfold inf; kernel_rfl
theorem ms_183 : (Try.prog.info? 183).map (·.size) = some 0 := by kernel_rfl
theorem ag_183 : agB Try.prog 183 0 = true := by kernel_rfl
theorem inf_184 : inf Try.prog 184 (.agg #[]) 0 0 := by unfold inf; kernel_rfl
theorem ms_184 : (Try.prog.info? 184).map (·.size) = some 0 := by kernel_rfl
theorem ag_184 : agB Try.prog 184 0 = true := by kernel_rfl
theorem inf_185 : inf Try.prog 185 (.agg #[]) 0 0 := by unfold inf; kernel_rfl
theorem ms_185 : (Try.prog.info? 185).map (·.size) = some 0 := by kernel_rfl
theorem ag_185 : agB Try.prog 185 0 = true := by kernel_rfl
theorem inf_186 : inf Try.prog 186 (.nilFunc) 1 8 := by unfold inf; kernel_rfl
theorem ms_186 : (Try.prog.info? 186).map (·.size) = some 1 := by kernel_rfl
theorem sc_186 : scB Try.prog 186 = true := by kernel_rfl
theorem inf_187 : inf Try.prog 187 (.int .u32 0) 1 4 := by unfold inf; kernel_rfl
theorem ms_187 : (Try.prog.info? 187).map (·.size) = some 1 := by kernel_rfl
theorem sc_187 : scB Try.prog 187 = true := by kernel_rfl
theorem inf_188 : inf Try.prog 188 (.int .u8 0) 1 1 := by unfold inf; kernel_rfl
theorem ms_188 : (Try.prog.info? 188).map (·.size) = some 1 := by kernel_rfl
theorem sc_188 : scB Try.prog 188 = true := by kernel_rfl
theorem inf_189 : inf Try.prog 189 (.int .u8 0) 1 1 := by unfold inf; kernel_rfl
theorem ms_189 : (Try.prog.info? 189).map (·.size) = some 1 := by kernel_rfl
theorem sc_189 : scB Try.prog 189 = true := by kernel_rfl
theorem inf_190 : inf Try.prog 190 (.nilFunc) 1 8 := by unfold inf; kernel_rfl
theorem ms_190 : (Try.prog.info? 190).map (·.size) = some 1 := by kernel_rfl
theorem sc_190 : scB Try.prog 190 = true := by kernel_rfl
theorem inf_191 : inf Try.prog 191 (.pointer none) 1 8 := by unfold inf; kernel_rfl
theorem ms_191 : (Try.prog.info? 191).map (·.size) = some 1 := by kernel_rfl
theorem sc_191 : scB Try.prog 191 = true := by kernel_rfl
theorem inf_192 : inf Try.prog 192 (.int .i32 0) 1 4 := by unfold inf; kernel_rfl
theorem ms_192 : (Try.prog.info? 192).map (·.size) = some 1 := by kernel_rfl
theorem sc_192 : scB Try.prog 192 = true := by kernel_rfl
theorem inf_193 : inf Try.prog 193 (.int .i32 0) 1 4 := by unfold inf; kernel_rfl
theorem ms_193 : (Try.prog.info? 193).map (·.size) = some 1 := by kernel_rfl
theorem sc_193 : scB Try.prog 193 = true := by kernel_rfl
theorem inf_194 : inf Try.prog 194 (.agg #[.int .u64 0, .int .u64 0, .int .u32 0, .int .u8 0, .int .u8 0, .int .u8 0, .int .u8 0, .nilFunc, .pointer none, .int .i32 0, .int .i32 0]) 11 48 := by unfold inf; kernel_rfl
theorem ms_194 : (Try.prog.info? 194).map (·.size) = some 11 := by kernel_rfl
theorem ag_194 : agB Try.prog 194 11 = true := by kernel_rfl
theorem fa_194_0 : faB Try.prog 194 0 0 = true := by kernel_rfl
theorem fa_194_1 : faB Try.prog 194 1 1 = true := by kernel_rfl
theorem fa_194_2 : faB Try.prog 194 2 2 = true := by kernel_rfl
theorem fa_194_3 : faB Try.prog 194 3 3 = true := by kernel_rfl
theorem fa_194_4 : faB Try.prog 194 4 4 = true := by kernel_rfl
theorem fa_194_5 : faB Try.prog 194 5 5 = true := by kernel_rfl
theorem fa_194_6 : faB Try.prog 194 6 6 = true := by kernel_rfl
theorem fa_194_7 : faB Try.prog 194 7 7 = true := by kernel_rfl
theorem fa_194_8 : faB Try.prog 194 8 8 = true := by kernel_rfl
theorem fa_194_9 : faB Try.prog 194 9 9 = true := by kernel_rfl
theorem fa_194_10 : faB Try.prog 194 10 10 = true := by kernel_rfl
theorem inf_195 : inf Try.prog 195 (.agg #[.int .u64 0, .int .u64 0, .int .u32 0, .int .u8 0, .int .u8 0, .int .u8 0, .int .u8 0, .nilFunc, .pointer none, .int .i32 0, .int .i32 0]) 11 48 := by unfold inf; kernel_rfl
theorem ms_195 : (Try.prog.info? 195).map (·.size) = some 11 := by kernel_rfl
theorem ag_195 : agB Try.prog 195 11 = true := by kernel_rfl
theorem fa_195_0 : faB Try.prog 195 0 0 = true := by kernel_rfl
theorem fa_195_1 : faB Try.prog 195 1 1 = true := by kernel_rfl
theorem fa_195_2 : faB Try.prog 195 2 2 = true := by kernel_rfl
theorem fa_195_3 : faB Try.prog 195 3 3 = true := by kernel_rfl
theorem fa_195_4 : faB Try.prog 195 4 4 = true := by kernel_rfl
theorem fa_195_5 : faB Try.prog 195 5 5 = true := by kernel_rfl
theorem fa_195_6 : faB Try.prog 195 6 6 = true := by kernel_rfl
theorem fa_195_7 : faB Try.prog 195 7 7 = true := by kernel_rfl
theorem fa_195_8 : faB Try.prog 195 8 8 = true := by kernel_rfl
theorem fa_195_9 : faB Try.prog 195 9 9 = true := by kernel_rfl
theorem fa_195_10 : faB Try.prog 195 10 10 = true := by kernel_rfl
theorem inf_196 : inf Try.prog 196 (.pointer none) 1 8 := by unfold inf; kernel_rfl
theorem ms_196 : (Try.prog.info? 196).map (·.size) = some 1 := by kernel_rfl
theorem cb_3 : callB Try.prog 3 = true := by kernel_rfl
theorem cb_4 : callB Try.prog 4 = true := by kernel_rfl
theorem cb_5 : callB Try.prog 5 = true := by kernel_rfl
theorem cb_6 : callB Try.prog 6 = true := by kernel_rfl
theorem cb_7 : callB Try.prog 7 = true := by kernel_rfl
theorem cb_8 : callB Try.prog 8 = true := by kernel_rfl
theorem cb_9 : callB Try.prog 9 = true := by kernel_rfl
theorem cb_10 : callB Try.prog 10 = true := by kernel_rfl
theorem cb_11 : callB Try.prog 11 = true := by kernel_rfl
theorem cb_12 : callB Try.prog 12 = true := by kernel_rfl
theorem cb_13 : callB Try.prog 13 = true := by kernel_rfl
theorem cb_14 : callB Try.prog 14 = true := by kernel_rfl
theorem cb_15 : callB Try.prog 15 = true := by kernel_rfl
theorem cb_16 : callB Try.prog 16 = true := by kernel_rfl
theorem cb_17 : callB Try.prog 17 = true := by kernel_rfl
theorem cb_18 : callB Try.prog 18 = true := by kernel_rfl
theorem cb_19 : callB Try.prog 19 = true := by kernel_rfl
theorem cb_20 : callB Try.prog 20 = true := by kernel_rfl
theorem cb_21 : callB Try.prog 21 = true := by kernel_rfl
theorem cb_22 : callB Try.prog 22 = true := by kernel_rfl
theorem cb_23 : callB Try.prog 23 = true := by kernel_rfl
theorem cb_24 : callB Try.prog 24 = true := by kernel_rfl
theorem cb_25 : callB Try.prog 25 = true := by kernel_rfl
theorem cb_26 : callB Try.prog 26 = true := by kernel_rfl
theorem cb_27 : callB Try.prog 27 = true := by kernel_rfl
theorem cb_28 : callB Try.prog 28 = true := by kernel_rfl
theorem cb_29 : callB Try.prog 29 = true := by kernel_rfl
theorem cb_30 : callB Try.prog 30 = true := by kernel_rfl
theorem cb_31 : callB Try.prog 31 = true := by kernel_rfl
theorem cb_32 : callB Try.prog 32 = true := by kernel_rfl
theorem cb_33 : callB Try.prog 33 = true := by kernel_rfl
theorem cb_34 : callB Try.prog 34 = true := by kernel_rfl
theorem cb_35 : callB Try.prog 35 = true := by kernel_rfl
theorem cb_36 : callB Try.prog 36 = true := by kernel_rfl
theorem cb_37 : callB Try.prog 37 = true := by kernel_rfl
theorem cb_38 : callB Try.prog 38 = true := by kernel_rfl
theorem cb_39 : callB Try.prog 39 = true := by kernel_rfl
theorem cb_40 : callB Try.prog 40 = true := by kernel_rfl
theorem cb_41 : callB Try.prog 41 = true := by kernel_rfl
theorem cb_42 : callB Try.prog 42 = true := by kernel_rfl
theorem cb_43 : callB Try.prog 43 = true := by kernel_rfl
theorem cb_44 : callB Try.prog 44 = true := by kernel_rfl
theorem cb_45 : callB Try.prog 45 = true := by kernel_rfl
theorem cb_46 : callB Try.prog 46 = true := by kernel_rfl
theorem cb_47 : callB Try.prog 47 = true := by kernel_rfl
theorem cb_48 : callB Try.prog 48 = true := by kernel_rfl
theorem cb_49 : callB Try.prog 49 = true := by kernel_rfl
theorem cb_50 : callB Try.prog 50 = true := by kernel_rfl
theorem cb_51 : callB Try.prog 51 = true := by kernel_rfl
theorem cb_52 : callB Try.prog 52 = true := by kernel_rfl
theorem cb_53 : callB Try.prog 53 = true := by kernel_rfl
theorem cb_54 : callB Try.prog 54 = true := by kernel_rfl
theorem cb_55 : callB Try.prog 55 = true := by kernel_rfl
theorem cb_56 : callB Try.prog 56 = true := by kernel_rfl
theorem cb_57 : callB Try.prog 57 = true := by kernel_rfl
theorem cb_58 : callB Try.prog 58 = true := by kernel_rfl
theorem cb_59 : callB Try.prog 59 = true := by kernel_rfl
theorem cb_60 : callB Try.prog 60 = true := by kernel_rfl
theorem cb_61 : callB Try.prog 61 = true := by kernel_rfl
theorem cb_62 : callB Try.prog 62 = true := by kernel_rfl
theorem cb_63 : callB Try.prog 63 = true := by kernel_rfl
theorem cb_64 : callB Try.prog 64 = true := by kernel_rfl
theorem cb_65 : callB Try.prog 65 = true := by kernel_rfl
theorem cb_66 : callB Try.prog 66 = true := by kernel_rfl
theorem cb_67 : callB Try.prog 67 = true := by kernel_rfl
theorem cb_68 : callB Try.prog 68 = true := by kernel_rfl
theorem cb_69 : callB Try.prog 69 = true := by kernel_rfl
theorem cb_70 : callB Try.prog 70 = true := by kernel_rfl
theorem cb_71 : callB Try.prog 71 = true := by kernel_rfl
theorem cb_72 : callB Try.prog 72 = true := by kernel_rfl
theorem cb_73 : callB Try.prog 73 = true := by kernel_rfl
theorem cb_74 : callB Try.prog 74 = true := by kernel_rfl
theorem cb_75 : callB Try.prog 75 = true := by kernel_rfl
theorem cb_76 : callB Try.prog 76 = true := by kernel_rfl
theorem cb_77 : callB Try.prog 77 = true := by kernel_rfl
theorem cb_78 : callB Try.prog 78 = true := by kernel_rfl
theorem cb_79 : callB Try.prog 79 = true := by kernel_rfl
theorem cb_80 : callB Try.prog 80 = true := by kernel_rfl
theorem cb_81 : callB Try.prog 81 = true := by kernel_rfl
theorem cb_82 : callB Try.prog 82 = true := by kernel_rfl
theorem cb_83 : callB Try.prog 83 = true := by kernel_rfl
theorem cb_84 : callB Try.prog 84 = true := by kernel_rfl
theorem cb_85 : callB Try.prog 85 = true := by kernel_rfl
theorem cb_86 : callB Try.prog 86 = true := by kernel_rfl
theorem cb_87 : callB Try.prog 87 = true := by kernel_rfl
theorem cb_88 : callB Try.prog 88 = true := by kernel_rfl
theorem cb_89 : callB Try.prog 89 = true := by kernel_rfl
theorem cb_90 : callB Try.prog 90 = true := by kernel_rfl
theorem cb_91 : callB Try.prog 91 = true := by kernel_rfl
theorem cb_92 : callB Try.prog 92 = true := by kernel_rfl
theorem cb_93 : callB Try.prog 93 = true := by kernel_rfl
theorem cb_94 : callB Try.prog 94 = true := by kernel_rfl
theorem cb_95 : callB Try.prog 95 = true := by kernel_rfl
theorem cb_96 : callB Try.prog 96 = true := by kernel_rfl
theorem cb_97 : callB Try.prog 97 = true := by kernel_rfl
theorem cb_98 : callB Try.prog 98 = true := by kernel_rfl
theorem cb_99 : callB Try.prog 99 = true := by kernel_rfl
theorem cb_100 : callB Try.prog 100 = true := by kernel_rfl
theorem cb_101 : callB Try.prog 101 = true := by kernel_rfl
theorem cb_102 : callB Try.prog 102 = true := by kernel_rfl
theorem cb_103 : callB Try.prog 103 = true := by kernel_rfl
theorem cb_104 : callB Try.prog 104 = true := by kernel_rfl
theorem cb_105 : callB Try.prog 105 = true := by kernel_rfl
theorem cb_106 : callB Try.prog 106 = true := by kernel_rfl
theorem cb_107 : callB Try.prog 107 = true := by kernel_rfl
theorem cb_108 : callB Try.prog 108 = true := by kernel_rfl
theorem cb_109 : callB Try.prog 109 = true := by kernel_rfl
theorem cb_110 : callB Try.prog 110 = true := by kernel_rfl
theorem cb_111 : callB Try.prog 111 = true := by kernel_rfl
theorem cb_112 : callB Try.prog 112 = true := by kernel_rfl
theorem cb_113 : callB Try.prog 113 = true := by kernel_rfl
theorem cb_114 : callB Try.prog 114 = true := by kernel_rfl
theorem cb_115 : callB Try.prog 115 = true := by kernel_rfl
theorem cb_116 : callB Try.prog 116 = true := by kernel_rfl
theorem mix : Try.prog.follows .mixedOrders = true := by kernel_rfl
end Go.Proofs.Ytoflleabpkgdpaa
