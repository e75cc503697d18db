/- Facts on the translation's types, fields and functions. No conditions. -/
import Derived.Test.YteaknconpkklhaaTy
import Derived.Test.YteaknconpkklhaaProg
set_option linter.unusedVariables false
set_option linter.unusedSimpArgs false
namespace Go.Proofs.Yteaknconpkklhaa
open Go Go.Proofs
theorem i1 : inf Try.prog 1 (.nilFunc) 1 8 := by unfold inf; kernel_rfl
theorem m1 : (Try.prog.info? 1).map (·.size) = some 1 := by kernel_rfl
theorem s1 : scB Try.prog 1 = true := by kernel_rfl
theorem i2 : inf Try.prog 2 (.int .i64 0) 1 8 := by unfold inf; kernel_rfl
theorem m2 : (Try.prog.info? 2).map (·.size) = some 1 := by kernel_rfl
theorem u2 : Try.prog.underlying 2 = some (.int .i64) := Try.underlying2
theorem s2 : scB Try.prog 2 = true := by kernel_rfl
theorem i3 : inf Try.prog 3 (.int .i64 0) 1 8 := by unfold inf; kernel_rfl
theorem m3 : (Try.prog.info? 3).map (·.size) = some 1 := by kernel_rfl
theorem u3 : Try.prog.underlying 3 = some (.int .i64) := Try.underlying3
theorem s3 : scB Try.prog 3 = true := by kernel_rfl
theorem i4 : inf Try.prog 4 (.bool false) 1 1 := by unfold inf; kernel_rfl
theorem m4 : (Try.prog.info? 4).map (·.size) = some 1 := by kernel_rfl
theorem s4 : scB Try.prog 4 = true := by kernel_rfl
theorem u5 : Try.prog.underlying 5 = some (.int .u8) := Try.underlying5
theorem i25 : inf Try.prog 25 (.slice none 0 0) 1 24 := by unfold inf; kernel_rfl
theorem m25 : (Try.prog.info? 25).map (·.size) = some 1 := by kernel_rfl
theorem u25 : Try.prog.underlying 25 = some (.slice 3) := Try.underlying25
theorem s25 : scB Try.prog 25 = true := by kernel_rfl
theorem ifc_27 : Try.prog.underlying 27 = some (.interface (Try.prog.methodsAt 27)) := by kernel_rfl
theorem m33 : (Try.prog.info? 33).map (·.size) = some 1 := by kernel_rfl
theorem u33 : Try.prog.underlying 33 = some (.slice 40) := Try.underlying33
theorem s33 : scB Try.prog 33 = true := by kernel_rfl
theorem i35 : inf Try.prog 35 (.agg #[.slice none 0 0]) 1 24 := by unfold inf; kernel_rfl
theorem m35 : (Try.prog.info? 35).map (·.size) = some 1 := by kernel_rfl
theorem ag_35 : agB Try.prog 35 1 = true := by kernel_rfl
theorem f35_0 : faB Try.prog 35 0 0 = true := by kernel_rfl
theorem m38 : (Try.prog.info? 38).map (·.size) = some 1 := by kernel_rfl
theorem u38 : Try.prog.underlying 38 = some (.slice 50) := Try.underlying38
theorem s38 : scB Try.prog 38 = true := by kernel_rfl
theorem i40 : inf Try.prog 40 (.agg #[.int .i64 0, .int .i64 0, .slice none 0 0, .slice none 0 0]) 4 64 := by unfold inf; kernel_rfl
theorem m40 : (Try.prog.info? 40).map (·.size) = some 4 := by kernel_rfl
theorem ag_40 : agB Try.prog 40 4 = true := by kernel_rfl
theorem f40_0 : faB Try.prog 40 0 0 = true := by kernel_rfl
theorem f40_1 : faB Try.prog 40 1 1 = true := by kernel_rfl
theorem f40_2 : faB Try.prog 40 2 2 = true := by kernel_rfl
theorem f40_3 : faB Try.prog 40 3 3 = true := by kernel_rfl
theorem i46 : inf Try.prog 46 (.agg #[.int .i64 0, .int .i64 0, .slice none 0 0]) 3 40 := by unfold inf; kernel_rfl
theorem m46 : (Try.prog.info? 46).map (·.size) = some 3 := by kernel_rfl
theorem ag_46 : agB Try.prog 46 3 = true := by kernel_rfl
theorem f46_0 : faB Try.prog 46 0 0 = true := by kernel_rfl
theorem f46_1 : faB Try.prog 46 1 1 = true := by kernel_rfl
theorem f46_2 : faB Try.prog 46 2 2 = true := by kernel_rfl
theorem m47 : (Try.prog.info? 47).map (·.size) = some 1 := by kernel_rfl
theorem u47 : Try.prog.underlying 47 = some (.slice 76) := Try.underlying47
theorem s47 : scB Try.prog 47 = true := by kernel_rfl
theorem m48 : (Try.prog.info? 48).map (·.size) = some 1 := by kernel_rfl
theorem u48 : Try.prog.underlying 48 = some (.slice 52) := Try.underlying48
theorem s48 : scB Try.prog 48 = true := by kernel_rfl
theorem i50 : inf Try.prog 50 (.agg #[.slice none 0 0, .slice none 0 0, .int .i64 0, .int .i64 0, .slice none 0 0]) 5 88 := by unfold inf; kernel_rfl
theorem m50 : (Try.prog.info? 50).map (·.size) = some 5 := by kernel_rfl
theorem ag_50 : agB Try.prog 50 5 = true := by kernel_rfl
theorem f50_0 : faB Try.prog 50 0 0 = true := by kernel_rfl
theorem f50_1 : faB Try.prog 50 1 1 = true := by kernel_rfl
theorem f50_2 : faB Try.prog 50 2 2 = true := by kernel_rfl
theorem i52 : inf Try.prog 52 (.agg #[.int .i64 0, .int .i64 0, .slice none 0 0, .int .i64 0, .int .i64 0]) 5 56 := by unfold inf; kernel_rfl
theorem m52 : (Try.prog.info? 52).map (·.size) = some 5 := by kernel_rfl
theorem ag_52 : agB Try.prog 52 5 = true := by kernel_rfl
theorem f52_0 : faB Try.prog 52 0 0 = true := by kernel_rfl
theorem f52_1 : faB Try.prog 52 1 1 = true := by kernel_rfl
theorem f52_2 : faB Try.prog 52 2 2 = true := by kernel_rfl
theorem f52_3 : faB Try.prog 52 3 3 = true := by kernel_rfl
theorem f52_4 : faB Try.prog 52 4 4 = true := by kernel_rfl
theorem i60 : inf Try.prog 60 (.slice none 0 0) 1 24 := by unfold inf; kernel_rfl
theorem m60 : (Try.prog.info? 60).map (·.size) = some 1 := by kernel_rfl
theorem u60 : Try.prog.underlying 60 = some (.slice 25) := Try.underlying60
theorem s60 : scB Try.prog 60 = true := by kernel_rfl
theorem u62 : Try.prog.underlying 62 = some (.slice 88) := Try.underlying62
theorem s62 : scB Try.prog 62 = true := by kernel_rfl
theorem i64 : inf Try.prog 64 (.nilFunc) 1 8 := by unfold inf; kernel_rfl
theorem u70 : Try.prog.underlying 70 = some (.int .i64) := Try.underlying70
theorem cmp_70 : (Try.prog.info? 70).map (·.comparable) = some true := by kernel_rfl
theorem i76 : inf Try.prog 76 (.agg #[.int .i64 0, .slice none 0 0]) 2 32 := by unfold inf; kernel_rfl
theorem m76 : (Try.prog.info? 76).map (·.size) = some 2 := by kernel_rfl
theorem ag_76 : agB Try.prog 76 2 = true := by kernel_rfl
theorem f76_0 : faB Try.prog 76 0 0 = true := by kernel_rfl
theorem f76_1 : faB Try.prog 76 1 1 = true := by kernel_rfl
theorem f85_0 : faB Try.prog 85 0 0 = true := by kernel_rfl
theorem f85_1 : faB Try.prog 85 1 4 = true := by kernel_rfl
theorem f85_2 : faB Try.prog 85 2 5 = true := by kernel_rfl
theorem f85_3 : faB Try.prog 85 3 6 = true := by kernel_rfl
theorem f85_4 : faB Try.prog 85 4 7 = true := by kernel_rfl
theorem f85_5 : faB Try.prog 85 5 8 = true := by kernel_rfl
theorem f85_6 : faB Try.prog 85 6 9 = true := by kernel_rfl
theorem f85_7 : faB Try.prog 85 7 10 = true := by kernel_rfl
theorem f85_8 : faB Try.prog 85 8 11 = true := by kernel_rfl
theorem f85_9 : faB Try.prog 85 9 12 = true := by kernel_rfl
theorem f85_10 : faB Try.prog 85 10 13 = true := by kernel_rfl
theorem f85_11 : faB Try.prog 85 11 14 = true := by kernel_rfl
theorem i88 : inf Try.prog 88 (.slice none 0 0) 1 24 := by unfold inf; kernel_rfl
theorem m88 : (Try.prog.info? 88).map (·.size) = some 1 := by kernel_rfl
theorem u88 : Try.prog.underlying 88 = some (.slice 4) := Try.underlying88
theorem s88 : scB Try.prog 88 = true := by kernel_rfl
theorem i93 : inf Try.prog 93 (.slice none 0 0) 1 24 := by unfold inf; kernel_rfl
theorem m93 : (Try.prog.info? 93).map (·.size) = some 1 := by kernel_rfl
theorem u93 : Try.prog.underlying 93 = some (.slice 125) := Try.underlying93
theorem s93 : scB Try.prog 93 = true := by kernel_rfl
theorem u96 : Try.prog.underlying 96 = some (.pointer 98) := Try.underlying96
theorem f102_0 : faB Try.prog 102 0 0 = true := by kernel_rfl
theorem f102_1 : faB Try.prog 102 1 4 = true := by kernel_rfl
theorem f102_2 : faB Try.prog 102 2 5 = true := by kernel_rfl
theorem f102_3 : faB Try.prog 102 3 6 = true := by kernel_rfl
theorem i125 : inf Try.prog 125 (.agg #[.int .i64 0, .int .i64 0]) 2 16 := by unfold inf; kernel_rfl
theorem m125 : (Try.prog.info? 125).map (·.size) = some 2 := by kernel_rfl
theorem ag_125 : agB Try.prog 125 2 = true := by kernel_rfl
theorem f125_0 : faB Try.prog 125 0 0 = true := by kernel_rfl
theorem f125_1 : faB Try.prog 125 1 1 = true := by kernel_rfl
theorem i130 : inf Try.prog 130 (.nilFunc) 1 8 := by unfold inf; kernel_rfl
theorem m130 : (Try.prog.info? 130).map (·.size) = some 1 := by kernel_rfl
theorem s130 : scB Try.prog 130 = true := by kernel_rfl
theorem s140 : scB Try.prog 140 = true := by kernel_rfl
theorem f142_0 : faB Try.prog 142 0 0 = true := by kernel_rfl
theorem f142_1 : faB Try.prog 142 1 1 = true := by kernel_rfl
theorem c3 : callB Try.prog 3 = true := by kernel_rfl
theorem c4 : callB Try.prog 4 = true := by kernel_rfl
theorem c15 : callB Try.prog 15 = true := by kernel_rfl
theorem c16 : callB Try.prog 16 = true := by kernel_rfl
theorem c17 : callB Try.prog 17 = true := by kernel_rfl
theorem c18 : callB Try.prog 18 = true := by kernel_rfl
theorem c21 : callB Try.prog 21 = true := by kernel_rfl
theorem c22 : callB Try.prog 22 = true := by kernel_rfl
theorem c23 : callB Try.prog 23 = true := by kernel_rfl
theorem c39 : callB Try.prog 39 = true := by kernel_rfl
theorem c40 : callB Try.prog 40 = true := by kernel_rfl
theorem c41 : callB Try.prog 41 = true := by kernel_rfl
theorem c42 : callB Try.prog 42 = true := by kernel_rfl
theorem c43 : callB Try.prog 43 = true := by kernel_rfl
theorem c44 : callB Try.prog 44 = true := by kernel_rfl
theorem c45 : callB Try.prog 45 = true := by kernel_rfl
theorem c46 : callB Try.prog 46 = true := by kernel_rfl
theorem c47 : callB Try.prog 47 = true := by kernel_rfl
theorem c48 : callB Try.prog 48 = true := by kernel_rfl
theorem c51 : callB Try.prog 51 = true := by kernel_rfl
theorem c52 : callB Try.prog 52 = true := by kernel_rfl
theorem c53 : callB Try.prog 53 = true := by kernel_rfl
theorem c54 : callB Try.prog 54 = true := by kernel_rfl
theorem c55 : callB Try.prog 55 = true := by kernel_rfl
theorem c56 : callB Try.prog 56 = true := by kernel_rfl
theorem c57 : callB Try.prog 57 = true := by kernel_rfl
theorem c58 : callB Try.prog 58 = true := by kernel_rfl
theorem c59 : callB Try.prog 59 = true := by kernel_rfl
theorem c62 : callB Try.prog 62 = true := by kernel_rfl
theorem c71 : callB Try.prog 71 = true := by kernel_rfl
theorem c72 : callB Try.prog 72 = true := by kernel_rfl
theorem c73 : callB Try.prog 73 = true := by kernel_rfl
theorem c74 : callB Try.prog 74 = true := by kernel_rfl
theorem c75 : callB Try.prog 75 = true := by kernel_rfl
theorem c76 : callB Try.prog 76 = true := by kernel_rfl
theorem c77 : callB Try.prog 77 = true := by kernel_rfl
theorem c78 : callB Try.prog 78 = true := by kernel_rfl
theorem c79 : callB Try.prog 79 = true := by kernel_rfl
theorem c80 : callB Try.prog 80 = true := by kernel_rfl
theorem c81 : callB Try.prog 81 = true := by kernel_rfl
theorem c82 : callB Try.prog 82 = true := by kernel_rfl
theorem c83 : callB Try.prog 83 = true := by kernel_rfl
theorem c84 : callB Try.prog 84 = true := by kernel_rfl
theorem c85 : callB Try.prog 85 = true := by kernel_rfl
theorem c87 : callB Try.prog 87 = true := by kernel_rfl
theorem c92 : callB Try.prog 92 = true := by kernel_rfl
theorem c93 : callB Try.prog 93 = true := by kernel_rfl
theorem c94 : callB Try.prog 94 = true := by kernel_rfl
theorem c95 : callB Try.prog 95 = true := by kernel_rfl
theorem c96 : callB Try.prog 96 = true := by kernel_rfl
theorem c97 : callB Try.prog 97 = true := by kernel_rfl
theorem c98 : callB Try.prog 98 = true := by kernel_rfl
theorem c99 : callB Try.prog 99 = true := by kernel_rfl
theorem c100 : callB Try.prog 100 = true := by kernel_rfl
theorem c121 : callB Try.prog 121 = true := by kernel_rfl
theorem c122 : callB Try.prog 122 = true := by kernel_rfl
theorem c123 : callB Try.prog 123 = true := by kernel_rfl
theorem c124 : callB Try.prog 124 = true := by kernel_rfl
theorem c125 : callB Try.prog 125 = true := by kernel_rfl
theorem c126 : callB Try.prog 126 = true := by kernel_rfl
theorem c127 : callB Try.prog 127 = true := by kernel_rfl
theorem c137 : callB Try.prog 137 = true := by kernel_rfl
theorem c138 : callB Try.prog 138 = true := by kernel_rfl
theorem c139 : callB Try.prog 139 = true := by kernel_rfl
theorem c140 : callB Try.prog 140 = true := by kernel_rfl
theorem c141 : callB Try.prog 141 = true := by kernel_rfl
theorem c144 : callB Try.prog 144 = true := by kernel_rfl
theorem c145 : callB Try.prog 145 = true := by kernel_rfl
theorem c146 : callB Try.prog 146 = true := by kernel_rfl
theorem c147 : callB Try.prog 147 = true := by kernel_rfl
theorem mix : Try.prog.follows .mixedOrders = true := by kernel_rfl
end Go.Proofs.Yteaknconpkklhaa
