/- The walk through the program's functions: each one's pure reading, and that a call does what it says. No conditions. -/
import Derived.Test.YteaknconpkklhaaDoorV8
set_option linter.unusedVariables false
set_option linter.unusedSimpArgs false
namespace Go.Proofs.YteaknconpkklhaaDoor
open Go Go.Proofs
/-! ### fettle/fettleref08.Count -/
abbrev fettleref08_Count.R (r : Int) (v : Value) (A : List FP) : Prop := .int .i64 r = v ∧ A = []
def fettleref08_Count.nx8  (x10 : Int) : Option Int :=
  some x10
def fettleref08_Count.jn18 (x9 : Int) (x11 : Int) : Option (Ex Int (Int × Int)) :=
  some (.go (x11, (w64 (x9 + 1))))
def fettleref08_Count.nx35 (a1 : PFunc) (a6 : Int) (x9 : Int) (x17 : Int) : Option (Ex Int (Int × Int)) :=
  (idx a1.blocks x9).bind fun x18 =>
  if x18.term.arg = a6 then
    fettleref08_Count.jn18 x9 (w64 (x17 + 1))
  else
    fettleref08_Count.jn18 x9 x17
def fettleref08_Count.nx52 (x16 : Int) (x44 : Int) : Option (Ex Int (Int × Int)) :=
  some (.go (x44, (w64 (x16 + 1))))
def fettleref08_Count.jn64 (x43 : Int) (x65 : Int) : Option (Ex Int (Int × Int)) :=
  some (.go (x65, (w64 (x43 + 1))))
def fettleref08_Count.bd52 (a1 : PFunc) (a6 : Int) (x9 : Int) (x16 : Int) (x42 : Int) (x43 : Int) : Option (Ex Int (Int × Int)) :=
  (idx a1.blocks x9).bind fun x45 =>
  (idx x45.ins x16).bind fun x57 =>
  if x43 < (len x57.args) then
    (idx a1.blocks x9).bind fun x66 =>
    (idx x66.ins x16).bind fun x78 =>
    (idx x78.args x43).bind fun x86 =>
    if x86 = a6 then
      fettleref08_Count.jn64 x43 (w64 (x42 + 1))
    else
      fettleref08_Count.jn64 x43 x42
  else
    some (.ret x42)
def fettleref08_Count.bd35 (a1 : PFunc) (a6 : Int) (x9 : Int) (x15 : Int) (x16 : Int) : Option (Ex Int (Int × Int)) :=
  (idx a1.blocks x9).bind fun x30 =>
  if x16 < (len x30.ins) then
    (whl (fun (s : (Int × Int)) => fettleref08_Count.bd52 a1 a6 x9 x16 s.1 s.2) FUEL (x15, 0)).bind fun z =>
    fettleref08_Count.nx52 x16 z
  else
    some (.ret x15)
def fettleref08_Count.nx26 (a1 : PFunc) (a6 : Int) (x9 : Int) (x14 : Int) : Option (Ex Int (Int × Int)) :=
  (whl (fun (s : (Int × Int)) => fettleref08_Count.bd35 a1 a6 x9 s.1 s.2) FUEL (x14, 0)).bind fun z =>
  fettleref08_Count.nx35 a1 a6 x9 z
def fettleref08_Count.nx86 (x13 : Int) (x106 : Int) : Option (Ex Int (Int × Int)) :=
  some (.go (x106, (w64 (x13 + 1))))
def fettleref08_Count.jn98 (x105 : Int) (x127 : Int) : Option (Ex Int (Int × Int)) :=
  some (.go (x127, (w64 (x105 + 1))))
def fettleref08_Count.bd86 (a1 : PFunc) (a6 : Int) (x9 : Int) (x13 : Int) (x104 : Int) (x105 : Int) : Option (Ex Int (Int × Int)) :=
  (idx a1.blocks x9).bind fun x107 =>
  (idx x107.phis x13).bind fun x119 =>
  if x105 < (len x119.args) then
    (idx a1.blocks x9).bind fun x128 =>
    (idx x128.phis x13).bind fun x140 =>
    (idx x140.args x105).bind fun x148 =>
    if x148 = a6 then
      fettleref08_Count.jn98 x105 (w64 (x104 + 1))
    else
      fettleref08_Count.jn98 x105 x104
  else
    some (.ret x104)
def fettleref08_Count.bd26 (a1 : PFunc) (a6 : Int) (x9 : Int) (x12 : Int) (x13 : Int) : Option (Ex Int (Int × Int)) :=
  (idx a1.blocks x9).bind fun x92 =>
  if x13 < (len x92.phis) then
    (whl (fun (s : (Int × Int)) => fettleref08_Count.bd86 a1 a6 x9 x13 s.1 s.2) FUEL (x12, 0)).bind fun z =>
    fettleref08_Count.nx86 x13 z
  else
    some (.ret x12)
def fettleref08_Count.bd8 (a1 : PFunc) (a6 : Int) (x8 : Int) (x9 : Int) : Option (Ex Int (Int × Int)) :=
  if x9 < (len a1.blocks) then
    (whl (fun (s : (Int × Int)) => fettleref08_Count.bd26 a1 a6 x9 s.1 s.2) FUEL (x8, 0)).bind fun z =>
    fettleref08_Count.nx26 a1 a6 x9 z
  else
    some (.ret x8)
def fettleref08_Count (a1 : PFunc) (a6 : Int) : Option Int :=
  (whl (fun (s : (Int × Int)) => fettleref08_Count.bd8 a1 a6 s.1 s.2) FUEL (0, 0)).bind fun z =>
  fettleref08_Count.nx8 z
set_option maxHeartbeats 4000000 in
theorem fettleref08_Count_ok {E : World} {H : FP} {w : World} {a1 : PFunc} {a6 : Int} {v2 : Value} {v4 : Value} {r : Int} (h3 : SlI (kInt .i64) H a1.regs v2) (h5 : SlI kBlock H a1.blocks v4) (hp : fettleref08_Count a1 a6 = some r) (hst : St E H [] w) :
    Fn Tryd.prog 13 #[.agg #[.int .i64 a1.params, .int .i64 a1.result, v2, v4], .int .i64 a6] w fun v w' => ∃ A, fettleref08_Count.R r v A ∧ St E H A w' := by
 refine fb 116 [.tmp 4] Tryd.func13 rfl rfl rfl rfl rfl hst <| sr <| tb [.int .i64 a1.params, .int .i64 a1.result, v2, v4] rfl rfl fun b7 => ta rfl <| nz <| sr <| ta rfl <| nz <| TC.seq fun K1 k2 => sr <| ta rfl <| nz <| TC.block <| bE hp fun z_4 hz5 hr6 => ?_
 have J10 {x10 e9} (hq11 : x10 = z_4) : ∀ w, St E H [] w → K1 (ovr e9 [(5, .int .i64 x10)]) w := by
  subst hq11
  replace hp : fettleref08_Count.nx8 x10 = some r := hr6
  exact tg k2 <| sr <| tm rfl <| ta rfl <| nz <| TC.ret <| rt hp [] ⟨rfl, rfl⟩
 refine lp hz5 [0] rfl (fun s e L => ∃ x8 x9 e3, s = (x8, x9) ∧ e = ovr e3 [(1, .int .i64 a6), (2, .pointer (some ⟨b7, 0, none⟩)), (5, .int .i64 x8), (6, .int .i64 x9)] ∧ L = [bx b7 41 [.int .i64 a1.params, .int .i64 a1.result, v2, v4]]) ⟨_, _, _, rfl, ovr_eq _ _ rfl, rfl⟩ ?_
 rintro _ _ _ ⟨x8, x9, e3, rfl, rfl, rfl⟩ X7 hp hx8
 replace hp : fettleref08_Count.bd8 a1 a6 x8 x9 = some X7 := hp
 refine TC.seq fun K12 k13 => sr <| tm rfl <| tv (fa f41_3 rfl) rfl <| tv (lb s39 0 rfl rfl rfl) rfl <| tv (ln u39 h5 rfl) rfl <| tv (blt rfl rfl) rfl <| nz <| cD rfl hp (fun hc14 hp => ?_) fun hc14 hp => ?_
 · refine sk k13 rfl <| TC.seq fun K15 k16 => ?_
   have J18 {x11 e17} (hp : fettleref08_Count.jn18 x9 x11 = some X7) : ∀ w, St E H [bx b7 41 [.int .i64 a1.params, .int .i64 a1.result, v2, v4]] w → K15 (ovr e17 [(1, .int .i64 a6), (2, .pointer (some ⟨b7, 0, none⟩)), (5, .int .i64 x11), (6, .int .i64 x9)]) w := by
    exact tg k16 <| TC.region <| tm rfl <| tv (bad rfl rfl) rfl <| ta rfl <| nl <| gk hp [0] ⟨_, _, _, rfl, ovr_eq _ _ rfl, rfl⟩
   refine TC.block <| TC.seq fun K19 k20 => sr <| ta rfl <| nz <| TC.block <| bE hp fun z_22 hz23 hr24 => ?_
   have J73 {x14 e27} (hq74 : x14 = z_22) : ∀ w, St E H [bx b7 41 [.int .i64 a1.params, .int .i64 a1.result, v2, v4]] w → K19 (ovr e27 [(1, .int .i64 a6), (2, .pointer (some ⟨b7, 0, none⟩)), (5, .int .i64 x14), (6, .int .i64 x9)]) w := by
    subst hq74
    replace hp : fettleref08_Count.nx26 a1 a6 x9 x14 = some X7 := hr24
    refine tg k20 <| TC.seq fun K28 k29 => sr <| ta rfl <| nz <| TC.block <| bE hp fun z_31 hz32 hr33 => ?_
    have J39 {x17 e36} (hq40 : x17 = z_31) : ∀ w, St E H [bx b7 41 [.int .i64 a1.params, .int .i64 a1.result, v2, v4]] w → K28 (ovr e36 [(1, .int .i64 a6), (2, .pointer (some ⟨b7, 0, none⟩)), (5, .int .i64 x17), (6, .int .i64 x9)]) w := by
     subst hq40
     replace hp : fettleref08_Count.nx35 a1 a6 x9 x17 = some X7 := hr33
     refine tg k29 <| sr <| tv (fa f41_3 rfl) rfl <| tv (lb s39 0 rfl rfl rfl) rfl <| tm rfl <| ti u39 i60 h5 hp rfl rfl rfl rfl ?_
     rintro x18 b19 o20 _ hp ⟨v24, v26, v28, rfl, h25, h27, h29⟩ h23
     refine tv (fa f60_2 rfl) rfl <| tv (fa f56_1 rfl) rfl <| tv (lr s3 sH h23 3 rfl rfl) rfl <| tm rfl <| tv (beq rfl rfl) rfl <| nz <| cD rfl hp (fun hc38 hp => ?_) fun hc38 hp => ?_
     · exact TC.region <| tm rfl <| tv (bad rfl rfl) rfl <| ta rfl <| nl <| jn [0] (J18 hp)
     · exact TC.skip <| jn [0] (J18 hp)
    refine lp hz32 [0] rfl (fun s e L => ∃ x15 x16 e30, s = (x15, x16) ∧ e = ovr e30 [(1, .int .i64 a6), (2, .pointer (some ⟨b7, 0, none⟩)), (5, .int .i64 x15), (6, .int .i64 x9), (9, .int .i64 x16)] ∧ L = [bx b7 41 [.int .i64 a1.params, .int .i64 a1.result, v2, v4]]) ⟨_, _, _, rfl, ovr_eq _ _ rfl, rfl⟩ ?_
    rintro _ _ _ ⟨x15, x16, e30, rfl, rfl, rfl⟩ X34 hp hx35
    replace hp : fettleref08_Count.bd35 a1 a6 x9 x15 x16 = some X34 := hp
    refine TC.seq fun K41 k42 => sr <| tm rfl <| tv (fa f41_3 rfl) rfl <| tv (lb s39 0 rfl rfl rfl) rfl <| tm rfl <| ti u39 i60 h5 hp rfl rfl rfl rfl ?_
    rintro x30 b31 o32 _ hp ⟨v36, v38, v40, rfl, h37, h39, h41⟩ h35
    refine tv (fa f60_1 rfl) rfl <| tv (lr s58 sH h35 1 rfl rfl) rfl <| tv (ln u58 h39 rfl) rfl <| tv (blt rfl rfl) rfl <| nz <| cD rfl hp (fun hc44 hp => ?_) fun hc44 hp => ?_
    · refine sk k42 rfl <| TC.seq fun K45 k46 => TC.block <| sr <| ta rfl <| nz <| TC.block <| bE hp fun z_48 hz49 hr50 => ?_
      have J54 {x44 e53} (hq55 : x44 = z_48) : ∀ w, St E H [bx b7 41 [.int .i64 a1.params, .int .i64 a1.result, v2, v4]] w → K45 (ovr e53 [(1, .int .i64 a6), (2, .pointer (some ⟨b7, 0, none⟩)), (5, .int .i64 x44), (6, .int .i64 x9), (9, .int .i64 x16)]) w := by
       subst hq55
       replace hp : fettleref08_Count.nx52 x16 x44 = some X34 := hr50
       exact tg k46 <| TC.region <| tm rfl <| tv (bad rfl rfl) rfl <| ta rfl <| nl <| gk hp [0] ⟨_, _, _, rfl, ovr_eq _ _ rfl, rfl⟩
      refine lp hz49 [0] rfl (fun s e L => ∃ x42 x43 e47, s = (x42, x43) ∧ e = ovr e47 [(1, .int .i64 a6), (2, .pointer (some ⟨b7, 0, none⟩)), (5, .int .i64 x42), (6, .int .i64 x9), (9, .int .i64 x16), (10, .int .i64 x43)] ∧ L = [bx b7 41 [.int .i64 a1.params, .int .i64 a1.result, v2, v4]]) ⟨_, _, _, rfl, ovr_eq _ _ rfl, rfl⟩ ?_
      rintro _ _ _ ⟨x42, x43, e47, rfl, rfl, rfl⟩ X51 hp hx52
      replace hp : fettleref08_Count.bd52 a1 a6 x9 x16 x42 x43 = some X51 := hp
      refine TC.seq fun K56 k57 => sr <| tm rfl <| tv (fa f41_3 rfl) rfl <| tv (lb s39 0 rfl rfl rfl) rfl <| tm rfl <| ti u39 i60 h5 hp rfl rfl rfl rfl ?_
      rintro x45 b46 o47 _ hp ⟨v51, v53, v55, rfl, h52, h54, h56⟩ h50
      refine tv (fa f60_1 rfl) rfl <| tv (lr s58 sH h50 1 rfl rfl) rfl <| tm rfl <| ti u58 i62 h54 hp rfl rfl rfl rfl ?_
      rintro x57 b58 o59 _ hp ⟨v63, rfl, h64⟩ h62
      refine tv (fa f62_2 rfl) rfl <| tv (lr s32 sH h62 2 rfl rfl) rfl <| tv (ln u32 h64 rfl) rfl <| tv (blt rfl rfl) rfl <| nz <| cD rfl hp (fun hc60 hp => ?_) fun hc60 hp => ?_
      · refine sk k57 rfl <| TC.seq fun K61 k62 => ?_
        have J64 {x65 e63} (hp : fettleref08_Count.jn64 x43 x65 = some X51) : ∀ w, St E H [bx b7 41 [.int .i64 a1.params, .int .i64 a1.result, v2, v4]] w → K61 (ovr e63 [(1, .int .i64 a6), (2, .pointer (some ⟨b7, 0, none⟩)), (5, .int .i64 x65), (6, .int .i64 x9), (9, .int .i64 x16), (10, .int .i64 x43)]) w := by
         exact tg k62 <| TC.region <| tm rfl <| tv (bad rfl rfl) rfl <| ta rfl <| nl <| gk hp [0] ⟨_, _, _, rfl, ovr_eq _ _ rfl, rfl⟩
        refine TC.block <| sr <| tv (fa f41_3 rfl) rfl <| tv (lb s39 0 rfl rfl rfl) rfl <| tm rfl <| ti u39 i60 h5 hp rfl rfl rfl rfl ?_
        rintro x66 b67 o68 _ hp ⟨v72, v74, v76, rfl, h73, h75, h77⟩ h71
        refine tv (fa f60_1 rfl) rfl <| tv (lr s58 sH h71 1 rfl rfl) rfl <| tm rfl <| ti u58 i62 h75 hp rfl rfl rfl rfl ?_
        rintro x78 b79 o80 _ hp ⟨v84, rfl, h85⟩ h83
        refine tv (fa f62_2 rfl) rfl <| tv (lr s32 sH h83 2 rfl rfl) rfl <| tm rfl <| ti u32 i3 h85 hp rfl rfl rfl rfl ?_
        rintro x86 b87 o88 _ hp rfl h91
        refine tv (lr s3 sH h91 0 rfl rfl) rfl <| tm rfl <| tv (beq rfl rfl) rfl <| nz <| cD rfl hp (fun hc68 hp => ?_) fun hc68 hp => ?_
        · exact TC.region <| tm rfl <| tv (bad rfl rfl) rfl <| ta rfl <| nl <| jn [0] (J64 hp)
        · exact TC.skip <| jn [0] (J64 hp)
      · exact TC.exit <| jn [0] (J54 (ex_ret hp hx52))
    · exact TC.exit <| jn [0] (J39 (ex_ret hp hx35))
   refine lp hz23 [0] rfl (fun s e L => ∃ x12 x13 e21, s = (x12, x13) ∧ e = ovr e21 [(1, .int .i64 a6), (2, .pointer (some ⟨b7, 0, none⟩)), (5, .int .i64 x12), (6, .int .i64 x9), (7, .int .i64 x13)] ∧ L = [bx b7 41 [.int .i64 a1.params, .int .i64 a1.result, v2, v4]]) ⟨_, _, _, rfl, ovr_eq _ _ rfl, rfl⟩ ?_
   rintro _ _ _ ⟨x12, x13, e21, rfl, rfl, rfl⟩ X25 hp hx26
   replace hp : fettleref08_Count.bd26 a1 a6 x9 x12 x13 = some X25 := hp
   refine TC.seq fun K75 k76 => sr <| tm rfl <| tv (fa f41_3 rfl) rfl <| tv (lb s39 0 rfl rfl rfl) rfl <| tm rfl <| ti u39 i60 h5 hp rfl rfl rfl rfl ?_
   rintro x92 b93 o94 _ hp ⟨v98, v100, v102, rfl, h99, h101, h103⟩ h97
   refine tv (fa f60_0 rfl) rfl <| tv (lr s57 sH h97 0 rfl rfl) rfl <| tv (ln u57 h99 rfl) rfl <| tv (blt rfl rfl) rfl <| nz <| cD rfl hp (fun hc78 hp => ?_) fun hc78 hp => ?_
   · refine sk k76 rfl <| TC.seq fun K79 k80 => TC.block <| sr <| ta rfl <| nz <| TC.block <| bE hp fun z_82 hz83 hr84 => ?_
     have J88 {x106 e87} (hq89 : x106 = z_82) : ∀ w, St E H [bx b7 41 [.int .i64 a1.params, .int .i64 a1.result, v2, v4]] w → K79 (ovr e87 [(1, .int .i64 a6), (2, .pointer (some ⟨b7, 0, none⟩)), (5, .int .i64 x106), (6, .int .i64 x9), (7, .int .i64 x13)]) w := by
      subst hq89
      replace hp : fettleref08_Count.nx86 x13 x106 = some X25 := hr84
      exact tg k80 <| TC.region <| tm rfl <| tv (bad rfl rfl) rfl <| ta rfl <| nl <| gk hp [0] ⟨_, _, _, rfl, ovr_eq _ _ rfl, rfl⟩
     refine lp hz83 [0] rfl (fun s e L => ∃ x104 x105 e81, s = (x104, x105) ∧ e = ovr e81 [(1, .int .i64 a6), (2, .pointer (some ⟨b7, 0, none⟩)), (5, .int .i64 x104), (6, .int .i64 x9), (7, .int .i64 x13), (8, .int .i64 x105)] ∧ L = [bx b7 41 [.int .i64 a1.params, .int .i64 a1.result, v2, v4]]) ⟨_, _, _, rfl, ovr_eq _ _ rfl, rfl⟩ ?_
     rintro _ _ _ ⟨x104, x105, e81, rfl, rfl, rfl⟩ X85 hp hx86
     replace hp : fettleref08_Count.bd86 a1 a6 x9 x13 x104 x105 = some X85 := hp
     refine TC.seq fun K90 k91 => sr <| tm rfl <| tv (fa f41_3 rfl) rfl <| tv (lb s39 0 rfl rfl rfl) rfl <| tm rfl <| ti u39 i60 h5 hp rfl rfl rfl rfl ?_
     rintro x107 b108 o109 _ hp ⟨v113, v115, v117, rfl, h114, h116, h118⟩ h112
     refine tv (fa f60_0 rfl) rfl <| tv (lr s57 sH h112 0 rfl rfl) rfl <| tm rfl <| ti u57 i64 h114 hp rfl rfl rfl rfl ?_
     rintro x119 b120 o121 _ hp ⟨v125, rfl, h126⟩ h124
     refine tv (fa f64_1 rfl) rfl <| tv (lr s32 sH h124 1 rfl rfl) rfl <| tv (ln u32 h126 rfl) rfl <| tv (blt rfl rfl) rfl <| nz <| cD rfl hp (fun hc94 hp => ?_) fun hc94 hp => ?_
     · refine sk k91 rfl <| TC.seq fun K95 k96 => ?_
       have J98 {x127 e97} (hp : fettleref08_Count.jn98 x105 x127 = some X85) : ∀ w, St E H [bx b7 41 [.int .i64 a1.params, .int .i64 a1.result, v2, v4]] w → K95 (ovr e97 [(1, .int .i64 a6), (2, .pointer (some ⟨b7, 0, none⟩)), (5, .int .i64 x127), (6, .int .i64 x9), (7, .int .i64 x13), (8, .int .i64 x105)]) w := by
        exact tg k96 <| TC.region <| tm rfl <| tv (bad rfl rfl) rfl <| ta rfl <| nl <| gk hp [0] ⟨_, _, _, rfl, ovr_eq _ _ rfl, rfl⟩
       refine TC.block <| sr <| tv (fa f41_3 rfl) rfl <| tv (lb s39 0 rfl rfl rfl) rfl <| tm rfl <| ti u39 i60 h5 hp rfl rfl rfl rfl ?_
       rintro x128 b129 o130 _ hp ⟨v134, v136, v138, rfl, h135, h137, h139⟩ h133
       refine tv (fa f60_0 rfl) rfl <| tv (lr s57 sH h133 0 rfl rfl) rfl <| tm rfl <| ti u57 i64 h135 hp rfl rfl rfl rfl ?_
       rintro x140 b141 o142 _ hp ⟨v146, rfl, h147⟩ h145
       refine tv (fa f64_1 rfl) rfl <| tv (lr s32 sH h145 1 rfl rfl) rfl <| tm rfl <| ti u32 i3 h147 hp rfl rfl rfl rfl ?_
       rintro x148 b149 o150 _ hp rfl h153
       refine tv (lr s3 sH h153 0 rfl rfl) rfl <| tm rfl <| tv (beq rfl rfl) rfl <| nz <| cD rfl hp (fun hc102 hp => ?_) fun hc102 hp => ?_
       · exact TC.region <| tm rfl <| tv (bad rfl rfl) rfl <| ta rfl <| nl <| jn [0] (J98 hp)
       · exact TC.skip <| jn [0] (J98 hp)
     · exact TC.exit <| jn [0] (J88 (ex_ret hp hx86))
   · exact TC.exit <| jn [0] (J73 (ex_ret hp hx26))
 · exact TC.exit <| jn [] (J10 (ex_ret hp hx8))
/-! ### fettle/fettlelaw08.LiveTells -/
abbrev fettlelaw08_LiveTells.R (r : Bool) (v : Value) (A : List FP) : Prop := .bool r = v ∧ A = []
def fettlelaw08_LiveTells.nx119 (x6 : Bool) : Option Bool :=
  some x6
def fettlelaw08_LiveTells.nx142 (x40 : Int) : Option (Ex (Ex Bool Unit) Int) :=
  some (.go (w64 (x40 + 1)))
def fettlelaw08_LiveTells.bd142 (x8 : List (List Bool) × List (List Bool) × GErr) (x40 : Int) (x41 : List Bool × List Bool) (x55 : Int) : Option (Ex (Ex Bool Unit) Int) :=
  if x55 < (len x8.1) then
    (idx x8.1 x55).bind fun x56 =>
    (idx x56 x40).bind fun x64 =>
    (idx x41.1 x55).bind fun x70 =>
    (if (!(x64 == x70)) = true then some true else (idx x8.2.1 x55).bind fun x77 =>
    (idx x77 x40).bind fun x85 =>
    (idx x41.2 x55).bind fun x91 =>
    some (!(x85 == x91))).bind fun t76 =>
    if t76 = true then
      some (.ret (.ret false))
    else
      some (.go (w64 (x55 + 1)))
  else
    some (.ret (.go ()))
def fettlelaw08_LiveTells.bd119 (x8 : List (List Bool) × List (List Bool) × GErr) (x18 : List Int × GErr) (x28 : PFunc) (x40 : Int) : Option (Ex (Ex Bool Unit) Int) :=
  if x40 < (len x28.regs) then
    (fettleref08_Live x28 x40).bind fun x41 =>
    (idx x18.1 x40).bind fun x48 =>
    (fettleref08_Count x28 x40).bind fun x54 =>
    if ¬ x48 = x54 then
      some (.ret (.ret false))
    else
      (whl (fun (s : Int) => fettlelaw08_LiveTells.bd142 x8 x40 x41 s) FUEL 0).bind fun z =>
      match z with
        | .ret r => some (.ret (.ret r))
        | .go p => fettlelaw08_LiveTells.nx142 x40
  else
    some (.ret (.go ()))
def fettlelaw08_LiveTells.nx110 (x6 : Bool) (x8 : List (List Bool) × List (List Bool) × GErr) (x18 : List Int × GErr) (x28 : PFunc) : Option Bool :=
  (whl (fun (s : Int) => fettlelaw08_LiveTells.bd119 x8 x18 x28 s) FUEL 0).bind fun z =>
  match z with
    | .ret r => some r
    | .go p => fettlelaw08_LiveTells.nx119 x6
def fettlelaw08_LiveTells.bd110 (x8 : List (List Bool) × List (List Bool) × GErr) (x28 : PFunc) (x39 : Int) : Option (Ex (Ex Bool Unit) Int) :=
  if x39 < (len x8.1) then
    (idx x8.1 x39).bind fun x97 =>
    (if ¬ (len x97) = (len x28.regs) then some true else (idx x8.2.1 x39).bind fun x106 =>
    some (decide (¬ (len x106) = (len x28.regs)))).bind fun t105 =>
    if t105 = true then
      some (.ret (.ret false))
    else
      some (.go (w64 (x39 + 1)))
  else
    some (.ret (.go ()))
def fettlelaw08_LiveTells (a1 : PModule) (a4 : Int) : Option Bool :=
  (fettlelaw08_up).bind fun x6 =>
  (fettleref02_Small a1).bind fun x7 =>
  if (!x7) = true then
    some x6
  else
    (live_Live a1 a4).bind fun x8 =>
    (live_Count a1 a4).bind fun x18 =>
    (fettlelaw00_Of x8.2.2).bind fun x25 =>
    (fettlelaw00_Of x18.2).bind fun x26 =>
    (fettleref02_Module a1).bind fun x27 =>
    if ¬ x27.1 = 0 then
      some (decide (((((x6 = true ∧ x25.1 = x27.1) ∧ x25.2 = x27.2) ∧ x26.1 = x27.1) ∧ x26.2 = x27.2) ∧ (((len x8.1) = 0 ∧ (len x8.2.1) = 0) ∧ (len x18.1) = 0)))
    else
      if a4 < 0 ∨ a4 ≥ (len a1.funcs) then
        some (decide (((x6 = true ∧ x8.2.2 = (GErr.code 1)) ∧ x18.2 = (GErr.code 1)) ∧ (((len x8.1) = 0 ∧ (len x8.2.1) = 0) ∧ (len x18.1) = 0)))
      else
        (idx a1.funcs a4).bind fun x28 =>
        if ((((¬ x8.2.2 = GErr.no) ∨ (¬ x18.2 = GErr.no)) ∨ (¬ (len x8.1) = (len x28.blocks))) ∨ (¬ (len x8.2.1) = (len x28.blocks))) ∨ (¬ (len x18.1) = (len x28.regs)) then
          some false
        else
          (whl (fun (s : Int) => fettlelaw08_LiveTells.bd110 x8 x28 s) FUEL 0).bind fun z =>
          match z with
            | .ret r => some r
            | .go p => fettlelaw08_LiveTells.nx110 x6 x8 x18 x28
set_option maxHeartbeats 4000000 in
theorem fettlelaw08_LiveTells_ok {E : World} {H : FP} {w : World} {a1 : PModule} {a4 : Int} {v2 : Value} {r : Bool} (hG : GV H) (h3 : SlI kFunc H a1.funcs v2) (hp : fettlelaw08_LiveTells a1 a4 = some r) (hst : St E H [] w) :
    Fn Tryd.prog 3 #[.agg #[v2], .int .i64 a4] w fun v w' => ∃ A, fettlelaw08_LiveTells.R r v A ∧ St E H A w' := by
 refine fb 236 [.tmp 4] Tryd.func3 rfl rfl rfl rfl rfl hst <| sr <| tb [v2] rfl rfl fun b5 => ta rfl <| nz <| sr <| bE hp fun x6 hy1 hp => tc 0 [_] rfl c6 (fun _ => fettlelaw08_up_ok hy1) rfl ?_
 rintro _ _ ⟨rfl, rfl⟩
 refine ta rfl <| nz <| sr <| tv (lA (ds := [v2]) ag_24 0 rfl rfl rfl rfl) rfl <| bE hp fun x7 hy3 hp => tc 0 [_] rfl c7 (fun _ => fettleref02_Small_ok (a1 := a1) (h3.mono subH) hy3) rfl ?_
 rintro _ _ ⟨rfl, rfl⟩
 refine ta rfl <| nz <| TC.seq fun K5 k6 => sr <| tm rfl <| tv (rv_not rfl) rfl <| nz <| cB rfl hp (fun hc7 hp => ?_) fun hc7 hp => ?_
 · exact sr <| tm rfl <| ta rfl <| nz <| TC.ret <| rt hp [] ⟨rfl, rfl⟩
 · refine sk k6 rfl <| sr <| tv (lA (ds := [v2]) ag_24 0 rfl rfl rfl rfl) rfl <| tm rfl <| bE hp fun x8 hy8 hp => tc 0 [_] rfl c8 (fun _ => live_Live_ok (a1 := a1) (a4 := a4) (h3.mono subH) hy8) rfl ?_
   rintro _ _ ⟨v9, F10, v12, F13, v15, F16, rfl, rfl, h11, h14, h17⟩
   refine tm rfl <| tv (xt rfl rfl) rfl <| tv (xt rfl rfl) rfl <| tv (xt rfl rfl) rfl <| ta rfl <| ta rfl <| ta rfl <| nz <| sr <| tv (lA (ds := [v2]) ag_24 3 rfl rfl rfl rfl) rfl <| tm rfl <| bE hp fun x18 hy10 hp => tc 0 [_,_,_,_] rfl c9 (fun _ => live_Count_ok (a1 := a1) (a4 := a4) (h3.mono subH) hy10) rfl ?_
   rintro _ _ ⟨v19, F20, v22, F23, rfl, rfl, h21, h24⟩
   refine tm rfl <| tv (xt rfl rfl) rfl <| tv (xt rfl rfl) rfl <| ta rfl <| ta rfl <| nz <| sr <| tm rfl <| tv (ln u27 h11.ro rfl) rfl <| tv (beq rfl rfl) rfl <| tm rfl <| TL.cut 4 fun K12 k13 => ?_
   have J14 {e16} : ∀ w, St E H [F20, F23, F10, F13, F16, bx b5 24 [v2]] w → K12 (ovr e16 [(51, .bool (decide ((len x8.1) = 0 ∧ (len x8.2.1) = 0))), (1, .int .i64 a4), (2, .pointer (some ⟨b5, 0, none⟩)), (5, .bool x6), (7, v9), (8, v12), (9, v15), (10, v19), (11, v22)]) w := by
    refine tlg k13 <| tm rfl <| TL.cut 4 fun K17 k18 => ?_
    have J19 {e21} : ∀ w, St E H [F20, F23, F10, F13, F16, bx b5 24 [v2]] w → K17 (ovr e21 [(56, .bool (decide (((len x8.1) = 0 ∧ (len x8.2.1) = 0) ∧ (len x18.1) = 0))), (1, .int .i64 a4), (2, .pointer (some ⟨b5, 0, none⟩)), (5, .bool x6), (7, v9), (8, v12), (9, v15), (10, v19), (11, v22)]) w := by
     refine tlg k18 <| ta rfl <| nz <| sr <| tm rfl <| bE hp fun x25 hy22 hp => tc 0 [_,_,_,_,_,_] rfl c10 (fun _ => fettlelaw00_Of_ok (x := x8.2.2) (hG.more _) (subB 4 rfl) h17 hy22) rfl ?_
     rintro _ _ ⟨rfl, rfl⟩
     refine tm rfl <| tv (xt rfl rfl) rfl <| tv (xt rfl rfl) rfl <| ta rfl <| ta rfl <| nz <| sr <| tm rfl <| bE hp fun x26 hy24 hp => tc 0 [_,_,_,_,_,_] rfl c10 (fun _ => fettlelaw00_Of_ok (x := x18.2) (hG.more _) (subB 1 rfl) h24 hy24) rfl ?_
     rintro _ _ ⟨rfl, rfl⟩
     refine tm rfl <| tv (xt rfl rfl) rfl <| tv (xt rfl rfl) rfl <| ta rfl <| ta rfl <| nz <| sr <| tv (lA (ds := [v2]) ag_24 5 rfl rfl rfl rfl) rfl <| bE hp fun x27 hy26 hp => tc 0 [_,_,_,_,_,_] rfl c11 (fun _ => fettleref02_Module_ok (a1 := a1) (h3.mono subH) hy26) rfl ?_
     rintro _ _ ⟨rfl, rfl⟩
     refine tm rfl <| tv (xt rfl rfl) rfl <| tv (xt rfl rfl) rfl <| ta rfl <| ta rfl <| nz <| TC.seq fun K28 k29 => sr <| tm rfl <| tv (bne rfl rfl) rfl <| nz <| cD rfl hp (fun hc30 hp => ?_) fun hc30 hp => ?_
     · refine sr <| tm rfl <| tm rfl <| TL.cut 4 fun K31 k32 => ?_
       have J33 {e35} : ∀ w, St E H [F20, F23, F10, F13, F16, bx b5 24 [v2]] w → K31 (ovr e35 [(79, .bool (decide (x6 = true ∧ x25.1 = x27.1))), (12, .bool (decide (((len x8.1) = 0 ∧ (len x8.2.1) = 0) ∧ (len x18.1) = 0))), (14, .int .i64 x25.2), (15, .int .i64 x26.1), (16, .int .i64 x26.2), (17, .int .i64 x27.1), (18, .int .i64 x27.2)]) w := by
        refine tlg k32 <| tm rfl <| TL.cut 4 fun K36 k37 => ?_
        have J38 {e40} : ∀ w, St E H [F20, F23, F10, F13, F16, bx b5 24 [v2]] w → K36 (ovr e40 [(84, .bool (decide ((x6 = true ∧ x25.1 = x27.1) ∧ x25.2 = x27.2))), (12, .bool (decide (((len x8.1) = 0 ∧ (len x8.2.1) = 0) ∧ (len x18.1) = 0))), (15, .int .i64 x26.1), (16, .int .i64 x26.2), (17, .int .i64 x27.1), (18, .int .i64 x27.2)]) w := by
         refine tlg k37 <| tm rfl <| TL.cut 4 fun K41 k42 => ?_
         have J43 {e45} : ∀ w, St E H [F20, F23, F10, F13, F16, bx b5 24 [v2]] w → K41 (ovr e45 [(89, .bool (decide (((x6 = true ∧ x25.1 = x27.1) ∧ x25.2 = x27.2) ∧ x26.1 = x27.1))), (12, .bool (decide (((len x8.1) = 0 ∧ (len x8.2.1) = 0) ∧ (len x18.1) = 0))), (16, .int .i64 x26.2), (18, .int .i64 x27.2)]) w := by
          refine tlg k42 <| tm rfl <| TL.cut 4 fun K46 k47 => ?_
          have J48 {e50} : ∀ w, St E H [F20, F23, F10, F13, F16, bx b5 24 [v2]] w → K46 (ovr e50 [(94, .bool (decide ((((x6 = true ∧ x25.1 = x27.1) ∧ x25.2 = x27.2) ∧ x26.1 = x27.1) ∧ x26.2 = x27.2))), (12, .bool (decide (((len x8.1) = 0 ∧ (len x8.2.1) = 0) ∧ (len x18.1) = 0)))]) w := by
           refine tlg k47 <| tm rfl <| TL.cut 2 fun K51 k52 => ?_
           have J53 {e55} : ∀ w, St E H [F20, F23, F10, F13, F16, bx b5 24 [v2]] w → K51 (ovr e55 [(97, .bool (decide (((((x6 = true ∧ x25.1 = x27.1) ∧ x25.2 = x27.2) ∧ x26.1 = x27.1) ∧ x26.2 = x27.2) ∧ (((len x8.1) = 0 ∧ (len x8.2.1) = 0) ∧ (len x18.1) = 0))))]) w := by
            exact tlg k52 <| ta rfl <| nz <| TC.ret <| rt hp [] ⟨rfl, rfl⟩
           by_cases hc54 : (((x6 = true ∧ x25.1 = x27.1) ∧ x25.2 = x27.2) ∧ x26.1 = x27.1) ∧ x26.2 = x27.2
           · exact gy rfl (bT hc54) <| tm rfl <| tv (pT (bT hc54)) rfl <| nj J53 (bAt hc54)
           · exact gn rfl (bF hc54) rfl rfl <| tv (pF (bF hc54)) rfl <| nj J53 (bAf hc54)
          by_cases hc49 : ((x6 = true ∧ x25.1 = x27.1) ∧ x25.2 = x27.2) ∧ x26.1 = x27.1
          · exact gy rfl (bT hc49) <| tm rfl <| gy rfl (bT hc49) <| tm rfl <| gy rfl (bT hc49) <| tv (beq rfl rfl) rfl <| tv (pT (bT hc49)) rfl <| nj J48 (bAt hc49)
          · exact gn rfl (bF hc49) rfl rfl <| gn rfl (bF hc49) rfl rfl <| gn rfl (bF hc49) rfl rfl <| tv (pF (bF hc49)) rfl <| nj J48 (bAf hc49)
         by_cases hc44 : (x6 = true ∧ x25.1 = x27.1) ∧ x25.2 = x27.2
         · exact gy rfl (bT hc44) <| tm rfl <| gy rfl (bT hc44) <| tm rfl <| gy rfl (bT hc44) <| tv (beq rfl rfl) rfl <| tv (pT (bT hc44)) rfl <| nj J43 (bAt hc44)
         · exact gn rfl (bF hc44) rfl rfl <| gn rfl (bF hc44) rfl rfl <| gn rfl (bF hc44) rfl rfl <| tv (pF (bF hc44)) rfl <| nj J43 (bAf hc44)
        by_cases hc39 : x6 = true ∧ x25.1 = x27.1
        · exact gy rfl (bT hc39) <| tm rfl <| gy rfl (bT hc39) <| tm rfl <| gy rfl (bT hc39) <| tv (beq rfl rfl) rfl <| tv (pT (bT hc39)) rfl <| nj J38 (bAt hc39)
        · exact gn rfl (bF hc39) rfl rfl <| gn rfl (bF hc39) rfl rfl <| gn rfl (bF hc39) rfl rfl <| tv (pF (bF hc39)) rfl <| nj J38 (bAf hc39)
       by_cases hc34 : x6 = true
       · exact gy rfl (bbT hc34) <| tm rfl <| gy rfl (bbT hc34) <| tm rfl <| gy rfl (bbT hc34) <| tv (beq rfl rfl) rfl <| tv (pT (bbT hc34)) rfl <| nj J33 (bAt hc34)
       · exact gn rfl (bbF hc34) rfl rfl <| gn rfl (bbF hc34) rfl rfl <| gn rfl (bbF hc34) rfl rfl <| tv (pF (bbF hc34)) rfl <| nj J33 (bAf hc34)
     · refine sk k29 rfl <| TC.seq fun K56 k57 => sr <| tm rfl <| tv (blt rfl rfl) rfl <| tm rfl <| TL.cut 6 fun K58 k59 => ?_
       have J60 {e62} : ∀ w, St E H [F20, F23, F10, F13, F16, bx b5 24 [v2]] w → K58 (ovr e62 [(106, .bool (decide (a4 < 0 ∨ a4 ≥ (len a1.funcs)))), (1, .int .i64 a4), (2, .pointer (some ⟨b5, 0, none⟩)), (5, .bool x6), (7, v9), (8, v12), (9, v15), (10, v19), (11, v22), (12, .bool (decide (((len x8.1) = 0 ∧ (len x8.2.1) = 0) ∧ (len x18.1) = 0)))]) w := by
        refine tlg k59 <| nz <| cD rfl hp (fun hc63 hp => ?_) fun hc63 hp => ?_
        · refine sr <| tm rfl <| tm rfl <| TL.cut 4 fun K64 k65 => ?_
          have J66 {e68} : ∀ w, St E H [F20, F23, F10, F13, F16, bx b5 24 [v2]] w → K64 (ovr e68 [(112, .bool (decide (x6 = true ∧ x8.2.2 = (GErr.code 1)))), (11, v22), (12, .bool (decide (((len x8.1) = 0 ∧ (len x8.2.1) = 0) ∧ (len x18.1) = 0)))]) w := by
           refine tlg k65 <| tm rfl <| TL.cut 4 fun K69 k70 => ?_
           have J71 {e73} : ∀ w, St E H [F20, F23, F10, F13, F16, bx b5 24 [v2]] w → K69 (ovr e73 [(117, .bool (decide ((x6 = true ∧ x8.2.2 = (GErr.code 1)) ∧ x18.2 = (GErr.code 1)))), (12, .bool (decide (((len x8.1) = 0 ∧ (len x8.2.1) = 0) ∧ (len x18.1) = 0)))]) w := by
            refine tlg k70 <| tm rfl <| TL.cut 2 fun K74 k75 => ?_
            have J76 {e78} : ∀ w, St E H [F20, F23, F10, F13, F16, bx b5 24 [v2]] w → K74 (ovr e78 [(120, .bool (decide (((x6 = true ∧ x8.2.2 = (GErr.code 1)) ∧ x18.2 = (GErr.code 1)) ∧ (((len x8.1) = 0 ∧ (len x8.2.1) = 0) ∧ (len x18.1) = 0))))]) w := by
             exact tlg k75 <| ta rfl <| nz <| TC.ret <| rt hp [] ⟨rfl, rfl⟩
            by_cases hc77 : (x6 = true ∧ x8.2.2 = (GErr.code 1)) ∧ x18.2 = (GErr.code 1)
            · exact gy rfl (bT hc77) <| tm rfl <| tv (pT (bT hc77)) rfl <| nj J76 (bAt hc77)
            · exact gn rfl (bF hc77) rfl rfl <| tv (pF (bF hc77)) rfl <| nj J76 (bAf hc77)
           by_cases hc72 : x6 = true ∧ x8.2.2 = (GErr.code 1)
           · exact gy rfl (bT hc72) <| tm rfl <| gy rfl (bT hc72) <| tv (mI u38 rfl) rfl <| gy rfl (bT hc72) <| tv (rv_eqlEC ifc_29 cmp_38 Tryd.underlying38 Tryd.underlying69 (by decide) h24 rfl rfl) rfl <| tv (pT (bT hc72)) rfl <| nj J71 (bAt hc72)
           · exact gn rfl (bF hc72) rfl rfl <| gn rfl (bF hc72) rfl rfl <| gn rfl (bF hc72) rfl rfl <| tv (pF (bF hc72)) rfl <| nj J71 (bAf hc72)
          by_cases hc67 : x6 = true
          · exact gy rfl (bbT hc67) <| tm rfl <| gy rfl (bbT hc67) <| tv (mI u38 rfl) rfl <| gy rfl (bbT hc67) <| tv (rv_eqlEC ifc_29 cmp_38 Tryd.underlying38 Tryd.underlying69 (by decide) h17 rfl rfl) rfl <| tv (pT (bbT hc67)) rfl <| nj J66 (bAt hc67)
          · exact gn rfl (bbF hc67) rfl rfl <| gn rfl (bbF hc67) rfl rfl <| gn rfl (bbF hc67) rfl rfl <| tv (pF (bbF hc67)) rfl <| nj J66 (bAf hc67)
        · refine sk k57 rfl <| sr <| tv (fa f24_0 rfl) rfl <| tv (lb s22 5 rfl rfl rfl) rfl <| tm rfl <| ti u22 i41 h3 hp rfl rfl rfl rfl ?_
          rintro x28 b29 o30 _ hp ⟨v34, v36, rfl, h35, h37⟩ h33
          refine tv (lR (ds := [.int .i64 x28.params, .int .i64 x28.result, v34, v36]) ag_41 sH h33 0 rfl rfl rfl) rfl <| tl i41 rfl fun b38 => tS 0 m41 rfl rfl [.int .i64 x28.params, .int .i64 x28.result, v34, v36] rfl (oc rfl (oc rfl (oc (h35).one (oc (h37).one oc0)))) rfl rfl <| nz <| TC.seq fun K80 k81 => sr <| tm rfl <| tv (rv_neqEN ifc_29 h17 rfl) rfl <| tm rfl <| TL.cut 3 fun K82 k83 => ?_
          have J84 {e86} : ∀ w, St E H [bx b38 41 [.int .i64 x28.params, .int .i64 x28.result, v34, v36], F20, F23, F10, F13, F16, bx b5 24 [v2]] w → K82 (ovr e86 [(131, .bool (decide ((¬ x8.2.2 = GErr.no) ∨ (¬ x18.2 = GErr.no)))), (5, .bool x6), (7, v9), (8, v12), (10, v19), (19, .pointer (some ⟨b38, 0, none⟩))]) w := by
           refine tlg k83 <| tm rfl <| TL.cut 7 fun K87 k88 => ?_
           have J89 {e91} : ∀ w, St E H [bx b38 41 [.int .i64 x28.params, .int .i64 x28.result, v34, v36], F20, F23, F10, F13, F16, bx b5 24 [v2]] w → K87 (ovr e91 [(139, .bool (decide (((¬ x8.2.2 = GErr.no) ∨ (¬ x18.2 = GErr.no)) ∨ (¬ (len x8.1) = (len x28.blocks))))), (5, .bool x6), (7, v9), (8, v12), (10, v19), (19, .pointer (some ⟨b38, 0, none⟩))]) w := by
            refine tlg k88 <| tm rfl <| TL.cut 7 fun K92 k93 => ?_
            have J94 {e96} : ∀ w, St E H [bx b38 41 [.int .i64 x28.params, .int .i64 x28.result, v34, v36], F20, F23, F10, F13, F16, bx b5 24 [v2]] w → K92 (ovr e96 [(147, .bool (decide ((((¬ x8.2.2 = GErr.no) ∨ (¬ x18.2 = GErr.no)) ∨ (¬ (len x8.1) = (len x28.blocks))) ∨ (¬ (len x8.2.1) = (len x28.blocks))))), (5, .bool x6), (7, v9), (8, v12), (10, v19), (19, .pointer (some ⟨b38, 0, none⟩))]) w := by
             refine tlg k93 <| tm rfl <| TL.cut 7 fun K97 k98 => ?_
             have J99 {e101} : ∀ w, St E H [bx b38 41 [.int .i64 x28.params, .int .i64 x28.result, v34, v36], F20, F23, F10, F13, F16, bx b5 24 [v2]] w → K97 (ovr e101 [(155, .bool (decide (((((¬ x8.2.2 = GErr.no) ∨ (¬ x18.2 = GErr.no)) ∨ (¬ (len x8.1) = (len x28.blocks))) ∨ (¬ (len x8.2.1) = (len x28.blocks))) ∨ (¬ (len x18.1) = (len x28.regs))))), (5, .bool x6), (7, v9), (8, v12), (10, v19), (19, .pointer (some ⟨b38, 0, none⟩))]) w := by
              refine tlg k98 <| nz <| cD rfl hp (fun hc102 hp => ?_) fun hc102 hp => ?_
              · exact sr <| ta rfl <| nz <| TC.ret <| rt hp [] ⟨rfl, rfl⟩
              · refine sk k81 rfl <| TC.seq fun K103 k104 => sr <| ta rfl <| nz <| TC.block <| bE hp fun z_106 hz107 hr108 => ?_
                have J170 {e111} (hq171 : .go () = z_106) : ∀ w, St E H [F10, F13, F20, bx b38 41 [.int .i64 x28.params, .int .i64 x28.result, v34, v36]] w → K103 (ovr e111 [(5, .bool x6), (7, v9), (8, v12), (10, v19), (19, .pointer (some ⟨b38, 0, none⟩))]) w := by
                 subst hq171
                 replace hp : fettlelaw08_LiveTells.nx110 x6 x8 x18 x28 = some r := hr108
                 refine tg k104 <| TC.seq fun K112 k113 => sr <| ta rfl <| nz <| TC.block <| bE hp fun z_115 hz116 hr117 => ?_
                 have J121 {e120} (hq122 : .go () = z_115) : ∀ w, St E H [] w → K112 (ovr e120 [(5, .bool x6)]) w := by
                  subst hq122
                  replace hp : fettlelaw08_LiveTells.nx119 x6 = some r := hr117
                  exact tg k113 <| sr <| tm rfl <| ta rfl <| nz <| TC.ret <| rt hp [] ⟨rfl, rfl⟩
                 refine lp hz116 [0, 1, 2, 3] rfl (fun s e L => ∃ e114, e = ovr e114 [(5, .bool x6), (7, v9), (8, v12), (10, v19), (19, .pointer (some ⟨b38, 0, none⟩)), (21, .int .i64 s)] ∧ L = [F10, F13, F20, bx b38 41 [.int .i64 x28.params, .int .i64 x28.result, v34, v36]]) ⟨_, ovr_eq _ _ rfl, rfl⟩ ?_
                 rintro x40 _ _ ⟨e114, rfl, rfl⟩ X118 hp hx119
                 replace hp : fettlelaw08_LiveTells.bd119 x8 x18 x28 x40 = some X118 := hp
                 refine TC.seq fun K123 k124 => sr <| tm rfl <| tv (fa f41_2 rfl) rfl <| tv (lb s32 3 rfl rfl rfl) rfl <| tv (ln u32 h35 rfl) rfl <| tv (blt rfl rfl) rfl <| nz <| cD rfl hp (fun hc125 hp => ?_) fun hc125 hp => ?_
                 · refine sk k124 rfl <| TC.seq fun K126 k127 => TC.block <| sr <| tv (lA (ds := [.int .i64 x28.params, .int .i64 x28.result, v34, v36]) ag_41 3 rfl rfl rfl rfl) rfl <| tm rfl <| bE hp fun x41 hy128 hp => tc 0 [_,_,_,_] rfl c12 (fun _ => fettleref08_Live_ok (a1 := x28) (a6 := x40) (h35.mono subH) (h37.mono subH) hy128) rfl ?_
                   rintro _ _ ⟨v42, F43, v45, F46, rfl, rfl, h44, h47⟩
                   refine tm rfl <| tv (xt rfl rfl) rfl <| tv (xt rfl rfl) rfl <| ta rfl <| ta rfl <| nz <| TC.seq fun K130 k131 => TC.seq fun K132 k133 => cq mix (by kernel_rfl) <| qv mv rfl <| qv mv rfl <| qi u32 i3 (h21).ro hp rfl rfl rfl rfl ?_
                   rintro x48 b49 o50 _ hp rfl h53
                   refine qv (lr s3 (Src.at_ 4 rfl) h53 0 rfl rfl) rfl <| qv (lA (ds := [.int .i64 x28.params, .int .i64 x28.result, v34, v36]) ag_41 5 rfl rfl rfl rfl) rfl <| qv mv rfl <| bE hp fun x54 hy135 hp => qc (.int .i64 x54) c13 (fun _ => fettleref08_Count_ok (a1 := x28) (a6 := x40) (h35.mono subH) (h37.mono subH) hy135) (fun _ _ h => ⟨h.1.symm, h.2⟩) rfl <| qv (bne rfl rfl) rfl <| QL.nil <| tg k133 <| cD rfl hp (fun hc136 hp => ?_) fun hc136 hp => ?_
                   · refine sr <| ta rfl <| nz <| TC.ret ?_
                     obtain rfl := ex_ret hp hx119
                     exact rt hr117 [] ⟨rfl, rfl⟩
                   · refine sk k131 rfl <| sr <| ta rfl <| nz <| TC.block <| bE hp fun z_138 hz139 hr140 => ?_
                     have J144 {e143} (hq145 : .go () = z_138) : ∀ w, St E H [F10, F13, F20, bx b38 41 [.int .i64 x28.params, .int .i64 x28.result, v34, v36]] w → K126 (ovr e143 [(5, .bool x6), (7, v9), (8, v12), (10, v19), (19, .pointer (some ⟨b38, 0, none⟩)), (21, .int .i64 x40)]) w := by
                      subst hq145
                      replace hp : fettlelaw08_LiveTells.nx142 x40 = some X118 := hr140
                      exact tg k127 <| TC.region <| tm rfl <| tv (bad rfl rfl) rfl <| ta rfl <| nl <| gk hp [0, 1, 2, 3] ⟨_, ovr_eq _ _ rfl, rfl⟩
                     refine lp hz139 [2, 3, 4, 5, 0, 1] rfl (fun s e L => ∃ e137, e = ovr e137 [(5, .bool x6), (7, v9), (8, v12), (10, v19), (19, .pointer (some ⟨b38, 0, none⟩)), (21, .int .i64 x40), (22, v42), (23, v45), (24, .int .i64 s)] ∧ L = [F10, F13, F20, bx b38 41 [.int .i64 x28.params, .int .i64 x28.result, v34, v36], F43, F46]) ⟨_, ovr_eq _ _ rfl, rfl⟩ ?_
                     rintro x55 _ _ ⟨e137, rfl, rfl⟩ X141 hp hx142
                     replace hp : fettlelaw08_LiveTells.bd142 x8 x40 x41 x55 = some X141 := hp
                     refine TC.seq fun K146 k147 => sr <| tm rfl <| tm rfl <| tv (ln u27 h11.ro rfl) rfl <| tv (blt rfl rfl) rfl <| nz <| cD rfl hp (fun hc148 hp => ?_) fun hc148 hp => ?_
                     · refine sk k147 rfl <| TC.seq fun K149 k150 => TC.block <| TC.seq fun K151 k152 => cq mix (by kernel_rfl) <| qv mv rfl <| qv mv rfl <| qi u27 i42 (h11).ro hp rfl rfl rfl rfl ?_
                       rintro x56 b57 o58 _ hp ⟨v62, rfl, h63⟩ h61
                       refine qv (lr s42 (Src.at_ 0 rfl) h61 0 rfl rfl) rfl <| qv mv rfl <| qi u42 i4 h63 hp rfl rfl rfl rfl ?_
                       rintro x64 b65 o66 _ hp rfl h69
                       refine qv (lr s4 (Src.at_ 0 rfl) h69 0 rfl rfl) rfl <| qv mv rfl <| qv mv rfl <| qi u42 i4 (h44).ro hp rfl rfl rfl rfl ?_
                       rintro x70 b71 o72 _ hp rfl h75
                       refine qv (lr s4 (Src.at_ 4 rfl) h75 0 rfl rfl) rfl <| qv (rv_neqB (b := x64) (c := x70) Tryd.underlying4 rfl rfl) rfl <| qv mv rfl <| bE hp fun t76 ht162 hp => QL.cut 13 fun K156 k157 => ?_
                       have J158 {e160} : K156 (ovr e160 [(234, .bool t76), (5, .bool x6), (7, v9), (8, v12), (10, v19), (19, .pointer (some ⟨b38, 0, none⟩)), (21, .int .i64 x40), (22, v42), (23, v45), (24, .int .i64 x55)]) := by
                        refine k157 _ <| QL.nil <| tg k152 <| cB rfl hp (fun hc161 hp => ?_) fun hc161 hp => ?_
                        · refine sr <| ta rfl <| nz <| TC.ret ?_
                          obtain rfl := ex_ret hp hx142
                          obtain rfl := ex_ret hr140 hx119
                          exact rt hr117 [] ⟨rfl, rfl⟩
                        · exact sk k150 rfl <| TC.region <| tm rfl <| tv (bad rfl rfl) rfl <| ta rfl <| nl <| gk hp [0, 1, 2, 3, 4, 5] ⟨_, ovr_eq _ _ rfl, rfl⟩
                       refine ifE ht162 (fun hc159 hp => ?_) fun hc159 hp => ?_
                       · refine qgn rfl (bbT hc159) rfl rfl <| qgn rfl (bbT hc159) rfl rfl <| qgn rfl (bbT hc159) rfl rfl <| qgn rfl (bbT hc159) rfl rfl <| qgn rfl (bbT hc159) rfl rfl <| qgn rfl (bbT hc159) rfl rfl <| qgn rfl (bbT hc159) rfl rfl <| qgn rfl (bbT hc159) rfl rfl <| qgn rfl (bbT hc159) rfl rfl <| qgn rfl (bbT hc159) rfl rfl <| qgn rfl (bbT hc159) rfl rfl <| qgn rfl (bbT hc159) rfl rfl <| qv (pT (bbT hc159)) rfl ?_
                         obtain rfl := Option.some.inj hp
                         exact qj J158 rfl
                       · refine qgy rfl (bbF hc159) <| qv mv rfl <| qgy rfl (bbF hc159) <| qv mv rfl <| qgy rfl (bbF hc159) <| qi u27 i42 (h14).ro hp rfl rfl rfl rfl ?_
                         rintro x77 b78 o79 _ hp ⟨v83, rfl, h84⟩ h82
                         refine qgy rfl (bbF hc159) <| qv (lr s42 (Src.at_ 1 rfl) h82 0 rfl rfl) rfl <| qgy rfl (bbF hc159) <| qv mv rfl <| qgy rfl (bbF hc159) <| qi u42 i4 h84 hp rfl rfl rfl rfl ?_
                         rintro x85 b86 o87 _ hp rfl h90
                         refine qgy rfl (bbF hc159) <| qv (lr s4 (Src.at_ 1 rfl) h90 0 rfl rfl) rfl <| qgy rfl (bbF hc159) <| qv mv rfl <| qgy rfl (bbF hc159) <| qv mv rfl <| qgy rfl (bbF hc159) <| qi u42 i4 (h47).ro hp rfl rfl rfl rfl ?_
                         rintro x91 b92 o93 _ hp rfl h96
                         refine qgy rfl (bbF hc159) <| qv (lr s4 (Src.at_ 5 rfl) h96 0 rfl rfl) rfl <| qgy rfl (bbF hc159) <| qv (rv_neqB (b := x85) (c := x91) Tryd.underlying4 rfl rfl) rfl <| qv (pF (bbF hc159)) rfl ?_
                         obtain rfl := Option.some.inj hp
                         exact qj J158 rfl
                     · exact TC.exit <| jn [0, 1, 2, 3] (J144 (ex_ret hp hx142))
                 · exact TC.exit <| jn [] (J121 (ex_ret hp hx119))
                refine lp hz107 [3, 4, 1, 0] rfl (fun s e L => ∃ e105, e = ovr e105 [(5, .bool x6), (7, v9), (8, v12), (10, v19), (19, .pointer (some ⟨b38, 0, none⟩)), (20, .int .i64 s)] ∧ L = [F10, F13, F20, bx b38 41 [.int .i64 x28.params, .int .i64 x28.result, v34, v36]]) ⟨_, ovr_eq _ _ rfl, rfl⟩ ?_
                rintro x39 _ _ ⟨e105, rfl, rfl⟩ X109 hp hx110
                replace hp : fettlelaw08_LiveTells.bd110 x8 x28 x39 = some X109 := hp
                refine TC.seq fun K172 k173 => sr <| tm rfl <| tm rfl <| tv (ln u27 h11.ro rfl) rfl <| tv (blt rfl rfl) rfl <| nz <| cD rfl hp (fun hc174 hp => ?_) fun hc174 hp => ?_
                · refine sk k173 rfl <| TC.seq fun K175 k176 => TC.block <| TC.seq fun K177 k178 => cq mix (by kernel_rfl) <| qv mv rfl <| qv mv rfl <| qi u27 i42 (h11).ro hp rfl rfl rfl rfl ?_
                  rintro x97 b98 o99 _ hp ⟨v103, rfl, h104⟩ h102
                  refine qv (lr s42 (Src.at_ 0 rfl) h102 0 rfl rfl) rfl <| qv (ln u42 h104 rfl) rfl <| qv (fa f41_2 rfl) rfl <| qv (lb s32 3 rfl rfl rfl) rfl <| qv (ln u32 h35 rfl) rfl <| qv (bne rfl rfl) rfl <| qv mv rfl <| bE hp fun t105 ht186 hp => QL.cut 10 fun K180 k181 => ?_
                  have J182 {e184} : K180 (ovr e184 [(181, .bool t105), (5, .bool x6), (7, v9), (8, v12), (10, v19), (19, .pointer (some ⟨b38, 0, none⟩)), (20, .int .i64 x39)]) := by
                   refine k181 _ <| QL.nil <| tg k178 <| cB rfl hp (fun hc185 hp => ?_) fun hc185 hp => ?_
                   · refine sr <| ta rfl <| nz <| TC.ret ?_
                     obtain rfl := ex_ret hp hx110
                     exact rt hr108 [] ⟨rfl, rfl⟩
                   · exact sk k176 rfl <| TC.region <| tm rfl <| tv (bad rfl rfl) rfl <| ta rfl <| nl <| gk hp [0, 1, 2, 3] ⟨_, ovr_eq _ _ rfl, rfl⟩
                  refine ifE ht186 (fun hc183 hp => ?_) fun hc183 hp => ?_
                  · refine qgn rfl (bT hc183) rfl rfl <| qgn rfl (bT hc183) rfl rfl <| qgn rfl (bT hc183) rfl rfl <| qgn rfl (bT hc183) rfl rfl <| qgn rfl (bT hc183) rfl rfl <| qgn rfl (bT hc183) rfl rfl <| qgn rfl (bT hc183) rfl rfl <| qgn rfl (bT hc183) rfl rfl <| qgn rfl (bT hc183) rfl rfl <| qv (pT (bT hc183)) rfl ?_
                    obtain rfl := Option.some.inj hp
                    exact qj J182 rfl
                  · refine qgy rfl (bF hc183) <| qv mv rfl <| qgy rfl (bF hc183) <| qv mv rfl <| qgy rfl (bF hc183) <| qi u27 i42 (h14).ro hp rfl rfl rfl rfl ?_
                    rintro x106 b107 o108 _ hp ⟨v112, rfl, h113⟩ h111
                    refine qgy rfl (bF hc183) <| qv (lr s42 (Src.at_ 1 rfl) h111 0 rfl rfl) rfl <| qgy rfl (bF hc183) <| qv (ln u42 h113 rfl) rfl <| qgy rfl (bF hc183) <| qv (fa f41_2 rfl) rfl <| qgy rfl (bF hc183) <| qv (lb s32 3 rfl rfl rfl) rfl <| qgy rfl (bF hc183) <| qv (ln u32 h35 rfl) rfl <| qgy rfl (bF hc183) <| qv (bne rfl rfl) rfl <| qv (pF (bF hc183)) rfl ?_
                    obtain rfl := Option.some.inj hp
                    exact qj J182 rfl
                · exact TC.exit <| jn [0, 1, 2, 3] (J170 (ex_ret hp hx110))
             by_cases hc100 : (((¬ x8.2.2 = GErr.no) ∨ (¬ x18.2 = GErr.no)) ∨ (¬ (len x8.1) = (len x28.blocks))) ∨ (¬ (len x8.2.1) = (len x28.blocks))
             · exact gn rfl (bT hc100) rfl rfl <| gn rfl (bT hc100) rfl rfl <| gn rfl (bT hc100) rfl rfl <| gn rfl (bT hc100) rfl rfl <| gn rfl (bT hc100) rfl rfl <| gn rfl (bT hc100) rfl rfl <| tv (pT (bT hc100)) rfl <| nj J99 (bOt hc100)
             · exact gy rfl (bF hc100) <| tm rfl <| gy rfl (bF hc100) <| tv (ln u32 h21.ro rfl) rfl <| gy rfl (bF hc100) <| tv (fa f41_2 rfl) rfl <| gy rfl (bF hc100) <| tv (lb s32 0 rfl rfl rfl) rfl <| gy rfl (bF hc100) <| tv (ln u32 h35 rfl) rfl <| gy rfl (bF hc100) <| tv (bne rfl rfl) rfl <| tv (pF (bF hc100)) rfl <| nj J99 (bOf hc100)
            by_cases hc95 : ((¬ x8.2.2 = GErr.no) ∨ (¬ x18.2 = GErr.no)) ∨ (¬ (len x8.1) = (len x28.blocks))
            · exact gn rfl (bT hc95) rfl rfl <| gn rfl (bT hc95) rfl rfl <| gn rfl (bT hc95) rfl rfl <| gn rfl (bT hc95) rfl rfl <| gn rfl (bT hc95) rfl rfl <| gn rfl (bT hc95) rfl rfl <| tv (pT (bT hc95)) rfl <| nj J94 (bOt hc95)
            · exact gy rfl (bF hc95) <| tm rfl <| gy rfl (bF hc95) <| tv (ln u27 h14.ro rfl) rfl <| gy rfl (bF hc95) <| tv (fa f41_3 rfl) rfl <| gy rfl (bF hc95) <| tv (lb s39 0 rfl rfl rfl) rfl <| gy rfl (bF hc95) <| tv (ln u39 h37 rfl) rfl <| gy rfl (bF hc95) <| tv (bne rfl rfl) rfl <| tv (pF (bF hc95)) rfl <| nj J94 (bOf hc95)
           by_cases hc90 : (¬ x8.2.2 = GErr.no) ∨ (¬ x18.2 = GErr.no)
           · exact gn rfl (bT hc90) rfl rfl <| gn rfl (bT hc90) rfl rfl <| gn rfl (bT hc90) rfl rfl <| gn rfl (bT hc90) rfl rfl <| gn rfl (bT hc90) rfl rfl <| gn rfl (bT hc90) rfl rfl <| tv (pT (bT hc90)) rfl <| nj J89 (bOt hc90)
           · exact gy rfl (bF hc90) <| tm rfl <| gy rfl (bF hc90) <| tv (ln u27 h11.ro rfl) rfl <| gy rfl (bF hc90) <| tv (fa f41_3 rfl) rfl <| gy rfl (bF hc90) <| tv (lb s39 0 rfl rfl rfl) rfl <| gy rfl (bF hc90) <| tv (ln u39 h37 rfl) rfl <| gy rfl (bF hc90) <| tv (bne rfl rfl) rfl <| tv (pF (bF hc90)) rfl <| nj J89 (bOf hc90)
          by_cases hc85 : ¬ x8.2.2 = GErr.no
          · exact gn rfl (bT hc85) rfl rfl <| gn rfl (bT hc85) rfl rfl <| tv (pT (bT hc85)) rfl <| nj J84 (bOt hc85)
          · exact gy rfl (bF hc85) <| tm rfl <| gy rfl (bF hc85) <| tv (rv_neqEN ifc_29 h24 rfl) rfl <| tv (pF (bF hc85)) rfl <| nj J84 (bOf hc85)
       by_cases hc61 : a4 < 0
       · exact gn rfl (bT hc61) rfl rfl <| gn rfl (bT hc61) rfl rfl <| gn rfl (bT hc61) rfl rfl <| gn rfl (bT hc61) rfl rfl <| gn rfl (bT hc61) rfl rfl <| tv (pT (bT hc61)) rfl <| nj J60 (bOt hc61)
       · exact gy rfl (bF hc61) <| tm rfl <| gy rfl (bF hc61) <| tv (fa f24_0 rfl) rfl <| gy rfl (bF hc61) <| tv (lb s22 5 rfl rfl rfl) rfl <| gy rfl (bF hc61) <| tv (ln u22 h3 rfl) rfl <| gy rfl (bF hc61) <| tv (bge rfl rfl) rfl <| tv (pF (bF hc61)) rfl <| nj J60 (bOf hc61)
    by_cases hc20 : (len x8.1) = 0 ∧ (len x8.2.1) = 0
    · exact gy rfl (bT hc20) <| tm rfl <| gy rfl (bT hc20) <| tv (ln u32 h21.ro rfl) rfl <| gy rfl (bT hc20) <| tv (beq rfl rfl) rfl <| tv (pT (bT hc20)) rfl <| nj J19 (bAt hc20)
    · exact gn rfl (bF hc20) rfl rfl <| gn rfl (bF hc20) rfl rfl <| gn rfl (bF hc20) rfl rfl <| tv (pF (bF hc20)) rfl <| nj J19 (bAf hc20)
   by_cases hc15 : (len x8.1) = 0
   · exact gy rfl (bT hc15) <| tm rfl <| gy rfl (bT hc15) <| tv (ln u27 h14.ro rfl) rfl <| gy rfl (bT hc15) <| tv (beq rfl rfl) rfl <| tv (pT (bT hc15)) rfl <| nj J14 (bAt hc15)
   · exact gn rfl (bF hc15) rfl rfl <| gn rfl (bF hc15) rfl rfl <| gn rfl (bF hc15) rfl rfl <| tv (pF (bF hc15)) rfl <| nj J14 (bAf hc15)
/-! ### fettle/graph.order$1 -/
abbrev graph_order_1.R (b2 : Nat) (b17 : Nat) (r : List Bool × List Int) (v : Value) (A : List FP) : Prop := ∃ (w1 : Value) (G1 : FP) (w2 : Value) (G2 : FP), .tuple #[] = v ∧ A = [bx b2 42 [w1], G1, bx b17 32 [w2], G2] ∧ SlO 4 kBool r.1 w1 G1 ∧ SlO 3 (kInt .i64) r.2 w2 G2
def graph_order_1.nx10 (a1 : Int) (x46 : List Bool) (x50 : List Int) : Option (List Bool × List Int) :=
  (cat x50 [a1]).bind fun x55 =>
  some (x46, x55)
def graph_order_1.jn21 (x45 : Int) (x59 : List Bool) (x63 : List Int) : Option (Ex (List Bool × List Int) (List Bool × List Int × Int)) :=
  some (.go (x59, x63, (w64 (x45 + 1))))
def graph_order_1.bd10 (a9 : List (List Int)) (rec : Int → (List Bool) → (List (List Int)) → (List Int) → Option (List Bool × List Int)) (x29 : List Int) (x37 : List Bool) (x41 : List Int) (x45 : Int) : Option (Ex (List Bool × List Int) (List Bool × List Int × Int)) :=
  if x45 < (len x29) then
    (idx x29 x45).bind fun x67 =>
    (idx x37 x67).bind fun x73 =>
    if (!x73) = true then
      (rec x67 x37 a9 x41).bind fun x79 =>
      graph_order_1.jn21 x45 x79.1 x79.2
    else
      graph_order_1.jn21 x45 x37 x41
  else
    some (.ret (x37, x41))
def graph_order_1.body (rec : Int → (List Bool) → (List (List Int)) → (List Int) → Option (List Bool × List Int)) (a1 : Int) (a3 : List Bool) (a9 : List (List Int)) (a18 : List Int) : Option (List Bool × List Int) :=
  (idx a3 a1).bind fun x23 =>
  (idx a9 a1).bind fun x29 =>
  (whl (fun (s : (List Bool × List Int × Int)) => graph_order_1.bd10 a9 rec x29 s.1 s.2.1 s.2.2) FUEL ((a3.set (a1).toNat true), a18, 0)).bind fun z =>
  graph_order_1.nx10 a1 z.1 z.2
def graph_order_1.it : Nat → Int → (List Bool) → (List (List Int)) → (List Int) → Option (List Bool × List Int)
  | 0 => fun _ _ _ _ => none
  | n + 1 => graph_order_1.body (graph_order_1.it n)
def graph_order_1 (a1 : Int) (a3 : List Bool) (a9 : List (List Int)) (a18 : List Int) : Option (List Bool × List Int) := graph_order_1.it FUEL a1 a3 a9 a18
end Go.Proofs.YteaknconpkklhaaDoor
