/- The walk through the program's functions: each one's pure reading, and that a call does what it says. No conditions. -/
import Derived.Test.YteaknconpkklhaaDoorV11
set_option linter.unusedVariables false
set_option linter.unusedSimpArgs false
namespace Go.Proofs.YteaknconpkklhaaDoor
open Go Go.Proofs
/-! ### (*fettle/proper.looker).all -/
abbrev proper_looker_all.R (b1 : Nat) (a2 : PProperLooker) (v3 : Value) (v5 : Value) (v7 : Value) (v9 : Value) (r : Int) (v : Value) (A : List FP) : Prop := .tuple #[] = v ∧ A = [bx b1 85 [.int .i64 a2.f.params, .int .i64 a2.f.result, v3, v5, v7, v9, .int .i64 r]]
def proper_looker_all.nx10  (x18 : Int) : Option Int :=
  some x18
def proper_looker_all.jn20 (x17 : Int) (x19 : Int) : Option (Ex Int (Int × Int)) :=
  some (.go (x19, (w64 (x17 + 1))))
def proper_looker_all.nx38 (a2 : PProperLooker) (x17 : Int) (x20 : PBlock) (x38 : Int) : Option (Ex Int (Int × Int)) :=
  if x20.term.arg ≥ 0 then
    (proper_looker_use (⟨(⟨a2.f.params, a2.f.result, a2.f.regs, a2.f.blocks⟩ : PFunc), a2.makers, a2.over, x38⟩ : PProperLooker) x20.term.arg x17 (len x20.ins)).bind fun x39 =>
    proper_looker_all.jn20 x17 x39
  else
    proper_looker_all.jn20 x17 x38
def proper_looker_all.nx56 (x37 : Int) (x51 : Int) : Option (Ex Int (Int × Int)) :=
  some (.go (x51, (w64 (x37 + 1))))
def proper_looker_all.bd56 (a2 : PProperLooker) (x17 : Int) (x37 : Int) (x40 : PInstr) (x49 : Int) (x50 : Int) : Option (Ex Int (Int × Int)) :=
  if x50 < (len x40.args) then
    (idx x40.args x50).bind fun x52 =>
    (proper_looker_use (⟨(⟨a2.f.params, a2.f.result, a2.f.regs, a2.f.blocks⟩ : PFunc), a2.makers, a2.over, x49⟩ : PProperLooker) x52 x17 x37).bind fun x58 =>
    some (.go (x58, (w64 (x50 + 1))))
  else
    some (.ret x49)
def proper_looker_all.bd38 (a2 : PProperLooker) (x17 : Int) (x20 : PBlock) (x36 : Int) (x37 : Int) : Option (Ex Int (Int × Int)) :=
  if x37 < (len x20.ins) then
    (idx x20.ins x37).bind fun x40 =>
    (whl (fun (s : (Int × Int)) => proper_looker_all.bd56 a2 x17 x37 x40 s.1 s.2) FUEL (x36, 0)).bind fun z =>
    proper_looker_all.nx56 x37 z
  else
    some (.ret x36)
def proper_looker_all.nx29 (a2 : PProperLooker) (x17 : Int) (x20 : PBlock) (x35 : Int) : Option (Ex Int (Int × Int)) :=
  (whl (fun (s : (Int × Int)) => proper_looker_all.bd38 a2 x17 x20 s.1 s.2) FUEL (x35, 0)).bind fun z =>
  proper_looker_all.nx38 a2 x17 x20 z
def proper_looker_all.nx85 (x34 : Int) (x70 : Int) : Option (Ex Int (Int × Int)) :=
  some (.go (x70, (w64 (x34 + 1))))
def proper_looker_all.bd85 (a2 : PProperLooker) (x12 : List (List Int)) (x17 : Int) (x59 : PPhi) (x68 : Int) (x69 : Int) : Option (Ex Int (Int × Int)) :=
  if x69 < (len x59.args) then
    (idx x59.args x69).bind fun x71 =>
    (idx x12 x17).bind fun x77 =>
    (idx x77 x69).bind fun x85 =>
    (idx a2.f.blocks x85).bind fun x91 =>
    (proper_looker_use (⟨(⟨a2.f.params, a2.f.result, a2.f.regs, a2.f.blocks⟩ : PFunc), a2.makers, a2.over, x68⟩ : PProperLooker) x71 x85 (len x91.ins)).bind fun x103 =>
    some (.go (x103, (w64 (x69 + 1))))
  else
    some (.ret x68)
def proper_looker_all.bd29 (a2 : PProperLooker) (x12 : List (List Int)) (x17 : Int) (x20 : PBlock) (x33 : Int) (x34 : Int) : Option (Ex Int (Int × Int)) :=
  if x34 < (len x20.phis) then
    (idx x20.phis x34).bind fun x59 =>
    (whl (fun (s : (Int × Int)) => proper_looker_all.bd85 a2 x12 x17 x59 s.1 s.2) FUEL (x33, 0)).bind fun z =>
    proper_looker_all.nx85 x34 z
  else
    some (.ret x33)
def proper_looker_all.bd10 (a2 : PProperLooker) (x12 : List (List Int)) (x16 : Int) (x17 : Int) : Option (Ex Int (Int × Int)) :=
  if x17 < (len a2.f.blocks) then
    (idx a2.f.blocks x17).bind fun x20 =>
    (whl (fun (s : (Int × Int)) => proper_looker_all.bd29 a2 x12 x17 x20 s.1 s.2) FUEL (x16, 0)).bind fun z =>
    proper_looker_all.nx29 a2 x17 x20 z
  else
    some (.ret x16)
def proper_looker_all (a2 : PProperLooker) : Option Int :=
  (check_Ahead a2.f).bind fun x12 =>
  (whl (fun (s : (Int × Int)) => proper_looker_all.bd10 a2 x12 s.1 s.2) FUEL (a2.lowest, 0)).bind fun z =>
  proper_looker_all.nx10 z
set_option maxHeartbeats 4000000 in
theorem proper_looker_all_ok {E : World} {H : FP} {w : World} {a2 : PProperLooker} {b1 : Nat} {v3 : Value} {v5 : Value} {v7 : Value} {v9 : Value} {r : Int} (h4 : SlI (kInt .i64) H a2.f.regs v3) (h6 : SlI kBlock H a2.f.blocks v5) (h8 : SlI kMaker H a2.makers v7) (h10 : SlI (kSl 4 kBool) H a2.over v9) (hp : proper_looker_all a2 = some r) (hst : St E H [bx b1 85 [.int .i64 a2.f.params, .int .i64 a2.f.result, v3, v5, v7, v9, .int .i64 a2.lowest]] w) :
    Fn Tryd.prog 37 #[.pointer (some ⟨b1, 0, none⟩)] w fun v w' => ∃ A, proper_looker_all.R b1 a2 v3 v5 v7 v9 r v A ∧ St E H A w' := by
 refine fb 104 [] Tryd.func37 rfl rfl rfl rfl rfl hst <| sr <| tm rfl <| tv (rv_nilCheck rfl) rfl <| tv (fa f85_0 rfl) rfl <| tv (lA (ds := [.int .i64 a2.f.params, .int .i64 a2.f.result, v3, v5]) ag_41 0 rfl rfl rfl rfl) rfl <| bE hp fun x12 hy1 hp => tc 0 [_] rfl c22 (fun _ => check_Ahead_ok (a1 := a2.f) (h4.mono subH) (h6.mono subH) hy1) rfl ?_
 rintro _ _ ⟨v13, F14, rfl, rfl, h15⟩
 refine ta rfl <| nz <| sr <| tm rfl <| tv (rv_nilCheck rfl) rfl <| tv (fa f85_0 rfl) rfl <| tv (fa f41_3 rfl) rfl <| tv (lb s39 1 rfl rfl rfl) rfl <| tv (ln u39 h6 rfl) rfl <| tm rfl <| nz <| TC.named fun K3 k4 => TC.block <| bE hp fun z_6 hz7 hr8 => ?_
 have J12 {x18 e11} (hq13 : x18 = z_6) : ∀ w, St E H [bx b1 85 [.int .i64 a2.f.params, .int .i64 a2.f.result, v3, v5, v7, v9, .int .i64 x18]] w → K3 (ovr e11 []) w := by
  subst hq13
  replace hp : proper_looker_all.nx10 x18 = some r := hr8
  exact viaK k4 <| rt hp [0] ⟨rfl, rfl⟩
 refine lp hz7 [1, 0] rfl (fun s e L => ∃ x16 x17 e5, s = (x16, x17) ∧ e = ovr e5 [(0, .pointer (some ⟨b1, 0, none⟩)), (2, v13), (23, v5), (24, .int .i64 (len a2.f.blocks)), (25, .int .i64 x17)] ∧ L = [bx b1 85 [.int .i64 a2.f.params, .int .i64 a2.f.result, v3, v5, v7, v9, .int .i64 x16], F14]) ⟨_, _, _, rfl, ovr_eq _ _ rfl, rfl⟩ ?_
 rintro _ _ _ ⟨x16, x17, e5, rfl, rfl, rfl⟩ X9 hp hx10
 replace hp : proper_looker_all.bd10 a2 x12 x16 x17 = some X9 := hp
 refine sr <| tv (blt rfl rfl) rfl <| nz <| TC.seq fun K14 k15 => cD rfl hp (fun hc16 hp => ?_) fun hc16 hp => ?_
 · refine sk k15 rfl <| TC.seq fun K17 k18 => ?_
   have J20 {x19 e19} (hp : proper_looker_all.jn20 x17 x19 = some X9) : ∀ w, St E H [bx b1 85 [.int .i64 a2.f.params, .int .i64 a2.f.result, v3, v5, v7, v9, .int .i64 x19], F14] w → K17 (ovr e19 [(0, .pointer (some ⟨b1, 0, none⟩)), (2, v13), (23, v5), (24, .int .i64 (len a2.f.blocks)), (25, .int .i64 x17)]) w := by
    exact tg k18 <| TC.region <| tv (bad rfl rfl) rfl <| tm rfl <| nl <| gk hp [0, 1] ⟨_, _, _, rfl, ovr_eq _ _ rfl, rfl⟩
   refine TC.block <| sr <| tm rfl <| ti u39 i60 h6 hp rfl rfl rfl rfl ?_
   rintro x20 b21 o22 _ hp ⟨v26, v28, v30, rfl, h27, h29, h31⟩ h25
   refine tv (lR (ds := [v26, v28, .int .i64 x20.term.kind, .int .i64 x20.term.arg, v30]) ag_60 sH h25 0 rfl rfl rfl) rfl <| tl i60 rfl fun b32 => ta rfl <| tS 0 m60 rfl rfl [v26, v28, .int .i64 x20.term.kind, .int .i64 x20.term.arg, v30] rfl (oc (h27).one (oc (h29).one (oc rfl (oc rfl (oc (h31).one oc0))))) rfl rfl <| nz <| TC.seq fun K22 k23 => sr <| tv (fa f60_0 rfl) rfl <| tv (lb s57 0 rfl rfl rfl) rfl <| tv (ln u57 h27 rfl) rfl <| tm rfl <| nz <| TC.block <| bE hp fun z_25 hz26 hr27 => ?_
   have J72 {x35 e30} (hq73 : x35 = z_25) : ∀ w, St E H [bx b1 85 [.int .i64 a2.f.params, .int .i64 a2.f.result, v3, v5, v7, v9, .int .i64 x35], F14, bx b32 60 [v26, v28, .int .i64 x20.term.kind, .int .i64 x20.term.arg, v30]] w → K22 (ovr e30 [(0, .pointer (some ⟨b1, 0, none⟩)), (2, v13), (3, .int .i64 x17), (4, .pointer (some ⟨b32, 0, none⟩)), (23, v5), (24, .int .i64 (len a2.f.blocks)), (25, .int .i64 x17)]) w := by
    subst hq73
    replace hp : proper_looker_all.nx29 a2 x17 x20 x35 = some X9 := hr27
    refine tg k23 <| TC.seq fun K31 k32 => sr <| tv (fa f60_1 rfl) rfl <| tv (lb s58 2 rfl rfl rfl) rfl <| tv (ln u58 h29 rfl) rfl <| tm rfl <| nz <| TC.block <| bE hp fun z_34 hz35 hr36 => ?_
    have J43 {x38 e39} (hq44 : x38 = z_34) : ∀ w, St E H [bx b1 85 [.int .i64 a2.f.params, .int .i64 a2.f.result, v3, v5, v7, v9, .int .i64 x38], F14, bx b32 60 [v26, v28, .int .i64 x20.term.kind, .int .i64 x20.term.arg, v30]] w → K31 (ovr e39 [(0, .pointer (some ⟨b1, 0, none⟩)), (2, v13), (3, .int .i64 x17), (4, .pointer (some ⟨b32, 0, none⟩)), (23, v5), (24, .int .i64 (len a2.f.blocks)), (25, .int .i64 x17)]) w := by
     subst hq44
     replace hp : proper_looker_all.nx38 a2 x17 x20 x38 = some X9 := hr36
     refine tg k32 <| sr <| tv (fa f60_2 rfl) rfl <| tv (fa f56_1 rfl) rfl <| tv (lb s3 2 rfl rfl rfl) rfl <| tv (bge rfl rfl) rfl <| nz <| cD rfl hp (fun hc40 hp => ?_) fun hc40 hp => ?_
     · refine TC.region <| tm rfl <| tv (fa f60_2 rfl) rfl <| tv (fa f56_1 rfl) rfl <| tv (lb s3 2 rfl rfl rfl) rfl <| tm rfl <| tv (fa f60_1 rfl) rfl <| tv (lb s58 2 rfl rfl rfl) rfl <| tv (ln u58 h29 rfl) rfl <| bE hp fun x39 hy41 hp => tc 1 [_,_] rfl c60 (fun _ => proper_looker_use_ok (a2 := (⟨(⟨a2.f.params, a2.f.result, a2.f.regs, a2.f.blocks⟩ : PFunc), a2.makers, a2.over, x38⟩ : PProperLooker)) (a12 := x20.term.arg) (a13 := x17) (a14 := (len x20.ins)) (h4.mono subH) (h6.mono subH) (h8.mono subH) (h10.mono subH) hy41) rfl ?_
       rintro _ _ ⟨rfl, rfl⟩
       exact nl <| jn [0, 1] (J20 hp)
     · exact TC.skip <| jn [0, 1] (J20 hp)
    refine lp hz35 [0, 1, 2] rfl (fun s e L => ∃ x36 x37 e33, s = (x36, x37) ∧ e = ovr e33 [(0, .pointer (some ⟨b1, 0, none⟩)), (2, v13), (3, .int .i64 x17), (4, .pointer (some ⟨b32, 0, none⟩)), (23, v5), (24, .int .i64 (len a2.f.blocks)), (25, .int .i64 x17), (69, v28), (70, .int .i64 (len x20.ins)), (71, .int .i64 x37)] ∧ L = [bx b1 85 [.int .i64 a2.f.params, .int .i64 a2.f.result, v3, v5, v7, v9, .int .i64 x36], F14, bx b32 60 [v26, v28, .int .i64 x20.term.kind, .int .i64 x20.term.arg, v30]]) ⟨_, _, _, rfl, ovr_eq _ _ rfl, rfl⟩ ?_
    rintro _ _ _ ⟨x36, x37, e33, rfl, rfl, rfl⟩ X37 hp hx38
    replace hp : proper_looker_all.bd38 a2 x17 x20 x36 x37 = some X37 := hp
    refine sr <| tv (blt rfl rfl) rfl <| nz <| TC.seq fun K45 k46 => cD rfl hp (fun hc47 hp => ?_) fun hc47 hp => ?_
    · refine sk k46 rfl <| TC.seq fun K48 k49 => TC.block <| sr <| tm rfl <| ti u58 i62 h29 hp rfl rfl rfl rfl ?_
      rintro x40 b41 o42 _ hp ⟨v46, rfl, h47⟩ h45
      refine tv (lR (ds := [.int .i64 x40.op, .int .i64 x40.dst, v46, .int .i64 x40.imm, .int .i64 x40.fn]) ag_62 sH h45 0 rfl rfl rfl) rfl <| tl i62 rfl fun b48 => ta rfl <| tS 0 m62 rfl rfl [.int .i64 x40.op, .int .i64 x40.dst, v46, .int .i64 x40.imm, .int .i64 x40.fn] rfl (oc rfl (oc rfl (oc (h47).one (oc rfl (oc rfl oc0))))) rfl rfl <| nz <| sr <| tv (fa f62_2 rfl) rfl <| tv (lb s32 0 rfl rfl rfl) rfl <| tv (ln u32 h47 rfl) rfl <| tm rfl <| nz <| TC.block <| bE hp fun z_52 hz53 hr54 => ?_
      have J58 {x51 e57} (hq59 : x51 = z_52) : ∀ w, St E H [bx b1 85 [.int .i64 a2.f.params, .int .i64 a2.f.result, v3, v5, v7, v9, .int .i64 x51], F14, bx b32 60 [v26, v28, .int .i64 x20.term.kind, .int .i64 x20.term.arg, v30]] w → K48 (ovr e57 [(0, .pointer (some ⟨b1, 0, none⟩)), (2, v13), (3, .int .i64 x17), (4, .pointer (some ⟨b32, 0, none⟩)), (23, v5), (24, .int .i64 (len a2.f.blocks)), (25, .int .i64 x17), (69, v28), (70, .int .i64 (len x20.ins)), (71, .int .i64 x37)]) w := by
       subst hq59
       replace hp : proper_looker_all.nx56 x37 x51 = some X37 := hr54
       exact tg k49 <| TC.region <| tv (bad rfl rfl) rfl <| tm rfl <| nl <| gk hp [0, 1, 2] ⟨_, _, _, rfl, ovr_eq _ _ rfl, rfl⟩
      refine lp hz53 [1, 2, 3] rfl (fun s e L => ∃ x49 x50 e51, s = (x49, x50) ∧ e = ovr e51 [(0, .pointer (some ⟨b1, 0, none⟩)), (2, v13), (3, .int .i64 x17), (4, .pointer (some ⟨b32, 0, none⟩)), (10, .int .i64 x37), (23, v5), (24, .int .i64 (len a2.f.blocks)), (25, .int .i64 x17), (69, v28), (70, .int .i64 (len x20.ins)), (71, .int .i64 x37), (77, v46), (78, .int .i64 (len x40.args)), (79, .int .i64 x50)] ∧ L = [bx b1 85 [.int .i64 a2.f.params, .int .i64 a2.f.result, v3, v5, v7, v9, .int .i64 x49], F14, bx b32 60 [v26, v28, .int .i64 x20.term.kind, .int .i64 x20.term.arg, v30]]) ⟨_, _, _, rfl, ovr_eq _ _ rfl, rfl⟩ ?_
      rintro _ _ _ ⟨x49, x50, e51, rfl, rfl, rfl⟩ X55 hp hx56
      replace hp : proper_looker_all.bd56 a2 x17 x37 x40 x49 x50 = some X55 := hp
      refine sr <| tv (blt rfl rfl) rfl <| nz <| TC.seq fun K60 k61 => cD rfl hp (fun hc62 hp => ?_) fun hc62 hp => ?_
      · refine sk k61 rfl <| TC.seq fun K63 k64 => TC.block <| sr <| ti u32 i3 h47 hp rfl rfl rfl rfl ?_
        rintro x52 b53 o54 _ hp rfl h57
        refine tv (lr s3 sH h57 0 rfl rfl) rfl <| ta rfl <| nz <| TC.region <| tm rfl <| tm rfl <| tm rfl <| tm rfl <| bE hp fun x58 hy66 hp => tc 1 [_,_] rfl c60 (fun _ => proper_looker_use_ok (a2 := (⟨(⟨a2.f.params, a2.f.result, a2.f.regs, a2.f.blocks⟩ : PFunc), a2.makers, a2.over, x49⟩ : PProperLooker)) (a12 := x52) (a13 := x17) (a14 := x37) (h4.mono subH) (h6.mono subH) (h8.mono subH) (h10.mono subH) hy66) rfl ?_
        rintro _ _ ⟨rfl, rfl⟩
        exact nl <| tg k64 <| TC.region <| tv (bad rfl rfl) rfl <| tm rfl <| nl <| gk hp [0, 1, 2] ⟨_, _, _, rfl, ovr_eq _ _ rfl, rfl⟩
      · exact TC.exit <| jn [0, 1, 2] (J58 (ex_ret hp hx56))
    · exact TC.exit <| jn [0, 1, 2] (J43 (ex_ret hp hx38))
   refine lp hz26 [1, 2, 0] rfl (fun s e L => ∃ x33 x34 e24, s = (x33, x34) ∧ e = ovr e24 [(0, .pointer (some ⟨b1, 0, none⟩)), (2, v13), (3, .int .i64 x17), (4, .pointer (some ⟨b32, 0, none⟩)), (23, v5), (24, .int .i64 (len a2.f.blocks)), (25, .int .i64 x17), (31, v26), (32, .int .i64 (len x20.phis)), (33, .int .i64 x34)] ∧ L = [bx b1 85 [.int .i64 a2.f.params, .int .i64 a2.f.result, v3, v5, v7, v9, .int .i64 x33], F14, bx b32 60 [v26, v28, .int .i64 x20.term.kind, .int .i64 x20.term.arg, v30]]) ⟨_, _, _, rfl, ovr_eq _ _ rfl, rfl⟩ ?_
   rintro _ _ _ ⟨x33, x34, e24, rfl, rfl, rfl⟩ X28 hp hx29
   replace hp : proper_looker_all.bd29 a2 x12 x17 x20 x33 x34 = some X28 := hp
   refine sr <| tv (blt rfl rfl) rfl <| nz <| TC.seq fun K74 k75 => cD rfl hp (fun hc76 hp => ?_) fun hc76 hp => ?_
   · refine sk k75 rfl <| TC.seq fun K77 k78 => TC.block <| sr <| ti u57 i64 h27 hp rfl rfl rfl rfl ?_
     rintro x59 b60 o61 _ hp ⟨v65, rfl, h66⟩ h64
     refine tv (lR (ds := [.int .i64 x59.dst, v65]) ag_64 sH h64 0 rfl rfl rfl) rfl <| tl i64 rfl fun b67 => tS 0 m64 rfl rfl [.int .i64 x59.dst, v65] rfl (oc rfl (oc (h66).one oc0)) rfl rfl <| nz <| sr <| tv (fa f64_1 rfl) rfl <| tv (lb s32 0 rfl rfl rfl) rfl <| tv (ln u32 h66 rfl) rfl <| tm rfl <| nz <| TC.block <| bE hp fun z_81 hz82 hr83 => ?_
     have J87 {x70 e86} (hq88 : x70 = z_81) : ∀ w, St E H [bx b1 85 [.int .i64 a2.f.params, .int .i64 a2.f.result, v3, v5, v7, v9, .int .i64 x70], F14, bx b32 60 [v26, v28, .int .i64 x20.term.kind, .int .i64 x20.term.arg, v30]] w → K77 (ovr e86 [(0, .pointer (some ⟨b1, 0, none⟩)), (2, v13), (3, .int .i64 x17), (4, .pointer (some ⟨b32, 0, none⟩)), (23, v5), (24, .int .i64 (len a2.f.blocks)), (25, .int .i64 x17), (31, v26), (32, .int .i64 (len x20.phis)), (33, .int .i64 x34)]) w := by
      subst hq88
      replace hp : proper_looker_all.nx85 x34 x70 = some X28 := hr83
      exact tg k78 <| TC.region <| tv (bad rfl rfl) rfl <| tm rfl <| nl <| gk hp [0, 1, 2] ⟨_, _, _, rfl, ovr_eq _ _ rfl, rfl⟩
     refine lp hz82 [1, 2, 3] rfl (fun s e L => ∃ x68 x69 e80, s = (x68, x69) ∧ e = ovr e80 [(0, .pointer (some ⟨b1, 0, none⟩)), (2, v13), (3, .int .i64 x17), (4, .pointer (some ⟨b32, 0, none⟩)), (23, v5), (24, .int .i64 (len a2.f.blocks)), (25, .int .i64 x17), (31, v26), (32, .int .i64 (len x20.phis)), (33, .int .i64 x34), (38, v65), (39, .int .i64 (len x59.args)), (40, .int .i64 x69)] ∧ L = [bx b1 85 [.int .i64 a2.f.params, .int .i64 a2.f.result, v3, v5, v7, v9, .int .i64 x68], F14, bx b32 60 [v26, v28, .int .i64 x20.term.kind, .int .i64 x20.term.arg, v30]]) ⟨_, _, _, rfl, ovr_eq _ _ rfl, rfl⟩ ?_
     rintro _ _ _ ⟨x68, x69, e80, rfl, rfl, rfl⟩ X84 hp hx85
     replace hp : proper_looker_all.bd85 a2 x12 x17 x59 x68 x69 = some X84 := hp
     refine sr <| tv (blt rfl rfl) rfl <| nz <| TC.seq fun K89 k90 => cD rfl hp (fun hc91 hp => ?_) fun hc91 hp => ?_
     · refine sk k90 rfl <| TC.seq fun K92 k93 => TC.block <| sr <| tm rfl <| ti u32 i3 h66 hp rfl rfl rfl rfl ?_
       rintro x71 b72 o73 _ hp rfl h76
       refine tv (lr s3 sH h76 0 rfl rfl) rfl <| ta rfl <| ta rfl <| nz <| sr <| tm rfl <| tm rfl <| ti u65 i32 (h15).ro hp rfl rfl rfl rfl ?_
       rintro x77 b78 o79 _ hp ⟨v83, rfl, h84⟩ h82
       refine tv (lr s32 (Src.at_ 1 rfl) h82 0 rfl rfl) rfl <| tm rfl <| ti u32 i3 h84 hp rfl rfl rfl rfl ?_
       rintro x85 b86 o87 _ hp rfl h90
       refine tv (lr s3 (Src.at_ 1 rfl) h90 0 rfl rfl) rfl <| ta rfl <| nz <| TC.region <| tm rfl <| tm rfl <| tm rfl <| tm rfl <| tv (rv_nilCheck rfl) rfl <| tv (fa f85_0 rfl) rfl <| tv (fa f41_3 rfl) rfl <| tv (lb s39 0 rfl rfl rfl) rfl <| tm rfl <| ti u39 i60 h6 hp rfl rfl rfl rfl ?_
       rintro x91 b92 o93 _ hp ⟨v97, v99, v101, rfl, h98, h100, h102⟩ h96
       refine tv (fa f60_1 rfl) rfl <| tv (lr s58 sH h96 1 rfl rfl) rfl <| tv (ln u58 h100 rfl) rfl <| bE hp fun x103 hy98 hp => tc 1 [_,_] rfl c60 (fun _ => proper_looker_use_ok (a2 := (⟨(⟨a2.f.params, a2.f.result, a2.f.regs, a2.f.blocks⟩ : PFunc), a2.makers, a2.over, x68⟩ : PProperLooker)) (a12 := x71) (a13 := x85) (a14 := (len x91.ins)) (h4.mono subH) (h6.mono subH) (h8.mono subH) (h10.mono subH) hy98) rfl ?_
       rintro _ _ ⟨rfl, rfl⟩
       exact nl <| tg k93 <| TC.region <| tv (bad rfl rfl) rfl <| tm rfl <| nl <| gk hp [0, 1, 2] ⟨_, _, _, rfl, ovr_eq _ _ rfl, rfl⟩
     · exact TC.exit <| jn [0, 1, 2] (J87 (ex_ret hp hx85))
   · exact TC.exit <| jn [0, 1, 2] (J72 (ex_ret hp hx29))
 · exact TC.exit <| jn [0] (J12 (ex_ret hp hx10))
/-! ### fettle/proper.Form -/
abbrev proper_Form.R (r : GErr) (v : Value) (A : List FP) : Prop := ∃ (w1 : Value) (G1 : FP), w1 = v ∧ A = [G1] ∧ ErO 38 69 74 r w1 G1
def proper_Form.nx35 (x11 : PFunc) (x27 : List PMaker × List Int) : Option GErr :=
  (dom_Dominates x11).bind fun x1236 =>
  (proper_looker_all (⟨(⟨x11.params, x11.result, x11.regs, x11.blocks⟩ : PFunc), x27.1, x1236, -1⟩ : PProperLooker)).bind fun x2836 =>
  if x2836 ≥ 0 then
    some (GErr.spot x2836 (GErr.code 4))
  else
    some GErr.no
def proper_Form.bd35 (x11 : PFunc) (x27 : List PMaker × List Int) (x34 : Int) : Option (Ex (Ex GErr Unit) Int) :=
  if x34 < (len x27.2) then
    (idx x27.2 x34).bind fun x2841 =>
    if x2841 > 1 ∨ (x2841 > 0 ∧ x34 < x11.params) then
      some (.ret (.ret (GErr.spot x34 (GErr.code 7))))
    else
      some (.go (w64 (x34 + 1)))
  else
    some (.ret (.go ()))
def proper_Form.nx24 (x11 : PFunc) : Option GErr :=
  (proper_made x11).bind fun x27 =>
  (whl (fun (s : Int) => proper_Form.bd35 x11 x27 s) FUEL 0).bind fun z =>
  match z with
    | .ret r => some r
    | .go p => proper_Form.nx35 x11 x27
def proper_Form.bd24 (x22 : List Bool) (x26 : Int) : Option (Ex (Ex GErr Unit) Int) :=
  if x26 < (len x22) then
    (idx x22 x26).bind fun x2850 =>
    if (!x2850) = true then
      some (.ret (.ret (GErr.code 6)))
    else
      some (.go (w64 (x26 + 1)))
  else
    some (.ret (.go ()))
def proper_Form (a1 : PModule) (a4 : Int) : Option GErr :=
  (check_Module a1).bind fun x6 =>
  if ¬ x6 = GErr.no then
    some x6
  else
    if a4 < 0 ∨ a4 ≥ (len a1.funcs) then
      some (GErr.code 1)
    else
      (idx a1.funcs a4).bind fun x11 =>
      (graph_Reached x11).bind fun x22 =>
      (whl (fun (s : Int) => proper_Form.bd24 x22 s) FUEL 0).bind fun z =>
      match z with
        | .ret r => some r
        | .go p => proper_Form.nx24 x11
set_option maxHeartbeats 4000000 in
theorem proper_Form_ok {E : World} {H : FP} {w : World} {a1 : PModule} {a4 : Int} {v2 : Value} {r : GErr} (h3 : SlI kFunc H a1.funcs v2) (hp : proper_Form a1 a4 = some r) (hst : St E H [] w) :
    Fn Tryd.prog 15 #[.agg #[v2], .int .i64 a4] w fun v w' => ∃ A, proper_Form.R r v A ∧ St E H A w' := by
 refine fb 96 [.tmp 4] Tryd.func15 rfl rfl rfl rfl rfl hst <| sr <| tb [v2] rfl rfl fun b5 => ta rfl <| nz <| TC.seq fun K1 k2 => sr <| tv (lA (ds := [v2]) ag_24 0 rfl rfl rfl rfl) rfl <| bE hp fun x6 hy3 hp => tc 0 [_] rfl c33 (fun _ => check_Module_ok (a1 := a1) (h3.mono subH) hy3) rfl ?_
 rintro _ _ ⟨v7, F8, rfl, rfl, h9⟩
 refine ta rfl <| nz <| sr <| tm rfl <| tv (rv_neqEN ifc_29 h9 rfl) rfl <| nz <| cD rfl hp (fun hc5 hp => ?_) fun hc5 hp => ?_
 · exact sr <| tm rfl <| ta rfl <| nz <| TC.ret <| rt hp [0] ⟨v7, F8, rfl, rfl, h9⟩
 · refine sk k2 rfl <| TC.seq fun K6 k7 => sr <| tm rfl <| tv (blt rfl rfl) rfl <| tm rfl <| TL.cut 6 fun K8 k9 => ?_
   have J10 {e12} : ∀ w, St E H [F8, bx b5 24 [v2]] w → K8 (ovr e12 [(27, .bool (decide (a4 < 0 ∨ a4 ≥ (len a1.funcs)))), (1, .int .i64 a4), (2, .pointer (some ⟨b5, 0, none⟩))]) w := by
    refine tlg k9 <| nz <| cD rfl hp (fun hc13 hp => ?_) fun hc13 hp => ?_
    · exact sr <| tv (mI u38 rfl) rfl <| ta rfl <| nz <| TC.ret <| W.new0 <| rt hp [0] ⟨(.iface 38 (.int .i64 1)), ([] : FP), rfl, rfl, (ErO.mk _ : ErO 38 69 74 (GErr.code 1) (.iface 38 (.int .i64 1)) [])⟩
    · refine sk k7 rfl <| sr <| tv (fa f24_0 rfl) rfl <| tv (lb s22 1 rfl rfl rfl) rfl <| tm rfl <| ti u22 i41 h3 hp rfl rfl rfl rfl ?_
      rintro x11 b12 o13 _ hp ⟨v17, v19, rfl, h18, h20⟩ h16
      refine tv (lR (ds := [.int .i64 x11.params, .int .i64 x11.result, v17, v19]) ag_41 sH h16 0 rfl rfl rfl) rfl <| tl i41 rfl fun b21 => tS 0 m41 rfl rfl [.int .i64 x11.params, .int .i64 x11.result, v17, v19] rfl (oc rfl (oc rfl (oc (h18).one (oc (h20).one oc0)))) rfl rfl <| nz <| TC.seq fun K15 k16 => sr <| tv (lA (ds := [.int .i64 x11.params, .int .i64 x11.result, v17, v19]) ag_41 0 rfl rfl rfl rfl) rfl <| bE hp fun x22 hy17 hp => tc 0 [_,_,_] rfl c34 (fun _ => graph_Reached_ok (a1 := x11) (h18.mono subH) (h20.mono subH) hy17) rfl ?_
      rintro _ _ ⟨v23, F24, rfl, rfl, h25⟩
      refine tv (ln u42 h25.ro rfl) rfl <| tm rfl <| nz <| TC.block <| bE hp fun z_20 hz21 hr22 => ?_
      have J71 {e25} (hq72 : .go () = z_20) : ∀ w, St E H [bx b21 41 [.int .i64 x11.params, .int .i64 x11.result, v17, v19]] w → K15 (ovr e25 [(6, .pointer (some ⟨b21, 0, none⟩))]) w := by
       subst hq72
       replace hp : proper_Form.nx24 x11 = some r := hr22
       refine tg k16 <| sr <| tv (lA (ds := [.int .i64 x11.params, .int .i64 x11.result, v17, v19]) ag_41 0 rfl rfl rfl rfl) rfl <| bE hp fun x27 hy26 hp => tc 0 [_] rfl c35 (fun _ => proper_made_ok (a1 := x11) (h18.mono subH) (h20.mono subH) hy26) rfl ?_
       rintro _ _ ⟨v28, F29, v31, F32, rfl, rfl, h30, h33⟩
       refine tm rfl <| tv (xt rfl rfl) rfl <| tv (xt rfl rfl) rfl <| ta rfl <| ta rfl <| nz <| TC.seq fun K28 k29 => sr <| tm rfl <| tv (ln u32 h33.ro rfl) rfl <| tm rfl <| nz <| TC.block <| bE hp fun z_31 hz32 hr33 => ?_
       have J50 {e36} (hq51 : .go () = z_31) : ∀ w, St E H [bx b21 41 [.int .i64 x11.params, .int .i64 x11.result, v17, v19], F29] w → K28 (ovr e36 [(6, .pointer (some ⟨b21, 0, none⟩)), (9, v28)]) w := by
        subst hq51
        replace hp : proper_Form.nx35 x11 x27 = some r := hr33
        refine tg k29 <| TC.seq fun K37 k38 => ch mix [bx b21 41 [.int .i64 x11.params, .int .i64 x11.result, v17, v19], F29] (srcG 0 rfl (srcG 1 rfl srcG0)) <| hv 0 rfl (lAG (ds := [.int .i64 x11.params, .int .i64 x11.result, v17, v19]) ag_41 0 rfl rfl rfl rfl) (by kernel_rfl) rfl <| hv 1 rfl mv (by kernel_rfl) rfl <| hv 2 rfl (lAG (ds := [.int .i64 x11.params, .int .i64 x11.result, v17, v19]) ag_41 0 rfl rfl rfl rfl) (by kernel_rfl) rfl <| ho 3 rfl (by kernel_rfl) fun K39 k40 => bE hp fun x1236 hy41 hp => tc 0 [_,_] rfl c36 (fun _ => dom_Dominates_ok (a1 := x11) (h18.mono subH) (h20.mono subH) hy41) rfl ?_
        rintro _ _ ⟨v1237, F1238, rfl, rfl, h1239⟩
        refine hk k40 (srcG 1 rfl (srcG 2 rfl srcG0)) <| hv 4 rfl (rv_bv (vs := [(0, .agg #[.int .i64 x11.params, .int .i64 x11.result, v17, v19]), (1, v28), (2, v1237), (3, .int .i64 (-1))]) (ds := [.int .i64 x11.params, .int .i64 x11.result, v17, v19, v28, v1237, .int .i64 (-1)]) rfl (fun w => by obtain ⟨_, _, rfl⟩ := (h30).len; obtain ⟨_, _, rfl⟩ := (h1239).len; kernel_rfl)) (by kernel_rfl) rfl <| ho 5 rfl (by kernel_rfl) fun K43 k44 => tb [.int .i64 x11.params, .int .i64 x11.result, v17, v19, v28, v1237, .int .i64 (-1)] rfl rfl fun b2036 => hk k44 (srcG 2 rfl (srcG 3 rfl srcG0)) <| hv 6 rfl sg (by kernel_rfl) rfl <| hz (by kernel_rfl) <| tg k38 <| sr <| tm rfl <| bE hp fun x2836 hy45 hp => tc 1 [_,_,_] rfl c37 (fun _ => proper_looker_all_ok (a2 := (⟨(⟨x11.params, x11.result, x11.regs, x11.blocks⟩ : PFunc), x27.1, x1236, -1⟩ : PProperLooker)) (h18.mono subH) (h20.mono subH) (h30.ro.mono (subB 2 rfl)) (h1239.ro.mono (subB 0 rfl)) hy45) rfl ?_
        rintro _ _ ⟨rfl, rfl⟩
        refine nz <| TC.seq fun K47 k48 => sr <| tm rfl <| tv (rv_nilCheck rfl) rfl <| tv (fa f85_3 rfl) rfl <| tv (lb s3 0 rfl rfl rfl) rfl <| tv (bge rfl rfl) rfl <| nz <| cD rfl hp (fun hc49 hp => ?_) fun hc49 hp => ?_
        · exact sr <| tm rfl <| tv (rv_nilCheck rfl) rfl <| tv (fa f85_3 rfl) rfl <| tv (lb s3 0 rfl rfl rfl) rfl <| tv (mI u38 rfl) rfl <| tv (rv_bv (vs := [(0, .int .i64 x2836), (1, .iface 38 (.int .i64 4))]) (ds := [.int .i64 x2836, .iface 38 (.int .i64 4)]) rfl (fun w => by kernel_rfl)) rfl <| tb [.int .i64 x2836, .iface 38 (.int .i64 4)] rfl rfl fun b2837 => TL.new0 <| tv (mI u69 rfl) rfl <| tp [1, 0, 2, 3, 4, 5] [_,_,_,_,_,_] rfl rfl <| tf 0 2 [_,_,_,_,_] rfl <| ta rfl <| nz <| TC.ret <| rt hp [0] ⟨(.iface 69 (.pointer (some ⟨b2837, 0, none⟩))), (bx b2837 74 [.int .i64 x2836, (.iface 38 (.int .i64 4))] ++ (([] : FP))), rfl, rfl, (ErO.at_ x2836 b2837 (ErO.mk _ : ErO 38 69 74 (GErr.code 4) (.iface 38 (.int .i64 4)) []))⟩
        · exact sk k48 rfl <| sr <| ta rfl <| nz <| TC.ret <| W.new0 <| rt hp [0] ⟨.nilIface, ([] : FP), rfl, rfl, (ErO.nil : ErO 38 69 74 GErr.no .nilIface [])⟩
       refine lp hz32 [2, 0, 1] rfl (fun s e L => ∃ e30, e = ovr e30 [(6, .pointer (some ⟨b21, 0, none⟩)), (9, v28), (50, v31), (51, .int .i64 (len x27.2)), (52, .int .i64 s)] ∧ L = [bx b21 41 [.int .i64 x11.params, .int .i64 x11.result, v17, v19], F29, F32]) ⟨_, ovr_eq _ _ rfl, rfl⟩ ?_
       rintro x34 _ _ ⟨e30, rfl, rfl⟩ X34 hp hx35
       replace hp : proper_Form.bd35 x11 x27 x34 = some X34 := hp
       refine sr <| tv (blt rfl rfl) rfl <| nz <| TC.seq fun K52 k53 => cD rfl hp (fun hc54 hp => ?_) fun hc54 hp => ?_
       · refine sk k53 rfl <| TC.seq fun K55 k56 => TC.block <| sr <| tm rfl <| ti u32 i3 (h33).ro hp rfl rfl rfl rfl ?_
         rintro x2841 b2842 o2843 _ hp rfl h2846
         refine tv (lr s3 (Src.at_ 2 rfl) h2846 0 rfl rfl) rfl <| ta rfl <| ta rfl <| nz <| sr <| tm rfl <| tv (bgt rfl rfl) rfl <| tm rfl <| TL.cut 9 fun K58 k59 => ?_
         have J60 {e62} : ∀ w, St E H [bx b21 41 [.int .i64 x11.params, .int .i64 x11.result, v17, v19], F29, F32] w → K58 (ovr e62 [(68, .bool (decide (x2841 > 1 ∨ (x2841 > 0 ∧ x34 < x11.params)))), (6, .pointer (some ⟨b21, 0, none⟩)), (9, v28), (11, .int .i64 x34), (50, v31), (51, .int .i64 (len x27.2)), (52, .int .i64 x34)]) w := by
          refine tlg k59 <| nz <| cD rfl hp (fun hc63 hp => ?_) fun hc63 hp => ?_
          · refine sr <| tm rfl <| tv (mI u38 rfl) rfl <| tv (rv_bv (vs := [(0, .int .i64 x34), (1, .iface 38 (.int .i64 7))]) (ds := [.int .i64 x34, .iface 38 (.int .i64 7)]) rfl (fun w => by kernel_rfl)) rfl <| tb [.int .i64 x34, .iface 38 (.int .i64 7)] rfl rfl fun b2847 => TL.new0 <| tv (mI u69 rfl) rfl <| tp [1, 0, 2, 3, 4] [_,_,_,_,_] rfl rfl <| tf 0 2 [_,_,_,_] rfl <| ta rfl <| nz <| TC.ret ?_
            obtain rfl := ex_ret hp hx35
            exact rt hr33 [0] ⟨(.iface 69 (.pointer (some ⟨b2847, 0, none⟩))), (bx b2847 74 [.int .i64 x34, (.iface 38 (.int .i64 7))] ++ (([] : FP))), rfl, rfl, (ErO.at_ x34 b2847 (ErO.mk _ : ErO 38 69 74 (GErr.code 7) (.iface 38 (.int .i64 7)) []))⟩
          · exact sk k56 rfl <| TC.region <| tv (bad rfl rfl) rfl <| tm rfl <| nl <| gk hp [0, 1, 2] ⟨_, ovr_eq _ _ rfl, rfl⟩
         by_cases hc61 : x2841 > 1
         · exact gn rfl (bT hc61) rfl rfl <| gn rfl (bT hc61) rfl rfl <| gn rfl (bT hc61) rfl rfl <| gu rfl rfl rfl <| gu rfl rfl rfl <| gu rfl rfl rfl <| gu rfl rfl rfl <| gn rfl (bT hc61) rfl rfl <| tv (pT (bT hc61)) rfl <| nj J60 (bOt hc61)
         · refine gy rfl (bF hc61) <| tm rfl <| gy rfl (bF hc61) <| tv (bgt rfl rfl) rfl <| gy rfl (bF hc61) <| tm rfl <| TL.cut 5 fun K64 k65 => ?_
           have J66 {e68} : ∀ w, St E H [bx b21 41 [.int .i64 x11.params, .int .i64 x11.result, v17, v19], F29, F32] w → K64 (ovr e68 [(67, .bool (decide (x2841 > 0 ∧ x34 < x11.params))), (6, .pointer (some ⟨b21, 0, none⟩)), (9, v28), (11, .int .i64 x34), (50, v31), (51, .int .i64 (len x27.2)), (52, .int .i64 x34), (59, .bool (decide (x2841 > 1))), (60, .int .i64 x2841), (61, .bool (decide (x2841 > 0))), (62, .bool (decide (x2841 > 0)))]) w := by
            exact tlg k65 <| tv (pF (bF hc61)) rfl <| nj J60 (bOf hc61)
           by_cases hc67 : x2841 > 0
           · exact gy rfl (bT hc67) <| tm rfl <| gy rfl (bT hc67) <| tv (fa f41_0 rfl) rfl <| gy rfl (bT hc67) <| tv (lb s3 0 rfl rfl rfl) rfl <| gy rfl (bT hc67) <| tv (blt rfl rfl) rfl <| gy rfl (bF hc61) <| tv (pT (bT hc67)) rfl <| nj J66 (bAt hc67)
           · exact gn rfl (bF hc67) rfl rfl <| gn rfl (bF hc67) rfl rfl <| gn rfl (bF hc67) rfl rfl <| gn rfl (bF hc67) rfl rfl <| gy rfl (bF hc61) <| tv (pF (bF hc67)) rfl <| nj J66 (bAf hc67)
       · exact TC.exit <| jn [0, 1] (J50 (ex_ret hp hx35))
      refine lp hz21 [1, 0] rfl (fun s e L => ∃ e19, e = ovr e19 [(6, .pointer (some ⟨b21, 0, none⟩)), (35, v23), (36, .int .i64 (len x22)), (37, .int .i64 s)] ∧ L = [bx b21 41 [.int .i64 x11.params, .int .i64 x11.result, v17, v19], F24]) ⟨_, ovr_eq _ _ rfl, rfl⟩ ?_
      rintro x26 _ _ ⟨e19, rfl, rfl⟩ X23 hp hx24
      replace hp : proper_Form.bd24 x22 x26 = some X23 := hp
      refine sr <| tv (blt rfl rfl) rfl <| nz <| TC.seq fun K73 k74 => cD rfl hp (fun hc75 hp => ?_) fun hc75 hp => ?_
      · refine sk k74 rfl <| TC.seq fun K76 k77 => TC.block <| sr <| ti u42 i4 (h25).ro hp rfl rfl rfl rfl ?_
        rintro x2850 b2851 o2852 _ hp rfl h2855
        refine tv (lr s4 (Src.at_ 1 rfl) h2855 0 rfl rfl) rfl <| ta rfl <| nz <| sr <| tm rfl <| tv (rv_not rfl) rfl <| nz <| cB rfl hp (fun hc79 hp => ?_) fun hc79 hp => ?_
        · refine sr <| tv (mI u38 rfl) rfl <| ta rfl <| nz <| TC.ret <| W.new0 ?_
          obtain rfl := ex_ret hp hx24
          exact rt hr22 [0] ⟨(.iface 38 (.int .i64 6)), ([] : FP), rfl, rfl, (ErO.mk _ : ErO 38 69 74 (GErr.code 6) (.iface 38 (.int .i64 6)) [])⟩
        · exact sk k77 rfl <| TC.region <| tv (bad rfl rfl) rfl <| tm rfl <| nl <| gk hp [0, 1] ⟨_, ovr_eq _ _ rfl, rfl⟩
      · exact TC.exit <| jn [0] (J71 (ex_ret hp hx24))
   by_cases hc11 : a4 < 0
   · exact gn rfl (bT hc11) rfl rfl <| gn rfl (bT hc11) rfl rfl <| gn rfl (bT hc11) rfl rfl <| gn rfl (bT hc11) rfl rfl <| gn rfl (bT hc11) rfl rfl <| tv (pT (bT hc11)) rfl <| nj J10 (bOt hc11)
   · exact gy rfl (bF hc11) <| tm rfl <| gy rfl (bF hc11) <| tv (fa f24_0 rfl) rfl <| gy rfl (bF hc11) <| tv (lb s22 1 rfl rfl rfl) rfl <| gy rfl (bF hc11) <| tv (ln u22 h3 rfl) rfl <| gy rfl (bF hc11) <| tv (bge rfl rfl) rfl <| tv (pF (bF hc11)) rfl <| nj J10 (bOf hc11)
/-! ### fettle/fettlelaw13.up -/
abbrev fettlelaw13_up.R (r : Bool) (v : Value) (A : List FP) : Prop := .bool r = v ∧ A = []
def fettlelaw13_up  : Option Bool :=
  (proper_Form (⟨[(⟨1, 1, [1], [(⟨([] : List PPhi), ([] : List PInstr), (⟨3, 0, ([] : List Int)⟩ : PTerm)⟩ : PBlock)]⟩ : PFunc)]⟩ : PModule) 0).bind fun x14 =>
  (proper_Form (⟨[]⟩ : PModule) 0).bind fun x18 =>
  some (decide (x14 = GErr.no ∧ x18 = (GErr.code 1)))
theorem fettlelaw13_up_ok {E : World} {H : FP} {w : World} {r : Bool}  (hp : fettlelaw13_up = some r) (hst : St E H [] w) :
    Fn Tryd.prog 14 #[] w fun v w' => ∃ A, fettlelaw13_up.R r v A ∧ St E H A w' := by
 refine fb 22 [.tmp 0] Tryd.func14 rfl rfl rfl rfl rfl hst <| sr <| ta rfl <| nz <| sr <| tbs [(0, .int .i64 1)] [.int .i64 1] u32 i3 (by kernel_rfl) rfl rfl rfl rfl fun b1 => tv (rv_bv (vs := [(0, .int .i64 3)]) (ds := [.int .i64 3, .int .i64 0, .slice none 0 0]) rfl (fun w => by kernel_rfl)) rfl <| tv (rv_bv (vs := [(2, .agg #[.int .i64 3, .int .i64 0, .slice none 0 0])]) (ds := [.slice none 0 0, .slice none 0 0, .int .i64 3, .int .i64 0, .slice none 0 0]) rfl (fun w => by kernel_rfl)) rfl <| tbs [(0, .agg #[.slice none 0 0, .slice none 0 0, .int .i64 3, .int .i64 0, .slice none 0 0])] [.slice none 0 0, .slice none 0 0, .int .i64 3, .int .i64 0, .slice none 0 0] u39 i60 (by kernel_rfl) rfl rfl rfl rfl fun b2 => tv (rv_bv (vs := [(0, .int .i64 1), (1, .int .i64 1), (2, .slice (some ⟨b1, 0, none⟩) 1 1), (3, .slice (some ⟨b2, 0, none⟩) 1 1)]) (ds := [.int .i64 1, .int .i64 1, .slice (some ⟨b1, 0, none⟩) 1 1, .slice (some ⟨b2, 0, none⟩) 1 1]) rfl (fun w => by kernel_rfl)) rfl <| tl i41 rfl fun b3 => tp [2, 0, 1] [_,_,_] rfl rfl <| tf 1 0 [_,_,_,_] rfl <| TL.litOwn (n := 1) (xs := [1]) (RepL.to (RepL.cons (k := (kInt .i64)) (x := 1) ⟨rfl, rfl⟩ RepL.nil) rfl) rfl rfl (ltb rfl) fun F4 h5 => TL.new0 <| TL.new0 <| TL.new0 <| tp [5, 2, 1, 0, 3, 4] [_,_,_,_,_,_] rfl rfl <| tf 1 3 [_,_,_,_] rfl <| TL.litOwn (n := 1) (xs := [(⟨([] : List PPhi), ([] : List PInstr), (⟨3, 0, ([] : List Int)⟩ : PTerm)⟩ : PBlock)]) (RepL.to (G' := ([] : FP) ++ (([] : FP) ++ (([] : FP)))) (RepL.cons (k := kBlock) (x := (⟨([] : List PPhi), ([] : List PInstr), (⟨3, 0, ([] : List Int)⟩ : PTerm)⟩ : PBlock)) ⟨_, _, _, _, _, _, rfl, rfl, (SlO.nil 64), (SlO.nil 62), (SlO.nil 3)⟩ RepL.nil) (by simp)) rfl rfl (ltb rfl) fun F9 h10 => tS 2 m41 rfl rfl [.int .i64 1, .int .i64 1, (.slice (some ⟨b1, 0, none⟩) 1 1), (.slice (some ⟨b2, 0, none⟩) 1 1)] rfl (oc rfl (oc rfl (oc (h5).one (oc (h10).one oc0)))) rfl rfl <| nz <| sr <| tv (lA (ds := [.int .i64 1, .int .i64 1, (.slice (some ⟨b1, 0, none⟩) 1 1), (.slice (some ⟨b2, 0, none⟩) 1 1)]) ag_41 2 rfl rfl rfl rfl) rfl <| tbs [(0, .agg #[.int .i64 1, .int .i64 1, (.slice (some ⟨b1, 0, none⟩) 1 1), (.slice (some ⟨b2, 0, none⟩) 1 1)])] [.int .i64 1, .int .i64 1, (.slice (some ⟨b1, 0, none⟩) 1 1), (.slice (some ⟨b2, 0, none⟩) 1 1)] u22 i41 (by kernel_rfl) rfl rfl rfl rfl fun b11 => tv (rv_bv (vs := [(0, .slice (some ⟨b11, 0, none⟩) 1 1)]) (ds := [.slice (some ⟨b11, 0, none⟩) 1 1]) rfl (fun w => by kernel_rfl)) rfl <| tp [0, 2, 1, 3] [_,_,_,_] rfl rfl <| tf 1 2 [_,_,_] rfl <| TL.litOwn (n := 1) (xs := [(⟨1, 1, [1], [(⟨([] : List PPhi), ([] : List PInstr), (⟨3, 0, ([] : List Int)⟩ : PTerm)⟩ : PBlock)]⟩ : PFunc)]) (RepL.to (G' := F4 ++ (F9)) (RepL.cons (k := kFunc) (x := (⟨1, 1, [1], [(⟨([] : List PPhi), ([] : List PInstr), (⟨3, 0, ([] : List Int)⟩ : PTerm)⟩ : PBlock)]⟩ : PFunc)) ⟨_, _, _, _, rfl, rfl, h5, h10⟩ RepL.nil) (by simp)) rfl rfl (ltb rfl) fun F12 h13 => bE hp fun x14 hy1 hp => tc 0 [_,_] rfl c15 (fun _ => proper_Form_ok (a1 := (⟨[(⟨1, 1, [1], [(⟨([] : List PPhi), ([] : List PInstr), (⟨3, 0, ([] : List Int)⟩ : PTerm)⟩ : PBlock)]⟩ : PFunc)]⟩ : PModule)) (a4 := 0) (h13.ro.mono (subB 0 rfl)) hy1) rfl ?_
 rintro _ _ ⟨v15, F16, rfl, rfl, h17⟩
 refine ta rfl <| nz <| sr <| tv (rv_bv (vs := []) (ds := [.slice none 0 0]) rfl (fun w => by kernel_rfl)) rfl <| bE hp fun x18 hy3 hp => tc 0 [_,_,_] rfl c15 (fun _ => proper_Form_ok (a1 := (⟨[]⟩ : PModule)) (a4 := 0) ((SlI.nil (G := H) none 0).mono subH) hy3) rfl ?_
 rintro _ _ ⟨v19, F20, rfl, rfl, h21⟩
 refine ta rfl <| nz <| sr <| tm rfl <| tv (rv_eqlEN ifc_29 h17 rfl) rfl <| tm rfl <| TL.cut 4 fun K5 k6 => ?_
 have J7 {e9} : ∀ w, St E H [F20, F16, F12, bx b3 41 [.int .i64 1, .int .i64 1, (.slice (some ⟨b1, 0, none⟩) 1 1), (.slice (some ⟨b2, 0, none⟩) 1 1)]] w → K5 (ovr e9 [(21, .bool (decide (x14 = GErr.no ∧ x18 = (GErr.code 1))))]) w := by
  exact tlg k6 <| ta rfl <| nz <| TC.ret <| rt hp [] ⟨rfl, rfl⟩
 by_cases hc8 : x14 = GErr.no
 · exact gy rfl (bT hc8) <| tm rfl <| gy rfl (bT hc8) <| tv (mI u38 rfl) rfl <| gy rfl (bT hc8) <| tv (rv_eqlEC ifc_29 cmp_38 Tryd.underlying38 Tryd.underlying69 (by decide) h21 rfl rfl) rfl <| tv (pT (bT hc8)) rfl <| nj J7 (bAt hc8)
 · exact gn rfl (bF hc8) rfl rfl <| gn rfl (bF hc8) rfl rfl <| gn rfl (bF hc8) rfl rfl <| tv (pF (bF hc8)) rfl <| nj J7 (bAf hc8)
/-! ### fettle/fettleref05.From -/
abbrev fettleref05_From.R (r : List Bool) (v : Value) (A : List FP) : Prop := ∃ (w1 : Value) (G1 : FP), w1 = v ∧ A = [G1] ∧ SlO 4 kBool r w1 G1
def fettleref05_From.nx23  (x23 : List Bool) : Option (List Bool) :=
  some x23
def fettleref05_From.nx37 (x22 : Int) (x30 : List Bool) : Option (Ex (List Bool) (List Bool × Int)) :=
  some (.go (x30, (w64 (x22 + 1))))
def fettleref05_From.jn47 (x29 : Int) (x33 : List Bool) : Option (Ex (List Bool) (List Bool × Int)) :=
  some (.go (x33, (w64 (x29 + 1))))
def fettleref05_From.nx59 (x29 : Int) (x50 : List Bool) : Option (Ex (List Bool) (List Bool × Int)) :=
  fettleref05_From.jn47 x29 x50
def fettleref05_From.jn69 (x49 : Int) (x53 : List Bool) : Option (Ex (List Bool) (List Bool × Int)) :=
  some (.go (x53, (w64 (x49 + 1))))
def fettleref05_From.bd59 (a7 : Int) (x42 : List Int) (x46 : List Bool) (x49 : Int) : Option (Ex (List Bool) (List Bool × Int)) :=
  if x49 < (len x42) then
    (idx x42 x49).bind fun x56 =>
    if ¬ x56 = a7 then
      (idx x42 x49).bind fun x62 =>
      (idx x46 x62).bind fun x68 =>
      fettleref05_From.jn69 x49 (x46.set (x62).toNat true)
    else
      fettleref05_From.jn69 x49 x46
  else
    some (.ret x46)
def fettleref05_From.bd37 (a1 : PFunc) (a7 : Int) (x26 : List Bool) (x29 : Int) : Option (Ex (List Bool) (List Bool × Int)) :=
  if x29 < (len x26) then
    (idx x26 x29).bind fun x36 =>
    if (!x36) = true then
      fettleref05_From.jn47 x29 x26
    else
      (fettleref05_Next a1 x29).bind fun x42 =>
      (whl (fun (s : (List Bool × Int)) => fettleref05_From.bd59 a7 x42 s.1 s.2) FUEL (x26, 0)).bind fun z =>
      fettleref05_From.nx59 x29 z
  else
    some (.ret x26)
def fettleref05_From.bd23 (a1 : PFunc) (a7 : Int) (x19 : List Bool) (x22 : Int) : Option (Ex (List Bool) (List Bool × Int)) :=
  if x22 < (len x19) then
    (whl (fun (s : (List Bool × Int)) => fettleref05_From.bd37 a1 a7 s.1 s.2) FUEL (x19, 0)).bind fun z =>
    fettleref05_From.nx37 x22 z
  else
    some (.ret x19)
def fettleref05_From (a1 : PFunc) (a6 : Int) (a7 : Int) : Option (List Bool) :=
  (mkl (len a1.blocks) false).bind fun x9 =>
  if (a6 < 0 ∨ a6 ≥ (len x9)) ∨ a6 = a7 then
    some x9
  else
    (idx x9 a6).bind fun x13 =>
    (whl (fun (s : (List Bool × Int)) => fettleref05_From.bd23 a1 a7 s.1 s.2) FUEL ((x9.set (a6).toNat true), 0)).bind fun z =>
    fettleref05_From.nx23 z
set_option maxHeartbeats 4000000 in
theorem fettleref05_From_ok {E : World} {H : FP} {w : World} {a1 : PFunc} {a6 : Int} {a7 : Int} {v2 : Value} {v4 : Value} {r : List Bool} (h3 : SlI (kInt .i64) H a1.regs v2) (h5 : SlI kBlock H a1.blocks v4) (hp : fettleref05_From a1 a6 a7 = some r) (hst : St E H [] w) :
    Fn Tryd.prog 38 #[.agg #[.int .i64 a1.params, .int .i64 a1.result, v2, v4], .int .i64 a6, .int .i64 a7] w fun v w' => ∃ A, fettleref05_From.R r v A ∧ St E H A w' := by
 refine fb 72 [.tmp 6] Tryd.func38 rfl rfl rfl rfl rfl hst <| sr <| tb [.int .i64 a1.params, .int .i64 a1.result, v2, v4] rfl rfl fun b8 => ta rfl <| nz <| sr <| tv (fa f41_3 rfl) rfl <| tv (lb s39 0 rfl rfl rfl) rfl <| tv (ln u39 h5 rfl) rfl <| tk (k := kBool) u42 i4 hp ⟨rfl, rfl⟩ rfl rfl rfl rfl rfl rfl fun x9 v10 F11 h12 hp => ta rfl <| nz <| TC.seq fun K2 k3 => sr <| tm rfl <| tv (blt rfl rfl) rfl <| tm rfl <| TL.cut 5 fun K4 k5 => ?_
 have J6 {e8} : ∀ w, St E H [F11, bx b8 41 [.int .i64 a1.params, .int .i64 a1.result, v2, v4]] w → K4 (ovr e8 [(23, .bool (decide (a6 < 0 ∨ a6 ≥ (len x9)))), (1, .int .i64 a6), (2, .int .i64 a7), (3, .pointer (some ⟨b8, 0, none⟩)), (7, v10)]) w := by
  refine tlg k5 <| tm rfl <| TL.cut 4 fun K9 k10 => ?_
  have J11 {e13} : ∀ w, St E H [F11, bx b8 41 [.int .i64 a1.params, .int .i64 a1.result, v2, v4]] w → K9 (ovr e13 [(28, .bool (decide ((a6 < 0 ∨ a6 ≥ (len x9)) ∨ a6 = a7))), (1, .int .i64 a6), (2, .int .i64 a7), (3, .pointer (some ⟨b8, 0, none⟩)), (7, v10)]) w := by
   refine tlg k10 <| nz <| cD rfl hp (fun hc14 hp => ?_) fun hc14 hp => ?_
   · exact sr <| tm rfl <| ta rfl <| nz <| TC.ret <| rt hp [0] ⟨v10, F11, rfl, rfl, h12⟩
   · refine sk k3 rfl <| sr <| tm rfl <| tm rfl <| tO u42 i4 h12 hp rfl rfl rfl rfl fun x13 b14 o15 h16 hp => tE h12 h16 m4 rfl ⟨rfl, rfl⟩ w1 fun F17 h18 => nz <| TC.seq fun K16 k17 => sr <| ta rfl <| nz <| TC.block <| bE hp fun z_19 hz20 hr21 => ?_
     have J25 {x23 F24 e24} (h25 : SlO 4 kBool x23 v10 F24) (hq26 : x23 = z_19) : ∀ w, St E H [F24] w → K16 (ovr e24 [(7, v10)]) w := by
      subst hq26
      replace hp : fettleref05_From.nx23 x23 = some r := hr21
      exact tg k17 <| sr <| tm rfl <| ta rfl <| nz <| TC.ret <| rt hp [0] ⟨v10, F24, rfl, rfl, h25⟩
     refine lp hz20 [1, 0] rfl (fun s e L => ∃ x19 x22 F20 e18, s = (x19, x22) ∧ SlO 4 kBool x19 v10 F20 ∧ e = ovr e18 [(2, .int .i64 a7), (3, .pointer (some ⟨b8, 0, none⟩)), (7, v10), (8, .int .i64 x22)] ∧ L = [bx b8 41 [.int .i64 a1.params, .int .i64 a1.result, v2, v4], F20]) ⟨_, _, F17, _, rfl, h18, ovr_eq _ _ rfl, rfl⟩ ?_
     rintro _ _ _ ⟨x19, x22, F20, e18, rfl, h21, rfl, rfl⟩ X22 hp hx23
     replace hp : fettleref05_From.bd23 a1 a7 x19 x22 = some X22 := hp
     refine TC.seq fun K27 k28 => sr <| tm rfl <| tm rfl <| tv (ln u42 h21.ro rfl) rfl <| tv (blt rfl rfl) rfl <| nz <| cD rfl hp (fun hc29 hp => ?_) fun hc29 hp => ?_
     · refine sk k28 rfl <| TC.seq fun K30 k31 => TC.block <| sr <| ta rfl <| nz <| TC.block <| bE hp fun z_33 hz34 hr35 => ?_
       have J39 {x30 F31 e38} (h32 : SlO 4 kBool x30 v10 F31) (hq40 : x30 = z_33) : ∀ w, St E H [bx b8 41 [.int .i64 a1.params, .int .i64 a1.result, v2, v4], F31] w → K30 (ovr e38 [(2, .int .i64 a7), (3, .pointer (some ⟨b8, 0, none⟩)), (7, v10), (8, .int .i64 x22)]) w := by
        subst hq40
        replace hp : fettleref05_From.nx37 x22 x30 = some X22 := hr35
        exact tg k31 <| TC.region <| tm rfl <| tv (bad rfl rfl) rfl <| ta rfl <| nl <| gk hp [0, 1] ⟨_, _, F31, _, rfl, h32, ovr_eq _ _ rfl, rfl⟩
       refine lp hz34 [0, 1] rfl (fun s e L => ∃ x26 x29 F27 e32, s = (x26, x29) ∧ SlO 4 kBool x26 v10 F27 ∧ e = ovr e32 [(2, .int .i64 a7), (3, .pointer (some ⟨b8, 0, none⟩)), (7, v10), (8, .int .i64 x22), (9, .int .i64 x29)] ∧ L = [bx b8 41 [.int .i64 a1.params, .int .i64 a1.result, v2, v4], F27]) ⟨_, _, F20, _, rfl, h21, ovr_eq _ _ rfl, rfl⟩ ?_
       rintro _ _ _ ⟨x26, x29, F27, e32, rfl, h28, rfl, rfl⟩ X36 hp hx37
       replace hp : fettleref05_From.bd37 a1 a7 x26 x29 = some X36 := hp
       refine TC.seq fun K41 k42 => sr <| tm rfl <| tm rfl <| tv (ln u42 h28.ro rfl) rfl <| tv (blt rfl rfl) rfl <| nz <| cD rfl hp (fun hc43 hp => ?_) fun hc43 hp => ?_
       · refine sk k42 rfl <| TC.seq fun K44 k45 => ?_
         have J47 {x33 F34 e46} (h35 : SlO 4 kBool x33 v10 F34) (hp : fettleref05_From.jn47 x29 x33 = some X36) : ∀ w, St E H [bx b8 41 [.int .i64 a1.params, .int .i64 a1.result, v2, v4], F34] w → K44 (ovr e46 [(2, .int .i64 a7), (3, .pointer (some ⟨b8, 0, none⟩)), (7, v10), (8, .int .i64 x22), (9, .int .i64 x29)]) w := by
          exact tg k45 <| TC.region <| tm rfl <| tv (bad rfl rfl) rfl <| ta rfl <| nl <| gk hp [0, 1] ⟨_, _, F34, _, rfl, h35, ovr_eq _ _ rfl, rfl⟩
         refine TC.block <| TC.seq fun K48 k49 => sr <| tm rfl <| tm rfl <| ti u42 i4 (h28).ro hp rfl rfl rfl rfl ?_
         rintro x36 b37 o38 _ hp rfl h41
         refine tv (lr s4 (Src.at_ 1 rfl) h41 0 rfl rfl) rfl <| tv (rv_not rfl) rfl <| nz <| cB rfl hp (fun hc51 hp => ?_) fun hc51 hp => ?_
         · exact TC.exit <| jn [0, 1] (J47 h28 hp)
         · refine sk k49 rfl <| sr <| tv (lA (ds := [.int .i64 a1.params, .int .i64 a1.result, v2, v4]) ag_41 0 rfl rfl rfl rfl) rfl <| tm rfl <| bE hp fun x42 hy52 hp => tc 0 [_,_] rfl c28 (fun _ => fettleref05_Next_ok (a1 := a1) (a6 := x29) (h3.mono subH) (h5.mono subH) hy52) rfl ?_
           rintro _ _ ⟨v43, F44, rfl, rfl, h45⟩
           refine ta rfl <| nz <| sr <| ta rfl <| nz <| TC.block <| bE hp fun z_55 hz56 hr57 => ?_
           have J61 {x50 F51 e60} (h52 : SlO 4 kBool x50 v10 F51) (hq62 : x50 = z_55) : ∀ w, St E H [bx b8 41 [.int .i64 a1.params, .int .i64 a1.result, v2, v4], F51] w → K44 (ovr e60 [(2, .int .i64 a7), (3, .pointer (some ⟨b8, 0, none⟩)), (7, v10), (8, .int .i64 x22), (9, .int .i64 x29)]) w := by
            subst hq62
            replace hp : fettleref05_From.nx59 x29 x50 = some X36 := hr57
            exact jn [0, 1] (J47 h52 hp)
           refine lp hz56 [1, 2, 0] rfl (fun s e L => ∃ x46 x49 F47 e54, s = (x46, x49) ∧ SlO 4 kBool x46 v10 F47 ∧ e = ovr e54 [(2, .int .i64 a7), (3, .pointer (some ⟨b8, 0, none⟩)), (7, v10), (8, .int .i64 x22), (9, .int .i64 x29), (10, v43), (11, .int .i64 x49)] ∧ L = [bx b8 41 [.int .i64 a1.params, .int .i64 a1.result, v2, v4], F47, F44]) ⟨_, _, F27, _, rfl, h28, ovr_eq _ _ rfl, rfl⟩ ?_
           rintro _ _ _ ⟨x46, x49, F47, e54, rfl, h48, rfl, rfl⟩ X58 hp hx59
           replace hp : fettleref05_From.bd59 a7 x42 x46 x49 = some X58 := hp
           refine TC.seq fun K63 k64 => sr <| tm rfl <| tm rfl <| tv (ln u32 h45.ro rfl) rfl <| tv (blt rfl rfl) rfl <| nz <| cD rfl hp (fun hc65 hp => ?_) fun hc65 hp => ?_
           · refine sk k64 rfl <| TC.seq fun K66 k67 => ?_
             have J69 {x53 F54 e68} (h55 : SlO 4 kBool x53 v10 F54) (hp : fettleref05_From.jn69 x49 x53 = some X58) : ∀ w, St E H [bx b8 41 [.int .i64 a1.params, .int .i64 a1.result, v2, v4], F54, F44] w → K66 (ovr e68 [(2, .int .i64 a7), (3, .pointer (some ⟨b8, 0, none⟩)), (7, v10), (8, .int .i64 x22), (9, .int .i64 x29), (10, v43), (11, .int .i64 x49)]) w := by
              exact tg k67 <| TC.region <| tm rfl <| tv (bad rfl rfl) rfl <| ta rfl <| nl <| gk hp [0, 1, 2] ⟨_, _, F54, _, rfl, h55, ovr_eq _ _ rfl, rfl⟩
             refine TC.block <| sr <| tm rfl <| tm rfl <| ti u32 i3 (h45).ro hp rfl rfl rfl rfl ?_
             rintro x56 b57 o58 _ hp rfl h61
             refine tv (lr s3 (Src.at_ 2 rfl) h61 0 rfl rfl) rfl <| tm rfl <| tv (bne rfl rfl) rfl <| nz <| cD rfl hp (fun hc71 hp => ?_) fun hc71 hp => ?_
             · refine TC.region <| tm rfl <| tm rfl <| tm rfl <| ti u32 i3 (h45).ro hp rfl rfl rfl rfl ?_
               rintro x62 b63 o64 _ hp rfl h67
               exact tv (lr s3 (Src.at_ 2 rfl) h67 0 rfl rfl) rfl <| tO u42 i4 h48 hp rfl rfl rfl rfl fun x68 b69 o70 h71 hp => tp [1, 0, 2] [_,_,_] rfl rfl <| tE h48 h71 m4 rfl ⟨rfl, rfl⟩ w1 fun F72 h73 => nl <| jn [1, 0, 2] (J69 h73 hp)
             · exact TC.skip <| jn [0, 1, 2] (J69 h48 hp)
           · exact TC.exit <| jn [0, 1] (J61 h48 (ex_ret hp hx59))
       · exact TC.exit <| jn [0, 1] (J39 h28 (ex_ret hp hx37))
     · exact TC.exit <| jn [1] (J25 h21 (ex_ret hp hx23))
  by_cases hc12 : a6 < 0 ∨ a6 ≥ (len x9)
  · exact gn rfl (bT hc12) rfl rfl <| gn rfl (bT hc12) rfl rfl <| gn rfl (bT hc12) rfl rfl <| tv (pT (bT hc12)) rfl <| nj J11 (bOt hc12)
  · exact gy rfl (bF hc12) <| tm rfl <| gy rfl (bF hc12) <| tm rfl <| gy rfl (bF hc12) <| tv (beq rfl rfl) rfl <| tv (pF (bF hc12)) rfl <| nj J11 (bOf hc12)
 by_cases hc7 : a6 < 0
 · exact gn rfl (bT hc7) rfl rfl <| gn rfl (bT hc7) rfl rfl <| gn rfl (bT hc7) rfl rfl <| gn rfl (bT hc7) rfl rfl <| tv (pT (bT hc7)) rfl <| nj J6 (bOt hc7)
 · exact gy rfl (bF hc7) <| tm rfl <| gy rfl (bF hc7) <| tm rfl <| gy rfl (bF hc7) <| tv (ln u42 h12.ro rfl) rfl <| gy rfl (bF hc7) <| tv (bge rfl rfl) rfl <| tv (pF (bF hc7)) rfl <| nj J6 (bOf hc7)
end Go.Proofs.YteaknconpkklhaaDoor
