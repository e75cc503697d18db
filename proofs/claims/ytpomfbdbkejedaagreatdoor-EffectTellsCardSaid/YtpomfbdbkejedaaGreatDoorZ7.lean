/- The walk through the program's functions: each one's pure reading, and that a call does what it says. No conditions. -/
import Derived.Test.YtpomfbdbkejedaaGreatDoorZ6
set_option linter.unusedVariables false
set_option linter.unusedSimpArgs false
namespace Go.Proofs.YtpomfbdbkejedaaGreatDoor
open Go Go.Proofs

/-! ### fettle/effect.Effects -/
abbrev effect_Effects.R (r : List PEffect × GErr) (v : Value) (A : List FP) : Prop := ∃ (w1 : Value) (G1 : FP) (w2 : Value) (G2 : FP), .tuple #[w1, w2] = v ∧ A = [G1, G2] ∧ SlO 37 kEffect r.1 w1 G1 ∧ ErO 73 60 65 r.2 w2 G2
def effect_Effects.nx39  (x50 : List PEffect) : Option (List PEffect × GErr) :=
  some (x50, GErr.no)
def effect_Effects.nx53  (x59 : List PEffect) (x62 : Bool) : Option (Ex (List PEffect) (List PEffect × Bool)) :=
  some (.go (x59, x62))
def effect_Effects.nx71 (x54 : List PEffect) (x57 : Bool) (x58 : Int) (x84 : Bool) (x85 : Bool) (x86 : Bool) (x87 : Bool) (x88 : Bool) : Option (Ex (List PEffect × Bool) (List PEffect × Bool × Int)) :=
  (if x57 = true then some true else (idx x54 x58).bind fun x96 =>
  some (decide (¬ (⟨x84, x85, x86, x87, x88⟩ : PEffect) = x96))).bind fun t89 =>
  (idx x54 x58).bind fun x90 =>
  some (.go ((x54.set (x58).toNat (⟨x84, x85, x86, x87, x88⟩ : PEffect)), t89, (w64 (x58 + 1))))
def effect_Effects.bd71 (x54 : List PEffect) (x70 : List Int) (x78 : Bool) (x79 : Bool) (x80 : Bool) (x81 : Bool) (x82 : Bool) (x83 : Int) : Option (Ex (Bool × Bool × Bool × Bool × Bool) (Bool × Bool × Bool × Bool × Bool × Int)) :=
  if x83 < (len x70) then
    (idx x70 x83).bind fun x102 =>
    (idx x54 x102).bind fun x1309 =>
    (effect_joined (⟨x78, x79, x80, x81, x82⟩ : PEffect) x1309).bind fun x2109 =>
    some (.go (x2109.reads, x2109.writes, x2109.outs, x2109.traps, x2109.turns, (w64 (x83 + 1))))
  else
    some (.ret (x78, x79, x80, x81, x82))
def effect_Effects.bd53 (x32 : List (List Int)) (x46 : List PEffect) (x54 : List PEffect) (x57 : Bool) (x58 : Int) : Option (Ex (List PEffect × Bool) (List PEffect × Bool × Int)) :=
  if x58 < (len x46) then
    (idx x54 x58).bind fun x63 =>
    (idx x32 x58).bind fun x70 =>
    (whl (fun (s : (Bool × Bool × Bool × Bool × Bool × Int)) => effect_Effects.bd71 x54 x70 s.1 s.2.1 s.2.2.1 s.2.2.2.1 s.2.2.2.2.1 s.2.2.2.2.2) FUEL (x63.reads, x63.writes, x63.outs, x63.traps, x63.turns, 0)).bind fun z =>
    effect_Effects.nx71 x54 x57 x58 z.1 z.2.1 z.2.2.1 z.2.2.2.1 z.2.2.2.2
  else
    some (.ret (x54, x57))
def effect_Effects.bd39 (x32 : List (List Int)) (x46 : List PEffect) (x49 : Bool) : Option (Ex (List PEffect) (List PEffect × Bool)) :=
  if x49 = true then
    (whl (fun (s : (List PEffect × Bool × Int)) => effect_Effects.bd53 x32 x46 s.1 s.2.1 s.2.2) FUEL (x46, false, 0)).bind fun z =>
    effect_Effects.nx53 z.1 z.2
  else
    some (.ret x46)
def effect_Effects.nx30 (x32 : List (List Int)) (x43 : List PEffect) : Option (List PEffect × GErr) :=
  (whl (fun (s : (List PEffect × Bool)) => effect_Effects.bd39 x32 s.1 s.2) FUEL (x43, true)).bind fun z =>
  effect_Effects.nx39 z
def effect_Effects.jn114 (x42 : Int) (x2909 : List PEffect) : Option (Ex (List PEffect) (List PEffect × Int)) :=
  some (.go (x2909, (w64 (x42 + 1))))
def effect_Effects.nx129 (x42 : Int) (x2925 : List PEffect) : Option (Ex (List PEffect) (List PEffect × Int)) :=
  effect_Effects.jn114 x42 x2925
def effect_Effects.bd129 (x2912 : List Int) (x2921 : List PEffect) (x2924 : Int) : Option (Ex (List PEffect) (List PEffect × Int)) :=
  if x2924 < (len x2912) then
    (idx x2912 x2924).bind fun x2928 =>
    (idx x2921 x2928).bind fun x2934 =>
    some (.go ((x2921.set (x2928).toNat (⟨x2934.reads, x2934.writes, x2934.outs, x2934.traps, true⟩ : PEffect)), (w64 (x2924 + 1))))
  else
    some (.ret x2921)
def effect_Effects.bd30 (x18 : List (List Int)) (x35 : List (List Int)) (x39 : List PEffect) (x42 : Int) : Option (Ex (List PEffect) (List PEffect × Int)) :=
  if x42 < (len x35) then
    (idx x35 x42).bind fun x2912 =>
    (if (len x2912) > 1 then some true else (idx x2912 0).bind fun x2945 =>
    (idx x18 x2945).bind fun x2951 =>
    (idx x2912 0).bind fun x2959 =>
    (slices_Contains x2951 x2959).bind fun x2965 =>
    some x2965).bind fun t2920 =>
    if t2920 = true then
      (whl (fun (s : (List PEffect × Int)) => effect_Effects.bd129 x2912 s.1 s.2) FUEL (x39, 0)).bind fun z =>
      effect_Effects.nx129 x42 z
    else
      effect_Effects.jn114 x42 x39
  else
    some (.ret x39)
def effect_Effects.nx19 (a1 : PModule) (x18 : List (List Int)) (x29 : List PEffect) (x32 : List (List Int)) : Option (List PEffect × GErr) :=
  (calls_Rings a1).bind fun x35 =>
  (whl (fun (s : (List PEffect × Int)) => effect_Effects.bd30 x18 x35 s.1 s.2) FUEL (x29, 0)).bind fun z =>
  effect_Effects.nx30 x32 z
def effect_Effects.bd19 (a1 : PModule) (x22 : List PEffect) (x25 : List (List Int)) (x28 : Int) : Option (Ex (List PEffect × List (List Int)) (List PEffect × List (List Int) × Int)) :=
  if x28 < (len a1.funcs) then
    (idx a1.funcs x28).bind fun x2966 =>
    (effect_own x2966).bind fun x2977 =>
    (idx x22 x28).bind fun x2981 =>
    (idx x25 x28).bind fun x2987 =>
    some (.go ((x22.set (x28).toNat x2977.1), (x25.set (x28).toNat x2977.2), (w64 (x28 + 1))))
  else
    some (.ret (x22, x25))
def effect_Effects.jn9 (a1 : PModule) (x10 : List PEffect) (x14 : List (List Int)) : Option (List PEffect × GErr) :=
  (calls_Calls a1).bind fun x18 =>
  (whl (fun (s : (List PEffect × List (List Int) × Int)) => effect_Effects.bd19 a1 s.1 s.2.1 s.2.2) FUEL (x10, x14, 0)).bind fun z =>
  effect_Effects.nx19 a1 x18 z.1 z.2
def effect_Effects (a1 : PModule) : Option (List PEffect × GErr) :=
  (check_Module a1).bind fun x5 =>
  if ¬ x5 = GErr.no then
    some (([] : List PEffect), x5)
  else
    (mkl (len a1.funcs) PEffect.zero).bind fun x4194 =>
    (mkl (len a1.funcs) ([] : List Int)).bind fun x5794 =>
    effect_Effects.jn9 a1 x4194 x5794
set_option maxHeartbeats 4000000 in
theorem effect_Effects_ok {E : World} {H : FP} {w : World} {a1 : PModule} {v2 : Value} {r : List PEffect × GErr} (h3 : SlI kFunc H a1.funcs v2) (hp : effect_Effects a1 = some r) (hst : St E H [] w) :
    Fn Tryz.prog 6 #[.agg #[v2]] w fun v w' => ∃ A, effect_Effects.R r v A ∧ St E H A w' := by
 refine fb 129 [.tmp 2, .tmp 3] Tryz.func6 rfl rfl rfl rfl rfl hst <| sr <| tb [v2] rfl rfl fun b4 => ta rfl <| ta rfl <| nz <| TC.seq fun K1 k2 => sr <| tv (lA (ds := [v2]) ag_24 0 rfl rfl rfl rfl) rfl <| bE hp fun x5 hy3 hp => tc 0 [_] rfl c12 (fun _ => check_Module_ok (a1 := a1) (h3.mono subH) hy3) rfl ?_
 rintro _ _ ⟨v6, F7, rfl, rfl, h8⟩
 refine ta rfl <| nz <| sr <| tm rfl <| tv (rv_neqEN ifc_29 h8 rfl) rfl <| nz <| cD rfl hp (fun hc5 hp => ?_) fun hc5 hp => ?_
 · exact sr <| tm rfl <| ta rfl <| ta rfl <| nz <| TC.ret <| W.new0 <| rt hp [0, 1] ⟨(.slice none 0 0), ([] : FP), v6, F7, rfl, rfl, (SlO.nil 37), h8⟩
 · refine sk k2 rfl <| TC.seq fun K6 k7 => ?_
   have J9 {x10 x14 v11 F12 v15 F16 e8} (h13 : SlO 37 kEffect x10 v11 F12) (h17 : SlO 38 (kSl 3 (kInt .i64)) x14 v15 F16) (hp : effect_Effects.jn9 a1 x10 x14 = some r) : ∀ w, St E H [bx b4 24 [v2], F12, F16] w → K6 (ovr e8 [(1, .pointer (some ⟨b4, 0, none⟩)), (5, v11), (6, v15)]) w := by
    refine tg k7 <| sr <| tv (lA (ds := [v2]) ag_24 0 rfl rfl rfl rfl) rfl <| bE hp fun x18 hy10 hp => tc 0 [_,_,_] rfl c13 (fun _ => calls_Calls_ok (a1 := a1) (h3.mono subH) hy10) rfl ?_
    rintro _ _ ⟨v19, F20, rfl, rfl, h21⟩
    refine ta rfl <| nz <| TC.seq fun K12 k13 => sr <| tv (fa f24_0 rfl) rfl <| tv (lb s22 1 rfl rfl rfl) rfl <| tv (ln u22 h3 rfl) rfl <| tm rfl <| nz <| TC.block <| bE hp fun z_15 hz16 hr17 => ?_
    have J149 {x29 x32 F30 F33 e20} (h31 : SlO 37 kEffect x29 v11 F30) (h34 : SlO 38 (kSl 3 (kInt .i64)) x32 v15 F33) (hq150 : (x29, x32) = z_15) : ∀ w, St E H [bx b4 24 [v2], F30, F33, F20] w → K12 (ovr e20 [(1, .pointer (some ⟨b4, 0, none⟩)), (5, v11), (6, v15), (7, v19)]) w := by
     subst hq150
     replace hp : effect_Effects.nx19 a1 x18 x29 x32 = some r := hr17
     refine tg k13 <| TC.seq fun K21 k22 => sr <| tv (lA (ds := [v2]) ag_24 0 rfl rfl rfl rfl) rfl <| bE hp fun x35 hy23 hp => tc 0 [_,_,_,_] rfl c15 (fun _ => calls_Rings_ok (a1 := a1) (h3.mono subH) hy23) rfl ?_
     rintro _ _ ⟨v36, F37, rfl, rfl, h38⟩
     refine tv (ln u54 h38.ro rfl) rfl <| tm rfl <| nz <| TC.block <| bE hp fun z_26 hz27 hr28 => ?_
     have J106 {x43 F44 e31} (h45 : SlO 37 kEffect x43 v11 F44) (hq107 : x43 = z_26) : ∀ w, St E H [F44, F33] w → K21 (ovr e31 [(5, v11), (6, v15)]) w := by
      subst hq107
      replace hp : effect_Effects.nx30 x32 x43 = some r := hr28
      refine tg k22 <| TC.seq fun K32 k33 => sr <| ta rfl <| nz <| TC.block <| bE hp fun z_35 hz36 hr37 => ?_
      have J41 {x50 F51 e40} (h52 : SlO 37 kEffect x50 v11 F51) (hq42 : x50 = z_35) : ∀ w, St E H [F51] w → K32 (ovr e40 [(5, v11)]) w := by
       subst hq42
       replace hp : effect_Effects.nx39 x50 = some r := hr37
       exact tg k33 <| sr <| tm rfl <| ta rfl <| ta rfl <| nz <| TC.ret <| W.new0 <| rt hp [1, 0] ⟨v11, F51, .nilIface, ([] : FP), rfl, rfl, h52, (ErO.nil : ErO 73 60 65 GErr.no .nilIface [])⟩
      refine lp hz36 [0, 1] rfl (fun s e L => ∃ x46 x49 F47 e34, s = (x46, x49) ∧ SlO 37 kEffect x46 v11 F47 ∧ e = ovr e34 [(5, v11), (6, v15), (14, .bool x49)] ∧ L = [F47, F33]) ⟨_, _, F44, _, rfl, h45, ovr_eq _ _ rfl, rfl⟩ ?_
      rintro _ _ _ ⟨x46, x49, F47, e34, rfl, h48, rfl, rfl⟩ X38 hp hx39
      replace hp : effect_Effects.bd39 x32 x46 x49 = some X38 := hp
      refine TC.seq fun K43 k44 => sr <| tm rfl <| nz <| cB rfl hp (fun hc45 hp => ?_) fun hc45 hp => ?_
      · refine sk k44 rfl <| TC.named fun K46 k47 => TC.block <| sr <| ta rfl <| nz <| sr <| tm rfl <| tv (ln u27 h48.ro rfl) rfl <| tm rfl <| nz <| TC.block <| bE hp fun z_49 hz50 hr51 => ?_
        have J55 {x59 x62 F60 e54} (h61 : SlO 37 kEffect x59 v11 F60) (hq56 : (x59, x62) = z_49) : ∀ w, St E H [F60, F33] w → K46 (ovr e54 [(5, v11), (6, v15), (14, .bool x62)]) w := by
         subst hq56
         replace hp : effect_Effects.nx53 x59 x62 = some X38 := hr51
         exact viaK k47 <| gk hp [0, 1] ⟨_, _, F60, _, rfl, h61, ovr_eq _ _ rfl, rfl⟩
        refine lp hz50 [0, 1] rfl (fun s e L => ∃ x54 x57 x58 F55 e48, s = (x54, x57, x58) ∧ SlO 37 kEffect x54 v11 F55 ∧ e = ovr e48 [(5, v11), (6, v15), (14, .bool x57), (90, .int .i64 (len x46)), (91, .int .i64 x58)] ∧ L = [F55, F33]) ⟨_, _, _, F47, _, rfl, h48, ovr_eq _ _ rfl, rfl⟩ ?_
        rintro _ _ _ ⟨x54, x57, x58, F55, e48, rfl, h56, rfl, rfl⟩ X52 hp hx53
        replace hp : effect_Effects.bd53 x32 x46 x54 x57 x58 = some X52 := hp
        refine sr <| tv (blt rfl rfl) rfl <| nz <| TC.seq fun K57 k58 => cD rfl hp (fun hc59 hp => ?_) fun hc59 hp => ?_
        · refine sk k58 rfl <| TC.seq fun K60 k61 => TC.block <| sr <| tm rfl <| ta rfl <| nz <| sr <| tm rfl <| tm rfl <| ti u27 i37 (h56).ro hp rfl rfl rfl rfl ?_
          rintro x63 b64 o65 _ hp rfl h68
          refine tv (lR (ds := [.bool x63.reads, .bool x63.writes, .bool x63.outs, .bool x63.traps, .bool x63.turns]) ag_37 (Src.at_ 0 rfl) h68 0 rfl rfl rfl) rfl <| tl i37 rfl fun b69 => tS 0 m37 rfl rfl [.bool x63.reads, .bool x63.writes, .bool x63.outs, .bool x63.traps, .bool x63.turns] rfl (oc rfl (oc rfl (oc rfl (oc rfl (oc rfl oc0))))) rfl rfl <| nz <| TC.seq fun K63 k64 => sr <| tm rfl <| tm rfl <| ti u54 i38 (h34).ro hp rfl rfl rfl rfl ?_
          rintro x70 b71 o72 _ hp ⟨v76, rfl, h77⟩ h75
          refine tv (lr s38 (Src.at_ 2 rfl) h75 0 rfl rfl) rfl <| tv (ln u38 h77 rfl) rfl <| tm rfl <| nz <| TC.block <| bE hp fun z_67 hz68 hr69 => ?_
          have J83 {x84 x85 x86 x87 x88 e72} (hq84 : (x84, x85, x86, x87, x88) = z_67) : ∀ w, St E H [F55, F33, bx b69 37 [.bool x84, .bool x85, .bool x86, .bool x87, .bool x88]] w → K63 (ovr e72 [(5, v11), (6, v15), (14, .bool x57), (15, .int .i64 x58), (16, .pointer (some ⟨b69, 0, none⟩)), (90, .int .i64 (len x46)), (91, .int .i64 x58)]) w := by
           subst hq84
           replace hp : effect_Effects.nx71 x54 x57 x58 x84 x85 x86 x87 x88 = some X52 := hr69
           refine tg k64 <| TC.seq fun K73 k74 => cq mix (by kernel_rfl) <| qv mv rfl <| qv mv rfl <| bE hp fun t89 ht81 hp => QL.cut 7 fun K75 k76 => ?_
           have J77 {e79} : K75 (ovr e79 [(122, .bool t89), (5, v11), (6, v15), (15, .int .i64 x58), (16, .pointer (some ⟨b69, 0, none⟩)), (90, .int .i64 (len x46)), (91, .int .i64 x58)]) := by
            exact k76 _ <| qv sg rfl <| QL.nil <| tg k74 <| TC.region <| tm rfl <| tm rfl <| tv (lA (ds := [.bool x84, .bool x85, .bool x86, .bool x87, .bool x88]) ag_37 2 rfl rfl rfl rfl) rfl <| tO u27 i37 h56 hp rfl rfl rfl rfl fun x90 b91 o92 h93 hp => TL.stE0 (ds := [.bool x84, .bool x85, .bool x86, .bool x87, .bool x88]) (u := .agg #[.bool x84, .bool x85, .bool x86, .bool x87, .bool x88]) (a := (⟨x84, x85, x86, x87, x88⟩ : PEffect)) h56 h93 m37 rfl rfl rfl ⟨rfl, rfl⟩ fun F94 h95 => nl <| tg k61 <| TC.region <| tv (bad rfl rfl) rfl <| tm rfl <| nl <| gk hp [0, 1] ⟨_, _, _, F94, _, rfl, h95, ovr_eq _ _ rfl, rfl⟩
           refine ifE ht81 (fun hc78 hp => ?_) fun hc78 hp => ?_
           · refine qgn rfl (bbT hc78) rfl rfl <| qgn rfl (bbT hc78) rfl rfl <| qgn rfl (bbT hc78) rfl rfl <| qgn rfl (bbT hc78) rfl rfl <| qgn rfl (bbT hc78) rfl rfl <| qgn rfl (bbT hc78) rfl rfl <| qv (pT (bbT hc78)) rfl ?_
             obtain rfl := Option.some.inj hp
             exact qj J77 rfl
           · refine qgy rfl (bbF hc78) <| qv (lA (ds := [.bool x84, .bool x85, .bool x86, .bool x87, .bool x88]) ag_37 2 rfl rfl rfl rfl) rfl <| qgy rfl (bbF hc78) <| qv mv rfl <| qgy rfl (bbF hc78) <| qv mv rfl <| qgy rfl (bbF hc78) <| qi u27 i37 (h56).ro hp rfl rfl rfl rfl ?_
             rintro x96 b97 o98 _ hp rfl h101
             refine qgy rfl (bbF hc78) <| qv (lR (ds := [.bool x96.reads, .bool x96.writes, .bool x96.outs, .bool x96.traps, .bool x96.turns]) ag_37 (Src.at_ 0 rfl) h101 0 rfl rfl rfl) rfl <| qgy rfl (bbF hc78) <| qv (neS37 (a := (⟨x84, x85, x86, x87, x88⟩ : PEffect)) (b := x96) rfl rfl) rfl <| qv (pF (bbF hc78)) rfl ?_
             obtain rfl := Option.some.inj hp
             exact qj J77 rfl
          refine lp hz68 [1, 2, 0] rfl (fun s e L => ∃ x78 x79 x80 x81 x82 x83 e66, s = (x78, x79, x80, x81, x82, x83) ∧ e = ovr e66 [(5, v11), (6, v15), (14, .bool x57), (15, .int .i64 x58), (16, .pointer (some ⟨b69, 0, none⟩)), (90, .int .i64 (len x46)), (91, .int .i64 x58), (101, v76), (102, .int .i64 (len x70)), (103, .int .i64 x83)] ∧ L = [F55, F33, bx b69 37 [.bool x78, .bool x79, .bool x80, .bool x81, .bool x82]]) ⟨_, _, _, _, _, _, _, rfl, ovr_eq _ _ rfl, rfl⟩ ?_
          rintro _ _ _ ⟨x78, x79, x80, x81, x82, x83, e66, rfl, rfl, rfl⟩ X70 hp hx71
          replace hp : effect_Effects.bd71 x54 x70 x78 x79 x80 x81 x82 x83 = some X70 := hp
          refine sr <| tv (blt rfl rfl) rfl <| nz <| TC.seq fun K85 k86 => cD rfl hp (fun hc87 hp => ?_) fun hc87 hp => ?_
          · refine sk k86 rfl <| TC.seq fun K88 k89 => TC.block <| sr <| ti u38 i3 h77 hp rfl rfl rfl rfl ?_
            rintro x102 b103 o104 _ hp rfl h107
            refine tv (lr s3 (Src.at_ 1 rfl) h107 0 rfl rfl) rfl <| ta rfl <| nz <| ch mix [F55, F33] (srcG 0 rfl (srcG 1 rfl srcG0)) <| hv 1 rfl mv (by kernel_rfl) rfl <| hv 2 rfl mv (by kernel_rfl) rfl <| hi 3 rfl u27 i37 (h56).ro hp rfl rfl rfl (by kernel_rfl) rfl ?_
            rintro x1309 b1310 o1311 _ hp rfl h1314
            refine hv 4 rfl (lR (ds := [.bool x1309.reads, .bool x1309.writes, .bool x1309.outs, .bool x1309.traps, .bool x1309.turns]) ag_37 (srcInG 0 rfl) h1314 0 rfl rfl rfl) (by kernel_rfl) rfl <| ho 0 rfl (by kernel_rfl) fun K92 k93 => tv (lA (ds := [.bool x78, .bool x79, .bool x80, .bool x81, .bool x82]) ag_37 2 rfl rfl rfl rfl) rfl <| hk k93 (srcG 0 rfl (srcG 1 rfl srcG0)) <| ho 5 rfl (by kernel_rfl) fun K94 k95 => bE hp fun x2109 hy96 hp => tc 0 [_,_,_] rfl c17 (fun _ => effect_joined_ok (a1 := (⟨x78, x79, x80, x81, x82⟩ : PEffect)) (a2 := x1309) hy96) rfl ?_
            rintro _ _ ⟨rfl, rfl⟩
            exact hk k95 (srcG 0 rfl (srcG 1 rfl srcG0)) <| ho 6 rfl (by kernel_rfl) fun K98 k99 => tS 2 m37 rfl rfl [.bool x2109.reads, .bool x2109.writes, .bool x2109.outs, .bool x2109.traps, .bool x2109.turns] rfl (oc rfl (oc rfl (oc rfl (oc rfl (oc rfl oc0))))) rfl rfl <| hk k99 (srcG 0 rfl (srcG 1 rfl srcG0)) <| hz (by kernel_rfl) <| tg k89 <| TC.region <| tv (bad rfl rfl) rfl <| tm rfl <| nl <| gk hp [0, 1, 2] ⟨_, _, _, _, _, _, _, rfl, ovr_eq _ _ rfl, rfl⟩
          · exact TC.exit <| jn [0, 1, 2] (J83 (ex_ret hp hx71))
        · exact TC.exit <| jn [0, 1] (J55 h56 (ex_ret hp hx53))
      · exact TC.exit <| jn [0] (J41 h48 (ex_ret hp hx39))
     refine lp hz27 [2, 3, 4, 0] rfl (fun s e L => ∃ x39 x42 F40 e25, s = (x39, x42) ∧ SlO 37 kEffect x39 v11 F40 ∧ e = ovr e25 [(5, v11), (6, v15), (7, v19), (55, v36), (56, .int .i64 (len x35)), (57, .int .i64 x42)] ∧ L = [F40, F33, F20, F37]) ⟨_, _, F30, _, rfl, h31, ovr_eq _ _ rfl, rfl⟩ ?_
     rintro _ _ _ ⟨x39, x42, F40, e25, rfl, h41, rfl, rfl⟩ X29 hp hx30
     replace hp : effect_Effects.bd30 x18 x35 x39 x42 = some X29 := hp
     refine sr <| tv (blt rfl rfl) rfl <| nz <| TC.seq fun K108 k109 => cD rfl hp (fun hc110 hp => ?_) fun hc110 hp => ?_
     · refine sk k109 rfl <| TC.seq fun K111 k112 => ?_
       have J114 {x2909 F2910 e113} (h2911 : SlO 37 kEffect x2909 v11 F2910) (hp : effect_Effects.jn114 x42 x2909 = some X29) : ∀ w, St E H [F2910, F33, F20, F37] w → K111 (ovr e113 [(5, v11), (6, v15), (7, v19), (55, v36), (56, .int .i64 (len x35)), (57, .int .i64 x42)]) w := by
        exact tg k112 <| TC.region <| tv (bad rfl rfl) rfl <| tm rfl <| nl <| gk hp [0, 1, 2, 3] ⟨_, _, F2910, _, rfl, h2911, ovr_eq _ _ rfl, rfl⟩
       refine TC.block <| sr <| ti u54 i38 (h38).ro hp rfl rfl rfl rfl ?_
       rintro x2912 b2913 o2914 _ hp ⟨v2918, rfl, h2919⟩ h2917
       refine tv (lr s38 (Src.at_ 3 rfl) h2917 0 rfl rfl) rfl <| ta rfl <| nz <| TC.seq fun K116 k117 => cq mix (by kernel_rfl) <| qv mv rfl <| qv (ln u38 h2919 rfl) rfl <| qv (bgt rfl rfl) rfl <| qv mv rfl <| bE hp fun t2920 ht142 hp => QL.cut 11 fun K118 k119 => ?_
       have J120 {e122} : K118 (ovr e122 [(75, .bool t2920), (5, v11), (6, v15), (7, v19), (11, v2918), (55, v36), (56, .int .i64 (len x35)), (57, .int .i64 x42)]) := by
        refine k119 _ <| QL.nil <| tg k117 <| cB rfl hp (fun hc123 hp => ?_) fun hc123 hp => ?_
        · refine sr <| tm rfl <| tv (ln u38 h2919 rfl) rfl <| tm rfl <| nz <| TC.block <| bE hp fun z_125 hz126 hr127 => ?_
          have J131 {x2925 F2926 e130} (h2927 : SlO 37 kEffect x2925 v11 F2926) (hq132 : x2925 = z_125) : ∀ w, St E H [F2926, F33, F20, F37] w → K111 (ovr e130 [(5, v11), (6, v15), (7, v19), (55, v36), (56, .int .i64 (len x35)), (57, .int .i64 x42)]) w := by
           subst hq132
           replace hp : effect_Effects.nx129 x42 x2925 = some X29 := hr127
           exact jn [0, 1, 2, 3] (J114 h2927 hp)
          refine lp hz126 [0, 1, 2, 3] rfl (fun s e L => ∃ x2921 x2924 F2922 e124, s = (x2921, x2924) ∧ SlO 37 kEffect x2921 v11 F2922 ∧ e = ovr e124 [(5, v11), (6, v15), (7, v19), (55, v36), (56, .int .i64 (len x35)), (57, .int .i64 x42), (76, v2918), (77, .int .i64 (len x2912)), (78, .int .i64 x2924)] ∧ L = [F2922, F33, F20, F37]) ⟨_, _, F40, _, rfl, h41, ovr_eq _ _ rfl, rfl⟩ ?_
          rintro _ _ _ ⟨x2921, x2924, F2922, e124, rfl, h2923, rfl, rfl⟩ X128 hp hx129
          replace hp : effect_Effects.bd129 x2912 x2921 x2924 = some X128 := hp
          refine sr <| tv (blt rfl rfl) rfl <| nz <| TC.seq fun K133 k134 => cD rfl hp (fun hc135 hp => ?_) fun hc135 hp => ?_
          · refine sk k134 rfl <| TC.seq fun K136 k137 => TC.block <| sr <| ti u38 i3 h2919 hp rfl rfl rfl rfl ?_
            rintro x2928 b2929 o2930 _ hp rfl h2933
            refine tv (lr s3 (Src.at_ 3 rfl) h2933 0 rfl rfl) rfl <| ta rfl <| nz <| TC.region <| tm rfl <| tm rfl <| bE hp fun x2934 hx139 hp => TL.open_ h2923 hx139 ?_
            rintro b2935 _ F2937 F2938 h2939 ⟨rfl, rfl⟩
            exact TL.perm (L' := [F2937, F33, F20, F37]) (by simp) <| tv (rv_ixH u27 i37 rfl rfl (idx_some hx139).1 h2939) rfl <| tv (fa f37_4 rfl) rfl <| tsH h2939 m4 4 rfl w1 rfl fun F2941 h2942 => nl <| tg k137 <| TC.region <| tv (bad rfl rfl) rfl <| tm rfl <| nl <| W.empty <| W.shut (a := (⟨x2934.reads, x2934.writes, x2934.outs, x2934.traps, true⟩ : PEffect)) h2942 ⟨rfl, rfl⟩ fun F2943 h2944 => gk hp [0, 1, 2, 3] ⟨_, _, F2943, _, rfl, h2944, ovr_eq _ _ rfl, rfl⟩
          · exact TC.exit <| jn [0, 1, 2, 3] (J131 h2923 (ex_ret hp hx129))
        · exact TC.skip <| jn [0, 1, 2, 3] (J114 h41 hp)
       refine ifE ht142 (fun hc121 hp => ?_) fun hc121 hp => ?_
       · refine qgn rfl (bT hc121) rfl rfl <| qgn rfl (bT hc121) rfl rfl <| qgn rfl (bT hc121) rfl rfl <| qgn rfl (bT hc121) rfl rfl <| qgn rfl (bT hc121) rfl rfl <| qgn rfl (bT hc121) rfl rfl <| qgn rfl (bT hc121) rfl rfl <| qgn rfl (bT hc121) rfl rfl <| qgn rfl (bT hc121) rfl rfl <| qgn rfl (bT hc121) rfl rfl <| qv (pT (bT hc121)) rfl ?_
         obtain rfl := Option.some.inj hp
         exact qj J120 rfl
       · refine qgy rfl (bF hc121) <| qv mv rfl <| qgy rfl (bF hc121) <| qv mv rfl <| qgy rfl (bF hc121) <| qi u38 i3 h2919 hp rfl rfl rfl rfl ?_
         rintro x2945 b2946 o2947 _ hp rfl h2950
         refine qgy rfl (bF hc121) <| qv (lr s3 (Src.at_ 3 rfl) h2950 0 rfl rfl) rfl <| qgy rfl (bF hc121) <| qi u54 i38 (h21).ro hp rfl rfl rfl rfl ?_
         rintro x2951 b2952 o2953 _ hp ⟨v2957, rfl, h2958⟩ h2956
         refine qgy rfl (bF hc121) <| qv (lr s38 (Src.at_ 2 rfl) h2956 0 rfl rfl) rfl <| qgy rfl (bF hc121) <| qv mv rfl <| qgy rfl (bF hc121) <| qi u38 i3 h2919 hp rfl rfl rfl rfl ?_
         rintro x2959 b2960 o2961 _ hp rfl h2964
         refine qgy rfl (bF hc121) <| qv (lr s3 (Src.at_ 3 rfl) h2964 0 rfl rfl) rfl <| qgy rfl (bF hc121) <| bE hp fun x2965 hy146 hp => qc (.bool x2965) c16 (fun _ => slices_Contains_ok (a1 := x2951) (a4 := x2959) (h2958.mono (subB 2 rfl)) hy146) (fun _ _ h => ⟨h.1.symm, h.2⟩) rfl <| qv (pF (bF hc121)) rfl ?_
         obtain rfl := Option.some.inj hp
         exact qj J120 rfl
     · exact TC.exit <| jn [0, 1] (J106 h41 (ex_ret hp hx30))
    refine lp hz16 [1, 2, 3, 0] rfl (fun s e L => ∃ x22 x25 x28 F23 F26 e14, s = (x22, x25, x28) ∧ SlO 37 kEffect x22 v11 F23 ∧ SlO 38 (kSl 3 (kInt .i64)) x25 v15 F26 ∧ e = ovr e14 [(1, .pointer (some ⟨b4, 0, none⟩)), (5, v11), (6, v15), (7, v19), (35, v2), (36, .int .i64 (len a1.funcs)), (37, .int .i64 x28)] ∧ L = [bx b4 24 [v2], F23, F26, F20]) ⟨_, _, _, F12, F16, _, rfl, h13, h17, ovr_eq _ _ rfl, rfl⟩ ?_
    rintro _ _ _ ⟨x22, x25, x28, F23, F26, e14, rfl, h24, h27, rfl, rfl⟩ X18 hp hx19
    replace hp : effect_Effects.bd19 a1 x22 x25 x28 = some X18 := hp
    refine sr <| tv (blt rfl rfl) rfl <| nz <| TC.seq fun K151 k152 => cD rfl hp (fun hc153 hp => ?_) fun hc153 hp => ?_
    · refine sk k152 rfl <| TC.seq fun K154 k155 => TC.block <| sr <| tm rfl <| ti u22 i47 h3 hp rfl rfl rfl rfl ?_
      rintro x2966 b2967 o2968 _ hp ⟨v2972, v2974, rfl, h2973, h2975⟩ h2971
      refine tv (lR (ds := [.int .i64 x2966.params, .int .i64 x2966.result, v2972, v2974]) ag_47 sH h2971 0 rfl rfl rfl) rfl <| tl i47 rfl fun b2976 => ta rfl <| tS 0 m47 rfl rfl [.int .i64 x2966.params, .int .i64 x2966.result, v2972, v2974] rfl (oc rfl (oc rfl (oc (h2973).one (oc (h2975).one oc0)))) rfl rfl <| nz <| TC.region <| tm rfl <| tm rfl <| tm rfl <| tm rfl <| tv (lA (ds := [.int .i64 x2966.params, .int .i64 x2966.result, v2972, v2974]) ag_47 0 rfl rfl rfl rfl) rfl <| bE hp fun x2977 hy157 hp => tc 0 [_,_,_,_,_] rfl c14 (fun _ => effect_own_ok (a1 := x2966) (h2973.mono subH) (h2975.mono subH) hy157) rfl ?_
      rintro _ _ ⟨v2978, F2979, rfl, rfl, h2980⟩
      exact tm rfl <| tv (xt rfl rfl) rfl <| tv (xt rfl rfl) rfl <| tO u27 i37 h24 hp rfl rfl rfl rfl fun x2981 b2982 o2983 h2984 hp => tp [3, 0, 1, 2, 4, 5] [_,_,_,_,_,_] rfl rfl <| TL.stE0 (ds := [.bool x2977.1.reads, .bool x2977.1.writes, .bool x2977.1.outs, .bool x2977.1.traps, .bool x2977.1.turns]) (u := .agg #[.bool x2977.1.reads, .bool x2977.1.writes, .bool x2977.1.outs, .bool x2977.1.traps, .bool x2977.1.turns]) (a := x2977.1) h24 h2984 m37 rfl rfl rfl ⟨rfl, rfl⟩ fun F2985 h2986 => tO u54 i38 h27 hp rfl rfl rfl rfl fun x2987 b2988 o2989 h2990 hp => tp [4, 1, 0, 2, 3, 5] [_,_,_,_,_,_] rfl rfl <| TL.stE (ds := [v2978]) (u := v2978) (a := x2977.2) h27 h2990 m38 rfl rfl (SlO.cells h2980) ⟨_, rfl, h2980⟩ fun F2991 h2992 => nl <| tg k155 <| TC.region <| tv (bad rfl rfl) rfl <| tm rfl <| nl <| gk hp [3, 1, 0, 4] ⟨_, _, _, F2985, F2991, _, rfl, h2986, h2992, ovr_eq _ _ rfl, rfl⟩
    · exact TC.exit <| jn [0, 1, 2, 3] (J149 h24 h27 (ex_ret hp hx19))
   refine bE hp fun x4194 hY4_3 hp => bE hp fun x5794 hY4_7 hp => ch mix [F7, bx b4 24 [v2]] (srcG 0 rfl (srcG 1 rfl srcG0)) <| hv 0 rfl (fa f24_0 rfl) (by kernel_rfl) rfl <| hv 1 rfl (lbG s22 1 rfl rfl rfl) (by kernel_rfl) rfl <| hv 2 rfl (ln u22 h3 rfl) (by kernel_rfl) rfl <| hv 4 rfl (fa f24_0 rfl) (by kernel_rfl) rfl <| hv 5 rfl (lbG s22 1 rfl rfl rfl) (by kernel_rfl) rfl <| hv 6 rfl (ln u22 h3 rfl) (by kernel_rfl) rfl <| HL.all [3, 7] (by kernel_rfl) (by simp) (HL.al ⟨_, rfl, fun K163 k164 => ?_⟩ (HL.al ⟨_, rfl, fun K169 k170 => ?_⟩ HL.al0))
   · exact tk0 (k := kEffect) u27 i37 hY4_3 ⟨rfl, rfl⟩ rfl rfl rfl rfl rfl rfl fun v4195 F4196 h4197 => hk k164 (srcG 1 rfl (srcG 2 rfl srcG0)) <| hv 8 rfl sg (by kernel_rfl) rfl <| ho 7 rfl (by kernel_rfl) fun K166 k167 => tk0 (k := (kSl 3 (kInt .i64))) u54 i38 hY4_7 ⟨_, rfl, SlO.nil 3⟩ rfl rfl rfl rfl rfl rfl fun v5795 F5796 h5797 => hk k167 (srcG 2 rfl (srcG 3 rfl srcG0)) <| hv 9 rfl sg (by kernel_rfl) rfl <| hz (by kernel_rfl) <| jn [3, 1, 0] (J9 h4197 h5797 hp)
   · exact tk0 (k := (kSl 3 (kInt .i64))) u54 i38 hY4_7 ⟨_, rfl, SlO.nil 3⟩ rfl rfl rfl rfl rfl rfl fun v5795 F5796 h5797 => hk k170 (srcG 1 rfl (srcG 2 rfl srcG0)) <| ho 3 rfl (by kernel_rfl) fun K172 k173 => tk0 (k := kEffect) u27 i37 hY4_3 ⟨rfl, rfl⟩ rfl rfl rfl rfl rfl rfl fun v4195 F4196 h4197 => hk k173 (srcG 2 rfl (srcG 3 rfl srcG0)) <| hv 8 rfl sg (by kernel_rfl) rfl <| hv 9 rfl sg (by kernel_rfl) rfl <| hz (by kernel_rfl) <| jn [3, 0, 1] (J9 h4197 h5797 hp)

/-! ### fettle/effect.Quiet -/
abbrev effect_Quiet.R (r : Bool) (v : Value) (A : List FP) : Prop := .bool r = v ∧ A = []
def effect_Quiet (a1 : PEffect) : Option Bool :=
  some (decide ((((!a1.writes) = true ∧ (!a1.outs) = true) ∧ (!a1.traps) = true) ∧ (!a1.turns) = true))
theorem effect_Quiet_ok {E : World} {H : FP} {w : World} {a1 : PEffect} {r : Bool}  (hp : effect_Quiet a1 = some r) (hst : St E H [] w) :
    Fn Tryz.prog 10 #[.agg #[.bool a1.reads, .bool a1.writes, .bool a1.outs, .bool a1.traps, .bool a1.turns]] w fun v w' => ∃ A, effect_Quiet.R r v A ∧ St E H A w' := by
 refine fb 21 [.tmp 2] Tryz.func10 rfl rfl rfl rfl rfl hst <| sr <| tb [.bool a1.reads, .bool a1.writes, .bool a1.outs, .bool a1.traps, .bool a1.turns] rfl rfl fun b2 => ta rfl <| nz <| sr <| tv (fa f37_1 rfl) rfl <| tv (lb s4 0 rfl rfl rfl) rfl <| tv (rv_not rfl) rfl <| tm rfl <| TL.cut 4 fun K1 k2 => ?_
 have J3 {e5} : ∀ w, St E H [bx b2 37 [.bool a1.reads, .bool a1.writes, .bool a1.outs, .bool a1.traps, .bool a1.turns]] w → K1 (ovr e5 [(10, .bool (decide ((!a1.writes) = true ∧ (!a1.outs) = true))), (1, .pointer (some ⟨b2, 0, none⟩))]) w := by
  refine tlg k2 <| tm rfl <| TL.cut 4 fun K6 k7 => ?_
  have J8 {e10} : ∀ w, St E H [bx b2 37 [.bool a1.reads, .bool a1.writes, .bool a1.outs, .bool a1.traps, .bool a1.turns]] w → K6 (ovr e10 [(15, .bool (decide (((!a1.writes) = true ∧ (!a1.outs) = true) ∧ (!a1.traps) = true))), (1, .pointer (some ⟨b2, 0, none⟩))]) w := by
   refine tlg k7 <| tm rfl <| TL.cut 4 fun K11 k12 => ?_
   have J13 {e15} : ∀ w, St E H [bx b2 37 [.bool a1.reads, .bool a1.writes, .bool a1.outs, .bool a1.traps, .bool a1.turns]] w → K11 (ovr e15 [(20, .bool (decide ((((!a1.writes) = true ∧ (!a1.outs) = true) ∧ (!a1.traps) = true) ∧ (!a1.turns) = true)))]) w := by
    exact tlg k12 <| ta rfl <| nz <| TC.ret <| rt hp [] ⟨rfl, rfl⟩
   by_cases hc14 : ((!a1.writes) = true ∧ (!a1.outs) = true) ∧ (!a1.traps) = true
   · exact gy rfl (bT hc14) <| tv (fa f37_4 rfl) rfl <| gy rfl (bT hc14) <| tv (lb s4 0 rfl rfl rfl) rfl <| gy rfl (bT hc14) <| tv (rv_not rfl) rfl <| tv (pT (bT hc14)) rfl <| nj J13 (bAt' hc14)
   · exact gn rfl (bF hc14) rfl rfl <| gn rfl (bF hc14) rfl rfl <| gn rfl (bF hc14) rfl rfl <| tv (pF (bF hc14)) rfl <| nj J13 (bAf hc14)
  by_cases hc9 : (!a1.writes) = true ∧ (!a1.outs) = true
  · exact gy rfl (bT hc9) <| tv (fa f37_3 rfl) rfl <| gy rfl (bT hc9) <| tv (lb s4 0 rfl rfl rfl) rfl <| gy rfl (bT hc9) <| tv (rv_not rfl) rfl <| tv (pT (bT hc9)) rfl <| nj J8 (bAt' hc9)
  · exact gn rfl (bF hc9) rfl rfl <| gn rfl (bF hc9) rfl rfl <| gn rfl (bF hc9) rfl rfl <| tv (pF (bF hc9)) rfl <| nj J8 (bAf hc9)
 by_cases hc4 : (!a1.writes) = true
 · exact gy rfl (bbT hc4) <| tv (fa f37_2 rfl) rfl <| gy rfl (bbT hc4) <| tv (lb s4 0 rfl rfl rfl) rfl <| gy rfl (bbT hc4) <| tv (rv_not rfl) rfl <| tv (pT (bbT hc4)) rfl <| nj J3 (bAt' hc4)
 · exact gn rfl (bbF hc4) rfl rfl <| gn rfl (bbF hc4) rfl rfl <| gn rfl (bbF hc4) rfl rfl <| tv (pF (bbF hc4)) rfl <| nj J3 (bAf hc4)

/-! ### fettle/effect.Still -/
abbrev effect_Still.R (r : Bool) (v : Value) (A : List FP) : Prop := .bool r = v ∧ A = []
def effect_Still (a1 : PEffect) : Option Bool :=
  (effect_Quiet a1).bind fun x3 =>
  some (decide (x3 = true ∧ (!a1.reads) = true))
theorem effect_Still_ok {E : World} {H : FP} {w : World} {a1 : PEffect} {r : Bool}  (hp : effect_Still a1 = some r) (hst : St E H [] w) :
    Fn Tryz.prog 11 #[.agg #[.bool a1.reads, .bool a1.writes, .bool a1.outs, .bool a1.traps, .bool a1.turns]] w fun v w' => ∃ A, effect_Still.R r v A ∧ St E H A w' := by
 refine fb 10 [.tmp 2] Tryz.func11 rfl rfl rfl rfl rfl hst <| sr <| tb [.bool a1.reads, .bool a1.writes, .bool a1.outs, .bool a1.traps, .bool a1.turns] rfl rfl fun b2 => ta rfl <| nz <| sr <| tv (lA (ds := [.bool a1.reads, .bool a1.writes, .bool a1.outs, .bool a1.traps, .bool a1.turns]) ag_37 0 rfl rfl rfl rfl) rfl <| bE hp fun x3 hy1 hp => tc 0 [_] rfl c10 (fun _ => effect_Quiet_ok (a1 := a1) hy1) rfl ?_
 rintro _ _ ⟨rfl, rfl⟩
 refine tm rfl <| TL.cut 4 fun K3 k4 => ?_
 have J5 {e7} : ∀ w, St E H [bx b2 37 [.bool a1.reads, .bool a1.writes, .bool a1.outs, .bool a1.traps, .bool a1.turns]] w → K3 (ovr e7 [(9, .bool (decide (x3 = true ∧ (!a1.reads) = true)))]) w := by
  exact tlg k4 <| ta rfl <| nz <| TC.ret <| rt hp [] ⟨rfl, rfl⟩
 by_cases hc6 : x3 = true
 · exact gy rfl (bbT hc6) <| tv (fa f37_0 rfl) rfl <| gy rfl (bbT hc6) <| tv (lb s4 0 rfl rfl rfl) rfl <| gy rfl (bbT hc6) <| tv (rv_not rfl) rfl <| tv (pT (bbT hc6)) rfl <| nj J5 (bAt' hc6)
 · exact gn rfl (bbF hc6) rfl rfl <| gn rfl (bbF hc6) rfl rfl <| gn rfl (bbF hc6) rfl rfl <| tv (pF (bbF hc6)) rfl <| nj J5 (bAf hc6)

/-! ### fettle/fettlelaw15.up -/
abbrev fettlelaw15_up.R (r : Bool) (v : Value) (A : List FP) : Prop := .bool r = v ∧ A = []
def fettlelaw15_up  : Option Bool :=
  (effect_Effects (⟨[(⟨1, 1, [1], [(⟨([] : List PPhi), ([] : List PInstr), (⟨3, 0, ([] : List Int)⟩ : PTerm)⟩ : PBlock)]⟩ : PFunc)]⟩ : PModule)).bind fun x14 =>
  (if x14.2 = GErr.no ∧ (len x14.1) = 1 then (idx x14.1 0).bind fun x38 =>
  some (decide (x38 = (⟨false, false, false, false, false⟩ : PEffect))) else some false).bind fun t21 =>
  (if t21 = true then (idx x14.1 0).bind fun x31 =>
  (effect_Quiet x31).bind fun x37 =>
  some x37 else some false).bind fun t22 =>
  (if t22 = true then (idx x14.1 0).bind fun x24 =>
  (effect_Still x24).bind fun x30 =>
  some x30 else some false).bind fun t23 =>
  some t23
set_option maxHeartbeats 4000000 in
theorem fettlelaw15_up_ok {E : World} {H : FP} {w : World} {r : Bool}  (hp : fettlelaw15_up = some r) (hst : St E H [] w) :
    Fn Tryz.prog 4 #[] w fun v w' => ∃ A, fettlelaw15_up.R r v A ∧ St E H A w' := by
 refine fb 42 [.tmp 0] Tryz.func4 rfl rfl rfl rfl rfl hst <| sr <| ta rfl <| nz <| sr <| tbs [(0, .int .i64 1)] [.int .i64 1] u38 i3 (by kernel_rfl) rfl rfl rfl rfl fun b1 => tv (rv_bv (vs := [(0, .int .i64 3)]) (ds := [.int .i64 3, .int .i64 0, .slice none 0 0]) rfl (fun w => by kernel_rfl)) rfl <| tv (rv_bv (vs := [(2, .agg #[.int .i64 3, .int .i64 0, .slice none 0 0])]) (ds := [.slice none 0 0, .slice none 0 0, .int .i64 3, .int .i64 0, .slice none 0 0]) rfl (fun w => by kernel_rfl)) rfl <| tbs [(0, .agg #[.slice none 0 0, .slice none 0 0, .int .i64 3, .int .i64 0, .slice none 0 0])] [.slice none 0 0, .slice none 0 0, .int .i64 3, .int .i64 0, .slice none 0 0] u45 i44 (by kernel_rfl) rfl rfl rfl rfl fun b2 => tv (rv_bv (vs := [(0, .int .i64 1), (1, .int .i64 1), (2, .slice (some ⟨b1, 0, none⟩) 1 1), (3, .slice (some ⟨b2, 0, none⟩) 1 1)]) (ds := [.int .i64 1, .int .i64 1, .slice (some ⟨b1, 0, none⟩) 1 1, .slice (some ⟨b2, 0, none⟩) 1 1]) rfl (fun w => by kernel_rfl)) rfl <| tl i47 rfl fun b3 => tp [2, 0, 1] [_,_,_] rfl rfl <| tf 1 0 [_,_,_,_] rfl <| TL.litOwn (n := 1) (xs := [1]) (RepL.to (RepL.cons (k := (kInt .i64)) (x := 1) ⟨rfl, rfl⟩ RepL.nil) rfl) rfl rfl (ltb rfl) fun F4 h5 => TL.new0 <| TL.new0 <| TL.new0 <| tp [5, 2, 1, 0, 3, 4] [_,_,_,_,_,_] rfl rfl <| tf 1 3 [_,_,_,_] rfl <| TL.litOwn (n := 1) (xs := [(⟨([] : List PPhi), ([] : List PInstr), (⟨3, 0, ([] : List Int)⟩ : PTerm)⟩ : PBlock)]) (RepL.to (G' := ([] : FP) ++ (([] : FP) ++ (([] : FP)))) (RepL.cons (k := kBlock) (x := (⟨([] : List PPhi), ([] : List PInstr), (⟨3, 0, ([] : List Int)⟩ : PTerm)⟩ : PBlock)) ⟨_, _, _, _, _, _, rfl, rfl, (SlO.nil 52), (SlO.nil 50), (SlO.nil 3)⟩ RepL.nil) (by simp)) rfl rfl (ltb rfl) fun F9 h10 => tS 2 m47 rfl rfl [.int .i64 1, .int .i64 1, (.slice (some ⟨b1, 0, none⟩) 1 1), (.slice (some ⟨b2, 0, none⟩) 1 1)] rfl (oc rfl (oc rfl (oc (h5).one (oc (h10).one oc0)))) rfl rfl <| nz <| sr <| tv (lA (ds := [.int .i64 1, .int .i64 1, (.slice (some ⟨b1, 0, none⟩) 1 1), (.slice (some ⟨b2, 0, none⟩) 1 1)]) ag_47 2 rfl rfl rfl rfl) rfl <| tbs [(0, .agg #[.int .i64 1, .int .i64 1, (.slice (some ⟨b1, 0, none⟩) 1 1), (.slice (some ⟨b2, 0, none⟩) 1 1)])] [.int .i64 1, .int .i64 1, (.slice (some ⟨b1, 0, none⟩) 1 1), (.slice (some ⟨b2, 0, none⟩) 1 1)] u22 i47 (by kernel_rfl) rfl rfl rfl rfl fun b11 => tv (rv_bv (vs := [(0, .slice (some ⟨b11, 0, none⟩) 1 1)]) (ds := [.slice (some ⟨b11, 0, none⟩) 1 1]) rfl (fun w => by kernel_rfl)) rfl <| tp [0, 2, 1, 3] [_,_,_,_] rfl rfl <| tf 1 2 [_,_,_] rfl <| TL.litOwn (n := 1) (xs := [(⟨1, 1, [1], [(⟨([] : List PPhi), ([] : List PInstr), (⟨3, 0, ([] : List Int)⟩ : PTerm)⟩ : PBlock)]⟩ : PFunc)]) (RepL.to (G' := F4 ++ (F9)) (RepL.cons (k := kFunc) (x := (⟨1, 1, [1], [(⟨([] : List PPhi), ([] : List PInstr), (⟨3, 0, ([] : List Int)⟩ : PTerm)⟩ : PBlock)]⟩ : PFunc)) ⟨_, _, _, _, rfl, rfl, h5, h10⟩ RepL.nil) (by simp)) rfl rfl (ltb rfl) fun F12 h13 => bE hp fun x14 hy1 hp => tc 0 [_,_] rfl c6 (fun _ => effect_Effects_ok (a1 := (⟨[(⟨1, 1, [1], [(⟨([] : List PPhi), ([] : List PInstr), (⟨3, 0, ([] : List Int)⟩ : PTerm)⟩ : PBlock)]⟩ : PFunc)]⟩ : PModule)) (h13.ro.mono (subB 0 rfl)) hy1) rfl ?_
 rintro _ _ ⟨v15, F16, v18, F19, rfl, rfl, h17, h20⟩
 refine tm rfl <| tv (xt rfl rfl) rfl <| tv (xt rfl rfl) rfl <| ta rfl <| ta rfl <| nz <| sr <| tm rfl <| tv (rv_eqlEN ifc_29 h20 rfl) rfl <| tm rfl <| TL.cut 4 fun K3 k4 => ?_
 have J5 {e7} : ∀ w, St E H [F16, F19, F12, bx b3 47 [.int .i64 1, .int .i64 1, (.slice (some ⟨b1, 0, none⟩) 1 1), (.slice (some ⟨b2, 0, none⟩) 1 1)]] w → K3 (ovr e7 [(22, .bool (decide (x14.2 = GErr.no ∧ (len x14.1) = 1))), (2, v15)]) w := by
  refine tlg k4 <| tm rfl <| bE hp fun t21 ht31 hp => TL.cut 6 fun K8 k9 => ?_
  have J10 {e12} : ∀ w, St E H [F16, F19, F12, bx b3 47 [.int .i64 1, .int .i64 1, (.slice (some ⟨b1, 0, none⟩) 1 1), (.slice (some ⟨b2, 0, none⟩) 1 1)]] w → K8 (ovr e12 [(29, .bool t21), (2, v15)]) w := by
   refine tlg k9 <| tm rfl <| bE hp fun t22 ht27 hp => TL.cut 5 fun K13 k14 => ?_
   have J15 {e17} : ∀ w, St E H [F16, F19, F12, bx b3 47 [.int .i64 1, .int .i64 1, (.slice (some ⟨b1, 0, none⟩) 1 1), (.slice (some ⟨b2, 0, none⟩) 1 1)]] w → K13 (ovr e17 [(35, .bool t22), (2, v15)]) w := by
    refine tlg k14 <| tm rfl <| bE hp fun t23 ht23 hp => TL.cut 5 fun K18 k19 => ?_
    have J20 {e22} : ∀ w, St E H [F16, F19, F12, bx b3 47 [.int .i64 1, .int .i64 1, (.slice (some ⟨b1, 0, none⟩) 1 1), (.slice (some ⟨b2, 0, none⟩) 1 1)]] w → K18 (ovr e22 [(41, .bool t23)]) w := by
     exact tlg k19 <| ta rfl <| nz <| TC.ret <| rt hp [] ⟨rfl, rfl⟩
    refine ifE ht23 (fun hc21 hp => ?_) fun hc21 hp => ?_
    · refine gy rfl (bbT hc21) <| tm rfl <| gy rfl (bbT hc21) <| ti u27 i37 (h17).ro hp rfl rfl rfl rfl ?_
      rintro x24 b25 o26 _ hp rfl h29
      refine gy rfl (bbT hc21) <| tv (lR (ds := [.bool x24.reads, .bool x24.writes, .bool x24.outs, .bool x24.traps, .bool x24.turns]) ag_37 (Src.at_ 0 rfl) h29 0 rfl rfl rfl) rfl <| gy rfl (bbT hc21) <| bE hp fun x30 hy25 hp => tc 0 [_,_,_,_] rfl c11 (fun _ => effect_Still_ok (a1 := x24) hy25) rfl ?_
      rintro _ _ ⟨rfl, rfl⟩
      refine tv (pT (bbT hc21)) rfl ?_
      obtain rfl := Option.some.inj hp
      exact nj J20 rfl
    · refine gn rfl (bbF hc21) rfl rfl <| gn rfl (bbF hc21) rfl rfl <| gn rfl (bbF hc21) rfl rfl <| gn rfl (bbF hc21) rfl rfl <| tv (pF (bbF hc21)) rfl ?_
      obtain rfl := Option.some.inj hp
      exact nj J20 rfl
   refine ifE ht27 (fun hc16 hp => ?_) fun hc16 hp => ?_
   · refine gy rfl (bbT hc16) <| tm rfl <| gy rfl (bbT hc16) <| ti u27 i37 (h17).ro hp rfl rfl rfl rfl ?_
     rintro x31 b32 o33 _ hp rfl h36
     refine gy rfl (bbT hc16) <| tv (lR (ds := [.bool x31.reads, .bool x31.writes, .bool x31.outs, .bool x31.traps, .bool x31.turns]) ag_37 (Src.at_ 0 rfl) h36 0 rfl rfl rfl) rfl <| gy rfl (bbT hc16) <| bE hp fun x37 hy29 hp => tc 0 [_,_,_,_] rfl c10 (fun _ => effect_Quiet_ok (a1 := x31) hy29) rfl ?_
     rintro _ _ ⟨rfl, rfl⟩
     refine tv (pT (bbT hc16)) rfl ?_
     obtain rfl := Option.some.inj hp
     exact nj J15 rfl
   · refine gn rfl (bbF hc16) rfl rfl <| gn rfl (bbF hc16) rfl rfl <| gn rfl (bbF hc16) rfl rfl <| gn rfl (bbF hc16) rfl rfl <| tv (pF (bbF hc16)) rfl ?_
     obtain rfl := Option.some.inj hp
     exact nj J15 rfl
  refine ifE ht31 (fun hc11 hp => ?_) fun hc11 hp => ?_
  · refine gy rfl (bT hc11) <| tm rfl <| gy rfl (bT hc11) <| ti u27 i37 (h17).ro hp rfl rfl rfl rfl ?_
    rintro x38 b39 o40 _ hp rfl h43
    refine gy rfl (bT hc11) <| tv (lR (ds := [.bool x38.reads, .bool x38.writes, .bool x38.outs, .bool x38.traps, .bool x38.turns]) ag_37 (Src.at_ 0 rfl) h43 0 rfl rfl rfl) rfl <| gy rfl (bT hc11) <| tv (rv_bv (vs := []) (ds := [.bool false, .bool false, .bool false, .bool false, .bool false]) rfl (fun w => by kernel_rfl)) rfl <| gy rfl (bT hc11) <| tv (eqS37 (a := x38) (b := (⟨false, false, false, false, false⟩ : PEffect)) rfl rfl) rfl <| tv (pT (bT hc11)) rfl ?_
    obtain rfl := Option.some.inj hp
    exact nj J10 rfl
  · refine gn rfl (bF hc11) rfl rfl <| gn rfl (bF hc11) rfl rfl <| gn rfl (bF hc11) rfl rfl <| gn rfl (bF hc11) rfl rfl <| gn rfl (bF hc11) rfl rfl <| tv (pF (bF hc11)) rfl ?_
    obtain rfl := Option.some.inj hp
    exact nj J10 rfl
 by_cases hc6 : x14.2 = GErr.no
 · exact gy rfl (bT hc6) <| tm rfl <| gy rfl (bT hc6) <| tv (ln u27 h17.ro rfl) rfl <| gy rfl (bT hc6) <| tv (beq rfl rfl) rfl <| tv (pT (bT hc6)) rfl <| nj J5 (bAt hc6)
 · exact gn rfl (bF hc6) rfl rfl <| gn rfl (bF hc6) rfl rfl <| gn rfl (bF hc6) rfl rfl <| tv (pF (bF hc6)) rfl <| nj J5 (bAf hc6)

/-! ### fettle/fettleref02.Small -/
abbrev fettleref02_Small.R (r : Bool) (v : Value) (A : List FP) : Prop := .bool r = v ∧ A = []
def fettleref02_Small.nx11  : Option Bool :=
  some true
def fettleref02_Small.nx39 (x5 : Int) : Option (Ex (Ex Bool Unit) Int) :=
  some (.go (w64 (x5 + 1)))
def fettleref02_Small.nx76 (x17 : Int) : Option (Ex (Ex Bool Unit) Int) :=
  some (.go (w64 (x17 + 1)))
def fettleref02_Small.bd76 (x18 : PBlock) (x32 : Int) : Option (Ex (Ex Bool Unit) Int) :=
  if x32 < (len x18.phis) then
    (idx x18.phis x32).bind fun x33 =>
    if (len x33.args) > 300 then
      some (.ret (.ret false))
    else
      some (.go (w64 (x32 + 1)))
  else
    some (.ret (.go ()))
def fettleref02_Small.nx69 (x17 : Int) (x18 : PBlock) : Option (Ex (Ex Bool Unit) Int) :=
  (whl (fun (s : Int) => fettleref02_Small.bd76 x18 s) FUEL 0).bind fun z =>
  match z with
    | .ret r => some (.ret (.ret r))
    | .go p => fettleref02_Small.nx76 x17
def fettleref02_Small.bd69 (x18 : PBlock) (x31 : Int) : Option (Ex (Ex Bool Unit) Int) :=
  if x31 < (len x18.ins) then
    (idx x18.ins x31).bind fun x41 =>
    if (len x41.args) > 300 then
      some (.ret (.ret false))
    else
      some (.go (w64 (x31 + 1)))
  else
    some (.ret (.go ()))
def fettleref02_Small.bd39 (x6 : PFunc) (x17 : Int) : Option (Ex (Ex Bool Unit) Int) :=
  if x17 < (len x6.blocks) then
    (idx x6.blocks x17).bind fun x18 =>
    if ((len x18.ins) > 300 ∨ (len x18.phis) > 300) ∨ (len x18.term.to) > 70 then
      some (.ret (.ret false))
    else
      (whl (fun (s : Int) => fettleref02_Small.bd69 x18 s) FUEL 0).bind fun z =>
      match z with
        | .ret r => some (.ret (.ret r))
        | .go p => fettleref02_Small.nx69 x17 x18
  else
    some (.ret (.go ()))
def fettleref02_Small.bd11 (a1 : PModule) (x5 : Int) : Option (Ex (Ex Bool Unit) Int) :=
  if x5 < (len a1.funcs) then
    (idx a1.funcs x5).bind fun x6 =>
    if ((len x6.blocks) > 70 ∨ (len x6.regs) > 300) ∨ x6.params > 1000 then
      some (.ret (.ret false))
    else
      (whl (fun (s : Int) => fettleref02_Small.bd39 x6 s) FUEL 0).bind fun z =>
      match z with
        | .ret r => some (.ret (.ret r))
        | .go p => fettleref02_Small.nx39 x5
  else
    some (.ret (.go ()))
def fettleref02_Small (a1 : PModule) : Option Bool :=
  if (len a1.funcs) > 40 then
    some false
  else
    (whl (fun (s : Int) => fettleref02_Small.bd11 a1 s) FUEL 0).bind fun z =>
    match z with
      | .ret r => some r
      | .go p => fettleref02_Small.nx11
set_option maxHeartbeats 4000000 in
theorem fettleref02_Small_ok {E : World} {H : FP} {w : World} {a1 : PModule} {v2 : Value} {r : Bool} (h3 : SlI kFunc H a1.funcs v2) (hp : fettleref02_Small a1 = some r) (hst : St E H [] w) :
    Fn Tryz.prog 5 #[.agg #[v2]] w fun v w' => ∃ A, fettleref02_Small.R r v A ∧ St E H A w' := by
 refine fb 99 [.tmp 2] Tryz.func5 rfl rfl rfl rfl rfl hst <| sr <| tb [v2] rfl rfl fun b4 => ta rfl <| nz <| TC.seq fun K1 k2 => sr <| tv (fa f24_0 rfl) rfl <| tv (lb s22 0 rfl rfl rfl) rfl <| tv (ln u22 h3 rfl) rfl <| tv (bgt rfl rfl) rfl <| nz <| cD rfl hp (fun hc3 hp => ?_) fun hc3 hp => ?_
 · exact sr <| ta rfl <| nz <| TC.ret <| rt hp [] ⟨rfl, rfl⟩
 · refine sk k2 rfl <| TC.seq fun K4 k5 => sr <| ta rfl <| nz <| TC.block <| bE hp fun z_7 hz8 hr9 => ?_
   have J13 {e12} (hq14 : .go () = z_7) : ∀ w, St E H [] w → K4 (ovr e12 []) w := by
    subst hq14
    replace hp : fettleref02_Small.nx11 = some r := hr9
    exact tg k5 <| sr <| ta rfl <| nz <| TC.ret <| rt hp [] ⟨rfl, rfl⟩
   refine lp hz8 [0] rfl (fun s e L => ∃ e6, e = ovr e6 [(1, .pointer (some ⟨b4, 0, none⟩)), (3, .int .i64 s)] ∧ L = [bx b4 24 [v2]]) ⟨_, ovr_eq _ _ rfl, rfl⟩ ?_
   rintro x5 _ _ ⟨e6, rfl, rfl⟩ X10 hp hx11
   replace hp : fettleref02_Small.bd11 a1 x5 = some X10 := hp
   refine TC.seq fun K15 k16 => sr <| tm rfl <| tv (fa f24_0 rfl) rfl <| tv (lb s22 0 rfl rfl rfl) rfl <| tv (ln u22 h3 rfl) rfl <| tv (blt rfl rfl) rfl <| nz <| cD rfl hp (fun hc17 hp => ?_) fun hc17 hp => ?_
   · refine sk k16 rfl <| TC.seq fun K18 k19 => TC.block <| sr <| tv (fa f24_0 rfl) rfl <| tv (lb s22 0 rfl rfl rfl) rfl <| tm rfl <| ti u22 i47 h3 hp rfl rfl rfl rfl ?_
     rintro x6 b7 o8 _ hp ⟨v12, v14, rfl, h13, h15⟩ h11
     refine tv (lR (ds := [.int .i64 x6.params, .int .i64 x6.result, v12, v14]) ag_47 sH h11 0 rfl rfl rfl) rfl <| tl i47 rfl fun b16 => tS 0 m47 rfl rfl [.int .i64 x6.params, .int .i64 x6.result, v12, v14] rfl (oc rfl (oc rfl (oc (h13).one (oc (h15).one oc0)))) rfl rfl <| nz <| TC.seq fun K21 k22 => sr <| tv (fa f47_3 rfl) rfl <| tv (lb s45 0 rfl rfl rfl) rfl <| tv (ln u45 h15 rfl) rfl <| tv (bgt rfl rfl) rfl <| tm rfl <| TL.cut 5 fun K23 k24 => ?_
     have J25 {e27} : ∀ w, St E H [bx b16 47 [.int .i64 x6.params, .int .i64 x6.result, v12, v14], bx b4 24 [v2]] w → K23 (ovr e27 [(34, .bool (decide ((len x6.blocks) > 70 ∨ (len x6.regs) > 300))), (1, .pointer (some ⟨b4, 0, none⟩)), (3, .int .i64 x5), (4, .pointer (some ⟨b16, 0, none⟩))]) w := by
      refine tlg k24 <| tm rfl <| TL.cut 4 fun K28 k29 => ?_
      have J30 {e32} : ∀ w, St E H [bx b16 47 [.int .i64 x6.params, .int .i64 x6.result, v12, v14], bx b4 24 [v2]] w → K28 (ovr e32 [(39, .bool (decide (((len x6.blocks) > 70 ∨ (len x6.regs) > 300) ∨ x6.params > 1000))), (1, .pointer (some ⟨b4, 0, none⟩)), (3, .int .i64 x5), (4, .pointer (some ⟨b16, 0, none⟩))]) w := by
       refine tlg k29 <| nz <| cD rfl hp (fun hc33 hp => ?_) fun hc33 hp => ?_
       · refine sr <| ta rfl <| nz <| TC.ret ?_
         obtain rfl := ex_ret hp hx11
         exact rt hr9 [] ⟨rfl, rfl⟩
       · refine sk k22 rfl <| sr <| ta rfl <| nz <| TC.block <| bE hp fun z_35 hz36 hr37 => ?_
         have J41 {e40} (hq42 : .go () = z_35) : ∀ w, St E H [bx b4 24 [v2]] w → K18 (ovr e40 [(1, .pointer (some ⟨b4, 0, none⟩)), (3, .int .i64 x5)]) w := by
          subst hq42
          replace hp : fettleref02_Small.nx39 x5 = some X10 := hr37
          exact tg k19 <| TC.region <| tm rfl <| tv (bad rfl rfl) rfl <| ta rfl <| nl <| gk hp [0] ⟨_, ovr_eq _ _ rfl, rfl⟩
         refine lp hz36 [1, 0] rfl (fun s e L => ∃ e34, e = ovr e34 [(1, .pointer (some ⟨b4, 0, none⟩)), (3, .int .i64 x5), (4, .pointer (some ⟨b16, 0, none⟩)), (5, .int .i64 s)] ∧ L = [bx b4 24 [v2], bx b16 47 [.int .i64 x6.params, .int .i64 x6.result, v12, v14]]) ⟨_, ovr_eq _ _ rfl, rfl⟩ ?_
         rintro x17 _ _ ⟨e34, rfl, rfl⟩ X38 hp hx39
         replace hp : fettleref02_Small.bd39 x6 x17 = some X38 := hp
         refine TC.seq fun K43 k44 => sr <| tm rfl <| tv (fa f47_3 rfl) rfl <| tv (lb s45 1 rfl rfl rfl) rfl <| tv (ln u45 h15 rfl) rfl <| tv (blt rfl rfl) rfl <| nz <| cD rfl hp (fun hc45 hp => ?_) fun hc45 hp => ?_
         · refine sk k44 rfl <| TC.seq fun K46 k47 => TC.block <| sr <| tv (fa f47_3 rfl) rfl <| tv (lb s45 1 rfl rfl rfl) rfl <| tm rfl <| ti u45 i44 h15 hp rfl rfl rfl rfl ?_
           rintro x18 b19 o20 _ hp ⟨v24, v26, v28, rfl, h25, h27, h29⟩ h23
           refine tv (lR (ds := [v24, v26, .int .i64 x18.term.kind, .int .i64 x18.term.arg, v28]) ag_44 sH h23 0 rfl rfl rfl) rfl <| tl i44 rfl fun b30 => tS 0 m44 rfl rfl [v24, v26, .int .i64 x18.term.kind, .int .i64 x18.term.arg, v28] rfl (oc (h25).one (oc (h27).one (oc rfl (oc rfl (oc (h29).one oc0))))) rfl rfl <| nz <| TC.seq fun K49 k50 => sr <| tv (fa f44_1 rfl) rfl <| tv (lb s42 0 rfl rfl rfl) rfl <| tv (ln u42 h27 rfl) rfl <| tv (bgt rfl rfl) rfl <| tm rfl <| TL.cut 5 fun K51 k52 => ?_
           have J53 {e55} : ∀ w, St E H [bx b30 44 [v24, v26, .int .i64 x18.term.kind, .int .i64 x18.term.arg, v28], bx b4 24 [v2], bx b16 47 [.int .i64 x6.params, .int .i64 x6.result, v12, v14]] w → K51 (ovr e55 [(61, .bool (decide ((len x18.ins) > 300 ∨ (len x18.phis) > 300))), (1, .pointer (some ⟨b4, 0, none⟩)), (3, .int .i64 x5), (4, .pointer (some ⟨b16, 0, none⟩)), (5, .int .i64 x17), (6, .pointer (some ⟨b30, 0, none⟩))]) w := by
            refine tlg k52 <| tm rfl <| TL.cut 6 fun K56 k57 => ?_
            have J58 {e60} : ∀ w, St E H [bx b30 44 [v24, v26, .int .i64 x18.term.kind, .int .i64 x18.term.arg, v28], bx b4 24 [v2], bx b16 47 [.int .i64 x6.params, .int .i64 x6.result, v12, v14]] w → K56 (ovr e60 [(68, .bool (decide (((len x18.ins) > 300 ∨ (len x18.phis) > 300) ∨ (len x18.term.to) > 70))), (1, .pointer (some ⟨b4, 0, none⟩)), (3, .int .i64 x5), (4, .pointer (some ⟨b16, 0, none⟩)), (5, .int .i64 x17), (6, .pointer (some ⟨b30, 0, none⟩))]) w := by
             refine tlg k57 <| nz <| cD rfl hp (fun hc61 hp => ?_) fun hc61 hp => ?_
             · refine sr <| ta rfl <| nz <| TC.ret ?_
               obtain rfl := ex_ret hp hx39
               obtain rfl := ex_ret hr37 hx11
               exact rt hr9 [] ⟨rfl, rfl⟩
             · refine sk k50 rfl <| TC.seq fun K62 k63 => sr <| ta rfl <| nz <| TC.block <| bE hp fun z_65 hz66 hr67 => ?_
               have J89 {e70} (hq90 : .go () = z_65) : ∀ w, St E H [bx b4 24 [v2], bx b16 47 [.int .i64 x6.params, .int .i64 x6.result, v12, v14], bx b30 44 [v24, v26, .int .i64 x18.term.kind, .int .i64 x18.term.arg, v28]] w → K62 (ovr e70 [(1, .pointer (some ⟨b4, 0, none⟩)), (3, .int .i64 x5), (4, .pointer (some ⟨b16, 0, none⟩)), (5, .int .i64 x17), (6, .pointer (some ⟨b30, 0, none⟩))]) w := by
                subst hq90
                replace hp : fettleref02_Small.nx69 x17 x18 = some X38 := hr67
                refine tg k63 <| sr <| ta rfl <| nz <| TC.block <| bE hp fun z_72 hz73 hr74 => ?_
                have J78 {e77} (hq79 : .go () = z_72) : ∀ w, St E H [bx b4 24 [v2], bx b16 47 [.int .i64 x6.params, .int .i64 x6.result, v12, v14]] w → K46 (ovr e77 [(1, .pointer (some ⟨b4, 0, none⟩)), (3, .int .i64 x5), (4, .pointer (some ⟨b16, 0, none⟩)), (5, .int .i64 x17)]) w := by
                 subst hq79
                 replace hp : fettleref02_Small.nx76 x17 = some X38 := hr74
                 exact tg k47 <| TC.region <| tm rfl <| tv (bad rfl rfl) rfl <| ta rfl <| nl <| gk hp [0, 1] ⟨_, ovr_eq _ _ rfl, rfl⟩
                refine lp hz73 [0, 1, 2] rfl (fun s e L => ∃ e71, e = ovr e71 [(1, .pointer (some ⟨b4, 0, none⟩)), (3, .int .i64 x5), (4, .pointer (some ⟨b16, 0, none⟩)), (5, .int .i64 x17), (6, .pointer (some ⟨b30, 0, none⟩)), (8, .int .i64 s)] ∧ L = [bx b4 24 [v2], bx b16 47 [.int .i64 x6.params, .int .i64 x6.result, v12, v14], bx b30 44 [v24, v26, .int .i64 x18.term.kind, .int .i64 x18.term.arg, v28]]) ⟨_, ovr_eq _ _ rfl, rfl⟩ ?_
                rintro x32 _ _ ⟨e71, rfl, rfl⟩ X75 hp hx76
                replace hp : fettleref02_Small.bd76 x18 x32 = some X75 := hp
                refine TC.seq fun K80 k81 => sr <| tm rfl <| tv (fa f44_0 rfl) rfl <| tv (lb s41 2 rfl rfl rfl) rfl <| tv (ln u41 h25 rfl) rfl <| tv (blt rfl rfl) rfl <| nz <| cD rfl hp (fun hc82 hp => ?_) fun hc82 hp => ?_
                · refine sk k81 rfl <| TC.seq fun K83 k84 => TC.block <| sr <| tv (fa f44_0 rfl) rfl <| tv (lb s41 2 rfl rfl rfl) rfl <| tm rfl <| ti u41 i52 h25 hp rfl rfl rfl rfl ?_
                  rintro x33 b34 o35 _ hp ⟨v39, rfl, h40⟩ h38
                  refine tv (fa f52_1 rfl) rfl <| tv (lr s38 sH h38 1 rfl rfl) rfl <| tv (ln u38 h40 rfl) rfl <| tv (bgt rfl rfl) rfl <| nz <| cD rfl hp (fun hc86 hp => ?_) fun hc86 hp => ?_
                  · refine sr <| ta rfl <| nz <| TC.ret ?_
                    obtain rfl := ex_ret hp hx76
                    obtain rfl := ex_ret hr74 hx39
                    obtain rfl := ex_ret hr37 hx11
                    exact rt hr9 [] ⟨rfl, rfl⟩
                  · exact sk k84 rfl <| TC.region <| tm rfl <| tv (bad rfl rfl) rfl <| ta rfl <| nl <| gk hp [0, 1, 2] ⟨_, ovr_eq _ _ rfl, rfl⟩
                · exact TC.exit <| jn [0, 1] (J78 (ex_ret hp hx76))
               refine lp hz66 [1, 2, 0] rfl (fun s e L => ∃ e64, e = ovr e64 [(1, .pointer (some ⟨b4, 0, none⟩)), (3, .int .i64 x5), (4, .pointer (some ⟨b16, 0, none⟩)), (5, .int .i64 x17), (6, .pointer (some ⟨b30, 0, none⟩)), (7, .int .i64 s)] ∧ L = [bx b4 24 [v2], bx b16 47 [.int .i64 x6.params, .int .i64 x6.result, v12, v14], bx b30 44 [v24, v26, .int .i64 x18.term.kind, .int .i64 x18.term.arg, v28]]) ⟨_, ovr_eq _ _ rfl, rfl⟩ ?_
               rintro x31 _ _ ⟨e64, rfl, rfl⟩ X68 hp hx69
               replace hp : fettleref02_Small.bd69 x18 x31 = some X68 := hp
               refine TC.seq fun K91 k92 => sr <| tm rfl <| tv (fa f44_1 rfl) rfl <| tv (lb s42 2 rfl rfl rfl) rfl <| tv (ln u42 h27 rfl) rfl <| tv (blt rfl rfl) rfl <| nz <| cD rfl hp (fun hc93 hp => ?_) fun hc93 hp => ?_
               · refine sk k92 rfl <| TC.seq fun K94 k95 => TC.block <| sr <| tv (fa f44_1 rfl) rfl <| tv (lb s42 2 rfl rfl rfl) rfl <| tm rfl <| ti u42 i50 h27 hp rfl rfl rfl rfl ?_
                 rintro x41 b42 o43 _ hp ⟨v47, rfl, h48⟩ h46
                 refine tv (fa f50_2 rfl) rfl <| tv (lr s38 sH h46 2 rfl rfl) rfl <| tv (ln u38 h48 rfl) rfl <| tv (bgt rfl rfl) rfl <| nz <| cD rfl hp (fun hc97 hp => ?_) fun hc97 hp => ?_
                 · refine sr <| ta rfl <| nz <| TC.ret ?_
                   obtain rfl := ex_ret hp hx69
                   obtain rfl := ex_ret hr67 hx39
                   obtain rfl := ex_ret hr37 hx11
                   exact rt hr9 [] ⟨rfl, rfl⟩
                 · exact sk k95 rfl <| TC.region <| tm rfl <| tv (bad rfl rfl) rfl <| ta rfl <| nl <| gk hp [0, 1, 2] ⟨_, ovr_eq _ _ rfl, rfl⟩
               · exact TC.exit <| jn [0, 1, 2] (J89 (ex_ret hp hx69))
            by_cases hc59 : (len x18.ins) > 300 ∨ (len x18.phis) > 300
            · exact gn rfl (bT hc59) rfl rfl <| gn rfl (bT hc59) rfl rfl <| gn rfl (bT hc59) rfl rfl <| gn rfl (bT hc59) rfl rfl <| gn rfl (bT hc59) rfl rfl <| tv (pT (bT hc59)) rfl <| nj J58 (bOt hc59)
            · exact gy rfl (bF hc59) <| tv (fa f44_2 rfl) rfl <| gy rfl (bF hc59) <| tv (fa f40_2 rfl) rfl <| gy rfl (bF hc59) <| tv (lb s38 0 rfl rfl rfl) rfl <| gy rfl (bF hc59) <| tv (ln u38 h29 rfl) rfl <| gy rfl (bF hc59) <| tv (bgt rfl rfl) rfl <| tv (pF (bF hc59)) rfl <| nj J58 (bOf hc59)
           by_cases hc54 : (len x18.ins) > 300
           · exact gn rfl (bT hc54) rfl rfl <| gn rfl (bT hc54) rfl rfl <| gn rfl (bT hc54) rfl rfl <| gn rfl (bT hc54) rfl rfl <| tv (pT (bT hc54)) rfl <| nj J53 (bOt hc54)
           · exact gy rfl (bF hc54) <| tv (fa f44_0 rfl) rfl <| gy rfl (bF hc54) <| tv (lb s41 0 rfl rfl rfl) rfl <| gy rfl (bF hc54) <| tv (ln u41 h25 rfl) rfl <| gy rfl (bF hc54) <| tv (bgt rfl rfl) rfl <| tv (pF (bF hc54)) rfl <| nj J53 (bOf hc54)
         · exact TC.exit <| jn [0] (J41 (ex_ret hp hx39))
      by_cases hc31 : (len x6.blocks) > 70 ∨ (len x6.regs) > 300
      · exact gn rfl (bT hc31) rfl rfl <| gn rfl (bT hc31) rfl rfl <| gn rfl (bT hc31) rfl rfl <| tv (pT (bT hc31)) rfl <| nj J30 (bOt hc31)
      · exact gy rfl (bF hc31) <| tv (fa f47_0 rfl) rfl <| gy rfl (bF hc31) <| tv (lb s3 0 rfl rfl rfl) rfl <| gy rfl (bF hc31) <| tv (bgt rfl rfl) rfl <| tv (pF (bF hc31)) rfl <| nj J30 (bOf hc31)
     by_cases hc26 : (len x6.blocks) > 70
     · exact gn rfl (bT hc26) rfl rfl <| gn rfl (bT hc26) rfl rfl <| gn rfl (bT hc26) rfl rfl <| gn rfl (bT hc26) rfl rfl <| tv (pT (bT hc26)) rfl <| nj J25 (bOt hc26)
     · exact gy rfl (bF hc26) <| tv (fa f47_2 rfl) rfl <| gy rfl (bF hc26) <| tv (lb s38 0 rfl rfl rfl) rfl <| gy rfl (bF hc26) <| tv (ln u38 h13 rfl) rfl <| gy rfl (bF hc26) <| tv (bgt rfl rfl) rfl <| tv (pF (bF hc26)) rfl <| nj J25 (bOf hc26)
   · exact TC.exit <| jn [] (J13 (ex_ret hp hx11))

/-! ### fettle/fettlelaw00.Of -/

end Go.Proofs.YtpomfbdbkejedaaGreatDoor
