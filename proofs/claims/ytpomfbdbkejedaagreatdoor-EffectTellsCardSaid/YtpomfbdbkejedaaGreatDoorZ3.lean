/- The walk through the program's functions: each one's pure reading, and that a call does what it says. No conditions. -/
import Derived.Test.YtpomfbdbkejedaaGreatDoorZ2
set_option linter.unusedVariables false
set_option linter.unusedSimpArgs false
namespace Go.Proofs.YtpomfbdbkejedaaGreatDoor
open Go Go.Proofs

/-! ### fettle/check.Func -/
abbrev check_Func.R (r : GErr) (v : Value) (A : List FP) : Prop := ∃ (w1 : Value) (G1 : FP), w1 = v ∧ A = [G1] ∧ ErO 73 60 65 r w1 G1
def check_Func.nx49  : Option GErr :=
  some GErr.no
def check_Func.bd49 (a1 : PModule) (x1608 : PFunc) (x3618 : Int) : Option (Ex (Ex GErr Unit) Int) :=
  if x3618 < (len x1608.blocks) then
    (idx x1608.blocks x3618).bind fun x3620 =>
    (check_looker_block (⟨(⟨a1.funcs⟩ : PModule), (⟨x1608.params, x1608.result, x1608.regs, x1608.blocks⟩ : PFunc)⟩ : PLooker) x3620).bind fun x3633 =>
    if ¬ x3633 = GErr.no then
      some (.ret (.ret x3633))
    else
      some (.go (w64 (x3618 + 1)))
  else
    some (.ret (.go ()))
def check_Func.nx40 (a1 : PModule) (x1608 : PFunc) : Option GErr :=
  (whl (fun (s : Int) => check_Func.bd49 a1 x1608 s) FUEL 0).bind fun z =>
  match z with
    | .ret r => some r
    | .go p => check_Func.nx49
def check_Func.nx78 (x3617 : Int) : Option (Ex (Ex GErr Unit) Int) :=
  some (.go (w64 (x3617 + 1)))
def check_Func.bd78 (x3637 : List Int) (x3645 : PBlock) (x3657 : Int) : Option (Ex (Ex GErr Unit) Int) :=
  if x3657 < (len x3645.phis) then
    (idx x3645.phis x3657).bind fun x3658 =>
    if ¬ (len x3658.args) = (len x3637) then
      some (.ret (.ret (GErr.code 6)))
    else
      some (.go (w64 (x3657 + 1)))
  else
    some (.ret (.go ()))
def check_Func.bd40 (x1608 : PFunc) (x3613 : List (List Int)) (x3617 : Int) : Option (Ex (Ex GErr Unit) Int) :=
  if x3617 < (len x3613) then
    (idx x3613 x3617).bind fun x3637 =>
    (idx x1608.blocks x3617).bind fun x3645 =>
    (whl (fun (s : Int) => check_Func.bd78 x3637 x3645 s) FUEL 0).bind fun z =>
    match z with
      | .ret r => some (.ret (.ret r))
      | .go p => check_Func.nx78 x3617
  else
    some (.ret (.go ()))
def check_Func.nx29 (a1 : PModule) (x1608 : PFunc) : Option GErr :=
  (check_Ahead x1608).bind fun x3613 =>
  (whl (fun (s : Int) => check_Func.bd40 x1608 x3613 s) FUEL 0).bind fun z =>
  match z with
    | .ret r => some r
    | .go p => check_Func.nx40 a1 x1608
def check_Func.bd29 (x1608 : PFunc) (x3612 : Int) : Option (Ex (Ex GErr Unit) Int) :=
  if x3612 < (len x1608.blocks) then
    (idx x1608.blocks x3612).bind fun x3668 =>
    (check_ends x1608 x3668.term).bind fun x3681 =>
    if (!x3681) = true then
      some (.ret (.ret (GErr.code 6)))
    else
      some (.go (w64 (x3612 + 1)))
  else
    some (.ret (.go ()))
def check_Func (a1 : PModule) (a4 : Int) : Option GErr :=
  if a4 < 0 ∨ a4 ≥ (len a1.funcs) then
    some (GErr.code 1)
  else
    (idx a1.funcs a4).bind fun x1608 =>
    (check_small x1608).bind fun x3608 =>
    if (!x3608) = true then
      some (GErr.code 5)
    else
      (check_typed x1608).bind fun x3610 =>
      if (!x3610) = true then
        some (GErr.code 3)
      else
        (whl (fun (s : Int) => check_Func.bd29 x1608 s) FUEL 0).bind fun z =>
        match z with
          | .ret r => some r
          | .go p => check_Func.nx29 a1 x1608
set_option maxHeartbeats 4000000 in
theorem check_Func_ok {E : World} {H : FP} {w : World} {a1 : PModule} {a4 : Int} {v2 : Value} {r : GErr} (h3 : SlI kFunc H a1.funcs v2) (hp : check_Func a1 a4 = some r) (hst : St E H [] w) :
    Fn Tryz.prog 25 #[.agg #[v2], .int .i64 a4] w fun v w' => ∃ A, check_Func.R r v A ∧ St E H A w' := by
 refine fb 120 [.tmp 4] Tryz.func25 rfl rfl rfl rfl rfl hst <| sr <| tb [v2] rfl rfl fun b5 => ta rfl <| nz <| TC.seq fun K1 k2 => sr <| tm rfl <| tv (blt rfl rfl) rfl <| tm rfl <| TL.cut 6 fun K3 k4 => ?_
 have J5 {e7} : ∀ w, St E H [bx b5 24 [v2]] w → K3 (ovr e7 [(23, .bool (decide (a4 < 0 ∨ a4 ≥ (len a1.funcs)))), (1, .int .i64 a4), (2, .pointer (some ⟨b5, 0, none⟩))]) w := by
  refine tlg k4 <| nz <| cD rfl hp (fun hc8 hp => ?_) fun hc8 hp => ?_
  · exact sr <| tv (mI u73 rfl) rfl <| ta rfl <| nz <| TC.ret <| W.new0 <| rt hp [0] ⟨(.iface 73 (.int .i64 1)), ([] : FP), rfl, rfl, (ErO.mk _ : ErO 73 60 65 (GErr.code 1) (.iface 73 (.int .i64 1)) [])⟩
  · refine sk k2 rfl <| TC.seq fun K9 k10 => ch mix [bx b5 24 [v2]] (srcG 0 rfl srcG0) <| hv 0 rfl (lAG (ds := [v2]) ag_24 0 rfl rfl rfl rfl) (by kernel_rfl) rfl <| hv 1 rfl (fa f24_0 rfl) (by kernel_rfl) rfl <| hv 2 rfl (lbG s22 0 rfl rfl rfl) (by kernel_rfl) rfl <| hv 3 rfl mv (by kernel_rfl) rfl <| hi 4 rfl u22 i47 h3 hp rfl rfl rfl (by kernel_rfl) rfl ?_
    rintro x1608 b1609 o1610 _ hp ⟨v1614, v1616, rfl, h1615, h1617⟩ h1613
    refine hv 5 rfl (lR (ds := [.int .i64 x1608.params, .int .i64 x1608.result, v1614, v1616]) ag_47 srcInH h1613 0 rfl rfl rfl) (by kernel_rfl) rfl <| hv 6 rfl (rv_bv (vs := [(0, .agg #[v2]), (1, .agg #[.int .i64 x1608.params, .int .i64 x1608.result, v1614, v1616])]) (ds := [v2, .int .i64 x1608.params, .int .i64 x1608.result, v1614, v1616]) rfl (fun w => by kernel_rfl)) (by kernel_rfl) rfl <| ho 7 rfl (by kernel_rfl) fun K12 k13 => tb [v2, .int .i64 x1608.params, .int .i64 x1608.result, v1614, v1616] rfl rfl fun b2808 => hk k13 (srcG 1 rfl srcG0) <| hv 8 rfl sg (by kernel_rfl) rfl <| hz (by kernel_rfl) <| tg k10 <| TC.seq fun K14 k15 => TC.block <| sr <| tm rfl <| tv (rv_nilCheck rfl) rfl <| tv (fa f104_1 rfl) rfl <| tv (lA (ds := [.int .i64 x1608.params, .int .i64 x1608.result, v1614, v1616]) ag_47 0 rfl rfl rfl rfl) rfl <| bE hp fun x3608 hy16 hp => tc 0 [_,_] rfl c47 (fun _ => check_small_ok (a1 := x1608) (h1615.mono subH) (h1617.mono subH) hy16) rfl ?_
    rintro _ _ ⟨rfl, rfl⟩
    refine tv (rv_not rfl) rfl <| ta rfl <| nz <| cB rfl hp (fun hc18 hp => ?_) fun hc18 hp => ?_
    · exact sr <| tv (mI u73 rfl) rfl <| ta rfl <| nz <| TC.ret <| W.new0 <| rt hp [0] ⟨(.iface 73 (.int .i64 5)), ([] : FP), rfl, rfl, (ErO.mk _ : ErO 73 60 65 (GErr.code 5) (.iface 73 (.int .i64 5)) [])⟩
    · refine sr <| tm rfl <| tv (rv_nilCheck rfl) rfl <| tv (fa f104_1 rfl) rfl <| tv (lA (ds := [.int .i64 x1608.params, .int .i64 x1608.result, v1614, v1616]) ag_47 0 rfl rfl rfl rfl) rfl <| bE hp fun x3610 hy19 hp => tc 0 [_,_] rfl c48 (fun _ => check_typed_ok (a1 := x1608) (h1615.mono subH) (h1617.mono subH) hy19) rfl ?_
      rintro _ _ ⟨rfl, rfl⟩
      refine tv (rv_not rfl) rfl <| ta rfl <| nz <| cB rfl hp (fun hc21 hp => ?_) fun hc21 hp => ?_
      · exact sr <| tv (mI u73 rfl) rfl <| ta rfl <| nz <| TC.ret <| W.new0 <| rt hp [0] ⟨(.iface 73 (.int .i64 3)), ([] : FP), rfl, rfl, (ErO.mk _ : ErO 73 60 65 (GErr.code 3) (.iface 73 (.int .i64 3)) [])⟩
      · refine sk k15 rfl <| TC.seq fun K22 k23 => sr <| tm rfl <| tv (rv_nilCheck rfl) rfl <| tv (fa f104_1 rfl) rfl <| tv (fa f47_3 rfl) rfl <| tv (lb s45 0 rfl rfl rfl) rfl <| tv (ln u45 h1617 rfl) rfl <| tm rfl <| nz <| TC.block <| bE hp fun z_25 hz26 hr27 => ?_
        have J93 {e30} (hq94 : .go () = z_25) : ∀ w, St E H [bx b2808 104 [v2, .int .i64 x1608.params, .int .i64 x1608.result, v1614, v1616]] w → K22 (ovr e30 [(5, .pointer (some ⟨b2808, 0, none⟩))]) w := by
         subst hq94
         replace hp : check_Func.nx29 a1 x1608 = some r := hr27
         refine tg k23 <| TC.seq fun K31 k32 => sr <| tm rfl <| tv (rv_nilCheck rfl) rfl <| tv (fa f104_1 rfl) rfl <| tv (lA (ds := [.int .i64 x1608.params, .int .i64 x1608.result, v1614, v1616]) ag_47 0 rfl rfl rfl rfl) rfl <| bE hp fun x3613 hy33 hp => tc 0 [_] rfl c50 (fun _ => check_Ahead_ok (a1 := x1608) (h1615.mono subH) (h1617.mono subH) hy33) rfl ?_
         rintro _ _ ⟨v3614, F3615, rfl, rfl, h3616⟩
         refine tv (ln u54 h3616.ro rfl) rfl <| tm rfl <| nz <| TC.block <| bE hp fun z_36 hz37 hr38 => ?_
         have J64 {e41} (hq65 : .go () = z_36) : ∀ w, St E H [bx b2808 104 [v2, .int .i64 x1608.params, .int .i64 x1608.result, v1614, v1616]] w → K31 (ovr e41 [(5, .pointer (some ⟨b2808, 0, none⟩))]) w := by
          subst hq65
          replace hp : check_Func.nx40 a1 x1608 = some r := hr38
          refine tg k32 <| TC.seq fun K42 k43 => sr <| tm rfl <| tv (rv_nilCheck rfl) rfl <| tv (fa f104_1 rfl) rfl <| tv (fa f47_3 rfl) rfl <| tv (lb s45 0 rfl rfl rfl) rfl <| tv (ln u45 h1617 rfl) rfl <| tm rfl <| nz <| TC.block <| bE hp fun z_45 hz46 hr47 => ?_
          have J51 {e50} (hq52 : .go () = z_45) : ∀ w, St E H [] w → K42 (ovr e50 []) w := by
           subst hq52
           replace hp : check_Func.nx49 = some r := hr47
           exact tg k43 <| sr <| ta rfl <| nz <| TC.ret <| W.new0 <| rt hp [0] ⟨.nilIface, ([] : FP), rfl, rfl, (ErO.nil : ErO 73 60 65 GErr.no .nilIface [])⟩
          refine lp hz46 [0] rfl (fun s e L => ∃ e44, e = ovr e44 [(5, .pointer (some ⟨b2808, 0, none⟩)), (107, v1616), (108, .int .i64 (len x1608.blocks)), (109, .int .i64 s)] ∧ L = [bx b2808 104 [v2, .int .i64 x1608.params, .int .i64 x1608.result, v1614, v1616]]) ⟨_, ovr_eq _ _ rfl, rfl⟩ ?_
          rintro x3618 _ _ ⟨e44, rfl, rfl⟩ X48 hp hx49
          replace hp : check_Func.bd49 a1 x1608 x3618 = some X48 := hp
          refine sr <| tv (blt rfl rfl) rfl <| nz <| TC.seq fun K53 k54 => cD rfl hp (fun hc55 hp => ?_) fun hc55 hp => ?_
          · refine sk k54 rfl <| TC.seq fun K56 k57 => TC.block <| sr <| ti u45 i44 h1617 hp rfl rfl rfl rfl ?_
            rintro x3620 b3621 o3622 _ hp ⟨v3626, v3628, v3630, rfl, h3627, h3629, h3631⟩ h3625
            refine tv (lR (ds := [v3626, v3628, .int .i64 x3620.term.kind, .int .i64 x3620.term.arg, v3630]) ag_44 sH h3625 0 rfl rfl rfl) rfl <| tl i44 rfl fun b3632 => tS 0 m44 rfl rfl [v3626, v3628, .int .i64 x3620.term.kind, .int .i64 x3620.term.arg, v3630] rfl (oc (h3627).one (oc (h3629).one (oc rfl (oc rfl (oc (h3631).one oc0))))) rfl rfl <| nz <| sr <| tm rfl <| tv (lA (ds := [v3626, v3628, .int .i64 x3620.term.kind, .int .i64 x3620.term.arg, v3630]) ag_44 0 rfl rfl rfl rfl) rfl <| bE hp fun x3633 hy59 hp => tc 0 [_,_] rfl c51 (fun _ => check_looker_block_ok (a2 := (⟨(⟨a1.funcs⟩ : PModule), (⟨x1608.params, x1608.result, x1608.regs, x1608.blocks⟩ : PFunc)⟩ : PLooker)) (a11 := x3620) ((bx_cells b2808 104 _).mono (subB 1 rfl)) (h3.mono subH) (h1615.mono subH) (h1617.mono subH) (h3627.mono subH) (h3629.mono subH) (h3631.mono subH) hy59) rfl ?_
            rintro _ _ ⟨v3634, F3635, rfl, rfl, h3636⟩
            refine ta rfl <| nz <| sr <| tm rfl <| tv (rv_neqEN ifc_29 h3636 rfl) rfl <| nz <| cD rfl hp (fun hc61 hp => ?_) fun hc61 hp => ?_
            · refine sr <| tm rfl <| ta rfl <| nz <| TC.ret ?_
              obtain rfl := ex_ret hp hx49
              exact rt hr47 [0] ⟨v3634, F3635, rfl, rfl, h3636⟩
            · exact sk k57 rfl <| TC.region <| tv (bad rfl rfl) rfl <| tm rfl <| nl <| gk hp [2] ⟨_, ovr_eq _ _ rfl, rfl⟩
          · exact TC.exit <| jn [] (J51 (ex_ret hp hx49))
         refine lp hz37 [1, 0] rfl (fun s e L => ∃ e35, e = ovr e35 [(5, .pointer (some ⟨b2808, 0, none⟩)), (73, v3614), (74, .int .i64 (len x3613)), (75, .int .i64 s)] ∧ L = [bx b2808 104 [v2, .int .i64 x1608.params, .int .i64 x1608.result, v1614, v1616], F3615]) ⟨_, ovr_eq _ _ rfl, rfl⟩ ?_
         rintro x3617 _ _ ⟨e35, rfl, rfl⟩ X39 hp hx40
         replace hp : check_Func.bd40 x1608 x3613 x3617 = some X39 := hp
         refine sr <| tv (blt rfl rfl) rfl <| nz <| TC.seq fun K66 k67 => cD rfl hp (fun hc68 hp => ?_) fun hc68 hp => ?_
         · refine sk k67 rfl <| TC.seq fun K69 k70 => TC.block <| sr <| tm rfl <| ti u54 i38 (h3616).ro hp rfl rfl rfl rfl ?_
           rintro x3637 b3638 o3639 _ hp ⟨v3643, rfl, h3644⟩ h3642
           refine tv (lr s38 (Src.at_ 1 rfl) h3642 0 rfl rfl) rfl <| ta rfl <| ta rfl <| nz <| sr <| tm rfl <| tv (rv_nilCheck rfl) rfl <| tv (fa f104_1 rfl) rfl <| tv (fa f47_3 rfl) rfl <| tv (lb s45 0 rfl rfl rfl) rfl <| tm rfl <| ti u45 i44 h1617 hp rfl rfl rfl rfl ?_
           rintro x3645 b3646 o3647 _ hp ⟨v3651, v3653, v3655, rfl, h3652, h3654, h3656⟩ h3650
           refine tv (fa f44_0 rfl) rfl <| tv (lr s41 sH h3650 0 rfl rfl) rfl <| tv (ln u41 h3652 rfl) rfl <| tm rfl <| nz <| TC.block <| bE hp fun z_74 hz75 hr76 => ?_
           have J80 {e79} (hq81 : .go () = z_74) : ∀ w, St E H [bx b2808 104 [v2, .int .i64 x1608.params, .int .i64 x1608.result, v1614, v1616], F3615] w → K69 (ovr e79 [(5, .pointer (some ⟨b2808, 0, none⟩)), (73, v3614), (74, .int .i64 (len x3613)), (75, .int .i64 x3617)]) w := by
            subst hq81
            replace hp : check_Func.nx78 x3617 = some X39 := hr76
            exact tg k70 <| TC.region <| tv (bad rfl rfl) rfl <| tm rfl <| nl <| gk hp [0, 1] ⟨_, ovr_eq _ _ rfl, rfl⟩
           refine lp hz75 [0, 1] rfl (fun s e L => ∃ e73, e = ovr e73 [(5, .pointer (some ⟨b2808, 0, none⟩)), (9, v3643), (73, v3614), (74, .int .i64 (len x3613)), (75, .int .i64 x3617), (88, v3651), (89, .int .i64 (len x3645.phis)), (90, .int .i64 s)] ∧ L = [bx b2808 104 [v2, .int .i64 x1608.params, .int .i64 x1608.result, v1614, v1616], F3615]) ⟨_, ovr_eq _ _ rfl, rfl⟩ ?_
           rintro x3657 _ _ ⟨e73, rfl, rfl⟩ X77 hp hx78
           replace hp : check_Func.bd78 x3637 x3645 x3657 = some X77 := hp
           refine sr <| tv (blt rfl rfl) rfl <| nz <| TC.seq fun K82 k83 => cD rfl hp (fun hc84 hp => ?_) fun hc84 hp => ?_
           · refine sk k83 rfl <| TC.seq fun K85 k86 => TC.block <| sr <| ti u41 i52 h3652 hp rfl rfl rfl rfl ?_
             rintro x3658 b3659 o3660 _ hp ⟨v3664, rfl, h3665⟩ h3663
             refine tv (lR (ds := [.int .i64 x3658.dst, v3664]) ag_52 sH h3663 0 rfl rfl rfl) rfl <| tl i52 rfl fun b3666 => tS 0 m52 rfl rfl [.int .i64 x3658.dst, v3664] rfl (oc rfl (oc (h3665).one oc0)) rfl rfl <| nz <| sr <| tv (fa f52_1 rfl) rfl <| tv (lb s38 0 rfl rfl rfl) rfl <| tv (ln u38 h3665 rfl) rfl <| tm rfl <| tv (ln u38 h3644 rfl) rfl <| tv (bne rfl rfl) rfl <| nz <| cD rfl hp (fun hc88 hp => ?_) fun hc88 hp => ?_
             · refine sr <| tv (mI u73 rfl) rfl <| ta rfl <| nz <| TC.ret <| W.new0 ?_
               obtain rfl := ex_ret hp hx78
               obtain rfl := ex_ret hr76 hx40
               exact rt hr38 [0] ⟨(.iface 73 (.int .i64 6)), ([] : FP), rfl, rfl, (ErO.mk _ : ErO 73 60 65 (GErr.code 6) (.iface 73 (.int .i64 6)) [])⟩
             · exact sk k86 rfl <| TC.region <| tv (bad rfl rfl) rfl <| tm rfl <| nl <| gk hp [1, 2] ⟨_, ovr_eq _ _ rfl, rfl⟩
           · exact TC.exit <| jn [0, 1] (J80 (ex_ret hp hx78))
         · exact TC.exit <| jn [0] (J64 (ex_ret hp hx40))
        refine lp hz26 [0] rfl (fun s e L => ∃ e24, e = ovr e24 [(5, .pointer (some ⟨b2808, 0, none⟩)), (53, v1616), (54, .int .i64 (len x1608.blocks)), (55, .int .i64 s)] ∧ L = [bx b2808 104 [v2, .int .i64 x1608.params, .int .i64 x1608.result, v1614, v1616]]) ⟨_, ovr_eq _ _ rfl, rfl⟩ ?_
        rintro x3612 _ _ ⟨e24, rfl, rfl⟩ X28 hp hx29
        replace hp : check_Func.bd29 x1608 x3612 = some X28 := hp
        refine sr <| tv (blt rfl rfl) rfl <| nz <| TC.seq fun K95 k96 => cD rfl hp (fun hc97 hp => ?_) fun hc97 hp => ?_
        · refine sk k96 rfl <| TC.seq fun K98 k99 => TC.block <| sr <| ti u45 i44 h1617 hp rfl rfl rfl rfl ?_
          rintro x3668 b3669 o3670 _ hp ⟨v3674, v3676, v3678, rfl, h3675, h3677, h3679⟩ h3673
          refine tv (lR (ds := [v3674, v3676, .int .i64 x3668.term.kind, .int .i64 x3668.term.arg, v3678]) ag_44 sH h3673 0 rfl rfl rfl) rfl <| tl i44 rfl fun b3680 => tS 0 m44 rfl rfl [v3674, v3676, .int .i64 x3668.term.kind, .int .i64 x3668.term.arg, v3678] rfl (oc (h3675).one (oc (h3677).one (oc rfl (oc rfl (oc (h3679).one oc0))))) rfl rfl <| nz <| TC.seq fun K101 k102 => cq mix (by kernel_rfl) <| qv mv rfl <| qv (rv_nilCheck rfl) rfl <| qv (fa f104_1 rfl) rfl <| qv (lA (ds := [.int .i64 x1608.params, .int .i64 x1608.result, v1614, v1616]) ag_47 1 rfl rfl rfl rfl) rfl <| qv (fa f44_2 rfl) rfl <| qv (lA (ds := [.int .i64 x3668.term.kind, .int .i64 x3668.term.arg, v3678]) ag_40 0 rfl rfl rfl rfl) rfl <| bE hp fun x3681 hy103 hp => qc (.bool x3681) c49 (fun _ => check_ends_ok (a1 := x1608) (a6 := x3668.term) (h1615.mono subH) (h1617.mono subH) (h3679.mono subH) hy103) (fun _ _ h => ⟨h.1.symm, h.2⟩) rfl <| qv (rv_not rfl) rfl <| QL.nil <| tg k102 <| cB rfl hp (fun hc104 hp => ?_) fun hc104 hp => ?_
          · refine sr <| tv (mI u73 rfl) rfl <| ta rfl <| nz <| TC.ret <| W.new0 ?_
            obtain rfl := ex_ret hp hx29
            exact rt hr27 [0] ⟨(.iface 73 (.int .i64 6)), ([] : FP), rfl, rfl, (ErO.mk _ : ErO 73 60 65 (GErr.code 6) (.iface 73 (.int .i64 6)) [])⟩
          · exact sk k99 rfl <| TC.region <| tv (bad rfl rfl) rfl <| tm rfl <| nl <| gk hp [1] ⟨_, ovr_eq _ _ rfl, rfl⟩
        · exact TC.exit <| jn [0] (J93 (ex_ret hp hx29))
 by_cases hc6 : a4 < 0
 · exact gn rfl (bT hc6) rfl rfl <| gn rfl (bT hc6) rfl rfl <| gn rfl (bT hc6) rfl rfl <| gn rfl (bT hc6) rfl rfl <| gn rfl (bT hc6) rfl rfl <| tv (pT (bT hc6)) rfl <| nj J5 (bOt hc6)
 · exact gy rfl (bF hc6) <| tm rfl <| gy rfl (bF hc6) <| tv (fa f24_0 rfl) rfl <| gy rfl (bF hc6) <| tv (lb s22 0 rfl rfl rfl) rfl <| gy rfl (bF hc6) <| tv (ln u22 h3 rfl) rfl <| gy rfl (bF hc6) <| tv (bge rfl rfl) rfl <| tv (pF (bF hc6)) rfl <| nj J5 (bOf hc6)

/-! ### fettle/check.Module -/
abbrev check_Module.R (r : GErr) (v : Value) (A : List FP) : Prop := ∃ (w1 : Value) (G1 : FP), w1 = v ∧ A = [G1] ∧ ErO 73 60 65 r w1 G1
def check_Module.nx11  : Option GErr :=
  some GErr.no
def check_Module.bd11 (a1 : PModule) (x6 : Int) : Option (Ex (Ex GErr Unit) Int) :=
  if x6 < (len a1.funcs) then
    (check_Func a1 x6).bind fun x8 =>
    if ¬ x8 = GErr.no then
      some (.ret (.ret (GErr.spot x6 x8)))
    else
      some (.go (w64 (x6 + 1)))
  else
    some (.ret (.go ()))
def check_Module (a1 : PModule) : Option GErr :=
  if (len a1.funcs) > 32 then
    some (GErr.code 5)
  else
    (whl (fun (s : Int) => check_Module.bd11 a1 s) FUEL 0).bind fun z =>
    match z with
      | .ret r => some r
      | .go p => check_Module.nx11
theorem check_Module_ok {E : World} {H : FP} {w : World} {a1 : PModule} {v2 : Value} {r : GErr} (h3 : SlI kFunc H a1.funcs v2) (hp : check_Module a1 = some r) (hst : St E H [] w) :
    Fn Tryz.prog 12 #[.agg #[v2]] w fun v w' => ∃ A, check_Module.R r v A ∧ St E H A w' := by
 refine fb 27 [.tmp 2] Tryz.func12 rfl rfl rfl rfl rfl hst <| sr <| tb [v2] rfl rfl fun b4 => ta rfl <| nz <| TC.seq fun K1 k2 => sr <| tv (fa f24_0 rfl) rfl <| tv (lb s22 0 rfl rfl rfl) rfl <| tv (ln u22 h3 rfl) rfl <| tv (bgt rfl rfl) rfl <| nz <| cD rfl hp (fun hc3 hp => ?_) fun hc3 hp => ?_
 · exact sr <| tv (mI u73 rfl) rfl <| ta rfl <| nz <| TC.ret <| W.new0 <| rt hp [0] ⟨(.iface 73 (.int .i64 5)), ([] : FP), rfl, rfl, (ErO.mk _ : ErO 73 60 65 (GErr.code 5) (.iface 73 (.int .i64 5)) [])⟩
 · refine sk k2 rfl <| TC.seq fun K4 k5 => sr <| tv (fa f24_0 rfl) rfl <| tv (lb s22 0 rfl rfl rfl) rfl <| tv (ln u22 h3 rfl) rfl <| tm rfl <| nz <| TC.block <| bE hp fun z_7 hz8 hr9 => ?_
   have J13 {e12} (hq14 : .go () = z_7) : ∀ w, St E H [] w → K4 (ovr e12 []) w := by
    subst hq14
    replace hp : check_Module.nx11 = some r := hr9
    exact tg k5 <| sr <| ta rfl <| nz <| TC.ret <| W.new0 <| rt hp [0] ⟨.nilIface, ([] : FP), rfl, rfl, (ErO.nil : ErO 73 60 65 GErr.no .nilIface [])⟩
   refine lp hz8 [0] rfl (fun s e L => ∃ e6, e = ovr e6 [(1, .pointer (some ⟨b4, 0, none⟩)), (12, .int .i64 (len a1.funcs)), (13, .int .i64 s)] ∧ L = [bx b4 24 [v2]]) ⟨_, ovr_eq _ _ rfl, rfl⟩ ?_
   rintro x6 _ _ ⟨e6, rfl, rfl⟩ X10 hp hx11
   replace hp : check_Module.bd11 a1 x6 = some X10 := hp
   refine sr <| tv (blt rfl rfl) rfl <| nz <| TC.seq fun K15 k16 => cD rfl hp (fun hc17 hp => ?_) fun hc17 hp => ?_
   · refine sk k16 rfl <| TC.seq fun K18 k19 => TC.block <| sr <| tm rfl <| ta rfl <| nz <| sr <| tv (lA (ds := [v2]) ag_24 0 rfl rfl rfl rfl) rfl <| tm rfl <| bE hp fun x8 hy20 hp => tc 0 [_] rfl c25 (fun _ => check_Func_ok (a1 := a1) (a4 := x6) (h3.mono subH) hy20) rfl ?_
     rintro _ _ ⟨v9, F10, rfl, rfl, h11⟩
     refine ta rfl <| nz <| sr <| tm rfl <| tv (rv_neqEN ifc_29 h11 rfl) rfl <| nz <| cD rfl hp (fun hc22 hp => ?_) fun hc22 hp => ?_
     · refine sr <| tm rfl <| tm rfl <| tv (rv_bv (vs := [(0, .int .i64 x6), (1, v9)]) (ds := [.int .i64 x6, v9]) rfl (fun w => by rcases (h11).shp with rfl | ⟨_, _, rfl⟩ <;> kernel_rfl)) rfl <| tb [.int .i64 x6, v9] rfl rfl fun b12 => tv (mI u60 rfl) rfl <| tf 0 2 [_,_] rfl <| ta rfl <| nz <| TC.ret ?_
       obtain rfl := ex_ret hp hx11
       exact rt hr9 [0] ⟨(.iface 60 (.pointer (some ⟨b12, 0, none⟩))), (bx b12 65 [.int .i64 x6, v9] ++ (F10)), rfl, rfl, (ErO.at_ x6 b12 h11)⟩
     · exact sk k19 rfl <| TC.region <| tv (bad rfl rfl) rfl <| tm rfl <| nl <| gk hp [1] ⟨_, ovr_eq _ _ rfl, rfl⟩
   · exact TC.exit <| jn [] (J13 (ex_ret hp hx11))

/-! ### slices.Sort[[]int,int] -/


/-! ### slices.Compact[[]int,int] -/


/-! ### fettle/calls.Calls -/
abbrev calls_Calls.R (r : List (List Int)) (v : Value) (A : List FP) : Prop := ∃ (w1 : Value) (G1 : FP), w1 = v ∧ A = [G1] ∧ SlO 38 (kSl 3 (kInt .i64)) r w1 G1
def calls_Calls.nx9  (x13 : List (List Int)) : Option (List (List Int)) :=
  some x13
def calls_Calls.nx26 (x12 : Int) (x31 : List (List Int)) : Option (Ex (List (List Int)) (List (List Int) × Int)) :=
  (idx x31 x12).bind fun x34 =>
  (slices_Sort x34).bind fun x43 =>
  (slices_Compact x43).bind fun x47 =>
  some (.go ((x31.set (x12).toNat x47), (w64 (x12 + 1))))
def calls_Calls.nx48 (x30 : Int) (x73 : List (List Int)) : Option (Ex (List (List Int)) (List (List Int) × Int)) :=
  some (.go (x73, (w64 (x30 + 1))))
def calls_Calls.jn58 (x72 : Int) (x76 : List (List Int)) : Option (Ex (List (List Int)) (List (List Int) × Int)) :=
  some (.go (x76, (w64 (x72 + 1))))
def calls_Calls.bd48 (x12 : Int) (x56 : PBlock) (x69 : List (List Int)) (x72 : Int) : Option (Ex (List (List Int)) (List (List Int) × Int)) :=
  if x72 < (len x56.ins) then
    (idx x56.ins x72).bind fun x79 =>
    if (x79.op = 17 ∧ x79.fn ≥ 0) ∧ x79.fn < (len x69) then
      (idx x69 x12).bind fun x1689 =>
      (cat x1689 [x79.fn]).bind fun x3689 =>
      calls_Calls.jn58 x72 (x69.set (x12).toNat x3689)
    else
      calls_Calls.jn58 x72 x69
  else
    some (.ret x69)
def calls_Calls.bd26 (x12 : Int) (x16 : PFunc) (x27 : List (List Int)) (x30 : Int) : Option (Ex (List (List Int)) (List (List Int) × Int)) :=
  if x30 < (len x16.blocks) then
    (idx x16.blocks x30).bind fun x56 =>
    (whl (fun (s : (List (List Int) × Int)) => calls_Calls.bd48 x12 x56 s.1 s.2) FUEL (x27, 0)).bind fun z =>
    calls_Calls.nx48 x30 z
  else
    some (.ret x27)
def calls_Calls.bd9 (a1 : PModule) (x9 : List (List Int)) (x12 : Int) : Option (Ex (List (List Int)) (List (List Int) × Int)) :=
  if x12 < (len a1.funcs) then
    (idx a1.funcs x12).bind fun x16 =>
    (whl (fun (s : (List (List Int) × Int)) => calls_Calls.bd26 x12 x16 s.1 s.2) FUEL (x9, 0)).bind fun z =>
    calls_Calls.nx26 x12 z
  else
    some (.ret x9)
def calls_Calls (a1 : PModule) : Option (List (List Int)) :=
  (mkl (len a1.funcs) ([] : List Int)).bind fun x5 =>
  (whl (fun (s : (List (List Int) × Int)) => calls_Calls.bd9 a1 s.1 s.2) FUEL (x5, 0)).bind fun z =>
  calls_Calls.nx9 z
set_option maxHeartbeats 4000000 in
theorem calls_Calls_ok {E : World} {H : FP} {w : World} {a1 : PModule} {v2 : Value} {r : List (List Int)} (h3 : SlI kFunc H a1.funcs v2) (hp : calls_Calls a1 = some r) (hst : St E H [] w) :
    Fn Tryz.prog 13 #[.agg #[v2]] w fun v w' => ∃ A, calls_Calls.R r v A ∧ St E H A w' := by
 refine fb 79 [.tmp 2] Tryz.func13 rfl rfl rfl rfl rfl hst <| sr <| tb [v2] rfl rfl fun b4 => ta rfl <| nz <| sr <| tv (fa f24_0 rfl) rfl <| tv (lb s22 0 rfl rfl rfl) rfl <| tv (ln u22 h3 rfl) rfl <| tk (k := (kSl 3 (kInt .i64))) u54 i38 hp ⟨_, rfl, SlO.nil 3⟩ rfl rfl rfl rfl rfl rfl fun x5 v6 F7 h8 hp => ta rfl <| nz <| TC.seq fun K2 k3 => sr <| tv (fa f24_0 rfl) rfl <| tv (lb s22 1 rfl rfl rfl) rfl <| tv (ln u22 h3 rfl) rfl <| tm rfl <| nz <| TC.block <| bE hp fun z_5 hz6 hr7 => ?_
 have J11 {x13 F14 e10} (h15 : SlO 38 (kSl 3 (kInt .i64)) x13 v6 F14) (hq12 : x13 = z_5) : ∀ w, St E H [F14] w → K2 (ovr e10 [(3, v6)]) w := by
  subst hq12
  replace hp : calls_Calls.nx9 x13 = some r := hr7
  exact tg k3 <| sr <| tm rfl <| ta rfl <| nz <| TC.ret <| rt hp [0] ⟨v6, F14, rfl, rfl, h15⟩
 refine lp hz6 [0] rfl (fun s e L => ∃ x9 x12 F10 e4, s = (x9, x12) ∧ SlO 38 (kSl 3 (kInt .i64)) x9 v6 F10 ∧ e = ovr e4 [(3, v6), (15, v2), (16, .int .i64 (len a1.funcs)), (17, .int .i64 x12)] ∧ L = [F10]) ⟨_, _, F7, _, rfl, h8, ovr_eq _ _ rfl, rfl⟩ ?_
 rintro _ _ _ ⟨x9, x12, F10, e4, rfl, h11, rfl, rfl⟩ X8 hp hx9
 replace hp : calls_Calls.bd9 a1 x9 x12 = some X8 := hp
 refine sr <| tv (blt rfl rfl) rfl <| nz <| TC.seq fun K13 k14 => cD rfl hp (fun hc15 hp => ?_) fun hc15 hp => ?_
 · refine sk k14 rfl <| TC.seq fun K16 k17 => TC.block <| sr <| tm rfl <| ti u22 i47 h3 hp rfl rfl rfl rfl ?_
   rintro x16 b17 o18 _ hp ⟨v22, v24, rfl, h23, h25⟩ h21
   refine tv (lR (ds := [.int .i64 x16.params, .int .i64 x16.result, v22, v24]) ag_47 sH h21 0 rfl rfl rfl) rfl <| tl i47 rfl fun b26 => ta rfl <| tS 0 m47 rfl rfl [.int .i64 x16.params, .int .i64 x16.result, v22, v24] rfl (oc rfl (oc rfl (oc (h23).one (oc (h25).one oc0)))) rfl rfl <| nz <| TC.seq fun K19 k20 => sr <| tv (fa f47_3 rfl) rfl <| tv (lb s45 0 rfl rfl rfl) rfl <| tv (ln u45 h25 rfl) rfl <| tm rfl <| nz <| TC.block <| bE hp fun z_22 hz23 hr24 => ?_
   have J35 {x31 F32 e27} (h33 : SlO 38 (kSl 3 (kInt .i64)) x31 v6 F32) (hq36 : x31 = z_22) : ∀ w, St E H [F32] w → K19 (ovr e27 [(3, v6), (4, .int .i64 x12), (15, v2), (16, .int .i64 (len a1.funcs)), (17, .int .i64 x12)]) w := by
    subst hq36
    replace hp : calls_Calls.nx26 x12 x31 = some X8 := hr24
    refine tg k20 <| sr <| tm rfl <| tm rfl <| bE hp fun x34 hx28 hp => TL.open_ h33 hx28 ?_
    rintro b35 _ F37 F38 h39 ⟨v41, rfl, h42⟩
    refine tv (rv_ixH u54 i38 rfl rfl (idx_some hx28).1 h39) rfl <| tv (lr s38 (Src.at_ 0 rfl) (Hole.cells h39) 0 rfl rfl) rfl <| tp [1, 0] [_,_] rfl rfl <| bE hp fun x43 hy29 hp => tc 1 [_] rfl c26 (fun _ => slices_Sort_ok (a1 := x34) h42 hy29) rfl ?_
    rintro _ _ ⟨F44, rfl, rfl, h45⟩
    refine nz <| TC.region <| tm rfl <| tm rfl <| tm rfl <| tm rfl <| tv (rv_ixH u54 i38 rfl rfl (idx_some hx28).1 h39) rfl <| tv (lr s38 (Src.at_ 1 rfl) (Hole.cells h39) 0 rfl rfl) rfl <| bE hp fun x47 hy32 hp => tc 1 [_] rfl c27 (fun _ => slices_Compact_ok (a1 := x43) h45 hy32) rfl ?_
    rintro _ _ ⟨v48, F49, rfl, rfl, h50⟩
    exact tv (rv_ixH u54 i38 rfl rfl (idx_some hx28).1 h39) rfl <| tp [1, 0] [_,_] rfl rfl <| tsH h39 m38 0 rfl h50.o1 rfl fun F52 h53 => nl <| tg k17 <| TC.region <| tv (bad rfl rfl) rfl <| tm rfl <| nl <| W.shut (a := x47) h53 ⟨_, rfl, h50⟩ fun F54 h55 => gk hp [0] ⟨_, _, F54, _, rfl, h55, ovr_eq _ _ rfl, rfl⟩
   refine lp hz23 [1] rfl (fun s e L => ∃ x27 x30 F28 e21, s = (x27, x30) ∧ SlO 38 (kSl 3 (kInt .i64)) x27 v6 F28 ∧ e = ovr e21 [(3, v6), (4, .int .i64 x12), (15, v2), (16, .int .i64 (len a1.funcs)), (17, .int .i64 x12), (23, v24), (24, .int .i64 (len x16.blocks)), (25, .int .i64 x30)] ∧ L = [F28]) ⟨_, _, F10, _, rfl, h11, ovr_eq _ _ rfl, rfl⟩ ?_
   rintro _ _ _ ⟨x27, x30, F28, e21, rfl, h29, rfl, rfl⟩ X25 hp hx26
   replace hp : calls_Calls.bd26 x12 x16 x27 x30 = some X25 := hp
   refine sr <| tv (blt rfl rfl) rfl <| nz <| TC.seq fun K37 k38 => cD rfl hp (fun hc39 hp => ?_) fun hc39 hp => ?_
   · refine sk k38 rfl <| TC.seq fun K40 k41 => TC.block <| sr <| ti u45 i44 h25 hp rfl rfl rfl rfl ?_
     rintro x56 b57 o58 _ hp ⟨v62, v64, v66, rfl, h63, h65, h67⟩ h61
     refine tv (lR (ds := [v62, v64, .int .i64 x56.term.kind, .int .i64 x56.term.arg, v66]) ag_44 sH h61 0 rfl rfl rfl) rfl <| tl i44 rfl fun b68 => tS 0 m44 rfl rfl [v62, v64, .int .i64 x56.term.kind, .int .i64 x56.term.arg, v66] rfl (oc (h63).one (oc (h65).one (oc rfl (oc rfl (oc (h67).one oc0))))) rfl rfl <| nz <| sr <| tv (fa f44_1 rfl) rfl <| tv (lb s42 0 rfl rfl rfl) rfl <| tv (ln u42 h65 rfl) rfl <| tm rfl <| nz <| TC.block <| bE hp fun z_44 hz45 hr46 => ?_
     have J50 {x73 F74 e49} (h75 : SlO 38 (kSl 3 (kInt .i64)) x73 v6 F74) (hq51 : x73 = z_44) : ∀ w, St E H [F74] w → K40 (ovr e49 [(3, v6), (4, .int .i64 x12), (15, v2), (16, .int .i64 (len a1.funcs)), (17, .int .i64 x12), (23, v24), (24, .int .i64 (len x16.blocks)), (25, .int .i64 x30)]) w := by
      subst hq51
      replace hp : calls_Calls.nx48 x30 x73 = some X25 := hr46
      exact tg k41 <| TC.region <| tv (bad rfl rfl) rfl <| tm rfl <| nl <| gk hp [0] ⟨_, _, F74, _, rfl, h75, ovr_eq _ _ rfl, rfl⟩
     refine lp hz45 [1] rfl (fun s e L => ∃ x69 x72 F70 e43, s = (x69, x72) ∧ SlO 38 (kSl 3 (kInt .i64)) x69 v6 F70 ∧ e = ovr e43 [(3, v6), (4, .int .i64 x12), (15, v2), (16, .int .i64 (len a1.funcs)), (17, .int .i64 x12), (23, v24), (24, .int .i64 (len x16.blocks)), (25, .int .i64 x30), (30, v64), (31, .int .i64 (len x56.ins)), (32, .int .i64 x72)] ∧ L = [F70]) ⟨_, _, F28, _, rfl, h29, ovr_eq _ _ rfl, rfl⟩ ?_
     rintro _ _ _ ⟨x69, x72, F70, e43, rfl, h71, rfl, rfl⟩ X47 hp hx48
     replace hp : calls_Calls.bd48 x12 x56 x69 x72 = some X47 := hp
     refine sr <| tv (blt rfl rfl) rfl <| nz <| TC.seq fun K52 k53 => cD rfl hp (fun hc54 hp => ?_) fun hc54 hp => ?_
     · refine sk k53 rfl <| TC.seq fun K55 k56 => ?_
       have J58 {x76 F77 e57} (h78 : SlO 38 (kSl 3 (kInt .i64)) x76 v6 F77) (hp : calls_Calls.jn58 x72 x76 = some X47) : ∀ w, St E H [F77] w → K55 (ovr e57 [(3, v6), (4, .int .i64 x12), (15, v2), (16, .int .i64 (len a1.funcs)), (17, .int .i64 x12), (23, v24), (24, .int .i64 (len x16.blocks)), (25, .int .i64 x30), (30, v64), (31, .int .i64 (len x56.ins)), (32, .int .i64 x72)]) w := by
        exact tg k56 <| TC.region <| tv (bad rfl rfl) rfl <| tm rfl <| nl <| gk hp [0] ⟨_, _, F77, _, rfl, h78, ovr_eq _ _ rfl, rfl⟩
       refine TC.block <| sr <| ti u42 i50 h65 hp rfl rfl rfl rfl ?_
       rintro x79 b80 o81 _ hp ⟨v85, rfl, h86⟩ h84
       refine tv (lR (ds := [.int .i64 x79.op, .int .i64 x79.dst, v85, .int .i64 x79.imm, .int .i64 x79.fn]) ag_50 sH h84 0 rfl rfl rfl) rfl <| tl i50 rfl fun b87 => tS 0 m50 rfl rfl [.int .i64 x79.op, .int .i64 x79.dst, v85, .int .i64 x79.imm, .int .i64 x79.fn] rfl (oc rfl (oc rfl (oc (h86).one (oc rfl (oc rfl oc0))))) rfl rfl <| nz <| sr <| tv (fa f50_0 rfl) rfl <| tv (lb s3 0 rfl rfl rfl) rfl <| tv (beq rfl rfl) rfl <| tm rfl <| TL.cut 4 fun K60 k61 => ?_
       have J62 {e64} : ∀ w, St E H [bx b87 50 [.int .i64 x79.op, .int .i64 x79.dst, v85, .int .i64 x79.imm, .int .i64 x79.fn], F70] w → K60 (ovr e64 [(43, .bool (decide (x79.op = 17 ∧ x79.fn ≥ 0))), (3, v6), (4, .int .i64 x12), (9, .pointer (some ⟨b87, 0, none⟩)), (15, v2), (16, .int .i64 (len a1.funcs)), (17, .int .i64 x12), (23, v24), (24, .int .i64 (len x16.blocks)), (25, .int .i64 x30), (30, v64), (31, .int .i64 (len x56.ins)), (32, .int .i64 x72)]) w := by
        refine tlg k61 <| tm rfl <| TL.cut 6 fun K65 k66 => ?_
        have J67 {e69} : ∀ w, St E H [bx b87 50 [.int .i64 x79.op, .int .i64 x79.dst, v85, .int .i64 x79.imm, .int .i64 x79.fn], F70] w → K65 (ovr e69 [(50, .bool (decide ((x79.op = 17 ∧ x79.fn ≥ 0) ∧ x79.fn < (len x69)))), (3, v6), (4, .int .i64 x12), (9, .pointer (some ⟨b87, 0, none⟩)), (15, v2), (16, .int .i64 (len a1.funcs)), (17, .int .i64 x12), (23, v24), (24, .int .i64 (len x16.blocks)), (25, .int .i64 x30), (30, v64), (31, .int .i64 (len x56.ins)), (32, .int .i64 x72)]) w := by
         refine tlg k66 <| nz <| cD rfl hp (fun hc70 hp => ?_) fun hc70 hp => ?_
         · refine ch mix [bx b87 50 [.int .i64 x79.op, .int .i64 x79.dst, v85, .int .i64 x79.imm, .int .i64 x79.fn]] (srcG 0 rfl srcG0) <| hv 0 rfl mv (by kernel_rfl) rfl <| hv 1 rfl mv (by kernel_rfl) rfl <| hv 2 rfl mv (by kernel_rfl) rfl <| hv 3 rfl mv (by kernel_rfl) rfl <| hv 6 rfl (fa f50_4 rfl) (by kernel_rfl) rfl <| hv 7 rfl (lbG s3 0 rfl rfl rfl) (by kernel_rfl) rfl <| HL.all [4, 8] (by kernel_rfl) (by simp) (HL.al ⟨_, rfl, fun K71 k72 => ?_⟩ (HL.al ⟨_, rfl, fun K94 k95 => ?_⟩ HL.al0))
           · refine tp [1, 0] [_,_] rfl rfl <| bE hp fun x1689 hx73 hp => TL.open_ h71 hx73 ?_
             rintro b1690 _ F1692 F1693 h1694 ⟨v1696, rfl, h1697⟩
             refine tv (rv_ixH u54 i38 rfl rfl (idx_some hx73).1 h1694) rfl <| hk k72 (srcG 2 rfl srcG0) <| HL.all [5, 8] (by kernel_rfl) (by simp) (HL.al ⟨_, rfl, fun K74 k75 => ?_⟩ (HL.al ⟨_, rfl, fun K84 k85 => ?_⟩ HL.al0))
             · exact tv (lr s38 (Src.at_ 0 rfl) (Hole.cells h1694) 0 rfl rfl) rfl <| hk k75 (srcG 2 rfl srcG0) <| ho 8 rfl (by kernel_rfl) fun K76 k77 => tbs [(0, .int .i64 x79.fn)] [.int .i64 x79.fn] u38 i3 (by kernel_rfl) rfl rfl rfl rfl fun b3289 => hk k77 (srcG 3 rfl srcG0) <| ho 9 rfl (by kernel_rfl) fun K78 k79 => tp [2, 0, 1, 3] [_,_,_,_] rfl rfl <| tf 2 0 [_,_,_,_,_] rfl <| tp2 u38 i3 h1697 hp (RepL.to (RepL.cons (k := (kInt .i64)) (x := x79.fn) ⟨rfl, rfl⟩ RepL.nil) rfl) rfl rfl rfl rfl rfl rfl rfl rfl rfl fun x3689 v3690 F3691 h3692 hp => hk k79 (srcG 2 rfl srcG0) <| hv 10 rfl (rv_ixH u54 i38 rfl rfl (idx_some hx73).1 h1694) (by kernel_rfl) rfl <| ho 11 rfl (by kernel_rfl) fun K82 k83 => tp [1, 0, 2] [_,_,_] rfl rfl <| tsH h1694 m38 0 rfl h3692.o1 rfl fun F4489 h4490 => hk k83 (srcG 2 rfl srcG0) <| hz (by kernel_rfl) <| W.shut (a := x3689) h4490 ⟨_, rfl, h3692⟩ fun F4889 h4890 => jn [0] (J58 h4890 hp)
             · exact tbs [(0, .int .i64 x79.fn)] [.int .i64 x79.fn] u38 i3 (by kernel_rfl) rfl rfl rfl rfl fun b3289 => hk k85 (srcG 3 rfl srcG0) <| ho 5 rfl (by kernel_rfl) fun K86 k87 => tv (lr s38 (Src.at_ 1 rfl) (Hole.cells h1694) 0 rfl rfl) rfl <| hk k87 (srcG 3 rfl srcG0) <| ho 9 rfl (by kernel_rfl) fun K88 k89 => tp [2, 0, 1, 3] [_,_,_,_] rfl rfl <| tf 2 0 [_,_,_,_,_] rfl <| tp2 u38 i3 h1697 hp (RepL.to (RepL.cons (k := (kInt .i64)) (x := x79.fn) ⟨rfl, rfl⟩ RepL.nil) rfl) rfl rfl rfl rfl rfl rfl rfl rfl rfl fun x3689 v3690 F3691 h3692 hp => hk k89 (srcG 2 rfl srcG0) <| hv 10 rfl (rv_ixH u54 i38 rfl rfl (idx_some hx73).1 h1694) (by kernel_rfl) rfl <| ho 11 rfl (by kernel_rfl) fun K92 k93 => tp [1, 0, 2] [_,_,_] rfl rfl <| tsH h1694 m38 0 rfl h3692.o1 rfl fun F4489 h4490 => hk k93 (srcG 2 rfl srcG0) <| hz (by kernel_rfl) <| W.shut (a := x3689) h4490 ⟨_, rfl, h3692⟩ fun F4889 h4890 => jn [0] (J58 h4890 hp)
           · refine tbs [(0, .int .i64 x79.fn)] [.int .i64 x79.fn] u38 i3 (by kernel_rfl) rfl rfl rfl rfl fun b3289 => hk k95 (srcG 1 rfl srcG0) <| ho 4 rfl (by kernel_rfl) fun K96 k97 => tp [2, 0, 1] [_,_,_] rfl rfl <| bE hp fun x1689 hx98 hp => TL.open_ h71 hx98 ?_
             rintro b1690 _ F1692 F1693 h1694 ⟨v1696, rfl, h1697⟩
             exact tv (rv_ixH u54 i38 rfl rfl (idx_some hx98).1 h1694) rfl <| hk k97 (srcG 3 rfl srcG0) <| ho 5 rfl (by kernel_rfl) fun K99 k100 => tv (lr s38 (Src.at_ 0 rfl) (Hole.cells h1694) 0 rfl rfl) rfl <| hk k100 (srcG 3 rfl srcG0) <| ho 9 rfl (by kernel_rfl) fun K101 k102 => tp [1, 2, 0, 3] [_,_,_,_] rfl rfl <| tf 2 0 [_,_,_,_,_] rfl <| tp2 u38 i3 h1697 hp (RepL.to (RepL.cons (k := (kInt .i64)) (x := x79.fn) ⟨rfl, rfl⟩ RepL.nil) rfl) rfl rfl rfl rfl rfl rfl rfl rfl rfl fun x3689 v3690 F3691 h3692 hp => hk k102 (srcG 2 rfl srcG0) <| hv 10 rfl (rv_ixH u54 i38 rfl rfl (idx_some hx98).1 h1694) (by kernel_rfl) rfl <| ho 11 rfl (by kernel_rfl) fun K105 k106 => tp [1, 0, 2] [_,_,_] rfl rfl <| tsH h1694 m38 0 rfl h3692.o1 rfl fun F4489 h4490 => hk k106 (srcG 2 rfl srcG0) <| hz (by kernel_rfl) <| W.shut (a := x3689) h4490 ⟨_, rfl, h3692⟩ fun F4889 h4890 => jn [0] (J58 h4890 hp)
         · exact TC.skip <| jn [1] (J58 h71 hp)
        by_cases hc68 : x79.op = 17 ∧ x79.fn ≥ 0
        · exact gy rfl (bT hc68) <| tv (fa f50_4 rfl) rfl <| gy rfl (bT hc68) <| tv (lb s3 0 rfl rfl rfl) rfl <| gy rfl (bT hc68) <| tm rfl <| gy rfl (bT hc68) <| tv (ln u54 h71.ro rfl) rfl <| gy rfl (bT hc68) <| tv (blt rfl rfl) rfl <| tv (pT (bT hc68)) rfl <| nj J67 (bAt hc68)
        · exact gn rfl (bF hc68) rfl rfl <| gn rfl (bF hc68) rfl rfl <| gn rfl (bF hc68) rfl rfl <| gn rfl (bF hc68) rfl rfl <| gn rfl (bF hc68) rfl rfl <| tv (pF (bF hc68)) rfl <| nj J67 (bAf hc68)
       by_cases hc63 : x79.op = 17
       · exact gy rfl (bT hc63) <| tv (fa f50_4 rfl) rfl <| gy rfl (bT hc63) <| tv (lb s3 0 rfl rfl rfl) rfl <| gy rfl (bT hc63) <| tv (bge rfl rfl) rfl <| tv (pT (bT hc63)) rfl <| nj J62 (bAt hc63)
       · exact gn rfl (bF hc63) rfl rfl <| gn rfl (bF hc63) rfl rfl <| gn rfl (bF hc63) rfl rfl <| tv (pF (bF hc63)) rfl <| nj J62 (bAf hc63)
     · exact TC.exit <| jn [0] (J50 h71 (ex_ret hp hx48))
   · exact TC.exit <| jn [0] (J35 h29 (ex_ret hp hx26))
 · exact TC.exit <| jn [0] (J11 h11 (ex_ret hp hx9))

/-! ### fettle/graph.Next -/
abbrev graph_Next.R (r : List (List Int)) (v : Value) (A : List FP) : Prop := ∃ (w1 : Value) (G1 : FP), w1 = v ∧ A = [G1] ∧ SlO 38 (kSl 3 (kInt .i64)) r w1 G1
def graph_Next.nx9  (x15 : List (List Int)) : Option (List (List Int)) :=
  some x15
def graph_Next.nx24 (x14 : Int) (x35 : List (List Int)) : Option (Ex (List (List Int)) (List (List Int) × Int)) :=
  some (.go (x35, (w64 (x14 + 1))))
def graph_Next.jn34 (x34 : Int) (x38 : List (List Int)) : Option (Ex (List (List Int)) (List (List Int) × Int)) :=
  some (.go (x38, (w64 (x34 + 1))))
def graph_Next.bd24 (x14 : Int) (x18 : PBlock) (x31 : List (List Int)) (x34 : Int) : Option (Ex (List (List Int)) (List (List Int) × Int)) :=
  if x34 < (len x18.term.to) then
    (idx x18.term.to x34).bind fun x41 =>
    (if x41 ≥ 0 ∧ x41 < (len x31) then (idx x31 x14).bind fun x67 =>
    (slices_Contains x67 x41).bind fun x75 =>
    some (!x75) else some false).bind fun t47 =>
    if t47 = true then
      (idx x31 x14).bind fun x48 =>
      (cat x48 [x41]).bind fun x58 =>
      graph_Next.jn34 x34 (x31.set (x14).toNat x58)
    else
      graph_Next.jn34 x34 x31
  else
    some (.ret x31)
def graph_Next.bd9 (a1 : PFunc) (x11 : List (List Int)) (x14 : Int) : Option (Ex (List (List Int)) (List (List Int) × Int)) :=
  if x14 < (len a1.blocks) then
    (idx a1.blocks x14).bind fun x18 =>
    (whl (fun (s : (List (List Int) × Int)) => graph_Next.bd24 x14 x18 s.1 s.2) FUEL (x11, 0)).bind fun z =>
    graph_Next.nx24 x14 z
  else
    some (.ret x11)
def graph_Next (a1 : PFunc) : Option (List (List Int)) :=
  (mkl (len a1.blocks) ([] : List Int)).bind fun x7 =>
  (whl (fun (s : (List (List Int) × Int)) => graph_Next.bd9 a1 s.1 s.2) FUEL (x7, 0)).bind fun z =>
  graph_Next.nx9 z
set_option maxHeartbeats 4000000 in
theorem graph_Next_ok {E : World} {H : FP} {w : World} {a1 : PFunc} {v2 : Value} {v4 : Value} {r : List (List Int)} (h3 : SlI (kInt .i64) H a1.regs v2) (h5 : SlI kBlock H a1.blocks v4) (hp : graph_Next a1 = some r) (hst : St E H [] w) :
    Fn Tryz.prog 54 #[.agg #[.int .i64 a1.params, .int .i64 a1.result, v2, v4]] w fun v w' => ∃ A, graph_Next.R r v A ∧ St E H A w' := by
 refine fb 58 [.tmp 2] Tryz.func54 rfl rfl rfl rfl rfl hst <| sr <| tb [.int .i64 a1.params, .int .i64 a1.result, v2, v4] rfl rfl fun b6 => ta rfl <| nz <| sr <| tv (fa f47_3 rfl) rfl <| tv (lb s45 0 rfl rfl rfl) rfl <| tv (ln u45 h5 rfl) rfl <| tk (k := (kSl 3 (kInt .i64))) u54 i38 hp ⟨_, rfl, SlO.nil 3⟩ rfl rfl rfl rfl rfl rfl fun x7 v8 F9 h10 hp => ta rfl <| nz <| TC.seq fun K2 k3 => sr <| tv (fa f47_3 rfl) rfl <| tv (lb s45 1 rfl rfl rfl) rfl <| tv (ln u45 h5 rfl) rfl <| tm rfl <| nz <| TC.block <| bE hp fun z_5 hz6 hr7 => ?_
 have J11 {x15 F16 e10} (h17 : SlO 38 (kSl 3 (kInt .i64)) x15 v8 F16) (hq12 : x15 = z_5) : ∀ w, St E H [F16] w → K2 (ovr e10 [(3, v8)]) w := by
  subst hq12
  replace hp : graph_Next.nx9 x15 = some r := hr7
  exact tg k3 <| sr <| tm rfl <| ta rfl <| nz <| TC.ret <| rt hp [0] ⟨v8, F16, rfl, rfl, h17⟩
 refine lp hz6 [0] rfl (fun s e L => ∃ x11 x14 F12 e4, s = (x11, x14) ∧ SlO 38 (kSl 3 (kInt .i64)) x11 v8 F12 ∧ e = ovr e4 [(3, v8), (13, v4), (14, .int .i64 (len a1.blocks)), (15, .int .i64 x14)] ∧ L = [F12]) ⟨_, _, F9, _, rfl, h10, ovr_eq _ _ rfl, rfl⟩ ?_
 rintro _ _ _ ⟨x11, x14, F12, e4, rfl, h13, rfl, rfl⟩ X8 hp hx9
 replace hp : graph_Next.bd9 a1 x11 x14 = some X8 := hp
 refine sr <| tv (blt rfl rfl) rfl <| nz <| TC.seq fun K13 k14 => cD rfl hp (fun hc15 hp => ?_) fun hc15 hp => ?_
 · refine sk k14 rfl <| TC.seq fun K16 k17 => TC.block <| sr <| tm rfl <| ti u45 i44 h5 hp rfl rfl rfl rfl ?_
   rintro x18 b19 o20 _ hp ⟨v24, v26, v28, rfl, h25, h27, h29⟩ h23
   refine tv (lR (ds := [v24, v26, .int .i64 x18.term.kind, .int .i64 x18.term.arg, v28]) ag_44 sH h23 0 rfl rfl rfl) rfl <| tl i44 rfl fun b30 => ta rfl <| tS 0 m44 rfl rfl [v24, v26, .int .i64 x18.term.kind, .int .i64 x18.term.arg, v28] rfl (oc (h25).one (oc (h27).one (oc rfl (oc rfl (oc (h29).one oc0))))) rfl rfl <| nz <| sr <| tv (fa f44_2 rfl) rfl <| tv (fa f40_2 rfl) rfl <| tv (lb s38 0 rfl rfl rfl) rfl <| tv (ln u38 h29 rfl) rfl <| tm rfl <| nz <| TC.block <| bE hp fun z_20 hz21 hr22 => ?_
   have J26 {x35 F36 e25} (h37 : SlO 38 (kSl 3 (kInt .i64)) x35 v8 F36) (hq27 : x35 = z_20) : ∀ w, St E H [F36] w → K16 (ovr e25 [(3, v8), (13, v4), (14, .int .i64 (len a1.blocks)), (15, .int .i64 x14)]) w := by
    subst hq27
    replace hp : graph_Next.nx24 x14 x35 = some X8 := hr22
    exact tg k17 <| TC.region <| tv (bad rfl rfl) rfl <| tm rfl <| nl <| gk hp [0] ⟨_, _, F36, _, rfl, h37, ovr_eq _ _ rfl, rfl⟩
   refine lp hz21 [1] rfl (fun s e L => ∃ x31 x34 F32 e19, s = (x31, x34) ∧ SlO 38 (kSl 3 (kInt .i64)) x31 v8 F32 ∧ e = ovr e19 [(3, v8), (4, .int .i64 x14), (13, v4), (14, .int .i64 (len a1.blocks)), (15, .int .i64 x14), (22, v28), (23, .int .i64 (len x18.term.to)), (24, .int .i64 x34)] ∧ L = [F32]) ⟨_, _, F12, _, rfl, h13, ovr_eq _ _ rfl, rfl⟩ ?_
   rintro _ _ _ ⟨x31, x34, F32, e19, rfl, h33, rfl, rfl⟩ X23 hp hx24
   replace hp : graph_Next.bd24 x14 x18 x31 x34 = some X23 := hp
   refine sr <| tv (blt rfl rfl) rfl <| nz <| TC.seq fun K28 k29 => cD rfl hp (fun hc30 hp => ?_) fun hc30 hp => ?_
   · refine sk k29 rfl <| TC.seq fun K31 k32 => ?_
     have J34 {x38 F39 e33} (h40 : SlO 38 (kSl 3 (kInt .i64)) x38 v8 F39) (hp : graph_Next.jn34 x34 x38 = some X23) : ∀ w, St E H [F39] w → K31 (ovr e33 [(3, v8), (4, .int .i64 x14), (13, v4), (14, .int .i64 (len a1.blocks)), (15, .int .i64 x14), (22, v28), (23, .int .i64 (len x18.term.to)), (24, .int .i64 x34)]) w := by
      exact tg k32 <| TC.region <| tv (bad rfl rfl) rfl <| tm rfl <| nl <| gk hp [0] ⟨_, _, F39, _, rfl, h40, ovr_eq _ _ rfl, rfl⟩
     refine TC.block <| sr <| ti u38 i3 h29 hp rfl rfl rfl rfl ?_
     rintro x41 b42 o43 _ hp rfl h46
     refine tv (lr s3 sH h46 0 rfl rfl) rfl <| ta rfl <| nz <| sr <| tm rfl <| tv (bge rfl rfl) rfl <| tm rfl <| TL.cut 5 fun K36 k37 => ?_
     have J38 {e40} : ∀ w, St E H [F32] w → K36 (ovr e40 [(35, .bool (decide (x41 ≥ 0 ∧ x41 < (len x31)))), (3, v8), (4, .int .i64 x14), (7, .int .i64 x41), (13, v4), (14, .int .i64 (len a1.blocks)), (15, .int .i64 x14), (22, v28), (23, .int .i64 (len x18.term.to)), (24, .int .i64 x34)]) w := by
      refine tlg k37 <| tm rfl <| bE hp fun t47 ht50 hp => TL.cut 8 fun K41 k42 => ?_
      have J43 {e45} : ∀ w, St E H [F32] w → K41 (ovr e45 [(44, .bool t47), (3, v8), (4, .int .i64 x14), (7, .int .i64 x41), (13, v4), (14, .int .i64 (len a1.blocks)), (15, .int .i64 x14), (22, v28), (23, .int .i64 (len x18.term.to)), (24, .int .i64 x34)]) w := by
       refine tlg k42 <| nz <| cB rfl hp (fun hc46 hp => ?_) fun hc46 hp => ?_
       · refine TC.region <| tm rfl <| tm rfl <| tm rfl <| tm rfl <| bE hp fun x48 hx47 hp => TL.open_ h33 hx47 ?_
         rintro b49 _ F51 F52 h53 ⟨v55, rfl, h56⟩
         exact tv (rv_ixH u54 i38 rfl rfl (idx_some hx47).1 h53) rfl <| tv (lr s38 (Src.at_ 0 rfl) (Hole.cells h53) 0 rfl rfl) rfl <| tm rfl <| tbs [(0, .int .i64 x41)] [.int .i64 x41] u38 i3 (by kernel_rfl) rfl rfl rfl rfl fun b57 => tp [2, 0, 1] [_,_,_] rfl rfl <| tf 2 0 [_,_,_,_] rfl <| tp2 u38 i3 h56 hp (RepL.to (RepL.cons (k := (kInt .i64)) (x := x41) ⟨rfl, rfl⟩ RepL.nil) rfl) rfl rfl rfl rfl rfl rfl rfl rfl rfl fun x58 v59 F60 h61 hp => tv (rv_ixH u54 i38 rfl rfl (idx_some hx47).1 h53) rfl <| tp [1, 0] [_,_] rfl rfl <| tsH h53 m38 0 rfl h61.o1 rfl fun F63 h64 => nl <| W.shut (a := x58) h64 ⟨_, rfl, h61⟩ fun F65 h66 => jn [0] (J34 h66 hp)
       · exact TC.skip <| jn [0] (J34 h33 hp)
      refine ifE ht50 (fun hc44 hp => ?_) fun hc44 hp => ?_
      · refine gy rfl (bT hc44) <| tm rfl <| gy rfl (bT hc44) <| tm rfl <| gy rfl (bT hc44) <| ti u54 i38 (h33).ro hp rfl rfl rfl rfl ?_
        rintro x67 b68 o69 _ hp ⟨v73, rfl, h74⟩ h72
        refine gy rfl (bT hc44) <| tv (lr s38 (Src.at_ 0 rfl) h72 0 rfl rfl) rfl <| gy rfl (bT hc44) <| tm rfl <| gy rfl (bT hc44) <| bE hp fun x75 hy52 hp => tc 0 [_] rfl c16 (fun _ => slices_Contains_ok (a1 := x67) (a4 := x41) (h74.mono (subB 0 rfl)) hy52) rfl ?_
        rintro _ _ ⟨rfl, rfl⟩
        refine gy rfl (bT hc44) <| tv (rv_not rfl) rfl <| tv (pT (bT hc44)) rfl ?_
        obtain rfl := Option.some.inj hp
        exact nj J43 rfl
      · refine gn rfl (bF hc44) rfl rfl <| gn rfl (bF hc44) rfl rfl <| gn rfl (bF hc44) rfl rfl <| gn rfl (bF hc44) rfl rfl <| gn rfl (bF hc44) rfl rfl <| gn rfl (bF hc44) rfl rfl <| gn rfl (bF hc44) rfl rfl <| tv (pF (bF hc44)) rfl ?_
        obtain rfl := Option.some.inj hp
        exact nj J43 rfl
     by_cases hc39 : x41 ≥ 0
     · exact gy rfl (bT hc39) <| tm rfl <| gy rfl (bT hc39) <| tm rfl <| gy rfl (bT hc39) <| tv (ln u54 h33.ro rfl) rfl <| gy rfl (bT hc39) <| tv (blt rfl rfl) rfl <| tv (pT (bT hc39)) rfl <| nj J38 (bAt hc39)
     · exact gn rfl (bF hc39) rfl rfl <| gn rfl (bF hc39) rfl rfl <| gn rfl (bF hc39) rfl rfl <| gn rfl (bF hc39) rfl rfl <| tv (pF (bF hc39)) rfl <| nj J38 (bAf hc39)
   · exact TC.exit <| jn [0] (J26 h33 (ex_ret hp hx24))
 · exact TC.exit <| jn [0] (J11 h13 (ex_ret hp hx9))

/-! ### fettle/graph.order$1 -/
abbrev graph_order_1.R (b2 : Nat) (b17 : Nat) (r : List Bool × List Int) (v : Value) (A : List FP) : Prop := ∃ (w1 : Value) (G1 : FP) (w2 : Value) (G2 : FP), .tuple #[] = v ∧ A = [bx b2 69 [w1], G1, bx b17 38 [w2], G2] ∧ SlO 4 kBool r.1 w1 G1 ∧ SlO 3 (kInt .i64) r.2 w2 G2
def graph_order_1.nx10 (a1 : Int) (x46 : List Bool) (x50 : List Int) : Option (List Bool × List Int) :=
  (cat x50 [a1]).bind fun x55 =>
  some (x46, x55)
def graph_order_1.jn21 (x45 : Int) (x59 : List Bool) (x63 : List Int) : Option (Ex (List Bool × List Int) (List Bool × List Int × Int)) :=
  some (.go (x59, x63, (w64 (x45 + 1))))
def graph_order_1.bd10 (a9 : List (List Int)) (rec : Int → (List Bool) → (List (List Int)) → (List Int) → Option (List Bool × List Int)) (x29 : List Int) (x37 : List Bool) (x41 : List Int) (x45 : Int) : Option (Ex (List Bool × List Int) (List Bool × List Int × Int)) :=
  if x45 < (len x29) then
    (idx x29 x45).bind fun x67 =>
    (idx x37 x67).bind fun x73 =>
    if (!x73) = true then
      (rec x67 x37 a9 x41).bind fun x79 =>
      graph_order_1.jn21 x45 x79.1 x79.2
    else
      graph_order_1.jn21 x45 x37 x41
  else
    some (.ret (x37, x41))
def graph_order_1.body (rec : Int → (List Bool) → (List (List Int)) → (List Int) → Option (List Bool × List Int)) (a1 : Int) (a3 : List Bool) (a9 : List (List Int)) (a18 : List Int) : Option (List Bool × List Int) :=
  (idx a3 a1).bind fun x23 =>
  (idx a9 a1).bind fun x29 =>
  (whl (fun (s : (List Bool × List Int × Int)) => graph_order_1.bd10 a9 rec x29 s.1 s.2.1 s.2.2) FUEL ((a3.set (a1).toNat true), a18, 0)).bind fun z =>
  graph_order_1.nx10 a1 z.1 z.2
set_option maxHeartbeats 4000000 in
theorem graph_order_1.body_ok {rec : Int → (List Bool) → (List (List Int)) → (List Int) → Option (List Bool × List Int)} (hrec : ∀ (E : World) (H : FP) (w : World) (a1 : Int) (a3 : List Bool) (a9 : List (List Int)) (a18 : List Int) (b2 : Nat) (v4 : Value) (F5 : FP) (b8 : Nat) (o10 : Nat) (v12 : Value) (b14 : Nat) (o15 : Nat) (b17 : Nat) (v19 : Value) (F20 : FP) (r : List Bool × List Int) (h6 : SlO 4 kBool a3 v4 F5) (h11 : CellsIn H b8 o10 [v12]) (h13 : SlI (kSl 3 (kInt .i64)) H a9 v12) (h16 : CellsIn H b14 o15 [.func (.func 85) #[] #[.pointer (some ⟨b2, 0, none⟩), .pointer (some ⟨b8, o10, none⟩), .pointer (some ⟨b14, o15, none⟩), .pointer (some ⟨b17, 0, none⟩)]]) (h21 : SlO 3 (kInt .i64) a18 v19 F20), rec a1 a3 a9 a18 = some r → St E H [bx b2 69 [v4], F5, bx b17 38 [v19], F20] w →
    Fn Tryz.prog 85 #[.int .i64 a1, .pointer (some ⟨b2, 0, none⟩), .pointer (some ⟨b8, o10, none⟩), .pointer (some ⟨b14, o15, none⟩), .pointer (some ⟨b17, 0, none⟩)] w fun v w' => ∃ A, graph_order_1.R b2 b17 r v A ∧ St E H A w')
    {E : World} {H : FP} {w : World} {a1 : Int} {a3 : List Bool} {a9 : List (List Int)} {a18 : List Int} {b2 : Nat} {v4 : Value} {F5 : FP} {b8 : Nat} {o10 : Nat} {v12 : Value} {b14 : Nat} {o15 : Nat} {b17 : Nat} {v19 : Value} {F20 : FP} {r : List Bool × List Int} (h6 : SlO 4 kBool a3 v4 F5) (h11 : CellsIn H b8 o10 [v12]) (h13 : SlI (kSl 3 (kInt .i64)) H a9 v12) (h16 : CellsIn H b14 o15 [.func (.func 85) #[] #[.pointer (some ⟨b2, 0, none⟩), .pointer (some ⟨b8, o10, none⟩), .pointer (some ⟨b14, o15, none⟩), .pointer (some ⟨b17, 0, none⟩)]]) (h21 : SlO 3 (kInt .i64) a18 v19 F20) (hp : graph_order_1.body rec a1 a3 a9 a18 = some r) (hst : St E H [bx b2 69 [v4], F5, bx b17 38 [v19], F20] w) :
    Fn Tryz.prog 85 #[.int .i64 a1, .pointer (some ⟨b2, 0, none⟩), .pointer (some ⟨b8, o10, none⟩), .pointer (some ⟨b14, o15, none⟩), .pointer (some ⟨b17, 0, none⟩)] w fun v w' => ∃ A, graph_order_1.R b2 b17 r v A ∧ St E H A w' := by
 refine fb 33 [] Tryz.func85 rfl rfl rfl rfl rfl hst <| sr <| tv (lb s69 0 rfl rfl rfl) rfl <| tm rfl <| tO u69 i4 h6 hp rfl rfl rfl rfl fun x23 b24 o25 h26 hp => tp [1, 0, 2, 3] [_,_,_,_] rfl rfl <| tE h6 h26 m4 rfl ⟨rfl, rfl⟩ w1 fun F27 h28 => nz <| TC.seq fun K2 k3 => sr <| tv (lr s54 sH h11 0 rfl rfl) rfl <| tm rfl <| ti u54 i38 h13 hp rfl rfl rfl rfl ?_
 rintro x29 b30 o31 _ hp ⟨v35, rfl, h36⟩ h34
 refine tv (lr s38 sH h34 0 rfl rfl) rfl <| tv (ln u38 h36 rfl) rfl <| tm rfl <| nz <| TC.block <| bE hp fun z_6 hz7 hr8 => ?_
 have J13 {x46 x50 v47 F48 v51 F52 e11} (h49 : SlO 4 kBool x46 v47 F48) (h53 : SlO 3 (kInt .i64) x50 v51 F52) (hq14 : (x46, x50) = z_6) : ∀ w, St E H [bx b2 69 [v47], F48, bx b17 38 [v51], F52] w → K2 (ovr e11 [(0, .int .i64 a1), (4, .pointer (some ⟨b17, 0, none⟩))]) w := by
  subst hq14
  replace hp : graph_order_1.nx10 a1 x46 x50 = some r := hr8
  exact tg k3 <| TC.region <| tv (lb s38 2 rfl rfl rfl) rfl <| tm rfl <| tbs [(0, .int .i64 a1)] [.int .i64 a1] u38 i3 (by kernel_rfl) rfl rfl rfl rfl fun b54 => tp [4, 0, 1, 2, 3] [_,_,_,_,_] rfl rfl <| tf 2 0 [_,_,_,_,_,_] rfl <| tp2 u38 i3 h53 hp (RepL.to (RepL.cons (k := (kInt .i64)) (x := a1) ⟨rfl, rfl⟩ RepL.nil) rfl) rfl rfl rfl rfl rfl rfl rfl rfl rfl fun x55 v56 F57 h58 hp => ts 3 m38 rfl rfl h58.o1 rfl <| nl <| rt hp [1, 2, 3, 0] ⟨v47, F48, v56, F57, rfl, rfl, h49, h58⟩
 refine lp hz7 [1, 0, 2, 3] rfl (fun s e L => ∃ x37 x41 x45 v38 F39 v42 F43 e5, s = (x37, x41, x45) ∧ SlO 4 kBool x37 v38 F39 ∧ SlO 3 (kInt .i64) x41 v42 F43 ∧ e = ovr e5 [(0, .int .i64 a1), (1, .pointer (some ⟨b2, 0, none⟩)), (3, .pointer (some ⟨b14, o15, none⟩)), (4, .pointer (some ⟨b17, 0, none⟩)), (14, v35), (15, .int .i64 (len x29)), (16, .int .i64 x45)] ∧ L = [bx b2 69 [v38], F39, bx b17 38 [v42], F43]) ⟨_, _, _, v4, F27, v19, F20, _, rfl, h28, h21, ovr_eq _ _ rfl, rfl⟩ ?_
 rintro _ _ _ ⟨x37, x41, x45, v38, F39, v42, F43, e5, rfl, h40, h44, rfl, rfl⟩ X9 hp hx10
 replace hp : graph_order_1.bd10 a9 rec x29 x37 x41 x45 = some X9 := hp
 refine sr <| tv (blt rfl rfl) rfl <| nz <| TC.seq fun K15 k16 => cD rfl hp (fun hc17 hp => ?_) fun hc17 hp => ?_
 · refine sk k16 rfl <| TC.seq fun K18 k19 => ?_
   have J21 {x59 x63 v60 F61 v64 F65 e20} (h62 : SlO 4 kBool x59 v60 F61) (h66 : SlO 3 (kInt .i64) x63 v64 F65) (hp : graph_order_1.jn21 x45 x59 x63 = some X9) : ∀ w, St E H [bx b2 69 [v60], F61, bx b17 38 [v64], F65] w → K18 (ovr e20 [(0, .int .i64 a1), (1, .pointer (some ⟨b2, 0, none⟩)), (3, .pointer (some ⟨b14, o15, none⟩)), (4, .pointer (some ⟨b17, 0, none⟩)), (14, v35), (15, .int .i64 (len x29)), (16, .int .i64 x45)]) w := by
    exact tg k19 <| TC.region <| tv (bad rfl rfl) rfl <| tm rfl <| nl <| gk hp [0, 1, 2, 3] ⟨_, _, _, v60, F61, v64, F65, _, rfl, h62, h66, ovr_eq _ _ rfl, rfl⟩
   refine TC.block <| sr <| ti u38 i3 h36 hp rfl rfl rfl rfl ?_
   rintro x67 b68 o69 _ hp rfl h72
   refine tv (lr s3 sH h72 0 rfl rfl) rfl <| ta rfl <| nz <| sr <| tv (lb s69 0 rfl rfl rfl) rfl <| tm rfl <| ti u69 i4 (h40).ro hp rfl rfl rfl rfl ?_
   rintro x73 b74 o75 _ hp rfl h78
   refine tv (lr s4 (Src.at_ 1 rfl) h78 0 rfl rfl) rfl <| tv (rv_not rfl) rfl <| nz <| cB rfl hp (fun hc24 hp => ?_) fun hc24 hp => ?_
   · refine TC.region <| tv (lr s119 sH h16 0 rfl rfl) rfl <| tm rfl <| bE hp fun x79 hy25 hp => tcv 4 [] rfl c85 rfl (fun _ => hrec _ _ _ x67 x37 a9 x41 _ _ _ _ _ _ _ _ _ _ _ _ h40 (h11.mono subH) (h13.mono subH) (h16.mono subH) h44 hy25) rfl ?_
     rintro _ _ ⟨v80, F81, v83, F84, rfl, rfl, h82, h85⟩
     exact nl <| jn [0, 1, 2, 3] (J21 h82 h85 hp)
   · exact TC.skip <| jn [0, 1, 2, 3] (J21 h40 h44 hp)
 · exact TC.exit <| jn [0, 1, 2, 3] (J13 h40 h44 (ex_ret hp hx10))
def graph_order_1.it : Nat → Int → (List Bool) → (List (List Int)) → (List Int) → Option (List Bool × List Int)
  | 0 => fun _ _ _ _ => none
  | n + 1 => graph_order_1.body (graph_order_1.it n)
set_option maxHeartbeats 4000000 in
theorem graph_order_1.it_ok (n : Nat) : ∀ (E : World) (H : FP) (w : World) (a1 : Int) (a3 : List Bool) (a9 : List (List Int)) (a18 : List Int) (b2 : Nat) (v4 : Value) (F5 : FP) (b8 : Nat) (o10 : Nat) (v12 : Value) (b14 : Nat) (o15 : Nat) (b17 : Nat) (v19 : Value) (F20 : FP) (r : List Bool × List Int) (h6 : SlO 4 kBool a3 v4 F5) (h11 : CellsIn H b8 o10 [v12]) (h13 : SlI (kSl 3 (kInt .i64)) H a9 v12) (h16 : CellsIn H b14 o15 [.func (.func 85) #[] #[.pointer (some ⟨b2, 0, none⟩), .pointer (some ⟨b8, o10, none⟩), .pointer (some ⟨b14, o15, none⟩), .pointer (some ⟨b17, 0, none⟩)]]) (h21 : SlO 3 (kInt .i64) a18 v19 F20), graph_order_1.it n a1 a3 a9 a18 = some r → St E H [bx b2 69 [v4], F5, bx b17 38 [v19], F20] w →
    Fn Tryz.prog 85 #[.int .i64 a1, .pointer (some ⟨b2, 0, none⟩), .pointer (some ⟨b8, o10, none⟩), .pointer (some ⟨b14, o15, none⟩), .pointer (some ⟨b17, 0, none⟩)] w fun v w' => ∃ A, graph_order_1.R b2 b17 r v A ∧ St E H A w' := by
  induction n with
  | zero => intro E H w a1 a3 a9 a18 b2 v4 F5 b8 o10 v12 b14 o15 b17 v19 F20 r h6 h11 h13 h16 h21 hp; exact absurd hp (by simp [graph_order_1.it])
  | succ n ih => intro E H w a1 a3 a9 a18 b2 v4 F5 b8 o10 v12 b14 o15 b17 v19 F20 r h6 h11 h13 h16 h21 hp hst; exact graph_order_1.body_ok ih h6 h11 h13 h16 h21 hp hst
def graph_order_1 (a1 : Int) (a3 : List Bool) (a9 : List (List Int)) (a18 : List Int) : Option (List Bool × List Int) := graph_order_1.it FUEL a1 a3 a9 a18
set_option maxHeartbeats 4000000 in
theorem graph_order_1_ok {E : World} {H : FP} {w : World} {a1 : Int} {a3 : List Bool} {a9 : List (List Int)} {a18 : List Int} {b2 : Nat} {v4 : Value} {F5 : FP} {b8 : Nat} {o10 : Nat} {v12 : Value} {b14 : Nat} {o15 : Nat} {b17 : Nat} {v19 : Value} {F20 : FP} {r : List Bool × List Int} (h6 : SlO 4 kBool a3 v4 F5) (h11 : CellsIn H b8 o10 [v12]) (h13 : SlI (kSl 3 (kInt .i64)) H a9 v12) (h16 : CellsIn H b14 o15 [.func (.func 85) #[] #[.pointer (some ⟨b2, 0, none⟩), .pointer (some ⟨b8, o10, none⟩), .pointer (some ⟨b14, o15, none⟩), .pointer (some ⟨b17, 0, none⟩)]]) (h21 : SlO 3 (kInt .i64) a18 v19 F20) (hp : graph_order_1 a1 a3 a9 a18 = some r) (hst : St E H [bx b2 69 [v4], F5, bx b17 38 [v19], F20] w) :
    Fn Tryz.prog 85 #[.int .i64 a1, .pointer (some ⟨b2, 0, none⟩), .pointer (some ⟨b8, o10, none⟩), .pointer (some ⟨b14, o15, none⟩), .pointer (some ⟨b17, 0, none⟩)] w fun v w' => ∃ A, graph_order_1.R b2 b17 r v A ∧ St E H A w' :=
  graph_order_1.it_ok FUEL _ _ _ _ _ _ _ _ _ _ _ _ _ _ _ _ _ _ _ h6 h11 h13 h16 h21 hp hst
end Go.Proofs.YtpomfbdbkejedaaGreatDoor
