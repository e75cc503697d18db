/- The walk through the program's functions: each one's pure reading, and that a call does what it says. No conditions. -/
import Derived.Test.YteaknconpkklhaaDoorV2
set_option linter.unusedVariables false
set_option linter.unusedSimpArgs false
namespace Go.Proofs.YteaknconpkklhaaDoor
open Go Go.Proofs
/-! ### fettle/check.Func -/
abbrev check_Func.R (r : GErr) (v : Value) (A : List FP) : Prop := ∃ (w1 : Value) (G1 : FP), w1 = v ∧ A = [G1] ∧ ErO 38 69 74 r w1 G1
def check_Func.nx49  : Option GErr :=
  some GErr.no
def check_Func.bd49 (a1 : PModule) (x1608 : PFunc) (x3618 : Int) : Option (Ex (Ex GErr Unit) Int) :=
  if x3618 < (len x1608.blocks) then
    (idx x1608.blocks x3618).bind fun x3620 =>
    (check_looker_block (⟨(⟨a1.funcs⟩ : PModule), (⟨x1608.params, x1608.result, x1608.regs, x1608.blocks⟩ : PFunc)⟩ : PLooker) x3620).bind fun x3633 =>
    if ¬ x3633 = GErr.no then
      some (.ret (.ret x3633))
    else
      some (.go (w64 (x3618 + 1)))
  else
    some (.ret (.go ()))
def check_Func.nx40 (a1 : PModule) (x1608 : PFunc) : Option GErr :=
  (whl (fun (s : Int) => check_Func.bd49 a1 x1608 s) FUEL 0).bind fun z =>
  match z with
    | .ret r => some r
    | .go p => check_Func.nx49
def check_Func.nx78 (x3617 : Int) : Option (Ex (Ex GErr Unit) Int) :=
  some (.go (w64 (x3617 + 1)))
def check_Func.bd78 (x3637 : List Int) (x3645 : PBlock) (x3657 : Int) : Option (Ex (Ex GErr Unit) Int) :=
  if x3657 < (len x3645.phis) then
    (idx x3645.phis x3657).bind fun x3658 =>
    if ¬ (len x3658.args) = (len x3637) then
      some (.ret (.ret (GErr.code 6)))
    else
      some (.go (w64 (x3657 + 1)))
  else
    some (.ret (.go ()))
def check_Func.bd40 (x1608 : PFunc) (x3613 : List (List Int)) (x3617 : Int) : Option (Ex (Ex GErr Unit) Int) :=
  if x3617 < (len x3613) then
    (idx x3613 x3617).bind fun x3637 =>
    (idx x1608.blocks x3617).bind fun x3645 =>
    (whl (fun (s : Int) => check_Func.bd78 x3637 x3645 s) FUEL 0).bind fun z =>
    match z with
      | .ret r => some (.ret (.ret r))
      | .go p => check_Func.nx78 x3617
  else
    some (.ret (.go ()))
def check_Func.nx29 (a1 : PModule) (x1608 : PFunc) : Option GErr :=
  (check_Ahead x1608).bind fun x3613 =>
  (whl (fun (s : Int) => check_Func.bd40 x1608 x3613 s) FUEL 0).bind fun z =>
  match z with
    | .ret r => some r
    | .go p => check_Func.nx40 a1 x1608
def check_Func.bd29 (x1608 : PFunc) (x3612 : Int) : Option (Ex (Ex GErr Unit) Int) :=
  if x3612 < (len x1608.blocks) then
    (idx x1608.blocks x3612).bind fun x3668 =>
    (check_ends x1608 x3668.term).bind fun x3681 =>
    if (!x3681) = true then
      some (.ret (.ret (GErr.code 6)))
    else
      some (.go (w64 (x3612 + 1)))
  else
    some (.ret (.go ()))
def check_Func (a1 : PModule) (a4 : Int) : Option GErr :=
  if a4 < 0 ∨ a4 ≥ (len a1.funcs) then
    some (GErr.code 1)
  else
    (idx a1.funcs a4).bind fun x1608 =>
    (check_small x1608).bind fun x3608 =>
    if (!x3608) = true then
      some (GErr.code 5)
    else
      (check_typed x1608).bind fun x3610 =>
      if (!x3610) = true then
        some (GErr.code 3)
      else
        (whl (fun (s : Int) => check_Func.bd29 x1608 s) FUEL 0).bind fun z =>
        match z with
          | .ret r => some r
          | .go p => check_Func.nx29 a1 x1608
set_option maxHeartbeats 4000000 in
theorem check_Func_ok {E : World} {H : FP} {w : World} {a1 : PModule} {a4 : Int} {v2 : Value} {r : GErr} (h3 : SlI kFunc H a1.funcs v2) (hp : check_Func a1 a4 = some r) (hst : St E H [] w) :
    Fn Tryd.prog 56 #[.agg #[v2], .int .i64 a4] w fun v w' => ∃ A, check_Func.R r v A ∧ St E H A w' := by
 refine fb 120 [.tmp 4] Tryd.func56 rfl rfl rfl rfl rfl hst <| sr <| tb [v2] rfl rfl fun b5 => ta rfl <| nz <| TC.seq fun K1 k2 => sr <| tm rfl <| tv (blt rfl rfl) rfl <| tm rfl <| TL.cut 6 fun K3 k4 => ?_
 have J5 {e7} : ∀ w, St E H [bx b5 24 [v2]] w → K3 (ovr e7 [(23, .bool (decide (a4 < 0 ∨ a4 ≥ (len a1.funcs)))), (1, .int .i64 a4), (2, .pointer (some ⟨b5, 0, none⟩))]) w := by
  refine tlg k4 <| nz <| cD rfl hp (fun hc8 hp => ?_) fun hc8 hp => ?_
  · exact sr <| tv (mI u38 rfl) rfl <| ta rfl <| nz <| TC.ret <| W.new0 <| rt hp [0] ⟨(.iface 38 (.int .i64 1)), ([] : FP), rfl, rfl, (ErO.mk _ : ErO 38 69 74 (GErr.code 1) (.iface 38 (.int .i64 1)) [])⟩
  · refine sk k2 rfl <| TC.seq fun K9 k10 => ch mix [bx b5 24 [v2]] (srcG 0 rfl srcG0) <| hv 0 rfl (lAG (ds := [v2]) ag_24 0 rfl rfl rfl rfl) (by kernel_rfl) rfl <| hv 1 rfl (fa f24_0 rfl) (by kernel_rfl) rfl <| hv 2 rfl (lbG s22 0 rfl rfl rfl) (by kernel_rfl) rfl <| hv 3 rfl mv (by kernel_rfl) rfl <| hi 4 rfl u22 i41 h3 hp rfl rfl rfl (by kernel_rfl) rfl ?_
    rintro x1608 b1609 o1610 _ hp ⟨v1614, v1616, rfl, h1615, h1617⟩ h1613
    refine hv 5 rfl (lR (ds := [.int .i64 x1608.params, .int .i64 x1608.result, v1614, v1616]) ag_41 srcInH h1613 0 rfl rfl rfl) (by kernel_rfl) rfl <| hv 6 rfl (rv_bv (vs := [(0, .agg #[v2]), (1, .agg #[.int .i64 x1608.params, .int .i64 x1608.result, v1614, v1616])]) (ds := [v2, .int .i64 x1608.params, .int .i64 x1608.result, v1614, v1616]) rfl (fun w => by kernel_rfl)) (by kernel_rfl) rfl <| ho 7 rfl (by kernel_rfl) fun K12 k13 => tb [v2, .int .i64 x1608.params, .int .i64 x1608.result, v1614, v1616] rfl rfl fun b2808 => hk k13 (srcG 1 rfl srcG0) <| hv 8 rfl sg (by kernel_rfl) rfl <| hz (by kernel_rfl) <| tg k10 <| TC.seq fun K14 k15 => TC.block <| sr <| tm rfl <| tv (rv_nilCheck rfl) rfl <| tv (fa f137_1 rfl) rfl <| tv (lA (ds := [.int .i64 x1608.params, .int .i64 x1608.result, v1614, v1616]) ag_41 0 rfl rfl rfl rfl) rfl <| bE hp fun x3608 hy16 hp => tc 0 [_,_] rfl c70 (fun _ => check_small_ok (a1 := x1608) (h1615.mono subH) (h1617.mono subH) hy16) rfl ?_
    rintro _ _ ⟨rfl, rfl⟩
    refine tv (rv_not rfl) rfl <| ta rfl <| nz <| cB rfl hp (fun hc18 hp => ?_) fun hc18 hp => ?_
    · exact sr <| tv (mI u38 rfl) rfl <| ta rfl <| nz <| TC.ret <| W.new0 <| rt hp [0] ⟨(.iface 38 (.int .i64 5)), ([] : FP), rfl, rfl, (ErO.mk _ : ErO 38 69 74 (GErr.code 5) (.iface 38 (.int .i64 5)) [])⟩
    · refine sr <| tm rfl <| tv (rv_nilCheck rfl) rfl <| tv (fa f137_1 rfl) rfl <| tv (lA (ds := [.int .i64 x1608.params, .int .i64 x1608.result, v1614, v1616]) ag_41 0 rfl rfl rfl rfl) rfl <| bE hp fun x3610 hy19 hp => tc 0 [_,_] rfl c71 (fun _ => check_typed_ok (a1 := x1608) (h1615.mono subH) (h1617.mono subH) hy19) rfl ?_
      rintro _ _ ⟨rfl, rfl⟩
      refine tv (rv_not rfl) rfl <| ta rfl <| nz <| cB rfl hp (fun hc21 hp => ?_) fun hc21 hp => ?_
      · exact sr <| tv (mI u38 rfl) rfl <| ta rfl <| nz <| TC.ret <| W.new0 <| rt hp [0] ⟨(.iface 38 (.int .i64 3)), ([] : FP), rfl, rfl, (ErO.mk _ : ErO 38 69 74 (GErr.code 3) (.iface 38 (.int .i64 3)) [])⟩
      · refine sk k15 rfl <| TC.seq fun K22 k23 => sr <| tm rfl <| tv (rv_nilCheck rfl) rfl <| tv (fa f137_1 rfl) rfl <| tv (fa f41_3 rfl) rfl <| tv (lb s39 0 rfl rfl rfl) rfl <| tv (ln u39 h1617 rfl) rfl <| tm rfl <| nz <| TC.block <| bE hp fun z_25 hz26 hr27 => ?_
        have J93 {e30} (hq94 : .go () = z_25) : ∀ w, St E H [bx b2808 137 [v2, .int .i64 x1608.params, .int .i64 x1608.result, v1614, v1616]] w → K22 (ovr e30 [(5, .pointer (some ⟨b2808, 0, none⟩))]) w := by
         subst hq94
         replace hp : check_Func.nx29 a1 x1608 = some r := hr27
         refine tg k23 <| TC.seq fun K31 k32 => sr <| tm rfl <| tv (rv_nilCheck rfl) rfl <| tv (fa f137_1 rfl) rfl <| tv (lA (ds := [.int .i64 x1608.params, .int .i64 x1608.result, v1614, v1616]) ag_41 0 rfl rfl rfl rfl) rfl <| bE hp fun x3613 hy33 hp => tc 0 [_] rfl c22 (fun _ => check_Ahead_ok (a1 := x1608) (h1615.mono subH) (h1617.mono subH) hy33) rfl ?_
         rintro _ _ ⟨v3614, F3615, rfl, rfl, h3616⟩
         refine tv (ln u65 h3616.ro rfl) rfl <| tm rfl <| nz <| TC.block <| bE hp fun z_36 hz37 hr38 => ?_
         have J64 {e41} (hq65 : .go () = z_36) : ∀ w, St E H [bx b2808 137 [v2, .int .i64 x1608.params, .int .i64 x1608.result, v1614, v1616]] w → K31 (ovr e41 [(5, .pointer (some ⟨b2808, 0, none⟩))]) w := by
          subst hq65
          replace hp : check_Func.nx40 a1 x1608 = some r := hr38
          refine tg k32 <| TC.seq fun K42 k43 => sr <| tm rfl <| tv (rv_nilCheck rfl) rfl <| tv (fa f137_1 rfl) rfl <| tv (fa f41_3 rfl) rfl <| tv (lb s39 0 rfl rfl rfl) rfl <| tv (ln u39 h1617 rfl) rfl <| tm rfl <| nz <| TC.block <| bE hp fun z_45 hz46 hr47 => ?_
          have J51 {e50} (hq52 : .go () = z_45) : ∀ w, St E H [] w → K42 (ovr e50 []) w := by
           subst hq52
           replace hp : check_Func.nx49 = some r := hr47
           exact tg k43 <| sr <| ta rfl <| nz <| TC.ret <| W.new0 <| rt hp [0] ⟨.nilIface, ([] : FP), rfl, rfl, (ErO.nil : ErO 38 69 74 GErr.no .nilIface [])⟩
          refine lp hz46 [0] rfl (fun s e L => ∃ e44, e = ovr e44 [(5, .pointer (some ⟨b2808, 0, none⟩)), (107, v1616), (108, .int .i64 (len x1608.blocks)), (109, .int .i64 s)] ∧ L = [bx b2808 137 [v2, .int .i64 x1608.params, .int .i64 x1608.result, v1614, v1616]]) ⟨_, ovr_eq _ _ rfl, rfl⟩ ?_
          rintro x3618 _ _ ⟨e44, rfl, rfl⟩ X48 hp hx49
          replace hp : check_Func.bd49 a1 x1608 x3618 = some X48 := hp
          refine sr <| tv (blt rfl rfl) rfl <| nz <| TC.seq fun K53 k54 => cD rfl hp (fun hc55 hp => ?_) fun hc55 hp => ?_
          · refine sk k54 rfl <| TC.seq fun K56 k57 => TC.block <| sr <| ti u39 i60 h1617 hp rfl rfl rfl rfl ?_
            rintro x3620 b3621 o3622 _ hp ⟨v3626, v3628, v3630, rfl, h3627, h3629, h3631⟩ h3625
            refine tv (lR (ds := [v3626, v3628, .int .i64 x3620.term.kind, .int .i64 x3620.term.arg, v3630]) ag_60 sH h3625 0 rfl rfl rfl) rfl <| tl i60 rfl fun b3632 => tS 0 m60 rfl rfl [v3626, v3628, .int .i64 x3620.term.kind, .int .i64 x3620.term.arg, v3630] rfl (oc (h3627).one (oc (h3629).one (oc rfl (oc rfl (oc (h3631).one oc0))))) rfl rfl <| nz <| sr <| tm rfl <| tv (lA (ds := [v3626, v3628, .int .i64 x3620.term.kind, .int .i64 x3620.term.arg, v3630]) ag_60 0 rfl rfl rfl rfl) rfl <| bE hp fun x3633 hy59 hp => tc 0 [_,_] rfl c73 (fun _ => check_looker_block_ok (a2 := (⟨(⟨a1.funcs⟩ : PModule), (⟨x1608.params, x1608.result, x1608.regs, x1608.blocks⟩ : PFunc)⟩ : PLooker)) (a11 := x3620) ((bx_cells b2808 137 _).mono (subB 1 rfl)) (h3.mono subH) (h1615.mono subH) (h1617.mono subH) (h3627.mono subH) (h3629.mono subH) (h3631.mono subH) hy59) rfl ?_
            rintro _ _ ⟨v3634, F3635, rfl, rfl, h3636⟩
            refine ta rfl <| nz <| sr <| tm rfl <| tv (rv_neqEN ifc_29 h3636 rfl) rfl <| nz <| cD rfl hp (fun hc61 hp => ?_) fun hc61 hp => ?_
            · refine sr <| tm rfl <| ta rfl <| nz <| TC.ret ?_
              obtain rfl := ex_ret hp hx49
              exact rt hr47 [0] ⟨v3634, F3635, rfl, rfl, h3636⟩
            · exact sk k57 rfl <| TC.region <| tv (bad rfl rfl) rfl <| tm rfl <| nl <| gk hp [2] ⟨_, ovr_eq _ _ rfl, rfl⟩
          · exact TC.exit <| jn [] (J51 (ex_ret hp hx49))
         refine lp hz37 [1, 0] rfl (fun s e L => ∃ e35, e = ovr e35 [(5, .pointer (some ⟨b2808, 0, none⟩)), (73, v3614), (74, .int .i64 (len x3613)), (75, .int .i64 s)] ∧ L = [bx b2808 137 [v2, .int .i64 x1608.params, .int .i64 x1608.result, v1614, v1616], F3615]) ⟨_, ovr_eq _ _ rfl, rfl⟩ ?_
         rintro x3617 _ _ ⟨e35, rfl, rfl⟩ X39 hp hx40
         replace hp : check_Func.bd40 x1608 x3613 x3617 = some X39 := hp
         refine sr <| tv (blt rfl rfl) rfl <| nz <| TC.seq fun K66 k67 => cD rfl hp (fun hc68 hp => ?_) fun hc68 hp => ?_
         · refine sk k67 rfl <| TC.seq fun K69 k70 => TC.block <| sr <| tm rfl <| ti u65 i32 (h3616).ro hp rfl rfl rfl rfl ?_
           rintro x3637 b3638 o3639 _ hp ⟨v3643, rfl, h3644⟩ h3642
           refine tv (lr s32 (Src.at_ 1 rfl) h3642 0 rfl rfl) rfl <| ta rfl <| ta rfl <| nz <| sr <| tm rfl <| tv (rv_nilCheck rfl) rfl <| tv (fa f137_1 rfl) rfl <| tv (fa f41_3 rfl) rfl <| tv (lb s39 0 rfl rfl rfl) rfl <| tm rfl <| ti u39 i60 h1617 hp rfl rfl rfl rfl ?_
           rintro x3645 b3646 o3647 _ hp ⟨v3651, v3653, v3655, rfl, h3652, h3654, h3656⟩ h3650
           refine tv (fa f60_0 rfl) rfl <| tv (lr s57 sH h3650 0 rfl rfl) rfl <| tv (ln u57 h3652 rfl) rfl <| tm rfl <| nz <| TC.block <| bE hp fun z_74 hz75 hr76 => ?_
           have J80 {e79} (hq81 : .go () = z_74) : ∀ w, St E H [bx b2808 137 [v2, .int .i64 x1608.params, .int .i64 x1608.result, v1614, v1616], F3615] w → K69 (ovr e79 [(5, .pointer (some ⟨b2808, 0, none⟩)), (73, v3614), (74, .int .i64 (len x3613)), (75, .int .i64 x3617)]) w := by
            subst hq81
            replace hp : check_Func.nx78 x3617 = some X39 := hr76
            exact tg k70 <| TC.region <| tv (bad rfl rfl) rfl <| tm rfl <| nl <| gk hp [0, 1] ⟨_, ovr_eq _ _ rfl, rfl⟩
           refine lp hz75 [0, 1] rfl (fun s e L => ∃ e73, e = ovr e73 [(5, .pointer (some ⟨b2808, 0, none⟩)), (9, v3643), (73, v3614), (74, .int .i64 (len x3613)), (75, .int .i64 x3617), (88, v3651), (89, .int .i64 (len x3645.phis)), (90, .int .i64 s)] ∧ L = [bx b2808 137 [v2, .int .i64 x1608.params, .int .i64 x1608.result, v1614, v1616], F3615]) ⟨_, ovr_eq _ _ rfl, rfl⟩ ?_
           rintro x3657 _ _ ⟨e73, rfl, rfl⟩ X77 hp hx78
           replace hp : check_Func.bd78 x3637 x3645 x3657 = some X77 := hp
           refine sr <| tv (blt rfl rfl) rfl <| nz <| TC.seq fun K82 k83 => cD rfl hp (fun hc84 hp => ?_) fun hc84 hp => ?_
           · refine sk k83 rfl <| TC.seq fun K85 k86 => TC.block <| sr <| ti u57 i64 h3652 hp rfl rfl rfl rfl ?_
             rintro x3658 b3659 o3660 _ hp ⟨v3664, rfl, h3665⟩ h3663
             refine tv (lR (ds := [.int .i64 x3658.dst, v3664]) ag_64 sH h3663 0 rfl rfl rfl) rfl <| tl i64 rfl fun b3666 => tS 0 m64 rfl rfl [.int .i64 x3658.dst, v3664] rfl (oc rfl (oc (h3665).one oc0)) rfl rfl <| nz <| sr <| tv (fa f64_1 rfl) rfl <| tv (lb s32 0 rfl rfl rfl) rfl <| tv (ln u32 h3665 rfl) rfl <| tm rfl <| tv (ln u32 h3644 rfl) rfl <| tv (bne rfl rfl) rfl <| nz <| cD rfl hp (fun hc88 hp => ?_) fun hc88 hp => ?_
             · refine sr <| tv (mI u38 rfl) rfl <| ta rfl <| nz <| TC.ret <| W.new0 ?_
               obtain rfl := ex_ret hp hx78
               obtain rfl := ex_ret hr76 hx40
               exact rt hr38 [0] ⟨(.iface 38 (.int .i64 6)), ([] : FP), rfl, rfl, (ErO.mk _ : ErO 38 69 74 (GErr.code 6) (.iface 38 (.int .i64 6)) [])⟩
             · exact sk k86 rfl <| TC.region <| tv (bad rfl rfl) rfl <| tm rfl <| nl <| gk hp [1, 2] ⟨_, ovr_eq _ _ rfl, rfl⟩
           · exact TC.exit <| jn [0, 1] (J80 (ex_ret hp hx78))
         · exact TC.exit <| jn [0] (J64 (ex_ret hp hx40))
        refine lp hz26 [0] rfl (fun s e L => ∃ e24, e = ovr e24 [(5, .pointer (some ⟨b2808, 0, none⟩)), (53, v1616), (54, .int .i64 (len x1608.blocks)), (55, .int .i64 s)] ∧ L = [bx b2808 137 [v2, .int .i64 x1608.params, .int .i64 x1608.result, v1614, v1616]]) ⟨_, ovr_eq _ _ rfl, rfl⟩ ?_
        rintro x3612 _ _ ⟨e24, rfl, rfl⟩ X28 hp hx29
        replace hp : check_Func.bd29 x1608 x3612 = some X28 := hp
        refine sr <| tv (blt rfl rfl) rfl <| nz <| TC.seq fun K95 k96 => cD rfl hp (fun hc97 hp => ?_) fun hc97 hp => ?_
        · refine sk k96 rfl <| TC.seq fun K98 k99 => TC.block <| sr <| ti u39 i60 h1617 hp rfl rfl rfl rfl ?_
          rintro x3668 b3669 o3670 _ hp ⟨v3674, v3676, v3678, rfl, h3675, h3677, h3679⟩ h3673
          refine tv (lR (ds := [v3674, v3676, .int .i64 x3668.term.kind, .int .i64 x3668.term.arg, v3678]) ag_60 sH h3673 0 rfl rfl rfl) rfl <| tl i60 rfl fun b3680 => tS 0 m60 rfl rfl [v3674, v3676, .int .i64 x3668.term.kind, .int .i64 x3668.term.arg, v3678] rfl (oc (h3675).one (oc (h3677).one (oc rfl (oc rfl (oc (h3679).one oc0))))) rfl rfl <| nz <| TC.seq fun K101 k102 => cq mix (by kernel_rfl) <| qv mv rfl <| qv (rv_nilCheck rfl) rfl <| qv (fa f137_1 rfl) rfl <| qv (lA (ds := [.int .i64 x1608.params, .int .i64 x1608.result, v1614, v1616]) ag_41 1 rfl rfl rfl rfl) rfl <| qv (fa f60_2 rfl) rfl <| qv (lA (ds := [.int .i64 x3668.term.kind, .int .i64 x3668.term.arg, v3678]) ag_56 0 rfl rfl rfl rfl) rfl <| bE hp fun x3681 hy103 hp => qc (.bool x3681) c72 (fun _ => check_ends_ok (a1 := x1608) (a6 := x3668.term) (h1615.mono subH) (h1617.mono subH) (h3679.mono subH) hy103) (fun _ _ h => ⟨h.1.symm, h.2⟩) rfl <| qv (rv_not rfl) rfl <| QL.nil <| tg k102 <| cB rfl hp (fun hc104 hp => ?_) fun hc104 hp => ?_
          · refine sr <| tv (mI u38 rfl) rfl <| ta rfl <| nz <| TC.ret <| W.new0 ?_
            obtain rfl := ex_ret hp hx29
            exact rt hr27 [0] ⟨(.iface 38 (.int .i64 6)), ([] : FP), rfl, rfl, (ErO.mk _ : ErO 38 69 74 (GErr.code 6) (.iface 38 (.int .i64 6)) [])⟩
          · exact sk k99 rfl <| TC.region <| tv (bad rfl rfl) rfl <| tm rfl <| nl <| gk hp [1] ⟨_, ovr_eq _ _ rfl, rfl⟩
        · exact TC.exit <| jn [0] (J93 (ex_ret hp hx29))
 by_cases hc6 : a4 < 0
 · exact gn rfl (bT hc6) rfl rfl <| gn rfl (bT hc6) rfl rfl <| gn rfl (bT hc6) rfl rfl <| gn rfl (bT hc6) rfl rfl <| gn rfl (bT hc6) rfl rfl <| tv (pT (bT hc6)) rfl <| nj J5 (bOt hc6)
 · exact gy rfl (bF hc6) <| tm rfl <| gy rfl (bF hc6) <| tv (fa f24_0 rfl) rfl <| gy rfl (bF hc6) <| tv (lb s22 0 rfl rfl rfl) rfl <| gy rfl (bF hc6) <| tv (ln u22 h3 rfl) rfl <| gy rfl (bF hc6) <| tv (bge rfl rfl) rfl <| tv (pF (bF hc6)) rfl <| nj J5 (bOf hc6)
/-! ### fettle/check.Module -/
abbrev check_Module.R (r : GErr) (v : Value) (A : List FP) : Prop := ∃ (w1 : Value) (G1 : FP), w1 = v ∧ A = [G1] ∧ ErO 38 69 74 r w1 G1
def check_Module.nx11  : Option GErr :=
  some GErr.no
def check_Module.bd11 (a1 : PModule) (x6 : Int) : Option (Ex (Ex GErr Unit) Int) :=
  if x6 < (len a1.funcs) then
    (check_Func a1 x6).bind fun x8 =>
    if ¬ x8 = GErr.no then
      some (.ret (.ret (GErr.spot x6 x8)))
    else
      some (.go (w64 (x6 + 1)))
  else
    some (.ret (.go ()))
def check_Module (a1 : PModule) : Option GErr :=
  if (len a1.funcs) > 32 then
    some (GErr.code 5)
  else
    (whl (fun (s : Int) => check_Module.bd11 a1 s) FUEL 0).bind fun z =>
    match z with
      | .ret r => some r
      | .go p => check_Module.nx11
theorem check_Module_ok {E : World} {H : FP} {w : World} {a1 : PModule} {v2 : Value} {r : GErr} (h3 : SlI kFunc H a1.funcs v2) (hp : check_Module a1 = some r) (hst : St E H [] w) :
    Fn Tryd.prog 33 #[.agg #[v2]] w fun v w' => ∃ A, check_Module.R r v A ∧ St E H A w' := by
 refine fb 27 [.tmp 2] Tryd.func33 rfl rfl rfl rfl rfl hst <| sr <| tb [v2] rfl rfl fun b4 => ta rfl <| nz <| TC.seq fun K1 k2 => sr <| tv (fa f24_0 rfl) rfl <| tv (lb s22 0 rfl rfl rfl) rfl <| tv (ln u22 h3 rfl) rfl <| tv (bgt rfl rfl) rfl <| nz <| cD rfl hp (fun hc3 hp => ?_) fun hc3 hp => ?_
 · exact sr <| tv (mI u38 rfl) rfl <| ta rfl <| nz <| TC.ret <| W.new0 <| rt hp [0] ⟨(.iface 38 (.int .i64 5)), ([] : FP), rfl, rfl, (ErO.mk _ : ErO 38 69 74 (GErr.code 5) (.iface 38 (.int .i64 5)) [])⟩
 · refine sk k2 rfl <| TC.seq fun K4 k5 => sr <| tv (fa f24_0 rfl) rfl <| tv (lb s22 0 rfl rfl rfl) rfl <| tv (ln u22 h3 rfl) rfl <| tm rfl <| nz <| TC.block <| bE hp fun z_7 hz8 hr9 => ?_
   have J13 {e12} (hq14 : .go () = z_7) : ∀ w, St E H [] w → K4 (ovr e12 []) w := by
    subst hq14
    replace hp : check_Module.nx11 = some r := hr9
    exact tg k5 <| sr <| ta rfl <| nz <| TC.ret <| W.new0 <| rt hp [0] ⟨.nilIface, ([] : FP), rfl, rfl, (ErO.nil : ErO 38 69 74 GErr.no .nilIface [])⟩
   refine lp hz8 [0] rfl (fun s e L => ∃ e6, e = ovr e6 [(1, .pointer (some ⟨b4, 0, none⟩)), (12, .int .i64 (len a1.funcs)), (13, .int .i64 s)] ∧ L = [bx b4 24 [v2]]) ⟨_, ovr_eq _ _ rfl, rfl⟩ ?_
   rintro x6 _ _ ⟨e6, rfl, rfl⟩ X10 hp hx11
   replace hp : check_Module.bd11 a1 x6 = some X10 := hp
   refine sr <| tv (blt rfl rfl) rfl <| nz <| TC.seq fun K15 k16 => cD rfl hp (fun hc17 hp => ?_) fun hc17 hp => ?_
   · refine sk k16 rfl <| TC.seq fun K18 k19 => TC.block <| sr <| tm rfl <| ta rfl <| nz <| sr <| tv (lA (ds := [v2]) ag_24 0 rfl rfl rfl rfl) rfl <| tm rfl <| bE hp fun x8 hy20 hp => tc 0 [_] rfl c56 (fun _ => check_Func_ok (a1 := a1) (a4 := x6) (h3.mono subH) hy20) rfl ?_
     rintro _ _ ⟨v9, F10, rfl, rfl, h11⟩
     refine ta rfl <| nz <| sr <| tm rfl <| tv (rv_neqEN ifc_29 h11 rfl) rfl <| nz <| cD rfl hp (fun hc22 hp => ?_) fun hc22 hp => ?_
     · refine sr <| tm rfl <| tm rfl <| tv (rv_bv (vs := [(0, .int .i64 x6), (1, v9)]) (ds := [.int .i64 x6, v9]) rfl (fun w => by rcases (h11).shp with rfl | ⟨_, _, rfl⟩ <;> kernel_rfl)) rfl <| tb [.int .i64 x6, v9] rfl rfl fun b12 => tv (mI u69 rfl) rfl <| tf 0 2 [_,_] rfl <| ta rfl <| nz <| TC.ret ?_
       obtain rfl := ex_ret hp hx11
       exact rt hr9 [0] ⟨(.iface 69 (.pointer (some ⟨b12, 0, none⟩))), (bx b12 74 [.int .i64 x6, v9] ++ (F10)), rfl, rfl, (ErO.at_ x6 b12 h11)⟩
     · exact sk k19 rfl <| TC.region <| tv (bad rfl rfl) rfl <| tm rfl <| nl <| gk hp [1] ⟨_, ovr_eq _ _ rfl, rfl⟩
   · exact TC.exit <| jn [] (J13 (ex_ret hp hx11))
/-! ### fettle/live.has -/
abbrev live_has.R (r : GErr) (v : Value) (A : List FP) : Prop := ∃ (w1 : Value) (G1 : FP), w1 = v ∧ A = [G1] ∧ ErO 38 69 74 r w1 G1
def live_has (a1 : PModule) (a4 : Int) : Option GErr :=
  (check_Module a1).bind fun x6 =>
  if ¬ x6 = GErr.no then
    some x6
  else
    if a4 < 0 ∨ a4 ≥ (len a1.funcs) then
      some (GErr.code 1)
    else
      some GErr.no
theorem live_has_ok {E : World} {H : FP} {w : World} {a1 : PModule} {a4 : Int} {v2 : Value} {r : GErr} (h3 : SlI kFunc H a1.funcs v2) (hp : live_has a1 a4 = some r) (hst : St E H [] w) :
    Fn Tryd.prog 20 #[.agg #[v2], .int .i64 a4] w fun v w' => ∃ A, live_has.R r v A ∧ St E H A w' := by
 refine fb 21 [.tmp 4] Tryd.func20 rfl rfl rfl rfl rfl hst <| sr <| tb [v2] rfl rfl fun b5 => ta rfl <| nz <| TC.seq fun K1 k2 => sr <| tv (lA (ds := [v2]) ag_24 0 rfl rfl rfl rfl) rfl <| bE hp fun x6 hy3 hp => tc 0 [_] rfl c33 (fun _ => check_Module_ok (a1 := a1) (h3.mono subH) hy3) rfl ?_
 rintro _ _ ⟨v7, F8, rfl, rfl, h9⟩
 refine ta rfl <| nz <| sr <| tm rfl <| tv (rv_neqEN ifc_29 h9 rfl) rfl <| nz <| cD rfl hp (fun hc5 hp => ?_) fun hc5 hp => ?_
 · exact sr <| tm rfl <| ta rfl <| nz <| TC.ret <| rt hp [0] ⟨v7, F8, rfl, rfl, h9⟩
 · refine sk k2 rfl <| TC.seq fun K6 k7 => sr <| tm rfl <| tv (blt rfl rfl) rfl <| tm rfl <| TL.cut 6 fun K8 k9 => ?_
   have J10 {e12} : ∀ w, St E H [F8, bx b5 24 [v2]] w → K8 (ovr e12 [(19, .bool (decide (a4 < 0 ∨ a4 ≥ (len a1.funcs))))]) w := by
    refine tlg k9 <| nz <| cD rfl hp (fun hc13 hp => ?_) fun hc13 hp => ?_
    · exact sr <| tv (mI u38 rfl) rfl <| ta rfl <| nz <| TC.ret <| W.new0 <| rt hp [0] ⟨(.iface 38 (.int .i64 1)), ([] : FP), rfl, rfl, (ErO.mk _ : ErO 38 69 74 (GErr.code 1) (.iface 38 (.int .i64 1)) [])⟩
    · exact sk k7 rfl <| sr <| ta rfl <| nz <| TC.ret <| W.new0 <| rt hp [0] ⟨.nilIface, ([] : FP), rfl, rfl, (ErO.nil : ErO 38 69 74 GErr.no .nilIface [])⟩
   by_cases hc11 : a4 < 0
   · exact gn rfl (bT hc11) rfl rfl <| gn rfl (bT hc11) rfl rfl <| gn rfl (bT hc11) rfl rfl <| gn rfl (bT hc11) rfl rfl <| gn rfl (bT hc11) rfl rfl <| tv (pT (bT hc11)) rfl <| nj J10 (bOt hc11)
   · exact gy rfl (bF hc11) <| tm rfl <| gy rfl (bF hc11) <| tv (fa f24_0 rfl) rfl <| gy rfl (bF hc11) <| tv (lb s22 1 rfl rfl rfl) rfl <| gy rfl (bF hc11) <| tv (ln u22 h3 rfl) rfl <| gy rfl (bF hc11) <| tv (bge rfl rfl) rfl <| tv (pF (bF hc11)) rfl <| nj J10 (bOf hc11)
/-! ### fettle/graph.Next -/
abbrev graph_Next.R (r : List (List Int)) (v : Value) (A : List FP) : Prop := ∃ (w1 : Value) (G1 : FP), w1 = v ∧ A = [G1] ∧ SlO 32 (kSl 3 (kInt .i64)) r w1 G1
def graph_Next.nx9  (x15 : List (List Int)) : Option (List (List Int)) :=
  some x15
def graph_Next.nx24 (x14 : Int) (x35 : List (List Int)) : Option (Ex (List (List Int)) (List (List Int) × Int)) :=
  some (.go (x35, (w64 (x14 + 1))))
def graph_Next.jn34 (x34 : Int) (x38 : List (List Int)) : Option (Ex (List (List Int)) (List (List Int) × Int)) :=
  some (.go (x38, (w64 (x34 + 1))))
def graph_Next.bd24 (x14 : Int) (x18 : PBlock) (x31 : List (List Int)) (x34 : Int) : Option (Ex (List (List Int)) (List (List Int) × Int)) :=
  if x34 < (len x18.term.to) then
    (idx x18.term.to x34).bind fun x41 =>
    (if x41 ≥ 0 ∧ x41 < (len x31) then (idx x31 x14).bind fun x67 =>
    (slices_Contains x67 x41).bind fun x75 =>
    some (!x75) else some false).bind fun t47 =>
    if t47 = true then
      (idx x31 x14).bind fun x48 =>
      (cat x48 [x41]).bind fun x58 =>
      graph_Next.jn34 x34 (x31.set (x14).toNat x58)
    else
      graph_Next.jn34 x34 x31
  else
    some (.ret x31)
def graph_Next.bd9 (a1 : PFunc) (x11 : List (List Int)) (x14 : Int) : Option (Ex (List (List Int)) (List (List Int) × Int)) :=
  if x14 < (len a1.blocks) then
    (idx a1.blocks x14).bind fun x18 =>
    (whl (fun (s : (List (List Int) × Int)) => graph_Next.bd24 x14 x18 s.1 s.2) FUEL (x11, 0)).bind fun z =>
    graph_Next.nx24 x14 z
  else
    some (.ret x11)
def graph_Next (a1 : PFunc) : Option (List (List Int)) :=
  (mkl (len a1.blocks) ([] : List Int)).bind fun x7 =>
  (whl (fun (s : (List (List Int) × Int)) => graph_Next.bd9 a1 s.1 s.2) FUEL (x7, 0)).bind fun z =>
  graph_Next.nx9 z
set_option maxHeartbeats 4000000 in
theorem graph_Next_ok {E : World} {H : FP} {w : World} {a1 : PFunc} {v2 : Value} {v4 : Value} {r : List (List Int)} (h3 : SlI (kInt .i64) H a1.regs v2) (h5 : SlI kBlock H a1.blocks v4) (hp : graph_Next a1 = some r) (hst : St E H [] w) :
    Fn Tryd.prog 21 #[.agg #[.int .i64 a1.params, .int .i64 a1.result, v2, v4]] w fun v w' => ∃ A, graph_Next.R r v A ∧ St E H A w' := by
 refine fb 58 [.tmp 2] Tryd.func21 rfl rfl rfl rfl rfl hst <| sr <| tb [.int .i64 a1.params, .int .i64 a1.result, v2, v4] rfl rfl fun b6 => ta rfl <| nz <| sr <| tv (fa f41_3 rfl) rfl <| tv (lb s39 0 rfl rfl rfl) rfl <| tv (ln u39 h5 rfl) rfl <| tk (k := (kSl 3 (kInt .i64))) u65 i32 hp ⟨_, rfl, SlO.nil 3⟩ rfl rfl rfl rfl rfl rfl fun x7 v8 F9 h10 hp => ta rfl <| nz <| TC.seq fun K2 k3 => sr <| tv (fa f41_3 rfl) rfl <| tv (lb s39 1 rfl rfl rfl) rfl <| tv (ln u39 h5 rfl) rfl <| tm rfl <| nz <| TC.block <| bE hp fun z_5 hz6 hr7 => ?_
 have J11 {x15 F16 e10} (h17 : SlO 32 (kSl 3 (kInt .i64)) x15 v8 F16) (hq12 : x15 = z_5) : ∀ w, St E H [F16] w → K2 (ovr e10 [(3, v8)]) w := by
  subst hq12
  replace hp : graph_Next.nx9 x15 = some r := hr7
  exact tg k3 <| sr <| tm rfl <| ta rfl <| nz <| TC.ret <| rt hp [0] ⟨v8, F16, rfl, rfl, h17⟩
 refine lp hz6 [0] rfl (fun s e L => ∃ x11 x14 F12 e4, s = (x11, x14) ∧ SlO 32 (kSl 3 (kInt .i64)) x11 v8 F12 ∧ e = ovr e4 [(3, v8), (13, v4), (14, .int .i64 (len a1.blocks)), (15, .int .i64 x14)] ∧ L = [F12]) ⟨_, _, F9, _, rfl, h10, ovr_eq _ _ rfl, rfl⟩ ?_
 rintro _ _ _ ⟨x11, x14, F12, e4, rfl, h13, rfl, rfl⟩ X8 hp hx9
 replace hp : graph_Next.bd9 a1 x11 x14 = some X8 := hp
 refine sr <| tv (blt rfl rfl) rfl <| nz <| TC.seq fun K13 k14 => cD rfl hp (fun hc15 hp => ?_) fun hc15 hp => ?_
 · refine sk k14 rfl <| TC.seq fun K16 k17 => TC.block <| sr <| tm rfl <| ti u39 i60 h5 hp rfl rfl rfl rfl ?_
   rintro x18 b19 o20 _ hp ⟨v24, v26, v28, rfl, h25, h27, h29⟩ h23
   refine tv (lR (ds := [v24, v26, .int .i64 x18.term.kind, .int .i64 x18.term.arg, v28]) ag_60 sH h23 0 rfl rfl rfl) rfl <| tl i60 rfl fun b30 => ta rfl <| tS 0 m60 rfl rfl [v24, v26, .int .i64 x18.term.kind, .int .i64 x18.term.arg, v28] rfl (oc (h25).one (oc (h27).one (oc rfl (oc rfl (oc (h29).one oc0))))) rfl rfl <| nz <| sr <| tv (fa f60_2 rfl) rfl <| tv (fa f56_2 rfl) rfl <| tv (lb s32 0 rfl rfl rfl) rfl <| tv (ln u32 h29 rfl) rfl <| tm rfl <| nz <| TC.block <| bE hp fun z_20 hz21 hr22 => ?_
   have J26 {x35 F36 e25} (h37 : SlO 32 (kSl 3 (kInt .i64)) x35 v8 F36) (hq27 : x35 = z_20) : ∀ w, St E H [F36] w → K16 (ovr e25 [(3, v8), (13, v4), (14, .int .i64 (len a1.blocks)), (15, .int .i64 x14)]) w := by
    subst hq27
    replace hp : graph_Next.nx24 x14 x35 = some X8 := hr22
    exact tg k17 <| TC.region <| tv (bad rfl rfl) rfl <| tm rfl <| nl <| gk hp [0] ⟨_, _, F36, _, rfl, h37, ovr_eq _ _ rfl, rfl⟩
   refine lp hz21 [1] rfl (fun s e L => ∃ x31 x34 F32 e19, s = (x31, x34) ∧ SlO 32 (kSl 3 (kInt .i64)) x31 v8 F32 ∧ e = ovr e19 [(3, v8), (4, .int .i64 x14), (13, v4), (14, .int .i64 (len a1.blocks)), (15, .int .i64 x14), (22, v28), (23, .int .i64 (len x18.term.to)), (24, .int .i64 x34)] ∧ L = [F32]) ⟨_, _, F12, _, rfl, h13, ovr_eq _ _ rfl, rfl⟩ ?_
   rintro _ _ _ ⟨x31, x34, F32, e19, rfl, h33, rfl, rfl⟩ X23 hp hx24
   replace hp : graph_Next.bd24 x14 x18 x31 x34 = some X23 := hp
   refine sr <| tv (blt rfl rfl) rfl <| nz <| TC.seq fun K28 k29 => cD rfl hp (fun hc30 hp => ?_) fun hc30 hp => ?_
   · refine sk k29 rfl <| TC.seq fun K31 k32 => ?_
     have J34 {x38 F39 e33} (h40 : SlO 32 (kSl 3 (kInt .i64)) x38 v8 F39) (hp : graph_Next.jn34 x34 x38 = some X23) : ∀ w, St E H [F39] w → K31 (ovr e33 [(3, v8), (4, .int .i64 x14), (13, v4), (14, .int .i64 (len a1.blocks)), (15, .int .i64 x14), (22, v28), (23, .int .i64 (len x18.term.to)), (24, .int .i64 x34)]) w := by
      exact tg k32 <| TC.region <| tv (bad rfl rfl) rfl <| tm rfl <| nl <| gk hp [0] ⟨_, _, F39, _, rfl, h40, ovr_eq _ _ rfl, rfl⟩
     refine TC.block <| sr <| ti u32 i3 h29 hp rfl rfl rfl rfl ?_
     rintro x41 b42 o43 _ hp rfl h46
     refine tv (lr s3 sH h46 0 rfl rfl) rfl <| ta rfl <| nz <| sr <| tm rfl <| tv (bge rfl rfl) rfl <| tm rfl <| TL.cut 5 fun K36 k37 => ?_
     have J38 {e40} : ∀ w, St E H [F32] w → K36 (ovr e40 [(35, .bool (decide (x41 ≥ 0 ∧ x41 < (len x31)))), (3, v8), (4, .int .i64 x14), (7, .int .i64 x41), (13, v4), (14, .int .i64 (len a1.blocks)), (15, .int .i64 x14), (22, v28), (23, .int .i64 (len x18.term.to)), (24, .int .i64 x34)]) w := by
      refine tlg k37 <| tm rfl <| bE hp fun t47 ht50 hp => TL.cut 8 fun K41 k42 => ?_
      have J43 {e45} : ∀ w, St E H [F32] w → K41 (ovr e45 [(44, .bool t47), (3, v8), (4, .int .i64 x14), (7, .int .i64 x41), (13, v4), (14, .int .i64 (len a1.blocks)), (15, .int .i64 x14), (22, v28), (23, .int .i64 (len x18.term.to)), (24, .int .i64 x34)]) w := by
       refine tlg k42 <| nz <| cB rfl hp (fun hc46 hp => ?_) fun hc46 hp => ?_
       · refine TC.region <| tm rfl <| tm rfl <| tm rfl <| tm rfl <| bE hp fun x48 hx47 hp => TL.open_ h33 hx47 ?_
         rintro b49 _ F51 F52 h53 ⟨v55, rfl, h56⟩
         exact tv (rv_ixH u65 i32 rfl rfl (idx_some hx47).1 h53) rfl <| tv (lr s32 (Src.at_ 0 rfl) (Hole.cells h53) 0 rfl rfl) rfl <| tm rfl <| tbs [(0, .int .i64 x41)] [.int .i64 x41] u32 i3 (by kernel_rfl) rfl rfl rfl rfl fun b57 => tp [2, 0, 1] [_,_,_] rfl rfl <| tf 2 0 [_,_,_,_] rfl <| tp2 u32 i3 h56 hp (RepL.to (RepL.cons (k := (kInt .i64)) (x := x41) ⟨rfl, rfl⟩ RepL.nil) rfl) rfl rfl rfl rfl rfl rfl rfl rfl rfl fun x58 v59 F60 h61 hp => tv (rv_ixH u65 i32 rfl rfl (idx_some hx47).1 h53) rfl <| tp [1, 0] [_,_] rfl rfl <| tsH h53 m32 0 rfl h61.o1 rfl fun F63 h64 => nl <| W.shut (a := x58) h64 ⟨_, rfl, h61⟩ fun F65 h66 => jn [0] (J34 h66 hp)
       · exact TC.skip <| jn [0] (J34 h33 hp)
      refine ifE ht50 (fun hc44 hp => ?_) fun hc44 hp => ?_
      · refine gy rfl (bT hc44) <| tm rfl <| gy rfl (bT hc44) <| tm rfl <| gy rfl (bT hc44) <| ti u65 i32 (h33).ro hp rfl rfl rfl rfl ?_
        rintro x67 b68 o69 _ hp ⟨v73, rfl, h74⟩ h72
        refine gy rfl (bT hc44) <| tv (lr s32 (Src.at_ 0 rfl) h72 0 rfl rfl) rfl <| gy rfl (bT hc44) <| tm rfl <| gy rfl (bT hc44) <| bE hp fun x75 hy52 hp => tc 0 [_] rfl c44 (fun _ => slices_Contains_ok (a1 := x67) (a4 := x41) (h74.mono (subB 0 rfl)) hy52) rfl ?_
        rintro _ _ ⟨rfl, rfl⟩
        refine gy rfl (bT hc44) <| tv (rv_not rfl) rfl <| tv (pT (bT hc44)) rfl ?_
        obtain rfl := Option.some.inj hp
        exact nj J43 rfl
      · refine gn rfl (bF hc44) rfl rfl <| gn rfl (bF hc44) rfl rfl <| gn rfl (bF hc44) rfl rfl <| gn rfl (bF hc44) rfl rfl <| gn rfl (bF hc44) rfl rfl <| gn rfl (bF hc44) rfl rfl <| gn rfl (bF hc44) rfl rfl <| tv (pF (bF hc44)) rfl ?_
        obtain rfl := Option.some.inj hp
        exact nj J43 rfl
     by_cases hc39 : x41 ≥ 0
     · exact gy rfl (bT hc39) <| tm rfl <| gy rfl (bT hc39) <| tm rfl <| gy rfl (bT hc39) <| tv (ln u65 h33.ro rfl) rfl <| gy rfl (bT hc39) <| tv (blt rfl rfl) rfl <| tv (pT (bT hc39)) rfl <| nj J38 (bAt hc39)
     · exact gn rfl (bF hc39) rfl rfl <| gn rfl (bF hc39) rfl rfl <| gn rfl (bF hc39) rfl rfl <| gn rfl (bF hc39) rfl rfl <| tv (pF (bF hc39)) rfl <| nj J38 (bAf hc39)
   · exact TC.exit <| jn [0] (J26 h33 (ex_ret hp hx24))
 · exact TC.exit <| jn [0] (J11 h13 (ex_ret hp hx9))
/-! ### fettle/live.table -/
abbrev live_table.R (r : List (List Bool)) (v : Value) (A : List FP) : Prop := ∃ (w1 : Value) (G1 : FP), w1 = v ∧ A = [G1] ∧ SlO 42 (kSl 4 kBool) r w1 G1
def live_table.nx9  (x15 : List (List Bool)) : Option (List (List Bool)) :=
  some x15
def live_table.bd9 (a1 : PFunc) (x7 : List (List Bool)) (x11 : List (List Bool)) (x14 : Int) : Option (Ex (List (List Bool)) (List (List Bool) × Int)) :=
  if x14 < (len x7) then
    (mkl (len a1.regs) false).bind fun x18 =>
    (idx x11 x14).bind fun x22 =>
    some (.go ((x11.set (x14).toNat x18), (w64 (x14 + 1))))
  else
    some (.ret x11)
def live_table (a1 : PFunc) : Option (List (List Bool)) :=
  (mkl (len a1.blocks) ([] : List Bool)).bind fun x7 =>
  (whl (fun (s : (List (List Bool) × Int)) => live_table.bd9 a1 x7 s.1 s.2) FUEL (x7, 0)).bind fun z =>
  live_table.nx9 z
theorem live_table_ok {E : World} {H : FP} {w : World} {a1 : PFunc} {v2 : Value} {v4 : Value} {r : List (List Bool)} (h3 : SlI (kInt .i64) H a1.regs v2) (h5 : SlI kBlock H a1.blocks v4) (hp : live_table a1 = some r) (hst : St E H [] w) :
    Fn Tryd.prog 23 #[.agg #[.int .i64 a1.params, .int .i64 a1.result, v2, v4]] w fun v w' => ∃ A, live_table.R r v A ∧ St E H A w' := by
 refine fb 23 [.tmp 2] Tryd.func23 rfl rfl rfl rfl rfl hst <| sr <| tb [.int .i64 a1.params, .int .i64 a1.result, v2, v4] rfl rfl fun b6 => ta rfl <| nz <| sr <| tv (fa f41_3 rfl) rfl <| tv (lb s39 0 rfl rfl rfl) rfl <| tv (ln u39 h5 rfl) rfl <| tk (k := (kSl 4 kBool)) u27 i42 hp ⟨_, rfl, SlO.nil 4⟩ rfl rfl rfl rfl rfl rfl fun x7 v8 F9 h10 hp => ta rfl <| nz <| TC.seq fun K2 k3 => sr <| tm rfl <| tv (ln u27 h10.ro rfl) rfl <| tm rfl <| nz <| TC.block <| bE hp fun z_5 hz6 hr7 => ?_
 have J11 {x15 F16 e10} (h17 : SlO 42 (kSl 4 kBool) x15 v8 F16) (hq12 : x15 = z_5) : ∀ w, St E H [F16] w → K2 (ovr e10 [(3, v8)]) w := by
  subst hq12
  replace hp : live_table.nx9 x15 = some r := hr7
  exact tg k3 <| sr <| tm rfl <| ta rfl <| nz <| TC.ret <| rt hp [0] ⟨v8, F16, rfl, rfl, h17⟩
 refine lp hz6 [1, 0] rfl (fun s e L => ∃ x11 x14 F12 e4, s = (x11, x14) ∧ SlO 42 (kSl 4 kBool) x11 v8 F12 ∧ e = ovr e4 [(1, .pointer (some ⟨b6, 0, none⟩)), (3, v8), (10, .int .i64 (len x7)), (11, .int .i64 x14)] ∧ L = [bx b6 41 [.int .i64 a1.params, .int .i64 a1.result, v2, v4], F12]) ⟨_, _, F9, _, rfl, h10, ovr_eq _ _ rfl, rfl⟩ ?_
 rintro _ _ _ ⟨x11, x14, F12, e4, rfl, h13, rfl, rfl⟩ X8 hp hx9
 replace hp : live_table.bd9 a1 x7 x11 x14 = some X8 := hp
 refine sr <| tv (blt rfl rfl) rfl <| nz <| TC.seq fun K13 k14 => cD rfl hp (fun hc15 hp => ?_) fun hc15 hp => ?_
 · exact sk k14 rfl <| TC.seq fun K16 k17 => TC.block <| sr <| tm rfl <| ta rfl <| nz <| TC.region <| tm rfl <| tm rfl <| tv (fa f41_2 rfl) rfl <| tv (lb s32 0 rfl rfl rfl) rfl <| tv (ln u32 h3 rfl) rfl <| tk (k := kBool) u42 i4 hp ⟨rfl, rfl⟩ rfl rfl rfl rfl rfl rfl fun x18 v19 F20 h21 hp => tO u27 i42 h13 hp rfl rfl rfl rfl fun x22 b23 o24 h25 hp => tp [2, 0, 1] [_,_,_] rfl rfl <| TL.stE (ds := [v19]) (u := v19) (a := x18) h13 h25 m42 rfl rfl (SlO.cells h21) ⟨_, rfl, h21⟩ fun F26 h27 => nl <| tg k17 <| TC.region <| tv (bad rfl rfl) rfl <| tm rfl <| nl <| gk hp [1, 0] ⟨_, _, F26, _, rfl, h27, ovr_eq _ _ rfl, rfl⟩
 · exact TC.exit <| jn [1] (J11 h13 (ex_ret hp hx9))
/-! ### fettle/live.begin -/
abbrev live_begin.R (r : List Bool) (v : Value) (A : List FP) : Prop := ∃ (w1 : Value) (G1 : FP), w1 = v ∧ A = [G1] ∧ SlO 4 kBool r w1 G1
def live_begin.nx22  (x32 : List Bool) : Option (List Bool) :=
  some x32
def live_begin.bd22 (a1 : PBlock) (x28 : List Bool) (x31 : Int) : Option (Ex (List Bool) (List Bool × Int)) :=
  if x31 < (len a1.phis) then
    (idx a1.phis x31).bind fun x35 =>
    (idx x28 x35.dst).bind fun x44 =>
    some (.go ((x28.set (x35.dst).toNat false), (w64 (x31 + 1))))
  else
    some (.ret x28)
def live_begin.nx13 (a1 : PBlock) (x25 : List Bool) : Option (List Bool) :=
  (whl (fun (s : (List Bool × Int)) => live_begin.bd22 a1 s.1 s.2) FUEL (x25, 0)).bind fun z =>
  live_begin.nx22 z
def live_begin.nx52 (x24 : Int) (x66 : List Bool) : Option (Ex (List Bool) (List Bool × Int)) :=
  some (.go (x66, (w64 (x24 - 1))))
def live_begin.bd52 (x50 : PInstr) (x62 : List Bool) (x65 : Int) : Option (Ex (List Bool) (List Bool × Int)) :=
  if x65 < (len x50.args) then
    (idx x50.args x65).bind fun x69 =>
    (idx x62 x69).bind fun x75 =>
    some (.go ((x62.set (x69).toNat true), (w64 (x65 + 1))))
  else
    some (.ret x62)
def live_begin.jn46 (x24 : Int) (x50 : PInstr) (x59 : List Bool) : Option (Ex (List Bool) (List Bool × Int)) :=
  (whl (fun (s : (List Bool × Int)) => live_begin.bd52 x50 s.1 s.2) FUEL (x59, 0)).bind fun z =>
  live_begin.nx52 x24 z
def live_begin.bd13 (a1 : PBlock) (x21 : List Bool) (x24 : Int) : Option (Ex (List Bool) (List Bool × Int)) :=
  if x24 ≥ 0 then
    (idx a1.ins x24).bind fun x50 =>
    if x50.dst ≥ 0 then
      (idx x21 x50.dst).bind fun x81 =>
      live_begin.jn46 x24 x50 (x21.set (x50.dst).toNat false)
    else
      live_begin.jn46 x24 x50 x21
  else
    some (.ret x21)
def live_begin.jn5 (a1 : PBlock) (x18 : List Bool) : Option (List Bool) :=
  (whl (fun (s : (List Bool × Int)) => live_begin.bd13 a1 s.1 s.2) FUEL (x18, (w64 ((len a1.ins) - 1)))).bind fun z =>
  live_begin.nx13 a1 z
def live_begin (a1 : PBlock) (a8 : List Bool) : Option (List Bool) :=
  (mkl (len a8) false).bind fun x12 =>
  if a1.term.arg ≥ 0 then
    (idx (cpy x12 a8) a1.term.arg).bind fun x87 =>
    live_begin.jn5 a1 ((cpy x12 a8).set (a1.term.arg).toNat true)
  else
    live_begin.jn5 a1 (cpy x12 a8)
set_option maxHeartbeats 4000000 in
theorem live_begin_ok {E : World} {H : FP} {w : World} {a1 : PBlock} {a8 : List Bool} {v2 : Value} {v4 : Value} {v6 : Value} {v9 : Value} {r : List Bool} (h3 : SlI kPhi H a1.phis v2) (h5 : SlI kInstr H a1.ins v4) (h7 : SlI (kInt .i64) H a1.term.to v6) (h10 : SlI kBool H a8 v9) (hp : live_begin a1 a8 = some r) (hst : St E H [] w) :
    Fn Tryd.prog 24 #[.agg #[v2, v4, .int .i64 a1.term.kind, .int .i64 a1.term.arg, v6], v9] w fun v w' => ∃ A, live_begin.R r v A ∧ St E H A w' := by
 refine fb 71 [.tmp 4] Tryd.func24 rfl rfl rfl rfl rfl hst <| sr <| tb [v2, v4, .int .i64 a1.term.kind, .int .i64 a1.term.arg, v6] rfl rfl fun b11 => ta rfl <| nz <| sr <| tm rfl <| tv (ln u42 h10 rfl) rfl <| tk (k := kBool) u42 i4 hp ⟨rfl, rfl⟩ rfl rfl rfl rfl rfl rfl fun x12 v13 F14 h15 hp => ta rfl <| nz <| sr <| tm rfl <| tm rfl <| TL.copy fBool u42 i4 (ltb rfl) rfl rfl rfl rfl h15 h10 sH fun F16 h17 => nz <| TC.seq fun K2 k3 => ?_
 have J5 {x18 F19 e4} (h20 : SlO 4 kBool x18 v13 F19) (hp : live_begin.jn5 a1 x18 = some r) : ∀ w, St E H [bx b11 60 [v2, v4, .int .i64 a1.term.kind, .int .i64 a1.term.arg, v6], F19] w → K2 (ovr e4 [(2, .pointer (some ⟨b11, 0, none⟩)), (5, v13)]) w := by
  refine tg k3 <| TC.seq fun K6 k7 => sr <| tv (fa f60_1 rfl) rfl <| tv (lb s58 0 rfl rfl rfl) rfl <| tv (ln u58 h5 rfl) rfl <| tv (bsu rfl rfl) rfl <| ta rfl <| nz <| TC.block <| bE hp fun z_9 hz10 hr11 => ?_
  have J35 {x25 F26 e14} (h27 : SlO 4 kBool x25 v13 F26) (hq36 : x25 = z_9) : ∀ w, St E H [bx b11 60 [v2, v4, .int .i64 a1.term.kind, .int .i64 a1.term.arg, v6], F26] w → K6 (ovr e14 [(2, .pointer (some ⟨b11, 0, none⟩)), (5, v13)]) w := by
   subst hq36
   replace hp : live_begin.nx13 a1 x25 = some r := hr11
   refine tg k7 <| TC.seq fun K15 k16 => sr <| tv (fa f60_0 rfl) rfl <| tv (lb s57 0 rfl rfl rfl) rfl <| tv (ln u57 h3 rfl) rfl <| tm rfl <| nz <| TC.block <| bE hp fun z_18 hz19 hr20 => ?_
   have J24 {x32 F33 e23} (h34 : SlO 4 kBool x32 v13 F33) (hq25 : x32 = z_18) : ∀ w, St E H [F33] w → K15 (ovr e23 [(5, v13)]) w := by
    subst hq25
    replace hp : live_begin.nx22 x32 = some r := hr20
    exact tg k16 <| sr <| tm rfl <| ta rfl <| nz <| TC.ret <| rt hp [0] ⟨v13, F33, rfl, rfl, h34⟩
   refine lp hz19 [1] rfl (fun s e L => ∃ x28 x31 F29 e17, s = (x28, x31) ∧ SlO 4 kBool x28 v13 F29 ∧ e = ovr e17 [(5, v13), (59, v2), (60, .int .i64 (len a1.phis)), (61, .int .i64 x31)] ∧ L = [F29]) ⟨_, _, F26, _, rfl, h27, ovr_eq _ _ rfl, rfl⟩ ?_
   rintro _ _ _ ⟨x28, x31, F29, e17, rfl, h30, rfl, rfl⟩ X21 hp hx22
   replace hp : live_begin.bd22 a1 x28 x31 = some X21 := hp
   refine sr <| tv (blt rfl rfl) rfl <| nz <| TC.seq fun K26 k27 => cD rfl hp (fun hc28 hp => ?_) fun hc28 hp => ?_
   · refine sk k27 rfl <| TC.seq fun K29 k30 => TC.block <| sr <| ti u57 i64 h3 hp rfl rfl rfl rfl ?_
     rintro x35 b36 o37 _ hp ⟨v41, rfl, h42⟩ h40
     exact tv (lR (ds := [.int .i64 x35.dst, v41]) ag_64 sH h40 0 rfl rfl rfl) rfl <| tl i64 rfl fun b43 => tS 0 m64 rfl rfl [.int .i64 x35.dst, v41] rfl (oc rfl (oc (h42).one oc0)) rfl rfl <| nz <| TC.region <| tm rfl <| tv (fa f64_0 rfl) rfl <| tv (lb s3 0 rfl rfl rfl) rfl <| tO u42 i4 h30 hp rfl rfl rfl rfl fun x44 b45 o46 h47 hp => tp [1, 0] [_,_] rfl rfl <| tE h30 h47 m4 rfl ⟨rfl, rfl⟩ w1 fun F48 h49 => nl <| tg k30 <| TC.region <| tv (bad rfl rfl) rfl <| tm rfl <| nl <| gk hp [0] ⟨_, _, F48, _, rfl, h49, ovr_eq _ _ rfl, rfl⟩
   · exact TC.exit <| jn [0] (J24 h30 (ex_ret hp hx22))
  refine lp hz10 [0, 1] rfl (fun s e L => ∃ x21 x24 F22 e8, s = (x21, x24) ∧ SlO 4 kBool x21 v13 F22 ∧ e = ovr e8 [(2, .pointer (some ⟨b11, 0, none⟩)), (5, v13), (6, .int .i64 x24)] ∧ L = [bx b11 60 [v2, v4, .int .i64 a1.term.kind, .int .i64 a1.term.arg, v6], F22]) ⟨_, _, F19, _, rfl, h20, ovr_eq _ _ rfl, rfl⟩ ?_
  rintro _ _ _ ⟨x21, x24, F22, e8, rfl, h23, rfl, rfl⟩ X12 hp hx13
  replace hp : live_begin.bd13 a1 x21 x24 = some X12 := hp
  refine TC.seq fun K37 k38 => sr <| tm rfl <| tv (bge rfl rfl) rfl <| nz <| cD rfl hp (fun hc39 hp => ?_) fun hc39 hp => ?_
  · refine sk k38 rfl <| TC.seq fun K40 k41 => TC.block <| sr <| tv (fa f60_1 rfl) rfl <| tv (lb s58 0 rfl rfl rfl) rfl <| tm rfl <| ti u58 i62 h5 hp rfl rfl rfl rfl ?_
    rintro x50 b51 o52 _ hp ⟨v56, rfl, h57⟩ h55
    refine tv (lR (ds := [.int .i64 x50.op, .int .i64 x50.dst, v56, .int .i64 x50.imm, .int .i64 x50.fn]) ag_62 sH h55 0 rfl rfl rfl) rfl <| tl i62 rfl fun b58 => tS 0 m62 rfl rfl [.int .i64 x50.op, .int .i64 x50.dst, v56, .int .i64 x50.imm, .int .i64 x50.fn] rfl (oc rfl (oc rfl (oc (h57).one (oc rfl (oc rfl oc0))))) rfl rfl <| nz <| TC.seq fun K43 k44 => ?_
    have J46 {x59 F60 e45} (h61 : SlO 4 kBool x59 v13 F60) (hp : live_begin.jn46 x24 x50 x59 = some X12) : ∀ w, St E H [bx b11 60 [v2, v4, .int .i64 a1.term.kind, .int .i64 a1.term.arg, v6], F60, bx b58 62 [.int .i64 x50.op, .int .i64 x50.dst, v56, .int .i64 x50.imm, .int .i64 x50.fn]] w → K43 (ovr e45 [(2, .pointer (some ⟨b11, 0, none⟩)), (5, v13), (6, .int .i64 x24), (7, .pointer (some ⟨b58, 0, none⟩))]) w := by
     refine tg k44 <| sr <| tv (fa f62_2 rfl) rfl <| tv (lb s32 2 rfl rfl rfl) rfl <| tv (ln u32 h57 rfl) rfl <| tm rfl <| nz <| TC.block <| bE hp fun z_48 hz49 hr50 => ?_
     have J54 {x66 F67 e53} (h68 : SlO 4 kBool x66 v13 F67) (hq55 : x66 = z_48) : ∀ w, St E H [bx b11 60 [v2, v4, .int .i64 a1.term.kind, .int .i64 a1.term.arg, v6], F67] w → K40 (ovr e53 [(2, .pointer (some ⟨b11, 0, none⟩)), (5, v13), (6, .int .i64 x24)]) w := by
      subst hq55
      replace hp : live_begin.nx52 x24 x66 = some X12 := hr50
      exact tg k41 <| TC.region <| tm rfl <| tv (bsu rfl rfl) rfl <| ta rfl <| nl <| gk hp [0, 1] ⟨_, _, F67, _, rfl, h68, ovr_eq _ _ rfl, rfl⟩
     refine lp hz49 [0, 1] rfl (fun s e L => ∃ x62 x65 F63 e47, s = (x62, x65) ∧ SlO 4 kBool x62 v13 F63 ∧ e = ovr e47 [(2, .pointer (some ⟨b11, 0, none⟩)), (5, v13), (6, .int .i64 x24), (48, v56), (49, .int .i64 (len x50.args)), (50, .int .i64 x65)] ∧ L = [bx b11 60 [v2, v4, .int .i64 a1.term.kind, .int .i64 a1.term.arg, v6], F63]) ⟨_, _, F60, _, rfl, h61, ovr_eq _ _ rfl, rfl⟩ ?_
     rintro _ _ _ ⟨x62, x65, F63, e47, rfl, h64, rfl, rfl⟩ X51 hp hx52
     replace hp : live_begin.bd52 x50 x62 x65 = some X51 := hp
     refine sr <| tv (blt rfl rfl) rfl <| nz <| TC.seq fun K56 k57 => cD rfl hp (fun hc58 hp => ?_) fun hc58 hp => ?_
     · refine sk k57 rfl <| TC.seq fun K59 k60 => TC.block <| sr <| ti u32 i3 h57 hp rfl rfl rfl rfl ?_
       rintro x69 b70 o71 _ hp rfl h74
       exact tv (lr s3 sH h74 0 rfl rfl) rfl <| ta rfl <| nz <| TC.region <| tm rfl <| tm rfl <| tO u42 i4 h64 hp rfl rfl rfl rfl fun x75 b76 o77 h78 hp => tp [1, 0] [_,_] rfl rfl <| tE h64 h78 m4 rfl ⟨rfl, rfl⟩ w1 fun F79 h80 => nl <| tg k60 <| TC.region <| tv (bad rfl rfl) rfl <| tm rfl <| nl <| gk hp [1, 0] ⟨_, _, F79, _, rfl, h80, ovr_eq _ _ rfl, rfl⟩
     · exact TC.exit <| jn [0, 1] (J54 h64 (ex_ret hp hx52))
    refine sr <| tv (fa f62_1 rfl) rfl <| tv (lb s3 0 rfl rfl rfl) rfl <| tv (bge rfl rfl) rfl <| nz <| cD rfl hp (fun hc65 hp => ?_) fun hc65 hp => ?_
    · exact TC.region <| tm rfl <| tv (fa f62_1 rfl) rfl <| tv (lb s3 0 rfl rfl rfl) rfl <| tO u42 i4 h23 hp rfl rfl rfl rfl fun x81 b82 o83 h84 hp => tp [2, 0, 1] [_,_,_] rfl rfl <| tE h23 h84 m4 rfl ⟨rfl, rfl⟩ w1 fun F85 h86 => nl <| jn [2, 0, 1] (J46 h86 hp)
    · exact TC.skip <| jn [1, 2, 0] (J46 h23 hp)
  · exact TC.exit <| jn [0, 1] (J35 h23 (ex_ret hp hx13))
 refine sr <| tv (fa f60_2 rfl) rfl <| tv (fa f56_1 rfl) rfl <| tv (lb s3 1 rfl rfl rfl) rfl <| tv (bge rfl rfl) rfl <| nz <| cD rfl hp (fun hc69 hp => ?_) fun hc69 hp => ?_
 · exact TC.region <| tm rfl <| tv (fa f60_2 rfl) rfl <| tv (fa f56_1 rfl) rfl <| tv (lb s3 1 rfl rfl rfl) rfl <| tO u42 i4 h17 hp rfl rfl rfl rfl fun x87 b88 o89 h90 hp => tE h17 h90 m4 rfl ⟨rfl, rfl⟩ w1 fun F91 h92 => nl <| jn [1, 0] (J5 h92 hp)
 · exact TC.skip <| jn [1, 0] (J5 h17 hp)
end Go.Proofs.YteaknconpkklhaaDoor
