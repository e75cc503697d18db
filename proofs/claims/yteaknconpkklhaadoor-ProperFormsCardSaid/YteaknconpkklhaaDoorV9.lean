/- The walk through the program's functions: each one's pure reading, and that a call does what it says. No conditions. -/
import Derived.Test.YteaknconpkklhaaDoorV8
set_option linter.unusedVariables false
set_option linter.unusedSimpArgs false
namespace Go.Proofs.YteaknconpkklhaaDoor
open Go Go.Proofs
/-! ### fettle/fettleref08.Count -/
abbrev fettleref08_Count.R (r : Int) (v : Value) (A : List FP) : Prop := .int .i64 r = v ∧ A = []
def fettleref08_Count.nx8  (x10 : Int) : Option Int :=
  some x10
def fettleref08_Count.jn18 (x9 : Int) (x11 : Int) : Option (Ex Int (Int × Int)) :=
  some (.go (x11, (w64 (x9 + 1))))
def fettleref08_Count.nx35 (a1 : PFunc) (a6 : Int) (x9 : Int) (x17 : Int) : Option (Ex Int (Int × Int)) :=
  (idx a1.blocks x9).bind fun x18 =>
  if x18.term.arg = a6 then
    fettleref08_Count.jn18 x9 (w64 (x17 + 1))
  else
    fettleref08_Count.jn18 x9 x17
def fettleref08_Count.nx52 (x16 : Int) (x44 : Int) : Option (Ex Int (Int × Int)) :=
  some (.go (x44, (w64 (x16 + 1))))
def fettleref08_Count.jn64 (x43 : Int) (x65 : Int) : Option (Ex Int (Int × Int)) :=
  some (.go (x65, (w64 (x43 + 1))))
def fettleref08_Count.bd52 (a1 : PFunc) (a6 : Int) (x9 : Int) (x16 : Int) (x42 : Int) (x43 : Int) : Option (Ex Int (Int × Int)) :=
  (idx a1.blocks x9).bind fun x45 =>
  (idx x45.ins x16).bind fun x57 =>
  if x43 < (len x57.args) then
    (idx a1.blocks x9).bind fun x66 =>
    (idx x66.ins x16).bind fun x78 =>
    (idx x78.args x43).bind fun x86 =>
    if x86 = a6 then
      fettleref08_Count.jn64 x43 (w64 (x42 + 1))
    else
      fettleref08_Count.jn64 x43 x42
  else
    some (.ret x42)
def fettleref08_Count.bd35 (a1 : PFunc) (a6 : Int) (x9 : Int) (x15 : Int) (x16 : Int) : Option (Ex Int (Int × Int)) :=
  (idx a1.blocks x9).bind fun x30 =>
  if x16 < (len x30.ins) then
    (whl (fun (s : (Int × Int)) => fettleref08_Count.bd52 a1 a6 x9 x16 s.1 s.2) FUEL (x15, 0)).bind fun z =>
    fettleref08_Count.nx52 x16 z
  else
    some (.ret x15)
def fettleref08_Count.nx26 (a1 : PFunc) (a6 : Int) (x9 : Int) (x14 : Int) : Option (Ex Int (Int × Int)) :=
  (whl (fun (s : (Int × Int)) => fettleref08_Count.bd35 a1 a6 x9 s.1 s.2) FUEL (x14, 0)).bind fun z =>
  fettleref08_Count.nx35 a1 a6 x9 z
def fettleref08_Count.nx86 (x13 : Int) (x106 : Int) : Option (Ex Int (Int × Int)) :=
  some (.go (x106, (w64 (x13 + 1))))
def fettleref08_Count.jn98 (x105 : Int) (x127 : Int) : Option (Ex Int (Int × Int)) :=
  some (.go (x127, (w64 (x105 + 1))))
def fettleref08_Count.bd86 (a1 : PFunc) (a6 : Int) (x9 : Int) (x13 : Int) (x104 : Int) (x105 : Int) : Option (Ex Int (Int × Int)) :=
  (idx a1.blocks x9).bind fun x107 =>
  (idx x107.phis x13).bind fun x119 =>
  if x105 < (len x119.args) then
    (idx a1.blocks x9).bind fun x128 =>
    (idx x128.phis x13).bind fun x140 =>
    (idx x140.args x105).bind fun x148 =>
    if x148 = a6 then
      fettleref08_Count.jn98 x105 (w64 (x104 + 1))
    else
      fettleref08_Count.jn98 x105 x104
  else
    some (.ret x104)
def fettleref08_Count.bd26 (a1 : PFunc) (a6 : Int) (x9 : Int) (x12 : Int) (x13 : Int) : Option (Ex Int (Int × Int)) :=
  (idx a1.blocks x9).bind fun x92 =>
  if x13 < (len x92.phis) then
    (whl (fun (s : (Int × Int)) => fettleref08_Count.bd86 a1 a6 x9 x13 s.1 s.2) FUEL (x12, 0)).bind fun z =>
    fettleref08_Count.nx86 x13 z
  else
    some (.ret x12)
def fettleref08_Count.bd8 (a1 : PFunc) (a6 : Int) (x8 : Int) (x9 : Int) : Option (Ex Int (Int × Int)) :=
  if x9 < (len a1.blocks) then
    (whl (fun (s : (Int × Int)) => fettleref08_Count.bd26 a1 a6 x9 s.1 s.2) FUEL (x8, 0)).bind fun z =>
    fettleref08_Count.nx26 a1 a6 x9 z
  else
    some (.ret x8)
def fettleref08_Count (a1 : PFunc) (a6 : Int) : Option Int :=
  (whl (fun (s : (Int × Int)) => fettleref08_Count.bd8 a1 a6 s.1 s.2) FUEL (0, 0)).bind fun z =>
  fettleref08_Count.nx8 z
/-! ### fettle/fettlelaw08.LiveTells -/
abbrev fettlelaw08_LiveTells.R (r : Bool) (v : Value) (A : List FP) : Prop := .bool r = v ∧ A = []
def fettlelaw08_LiveTells.nx119 (x6 : Bool) : Option Bool :=
  some x6
def fettlelaw08_LiveTells.nx142 (x40 : Int) : Option (Ex (Ex Bool Unit) Int) :=
  some (.go (w64 (x40 + 1)))
def fettlelaw08_LiveTells.bd142 (x8 : List (List Bool) × List (List Bool) × GErr) (x40 : Int) (x41 : List Bool × List Bool) (x55 : Int) : Option (Ex (Ex Bool Unit) Int) :=
  if x55 < (len x8.1) then
    (idx x8.1 x55).bind fun x56 =>
    (idx x56 x40).bind fun x64 =>
    (idx x41.1 x55).bind fun x70 =>
    (if (!(x64 == x70)) = true then some true else (idx x8.2.1 x55).bind fun x77 =>
    (idx x77 x40).bind fun x85 =>
    (idx x41.2 x55).bind fun x91 =>
    some (!(x85 == x91))).bind fun t76 =>
    if t76 = true then
      some (.ret (.ret false))
    else
      some (.go (w64 (x55 + 1)))
  else
    some (.ret (.go ()))
def fettlelaw08_LiveTells.bd119 (x8 : List (List Bool) × List (List Bool) × GErr) (x18 : List Int × GErr) (x28 : PFunc) (x40 : Int) : Option (Ex (Ex Bool Unit) Int) :=
  if x40 < (len x28.regs) then
    (fettleref08_Live x28 x40).bind fun x41 =>
    (idx x18.1 x40).bind fun x48 =>
    (fettleref08_Count x28 x40).bind fun x54 =>
    if ¬ x48 = x54 then
      some (.ret (.ret false))
    else
      (whl (fun (s : Int) => fettlelaw08_LiveTells.bd142 x8 x40 x41 s) FUEL 0).bind fun z =>
      match z with
        | .ret r => some (.ret (.ret r))
        | .go p => fettlelaw08_LiveTells.nx142 x40
  else
    some (.ret (.go ()))
def fettlelaw08_LiveTells.nx110 (x6 : Bool) (x8 : List (List Bool) × List (List Bool) × GErr) (x18 : List Int × GErr) (x28 : PFunc) : Option Bool :=
  (whl (fun (s : Int) => fettlelaw08_LiveTells.bd119 x8 x18 x28 s) FUEL 0).bind fun z =>
  match z with
    | .ret r => some r
    | .go p => fettlelaw08_LiveTells.nx119 x6
def fettlelaw08_LiveTells.bd110 (x8 : List (List Bool) × List (List Bool) × GErr) (x28 : PFunc) (x39 : Int) : Option (Ex (Ex Bool Unit) Int) :=
  if x39 < (len x8.1) then
    (idx x8.1 x39).bind fun x97 =>
    (if ¬ (len x97) = (len x28.regs) then some true else (idx x8.2.1 x39).bind fun x106 =>
    some (decide (¬ (len x106) = (len x28.regs)))).bind fun t105 =>
    if t105 = true then
      some (.ret (.ret false))
    else
      some (.go (w64 (x39 + 1)))
  else
    some (.ret (.go ()))
def fettlelaw08_LiveTells (a1 : PModule) (a4 : Int) : Option Bool :=
  (fettlelaw08_up).bind fun x6 =>
  (fettleref02_Small a1).bind fun x7 =>
  if (!x7) = true then
    some x6
  else
    (live_Live a1 a4).bind fun x8 =>
    (live_Count a1 a4).bind fun x18 =>
    (fettlelaw00_Of x8.2.2).bind fun x25 =>
    (fettlelaw00_Of x18.2).bind fun x26 =>
    (fettleref02_Module a1).bind fun x27 =>
    if ¬ x27.1 = 0 then
      some (decide (((((x6 = true ∧ x25.1 = x27.1) ∧ x25.2 = x27.2) ∧ x26.1 = x27.1) ∧ x26.2 = x27.2) ∧ (((len x8.1) = 0 ∧ (len x8.2.1) = 0) ∧ (len x18.1) = 0)))
    else
      if a4 < 0 ∨ a4 ≥ (len a1.funcs) then
        some (decide (((x6 = true ∧ x8.2.2 = (GErr.code 1)) ∧ x18.2 = (GErr.code 1)) ∧ (((len x8.1) = 0 ∧ (len x8.2.1) = 0) ∧ (len x18.1) = 0)))
      else
        (idx a1.funcs a4).bind fun x28 =>
        if ((((¬ x8.2.2 = GErr.no) ∨ (¬ x18.2 = GErr.no)) ∨ (¬ (len x8.1) = (len x28.blocks))) ∨ (¬ (len x8.2.1) = (len x28.blocks))) ∨ (¬ (len x18.1) = (len x28.regs)) then
          some false
        else
          (whl (fun (s : Int) => fettlelaw08_LiveTells.bd110 x8 x28 s) FUEL 0).bind fun z =>
          match z with
            | .ret r => some r
            | .go p => fettlelaw08_LiveTells.nx110 x6 x8 x18 x28
/-! ### fettle/graph.order$1 -/
abbrev graph_order_1.R (b2 : Nat) (b17 : Nat) (r : List Bool × List Int) (v : Value) (A : List FP) : Prop := ∃ (w1 : Value) (G1 : FP) (w2 : Value) (G2 : FP), .tuple #[] = v ∧ A = [bx b2 42 [w1], G1, bx b17 32 [w2], G2] ∧ SlO 4 kBool r.1 w1 G1 ∧ SlO 3 (kInt .i64) r.2 w2 G2
def graph_order_1.nx10 (a1 : Int) (x46 : List Bool) (x50 : List Int) : Option (List Bool × List Int) :=
  (cat x50 [a1]).bind fun x55 =>
  some (x46, x55)
def graph_order_1.jn21 (x45 : Int) (x59 : List Bool) (x63 : List Int) : Option (Ex (List Bool × List Int) (List Bool × List Int × Int)) :=
  some (.go (x59, x63, (w64 (x45 + 1))))
def graph_order_1.bd10 (a9 : List (List Int)) (rec : Int → (List Bool) → (List (List Int)) → (List Int) → Option (List Bool × List Int)) (x29 : List Int) (x37 : List Bool) (x41 : List Int) (x45 : Int) : Option (Ex (List Bool × List Int) (List Bool × List Int × Int)) :=
  if x45 < (len x29) then
    (idx x29 x45).bind fun x67 =>
    (idx x37 x67).bind fun x73 =>
    if (!x73) = true then
      (rec x67 x37 a9 x41).bind fun x79 =>
      graph_order_1.jn21 x45 x79.1 x79.2
    else
      graph_order_1.jn21 x45 x37 x41
  else
    some (.ret (x37, x41))
def graph_order_1.body (rec : Int → (List Bool) → (List (List Int)) → (List Int) → Option (List Bool × List Int)) (a1 : Int) (a3 : List Bool) (a9 : List (List Int)) (a18 : List Int) : Option (List Bool × List Int) :=
  (idx a3 a1).bind fun x23 =>
  (idx a9 a1).bind fun x29 =>
  (whl (fun (s : (List Bool × List Int × Int)) => graph_order_1.bd10 a9 rec x29 s.1 s.2.1 s.2.2) FUEL ((a3.set (a1).toNat true), a18, 0)).bind fun z =>
  graph_order_1.nx10 a1 z.1 z.2
set_option maxHeartbeats 4000000 in
theorem graph_order_1.body_ok {rec : Int → (List Bool) → (List (List Int)) → (List Int) → Option (List Bool × List Int)} (hrec : ∀ (E : World) (H : FP) (w : World) (a1 : Int) (a3 : List Bool) (a9 : List (List Int)) (a18 : List Int) (b2 : Nat) (v4 : Value) (F5 : FP) (b8 : Nat) (o10 : Nat) (v12 : Value) (b14 : Nat) (o15 : Nat) (b17 : Nat) (v19 : Value) (F20 : FP) (r : List Bool × List Int) (h6 : SlO 4 kBool a3 v4 F5) (h11 : CellsIn H b8 o10 [v12]) (h13 : SlI (kSl 3 (kInt .i64)) H a9 v12) (h16 : CellsIn H b14 o15 [.func (.func 74) #[] #[.pointer (some ⟨b2, 0, none⟩), .pointer (some ⟨b8, o10, none⟩), .pointer (some ⟨b14, o15, none⟩), .pointer (some ⟨b17, 0, none⟩)]]) (h21 : SlO 3 (kInt .i64) a18 v19 F20), rec a1 a3 a9 a18 = some r → St E H [bx b2 42 [v4], F5, bx b17 32 [v19], F20] w →
    Fn Tryd.prog 74 #[.int .i64 a1, .pointer (some ⟨b2, 0, none⟩), .pointer (some ⟨b8, o10, none⟩), .pointer (some ⟨b14, o15, none⟩), .pointer (some ⟨b17, 0, none⟩)] w fun v w' => ∃ A, graph_order_1.R b2 b17 r v A ∧ St E H A w')
    {E : World} {H : FP} {w : World} {a1 : Int} {a3 : List Bool} {a9 : List (List Int)} {a18 : List Int} {b2 : Nat} {v4 : Value} {F5 : FP} {b8 : Nat} {o10 : Nat} {v12 : Value} {b14 : Nat} {o15 : Nat} {b17 : Nat} {v19 : Value} {F20 : FP} {r : List Bool × List Int} (h6 : SlO 4 kBool a3 v4 F5) (h11 : CellsIn H b8 o10 [v12]) (h13 : SlI (kSl 3 (kInt .i64)) H a9 v12) (h16 : CellsIn H b14 o15 [.func (.func 74) #[] #[.pointer (some ⟨b2, 0, none⟩), .pointer (some ⟨b8, o10, none⟩), .pointer (some ⟨b14, o15, none⟩), .pointer (some ⟨b17, 0, none⟩)]]) (h21 : SlO 3 (kInt .i64) a18 v19 F20) (hp : graph_order_1.body rec a1 a3 a9 a18 = some r) (hst : St E H [bx b2 42 [v4], F5, bx b17 32 [v19], F20] w) :
    Fn Tryd.prog 74 #[.int .i64 a1, .pointer (some ⟨b2, 0, none⟩), .pointer (some ⟨b8, o10, none⟩), .pointer (some ⟨b14, o15, none⟩), .pointer (some ⟨b17, 0, none⟩)] w fun v w' => ∃ A, graph_order_1.R b2 b17 r v A ∧ St E H A w' := by
 refine fb 33 [] Tryd.func74 rfl rfl rfl rfl rfl hst <| sr <| tv (lb s42 0 rfl rfl rfl) rfl <| tm rfl <| tO u42 i4 h6 hp rfl rfl rfl rfl fun x23 b24 o25 h26 hp => tp [1, 0, 2, 3] [_,_,_,_] rfl rfl <| tE h6 h26 m4 rfl ⟨rfl, rfl⟩ w1 fun F27 h28 => nz <| TC.seq fun K2 k3 => sr <| tv (lr s65 sH h11 0 rfl rfl) rfl <| tm rfl <| ti u65 i32 h13 hp rfl rfl rfl rfl ?_
 rintro x29 b30 o31 _ hp ⟨v35, rfl, h36⟩ h34
 refine tv (lr s32 sH h34 0 rfl rfl) rfl <| tv (ln u32 h36 rfl) rfl <| tm rfl <| nz <| TC.block <| bE hp fun z_6 hz7 hr8 => ?_
 have J13 {x46 x50 v47 F48 v51 F52 e11} (h49 : SlO 4 kBool x46 v47 F48) (h53 : SlO 3 (kInt .i64) x50 v51 F52) (hq14 : (x46, x50) = z_6) : ∀ w, St E H [bx b2 42 [v47], F48, bx b17 32 [v51], F52] w → K2 (ovr e11 [(0, .int .i64 a1), (4, .pointer (some ⟨b17, 0, none⟩))]) w := by
  subst hq14
  replace hp : graph_order_1.nx10 a1 x46 x50 = some r := hr8
  exact tg k3 <| TC.region <| tv (lb s32 2 rfl rfl rfl) rfl <| tm rfl <| tbs [(0, .int .i64 a1)] [.int .i64 a1] u32 i3 (by kernel_rfl) rfl rfl rfl rfl fun b54 => tp [4, 0, 1, 2, 3] [_,_,_,_,_] rfl rfl <| tf 2 0 [_,_,_,_,_,_] rfl <| tp2 u32 i3 h53 hp (RepL.to (RepL.cons (k := (kInt .i64)) (x := a1) ⟨rfl, rfl⟩ RepL.nil) rfl) rfl rfl rfl rfl rfl rfl rfl rfl rfl fun x55 v56 F57 h58 hp => ts 3 m32 rfl rfl h58.o1 rfl <| nl <| rt hp [1, 2, 3, 0] ⟨v47, F48, v56, F57, rfl, rfl, h49, h58⟩
 refine lp hz7 [1, 0, 2, 3] rfl (fun s e L => ∃ x37 x41 x45 v38 F39 v42 F43 e5, s = (x37, x41, x45) ∧ SlO 4 kBool x37 v38 F39 ∧ SlO 3 (kInt .i64) x41 v42 F43 ∧ e = ovr e5 [(0, .int .i64 a1), (1, .pointer (some ⟨b2, 0, none⟩)), (3, .pointer (some ⟨b14, o15, none⟩)), (4, .pointer (some ⟨b17, 0, none⟩)), (14, v35), (15, .int .i64 (len x29)), (16, .int .i64 x45)] ∧ L = [bx b2 42 [v38], F39, bx b17 32 [v42], F43]) ⟨_, _, _, v4, F27, v19, F20, _, rfl, h28, h21, ovr_eq _ _ rfl, rfl⟩ ?_
 rintro _ _ _ ⟨x37, x41, x45, v38, F39, v42, F43, e5, rfl, h40, h44, rfl, rfl⟩ X9 hp hx10
 replace hp : graph_order_1.bd10 a9 rec x29 x37 x41 x45 = some X9 := hp
 refine sr <| tv (blt rfl rfl) rfl <| nz <| TC.seq fun K15 k16 => cD rfl hp (fun hc17 hp => ?_) fun hc17 hp => ?_
 · refine sk k16 rfl <| TC.seq fun K18 k19 => ?_
   have J21 {x59 x63 v60 F61 v64 F65 e20} (h62 : SlO 4 kBool x59 v60 F61) (h66 : SlO 3 (kInt .i64) x63 v64 F65) (hp : graph_order_1.jn21 x45 x59 x63 = some X9) : ∀ w, St E H [bx b2 42 [v60], F61, bx b17 32 [v64], F65] w → K18 (ovr e20 [(0, .int .i64 a1), (1, .pointer (some ⟨b2, 0, none⟩)), (3, .pointer (some ⟨b14, o15, none⟩)), (4, .pointer (some ⟨b17, 0, none⟩)), (14, v35), (15, .int .i64 (len x29)), (16, .int .i64 x45)]) w := by
    exact tg k19 <| TC.region <| tv (bad rfl rfl) rfl <| tm rfl <| nl <| gk hp [0, 1, 2, 3] ⟨_, _, _, v60, F61, v64, F65, _, rfl, h62, h66, ovr_eq _ _ rfl, rfl⟩
   refine TC.block <| sr <| ti u32 i3 h36 hp rfl rfl rfl rfl ?_
   rintro x67 b68 o69 _ hp rfl h72
   refine tv (lr s3 sH h72 0 rfl rfl) rfl <| ta rfl <| nz <| sr <| tv (lb s42 0 rfl rfl rfl) rfl <| tm rfl <| ti u42 i4 (h40).ro hp rfl rfl rfl rfl ?_
   rintro x73 b74 o75 _ hp rfl h78
   refine tv (lr s4 (Src.at_ 1 rfl) h78 0 rfl rfl) rfl <| tv (rv_not rfl) rfl <| nz <| cB rfl hp (fun hc24 hp => ?_) fun hc24 hp => ?_
   · refine TC.region <| tv (lr s140 sH h16 0 rfl rfl) rfl <| tm rfl <| bE hp fun x79 hy25 hp => tcv 4 [] rfl c74 rfl (fun _ => hrec _ _ _ x67 x37 a9 x41 _ _ _ _ _ _ _ _ _ _ _ _ h40 (h11.mono subH) (h13.mono subH) (h16.mono subH) h44 hy25) rfl ?_
     rintro _ _ ⟨v80, F81, v83, F84, rfl, rfl, h82, h85⟩
     exact nl <| jn [0, 1, 2, 3] (J21 h82 h85 hp)
   · exact TC.skip <| jn [0, 1, 2, 3] (J21 h40 h44 hp)
 · exact TC.exit <| jn [0, 1, 2, 3] (J13 h40 h44 (ex_ret hp hx10))
def graph_order_1.it : Nat → Int → (List Bool) → (List (List Int)) → (List Int) → Option (List Bool × List Int)
  | 0 => fun _ _ _ _ => none
  | n + 1 => graph_order_1.body (graph_order_1.it n)
set_option maxHeartbeats 4000000 in
theorem graph_order_1.it_ok (n : Nat) : ∀ (E : World) (H : FP) (w : World) (a1 : Int) (a3 : List Bool) (a9 : List (List Int)) (a18 : List Int) (b2 : Nat) (v4 : Value) (F5 : FP) (b8 : Nat) (o10 : Nat) (v12 : Value) (b14 : Nat) (o15 : Nat) (b17 : Nat) (v19 : Value) (F20 : FP) (r : List Bool × List Int) (h6 : SlO 4 kBool a3 v4 F5) (h11 : CellsIn H b8 o10 [v12]) (h13 : SlI (kSl 3 (kInt .i64)) H a9 v12) (h16 : CellsIn H b14 o15 [.func (.func 74) #[] #[.pointer (some ⟨b2, 0, none⟩), .pointer (some ⟨b8, o10, none⟩), .pointer (some ⟨b14, o15, none⟩), .pointer (some ⟨b17, 0, none⟩)]]) (h21 : SlO 3 (kInt .i64) a18 v19 F20), graph_order_1.it n a1 a3 a9 a18 = some r → St E H [bx b2 42 [v4], F5, bx b17 32 [v19], F20] w →
    Fn Tryd.prog 74 #[.int .i64 a1, .pointer (some ⟨b2, 0, none⟩), .pointer (some ⟨b8, o10, none⟩), .pointer (some ⟨b14, o15, none⟩), .pointer (some ⟨b17, 0, none⟩)] w fun v w' => ∃ A, graph_order_1.R b2 b17 r v A ∧ St E H A w' := by
  induction n with
  | zero => intro E H w a1 a3 a9 a18 b2 v4 F5 b8 o10 v12 b14 o15 b17 v19 F20 r h6 h11 h13 h16 h21 hp; exact absurd hp (by simp [graph_order_1.it])
  | succ n ih => intro E H w a1 a3 a9 a18 b2 v4 F5 b8 o10 v12 b14 o15 b17 v19 F20 r h6 h11 h13 h16 h21 hp hst; exact graph_order_1.body_ok ih h6 h11 h13 h16 h21 hp hst
def graph_order_1 (a1 : Int) (a3 : List Bool) (a9 : List (List Int)) (a18 : List Int) : Option (List Bool × List Int) := graph_order_1.it FUEL a1 a3 a9 a18
set_option maxHeartbeats 4000000 in
theorem graph_order_1_ok {E : World} {H : FP} {w : World} {a1 : Int} {a3 : List Bool} {a9 : List (List Int)} {a18 : List Int} {b2 : Nat} {v4 : Value} {F5 : FP} {b8 : Nat} {o10 : Nat} {v12 : Value} {b14 : Nat} {o15 : Nat} {b17 : Nat} {v19 : Value} {F20 : FP} {r : List Bool × List Int} (h6 : SlO 4 kBool a3 v4 F5) (h11 : CellsIn H b8 o10 [v12]) (h13 : SlI (kSl 3 (kInt .i64)) H a9 v12) (h16 : CellsIn H b14 o15 [.func (.func 74) #[] #[.pointer (some ⟨b2, 0, none⟩), .pointer (some ⟨b8, o10, none⟩), .pointer (some ⟨b14, o15, none⟩), .pointer (some ⟨b17, 0, none⟩)]]) (h21 : SlO 3 (kInt .i64) a18 v19 F20) (hp : graph_order_1 a1 a3 a9 a18 = some r) (hst : St E H [bx b2 42 [v4], F5, bx b17 32 [v19], F20] w) :
    Fn Tryd.prog 74 #[.int .i64 a1, .pointer (some ⟨b2, 0, none⟩), .pointer (some ⟨b8, o10, none⟩), .pointer (some ⟨b14, o15, none⟩), .pointer (some ⟨b17, 0, none⟩)] w fun v w' => ∃ A, graph_order_1.R b2 b17 r v A ∧ St E H A w' :=
  graph_order_1.it_ok FUEL _ _ _ _ _ _ _ _ _ _ _ _ _ _ _ _ _ _ _ h6 h11 h13 h16 h21 hp hst
end Go.Proofs.YteaknconpkklhaaDoor
