/- The walk through the program's functions: each one's pure reading, and that a call does what it says. No conditions. -/
import Derived.Test.YtpomfbdbkejedaaE10
set_option linter.unusedVariables false
set_option linter.unusedSimpArgs false
namespace Go.Proofs.Ytpomfbdbkejedaa
open Go Go.Proofs

/-! ### fettle/fettleref15.Quiet -/
abbrev fettleref15_Quiet.R (r : Bool) (v : Value) (A : List FP) : Prop := .bool r = v ∧ A = []
def fettleref15_Quiet (a1 : PEffect) : Option Bool :=
  some (decide (¬ (((a1.writes = true ∨ a1.outs = true) ∨ a1.traps = true) ∨ a1.turns = true)))
theorem fettleref15_Quiet_ok {E : World} {H : FP} {w : World} {a1 : PEffect} {r : Bool}  (hp : fettleref15_Quiet a1 = some r) (hst : St E H [] w) :
    Fn Try.prog 14 #[.agg #[.bool a1.reads, .bool a1.writes, .bool a1.outs, .bool a1.traps, .bool a1.turns]] w fun v w' => ∃ A, fettleref15_Quiet.R r v A ∧ St E H A w' := by
 refine fb 18 [.tmp 2] Try.func14 rfl rfl rfl rfl rfl hst <| sr <| tb [.bool a1.reads, .bool a1.writes, .bool a1.outs, .bool a1.traps, .bool a1.turns] rfl rfl fun b2 => ta rfl <| nz <| sr <| tv (fa f34_1 rfl) rfl <| tv (lb s4 0 rfl rfl rfl) rfl <| tm rfl <| TL.cut 3 fun K1 k2 => ?_
 have J3 {e5} : ∀ w, St E H [bx b2 34 [.bool a1.reads, .bool a1.writes, .bool a1.outs, .bool a1.traps, .bool a1.turns]] w → K1 (ovr e5 [(8, .bool (decide (a1.writes = true ∨ a1.outs = true))), (1, .pointer (some ⟨b2, 0, none⟩))]) w := by
  refine tlg k2 <| tm rfl <| TL.cut 3 fun K6 k7 => ?_
  have J8 {e10} : ∀ w, St E H [bx b2 34 [.bool a1.reads, .bool a1.writes, .bool a1.outs, .bool a1.traps, .bool a1.turns]] w → K6 (ovr e10 [(12, .bool (decide ((a1.writes = true ∨ a1.outs = true) ∨ a1.traps = true))), (1, .pointer (some ⟨b2, 0, none⟩))]) w := by
   refine tlg k7 <| tm rfl <| TL.cut 3 fun K11 k12 => ?_
   have J13 {e15} : ∀ w, St E H [bx b2 34 [.bool a1.reads, .bool a1.writes, .bool a1.outs, .bool a1.traps, .bool a1.turns]] w → K11 (ovr e15 [(16, .bool (decide (((a1.writes = true ∨ a1.outs = true) ∨ a1.traps = true) ∨ a1.turns = true)))]) w := by
    exact tlg k12 <| tv (rv_notD (p := ((a1.writes = true ∨ a1.outs = true) ∨ a1.traps = true) ∨ a1.turns = true) rfl) rfl <| ta rfl <| nz <| TC.ret <| rt hp [] ⟨rfl, rfl⟩
   by_cases hc14 : (a1.writes = true ∨ a1.outs = true) ∨ a1.traps = true
   · exact gn rfl (bT hc14) rfl rfl <| gn rfl (bT hc14) rfl rfl <| tv (pT (bT hc14)) rfl <| nj J13 (bOt hc14)
   · exact gy rfl (bF hc14) <| tv (fa f34_4 rfl) rfl <| gy rfl (bF hc14) <| tv (lb s4 0 rfl rfl rfl) rfl <| tv (pF (bF hc14)) rfl <| nj J13 (bOf' hc14)
  by_cases hc9 : a1.writes = true ∨ a1.outs = true
  · exact gn rfl (bT hc9) rfl rfl <| gn rfl (bT hc9) rfl rfl <| tv (pT (bT hc9)) rfl <| nj J8 (bOt hc9)
  · exact gy rfl (bF hc9) <| tv (fa f34_3 rfl) rfl <| gy rfl (bF hc9) <| tv (lb s4 0 rfl rfl rfl) rfl <| tv (pF (bF hc9)) rfl <| nj J8 (bOf' hc9)
 by_cases hc4 : a1.writes = true
 · exact gn rfl (bbT hc4) rfl rfl <| gn rfl (bbT hc4) rfl rfl <| tv (pT (bbT hc4)) rfl <| nj J3 (bOt hc4)
 · exact gy rfl (bbF hc4) <| tv (fa f34_2 rfl) rfl <| gy rfl (bbF hc4) <| tv (lb s4 0 rfl rfl rfl) rfl <| tv (pF (bbF hc4)) rfl <| nj J3 (bOf' hc4)

/-! ### fettle/fettleref15.Still -/
abbrev fettleref15_Still.R (r : Bool) (v : Value) (A : List FP) : Prop := .bool r = v ∧ A = []
def fettleref15_Still (a1 : PEffect) : Option Bool :=
  (fettleref15_Quiet a1).bind fun x3 =>
  some (decide (x3 = true ∧ (!a1.reads) = true))
theorem fettleref15_Still_ok {E : World} {H : FP} {w : World} {a1 : PEffect} {r : Bool}  (hp : fettleref15_Still a1 = some r) (hst : St E H [] w) :
    Fn Try.prog 16 #[.agg #[.bool a1.reads, .bool a1.writes, .bool a1.outs, .bool a1.traps, .bool a1.turns]] w fun v w' => ∃ A, fettleref15_Still.R r v A ∧ St E H A w' := by
 refine fb 10 [.tmp 2] Try.func16 rfl rfl rfl rfl rfl hst <| sr <| tb [.bool a1.reads, .bool a1.writes, .bool a1.outs, .bool a1.traps, .bool a1.turns] rfl rfl fun b2 => ta rfl <| nz <| sr <| tv (lA (ds := [.bool a1.reads, .bool a1.writes, .bool a1.outs, .bool a1.traps, .bool a1.turns]) ag_34 0 rfl rfl rfl rfl) rfl <| bE hp fun x3 hy1 hp => tc 0 [_] rfl c14 (fun _ => fettleref15_Quiet_ok (a1 := a1) hy1) rfl ?_
 rintro _ _ ⟨rfl, rfl⟩
 refine tm rfl <| TL.cut 4 fun K3 k4 => ?_
 have J5 {e7} : ∀ w, St E H [bx b2 34 [.bool a1.reads, .bool a1.writes, .bool a1.outs, .bool a1.traps, .bool a1.turns]] w → K3 (ovr e7 [(9, .bool (decide (x3 = true ∧ (!a1.reads) = true)))]) w := by
  exact tlg k4 <| ta rfl <| nz <| TC.ret <| rt hp [] ⟨rfl, rfl⟩
 by_cases hc6 : x3 = true
 · exact gy rfl (bbT hc6) <| tv (fa f34_0 rfl) rfl <| gy rfl (bbT hc6) <| tv (lb s4 0 rfl rfl rfl) rfl <| gy rfl (bbT hc6) <| tv (rv_not rfl) rfl <| tv (pT (bbT hc6)) rfl <| nj J5 (bAt' hc6)
 · exact gn rfl (bbF hc6) rfl rfl <| gn rfl (bbF hc6) rfl rfl <| gn rfl (bbF hc6) rfl rfl <| tv (pF (bbF hc6)) rfl <| nj J5 (bAf hc6)

/-! ### fettle/effect.plain -/
abbrev effect_plain.R (r : Bool) (v : Value) (A : List FP) : Prop := .bool r = v ∧ A = []
def effect_plain (a1 : PInstr) : Option Bool :=
  (arith_Args a1.op).bind fun x5 =>
  (if a1.op = 1 then some true else (if x5.2 = true then (arith_Traps a1.op).bind fun x8 =>
  some (!x8) else some false).bind fun t7 =>
  some t7).bind fun t6 =>
  some t6
theorem effect_plain_ok {E : World} {H : FP} {w : World} {a1 : PInstr} {v2 : Value} {r : Bool} (h3 : SlI (kInt .i64) H a1.args v2) (hp : effect_plain a1 = some r) (hst : St E H [] w) :
    Fn Try.prog 29 #[.agg #[.int .i64 a1.op, .int .i64 a1.dst, v2, .int .i64 a1.imm, .int .i64 a1.fn]] w fun v w' => ∃ A, effect_plain.R r v A ∧ St E H A w' := by
 refine fb 23 [.tmp 2] Try.func29 rfl rfl rfl rfl rfl hst <| sr <| tb [.int .i64 a1.op, .int .i64 a1.dst, v2, .int .i64 a1.imm, .int .i64 a1.fn] rfl rfl fun b4 => ta rfl <| nz <| sr <| tv (fa f49_0 rfl) rfl <| tv (lb s3 0 rfl rfl rfl) rfl <| bE hp fun x5 hy1 hp => tc 0 [_] rfl c47 (fun _ => arith_Args_ok (a1 := a1.op) hy1) rfl ?_
 rintro _ _ ⟨rfl, rfl⟩
 refine tm rfl <| tv (xt rfl rfl) rfl <| tv (xt rfl rfl) rfl <| ta rfl <| ta rfl <| nz <| sr <| tv (fa f49_0 rfl) rfl <| tv (lb s3 0 rfl rfl rfl) rfl <| tv (beq rfl rfl) rfl <| tm rfl <| bE hp fun t6 ht8 hp => TL.cut 8 fun K3 k4 => ?_
 have J5 {e7} : ∀ w, St E H [bx b4 49 [.int .i64 a1.op, .int .i64 a1.dst, v2, .int .i64 a1.imm, .int .i64 a1.fn]] w → K3 (ovr e7 [(22, .bool t6)]) w := by
  exact tlg k4 <| ta rfl <| nz <| TC.ret <| rt hp [] ⟨rfl, rfl⟩
 refine ifE ht8 (fun hc6 hp => ?_) fun hc6 hp => ?_
 · refine gn rfl (bT hc6) rfl rfl <| gn rfl (bT hc6) rfl rfl <| gu rfl rfl rfl <| gu rfl rfl rfl <| gu rfl rfl rfl <| gu rfl rfl rfl <| gn rfl (bT hc6) rfl rfl <| tv (pT (bT hc6)) rfl ?_
   obtain rfl := Option.some.inj hp
   exact nj J5 rfl
 · refine gy rfl (bF hc6) <| tm rfl <| gy rfl (bF hc6) <| tm rfl <| bE hp fun t7 ht14 hp => TL.cut 5 fun K9 k10 => ?_
   have J11 {e13} : ∀ w, St E H [bx b4 49 [.int .i64 a1.op, .int .i64 a1.dst, v2, .int .i64 a1.imm, .int .i64 a1.fn]] w → K9 (ovr e13 [(21, .bool t7), (14, .bool (decide (a1.op = 1)))]) w := by
    refine tlg k10 <| tv (pF (bF hc6)) rfl ?_
    obtain rfl := Option.some.inj hp
    exact nj J5 rfl
   refine ifE ht14 (fun hc12 hp => ?_) fun hc12 hp => ?_
   · refine gy rfl (bbT hc12) <| tv (fa f49_0 rfl) rfl <| gy rfl (bbT hc12) <| tv (lb s3 0 rfl rfl rfl) rfl <| gy rfl (bbT hc12) <| bE hp fun x8 hy15 hp => tc 0 [_] rfl c48 (fun _ => arith_Traps_ok (a1 := a1.op) hy15) rfl ?_
     rintro _ _ ⟨rfl, rfl⟩
     refine gy rfl (bbT hc12) <| tv (rv_not rfl) rfl <| gy rfl (bF hc6) <| tv (pT (bbT hc12)) rfl ?_
     obtain rfl := Option.some.inj hp
     exact nj J11 rfl
   · refine gn rfl (bbF hc12) rfl rfl <| gn rfl (bbF hc12) rfl rfl <| gn rfl (bbF hc12) rfl rfl <| gn rfl (bbF hc12) rfl rfl <| gy rfl (bF hc6) <| tv (pF (bbF hc12)) rfl ?_
     obtain rfl := Option.some.inj hp
     exact nj J11 rfl

/-! ### fettle/effect.Removable -/
abbrev effect_Removable.R (r : Bool) (v : Value) (A : List FP) : Prop := .bool r = v ∧ A = []
def effect_Removable (a1 : PInstr) (a4 : List PEffect) : Option Bool :=
  (effect_plain a1).bind fun x8 =>
  (if x8 = true then some true else (if (a1.op = 17 ∧ a1.fn ≥ 0) ∧ a1.fn < (len a4) then (idx a4 a1.fn).bind fun x11 =>
  (effect_Quiet x11).bind fun x17 =>
  some x17 else some false).bind fun t10 =>
  some t10).bind fun t9 =>
  some t9
set_option maxHeartbeats 4000000 in
theorem effect_Removable_ok {E : World} {H : FP} {w : World} {a1 : PInstr} {a4 : List PEffect} {v2 : Value} {v5 : Value} {r : Bool} (h3 : SlI (kInt .i64) H a1.args v2) (h6 : SlI kEffect H a4 v5) (hp : effect_Removable a1 a4 = some r) (hst : St E H [] w) :
    Fn Try.prog 17 #[.agg #[.int .i64 a1.op, .int .i64 a1.dst, v2, .int .i64 a1.imm, .int .i64 a1.fn], v5] w fun v w' => ∃ A, effect_Removable.R r v A ∧ St E H A w' := by
 refine fb 32 [.tmp 4] Try.func17 rfl rfl rfl rfl rfl hst <| sr <| tb [.int .i64 a1.op, .int .i64 a1.dst, v2, .int .i64 a1.imm, .int .i64 a1.fn] rfl rfl fun b7 => ta rfl <| nz <| sr <| tv (lA (ds := [.int .i64 a1.op, .int .i64 a1.dst, v2, .int .i64 a1.imm, .int .i64 a1.fn]) ag_49 0 rfl rfl rfl rfl) rfl <| bE hp fun x8 hy1 hp => tc 0 [_] rfl c29 (fun _ => effect_plain_ok (a1 := a1) (h3.mono subH) hy1) rfl ?_
 rintro _ _ ⟨rfl, rfl⟩
 refine tm rfl <| bE hp fun t9 ht8 hp => TL.cut 24 fun K3 k4 => ?_
 have J5 {e7} : ∀ w, St E H [bx b7 49 [.int .i64 a1.op, .int .i64 a1.dst, v2, .int .i64 a1.imm, .int .i64 a1.fn]] w → K3 (ovr e7 [(31, .bool t9)]) w := by
  exact tlg k4 <| ta rfl <| nz <| TC.ret <| rt hp [] ⟨rfl, rfl⟩
 refine ifE ht8 (fun hc6 hp => ?_) fun hc6 hp => ?_
 · refine gn rfl (bbT hc6) rfl rfl <| gn rfl (bbT hc6) rfl rfl <| gn rfl (bbT hc6) rfl rfl <| gn rfl (bbT hc6) rfl rfl <| gu rfl rfl rfl <| gu rfl rfl rfl <| gu rfl rfl rfl <| gn rfl (bbT hc6) rfl rfl <| gn rfl (bbT hc6) rfl rfl <| gu rfl rfl rfl <| gu rfl rfl rfl <| gu rfl rfl rfl <| gu rfl rfl rfl <| gu rfl rfl rfl <| gn rfl (bbT hc6) rfl rfl <| gn rfl (bbT hc6) rfl rfl <| gu rfl rfl rfl <| gu rfl rfl rfl <| gu rfl rfl rfl <| gu rfl rfl rfl <| gu rfl rfl rfl <| gu rfl rfl rfl <| gn rfl (bbT hc6) rfl rfl <| tv (pT (bbT hc6)) rfl ?_
   obtain rfl := Option.some.inj hp
   exact nj J5 rfl
 · refine gy rfl (bbF hc6) <| tv (fa f49_0 rfl) rfl <| gy rfl (bbF hc6) <| tv (lb s3 0 rfl rfl rfl) rfl <| gy rfl (bbF hc6) <| tv (beq rfl rfl) rfl <| gy rfl (bbF hc6) <| tm rfl <| TL.cut 4 fun K9 k10 => ?_
   have J11 {e13} : ∀ w, St E H [bx b7 49 [.int .i64 a1.op, .int .i64 a1.dst, v2, .int .i64 a1.imm, .int .i64 a1.fn]] w → K9 (ovr e13 [(15, .bool (decide (a1.op = 17 ∧ a1.fn ≥ 0))), (1, v5), (2, .pointer (some ⟨b7, 0, none⟩)), (7, .bool x8)]) w := by
    refine tlg k10 <| gy rfl (bbF hc6) <| tm rfl <| TL.cut 6 fun K14 k15 => ?_
    have J16 {e18} : ∀ w, St E H [bx b7 49 [.int .i64 a1.op, .int .i64 a1.dst, v2, .int .i64 a1.imm, .int .i64 a1.fn]] w → K14 (ovr e18 [(22, .bool (decide ((a1.op = 17 ∧ a1.fn ≥ 0) ∧ a1.fn < (len a4)))), (1, v5), (2, .pointer (some ⟨b7, 0, none⟩)), (7, .bool x8)]) w := by
     refine tlg k15 <| gy rfl (bbF hc6) <| tm rfl <| bE hp fun t10 ht24 hp => TL.cut 7 fun K19 k20 => ?_
     have J21 {e23} : ∀ w, St E H [bx b7 49 [.int .i64 a1.op, .int .i64 a1.dst, v2, .int .i64 a1.imm, .int .i64 a1.fn]] w → K19 (ovr e23 [(30, .bool t10), (7, .bool x8)]) w := by
      refine tlg k20 <| tv (pF (bbF hc6)) rfl ?_
      obtain rfl := Option.some.inj hp
      exact nj J5 rfl
     refine ifE ht24 (fun hc22 hp => ?_) fun hc22 hp => ?_
     · refine gy rfl (bT hc22) <| tm rfl <| gy rfl (bT hc22) <| tv (fa f49_4 rfl) rfl <| gy rfl (bT hc22) <| tv (lb s3 0 rfl rfl rfl) rfl <| gy rfl (bT hc22) <| ti u28 i34 h6 hp rfl rfl rfl rfl ?_
       rintro x11 b12 o13 _ hp rfl h16
       refine gy rfl (bT hc22) <| tv (lR (ds := [.bool x11.reads, .bool x11.writes, .bool x11.outs, .bool x11.traps, .bool x11.turns]) ag_34 sH h16 0 rfl rfl rfl) rfl <| gy rfl (bT hc22) <| bE hp fun x17 hy26 hp => tc 0 [_] rfl c13 (fun _ => effect_Quiet_ok (a1 := x11) hy26) rfl ?_
       rintro _ _ ⟨rfl, rfl⟩
       refine gy rfl (bbF hc6) <| tv (pT (bT hc22)) rfl ?_
       obtain rfl := Option.some.inj hp
       exact nj J21 rfl
     · refine gn rfl (bF hc22) rfl rfl <| gn rfl (bF hc22) rfl rfl <| gn rfl (bF hc22) rfl rfl <| gn rfl (bF hc22) rfl rfl <| gn rfl (bF hc22) rfl rfl <| gn rfl (bF hc22) rfl rfl <| gy rfl (bbF hc6) <| tv (pF (bF hc22)) rfl ?_
       obtain rfl := Option.some.inj hp
       exact nj J21 rfl
    by_cases hc17 : a1.op = 17 ∧ a1.fn ≥ 0
    · exact gy rfl (bT hc17) <| tv (fa f49_4 rfl) rfl <| gy rfl (bT hc17) <| tv (lb s3 0 rfl rfl rfl) rfl <| gy rfl (bT hc17) <| tm rfl <| gy rfl (bT hc17) <| tv (ln u28 h6 rfl) rfl <| gy rfl (bT hc17) <| tv (blt rfl rfl) rfl <| gy rfl (bbF hc6) <| tv (pT (bT hc17)) rfl <| nj J16 (bAt hc17)
    · exact gn rfl (bF hc17) rfl rfl <| gn rfl (bF hc17) rfl rfl <| gn rfl (bF hc17) rfl rfl <| gn rfl (bF hc17) rfl rfl <| gn rfl (bF hc17) rfl rfl <| gy rfl (bbF hc6) <| tv (pF (bF hc17)) rfl <| nj J16 (bAf hc17)
   by_cases hc12 : a1.op = 17
   · exact gy rfl (bT hc12) <| tv (fa f49_4 rfl) rfl <| gy rfl (bT hc12) <| tv (lb s3 0 rfl rfl rfl) rfl <| gy rfl (bT hc12) <| tv (bge rfl rfl) rfl <| gy rfl (bbF hc6) <| tv (pT (bT hc12)) rfl <| nj J11 (bAt hc12)
   · exact gn rfl (bF hc12) rfl rfl <| gn rfl (bF hc12) rfl rfl <| gn rfl (bF hc12) rfl rfl <| gy rfl (bbF hc6) <| tv (pF (bF hc12)) rfl <| nj J11 (bAf hc12)

/-! ### fettle/fettleref01.Args -/
abbrev fettleref01_Args.R (r : Int) (v : Value) (A : List FP) : Prop := .int .i64 r = v ∧ A = []
def fettleref01_Args.jn11  (x3 : Bool) : Option Int :=
  if x3 = true then
    some 2
  else
    some (-1)
def fettleref01_Args.jn6 (a1 : Int) (x2 : Bool) : Option Int :=
  if x2 = true then
    some 1
  else
    if a1 = 3 then
      fettleref01_Args.jn11 (decide (a1 = 3))
    else
      if a1 = 4 then
        fettleref01_Args.jn11 (decide (a1 = 4))
      else
        if a1 = 5 then
          fettleref01_Args.jn11 (decide (a1 = 5))
        else
          if a1 = 6 then
            fettleref01_Args.jn11 (decide (a1 = 6))
          else
            if a1 = 7 then
              fettleref01_Args.jn11 (decide (a1 = 7))
            else
              if a1 = 8 then
                fettleref01_Args.jn11 (decide (a1 = 8))
              else
                if a1 = 9 then
                  fettleref01_Args.jn11 (decide (a1 = 9))
                else
                  if a1 = 10 then
                    fettleref01_Args.jn11 (decide (a1 = 10))
                  else
                    if a1 = 11 then
                      fettleref01_Args.jn11 (decide (a1 = 11))
                    else
                      if a1 = 12 then
                        fettleref01_Args.jn11 (decide (a1 = 12))
                      else
                        fettleref01_Args.jn11 (decide (a1 = 13))
def fettleref01_Args (a1 : Int) : Option Int :=
  if a1 = 2 then
    fettleref01_Args.jn6 a1 (decide (a1 = 2))
  else
    fettleref01_Args.jn6 a1 (decide (a1 = 14))
theorem fettleref01_Args_ok {E : World} {H : FP} {w : World} {a1 : Int} {r : Int}  (hp : fettleref01_Args a1 = some r) (hst : St E H [] w) :
    Fn Try.prog 30 #[.int .i64 a1] w fun v w' => ∃ A, fettleref01_Args.R r v A ∧ St E H A w' := by
 refine fb 19 [.tmp 2] Try.func30 rfl rfl rfl rfl rfl hst <| sr <| ta rfl <| nz <| TC.seq fun K1 k2 => sr <| tm rfl <| nz <| TC.block <| TC.seq fun K3 k4 => ?_
 have J6 {x2 e5} (hp : fettleref01_Args.jn6 a1 x2 = some r) : ∀ w, St E H [] w → K3 (ovr e5 [(3, .int .i64 a1), (4, .bool x2)]) w := by
  refine tg k4 <| cB rfl hp (fun hc7 hp => ?_) fun hc7 hp => ?_
  · exact sr <| ta rfl <| nz <| TC.ret <| rt hp [] ⟨rfl, rfl⟩
  · refine TC.seq fun K8 k9 => ?_
    have J11 {x3 e10} (hp : fettleref01_Args.jn11 x3 = some r) : ∀ w, St E H [] w → K8 (ovr e10 [(7, .bool x3)]) w := by
     refine tg k9 <| cB rfl hp (fun hc12 hp => ?_) fun hc12 hp => ?_
     · exact sr <| ta rfl <| nz <| TC.ret <| rt hp [] ⟨rfl, rfl⟩
     · exact sk k2 rfl <| sr <| ta rfl <| nz <| TC.ret <| rt hp [] ⟨rfl, rfl⟩
    refine sr <| tv (beq rfl rfl) rfl <| ta rfl <| nz <| cD rfl hp (fun hc13 hp => ?_) fun hc13 hp => ?_
    · exact TC.skip <| jn [] (J11 hp)
    · refine sr <| tv (beq rfl rfl) rfl <| ta rfl <| nz <| cD rfl hp (fun hc14 hp => ?_) fun hc14 hp => ?_
      · exact TC.skip <| jn [] (J11 hp)
      · refine sr <| tv (beq rfl rfl) rfl <| ta rfl <| nz <| cD rfl hp (fun hc15 hp => ?_) fun hc15 hp => ?_
        · exact TC.skip <| jn [] (J11 hp)
        · refine sr <| tv (beq rfl rfl) rfl <| ta rfl <| nz <| cD rfl hp (fun hc16 hp => ?_) fun hc16 hp => ?_
          · exact TC.skip <| jn [] (J11 hp)
          · refine sr <| tv (beq rfl rfl) rfl <| ta rfl <| nz <| cD rfl hp (fun hc17 hp => ?_) fun hc17 hp => ?_
            · exact TC.skip <| jn [] (J11 hp)
            · refine sr <| tv (beq rfl rfl) rfl <| ta rfl <| nz <| cD rfl hp (fun hc18 hp => ?_) fun hc18 hp => ?_
              · exact TC.skip <| jn [] (J11 hp)
              · refine sr <| tv (beq rfl rfl) rfl <| ta rfl <| nz <| cD rfl hp (fun hc19 hp => ?_) fun hc19 hp => ?_
                · exact TC.skip <| jn [] (J11 hp)
                · refine sr <| tv (beq rfl rfl) rfl <| ta rfl <| nz <| cD rfl hp (fun hc20 hp => ?_) fun hc20 hp => ?_
                  · exact TC.skip <| jn [] (J11 hp)
                  · refine sr <| tv (beq rfl rfl) rfl <| ta rfl <| nz <| cD rfl hp (fun hc21 hp => ?_) fun hc21 hp => ?_
                    · exact TC.skip <| jn [] (J11 hp)
                    · refine sr <| tv (beq rfl rfl) rfl <| ta rfl <| nz <| cD rfl hp (fun hc22 hp => ?_) fun hc22 hp => ?_
                      · exact TC.skip <| jn [] (J11 hp)
                      · exact TC.region <| tv (beq rfl rfl) rfl <| ta rfl <| nl <| jn [] (J11 hp)
 refine sr <| tv (beq rfl rfl) rfl <| ta rfl <| nz <| cD rfl hp (fun hc23 hp => ?_) fun hc23 hp => ?_
 · exact TC.skip <| jn [] (J6 hp)
 · exact TC.region <| tv (beq rfl rfl) rfl <| ta rfl <| nl <| jn [] (J6 hp)

/-! ### fettle/fettleref15.Removable -/
abbrev fettleref15_Removable.R (r : Bool) (v : Value) (A : List FP) : Prop := .bool r = v ∧ A = []
def fettleref15_Removable (a1 : PInstr) (a4 : List PEffect) (a7 : Bool) : Option Bool :=
  if a1.op = 17 then
    if a1.fn < 0 ∨ a1.fn ≥ (len a4) then
      some false
    else
      (idx a4 a1.fn).bind fun x9 =>
      (fettleref15_Quiet x9).bind fun x16 =>
      some (decide (x16 = true ∧ (¬ (a7 = true ∧ x9.reads = true))))
  else
    (if a1.op = 1 then some true else (if ¬ a1.op = 11 then (fettleref01_Args a1.op).bind fun x19 =>
    some (decide (x19 > 0)) else some false).bind fun t18 =>
    some t18).bind fun t17 =>
    some t17
set_option maxHeartbeats 4000000 in
theorem fettleref15_Removable_ok {E : World} {H : FP} {w : World} {a1 : PInstr} {a4 : List PEffect} {a7 : Bool} {v2 : Value} {v5 : Value} {r : Bool} (h3 : SlI (kInt .i64) H a1.args v2) (h6 : SlI kEffect H a4 v5) (hp : fettleref15_Removable a1 a4 a7 = some r) (hst : St E H [] w) :
    Fn Try.prog 18 #[.agg #[.int .i64 a1.op, .int .i64 a1.dst, v2, .int .i64 a1.imm, .int .i64 a1.fn], v5, .bool a7] w fun v w' => ∃ A, fettleref15_Removable.R r v A ∧ St E H A w' := by
 refine fb 50 [.tmp 6] Try.func18 rfl rfl rfl rfl rfl hst <| sr <| tb [.int .i64 a1.op, .int .i64 a1.dst, v2, .int .i64 a1.imm, .int .i64 a1.fn] rfl rfl fun b8 => ta rfl <| nz <| TC.seq fun K1 k2 => sr <| tv (fa f49_0 rfl) rfl <| tv (lb s3 0 rfl rfl rfl) rfl <| tv (beq rfl rfl) rfl <| nz <| cD rfl hp (fun hc3 hp => ?_) fun hc3 hp => ?_
 · refine TC.seq fun K4 k5 => sr <| tv (fa f49_4 rfl) rfl <| tv (lb s3 0 rfl rfl rfl) rfl <| tv (blt rfl rfl) rfl <| tm rfl <| TL.cut 6 fun K6 k7 => ?_
   have J8 {e10} : ∀ w, St E H [bx b8 49 [.int .i64 a1.op, .int .i64 a1.dst, v2, .int .i64 a1.imm, .int .i64 a1.fn]] w → K6 (ovr e10 [(20, .bool (decide (a1.fn < 0 ∨ a1.fn ≥ (len a4)))), (1, v5), (2, .bool a7), (3, .pointer (some ⟨b8, 0, none⟩))]) w := by
    refine tlg k7 <| nz <| cD rfl hp (fun hc11 hp => ?_) fun hc11 hp => ?_
    · exact sr <| ta rfl <| nz <| TC.ret <| rt hp [] ⟨rfl, rfl⟩
    · refine sk k5 rfl <| sr <| tm rfl <| tv (fa f49_4 rfl) rfl <| tv (lb s3 0 rfl rfl rfl) rfl <| ti u28 i34 h6 hp rfl rfl rfl rfl ?_
      rintro x9 b10 o11 _ hp rfl h14
      refine tv (lR (ds := [.bool x9.reads, .bool x9.writes, .bool x9.outs, .bool x9.traps, .bool x9.turns]) ag_34 sH h14 0 rfl rfl rfl) rfl <| tl i34 rfl fun b15 => tS 0 m34 rfl rfl [.bool x9.reads, .bool x9.writes, .bool x9.outs, .bool x9.traps, .bool x9.turns] rfl (oc rfl (oc rfl (oc rfl (oc rfl (oc rfl oc0))))) rfl rfl <| nz <| sr <| tv (lA (ds := [.bool x9.reads, .bool x9.writes, .bool x9.outs, .bool x9.traps, .bool x9.turns]) ag_34 0 rfl rfl rfl rfl) rfl <| bE hp fun x16 hy13 hp => tc 0 [_,_] rfl c14 (fun _ => fettleref15_Quiet_ok (a1 := x9) hy13) rfl ?_
      rintro _ _ ⟨rfl, rfl⟩
      refine tm rfl <| TL.cut 7 fun K15 k16 => ?_
      have J17 {e19} : ∀ w, St E H [bx b15 34 [.bool x9.reads, .bool x9.writes, .bool x9.outs, .bool x9.traps, .bool x9.turns], bx b8 49 [.int .i64 a1.op, .int .i64 a1.dst, v2, .int .i64 a1.imm, .int .i64 a1.fn]] w → K15 (ovr e19 [(35, .bool (decide (x16 = true ∧ (¬ (a7 = true ∧ x9.reads = true)))))]) w := by
       exact tlg k16 <| ta rfl <| nz <| TC.ret <| rt hp [] ⟨rfl, rfl⟩
      by_cases hc18 : x16 = true
      · refine gy rfl (bbT hc18) <| tm rfl <| gy rfl (bbT hc18) <| tm rfl <| TL.cut 3 fun K20 k21 => ?_
        have J22 {e24} : ∀ w, St E H [bx b15 34 [.bool x9.reads, .bool x9.writes, .bool x9.outs, .bool x9.traps, .bool x9.turns], bx b8 49 [.int .i64 a1.op, .int .i64 a1.dst, v2, .int .i64 a1.imm, .int .i64 a1.fn]] w → K20 (ovr e24 [(33, .bool (decide (a7 = true ∧ x9.reads = true))), (28, .bool x16)]) w := by
         exact tlg k21 <| gy rfl (bbT hc18) <| tv (rv_notD (p := a7 = true ∧ x9.reads = true) rfl) rfl <| tv (pT (bbT hc18)) rfl <| nj J17 (bAt hc18)
        by_cases hc23 : a7 = true
        · exact gy rfl (bbT hc23) <| tv (fa f34_0 rfl) rfl <| gy rfl (bbT hc23) <| tv (lb s4 0 rfl rfl rfl) rfl <| gy rfl (bbT hc18) <| tv (pT (bbT hc23)) rfl <| nj J22 (bAt' hc23)
        · exact gn rfl (bbF hc23) rfl rfl <| gn rfl (bbF hc23) rfl rfl <| gy rfl (bbT hc18) <| tv (pF (bbF hc23)) rfl <| nj J22 (bAf hc23)
      · exact gn rfl (bbF hc18) rfl rfl <| gn rfl (bbF hc18) rfl rfl <| gu rfl rfl rfl <| gu rfl rfl rfl <| gn rfl (bbF hc18) rfl rfl <| gn rfl (bbF hc18) rfl rfl <| tv (pF (bbF hc18)) rfl <| nj J17 (bAf hc18)
   by_cases hc9 : a1.fn < 0
   · exact gn rfl (bT hc9) rfl rfl <| gn rfl (bT hc9) rfl rfl <| gn rfl (bT hc9) rfl rfl <| gn rfl (bT hc9) rfl rfl <| gn rfl (bT hc9) rfl rfl <| tv (pT (bT hc9)) rfl <| nj J8 (bOt hc9)
   · exact gy rfl (bF hc9) <| tv (fa f49_4 rfl) rfl <| gy rfl (bF hc9) <| tv (lb s3 0 rfl rfl rfl) rfl <| gy rfl (bF hc9) <| tm rfl <| gy rfl (bF hc9) <| tv (ln u28 h6 rfl) rfl <| gy rfl (bF hc9) <| tv (bge rfl rfl) rfl <| tv (pF (bF hc9)) rfl <| nj J8 (bOf hc9)
 · refine sk k2 rfl <| sr <| tv (fa f49_0 rfl) rfl <| tv (lb s3 0 rfl rfl rfl) rfl <| tv (beq rfl rfl) rfl <| tm rfl <| bE hp fun t17 ht30 hp => TL.cut 10 fun K25 k26 => ?_
   have J27 {e29} : ∀ w, St E H [bx b8 49 [.int .i64 a1.op, .int .i64 a1.dst, v2, .int .i64 a1.imm, .int .i64 a1.fn]] w → K25 (ovr e29 [(49, .bool t17)]) w := by
    exact tlg k26 <| ta rfl <| nz <| TC.ret <| rt hp [] ⟨rfl, rfl⟩
   refine ifE ht30 (fun hc28 hp => ?_) fun hc28 hp => ?_
   · refine gn rfl (bT hc28) rfl rfl <| gn rfl (bT hc28) rfl rfl <| gn rfl (bT hc28) rfl rfl <| gn rfl (bT hc28) rfl rfl <| gu rfl rfl rfl <| gu rfl rfl rfl <| gu rfl rfl rfl <| gu rfl rfl rfl <| gn rfl (bT hc28) rfl rfl <| tv (pT (bT hc28)) rfl ?_
     obtain rfl := Option.some.inj hp
     exact nj J27 rfl
   · refine gy rfl (bF hc28) <| tv (fa f49_0 rfl) rfl <| gy rfl (bF hc28) <| tv (lb s3 0 rfl rfl rfl) rfl <| gy rfl (bF hc28) <| tv (bne rfl rfl) rfl <| gy rfl (bF hc28) <| tm rfl <| bE hp fun t18 ht36 hp => TL.cut 5 fun K31 k32 => ?_
     have J33 {e35} : ∀ w, St E H [bx b8 49 [.int .i64 a1.op, .int .i64 a1.dst, v2, .int .i64 a1.imm, .int .i64 a1.fn]] w → K31 (ovr e35 [(48, .bool t18), (39, .bool (decide (a1.op = 1)))]) w := by
      refine tlg k32 <| tv (pF (bF hc28)) rfl ?_
      obtain rfl := Option.some.inj hp
      exact nj J27 rfl
     refine ifE ht36 (fun hc34 hp => ?_) fun hc34 hp => ?_
     · refine gy rfl (bT hc34) <| tv (fa f49_0 rfl) rfl <| gy rfl (bT hc34) <| tv (lb s3 0 rfl rfl rfl) rfl <| gy rfl (bT hc34) <| bE hp fun x19 hy37 hp => tc 0 [_] rfl c30 (fun _ => fettleref01_Args_ok (a1 := a1.op) hy37) rfl ?_
       rintro _ _ ⟨rfl, rfl⟩
       refine gy rfl (bT hc34) <| tv (bgt rfl rfl) rfl <| gy rfl (bF hc28) <| tv (pT (bT hc34)) rfl ?_
       obtain rfl := Option.some.inj hp
       exact nj J33 rfl
     · refine gn rfl (bF hc34) rfl rfl <| gn rfl (bF hc34) rfl rfl <| gn rfl (bF hc34) rfl rfl <| gn rfl (bF hc34) rfl rfl <| gy rfl (bF hc28) <| tv (pF (bF hc34)) rfl ?_
       obtain rfl := Option.some.inj hp
       exact nj J33 rfl

/-! ### fettle/effect.Fixed -/
abbrev effect_Fixed.R (r : Bool) (v : Value) (A : List FP) : Prop := .bool r = v ∧ A = []
def effect_Fixed (a1 : PInstr) (a4 : List PEffect) : Option Bool :=
  (effect_plain a1).bind fun x8 =>
  (if x8 = true then some true else (if (a1.op = 17 ∧ a1.fn ≥ 0) ∧ a1.fn < (len a4) then (idx a4 a1.fn).bind fun x11 =>
  (effect_Still x11).bind fun x17 =>
  some x17 else some false).bind fun t10 =>
  some t10).bind fun t9 =>
  some t9
set_option maxHeartbeats 4000000 in
theorem effect_Fixed_ok {E : World} {H : FP} {w : World} {a1 : PInstr} {a4 : List PEffect} {v2 : Value} {v5 : Value} {r : Bool} (h3 : SlI (kInt .i64) H a1.args v2) (h6 : SlI kEffect H a4 v5) (hp : effect_Fixed a1 a4 = some r) (hst : St E H [] w) :
    Fn Try.prog 19 #[.agg #[.int .i64 a1.op, .int .i64 a1.dst, v2, .int .i64 a1.imm, .int .i64 a1.fn], v5] w fun v w' => ∃ A, effect_Fixed.R r v A ∧ St E H A w' := by
 refine fb 32 [.tmp 4] Try.func19 rfl rfl rfl rfl rfl hst <| sr <| tb [.int .i64 a1.op, .int .i64 a1.dst, v2, .int .i64 a1.imm, .int .i64 a1.fn] rfl rfl fun b7 => ta rfl <| nz <| sr <| tv (lA (ds := [.int .i64 a1.op, .int .i64 a1.dst, v2, .int .i64 a1.imm, .int .i64 a1.fn]) ag_49 0 rfl rfl rfl rfl) rfl <| bE hp fun x8 hy1 hp => tc 0 [_] rfl c29 (fun _ => effect_plain_ok (a1 := a1) (h3.mono subH) hy1) rfl ?_
 rintro _ _ ⟨rfl, rfl⟩
 refine tm rfl <| bE hp fun t9 ht8 hp => TL.cut 24 fun K3 k4 => ?_
 have J5 {e7} : ∀ w, St E H [bx b7 49 [.int .i64 a1.op, .int .i64 a1.dst, v2, .int .i64 a1.imm, .int .i64 a1.fn]] w → K3 (ovr e7 [(31, .bool t9)]) w := by
  exact tlg k4 <| ta rfl <| nz <| TC.ret <| rt hp [] ⟨rfl, rfl⟩
 refine ifE ht8 (fun hc6 hp => ?_) fun hc6 hp => ?_
 · refine gn rfl (bbT hc6) rfl rfl <| gn rfl (bbT hc6) rfl rfl <| gn rfl (bbT hc6) rfl rfl <| gn rfl (bbT hc6) rfl rfl <| gu rfl rfl rfl <| gu rfl rfl rfl <| gu rfl rfl rfl <| gn rfl (bbT hc6) rfl rfl <| gn rfl (bbT hc6) rfl rfl <| gu rfl rfl rfl <| gu rfl rfl rfl <| gu rfl rfl rfl <| gu rfl rfl rfl <| gu rfl rfl rfl <| gn rfl (bbT hc6) rfl rfl <| gn rfl (bbT hc6) rfl rfl <| gu rfl rfl rfl <| gu rfl rfl rfl <| gu rfl rfl rfl <| gu rfl rfl rfl <| gu rfl rfl rfl <| gu rfl rfl rfl <| gn rfl (bbT hc6) rfl rfl <| tv (pT (bbT hc6)) rfl ?_
   obtain rfl := Option.some.inj hp
   exact nj J5 rfl
 · refine gy rfl (bbF hc6) <| tv (fa f49_0 rfl) rfl <| gy rfl (bbF hc6) <| tv (lb s3 0 rfl rfl rfl) rfl <| gy rfl (bbF hc6) <| tv (beq rfl rfl) rfl <| gy rfl (bbF hc6) <| tm rfl <| TL.cut 4 fun K9 k10 => ?_
   have J11 {e13} : ∀ w, St E H [bx b7 49 [.int .i64 a1.op, .int .i64 a1.dst, v2, .int .i64 a1.imm, .int .i64 a1.fn]] w → K9 (ovr e13 [(15, .bool (decide (a1.op = 17 ∧ a1.fn ≥ 0))), (1, v5), (2, .pointer (some ⟨b7, 0, none⟩)), (7, .bool x8)]) w := by
    refine tlg k10 <| gy rfl (bbF hc6) <| tm rfl <| TL.cut 6 fun K14 k15 => ?_
    have J16 {e18} : ∀ w, St E H [bx b7 49 [.int .i64 a1.op, .int .i64 a1.dst, v2, .int .i64 a1.imm, .int .i64 a1.fn]] w → K14 (ovr e18 [(22, .bool (decide ((a1.op = 17 ∧ a1.fn ≥ 0) ∧ a1.fn < (len a4)))), (1, v5), (2, .pointer (some ⟨b7, 0, none⟩)), (7, .bool x8)]) w := by
     refine tlg k15 <| gy rfl (bbF hc6) <| tm rfl <| bE hp fun t10 ht24 hp => TL.cut 7 fun K19 k20 => ?_
     have J21 {e23} : ∀ w, St E H [bx b7 49 [.int .i64 a1.op, .int .i64 a1.dst, v2, .int .i64 a1.imm, .int .i64 a1.fn]] w → K19 (ovr e23 [(30, .bool t10), (7, .bool x8)]) w := by
      refine tlg k20 <| tv (pF (bbF hc6)) rfl ?_
      obtain rfl := Option.some.inj hp
      exact nj J5 rfl
     refine ifE ht24 (fun hc22 hp => ?_) fun hc22 hp => ?_
     · refine gy rfl (bT hc22) <| tm rfl <| gy rfl (bT hc22) <| tv (fa f49_4 rfl) rfl <| gy rfl (bT hc22) <| tv (lb s3 0 rfl rfl rfl) rfl <| gy rfl (bT hc22) <| ti u28 i34 h6 hp rfl rfl rfl rfl ?_
       rintro x11 b12 o13 _ hp rfl h16
       refine gy rfl (bT hc22) <| tv (lR (ds := [.bool x11.reads, .bool x11.writes, .bool x11.outs, .bool x11.traps, .bool x11.turns]) ag_34 sH h16 0 rfl rfl rfl) rfl <| gy rfl (bT hc22) <| bE hp fun x17 hy26 hp => tc 0 [_] rfl c15 (fun _ => effect_Still_ok (a1 := x11) hy26) rfl ?_
       rintro _ _ ⟨rfl, rfl⟩
       refine gy rfl (bbF hc6) <| tv (pT (bT hc22)) rfl ?_
       obtain rfl := Option.some.inj hp
       exact nj J21 rfl
     · refine gn rfl (bF hc22) rfl rfl <| gn rfl (bF hc22) rfl rfl <| gn rfl (bF hc22) rfl rfl <| gn rfl (bF hc22) rfl rfl <| gn rfl (bF hc22) rfl rfl <| gn rfl (bF hc22) rfl rfl <| gy rfl (bbF hc6) <| tv (pF (bF hc22)) rfl ?_
       obtain rfl := Option.some.inj hp
       exact nj J21 rfl
    by_cases hc17 : a1.op = 17 ∧ a1.fn ≥ 0
    · exact gy rfl (bT hc17) <| tv (fa f49_4 rfl) rfl <| gy rfl (bT hc17) <| tv (lb s3 0 rfl rfl rfl) rfl <| gy rfl (bT hc17) <| tm rfl <| gy rfl (bT hc17) <| tv (ln u28 h6 rfl) rfl <| gy rfl (bT hc17) <| tv (blt rfl rfl) rfl <| gy rfl (bbF hc6) <| tv (pT (bT hc17)) rfl <| nj J16 (bAt hc17)
    · exact gn rfl (bF hc17) rfl rfl <| gn rfl (bF hc17) rfl rfl <| gn rfl (bF hc17) rfl rfl <| gn rfl (bF hc17) rfl rfl <| gn rfl (bF hc17) rfl rfl <| gy rfl (bbF hc6) <| tv (pF (bF hc17)) rfl <| nj J16 (bAf hc17)
   by_cases hc12 : a1.op = 17
   · exact gy rfl (bT hc12) <| tv (fa f49_4 rfl) rfl <| gy rfl (bT hc12) <| tv (lb s3 0 rfl rfl rfl) rfl <| gy rfl (bT hc12) <| tv (bge rfl rfl) rfl <| gy rfl (bbF hc6) <| tv (pT (bT hc12)) rfl <| nj J11 (bAt hc12)
   · exact gn rfl (bF hc12) rfl rfl <| gn rfl (bF hc12) rfl rfl <| gn rfl (bF hc12) rfl rfl <| gy rfl (bbF hc6) <| tv (pF (bF hc12)) rfl <| nj J11 (bAf hc12)

/-! ### fettle/fettlelaw15.EffectKinds -/
abbrev fettlelaw15_EffectKinds.R (r : Bool) (v : Value) (A : List FP) : Prop := .bool r = v ∧ A = []
def fettlelaw15_EffectKinds (a1 : PInstr) (a4 : List PEffect) (a7 : PEffect) : Option Bool :=
  (fettlelaw15_up).bind fun x10 =>
  if (len a4) > 100 ∨ (len a1.args) > 300 then
    some x10
  else
    (effect_Quiet a7).bind fun x11 =>
    (fettleref15_Quiet a7).bind fun x12 =>
    (if (!(x11 == x12)) = true then some true else (effect_Still a7).bind fun x20 =>
    (fettleref15_Still a7).bind fun x21 =>
    some (!(x20 == x21))).bind fun t13 =>
    if t13 = true then
      some false
    else
      (if x10 = true then (effect_Removable a1 a4).bind fun x18 =>
      (fettleref15_Removable a1 a4 false).bind fun x19 =>
      some (x18 == x19) else some false).bind fun t14 =>
      (if t14 = true then (effect_Fixed a1 a4).bind fun x16 =>
      (fettleref15_Removable a1 a4 true).bind fun x17 =>
      some (x16 == x17) else some false).bind fun t15 =>
      some t15
set_option maxHeartbeats 4000000 in
theorem fettlelaw15_EffectKinds_ok {E : World} {H : FP} {w : World} {a1 : PInstr} {a4 : List PEffect} {a7 : PEffect} {v2 : Value} {v5 : Value} {r : Bool} (h3 : SlI (kInt .i64) H a1.args v2) (h6 : SlI kEffect H a4 v5) (hp : fettlelaw15_EffectKinds a1 a4 a7 = some r) (hst : St E H [] w) :
    Fn Try.prog 5 #[.agg #[.int .i64 a1.op, .int .i64 a1.dst, v2, .int .i64 a1.imm, .int .i64 a1.fn], v5, .agg #[.bool a7.reads, .bool a7.writes, .bool a7.outs, .bool a7.traps, .bool a7.turns]] w fun v w' => ∃ A, fettlelaw15_EffectKinds.R r v A ∧ St E H A w' := by
 refine fb 50 [.tmp 6] Try.func5 rfl rfl rfl rfl rfl hst <| sr <| tb [.int .i64 a1.op, .int .i64 a1.dst, v2, .int .i64 a1.imm, .int .i64 a1.fn] rfl rfl fun b8 => tb [.bool a7.reads, .bool a7.writes, .bool a7.outs, .bool a7.traps, .bool a7.turns] rfl rfl fun b9 => ta rfl <| nz <| sr <| bE hp fun x10 hy1 hp => tc 0 [_,_] rfl c7 (fun _ => fettlelaw15_up_ok hy1) rfl ?_
 rintro _ _ ⟨rfl, rfl⟩
 refine ta rfl <| nz <| TC.seq fun K3 k4 => sr <| tm rfl <| tv (ln u28 h6 rfl) rfl <| tv (bgt rfl rfl) rfl <| tm rfl <| TL.cut 5 fun K5 k6 => ?_
 have J7 {e9} : ∀ w, St E H [bx b9 34 [.bool a7.reads, .bool a7.writes, .bool a7.outs, .bool a7.traps, .bool a7.turns], bx b8 49 [.int .i64 a1.op, .int .i64 a1.dst, v2, .int .i64 a1.imm, .int .i64 a1.fn]] w → K5 (ovr e9 [(17, .bool (decide ((len a4) > 100 ∨ (len a1.args) > 300))), (1, v5), (3, .pointer (some ⟨b8, 0, none⟩)), (5, .pointer (some ⟨b9, 0, none⟩)), (7, .bool x10)]) w := by
  refine tlg k6 <| nz <| cD rfl hp (fun hc10 hp => ?_) fun hc10 hp => ?_
  · exact sr <| tm rfl <| ta rfl <| nz <| TC.ret <| rt hp [] ⟨rfl, rfl⟩
  · refine sk k4 rfl <| TC.seq fun K11 k12 => TC.seq fun K13 k14 => cq mix (by kernel_rfl) <| qv (lA (ds := [.bool a7.reads, .bool a7.writes, .bool a7.outs, .bool a7.traps, .bool a7.turns]) ag_34 0 rfl rfl rfl rfl) rfl <| bE hp fun x11 hy15 hp => qc (.bool x11) c13 (fun _ => effect_Quiet_ok (a1 := a7) hy15) (fun _ _ h => ⟨h.1.symm, h.2⟩) rfl <| qv (lA (ds := [.bool a7.reads, .bool a7.writes, .bool a7.outs, .bool a7.traps, .bool a7.turns]) ag_34 0 rfl rfl rfl rfl) rfl <| bE hp fun x12 hy16 hp => qc (.bool x12) c14 (fun _ => fettleref15_Quiet_ok (a1 := a7) hy16) (fun _ _ h => ⟨h.1.symm, h.2⟩) rfl <| qv (rv_neqB (b := x11) (c := x12) Try.underlying4 rfl rfl) rfl <| qv mv rfl <| bE hp fun t13 ht41 hp => QL.cut 6 fun K17 k18 => ?_
    have J19 {e21} : K17 (ovr e21 [(30, .bool t13), (1, v5), (3, .pointer (some ⟨b8, 0, none⟩)), (7, .bool x10)]) := by
     refine k18 _ <| QL.nil <| tg k14 <| cB rfl hp (fun hc22 hp => ?_) fun hc22 hp => ?_
     · exact sr <| ta rfl <| nz <| TC.ret <| rt hp [] ⟨rfl, rfl⟩
     · refine sk k12 rfl <| TC.seq fun K23 k24 => cq mix (by kernel_rfl) <| qv mv rfl <| qv mv rfl <| bE hp fun t14 ht38 hp => QL.cut 8 fun K25 k26 => ?_
       have J27 {e29} : K25 (ovr e29 [(40, .bool t14), (1, v5), (3, .pointer (some ⟨b8, 0, none⟩))]) := by
        refine k26 _ <| qv mv rfl <| bE hp fun t15 ht35 hp => QL.cut 8 fun K30 k31 => ?_
        have J32 {e34} : K30 (ovr e34 [(49, .bool t15)]) := by
         exact k31 _ <| qv sg rfl <| QL.nil <| tg k24 <| TC.ret <| rt hp [] ⟨rfl, rfl⟩
        refine ifE ht35 (fun hc33 hp => ?_) fun hc33 hp => ?_
        · refine qgy rfl (bbT hc33) <| qv (lA (ds := [.int .i64 a1.op, .int .i64 a1.dst, v2, .int .i64 a1.imm, .int .i64 a1.fn]) ag_49 1 rfl rfl rfl rfl) rfl <| qgy rfl (bbT hc33) <| qv mv rfl <| qgy rfl (bbT hc33) <| bE hp fun x16 hy36 hp => qc (.bool x16) c19 (fun _ => effect_Fixed_ok (a1 := a1) (a4 := a4) (h3.mono subH) (h6.mono subH) hy36) (fun _ _ h => ⟨h.1.symm, h.2⟩) rfl <| qgy rfl (bbT hc33) <| qv (lA (ds := [.int .i64 a1.op, .int .i64 a1.dst, v2, .int .i64 a1.imm, .int .i64 a1.fn]) ag_49 1 rfl rfl rfl rfl) rfl <| qgy rfl (bbT hc33) <| qv mv rfl <| qgy rfl (bbT hc33) <| bE hp fun x17 hy37 hp => qc (.bool x17) c18 (fun _ => fettleref15_Removable_ok (a1 := a1) (a4 := a4) (a7 := true) (h3.mono subH) (h6.mono subH) hy37) (fun _ _ h => ⟨h.1.symm, h.2⟩) rfl <| qgy rfl (bbT hc33) <| qv (rv_eqlB (b := x16) (c := x17) Try.underlying4 rfl rfl) rfl <| qv (pT (bbT hc33)) rfl ?_
          obtain rfl := Option.some.inj hp
          exact qj J32 rfl
        · refine qgn rfl (bbF hc33) rfl rfl <| qgn rfl (bbF hc33) rfl rfl <| qgn rfl (bbF hc33) rfl rfl <| qgn rfl (bbF hc33) rfl rfl <| qgn rfl (bbF hc33) rfl rfl <| qgn rfl (bbF hc33) rfl rfl <| qgn rfl (bbF hc33) rfl rfl <| qv (pF (bbF hc33)) rfl ?_
          obtain rfl := Option.some.inj hp
          exact qj J32 rfl
       refine ifE ht38 (fun hc28 hp => ?_) fun hc28 hp => ?_
       · refine qgy rfl (bbT hc28) <| qv (lA (ds := [.int .i64 a1.op, .int .i64 a1.dst, v2, .int .i64 a1.imm, .int .i64 a1.fn]) ag_49 1 rfl rfl rfl rfl) rfl <| qgy rfl (bbT hc28) <| qv mv rfl <| qgy rfl (bbT hc28) <| bE hp fun x18 hy39 hp => qc (.bool x18) c17 (fun _ => effect_Removable_ok (a1 := a1) (a4 := a4) (h3.mono subH) (h6.mono subH) hy39) (fun _ _ h => ⟨h.1.symm, h.2⟩) rfl <| qgy rfl (bbT hc28) <| qv (lA (ds := [.int .i64 a1.op, .int .i64 a1.dst, v2, .int .i64 a1.imm, .int .i64 a1.fn]) ag_49 1 rfl rfl rfl rfl) rfl <| qgy rfl (bbT hc28) <| qv mv rfl <| qgy rfl (bbT hc28) <| bE hp fun x19 hy40 hp => qc (.bool x19) c18 (fun _ => fettleref15_Removable_ok (a1 := a1) (a4 := a4) (a7 := false) (h3.mono subH) (h6.mono subH) hy40) (fun _ _ h => ⟨h.1.symm, h.2⟩) rfl <| qgy rfl (bbT hc28) <| qv (rv_eqlB (b := x18) (c := x19) Try.underlying4 rfl rfl) rfl <| qv (pT (bbT hc28)) rfl ?_
         obtain rfl := Option.some.inj hp
         exact qj J27 rfl
       · refine qgn rfl (bbF hc28) rfl rfl <| qgn rfl (bbF hc28) rfl rfl <| qgn rfl (bbF hc28) rfl rfl <| qgn rfl (bbF hc28) rfl rfl <| qgn rfl (bbF hc28) rfl rfl <| qgn rfl (bbF hc28) rfl rfl <| qgn rfl (bbF hc28) rfl rfl <| qv (pF (bbF hc28)) rfl ?_
         obtain rfl := Option.some.inj hp
         exact qj J27 rfl
    refine ifE ht41 (fun hc20 hp => ?_) fun hc20 hp => ?_
    · refine qgn rfl (bbT hc20) rfl rfl <| qgn rfl (bbT hc20) rfl rfl <| qgn rfl (bbT hc20) rfl rfl <| qgn rfl (bbT hc20) rfl rfl <| qgn rfl (bbT hc20) rfl rfl <| qv (pT (bbT hc20)) rfl ?_
      obtain rfl := Option.some.inj hp
      exact qj J19 rfl
    · refine qgy rfl (bbF hc20) <| qv (lA (ds := [.bool a7.reads, .bool a7.writes, .bool a7.outs, .bool a7.traps, .bool a7.turns]) ag_34 0 rfl rfl rfl rfl) rfl <| qgy rfl (bbF hc20) <| bE hp fun x20 hy42 hp => qc (.bool x20) c15 (fun _ => effect_Still_ok (a1 := a7) hy42) (fun _ _ h => ⟨h.1.symm, h.2⟩) rfl <| qgy rfl (bbF hc20) <| qv (lA (ds := [.bool a7.reads, .bool a7.writes, .bool a7.outs, .bool a7.traps, .bool a7.turns]) ag_34 0 rfl rfl rfl rfl) rfl <| qgy rfl (bbF hc20) <| bE hp fun x21 hy43 hp => qc (.bool x21) c16 (fun _ => fettleref15_Still_ok (a1 := a7) hy43) (fun _ _ h => ⟨h.1.symm, h.2⟩) rfl <| qgy rfl (bbF hc20) <| qv (rv_neqB (b := x20) (c := x21) Try.underlying4 rfl rfl) rfl <| qv (pF (bbF hc20)) rfl ?_
      obtain rfl := Option.some.inj hp
      exact qj J19 rfl
 by_cases hc8 : (len a4) > 100
 · exact gn rfl (bT hc8) rfl rfl <| gn rfl (bT hc8) rfl rfl <| gn rfl (bT hc8) rfl rfl <| gn rfl (bT hc8) rfl rfl <| tv (pT (bT hc8)) rfl <| nj J7 (bOt hc8)
 · exact gy rfl (bF hc8) <| tv (fa f49_2 rfl) rfl <| gy rfl (bF hc8) <| tv (lb s36 1 rfl rfl rfl) rfl <| gy rfl (bF hc8) <| tv (ln u36 h3 rfl) rfl <| gy rfl (bF hc8) <| tv (bgt rfl rfl) rfl <| tv (pF (bF hc8)) rfl <| nj J7 (bOf hc8)

/-! ### fettle/run.fits -/
abbrev run_fits.R (r : Bool) (v : Value) (A : List FP) : Prop := .bool r = v ∧ A = []
def run_fits.nx31  : Option Bool :=
  some true
def run_fits.bd31 (a1 : PModule) (a4 : Int) (a5 : List Int) (x11 : Int) : Option (Ex (Ex Bool Unit) Int) :=
  if x11 < (len a5) then
    (idx a5 x11).bind fun x12 =>
    (idx a1.funcs a4).bind fun x18 =>
    (idx x18.regs x11).bind fun x28 =>
    if (x28 = 2 ∧ (¬ x12 = 0)) ∧ (¬ x12 = 1) then
      some (.ret (.ret false))
    else
      some (.go (w64 (x11 + 1)))
  else
    some (.ret (.go ()))
def run_fits (a1 : PModule) (a4 : Int) (a5 : List Int) (a8 : Int) : Option Bool :=
  (if a4 < 0 ∨ a4 ≥ (len a1.funcs) then some true else (idx a1.funcs a4).bind fun x34 =>
  some (decide (¬ (len a5) = x34.params))).bind fun t10 =>
  if (t10 = true ∨ a8 < 0) ∨ a8 > 1048576 then
    some false
  else
    (whl (fun (s : Int) => run_fits.bd31 a1 a4 a5 s) FUEL 0).bind fun z =>
    match z with
      | .ret r => some r
      | .go p => run_fits.nx31
set_option maxHeartbeats 4000000 in
theorem run_fits_ok {E : World} {H : FP} {w : World} {a1 : PModule} {a4 : Int} {a5 : List Int} {a8 : Int} {v2 : Value} {v6 : Value} {r : Bool} (h3 : SlI kFunc H a1.funcs v2) (h7 : SlI (kInt .i64) H a5 v6) (hp : run_fits a1 a4 a5 a8 = some r) (hst : St E H [] w) :
    Fn Try.prog 31 #[.agg #[v2], .int .i64 a4, v6, .int .i64 a8] w fun v w' => ∃ A, run_fits.R r v A ∧ St E H A w' := by
 refine fb 65 [.tmp 8] Try.func31 rfl rfl rfl rfl rfl hst <| sr <| tb [v2] rfl rfl fun b9 => ta rfl <| nz <| TC.seq fun K1 k2 => sr <| tm rfl <| tv (blt rfl rfl) rfl <| tm rfl <| TL.cut 6 fun K3 k4 => ?_
 have J5 {e7} : ∀ w, St E H [bx b9 24 [v2]] w → K3 (ovr e7 [(19, .bool (decide (a4 < 0 ∨ a4 ≥ (len a1.funcs)))), (1, .int .i64 a4), (2, v6), (3, .int .i64 a8), (4, .pointer (some ⟨b9, 0, none⟩))]) w := by
  refine tlg k4 <| tm rfl <| bE hp fun t10 ht56 hp => TL.cut 10 fun K8 k9 => ?_
  have J10 {e12} : ∀ w, St E H [bx b9 24 [v2]] w → K8 (ovr e12 [(30, .bool t10), (1, .int .i64 a4), (2, v6), (3, .int .i64 a8), (4, .pointer (some ⟨b9, 0, none⟩))]) w := by
   refine tlg k9 <| tm rfl <| TL.cut 3 fun K13 k14 => ?_
   have J15 {e17} : ∀ w, St E H [bx b9 24 [v2]] w → K13 (ovr e17 [(34, .bool (decide (t10 = true ∨ a8 < 0))), (1, .int .i64 a4), (2, v6), (3, .int .i64 a8), (4, .pointer (some ⟨b9, 0, none⟩))]) w := by
    refine tlg k14 <| tm rfl <| TL.cut 3 fun K18 k19 => ?_
    have J20 {e22} : ∀ w, St E H [bx b9 24 [v2]] w → K18 (ovr e22 [(38, .bool (decide ((t10 = true ∨ a8 < 0) ∨ a8 > 1048576))), (1, .int .i64 a4), (2, v6), (4, .pointer (some ⟨b9, 0, none⟩))]) w := by
     refine tlg k19 <| nz <| cD rfl hp (fun hc23 hp => ?_) fun hc23 hp => ?_
     · exact sr <| ta rfl <| nz <| TC.ret <| rt hp [] ⟨rfl, rfl⟩
     · refine sk k2 rfl <| TC.seq fun K24 k25 => sr <| tm rfl <| tv (ln u54 h7 rfl) rfl <| tm rfl <| nz <| TC.block <| bE hp fun z_27 hz28 hr29 => ?_
       have J33 {e32} (hq34 : .go () = z_27) : ∀ w, St E H [] w → K24 (ovr e32 []) w := by
        subst hq34
        replace hp : run_fits.nx31 = some r := hr29
        exact tg k25 <| sr <| ta rfl <| nz <| TC.ret <| rt hp [] ⟨rfl, rfl⟩
       refine lp hz28 [0] rfl (fun s e L => ∃ e26, e = ovr e26 [(1, .int .i64 a4), (4, .pointer (some ⟨b9, 0, none⟩)), (39, v6), (40, .int .i64 (len a5)), (41, .int .i64 s)] ∧ L = [bx b9 24 [v2]]) ⟨_, ovr_eq _ _ rfl, rfl⟩ ?_
       rintro x11 _ _ ⟨e26, rfl, rfl⟩ X30 hp hx31
       replace hp : run_fits.bd31 a1 a4 a5 x11 = some X30 := hp
       refine sr <| tv (blt rfl rfl) rfl <| nz <| TC.seq fun K35 k36 => cD rfl hp (fun hc37 hp => ?_) fun hc37 hp => ?_
       · refine sk k36 rfl <| TC.seq fun K38 k39 => TC.block <| sr <| tm rfl <| ti u54 i2 h7 hp rfl rfl rfl rfl ?_
         rintro x12 b13 o14 _ hp rfl h17
         refine tv (lr s2 sH h17 0 rfl rfl) rfl <| ta rfl <| ta rfl <| nz <| sr <| tv (fa f24_0 rfl) rfl <| tv (lb s22 0 rfl rfl rfl) rfl <| tm rfl <| ti u22 i39 h3 hp rfl rfl rfl rfl ?_
         rintro x18 b19 o20 _ hp ⟨v24, v26, rfl, h25, h27⟩ h23
         refine tv (fa f39_2 rfl) rfl <| tv (lr s36 sH h23 2 rfl rfl) rfl <| tm rfl <| ti u36 i3 h25 hp rfl rfl rfl rfl ?_
         rintro x28 b29 o30 _ hp rfl h33
         refine tv (lr s3 sH h33 0 rfl rfl) rfl <| tv (beq rfl rfl) rfl <| tm rfl <| TL.cut 3 fun K43 k44 => ?_
         have J45 {e47} : ∀ w, St E H [bx b9 24 [v2]] w → K43 (ovr e47 [(59, .bool (decide (x28 = 2 ∧ (¬ x12 = 0)))), (1, .int .i64 a4), (4, .pointer (some ⟨b9, 0, none⟩)), (10, .int .i64 x12), (39, v6), (40, .int .i64 (len a5)), (41, .int .i64 x11)]) w := by
          refine tlg k44 <| tm rfl <| TL.cut 3 fun K48 k49 => ?_
          have J50 {e52} : ∀ w, St E H [bx b9 24 [v2]] w → K48 (ovr e52 [(63, .bool (decide ((x28 = 2 ∧ (¬ x12 = 0)) ∧ (¬ x12 = 1)))), (1, .int .i64 a4), (4, .pointer (some ⟨b9, 0, none⟩)), (39, v6), (40, .int .i64 (len a5)), (41, .int .i64 x11)]) w := by
           refine tlg k49 <| nz <| cD rfl hp (fun hc53 hp => ?_) fun hc53 hp => ?_
           · refine sr <| ta rfl <| nz <| TC.ret ?_
             obtain rfl := ex_ret hp hx31
             exact rt hr29 [] ⟨rfl, rfl⟩
           · exact sk k39 rfl <| TC.region <| tv (bad rfl rfl) rfl <| tm rfl <| nl <| gk hp [0] ⟨_, ovr_eq _ _ rfl, rfl⟩
          by_cases hc51 : x28 = 2 ∧ (¬ x12 = 0)
          · exact gy rfl (bT hc51) <| tm rfl <| gy rfl (bT hc51) <| tv (bne rfl rfl) rfl <| tv (pT (bT hc51)) rfl <| nj J50 (bAt hc51)
          · exact gn rfl (bF hc51) rfl rfl <| gn rfl (bF hc51) rfl rfl <| tv (pF (bF hc51)) rfl <| nj J50 (bAf hc51)
         by_cases hc46 : x28 = 2
         · exact gy rfl (bT hc46) <| tm rfl <| gy rfl (bT hc46) <| tv (bne rfl rfl) rfl <| tv (pT (bT hc46)) rfl <| nj J45 (bAt hc46)
         · exact gn rfl (bF hc46) rfl rfl <| gn rfl (bF hc46) rfl rfl <| tv (pF (bF hc46)) rfl <| nj J45 (bAf hc46)
       · exact TC.exit <| jn [] (J33 (ex_ret hp hx31))
    by_cases hc21 : t10 = true ∨ a8 < 0
    · exact gn rfl (bT hc21) rfl rfl <| gn rfl (bT hc21) rfl rfl <| tv (pT (bT hc21)) rfl <| nj J20 (bOt hc21)
    · exact gy rfl (bF hc21) <| tm rfl <| gy rfl (bF hc21) <| tv (bgt rfl rfl) rfl <| tv (pF (bF hc21)) rfl <| nj J20 (bOf hc21)
   by_cases hc16 : t10 = true
   · exact gn rfl (bbT hc16) rfl rfl <| gn rfl (bbT hc16) rfl rfl <| tv (pT (bbT hc16)) rfl <| nj J15 (bOt hc16)
   · exact gy rfl (bbF hc16) <| tm rfl <| gy rfl (bbF hc16) <| tv (blt rfl rfl) rfl <| tv (pF (bbF hc16)) rfl <| nj J15 (bOf hc16)
  refine ifE ht56 (fun hc11 hp => ?_) fun hc11 hp => ?_
  · refine gn rfl (bT hc11) rfl rfl <| gn rfl (bT hc11) rfl rfl <| gn rfl (bT hc11) rfl rfl <| gn rfl (bT hc11) rfl rfl <| gn rfl (bT hc11) rfl rfl <| gn rfl (bT hc11) rfl rfl <| gn rfl (bT hc11) rfl rfl <| gn rfl (bT hc11) rfl rfl <| gn rfl (bT hc11) rfl rfl <| tv (pT (bT hc11)) rfl ?_
    obtain rfl := Option.some.inj hp
    exact nj J10 rfl
  · refine gy rfl (bF hc11) <| tm rfl <| gy rfl (bF hc11) <| tv (ln u54 h7 rfl) rfl <| gy rfl (bF hc11) <| tv (fa f24_0 rfl) rfl <| gy rfl (bF hc11) <| tv (lb s22 0 rfl rfl rfl) rfl <| gy rfl (bF hc11) <| tm rfl <| gy rfl (bF hc11) <| ti u22 i39 h3 hp rfl rfl rfl rfl ?_
    rintro x34 b35 o36 _ hp ⟨v40, v42, rfl, h41, h43⟩ h39
    refine gy rfl (bF hc11) <| tv (fa f39_0 rfl) rfl <| gy rfl (bF hc11) <| tv (lr s3 sH h39 0 rfl rfl) rfl <| gy rfl (bF hc11) <| tv (bne rfl rfl) rfl <| tv (pF (bF hc11)) rfl ?_
    obtain rfl := Option.some.inj hp
    exact nj J10 rfl
 by_cases hc6 : a4 < 0
 · exact gn rfl (bT hc6) rfl rfl <| gn rfl (bT hc6) rfl rfl <| gn rfl (bT hc6) rfl rfl <| gn rfl (bT hc6) rfl rfl <| gn rfl (bT hc6) rfl rfl <| tv (pT (bT hc6)) rfl <| nj J5 (bOt hc6)
 · exact gy rfl (bF hc6) <| tm rfl <| gy rfl (bF hc6) <| tv (fa f24_0 rfl) rfl <| gy rfl (bF hc6) <| tv (lb s22 0 rfl rfl rfl) rfl <| gy rfl (bF hc6) <| tv (ln u22 h3 rfl) rfl <| gy rfl (bF hc6) <| tv (bge rfl rfl) rfl <| tv (pF (bF hc6)) rfl <| nj J5 (bOf hc6)

/-! ### (*fettle/run.runner).enter -/
abbrev run_runner_enter.R (b1 : Nat) (a2 : PRunner) (v3 : Value) (v5 : Value) (v10 : Value) (r : List PFrame) (v : Value) (A : List FP) : Prop := ∃ (w1 : Value) (G1 : FP), .tuple #[] = v ∧ A = [bx b1 80 (([v3, v5, w1, .bool a2.out.done, .int .i64 a2.out.trap, .int .i64 a2.out.value, v10, .int .i64 a2.out.steps] : List Value) ++ (arrC a2.out.memory ++ ([] : List Value))), G1] ∧ SlO 102 kFrame r w1 G1
def run_runner_enter (a2 : PRunner) (a13 : Int) (a14 : List Int) (a17 : Int) : Option (List PFrame) :=
  (idx a2.m.funcs a13).bind fun x18 =>
  (mkl (len x18.regs) (0 : Int)).bind fun x28 =>
  (cat a2.frames [(⟨a13, (cpy x28 a14), 0, 0, a17⟩ : PFrame)]).bind fun x35 =>
  some x35
theorem run_runner_enter_ok {E : World} {H : FP} {w : World} {a2 : PRunner} {a13 : Int} {a14 : List Int} {a17 : Int} {b1 : Nat} {v3 : Value} {v5 : Value} {v7 : Value} {F8 : FP} {v10 : Value} {v15 : Value} {r : List PFrame} (h4 : SlI kFunc H a2.m.funcs v3) (h6 : SlI (kSl 36 (kSl 3 (kInt .i64))) H a2.ahead v5) (h9 : SlO 102 kFrame a2.frames v7 F8) (h11 : SlI (kInt .i64) H a2.out.out v10) (h16 : SlI (kInt .i64) H a14 v15) (hp : run_runner_enter a2 a13 a14 a17 = some r) (hst : St E H [bx b1 80 (([v3, v5, v7, .bool a2.out.done, .int .i64 a2.out.trap, .int .i64 a2.out.value, v10, .int .i64 a2.out.steps] : List Value) ++ (arrC a2.out.memory ++ ([] : List Value))), F8] w) :
    Fn Try.prog 33 #[.pointer (some ⟨b1, 0, none⟩), .int .i64 a13, v15, .int .i64 a17] w fun v w' => ∃ A, run_runner_enter.R b1 a2 v3 v5 v10 r v A ∧ St E H A w' := by
 refine fb 36 [] Try.func33 rfl rfl rfl rfl rfl hst <| sr <| tm rfl <| tv (rv_nilCheck rfl) rfl <| tv (fa f80_0 rfl) rfl <| tv (fa f24_0 rfl) rfl <| tv (lb s22 0 rfl rfl rfl) rfl <| tm rfl <| ti u22 i39 h4 hp rfl rfl rfl rfl ?_
 rintro x18 b19 o20 _ hp ⟨v24, v26, rfl, h25, h27⟩ h23
 exact tv (fa f39_2 rfl) rfl <| tv (lr s36 sH h23 2 rfl rfl) rfl <| tv (ln u36 h25 rfl) rfl <| tk (k := (kInt .i64)) u54 i2 hp ⟨rfl, rfl⟩ rfl rfl rfl rfl rfl rfl fun x28 v29 F30 h31 hp => ta rfl <| nz <| sr <| tm rfl <| tm rfl <| TL.copy (fInt .i64) u54 i2 (ltb rfl) rfl rfl rfl rfl h31 h16 sH fun F32 h33 => nz <| TC.region <| tm rfl <| tm rfl <| tv (rv_nilCheck rfl) rfl <| tv (fa f80_2 rfl) rfl <| tv (lb s78 1 rfl rfl rfl) rfl <| tm rfl <| tm rfl <| tm rfl <| tv (rv_bv (vs := [(0, .int .i64 a13), (1, v29), (4, .int .i64 a17)]) (ds := [.int .i64 a13, v29, .int .i64 0, .int .i64 0, .int .i64 a17]) rfl (fun w => by obtain ⟨_, _, rfl⟩ := (h33).len; kernel_rfl)) rfl <| tbs [(0, .agg #[.int .i64 a13, v29, .int .i64 0, .int .i64 0, .int .i64 a17])] [.int .i64 a13, v29, .int .i64 0, .int .i64 0, .int .i64 a17] u78 i102 (by kernel_rfl) rfl rfl rfl rfl fun b34 => tp [3, 0, 1, 2] [_,_,_,_] rfl rfl <| tp2 u78 i102 h9 hp (RepL.to (G' := F32) (RepL.cons (k := kFrame) (x := (⟨a13, (cpy x28 a14), 0, 0, a17⟩ : PFrame)) ⟨_, _, rfl, rfl, h33⟩ RepL.nil) (by simp)) rfl rfl rfl rfl rfl rfl rfl rfl rfl fun x35 v36 F37 h38 hp => tv (rv_nilCheck rfl) rfl <| tv (fa f80_2 rfl) rfl <| TL.stB (ds := [v36]) (o := 2) (cs := (([v3, v5, v7, .bool a2.out.done, .int .i64 a2.out.trap, .int .i64 a2.out.value, v10, .int .i64 a2.out.steps] : List Value) ++ (arrC a2.out.memory ++ ([] : List Value)))) (b := b1) (u := v36) 1 rfl m78 rfl rfl (SlO.cells h38) (oc (h38).one oc0) (leb rfl) <| nl <| rt hp [1, 0] ⟨v36, F37, rfl, rfl, h38⟩
end Go.Proofs.Ytpomfbdbkejedaa
