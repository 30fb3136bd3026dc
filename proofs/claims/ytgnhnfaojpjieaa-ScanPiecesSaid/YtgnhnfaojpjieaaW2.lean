/- What the program's functions compute, shown of their code (W2). Own text; parts are printed by a program of this claim's author. -/
import Derived.Test.YtgnhnfaojpjieaaW1
import Derived.Test.YtgnhnfaojpjieaaRows
import Derived.WalkKit
import Derived.ProofKit
import Derived.OpenShut
import Derived.ShutString
import Derived.ChangeOld
import Derived.SizedLaws
namespace Go.Bx.Scan
set_option linter.unusedVariables false
set_option linter.unusedSimpArgs false
set_option linter.unusedSectionVars false
open Go.Proofs
set_option linter.unusedSimpArgs false
set_option linter.unusedVariables false
set_option maxRecDepth 10000
set_option maxHeartbeats 4000000
def f69_l0 (r2 : List Int) (x : List Int) (borrow : Int) (i : Int) : Option ((List Int)) :=
 if (decide (i < (x.length : Int))) = true then
  ((rd x i >>= fun e6 =>
  some (IntKind.i64.wrap ((IntKind.i64.wrap e6) - borrow)) >>= fun x7 =>
  if (decide (i < (r2.length : Int))) = true then
   (rd r2 i >>= fun e9 =>
   some (IntKind.i64.wrap (x7 - (IntKind.i64.wrap e9))) >>= fun x10 =>
   if (decide (x10 < 0)) = true then
    (rd x i >>= fun e12 =>
    some (setL x i (IntKind.u32.wrap (IntKind.i64.wrap (x10 + 4294967296))), 1))
   else
    rd x i >>= fun e13 =>
    some (setL x i (IntKind.u32.wrap x10), 0))
  else
   if (decide (x7 < 0)) = true then
    (rd x i >>= fun e15 =>
    some (setL x i (IntKind.u32.wrap (IntKind.i64.wrap (x7 + 4294967296))), 1))
   else
    rd x i >>= fun e16 =>
    some (setL x i (IntKind.u32.wrap x7), 0) : Option ((List Int) × Int)) >>= fun o5 =>
  f69_l0 r2 o5.1 o5.2 (IntKind.i64.wrap (i + 1)))
 else
  some x
 partial_fixpoint
/-- sibyl/sibylref01.Minus -/
def f69 (a : List Int) (b : List Int) : Option (List Int) :=
 f56 a >>= fun r1 =>
 f56 b >>= fun r2 =>
 f69_l0 r2 r1 0 0 >>= fun o3 =>
 f56 o3 >>= fun r17 =>
 some r17
noncomputable def f69_ci : CI := (CI.or 56 f56_tbl (fun _ _ _ => none))
theorem f69_ci_ok (base : Nat) : CIOK E base f69_ci := (or_ok f56_tbl_ok no_ok)
theorem f69_res : Try.f69.results = #[.tmp 4] := rfl
theorem f69_rt : Try.f69.resultTypes = #[36] := rfl
theorem f69_l0_ok {base : Nat} {c00 : Ctx} (r2 : List Int) (hU : Under E base c00 nilStore) : ∀ (x : List Int) (borrow : Int) (i : Int) (o3 : (List Int)), f69_l0 r2 x borrow i = some o3 →
  WpL E base c00 nilStore (lb Try.f69 0) ⟨jj 5 (.row 0 1 0 ((x).length) :: .row 1 1 0 ((r2).length) :: .v (.int .i64 borrow) :: .v (.int .i64 i) :: jj 40 []), St [some ⟨1, false, true, List.map (cInt .u32) x⟩, some ⟨1, false, true, List.map (cInt .u32) r2⟩], none, 0⟩ (fun ex s1 => ex = .exit 0 ∧ Wk base c00 nilStore s1 ⟨jj 5 (.row 0 1 0 ((o3).length) :: jj 43 []), St [some ⟨1, false, true, List.map (cInt .u32) o3⟩], none, 0⟩) := by
 refine f69_l0.partial_correctness r2 _ ?_
 intro lp__ ih x borrow i o3 h
 refine WpL.stepE (lbI Try.f69.eq_1) ?_
 refine Wp.seq <| rs hU (f69_ci_ok _) rgI <| ?_
 refine Wp.cond hU (t := decide (i < (x.length : Int))) rfl (fun hc4 => ?_) (fun hc4 => ?_)
 ·rw [if_t hc4] at h
  refine Wp.skip <| thenN <| ?_
  obtain ⟨o5, ho5, h⟩ := bind_some h
  refine Wp.seq1 (JP := (fun ex s1 => ex = .nrm ∧ Wk base c00 nilStore s1 ⟨jj 5 (.row 0 1 0 ((o5.1).length) :: .row 1 1 0 ((r2).length) :: .v (.int .i64 o5.2) :: .v (.int .i64 i) :: jj 40 []), St [some ⟨1, false, true, List.map (cInt .u32) o5.1⟩, some ⟨1, false, true, List.map (cInt .u32) r2⟩], none, 0⟩)) ?_ (fun ex s1 hp => ?_)
  ·replace h := ho5
   refine Wp.block <| Wp.seq <| ?_
   obtain ⟨e6, he6, h⟩ := bind_some h
   obtain ⟨he6a, he6b, he6c⟩ := rd_some he6
   obtain ⟨x7, hx7, h⟩ := bind_some h
   replace hx7 := sj hx7
   have fx := i5 he6a he6b he6c hx7 hc4
   refine rq hU (f69_ci_ok _) rgIF <| thenN <| Wp.seq <| Wp.seq <| ?_
   have fx := hc4
   refine rq hU (f69_ci_ok _) rgIF <| thenN <| ?_
   refine Wp.cond hU (t := decide (i < (r2.length : Int))) rfl (fun hc8 => ?_) (fun hc8 => ?_)
   ·rw [if_t hc8] at h
    obtain ⟨e9, he9, h⟩ := bind_some h
    obtain ⟨he9a, he9b, he9c⟩ := rd_some he9
    obtain ⟨x10, hx10, h⟩ := bind_some h
    replace hx10 := sj hx10
    have fx := i6 he9a he9b he9c hx10 hc4 hc8
    refine rq hU (f69_ci_ok _) rgIF <| thenN <| Wp.seq <| ?_
    have fx := i2 hc4 hc8
    refine rq hU (f69_ci_ok _) rgIF <| thenN <| Wp.seq <| rs hU (f69_ci_ok _) rgIF <| ?_
    refine Wp.cond hU (t := decide (x10 < 0)) rfl (fun hc11 => ?_) (fun hc11 => ?_)
    ·rw [if_t hc11] at h
     refine Wp.seq <| ?_
     have fx := i3 hc4 hc8 hc11
     refine rq hU (f69_ci_ok _) rgIF <| thenN <| rq hU (f69_ci_ok _) rgIF <| thenN <| ?_
     obtain ⟨e12, he12, h⟩ := bind_some h
     obtain ⟨he12a, he12b, he12c⟩ := rd_some he12
     have fx := i6 he12a he12b he12c hc4 hc8 hc11
     refine rq hU (f69_ci_ok _) rgIF <| blkN <| ?_
     obtain rfl := sj h
     refine ⟨rfl, ?_⟩
     exact Wk.weak hU [some 0, some 1] _ (by decide) wsI wvI
    ·rw [if_f hc11] at h
     refine Wp.skip <| thenN <| ?_
     obtain ⟨e13, he13, h⟩ := bind_some h
     obtain ⟨he13a, he13b, he13c⟩ := rd_some he13
     have fx := i6 he13a he13b he13c hc4 hc8 hc11
     refine rq hU (f69_ci_ok _) rgIF <| blkN <| ?_
     obtain rfl := sj h
     refine ⟨rfl, ?_⟩
     exact Wk.weak hU [some 0, some 1] _ (by decide) wsI wvI
   ·rw [if_f hc8] at h
    refine Wp.skip <| thenN <| Wp.seq <| ?_
    have fx := i2 hc4 hc8
    refine rq hU (f69_ci_ok _) rgIF <| thenN <| Wp.seq <| rs hU (f69_ci_ok _) rgIF <| ?_
    refine Wp.cond hU (t := decide (x7 < 0)) rfl (fun hc14 => ?_) (fun hc14 => ?_)
    ·rw [if_t hc14] at h
     refine Wp.seq <| ?_
     have fx := i3 hc4 hc8 hc14
     refine rq hU (f69_ci_ok _) rgIF <| thenN <| rq hU (f69_ci_ok _) rgIF <| thenN <| ?_
     obtain ⟨e15, he15, h⟩ := bind_some h
     obtain ⟨he15a, he15b, he15c⟩ := rd_some he15
     have fx := i6 he15a he15b he15c hc4 hc8 hc14
     refine rq hU (f69_ci_ok _) rgIF <| blkN <| ?_
     obtain rfl := sj h
     refine ⟨rfl, ?_⟩
     exact Wk.weak hU [some 0, some 1] _ (by decide) wsI wvI
    ·rw [if_f hc14] at h
     refine Wp.skip <| thenN <| ?_
     obtain ⟨e16, he16, h⟩ := bind_some h
     obtain ⟨he16a, he16b, he16c⟩ := rd_some he16
     have fx := i6 he16a he16b he16c hc4 hc8 hc14
     refine rq hU (f69_ci_ok _) rgIF <| blkN <| ?_
     obtain rfl := sj h
     refine ⟨rfl, ?_⟩
     exact Wk.weak hU [some 0, some 1] _ (by decide) wsI wvI
  ·obtain ⟨rfl, hp⟩ := hp
   refine thenN (hp.wp ?_)
   have fx := hc4
   refine rq hU (f69_ci_ok _) rgIF <| againN <| ?_
   refine Wk.wpL ?_ (ih o5.1 o5.2 (IntKind.i64.wrap (i + 1)) _ h)
   exact Wk.weak hU [some 0, some 1] _ (by decide) wsI wvI
 ·rw [if_f hc4] at h
  refine Wp.exit <| thenE <| againE <| ?_
  obtain rfl := sj h
  refine ⟨rfl, ?_⟩
  exact Wk.weak hU [some 0] _ (by decide) wsI wvI
theorem f69_ok (a : List Int) (b : List Int) (r : List Int) (h : f69 a b = some r) : PureOK E 69 [.sl (List.map (cInt .u32) a), .sl (List.map (cInt .u32) b)] (.own false 1 (List.map (cInt .u32) r)) := by
 unfold f69 at h
 refine pof (fn := Try.f69) (nt := 49) Try.func69 rfl rfl rfl rfl (fun _ => rfl) (fun base c00 hU => ?_)
 refine Wk.wp (s2 := ⟨.sl (List.map (cInt .u32) a) :: .sl (List.map (cInt .u32) b) :: jj 47 [], St [], none, 0⟩) ?_ ?_
 ·exact Wk.weak hU [] _ (by decide) .nil wvS
 refine rs hU (f69_ci_ok _) rgI <| Wp.seq <| ?_
 obtain ⟨r1, hr1, h⟩ := bind_some h
 have hr1c := fun σ => show f69_ci 56 _ σ = _ from f56_call hr1 σ
 obtain ⟨r2, hr2, h⟩ := bind_some h
 have hr2c := fun σ => show f69_ci 56 _ σ = _ from f56_call hr2 σ
 have fx := i2 hr1c hr2c
 refine rq hU (f69_ci_ok _) rgIF <| thenN <| rs hU (f69_ci_ok _) rgI <| Wp.seq <| rs hU (f69_ci_ok _) rgI <| Wp.block <| ?_
 obtain ⟨o3, ho3, h⟩ := bind_some h
 refine Wp.loop <| ?_
 refine Tw.mono (Wk.wpL (s2 := ⟨jj 5 (.row 0 1 0 ((r1).length) :: .row 1 1 0 ((r2).length) :: .v (.int .i64 0) :: .v (.int .i64 0) :: jj 40 []), St [some ⟨1, false, true, List.map (cInt .u32) r1⟩, some ⟨1, false, true, List.map (cInt .u32) r2⟩], none, 0⟩) ?_ (f69_l0_ok r2 hU r1 0 0 o3 ho3)) (fun ex s1 hp => ?_)
 ·exact Wk.weak hU [some 0, some 1] _ (by decide) wsI wvI
 ·obtain ⟨rfl, hp⟩ := hp
  refine blkE <| thenN <| hp.wp <| Wp.seq <| ?_
  obtain ⟨r17, hr17, h⟩ := bind_some h
  have hr17c := fun σ => show f69_ci 56 _ σ = _ from f56_call hr17 σ
  have fx := hr17c
  refine rq hU (f69_ci_ok _) rgIF <| thenN <| Wp.ret <| ?_
  obtain rfl := sj h
  refine ⟨.inl rfl, ?_⟩
  refine Rt.of <| ?_
  have fx := i2 f69_res f69_rt
  exact rtI
noncomputable def f69_tbl : CI := tbl 69 (fun p : (List Int) × (List Int) => [.sl (List.map (cInt .u32) p.1), .sl (List.map (cInt .u32) p.2)]) (fun p => (f69 p.1 p.2).map fun r => .own false 1 (List.map (cInt .u32) r))
theorem f69_tbl_ok {base : Nat} : CIOK E base f69_tbl := tbl_okM fun p q h => f69_ok p.1 p.2 q h
theorem f69_call {a : List Int} {b : List Int} {r : List Int} (h : f69 a b = some r) (σ : Store) : f69_tbl 69 [.sl (List.map (cInt .u32) a), .sl (List.map (cInt .u32) b)] σ = some (.own false 1 (List.map (cInt .u32) r), σ, none) :=
 tbl_eq (x := (a, b)) (fun x y e => by
  obtain ⟨x0, x1⟩ := x; obtain ⟨y0, y1⟩ := y
  have e0 := av_sl inj_int (List.cons.inj e).1
  have e1 := av_sl inj_int (List.cons.inj (List.cons.inj e).2).1
  subst e0 e1; rfl) (by simp [h]) σ
def f70_l0 (a : List Int) (n : Int) (out : List Int) (carry : Int) (i : Int) : Option ((List Int) × Int) :=
 if (decide (i < (a.length : Int))) = true then
  (rd a i >>= fun e4 =>
  nn (IntKind.u64.wrap (n.tmod 32)) >>= fun u5 =>
  some (IntKind.u64.wrap ((shlI .u64 (IntKind.u64.wrap e4) (IntKind.u64.wrap (n.tmod 32))) + carry)) >>= fun x6 =>
  ap 4 out [IntKind.u32.wrap (x6.tmod 4294967296)] >>= fun a7 =>
  f70_l0 a n a7 (quoI .u64 x6 4294967296) (IntKind.i64.wrap (i + 1)))
 else
  some (out, carry)
 partial_fixpoint
/-- sibyl/sibylref01.Shl -/
def f70 (a : List Int) (n : Int) : Option (List Int) :=
 mk 4 (quoI .i64 n 32) 0 >>= fun m1 =>
 f70_l0 a n m1 0 0 >>= fun o2 =>
 ap 4 o2.1 [IntKind.u32.wrap o2.2] >>= fun a8 =>
 f56 a8 >>= fun r9 =>
 some r9
noncomputable def f70_ci : CI := (CI.or 56 f56_tbl (fun _ _ _ => none))
theorem f70_ci_ok (base : Nat) : CIOK E base f70_ci := (or_ok f56_tbl_ok no_ok)
theorem f70_res : Try.f70.results = #[.tmp 4] := rfl
theorem f70_rt : Try.f70.resultTypes = #[36] := rfl
theorem f70_l0_ok {base : Nat} {c00 : Ctx} (a : List Int) (n : Int) (hU : Under E base c00 nilStore) : ∀ (out : List Int) (carry : Int) (i : Int) (o2 : (List Int) × Int), f70_l0 a n out carry i = some o2 →
  WpL E base c00 nilStore (lb Try.f70 0) ⟨.sl (List.map (cInt .u32) a) :: .v (.int .i64 n) :: jj 3 (.row 0 1 0 ((out).length) :: .v (.int .u64 carry) :: .v (.int .i64 i) :: jj 36 []), St [some ⟨1, false, true, List.map (cInt .u32) out⟩], none, 0⟩ (fun ex s1 => ex = .exit 0 ∧ Wk base c00 nilStore s1 ⟨jj 5 (.row 0 1 0 ((o2.1).length) :: .v (.int .u64 o2.2) :: jj 37 []), St [some ⟨1, false, true, List.map (cInt .u32) o2.1⟩], none, 0⟩) := by
 refine f70_l0.partial_correctness a n _ ?_
 intro lp__ ih out carry i o2 h
 refine WpL.stepE (lbI Try.f70.eq_1) ?_
 refine Wp.seq <| rs hU (f70_ci_ok _) rgI <| ?_
 refine Wp.cond hU (t := decide (i < (a.length : Int))) rfl (fun hc3 => ?_) (fun hc3 => ?_)
 ·rw [if_t hc3] at h
  refine Wp.skip <| thenN <| Wp.seq <| Wp.block <| Wp.seq <| ?_
  obtain ⟨e4, he4, h⟩ := bind_some h
  obtain ⟨he4a, he4b, he4c⟩ := rd_some he4
  obtain ⟨u5, hu5, h⟩ := bind_some h
  have hu5a := nn_some hu5
  obtain ⟨x6, hx6, h⟩ := bind_some h
  replace hx6 := sj hx6
  have fx := i6 he4a he4b he4c hu5a hx6 hc3
  refine rq hU (f70_ci_ok _) rgIF <| thenN <| Wp.seq <| ?_
  obtain ⟨a7, ha7, h⟩ := bind_some h
  obtain ⟨ha7a, ha7b⟩ := ap_some ha7
  try simp only [List.length_cons, List.length_nil, Nat.zero_add, Nat.add_zero, Nat.reduceAdd] at ha7a
  have fx := i2 ha7a hc3
  refine rq hU (f70_ci_ok _) rgIF <| thenN <| ?_
  refine Wk.wp (s2 := ⟨.sl (List.map (cInt .u32) a) :: .v (.int .i64 n) :: jj 3 (.row 0 1 0 ((a7).length) :: jj 1 (.v (.int .i64 i) :: .v (.int .u64 x6) :: jj 35 [])), St [some ⟨1, false, true, List.map (cInt .u32) a7⟩], none, 0⟩) ?_ ?_
  ·have fe := ha7b
   have fl := ha7b
   have fv := nofx
   exact Wk.weak hU [some 2] _ (by decide) wsIF wvIF
  have fx := hc3
  refine rq hU (f70_ci_ok _) rgIF <| blkN <| thenN <| rq hU (f70_ci_ok _) rgIF <| againN <| ?_
  refine Wk.wpL ?_ (ih a7 (quoI .u64 x6 4294967296) (IntKind.i64.wrap (i + 1)) _ h)
  have fe := ha7b
  have fl := ha7b
  have fv := nofx
  exact Wk.weak hU [some 0] _ (by decide) wsIF wvIF
 ·rw [if_f hc3] at h
  refine Wp.exit <| thenE <| againE <| ?_
  obtain rfl := sj h
  refine ⟨rfl, ?_⟩
  exact Wk.weak hU [some 0] _ (by decide) wsI wvI
theorem f70_ok (a : List Int) (n : Int) (r : List Int) (h : f70 a n = some r) : PureOK E 70 [.sl (List.map (cInt .u32) a), .v (.int .i64 n)] (.own false 1 (List.map (cInt .u32) r)) := by
 unfold f70 at h
 refine pof (fn := Try.f70) (nt := 44) Try.func70 rfl rfl rfl rfl (fun _ => rfl) (fun base c00 hU => ?_)
 refine Wk.wp (s2 := ⟨.sl (List.map (cInt .u32) a) :: .v (.int .i64 n) :: jj 42 [], St [], none, 0⟩) ?_ ?_
 ·exact Wk.weak hU [] _ (by decide) .nil wvS
 refine rs hU (f70_ci_ok _) rgI <| Wp.seq <| ?_
 obtain ⟨m1, hm1, h⟩ := bind_some h
 obtain ⟨hm1a, hm1b, hm1c, hm1d⟩ := mk_some hm1
 have fx := i3 hm1a hm1b hm1c
 refine rq hU (f70_ci_ok _) rgIF <| thenN <| rs hU (f70_ci_ok _) rgI <| Wp.seq <| rs hU (f70_ci_ok _) rgI <| Wp.block <| ?_
 obtain ⟨o2, ho2, h⟩ := bind_some h
 refine Wp.loop <| ?_
 refine Tw.mono (Wk.wpL (s2 := ⟨.sl (List.map (cInt .u32) a) :: .v (.int .i64 n) :: jj 3 (.row 0 1 0 ((m1).length) :: .v (.int .u64 0) :: .v (.int .i64 0) :: jj 36 []), St [some ⟨1, false, true, List.map (cInt .u32) m1⟩], none, 0⟩) ?_ (f70_l0_ok a n hU m1 0 0 o2 ho2)) (fun ex s1 hp => ?_)
 ·have fe := hm1d
  have fl := hm1d
  have fv := nofx
  exact Wk.weak hU [some 0] _ (by decide) wsIF wvIF
 ·obtain ⟨rfl, hp⟩ := hp
  refine blkE <| thenN <| hp.wp <| Wp.seq <| ?_
  obtain ⟨a8, ha8, h⟩ := bind_some h
  obtain ⟨ha8a, ha8b⟩ := ap_some ha8
  try simp only [List.length_cons, List.length_nil, Nat.zero_add, Nat.add_zero, Nat.reduceAdd] at ha8a
  have fx := ha8a
  refine rq hU (f70_ci_ok _) rgIF <| thenN <| ?_
  refine Wk.wp (s2 := ⟨jj 5 (.row 0 1 0 ((a8).length) :: jj 38 []), St [some ⟨1, false, true, List.map (cInt .u32) a8⟩], none, 0⟩) ?_ ?_
  ·have fe := i2 hm1d ha8b
   have fl := i2 hm1d ha8b
   have fv := nofx
   exact Wk.weak hU [some 2] _ (by decide) wsIF wvIF
  refine Wp.seq <| ?_
  obtain ⟨r9, hr9, h⟩ := bind_some h
  have hr9c := fun σ => show f70_ci 56 _ σ = _ from f56_call hr9 σ
  have fx := hr9c
  refine rq hU (f70_ci_ok _) rgIF <| thenN <| Wp.ret <| ?_
  obtain rfl := sj h
  refine ⟨.inl rfl, ?_⟩
  refine Rt.of <| ?_
  have fx := i4 f70_res f70_rt hm1d ha8b
  exact rtI
noncomputable def f70_tbl : CI := tbl 70 (fun p : (List Int) × Int => [.sl (List.map (cInt .u32) p.1), .v (.int .i64 p.2)]) (fun p => (f70 p.1 p.2).map fun r => .own false 1 (List.map (cInt .u32) r))
theorem f70_tbl_ok {base : Nat} : CIOK E base f70_tbl := tbl_okM fun p q h => f70_ok p.1 p.2 q h
theorem f70_call {a : List Int} {n : Int} {r : List Int} (h : f70 a n = some r) (σ : Store) : f70_tbl 70 [.sl (List.map (cInt .u32) a), .v (.int .i64 n)] σ = some (.own false 1 (List.map (cInt .u32) r), σ, none) :=
 tbl_eq (x := (a, n)) (fun x y e => by
  obtain ⟨x0, x1⟩ := x; obtain ⟨y0, y1⟩ := y
  have e0 := av_sl inj_int (List.cons.inj e).1
  have e1 := av_int (List.cons.inj (List.cons.inj e).2).1
  subst e0 e1; rfl) (by simp [h]) σ
def f57_l0 (r1 : List Int) (r2 : List Int) (twos : Int) : Option (Int) :=
 f66 r1 twos >>= fun r6 =>
 if (!r6) = true then
  (f66 r2 twos >>= fun r7 =>
  if (!r7) = true then
   (f57_l0 r1 r2 (IntKind.i64.wrap (twos + 1)))
  else
   some twos)
 else
  some twos
 partial_fixpoint
def f57_l1 (x : List Int) (y : List Int) : Option ((List Int) × (List Int)) :=
 if (decide ((x.length : Int) > 0)) = true then
  (if (decide ((y.length : Int) > 0)) = true then
   (f66 x 0 >>= fun r11 =>
   if (!r11) = true then
    (f67 x 1 >>= fun r13 =>
    f57_l1  r13 y)
   else
    f66 y 0 >>= fun r14 =>
    if (!r14) = true then
     (f67 y 1 >>= fun r16 =>
     f57_l1  x r16)
    else
     f68 x y >>= fun r17 =>
     if (decide (r17 ≥ 0)) = true then
      (f69 x y >>= fun r19 =>
      f57_l1  r19 y)
     else
      f69 y x >>= fun r20 =>
      f57_l1  x r20)
  else
   some (x, y))
 else
  some (x, y)
 partial_fixpoint
/-- sibyl/sibylref01.Common -/
def f57 (a : List Int) (b : List Int) : Option (List Int) :=
 f56 a >>= fun r1 =>
 f56 b >>= fun r2 =>
 if ((r1.length : Int) == 0) = true then
  (some r2)
 else
  if ((r2.length : Int) == 0) = true then
   (some r1)
  else
   f57_l0 r1 r2 0 >>= fun o5 =>
   f67 r1 o5 >>= fun r7 =>
   f67 r2 o5 >>= fun r8 =>
   f57_l1 r7 r8 >>= fun o9 =>
   f59 o9.1 o9.2 >>= fun r10 =>
   f70 r10 o5 >>= fun r11 =>
   some r11
noncomputable def f57_ci : CI := (CI.or 56 f56_tbl (CI.or 66 f66_tbl (CI.or 67 f67_tbl (CI.or 68 f68_tbl (CI.or 69 f69_tbl (CI.or 59 f59_tbl (CI.or 70 f70_tbl (fun _ _ _ => none))))))))
theorem f57_ci_ok (base : Nat) : CIOK E base f57_ci := (or_ok f56_tbl_ok (or_ok f66_tbl_ok (or_ok f67_tbl_ok (or_ok f68_tbl_ok (or_ok f69_tbl_ok (or_ok f59_tbl_ok (or_ok f70_tbl_ok no_ok)))))))
theorem f57_res : Try.f57.results = #[.tmp 4] := rfl
theorem f57_rt : Try.f57.resultTypes = #[36] := rfl
theorem f57_l0_ok {base : Nat} {c00 : Ctx} (r1 : List Int) (r2 : List Int) (hU : Under E base c00 nilStore) : ∀ (twos : Int) (o5 : Int), f57_l0 r1 r2 twos = some o5 →
  WpL E base c00 nilStore (lb Try.f57 0) ⟨jj 5 (.sl (List.map (cInt .u32) r1) :: .sl (List.map (cInt .u32) r2) :: .v (.int .i64 twos) :: jj 63 []), St [], none, 0⟩ (fun ex s1 => ex = .exit 0 ∧ Wk base c00 nilStore s1 ⟨jj 5 (.sl (List.map (cInt .u32) r1) :: .sl (List.map (cInt .u32) r2) :: .v (.int .i64 o5) :: jj 63 []), St [], none, 0⟩) := by
 refine f57_l0.partial_correctness r1 r2 _ ?_
 intro lp__ ih twos o5 h
 refine WpL.stepE (lbI Try.f57.eq_1) ?_
 refine Wp.seq <| Wp.seq <| ?_
 obtain ⟨r6, hr6, h⟩ := bind_some h
 have hr6c := fun σ => show f57_ci 66 _ σ = _ from f66_call hr6 σ
 rcases Bool.eq_false_or_eq_true (!r6) with hg52 | hg52
 ·rw [if_t hg52] at h
  obtain ⟨r7, hr7, h⟩ := bind_some h
  have hr7c := fun σ => show f57_ci 66 _ σ = _ from f66_call hr7 σ
  have fx := i3 hr6c hr7c hg52
  refine rq hU (f57_ci_ok _) rgIF <| thenN <| ?_
  refine Wp.cond hU (t := !r7) rfl (fun hc8 => ?_) (fun hc8 => ?_)
  ·rw [if_t hc8] at h
   refine Wp.skip <| thenN <| Wp.block <| ?_
   have fx := i2 hg52 hc8
   refine rq hU (f57_ci_ok _) rgIF <| blkN <| againN <| ?_
   refine Wk.wpL ?_ (ih (IntKind.i64.wrap (twos + 1)) _ h)
   exact Wk.weak hU [] _ (by decide) .nil wvI
  ·rw [if_f hc8] at h
   refine Wp.exit <| thenE <| againE <| ?_
   obtain rfl := sj h
   refine ⟨rfl, ?_⟩
   exact Wk.weak hU [] _ (by decide) .nil wvI
 ·rw [if_f hg52] at h
  have fx := i2 hr6c hg52
  refine rq hU (f57_ci_ok _) rgIF <| thenN <| ?_
  refine Wp.cond hU (t := false) rfl (fun hc => by cases hc) (fun _ => ?_)
  refine Wp.exit <| thenE <| againE <| ?_
  obtain rfl := sj h
  refine ⟨rfl, ?_⟩
  exact Wk.weak hU [] _ (by decide) .nil wvI
theorem f57_l1_ok {base : Nat} {c00 : Ctx} (o5 : Int) (hU : Under E base c00 nilStore) : ∀ (x : List Int) (y : List Int) (o9 : (List Int) × (List Int)), f57_l1  x y = some o9 →
  WpL E base c00 nilStore (lb Try.f57 1) ⟨jj 5 (.sl (List.map (cInt .u32) x) :: .sl (List.map (cInt .u32) y) :: .v (.int .i64 o5) :: jj 63 []), St [], none, 0⟩ (fun ex s1 => ex = .exit 2 ∧ Wk base c00 nilStore s1 ⟨jj 5 (.sl (List.map (cInt .u32) o9.1) :: .sl (List.map (cInt .u32) o9.2) :: .v (.int .i64 o5) :: jj 63 []), St [], none, 0⟩) := by
 refine f57_l1.partial_correctness  (fun x y o9 => WpL E base c00 nilStore (lb Try.f57 1) ⟨jj 5 (.sl (List.map (cInt .u32) x) :: .sl (List.map (cInt .u32) y) :: .v (.int .i64 o5) :: jj 63 []), St [], none, 0⟩ (fun ex s1 => ex = .exit 2 ∧ Wk base c00 nilStore s1 ⟨jj 5 (.sl (List.map (cInt .u32) o9.1) :: .sl (List.map (cInt .u32) o9.2) :: .v (.int .i64 o5) :: jj 63 []), St [], none, 0⟩)) ?_
 intro lp__ ih x y o9 h
 refine WpL.stepE (lbI Try.f57.eq_1) ?_
 refine Wp.seq <| Wp.seq <| ?_
 rcases Bool.eq_false_or_eq_true (decide ((x.length : Int) > 0)) with hg72 | hg72
 ·rw [if_t hg72] at h
  have fx := hg72
  refine rq hU (f57_ci_ok _) rgIF <| thenN <| ?_
  refine Wp.cond hU (t := decide ((y.length : Int) > 0)) rfl (fun hc10 => ?_) (fun hc10 => ?_)
  ·rw [if_t hc10] at h
   refine Wp.skip <| thenN <| Wp.block <| Wp.seq <| ?_
   obtain ⟨r11, hr11, h⟩ := bind_some h
   have hr11c := fun σ => show f57_ci 66 _ σ = _ from f66_call hr11 σ
   have fx := i3 hr11c hg72 hc10
   refine rq hU (f57_ci_ok _) rgIF <| thenN <| ?_
   refine Wp.cond hU (t := !r11) rfl (fun hc12 => ?_) (fun hc12 => ?_)
   ·rw [if_t hc12] at h
    obtain ⟨r13, hr13, h⟩ := bind_some h
    have hr13c := fun σ => show f57_ci 67 _ σ = _ from f67_call hr13 σ
    have fx := i4 hr13c hg72 hc10 hc12
    refine rq hU (f57_ci_ok _) rgIF <| blkN <| againN <| ?_
    refine Wk.wpL ?_ (ih r13 y _ h)
    refine Wk.share hU [0] ?_
    simp (decide := true) only [share, fresh1, reduceIte, reduceCtorEq, Nat.reduceAdd, bxm]
    exact Wk.weak hU [] _ (by decide) .nil wvI
   ·rw [if_f hc12] at h
    refine Wp.seq <| ?_
    obtain ⟨r14, hr14, h⟩ := bind_some h
    have hr14c := fun σ => show f57_ci 66 _ σ = _ from f66_call hr14 σ
    have fx := i4 hr14c hg72 hc10 hc12
    refine rq hU (f57_ci_ok _) rgIF <| thenN <| ?_
    refine Wp.cond hU (t := !r14) rfl (fun hc15 => ?_) (fun hc15 => ?_)
    ·rw [if_t hc15] at h
     obtain ⟨r16, hr16, h⟩ := bind_some h
     have hr16c := fun σ => show f57_ci 67 _ σ = _ from f67_call hr16 σ
     have fx := i5 hr16c hg72 hc10 hc12 hc15
     refine rq hU (f57_ci_ok _) rgIF <| blkN <| againN <| ?_
     refine Wk.wpL ?_ (ih x r16 _ h)
     refine Wk.share hU [0] ?_
     simp (decide := true) only [share, fresh1, reduceIte, reduceCtorEq, Nat.reduceAdd, bxm]
     exact Wk.weak hU [] _ (by decide) .nil wvI
    ·rw [if_f hc15] at h
     refine Wp.seq <| ?_
     obtain ⟨r17, hr17, h⟩ := bind_some h
     have hr17c := fun σ => show f57_ci 68 _ σ = _ from f68_call hr17 σ
     have fx := i5 hr17c hg72 hc10 hc12 hc15
     refine rq hU (f57_ci_ok _) rgIF <| thenN <| ?_
     refine Wp.cond hU (t := decide (r17 ≥ 0)) rfl (fun hc18 => ?_) (fun hc18 => ?_)
     ·rw [if_t hc18] at h
      obtain ⟨r19, hr19, h⟩ := bind_some h
      have hr19c := fun σ => show f57_ci 69 _ σ = _ from f69_call hr19 σ
      have fx := i6 hr19c hg72 hc10 hc12 hc15 hc18
      refine rq hU (f57_ci_ok _) rgIF <| blkN <| againN <| ?_
      refine Wk.wpL ?_ (ih r19 y _ h)
      refine Wk.share hU [0] ?_
      simp (decide := true) only [share, fresh1, reduceIte, reduceCtorEq, Nat.reduceAdd, bxm]
      exact Wk.weak hU [] _ (by decide) .nil wvI
     ·rw [if_f hc18] at h
      obtain ⟨r20, hr20, h⟩ := bind_some h
      have hr20c := fun σ => show f57_ci 69 _ σ = _ from f69_call hr20 σ
      have fx := i6 hr20c hg72 hc10 hc12 hc15 hc18
      refine rq hU (f57_ci_ok _) rgIF <| blkN <| againN <| ?_
      refine Wk.wpL ?_ (ih x r20 _ h)
      refine Wk.share hU [0] ?_
      simp (decide := true) only [share, fresh1, reduceIte, reduceCtorEq, Nat.reduceAdd, bxm]
      exact Wk.weak hU [] _ (by decide) .nil wvI
  ·rw [if_f hc10] at h
   refine Wp.exit <| thenE <| againE <| ?_
   obtain rfl := sj h
   refine ⟨rfl, ?_⟩
   exact Wk.weak hU [] _ (by decide) .nil wvI
 ·rw [if_f hg72] at h
  have fx := hg72
  refine rq hU (f57_ci_ok _) rgIF <| thenN <| ?_
  refine Wp.cond hU (t := false) rfl (fun hc => by cases hc) (fun _ => ?_)
  refine Wp.exit <| thenE <| againE <| ?_
  obtain rfl := sj h
  refine ⟨rfl, ?_⟩
  exact Wk.weak hU [] _ (by decide) .nil wvI
theorem f57_ok (a : List Int) (b : List Int) (r : List Int) (h : f57 a b = some r) : PureOK E 57 [.sl (List.map (cInt .u32) a), .sl (List.map (cInt .u32) b)] (.own false 1 (List.map (cInt .u32) r)) := by
 unfold f57 at h
 refine pof (fn := Try.f57) (nt := 71) Try.func57 rfl rfl rfl rfl (fun _ => rfl) (fun base c00 hU => ?_)
 refine Wk.wp (s2 := ⟨.sl (List.map (cInt .u32) a) :: .sl (List.map (cInt .u32) b) :: jj 69 [], St [], none, 0⟩) ?_ ?_
 ·exact Wk.weak hU [] _ (by decide) .nil wvS
 refine rs hU (f57_ci_ok _) rgI <| Wp.seq <| ?_
 obtain ⟨r1, hr1, h⟩ := bind_some h
 have hr1c := fun σ => show f57_ci 56 _ σ = _ from f56_call hr1 σ
 obtain ⟨r2, hr2, h⟩ := bind_some h
 have hr2c := fun σ => show f57_ci 56 _ σ = _ from f56_call hr2 σ
 have fx := i2 hr1c hr2c
 refine rq hU (f57_ci_ok _) rgIF <| thenN <| Wp.seq <| rs hU (f57_ci_ok _) rgI <| ?_
 refine Wp.cond hU (t := (r1.length : Int) == 0) rfl (fun hc3 => ?_) (fun hc3 => ?_)
 ·rw [if_t hc3] at h
  refine Wp.seq <| ?_
  have fx := hc3
  refine rq hU (f57_ci_ok _) rgIF <| thenN <| Wp.ret <| thenR <| ?_
  obtain rfl := sj h
  refine ⟨.inl rfl, ?_⟩
  refine Rt.of <| ?_
  have fx := i2 f57_res f57_rt
  exact rtI
 ·rw [if_f hc3] at h
  refine Wp.skip <| thenN <| Wp.seq <| Wp.seq <| ?_
  have fx := hc3
  refine rq hU (f57_ci_ok _) rgIF <| thenN <| ?_
  refine Wp.cond hU (t := (r2.length : Int) == 0) rfl (fun hc4 => ?_) (fun hc4 => ?_)
  ·rw [if_t hc4] at h
   refine Wp.seq <| ?_
   have fx := i2 hc3 hc4
   refine rq hU (f57_ci_ok _) rgIF <| thenN <| Wp.ret <| thenR <| ?_
   obtain rfl := sj h
   refine ⟨.inl rfl, ?_⟩
   refine Rt.of <| ?_
   have fx := i2 f57_res f57_rt
   exact rtI
  ·rw [if_f hc4] at h
   refine Wp.skip <| thenN <| Wp.seq <| ?_
   have fx := i2 hc3 hc4
   refine rq hU (f57_ci_ok _) rgIF <| thenN <| Wp.seq <| Wp.block <| ?_
   obtain ⟨o5, ho5, h⟩ := bind_some h
   refine Wp.loop <| ?_
   refine Tw.mono (Wk.wpL (s2 := ⟨jj 5 (.sl (List.map (cInt .u32) r1) :: .sl (List.map (cInt .u32) r2) :: .v (.int .i64 0) :: jj 63 []), St [], none, 0⟩) ?_ (f57_l0_ok r1 r2 hU 0 o5 ho5)) (fun ex s1 hp => ?_)
   ·refine Wk.share hU [0, 1] ?_
    simp (decide := true) only [share, fresh1, reduceIte, reduceCtorEq, Nat.reduceAdd, bxm]
    exact Wk.weak hU [] _ (by decide) .nil wvI
   ·obtain ⟨rfl, hp⟩ := hp
    refine blkE <| thenN <| hp.wp <| Wp.seq <| ?_
    obtain ⟨r7, hr7, h⟩ := bind_some h
    have hr7c := fun σ => show f57_ci 67 _ σ = _ from f67_call hr7 σ
    obtain ⟨r8, hr8, h⟩ := bind_some h
    have hr8c := fun σ => show f57_ci 67 _ σ = _ from f67_call hr8 σ
    have fx := i4 hr7c hr8c hc3 hc4
    refine rq hU (f57_ci_ok _) rgIF <| thenN <| Wp.seq <| Wp.block <| ?_
    obtain ⟨o9, ho9, h⟩ := bind_some h
    refine Wp.loop <| ?_
    refine Tw.mono (Wk.wpL (s2 := ⟨jj 5 (.sl (List.map (cInt .u32) r7) :: .sl (List.map (cInt .u32) r8) :: .v (.int .i64 o5) :: jj 63 []), St [], none, 0⟩) ?_ (f57_l1_ok o5 hU r7 r8 o9 ho9)) (fun ex s1 hp => ?_)
    ·refine Wk.share hU [0, 1] ?_
     simp (decide := true) only [share, fresh1, reduceIte, reduceCtorEq, Nat.reduceAdd, bxm]
     exact Wk.weak hU [] _ (by decide) .nil wvI
    ·obtain ⟨rfl, hp⟩ := hp
     refine blkE <| thenN <| hp.wp <| Wp.seq <| ?_
     obtain ⟨r10, hr10, h⟩ := bind_some h
     have hr10c := fun σ => show f57_ci 59 _ σ = _ from f59_call hr10 σ
     obtain ⟨r11, hr11, h⟩ := bind_some h
     have hr11c := fun σ => show f57_ci 70 _ σ = _ from f70_call hr11 σ
     have fx := i4 hr10c hr11c hc3 hc4
     refine rq hU (f57_ci_ok _) rgIF <| thenN <| Wp.ret <| ?_
     obtain rfl := sj h
     refine ⟨.inl rfl, ?_⟩
     refine Rt.of <| ?_
     have fx := i2 f57_res f57_rt
     exact rtI
noncomputable def f57_tbl : CI := tbl 57 (fun p : (List Int) × (List Int) => [.sl (List.map (cInt .u32) p.1), .sl (List.map (cInt .u32) p.2)]) (fun p => (f57 p.1 p.2).map fun r => .own false 1 (List.map (cInt .u32) r))
theorem f57_tbl_ok {base : Nat} : CIOK E base f57_tbl := tbl_okM fun p q h => f57_ok p.1 p.2 q h
theorem f57_call {a : List Int} {b : List Int} {r : List Int} (h : f57 a b = some r) (σ : Store) : f57_tbl 57 [.sl (List.map (cInt .u32) a), .sl (List.map (cInt .u32) b)] σ = some (.own false 1 (List.map (cInt .u32) r), σ, none) :=
 tbl_eq (x := (a, b)) (fun x y e => by
  obtain ⟨x0, x1⟩ := x; obtain ⟨y0, y1⟩ := y
  have e0 := av_sl inj_int (List.cons.inj e).1
  have e1 := av_sl inj_int (List.cons.inj (List.cons.inj e).2).1
  subst e0 e1; rfl) (by simp [h]) σ
def f71_l0 (n : Int) (x : Int) : Option (Int) :=
 if (decide (x > 0)) = true then
  (f71_l0  (IntKind.i64.wrap (n + 1)) (quoI .u32 x 2))
 else
  some n
 partial_fixpoint
/-- sibyl/sibylref01.Bits -/
def f71 (a : List Int) : Option (Int) :=
 f56 a >>= fun r1 =>
 if ((r1.length : Int) == 0) = true then
  (some 0)
 else
  some (IntKind.i64.wrap (32 * (IntKind.i64.wrap ((r1.length : Int) - 1)))) >>= fun x3 =>
  rd r1 (IntKind.i64.wrap ((r1.length : Int) - 1)) >>= fun e4 =>
  f71_l0 x3 e4 >>= fun o5 =>
  some o5
noncomputable def f71_ci : CI := (CI.or 56 f56_tbl (fun _ _ _ => none))
theorem f71_ci_ok (base : Nat) : CIOK E base f71_ci := (or_ok f56_tbl_ok no_ok)
theorem f71_res : Try.f71.results = #[.tmp 2] := rfl
theorem f71_rt : Try.f71.resultTypes = #[3] := rfl
theorem f71_l0_ok {base : Nat} {c00 : Ctx}  (hU : Under E base c00 nilStore) : ∀ (n : Int) (x : Int) (o5 : Int), f71_l0  n x = some o5 →
  WpL E base c00 nilStore (lb Try.f71 0) ⟨jj 4 (.v (.int .i64 n) :: .v (.int .u32 x) :: jj 22 []), St [], none, 0⟩ (fun ex s1 => ex = .exit 0 ∧ Wk base c00 nilStore s1 ⟨jj 4 (.v (.int .i64 o5) :: jj 23 []), St [], none, 0⟩) := by
 refine f71_l0.partial_correctness  (fun n x o5 => WpL E base c00 nilStore (lb Try.f71 0) ⟨jj 4 (.v (.int .i64 n) :: .v (.int .u32 x) :: jj 22 []), St [], none, 0⟩ (fun ex s1 => ex = .exit 0 ∧ Wk base c00 nilStore s1 ⟨jj 4 (.v (.int .i64 o5) :: jj 23 []), St [], none, 0⟩)) ?_
 intro lp__ ih n x o5 h
 refine WpL.stepE (lbI Try.f71.eq_1) ?_
 refine Wp.seq <| rs hU (f71_ci_ok _) rgI <| ?_
 refine Wp.cond hU (t := decide (x > 0)) rfl (fun hc6 => ?_) (fun hc6 => ?_)
 ·rw [if_t hc6] at h
  refine Wp.skip <| thenN <| Wp.seq <| Wp.block <| ?_
  have fx := hc6
  refine rq hU (f71_ci_ok _) rgIF <| blkN <| thenN <| rq hU (f71_ci_ok _) rgIF <| againN <| ?_
  refine Wk.wpL ?_ (ih (IntKind.i64.wrap (n + 1)) (quoI .u32 x 2) _ h)
  exact Wk.weak hU [] _ (by decide) .nil wvI
 ·rw [if_f hc6] at h
  refine Wp.exit <| thenE <| againE <| ?_
  obtain rfl := sj h
  refine ⟨rfl, ?_⟩
  exact Wk.weak hU [] _ (by decide) .nil wvI
theorem f71_ok (a : List Int) (r : Int) (h : f71 a = some r) : PureOK E 71 [.sl (List.map (cInt .u32) a)] (.v (.int .i64 r)) := by
 unfold f71 at h
 refine pof (fn := Try.f71) (nt := 28) Try.func71 rfl rfl rfl rfl (fun _ => rfl) (fun base c00 hU => ?_)
 refine Wk.wp (s2 := ⟨.sl (List.map (cInt .u32) a) :: jj 27 [], St [], none, 0⟩) ?_ ?_
 ·exact Wk.weak hU [] _ (by decide) .nil wvS
 refine rs hU (f71_ci_ok _) rgI <| Wp.seq <| ?_
 obtain ⟨r1, hr1, h⟩ := bind_some h
 have hr1c := fun σ => show f71_ci 56 _ σ = _ from f56_call hr1 σ
 have fx := hr1c
 refine rq hU (f71_ci_ok _) rgIF <| thenN <| Wp.seq <| rs hU (f71_ci_ok _) rgI <| ?_
 refine Wp.cond hU (t := (r1.length : Int) == 0) rfl (fun hc2 => ?_) (fun hc2 => ?_)
 ·rw [if_t hc2] at h
  refine Wp.seq <| ?_
  have fx := hc2
  refine rq hU (f71_ci_ok _) rgIF <| thenN <| Wp.ret <| thenR <| ?_
  obtain rfl := sj h
  refine ⟨.inl rfl, ?_⟩
  refine Rt.of <| ?_
  have fx := i2 f71_res f71_rt
  exact rtI
 ·rw [if_f hc2] at h
  refine Wp.skip <| thenN <| Wp.seq <| ?_
  obtain ⟨x3, hx3, h⟩ := bind_some h
  replace hx3 := sj hx3
  have fx := i2 hx3 hc2
  refine rq hU (f71_ci_ok _) rgIF <| thenN <| Wp.seq <| Wp.seq <| ?_
  obtain ⟨e4, he4, h⟩ := bind_some h
  obtain ⟨he4a, he4b, he4c⟩ := rd_some he4
  have fx := i4 he4a he4b he4c hc2
  refine rq hU (f71_ci_ok _) rgIF <| thenN <| Wp.block <| ?_
  obtain ⟨o5, ho5, h⟩ := bind_some h
  refine Wp.loop <| ?_
  refine Tw.mono (Wk.wpL (s2 := ⟨jj 4 (.v (.int .i64 x3) :: .v (.int .u32 e4) :: jj 22 []), St [], none, 0⟩) ?_ (f71_l0_ok  hU x3 e4 o5 ho5)) (fun ex s1 hp => ?_)
  ·exact Wk.weak hU [] _ (by decide) .nil wvI
  ·obtain ⟨rfl, hp⟩ := hp
   refine blkE <| thenN <| hp.wp <| Wp.seq <| ?_
   have fx := hc2
   refine rq hU (f71_ci_ok _) rgIF <| thenN <| Wp.ret <| ?_
   obtain rfl := sj h
   refine ⟨.inl rfl, ?_⟩
   refine Rt.of <| ?_
   have fx := i2 f71_res f71_rt
   exact rtI
noncomputable def f71_tbl : CI := tbl 71 (fun p : (List Int) => [.sl (List.map (cInt .u32) p)]) (fun p => (f71 p).map fun r => .v (.int .i64 r))
theorem f71_tbl_ok {base : Nat} : CIOK E base f71_tbl := tbl_okM fun p q h => f71_ok p q h
theorem f71_call {a : List Int} {r : Int} (h : f71 a = some r) (σ : Store) : f71_tbl 71 [.sl (List.map (cInt .u32) a)] σ = some (.v (.int .i64 r), σ, none) :=
 tbl_eq (x := (a)) (fun x y e => by
  exact av_sl inj_int (List.cons.inj e).1) (by simp [h]) σ
def f58_l0 (a : List Int) (b : List Int) (q : List Int) (r_ : List Int) (i : Int) : Option ((List Int) × (List Int)) :=
 if (decide (i ≥ 0)) = true then
  ((f70 r_ 1 >>= fun r6 =>
  f66 a i >>= fun r7 =>
  if r7 = true then
   (f59 r6 [1] >>= fun r9 =>
   f68 r9 b >>= fun r10 =>
   if (decide (r10 ≥ 0)) = true then
    (f69 r9 b >>= fun r12 =>
    rd q (quoI .i64 i 32) >>= fun e13 =>
    nn (IntKind.u64.wrap (i.tmod 32)) >>= fun u14 =>
    some (setL q (quoI .i64 i 32) (IntKind.u32.wrap (e13 + (shlI .u32 1 (IntKind.u64.wrap (i.tmod 32))))), r12))
   else
    some (q, r9))
  else
   f68 r6 b >>= fun r15 =>
   if (decide (r15 ≥ 0)) = true then
    (f69 r6 b >>= fun r17 =>
    rd q (quoI .i64 i 32) >>= fun e18 =>
    nn (IntKind.u64.wrap (i.tmod 32)) >>= fun u19 =>
    some (setL q (quoI .i64 i 32) (IntKind.u32.wrap (e18 + (shlI .u32 1 (IntKind.u64.wrap (i.tmod 32))))), r17))
   else
    some (q, r6) : Option ((List Int) × (List Int))) >>= fun o5 =>
  f58_l0 a b o5.1 o5.2 (IntKind.i64.wrap (i - 1)))
 else
  some (q, r_)
 partial_fixpoint
/-- sibyl/sibylref01.Divide -/
def f58 (a : List Int) (b : List Int) : Option ((List Int) × (List Int)) :=
 f71 a >>= fun r1 =>
 mk 4 (IntKind.i64.wrap ((quoI .i64 r1 32) + 1)) 0 >>= fun m2 =>
 f58_l0 a b m2 [] (IntKind.i64.wrap (r1 - 1)) >>= fun o3 =>
 f56 o3.1 >>= fun r20 =>
 some (r20, o3.2)
noncomputable def f58_ci : CI := (CI.or 71 f71_tbl (CI.or 70 f70_tbl (CI.or 66 f66_tbl (CI.or 59 f59_tbl (CI.or 68 f68_tbl (CI.or 69 f69_tbl (CI.or 56 f56_tbl (fun _ _ _ => none))))))))
theorem f58_ci_ok (base : Nat) : CIOK E base f58_ci := (or_ok f71_tbl_ok (or_ok f70_tbl_ok (or_ok f66_tbl_ok (or_ok f59_tbl_ok (or_ok f68_tbl_ok (or_ok f69_tbl_ok (or_ok f56_tbl_ok no_ok)))))))
theorem f58_res : Try.f58.results = #[.tmp 4, .tmp 5] := rfl
theorem f58_rt : Try.f58.resultTypes = #[36, 36] := rfl
theorem f58_l0_ok {base : Nat} {c00 : Ctx} (a : List Int) (b : List Int) (hU : Under E base c00 nilStore) : ∀ (q : List Int) (r_ : List Int) (i : Int) (o3 : (List Int) × (List Int)), f58_l0 a b q r_ i = some o3 →
  WpL E base c00 nilStore (lb Try.f58 0) ⟨.sl (List.map (cInt .u32) a) :: .sl (List.map (cInt .u32) b) :: jj 5 (.row 0 1 0 ((q).length) :: .sl (List.map (cInt .u32) r_) :: .v (.int .i64 i) :: jj 41 []), St [some ⟨1, false, true, List.map (cInt .u32) q⟩], none, 0⟩ (fun ex s1 => ex = .exit 0 ∧ Wk base c00 nilStore s1 ⟨jj 7 (.row 0 1 0 ((o3.1).length) :: .sl (List.map (cInt .u32) o3.2) :: jj 42 []), St [some ⟨1, false, true, List.map (cInt .u32) o3.1⟩], none, 0⟩) := by
 refine f58_l0.partial_correctness a b _ ?_
 intro lp__ ih q r_ i o3 h
 refine WpL.stepE (lbI Try.f58.eq_1) ?_
 refine Wp.seq <| rs hU (f58_ci_ok _) rgI <| ?_
 refine Wp.cond hU (t := decide (i ≥ 0)) rfl (fun hc4 => ?_) (fun hc4 => ?_)
 ·rw [if_t hc4] at h
  refine Wp.skip <| thenN <| ?_
  obtain ⟨o5, ho5, h⟩ := bind_some h
  refine Wp.seq1 (JP := (fun ex s1 => ex = .nrm ∧ Wk base c00 nilStore s1 ⟨.sl (List.map (cInt .u32) a) :: .sl (List.map (cInt .u32) b) :: jj 5 (.row 0 1 0 ((o5.1).length) :: .sl (List.map (cInt .u32) o5.2) :: .v (.int .i64 i) :: jj 41 []), St [some ⟨1, false, true, List.map (cInt .u32) o5.1⟩], none, 0⟩)) ?_ (fun ex s1 hp => ?_)
  ·replace h := ho5
   refine Wp.block <| Wp.seq <| ?_
   obtain ⟨r6, hr6, h⟩ := bind_some h
   have hr6c := fun σ => show f58_ci 70 _ σ = _ from f70_call hr6 σ
   have fx := i2 hr6c hc4
   refine rq hU (f58_ci_ok _) rgIF <| thenN <| Wp.seq <| Wp.seq <| ?_
   obtain ⟨r7, hr7, h⟩ := bind_some h
   have hr7c := fun σ => show f58_ci 66 _ σ = _ from f66_call hr7 σ
   have fx := i2 hr7c hc4
   refine rq hU (f58_ci_ok _) rgIF <| thenN <| ?_
   refine Wp.cond hU (t := r7) rfl (fun hc8 => ?_) (fun hc8 => ?_)
   ·rw [if_t hc8] at h
    obtain ⟨r9, hr9, h⟩ := bind_some h
    have hr9c := fun σ => show f58_ci 59 _ σ = _ from f59_call hr9 σ
    try simp only [List.map_cons, List.map_nil, cInt_eq, cBool_eq, cStr_eq, cSl_eq, tys] at hr9c
    have fx := i3 hr9c hc4 hc8
    refine rq hU (f58_ci_ok _) rgIF <| thenN <| Wp.seq <| ?_
    obtain ⟨r10, hr10, h⟩ := bind_some h
    have hr10c := fun σ => show f58_ci 68 _ σ = _ from f68_call hr10 σ
    have fx := i3 hr10c hc4 hc8
    refine rq hU (f58_ci_ok _) rgIF <| thenN <| ?_
    refine Wp.cond hU (t := decide (r10 ≥ 0)) rfl (fun hc11 => ?_) (fun hc11 => ?_)
    ·rw [if_t hc11] at h
     refine Wp.seq <| ?_
     obtain ⟨r12, hr12, h⟩ := bind_some h
     have hr12c := fun σ => show f58_ci 69 _ σ = _ from f69_call hr12 σ
     have fx := i4 hr12c hc4 hc8 hc11
     refine rq hU (f58_ci_ok _) rgIF <| thenN <| ?_
     obtain ⟨e13, he13, h⟩ := bind_some h
     obtain ⟨he13a, he13b, he13c⟩ := rd_some he13
     obtain ⟨u14, hu14, h⟩ := bind_some h
     have hu14a := nn_some hu14
     have fx := i7 he13a he13b he13c hu14a hc4 hc8 hc11
     refine rq hU (f58_ci_ok _) rgIF <| blkN <| ?_
     obtain rfl := sj h
     refine ⟨rfl, ?_⟩
     refine Wk.share hU [4] ?_
     simp (decide := true) only [share, fresh1, reduceIte, reduceCtorEq, Nat.reduceAdd, bxm]
     exact Wk.weak hU [some 0] _ (by decide) wsI wvI
    ·rw [if_f hc11] at h
     refine Wp.skip <| blkN <| ?_
     obtain rfl := sj h
     refine ⟨rfl, ?_⟩
     refine Wk.share hU [3] ?_
     simp (decide := true) only [share, fresh1, reduceIte, reduceCtorEq, Nat.reduceAdd, bxm]
     exact Wk.weak hU [some 0] _ (by decide) wsI wvI
   ·rw [if_f hc8] at h
    refine Wp.skip <| thenN <| Wp.seq <| ?_
    obtain ⟨r15, hr15, h⟩ := bind_some h
    have hr15c := fun σ => show f58_ci 68 _ σ = _ from f68_call hr15 σ
    have fx := i3 hr15c hc4 hc8
    refine rq hU (f58_ci_ok _) rgIF <| thenN <| ?_
    refine Wp.cond hU (t := decide (r15 ≥ 0)) rfl (fun hc16 => ?_) (fun hc16 => ?_)
    ·rw [if_t hc16] at h
     refine Wp.seq <| ?_
     obtain ⟨r17, hr17, h⟩ := bind_some h
     have hr17c := fun σ => show f58_ci 69 _ σ = _ from f69_call hr17 σ
     have fx := i4 hr17c hc4 hc8 hc16
     refine rq hU (f58_ci_ok _) rgIF <| thenN <| ?_
     obtain ⟨e18, he18, h⟩ := bind_some h
     obtain ⟨he18a, he18b, he18c⟩ := rd_some he18
     obtain ⟨u19, hu19, h⟩ := bind_some h
     have hu19a := nn_some hu19
     have fx := i7 he18a he18b he18c hu19a hc4 hc8 hc16
     refine rq hU (f58_ci_ok _) rgIF <| blkN <| ?_
     obtain rfl := sj h
     refine ⟨rfl, ?_⟩
     refine Wk.share hU [2] ?_
     simp (decide := true) only [share, fresh1, reduceIte, reduceCtorEq, Nat.reduceAdd, bxm]
     exact Wk.weak hU [some 0] _ (by decide) wsI wvI
    ·rw [if_f hc16] at h
     refine Wp.skip <| blkN <| ?_
     obtain rfl := sj h
     refine ⟨rfl, ?_⟩
     refine Wk.share hU [1] ?_
     simp (decide := true) only [share, fresh1, reduceIte, reduceCtorEq, Nat.reduceAdd, bxm]
     exact Wk.weak hU [some 0] _ (by decide) wsI wvI
  ·obtain ⟨rfl, hp⟩ := hp
   refine thenN (hp.wp ?_)
   have fx := hc4
   refine rq hU (f58_ci_ok _) rgIF <| againN <| ?_
   refine Wk.wpL ?_ (ih o5.1 o5.2 (IntKind.i64.wrap (i - 1)) _ h)
   exact Wk.weak hU [some 0] _ (by decide) wsI wvI
 ·rw [if_f hc4] at h
  refine Wp.exit <| thenE <| againE <| ?_
  obtain rfl := sj h
  refine ⟨rfl, ?_⟩
  exact Wk.weak hU [some 0] _ (by decide) wsI wvI
theorem f58_ok (a : List Int) (b : List Int) (r : (List Int) × (List Int)) (h : f58 a b = some r) : PureOK E 58 [.sl (List.map (cInt .u32) a), .sl (List.map (cInt .u32) b)] (.tup [.own false 1 (List.map (cInt .u32) r.1), .sl (List.map (cInt .u32) r.2)]) := by
 unfold f58 at h
 refine pof (fn := Try.f58) (nt := 51) Try.func58 rfl rfl rfl rfl (fun _ => rfl) (fun base c00 hU => ?_)
 refine Wk.wp (s2 := ⟨.sl (List.map (cInt .u32) a) :: .sl (List.map (cInt .u32) b) :: jj 49 [], St [], none, 0⟩) ?_ ?_
 ·exact Wk.weak hU [] _ (by decide) .nil wvS
 refine rs hU (f58_ci_ok _) rgI <| Wp.seq <| ?_
 obtain ⟨r1, hr1, h⟩ := bind_some h
 have hr1c := fun σ => show f58_ci 71 _ σ = _ from f71_call hr1 σ
 have fx := hr1c
 refine rq hU (f58_ci_ok _) rgIF <| thenN <| Wp.seq <| ?_
 obtain ⟨m2, hm2, h⟩ := bind_some h
 obtain ⟨hm2a, hm2b, hm2c, hm2d⟩ := mk_some hm2
 have fx := i3 hm2a hm2b hm2c
 refine rq hU (f58_ci_ok _) rgIF <| thenN <| rs hU (f58_ci_ok _) rgI <| Wp.seq <| rs hU (f58_ci_ok _) rgI <| Wp.block <| ?_
 obtain ⟨o3, ho3, h⟩ := bind_some h
 refine Wp.loop <| ?_
 refine Tw.mono (Wk.wpL (s2 := ⟨.sl (List.map (cInt .u32) a) :: .sl (List.map (cInt .u32) b) :: jj 5 (.row 0 1 0 ((m2).length) :: .sl (List.map (cInt .u32) []) :: .v (.int .i64 (IntKind.i64.wrap (r1 - 1))) :: jj 41 []), St [some ⟨1, false, true, List.map (cInt .u32) m2⟩], none, 0⟩) ?_ (f58_l0_ok a b hU m2 [] (IntKind.i64.wrap (r1 - 1)) o3 ho3)) (fun ex s1 hp => ?_)
 ·have fe := hm2d
  have fl := hm2d
  have fv := nofx
  exact Wk.weak hU [some 0] _ (by decide) wsIF wvIF
 ·obtain ⟨rfl, hp⟩ := hp
  refine blkE <| thenN <| hp.wp <| Wp.seq <| ?_
  obtain ⟨r20, hr20, h⟩ := bind_some h
  have hr20c := fun σ => show f58_ci 56 _ σ = _ from f56_call hr20 σ
  have fx := hr20c
  refine rq hU (f58_ci_ok _) rgIF <| thenN <| Wp.ret <| ?_
  obtain rfl := sj h
  refine ⟨.inl rfl, ?_⟩
  refine Rt.of <| ?_
  have fx := i3 f58_res f58_rt hm2d
  exact rtI
noncomputable def f58_tbl : CI := tbl 58 (fun p : (List Int) × (List Int) => [.sl (List.map (cInt .u32) p.1), .sl (List.map (cInt .u32) p.2)]) (fun p => (f58 p.1 p.2).map fun r => .tup [.own false 1 (List.map (cInt .u32) r.1), .sl (List.map (cInt .u32) r.2)])
theorem f58_tbl_ok {base : Nat} : CIOK E base f58_tbl := tbl_okM fun p q h => f58_ok p.1 p.2 q h
theorem f58_call {a : List Int} {b : List Int} {r : (List Int) × (List Int)} (h : f58 a b = some r) (σ : Store) : f58_tbl 58 [.sl (List.map (cInt .u32) a), .sl (List.map (cInt .u32) b)] σ = some (.tup [.own false 1 (List.map (cInt .u32) r.1), .sl (List.map (cInt .u32) r.2)], σ, none) :=
 tbl_eq (x := (a, b)) (fun x y e => by
  obtain ⟨x0, x1⟩ := x; obtain ⟨y0, y1⟩ := y
  have e0 := av_sl inj_int (List.cons.inj e).1
  have e1 := av_sl inj_int (List.cons.inj (List.cons.inj e).2).1
  subst e0 e1; rfl) (by simp [h]) σ
/-- sibyl/sibylref02.Make -/
def f47 (neg : Bool) (num : List Int) (den : List Int) : Option (Ratio × Int) :=
 f56 num >>= fun r1 =>
 f56 den >>= fun r2 =>
 if ((r2.length : Int) == 0) = true then
  (some ((⟨false, [], []⟩ : Ratio), 10))
 else
  if ((r1.length : Int) == 0) = true then
   (some ((⟨false, [], [1]⟩ : Ratio), 0))
  else
   f57 r1 r2 >>= fun r5 =>
   f58 r1 r5 >>= fun r6 =>
   f58 r2 r5 >>= fun r7 =>
   if (decide ((r6.1.length : Int) > 16)) = true then
    (some ((⟨false, [], []⟩ : Ratio), 4))
   else
    if (decide ((r7.1.length : Int) > 16)) = true then
     (some ((⟨false, [], []⟩ : Ratio), 4))
    else
     some ((⟨neg, r6.1, r7.1⟩ : Ratio), 0)
noncomputable def f47_ci : CI := (CI.or 56 f56_tbl (CI.or 57 f57_tbl (CI.or 58 f58_tbl (fun _ _ _ => none))))
theorem f47_ci_ok (base : Nat) : CIOK E base f47_ci := (or_ok f56_tbl_ok (or_ok f57_tbl_ok (or_ok f58_tbl_ok no_ok)))
theorem f47_res : Try.f47.results = #[.cell 6 38, .tmp 7] := rfl
theorem f47_rt : Try.f47.resultTypes = #[38, 3] := rfl
theorem f47_ok (neg : Bool) (num : List Int) (den : List Int) (r : Ratio × Int) (h : f47 neg num den = some r) : PureOK E 47 [.v (.bool neg), .sl (List.map (cInt .u32) num), .sl (List.map (cInt .u32) den)] (.tup [.agg [.v (.bool r.1.Neg), .own false 1 (List.map (cInt .u32) r.1.Num), .own false 1 (List.map (cInt .u32) r.1.Den)], .v (.int .i64 r.2)]) := by
 unfold f47 at h
 refine pof (fn := Try.f47) (nt := 52) Try.func47 rfl rfl rfl rfl (fun _ => rfl) (fun base c00 hU => ?_)
 refine Wk.wp (s2 := ⟨.v (.bool neg) :: .sl (List.map (cInt .u32) num) :: .sl (List.map (cInt .u32) den) :: jj 49 [], St [], none, 0⟩) ?_ ?_
 ·exact Wk.weak hU [] _ (by decide) .nil wvS
 refine rs hU (f47_ci_ok _) rgI <| Wp.seq <| ?_
 obtain ⟨r1, hr1, h⟩ := bind_some h
 have hr1c := fun σ => show f47_ci 56 _ σ = _ from f56_call hr1 σ
 obtain ⟨r2, hr2, h⟩ := bind_some h
 have hr2c := fun σ => show f47_ci 56 _ σ = _ from f56_call hr2 σ
 have fx := i2 hr1c hr2c
 refine rq hU (f47_ci_ok _) rgIF <| thenN <| Wp.seq <| rs hU (f47_ci_ok _) rgI <| ?_
 refine Wp.cond hU (t := (r2.length : Int) == 0) rfl (fun hc3 => ?_) (fun hc3 => ?_)
 ·rw [if_t hc3] at h
  refine Wp.seq <| ?_
  have fx := hc3
  refine rq hU (f47_ci_ok _) rgIF <| thenN <| Wp.ret <| thenR <| ?_
  obtain rfl := sj h
  refine ⟨.inl rfl, ?_⟩
  refine Rt.of <| ?_
  have fx := i2 f47_res f47_rt
  exact rtI
 ·rw [if_f hc3] at h
  refine Wp.skip <| thenN <| Wp.seq <| Wp.seq <| ?_
  have fx := hc3
  refine rq hU (f47_ci_ok _) rgIF <| thenN <| ?_
  refine Wp.cond hU (t := (r1.length : Int) == 0) rfl (fun hc4 => ?_) (fun hc4 => ?_)
  ·rw [if_t hc4] at h
   refine Wp.seq <| ?_
   have fx := i2 hc3 hc4
   refine rq hU (f47_ci_ok _) rgIF <| thenN <| Wp.ret <| thenR <| ?_
   obtain rfl := sj h
   refine ⟨.inl rfl, ?_⟩
   refine Rt.of <| ?_
   have fx := i2 f47_res f47_rt
   exact rtI
  ·rw [if_f hc4] at h
   refine Wp.skip <| thenN <| Wp.seq <| ?_
   obtain ⟨r5, hr5, h⟩ := bind_some h
   have hr5c := fun σ => show f47_ci 57 _ σ = _ from f57_call hr5 σ
   have fx := i3 hr5c hc3 hc4
   refine rq hU (f47_ci_ok _) rgIF <| thenN <| Wp.seq <| ?_
   obtain ⟨r6, hr6, h⟩ := bind_some h
   have hr6c := fun σ => show f47_ci 58 _ σ = _ from f58_call hr6 σ
   have fx := i3 hr6c hc3 hc4
   refine rq hU (f47_ci_ok _) rgIF <| thenN <| Wp.seq <| ?_
   obtain ⟨r7, hr7, h⟩ := bind_some h
   have hr7c := fun σ => show f47_ci 58 _ σ = _ from f58_call hr7 σ
   have fx := i3 hr7c hc3 hc4
   refine rq hU (f47_ci_ok _) rgIF <| thenN <| Wp.seq <| Wp.seq <| ?_
   rcases Bool.eq_false_or_eq_true (decide ((r6.1.length : Int) > 16)) with hg8 | hg8
   ·rw [if_t hg8] at h
    have fx := i3 hc3 hc4 hg8
    refine rq hU (f47_ci_ok _) rgIF <| thenN <| ?_
    refine Wp.cond hU (t := true) rfl (fun _ => ?_) (fun hc => by cases hc)
    refine rs hU (f47_ci_ok _) rgIF <| Wp.ret <| thenR <| ?_
    obtain rfl := sj h
    refine ⟨.inl rfl, ?_⟩
    refine Rt.of <| ?_
    have fx := i2 f47_res f47_rt
    exact rtI
   ·rw [if_f hg8] at h
    have fx := i3 hc3 hc4 hg8
    refine rq hU (f47_ci_ok _) rgIF <| thenN <| ?_
    refine Wp.cond hU (t := decide ((r7.1.length : Int) > 16)) rfl (fun hc8 => ?_) (fun hc8 => ?_)
    ·rw [if_t hc8] at h
     refine Wp.seq <| ?_
     have fx := i4 hc3 hc4 hg8 hc8
     refine rq hU (f47_ci_ok _) rgIF <| thenN <| Wp.ret <| thenR <| ?_
     obtain rfl := sj h
     refine ⟨.inl rfl, ?_⟩
     refine Rt.of <| ?_
     have fx := i2 f47_res f47_rt
     exact rtI
    ·rw [if_f hc8] at h
     refine Wp.skip <| thenN <| Wp.seq <| ?_
     have fx := i4 hc3 hc4 hg8 hc8
     refine rq hU (f47_ci_ok _) rgIF <| thenN <| Wp.ret <| ?_
     obtain rfl := sj h
     refine ⟨.inl rfl, ?_⟩
     refine Rt.of <| ?_
     have fx := i2 f47_res f47_rt
     exact rtI
noncomputable def f47_tbl : CI := tbl 47 (fun p : Bool × (List Int) × (List Int) => [.v (.bool p.1), .sl (List.map (cInt .u32) p.2.1), .sl (List.map (cInt .u32) p.2.2)]) (fun p => (f47 p.1 p.2.1 p.2.2).map fun r => .tup [.agg [.v (.bool r.1.Neg), .own false 1 (List.map (cInt .u32) r.1.Num), .own false 1 (List.map (cInt .u32) r.1.Den)], .v (.int .i64 r.2)])
theorem f47_tbl_ok {base : Nat} : CIOK E base f47_tbl := tbl_okM fun p q h => f47_ok p.1 p.2.1 p.2.2 q h
theorem f47_call {neg : Bool} {num : List Int} {den : List Int} {r : Ratio × Int} (h : f47 neg num den = some r) (σ : Store) : f47_tbl 47 [.v (.bool neg), .sl (List.map (cInt .u32) num), .sl (List.map (cInt .u32) den)] σ = some (.tup [.agg [.v (.bool r.1.Neg), .own false 1 (List.map (cInt .u32) r.1.Num), .own false 1 (List.map (cInt .u32) r.1.Den)], .v (.int .i64 r.2)], σ, none) :=
 tbl_eq (x := (neg, num, den)) (fun x y e => by
  obtain ⟨x0, x1, x2⟩ := x; obtain ⟨y0, y1, y2⟩ := y
  have e0 := av_bool (List.cons.inj e).1
  have e1 := av_sl inj_int (List.cons.inj (List.cons.inj e).2).1
  have e2 := av_sl inj_int (List.cons.inj (List.cons.inj (List.cons.inj e).2).2).1
  subst e0 e1 e2; rfl) (by simp [h]) σ
/-- sibyl/sibylref02.Read -/
def f35 (s : Str) : Option (Ratio × Int) :=
 if (decide ((s.length : Int) > 4096)) = true then
  (some ((⟨false, [], []⟩ : Ratio), 3))
 else
  f34 s >>= fun r2 =>
  if (!r2.2.2.2) = true then
   (some ((⟨false, [], []⟩ : Ratio), 21))
  else
   f48 r2.2.1 >>= fun r4 =>
   f48 r2.2.2.1 >>= fun r5 =>
   f47 r2.1 r4 r5 >>= fun r6 =>
   some ((⟨r6.1.Neg, r6.1.Num, r6.1.Den⟩ : Ratio), r6.2)
noncomputable def f35_ci : CI := (CI.or 34 f34_tbl (CI.or 48 f48_tbl (CI.or 47 f47_tbl (fun _ _ _ => none))))
theorem f35_ci_ok (base : Nat) : CIOK E base f35_ci := (or_ok f34_tbl_ok (or_ok f48_tbl_ok (or_ok f47_tbl_ok no_ok)))
theorem f35_res : Try.f35.results = #[.cell 2 38, .tmp 3] := rfl
theorem f35_rt : Try.f35.resultTypes = #[38, 3] := rfl
theorem f35_ok (s : Str) (r : Ratio × Int) (h : f35 s = some r) : PureOK E 35 [.v (.string (mkS s))] (.tup [.agg [.v (.bool r.1.Neg), .own false 1 (List.map (cInt .u32) r.1.Num), .own false 1 (List.map (cInt .u32) r.1.Den)], .v (.int .i64 r.2)]) := by
 unfold f35 at h
 refine pof (fn := Try.f35) (nt := 30) Try.func35 rfl rfl rfl rfl (fun _ => rfl) (fun base c00 hU => ?_)
 refine Wk.wp (s2 := ⟨.v (.string (mkS s)) :: jj 29 [], St [], none, 0⟩) ?_ ?_
 ·exact Wk.weak hU [] _ (by decide) .nil wvS
 refine rs hU (f35_ci_ok _) rgI <| Wp.seq <| rs hU (f35_ci_ok _) rgI <| ?_
 refine Wp.cond hU (t := decide ((s.length : Int) > 4096)) rfl (fun hc1 => ?_) (fun hc1 => ?_)
 ·rw [if_t hc1] at h
  refine Wp.seq <| ?_
  have fx := hc1
  refine rq hU (f35_ci_ok _) rgIF <| thenN <| Wp.ret <| thenR <| ?_
  obtain rfl := sj h
  refine ⟨.inl rfl, ?_⟩
  refine Rt.of <| ?_
  have fx := i2 f35_res f35_rt
  exact rtI
 ·rw [if_f hc1] at h
  refine Wp.skip <| thenN <| Wp.seq <| ?_
  obtain ⟨r2, hr2, h⟩ := bind_some h
  have hr2c := fun σ => show f35_ci 34 _ σ = _ from f34_call hr2 σ
  have fx := i2 hr2c hc1
  refine rq hU (f35_ci_ok _) rgIF <| thenN <| Wp.seq <| Wp.seq <| ?_
  have fx := hc1
  refine rq hU (f35_ci_ok _) rgIF <| thenN <| ?_
  refine Wp.cond hU (t := !r2.2.2.2) rfl (fun hc3 => ?_) (fun hc3 => ?_)
  ·rw [if_t hc3] at h
   refine Wp.seq <| ?_
   have fx := i2 hc1 hc3
   refine rq hU (f35_ci_ok _) rgIF <| thenN <| Wp.ret <| thenR <| ?_
   obtain rfl := sj h
   refine ⟨.inl rfl, ?_⟩
   refine Rt.of <| ?_
   have fx := i2 f35_res f35_rt
   exact rtI
  ·rw [if_f hc3] at h
   refine Wp.skip <| thenN <| Wp.seq <| ?_
   obtain ⟨r4, hr4, h⟩ := bind_some h
   have hr4c := fun σ => show f35_ci 48 _ σ = _ from f48_call hr4 σ
   obtain ⟨r5, hr5, h⟩ := bind_some h
   have hr5c := fun σ => show f35_ci 48 _ σ = _ from f48_call hr5 σ
   obtain ⟨r6, hr6, h⟩ := bind_some h
   have hr6c := fun σ => show f35_ci 47 _ σ = _ from f47_call hr6 σ
   have fx := i5 hr4c hr5c hr6c hc1 hc3
   refine rq hU (f35_ci_ok _) rgIF <| thenN <| Wp.ret <| ?_
   obtain rfl := sj h
   refine ⟨.inl rfl, ?_⟩
   refine Rt.of <| ?_
   have fx := i2 f35_res f35_rt
   exact rtI
noncomputable def f35_tbl : CI := tbl 35 (fun p : Str => [.v (.string (mkS p))]) (fun p => (f35 p).map fun r => .tup [.agg [.v (.bool r.1.Neg), .own false 1 (List.map (cInt .u32) r.1.Num), .own false 1 (List.map (cInt .u32) r.1.Den)], .v (.int .i64 r.2)])
theorem f35_tbl_ok {base : Nat} : CIOK E base f35_tbl := tbl_okM fun p q h => f35_ok p q h
theorem f35_call {s : Str} {r : Ratio × Int} (h : f35 s = some r) (σ : Store) : f35_tbl 35 [.v (.string (mkS s))] σ = some (.tup [.agg [.v (.bool r.1.Neg), .own false 1 (List.map (cInt .u32) r.1.Num), .own false 1 (List.map (cInt .u32) r.1.Den)], .v (.int .i64 r.2)], σ, none) :=
 tbl_eq (x := (s)) (fun x y e => by
  exact av_str (List.cons.inj e).1) (by simp [h]) σ
/-- sibyl/sibylref04.first -/
def f38 (c : Int) : Option (Bool) :=
 (if (decide (c ≥ 97)) = true then
  (if (decide (c ≤ 122)) = true then
   (some true)
  else
   if (decide (c ≥ 65)) = true then
    (if (decide (c ≤ 90)) = true then
     (some true)
    else
     f21 c [33, 36, 37, 38, 42, 47, 58, 60, 61, 62, 63, 94, 95, 126] >>= fun r2 =>
     some r2)
   else
    f21 c [33, 36, 37, 38, 42, 47, 58, 60, 61, 62, 63, 94, 95, 126] >>= fun r2 =>
    some r2)
 else
  if (decide (c ≥ 65)) = true then
   (if (decide (c ≤ 90)) = true then
    (some true)
   else
    f21 c [33, 36, 37, 38, 42, 47, 58, 60, 61, 62, 63, 94, 95, 126] >>= fun r2 =>
    some r2)
  else
   f21 c [33, 36, 37, 38, 42, 47, 58, 60, 61, 62, 63, 94, 95, 126] >>= fun r2 =>
   some r2 : Option (Bool)) >>= fun o1 =>
 some o1
noncomputable def f38_ci : CI := (CI.or 21 f21_tbl (fun _ _ _ => none))
theorem f38_ci_ok (base : Nat) : CIOK E base f38_ci := (or_ok f21_tbl_ok no_ok)
theorem f38_res : Try.f38.results = #[.tmp 2] := rfl
theorem f38_rt : Try.f38.resultTypes = #[4] := rfl
theorem f38_ok (c : Int) (r : Bool) (h : f38 c = some r) : PureOK E 38 [.v (.int .u8 c)] (.v (.bool r)) := by
 unfold f38 at h
 refine pof (fn := Try.f38) (nt := 21) Try.func38 rfl rfl rfl rfl (fun _ => rfl) (fun base c00 hU => ?_)
 refine Wk.wp (s2 := ⟨.v (.int .u8 c) :: jj 20 [], St [], none, 0⟩) ?_ ?_
 ·exact Wk.weak hU [] _ (by decide) .nil wvS
 refine rs hU (f38_ci_ok _) rgI <| ?_
 obtain ⟨o1, ho1, h⟩ := bind_some h
 refine Wp.seq1 (JP := (fun ex s1 => ex = .nrm ∧ Wk base c00 nilStore s1 ⟨jj 2 (.v (.bool o1) :: jj 18 []), St [], none, 0⟩)) ?_ (fun ex s1 hp => ?_)
 ·replace h := ho1
  rcases Bool.eq_false_or_eq_true (decide (c ≥ 97)) with hg13 | hg13
  ·rw [if_t hg13] at h
   rcases Bool.eq_false_or_eq_true (decide (c ≤ 122)) with hg14 | hg14
   ·rw [if_t hg14] at h
    have fx := i2 hg13 hg14
    refine rq hU (f38_ci_ok _) rgIF <| ?_
    obtain rfl := sj h
    refine ⟨rfl, ?_⟩
    exact Wk.weak hU [] _ (by decide) .nil wvI
   ·rw [if_f hg14] at h
    rcases Bool.eq_false_or_eq_true (decide (c ≥ 65)) with hg15 | hg15
    ·rw [if_t hg15] at h
     rcases Bool.eq_false_or_eq_true (decide (c ≤ 90)) with hg16 | hg16
     ·rw [if_t hg16] at h
      have fx := i4 hg13 hg14 hg15 hg16
      refine rq hU (f38_ci_ok _) rgIF <| ?_
      obtain rfl := sj h
      refine ⟨rfl, ?_⟩
      exact Wk.weak hU [] _ (by decide) .nil wvI
     ·rw [if_f hg16] at h
      obtain ⟨r2, hr2, h⟩ := bind_some h
      have hr2c := fun σ => show f38_ci 21 _ σ = _ from f21_call hr2 σ
      try simp only [List.map_cons, List.map_nil, cInt_eq, cBool_eq, cStr_eq, cSl_eq, tys] at hr2c
      have fx := i5 hr2c hg13 hg14 hg15 hg16
      refine rq hU (f38_ci_ok _) rgIF <| ?_
      obtain rfl := sj h
      refine ⟨rfl, ?_⟩
      exact Wk.weak hU [] _ (by decide) .nil wvI
    ·rw [if_f hg15] at h
     obtain ⟨r2, hr2, h⟩ := bind_some h
     have hr2c := fun σ => show f38_ci 21 _ σ = _ from f21_call hr2 σ
     try simp only [List.map_cons, List.map_nil, cInt_eq, cBool_eq, cStr_eq, cSl_eq, tys] at hr2c
     have fx := i4 hr2c hg13 hg14 hg15
     refine rq hU (f38_ci_ok _) rgIF <| ?_
     obtain rfl := sj h
     refine ⟨rfl, ?_⟩
     exact Wk.weak hU [] _ (by decide) .nil wvI
  ·rw [if_f hg13] at h
   rcases Bool.eq_false_or_eq_true (decide (c ≥ 65)) with hg17 | hg17
   ·rw [if_t hg17] at h
    rcases Bool.eq_false_or_eq_true (decide (c ≤ 90)) with hg18 | hg18
    ·rw [if_t hg18] at h
     have fx := i3 hg13 hg17 hg18
     refine rq hU (f38_ci_ok _) rgIF <| ?_
     obtain rfl := sj h
     refine ⟨rfl, ?_⟩
     exact Wk.weak hU [] _ (by decide) .nil wvI
    ·rw [if_f hg18] at h
     obtain ⟨r2, hr2, h⟩ := bind_some h
     have hr2c := fun σ => show f38_ci 21 _ σ = _ from f21_call hr2 σ
     try simp only [List.map_cons, List.map_nil, cInt_eq, cBool_eq, cStr_eq, cSl_eq, tys] at hr2c
     have fx := i4 hr2c hg13 hg17 hg18
     refine rq hU (f38_ci_ok _) rgIF <| ?_
     obtain rfl := sj h
     refine ⟨rfl, ?_⟩
     exact Wk.weak hU [] _ (by decide) .nil wvI
   ·rw [if_f hg17] at h
    obtain ⟨r2, hr2, h⟩ := bind_some h
    have hr2c := fun σ => show f38_ci 21 _ σ = _ from f21_call hr2 σ
    try simp only [List.map_cons, List.map_nil, cInt_eq, cBool_eq, cStr_eq, cSl_eq, tys] at hr2c
    have fx := i3 hr2c hg13 hg17
    refine rq hU (f38_ci_ok _) rgIF <| ?_
    obtain rfl := sj h
    refine ⟨rfl, ?_⟩
    exact Wk.weak hU [] _ (by decide) .nil wvI
 ·obtain ⟨rfl, hp⟩ := hp
  refine thenN (hp.wp ?_)
  refine Wp.ret <| ?_
  obtain rfl := sj h
  refine ⟨.inl rfl, ?_⟩
  refine Rt.of <| ?_
  have fx := i2 f38_res f38_rt
  exact rtI
noncomputable def f38_tbl : CI := tbl 38 (fun p : Int => [.v (.int .u8 p)]) (fun p => (f38 p).map fun r => .v (.bool r))
theorem f38_tbl_ok {base : Nat} : CIOK E base f38_tbl := tbl_okM fun p q h => f38_ok p q h
theorem f38_call {c : Int} {r : Bool} (h : f38 c = some r) (σ : Store) : f38_tbl 38 [.v (.int .u8 c)] σ = some (.v (.bool r), σ, none) :=
 tbl_eq (x := (c)) (fun x y e => by
  exact av_int (List.cons.inj e).1) (by simp [h]) σ
def f25_l0 (s : Str) (i : Int) : Option (Ou Bool Unit) :=
 if (decide (i < (s.length : Int))) = true then
  ((bt s i >>= fun b8 =>
  f38 b8 >>= fun r9 =>
  if (!r9) = true then
   (f21 b8 [48, 49, 50, 51, 52, 53, 54, 55, 56, 57, 43, 45, 46, 64] >>= fun r10 =>
   if (!r10) = true then
    (some (.ret false))
   else
    some (.nxt ()))
  else
   some (.nxt ()) : Option (Ou Bool Unit)) >>= fun o7 => match o7 with
  | .ret r0 => some (.ret r0)
  | .nxt wo7 =>
   f25_l0 s (IntKind.i64.wrap (i + 1)))
 else
  some (.nxt ())
 partial_fixpoint
/-- sibyl/sibylref04.shape -/
def f25 (s : Str) : Option (Bool) :=
 if (s == [43]) = true then
  (some true)
 else
  if (s == [45]) = true then
   (some true)
  else
   if ((s.length : Int) == 0) = true then
    (some false)
   else
    bt s 0 >>= fun b2 =>
    f38 b2 >>= fun r3 =>
    if (!r3) = true then
     (some false)
    else
     f25_l0 s 1 >>= fun o5 => match o5 with
     | .ret r0 => some r0
     | .nxt wo5 =>
      some true
noncomputable def f25_ci : CI := (CI.or 38 f38_tbl (CI.or 21 f21_tbl (fun _ _ _ => none)))
theorem f25_ci_ok (base : Nat) : CIOK E base f25_ci := (or_ok f38_tbl_ok (or_ok f21_tbl_ok no_ok))
theorem f25_res : Try.f25.results = #[.tmp 2] := rfl
theorem f25_rt : Try.f25.resultTypes = #[4] := rfl
theorem f25_l0_ok {base : Nat} {c00 : Ctx} (s : Str) (hU : Under E base c00 nilStore) : ∀ (i : Int) (o5 : Ou Bool Unit), f25_l0 s i = some o5 →
  WpL E base c00 nilStore (lb Try.f25 0) ⟨.v (.string (mkS s)) :: jj 2 (.v (.int .i64 i) :: jj 33 []), St [], none, 0⟩ (fun ex s1 => match o5 with | .ret r0 => ex = .ret ∧ Rt E base c00 Try.f25 (.v (.bool r0)) s1 | .nxt wo5 => ex = .exit 0 ∧ Wk base c00 nilStore s1 ⟨jj 37 [], St [], none, 0⟩) := by
 refine f25_l0.partial_correctness s _ ?_
 intro lp__ ih i o5 h
 refine WpL.stepE (lbI Try.f25.eq_1) ?_
 refine Wp.seq <| rs hU (f25_ci_ok _) rgI <| ?_
 refine Wp.cond hU (t := decide (i < (s.length : Int))) rfl (fun hc6 => ?_) (fun hc6 => ?_)
 ·rw [if_t hc6] at h
  refine Wp.skip <| thenN <| ?_
  obtain ⟨o7, ho7, h⟩ := bind_some h
  refine Wp.seq1 (JP := (fun ex s1 => match o7 with | .ret r0 => ex = .ret ∧ Rt E base c00 Try.f25 (.v (.bool r0)) s1 | .nxt wo7 => ex = .nrm ∧ Wk base c00 nilStore s1 ⟨.v (.string (mkS s)) :: jj 2 (.v (.int .i64 i) :: jj 33 []), St [], none, 0⟩)) ?_ (fun ex s1 hp => ?_)
  ·replace h := ho7
   refine Wp.block <| Wp.seq <| ?_
   obtain ⟨b8, hb8, h⟩ := bind_some h
   obtain ⟨r9, hr9, h⟩ := bind_some h
   have hr9c := fun σ => show f25_ci 38 _ σ = _ from f38_call hr9 σ
   rcases Bool.eq_false_or_eq_true (!r9) with hg28 | hg28
   ·rw [if_t hg28] at h
    obtain ⟨r10, hr10, h⟩ := bind_some h
    have hr10c := fun σ => show f25_ci 21 _ σ = _ from f21_call hr10 σ
    try simp only [List.map_cons, List.map_nil, cInt_eq, cBool_eq, cStr_eq, cSl_eq, tys] at hr10c
    have fx := i5 hb8 hr9c hr10c hc6 hg28
    refine rq hU (f25_ci_ok _) rgIF <| thenN <| ?_
    refine Wp.cond hU (t := !r10) rfl (fun hc11 => ?_) (fun hc11 => ?_)
    ·rw [if_t hc11] at h
     refine Wp.seq <| ?_
     have fx := i3 hc6 hg28 hc11
     refine rq hU (f25_ci_ok _) rgIF <| thenN <| Wp.ret <| blkR <| ?_
     obtain rfl := sj h
     refine ⟨rfl, ?_⟩
     refine Rt.of <| ?_
     have fx := i2 f25_res f25_rt
     exact rtI
    ·rw [if_f hc11] at h
     refine Wp.skip <| blkN <| ?_
     obtain rfl := sj h
     refine ⟨rfl, ?_⟩
     exact Wk.weak hU [] _ (by decide) .nil wvI
   ·rw [if_f hg28] at h
    have fx := i4 hb8 hr9c hc6 hg28
    refine rq hU (f25_ci_ok _) rgIF <| thenN <| ?_
    refine Wp.cond hU (t := false) rfl (fun hc => by cases hc) (fun _ => ?_)
    refine Wp.skip <| blkN <| ?_
    obtain rfl := sj h
    refine ⟨rfl, ?_⟩
    exact Wk.weak hU [] _ (by decide) .nil wvI
  ·cases o7 with
   | ret r0 =>
    obtain ⟨rfl, hp⟩ := hp
    obtain rfl := sj h
    refine thenR <| againR <| ?_
    exact ⟨rfl, hp⟩
   | nxt wo7 =>
    obtain ⟨rfl, hp⟩ := hp
    dsimp only at h
    refine thenN (hp.wp ?_)
    have fx := hc6
    refine rq hU (f25_ci_ok _) rgIF <| againN <| ?_
    refine Wk.wpL ?_ (ih (IntKind.i64.wrap (i + 1)) _ h)
    exact Wk.weak hU [] _ (by decide) .nil wvI
 ·rw [if_f hc6] at h
  refine Wp.exit <| thenE <| againE <| ?_
  obtain rfl := sj h
  refine ⟨rfl, ?_⟩
  exact Wk.weak hU [] _ (by decide) .nil wvI
theorem f25_ok (s : Str) (r : Bool) (h : f25 s = some r) : PureOK E 25 [.v (.string (mkS s))] (.v (.bool r)) := by
 unfold f25 at h
 refine pof (fn := Try.f25) (nt := 37) Try.func25 rfl rfl rfl rfl (fun _ => rfl) (fun base c00 hU => ?_)
 refine Wk.wp (s2 := ⟨.v (.string (mkS s)) :: jj 36 [], St [], none, 0⟩) ?_ ?_
 ·exact Wk.weak hU [] _ (by decide) .nil wvS
 refine rs hU (f25_ci_ok _) rgI <| Wp.seq <| Wp.seq <| ?_
 rcases Bool.eq_false_or_eq_true (s == [43]) with hg16 | hg16
 ·rw [if_t hg16] at h
  have fx := hg16
  refine rq hU (f25_ci_ok _) rgIF <| thenN <| ?_
  refine Wp.cond hU (t := true) rfl (fun _ => ?_) (fun hc => by cases hc)
  refine rs hU (f25_ci_ok _) rgIF <| Wp.ret <| thenR <| ?_
  obtain rfl := sj h
  refine ⟨.inl rfl, ?_⟩
  refine Rt.of <| ?_
  have fx := i2 f25_res f25_rt
  exact rtI
 ·rw [if_f hg16] at h
  have fx := hg16
  refine rq hU (f25_ci_ok _) rgIF <| thenN <| ?_
  refine Wp.cond hU (t := s == [45]) rfl (fun hc1 => ?_) (fun hc1 => ?_)
  ·rw [if_t hc1] at h
   refine Wp.seq <| ?_
   have fx := i2 hg16 hc1
   refine rq hU (f25_ci_ok _) rgIF <| thenN <| Wp.ret <| thenR <| ?_
   obtain rfl := sj h
   refine ⟨.inl rfl, ?_⟩
   refine Rt.of <| ?_
   have fx := i2 f25_res f25_rt
   exact rtI
  ·rw [if_f hc1] at h
   refine Wp.skip <| thenN <| Wp.seq <| Wp.seq <| ?_
   rcases Bool.eq_false_or_eq_true ((s.length : Int) == 0) with hg20 | hg20
   ·rw [if_t hg20] at h
    have fx := i3 hg16 hc1 hg20
    refine rq hU (f25_ci_ok _) rgIF <| thenN <| ?_
    refine Wp.cond hU (t := true) rfl (fun _ => ?_) (fun hc => by cases hc)
    refine rs hU (f25_ci_ok _) rgIF <| Wp.ret <| thenR <| ?_
    obtain rfl := sj h
    refine ⟨.inl rfl, ?_⟩
    refine Rt.of <| ?_
    have fx := i2 f25_res f25_rt
    exact rtI
   ·rw [if_f hg20] at h
    obtain ⟨b2, hb2, h⟩ := bind_some h
    obtain ⟨r3, hr3, h⟩ := bind_some h
    have hr3c := fun σ => show f25_ci 38 _ σ = _ from f38_call hr3 σ
    have fx := i5 hb2 hr3c hg16 hc1 hg20
    refine rq hU (f25_ci_ok _) rgIF <| thenN <| ?_
    refine Wp.cond hU (t := !r3) rfl (fun hc4 => ?_) (fun hc4 => ?_)
    ·rw [if_t hc4] at h
     refine Wp.seq <| ?_
     have fx := i4 hg16 hc1 hg20 hc4
     refine rq hU (f25_ci_ok _) rgIF <| thenN <| Wp.ret <| thenR <| ?_
     obtain rfl := sj h
     refine ⟨.inl rfl, ?_⟩
     refine Rt.of <| ?_
     have fx := i2 f25_res f25_rt
     exact rtI
    ·rw [if_f hc4] at h
     refine Wp.skip <| thenN <| Wp.seq <| Wp.seq <| ?_
     have fx := i4 hg16 hc1 hg20 hc4
     refine rq hU (f25_ci_ok _) rgIF <| thenN <| Wp.block <| ?_
     obtain ⟨o5, ho5, h⟩ := bind_some h
     refine Wp.loop <| ?_
     refine Tw.mono (Wk.wpL (s2 := ⟨.v (.string (mkS s)) :: jj 2 (.v (.int .i64 1) :: jj 33 []), St [], none, 0⟩) ?_ (f25_l0_ok s hU 1 o5 ho5)) (fun ex s1 hp => ?_)
     ·exact Wk.weak hU [] _ (by decide) .nil wvI
     ·cases o5 with
      | ret r0 =>
       obtain ⟨rfl, hp⟩ := hp
       obtain rfl := sj h
       refine blkR <| thenR <| ?_
       exact ⟨.inl rfl, hp⟩
      | nxt wo5 =>
       obtain ⟨rfl, hp⟩ := hp
       dsimp only at h
       refine blkE <| thenN <| hp.wp <| rs hU (f25_ci_ok _) rgIF <| Wp.ret <| ?_
       obtain rfl := sj h
       refine ⟨.inl rfl, ?_⟩
       refine Rt.of <| ?_
       have fx := i2 f25_res f25_rt
       exact rtI
noncomputable def f25_tbl : CI := tbl 25 (fun p : Str => [.v (.string (mkS p))]) (fun p => (f25 p).map fun r => .v (.bool r))
theorem f25_tbl_ok {base : Nat} : CIOK E base f25_tbl := tbl_okM fun p q h => f25_ok p q h
theorem f25_call {s : Str} {r : Bool} (h : f25 s = some r) (σ : Store) : f25_tbl 25 [.v (.string (mkS s))] σ = some (.v (.bool r), σ, none) :=
 tbl_eq (x := (s)) (fun x y e => by
  exact av_str (List.cons.inj e).1) (by simp [h]) σ
/-- sibyl/sibylref04.kind -/
def f22 (s : Str) : Option (Int × Ratio × Int) :=
 if (s == [46]) = true then
  (some (4, (⟨false, [], []⟩ : Ratio), 0))
 else
  if (s == [35, 116]) = true then
   (some (6, (⟨false, [], []⟩ : Ratio), 0))
  else
   if (s == [35, 102]) = true then
    (some (6, (⟨false, [], []⟩ : Ratio), 0))
   else
    f34 s >>= fun r3 =>
    if r3.2.2.2 = true then
     (f35 s >>= fun r5 =>
     some (5, (⟨r5.1.Neg, r5.1.Num, r5.1.Den⟩ : Ratio), r5.2))
    else
     f25 s >>= fun r6 =>
     if (!r6) = true then
      (some (0, (⟨false, [], []⟩ : Ratio), 40))
     else
      if (decide ((s.length : Int) > 32)) = true then
       (some (0, (⟨false, [], []⟩ : Ratio), 3))
      else
       some (7, (⟨false, [], []⟩ : Ratio), 0)
noncomputable def f22_ci : CI := (CI.or 34 f34_tbl (CI.or 35 f35_tbl (CI.or 25 f25_tbl (fun _ _ _ => none))))
theorem f22_ci_ok (base : Nat) : CIOK E base f22_ci := (or_ok f34_tbl_ok (or_ok f35_tbl_ok (or_ok f25_tbl_ok no_ok)))
theorem f22_res : Try.f22.results = #[.tmp 2, .cell 3 38, .tmp 4] := rfl
theorem f22_rt : Try.f22.resultTypes = #[3, 38, 3] := rfl
theorem f22_ok (s : Str) (r : Int × Ratio × Int) (h : f22 s = some r) : PureOK E 22 [.v (.string (mkS s))] (.tup [.v (.int .i64 r.1), .agg [.v (.bool r.2.1.Neg), .own false 1 (List.map (cInt .u32) r.2.1.Num), .own false 1 (List.map (cInt .u32) r.2.1.Den)], .v (.int .i64 r.2.2)]) := by
 unfold f22 at h
 refine pof (fn := Try.f22) (nt := 45) Try.func22 rfl rfl rfl rfl (fun _ => rfl) (fun base c00 hU => ?_)
 refine Wk.wp (s2 := ⟨.v (.string (mkS s)) :: jj 44 [], St [], none, 0⟩) ?_ ?_
 ·exact Wk.weak hU [] _ (by decide) .nil wvS
 refine rs hU (f22_ci_ok _) rgI <| Wp.seq <| rs hU (f22_ci_ok _) rgI <| ?_
 refine Wp.cond hU (t := s == [46]) rfl (fun hc1 => ?_) (fun hc1 => ?_)
 ·rw [if_t hc1] at h
  refine Wp.seq <| ?_
  have fx := hc1
  refine rq hU (f22_ci_ok _) rgIF <| thenN <| Wp.ret <| thenR <| ?_
  obtain rfl := sj h
  refine ⟨.inl rfl, ?_⟩
  refine Rt.of <| ?_
  have fx := i2 f22_res f22_rt
  exact rtI
 ·rw [if_f hc1] at h
  refine Wp.skip <| thenN <| Wp.seq <| Wp.seq <| ?_
  rcases Bool.eq_false_or_eq_true (s == [35, 116]) with hg8 | hg8
  ·rw [if_t hg8] at h
   have fx := i2 hc1 hg8
   refine rq hU (f22_ci_ok _) rgIF <| thenN <| ?_
   refine Wp.cond hU (t := true) rfl (fun _ => ?_) (fun hc => by cases hc)
   refine rs hU (f22_ci_ok _) rgIF <| Wp.ret <| thenR <| ?_
   obtain rfl := sj h
   refine ⟨.inl rfl, ?_⟩
   refine Rt.of <| ?_
   have fx := i2 f22_res f22_rt
   exact rtI
  ·rw [if_f hg8] at h
   have fx := i2 hc1 hg8
   refine rq hU (f22_ci_ok _) rgIF <| thenN <| ?_
   refine Wp.cond hU (t := s == [35, 102]) rfl (fun hc2 => ?_) (fun hc2 => ?_)
   ·rw [if_t hc2] at h
    refine Wp.seq <| ?_
    have fx := i3 hc1 hg8 hc2
    refine rq hU (f22_ci_ok _) rgIF <| thenN <| Wp.ret <| thenR <| ?_
    obtain rfl := sj h
    refine ⟨.inl rfl, ?_⟩
    refine Rt.of <| ?_
    have fx := i2 f22_res f22_rt
    exact rtI
   ·rw [if_f hc2] at h
    refine Wp.skip <| thenN <| Wp.seq <| ?_
    obtain ⟨r3, hr3, h⟩ := bind_some h
    have hr3c := fun σ => show f22_ci 34 _ σ = _ from f34_call hr3 σ
    have fx := i4 hr3c hc1 hg8 hc2
    refine rq hU (f22_ci_ok _) rgIF <| thenN <| Wp.seq <| Wp.seq <| ?_
    have fx := i3 hc1 hg8 hc2
    refine rq hU (f22_ci_ok _) rgIF <| thenN <| ?_
    refine Wp.cond hU (t := r3.2.2.2) rfl (fun hc4 => ?_) (fun hc4 => ?_)
    ·rw [if_t hc4] at h
     refine Wp.seq <| ?_
     obtain ⟨r5, hr5, h⟩ := bind_some h
     have hr5c := fun σ => show f22_ci 35 _ σ = _ from f35_call hr5 σ
     have fx := i5 hr5c hc1 hg8 hc2 hc4
     refine rq hU (f22_ci_ok _) rgIF <| thenN <| Wp.seq <| ?_
     have fx := i4 hc1 hg8 hc2 hc4
     refine Wp.regionT hU (f22_ci_ok _) rgIF (by kernel_rfl) <| thenN <| Wp.ret <| thenR <| ?_
     obtain rfl := sj h
     refine ⟨.inl rfl, ?_⟩
     refine Rt.of <| ?_
     have fx := i2 f22_res f22_rt
     exact rtI
    ·rw [if_f hc4] at h
     refine Wp.skip <| thenN <| Wp.seq <| Wp.seq <| ?_
     obtain ⟨r6, hr6, h⟩ := bind_some h
     have hr6c := fun σ => show f22_ci 25 _ σ = _ from f25_call hr6 σ
     have fx := i5 hr6c hc1 hg8 hc2 hc4
     refine rq hU (f22_ci_ok _) rgIF <| thenN <| ?_
     refine Wp.cond hU (t := !r6) rfl (fun hc7 => ?_) (fun hc7 => ?_)
     ·rw [if_t hc7] at h
      refine Wp.seq <| ?_
      have fx := i5 hc1 hg8 hc2 hc4 hc7
      refine rq hU (f22_ci_ok _) rgIF <| thenN <| Wp.ret <| thenR <| ?_
      obtain rfl := sj h
      refine ⟨.inl rfl, ?_⟩
      refine Rt.of <| ?_
      have fx := i2 f22_res f22_rt
      exact rtI
     ·rw [if_f hc7] at h
      refine Wp.skip <| thenN <| Wp.seq <| Wp.seq <| ?_
      have fx := i5 hc1 hg8 hc2 hc4 hc7
      refine rq hU (f22_ci_ok _) rgIF <| thenN <| ?_
      refine Wp.cond hU (t := decide ((s.length : Int) > 32)) rfl (fun hc8 => ?_) (fun hc8 => ?_)
      ·rw [if_t hc8] at h
       refine Wp.seq <| ?_
       have fx := i6 hc1 hg8 hc2 hc4 hc7 hc8
       refine rq hU (f22_ci_ok _) rgIF <| thenN <| Wp.ret <| thenR <| ?_
       obtain rfl := sj h
       refine ⟨.inl rfl, ?_⟩
       refine Rt.of <| ?_
       have fx := i2 f22_res f22_rt
       exact rtI
      ·rw [if_f hc8] at h
       refine Wp.skip <| thenN <| Wp.seq <| ?_
       have fx := i6 hc1 hg8 hc2 hc4 hc7 hc8
       refine rq hU (f22_ci_ok _) rgIF <| thenN <| Wp.ret <| ?_
       obtain rfl := sj h
       refine ⟨.inl rfl, ?_⟩
       refine Rt.of <| ?_
       have fx := i2 f22_res f22_rt
       exact rtI
noncomputable def f22_tbl : CI := tbl 22 (fun p : Str => [.v (.string (mkS p))]) (fun p => (f22 p).map fun r => .tup [.v (.int .i64 r.1), .agg [.v (.bool r.2.1.Neg), .own false 1 (List.map (cInt .u32) r.2.1.Num), .own false 1 (List.map (cInt .u32) r.2.1.Den)], .v (.int .i64 r.2.2)])
theorem f22_tbl_ok {base : Nat} : CIOK E base f22_tbl := tbl_okM fun p q h => f22_ok p q h
theorem f22_call {s : Str} {r : Int × Ratio × Int} (h : f22 s = some r) (σ : Store) : f22_tbl 22 [.v (.string (mkS s))] σ = some (.tup [.v (.int .i64 r.1), .agg [.v (.bool r.2.1.Neg), .own false 1 (List.map (cInt .u32) r.2.1.Num), .own false 1 (List.map (cInt .u32) r.2.1.Den)], .v (.int .i64 r.2.2)], σ, none) :=
 tbl_eq (x := (s)) (fun x y e => by
  exact av_str (List.cons.inj e).1) (by simp [h]) σ
def f12_l1 (text : Str) (i_1 : Int) : Option (Int) :=
 if (decide (i_1 < (text.length : Int))) = true then
  (bt text i_1 >>= fun b9 =>
  if (b9 != 10) = true then
   (f12_l1 text (IntKind.i64.wrap (i_1 + 1)))
  else
   some i_1)
 else
  some i_1
 partial_fixpoint
def f12_l2 (text : Str) (to : Int) : Option (Int) :=
 if (decide (to < (text.length : Int))) = true then
  (bt text to >>= fun b16 =>
  f21 b16 [32, 9, 10, 13, 59, 40, 41, 39] >>= fun r17 =>
  if (!r17) = true then
   (f12_l2 text (IntKind.i64.wrap (to + 1)))
  else
   some to)
 else
  some to
 partial_fixpoint
def f12_l0 (text : Str) (out : List Token) (i : Int) : Option (Ou ((List Token) × Int × Int) ((List Token))) :=
 if (decide (i < (text.length : Int))) = true then
  (bt text i >>= fun b4 =>
  f21 b4 [32, 9, 10, 13] >>= fun r5 =>
  if r5 = true then
   (f12_l0 text out (IntKind.i64.wrap (i + 1)))
  else
   if (b4 == 59) = true then
    (f12_l1 text i >>= fun o8 =>
    f12_l0 text out o8)
   else
    if (b4 == 40) = true then
     (ap 88 out [(⟨1, [40], (⟨false, [], []⟩ : Ratio), i⟩ : Token)] >>= fun a10 =>
     f12_l0 text a10 (IntKind.i64.wrap (i + 1)))
    else
     if (b4 == 41) = true then
      (ap 88 out [(⟨2, [41], (⟨false, [], []⟩ : Ratio), i⟩ : Token)] >>= fun a12 =>
      f12_l0 text a12 (IntKind.i64.wrap (i + 1)))
     else
      if (b4 == 39) = true then
       (ap 88 out [(⟨3, [39], (⟨false, [], []⟩ : Ratio), i⟩ : Token)] >>= fun a14 =>
       f12_l0 text a14 (IntKind.i64.wrap (i + 1)))
      else
       f12_l2 text i >>= fun o15 =>
       cutL text i o15 >>= fun p16 =>
       f22 p16 >>= fun r17 =>
       if (r17.2.2 != 0) = true then
        (some (.ret ([], i, r17.2.2)))
       else
        cutL text i o15 >>= fun p19 =>
        ap 88 out [(⟨r17.1, p19, (⟨r17.2.1.Neg, r17.2.1.Num, r17.2.1.Den⟩ : Ratio), i⟩ : Token)] >>= fun a20 =>
        f12_l0 text a20 o15)
 else
  some (.nxt out)
 partial_fixpoint
/-- sibyl/sibylref04.Tokens -/
def f12 (text : Str) : Option ((List Token) × Int × Int) :=
 if (decide ((text.length : Int) > 4096)) = true then
  (some ([], 0, 3))
 else
  f12_l0 text [] 0 >>= fun o2 => match o2 with
  | .ret r0 => some r0
  | .nxt wo2 =>
   some (wo2, 0, 0)
noncomputable def f12_ci : CI := (CI.or 21 f21_tbl (CI.or 22 f22_tbl (fun _ _ _ => none)))
theorem f12_ci_ok (base : Nat) : CIOK E base f12_ci := (or_ok f21_tbl_ok (or_ok f22_tbl_ok no_ok))
theorem f12_res : Try.f12.results = #[.tmp 2, .tmp 3, .tmp 4] := rfl
theorem f12_rt : Try.f12.resultTypes = #[23, 3, 3] := rfl
theorem f12_l1_ok {base : Nat} {c00 : Ctx} (text : Str) (out : List Token) (hU : Under E base c00 nilStore) : ∀ (i_1 : Int) (o8 : Int), f12_l1 text i_1 = some o8 →
  WpL E base c00 nilStore (lb Try.f12 1) ⟨.v (.string (mkS text)) :: jj 4 (.row 0 6 0 ((out).length) :: .v (.int .i64 i_1) :: jj 105 []), St [some ⟨6, false, true, List.map cToken out⟩], none, 0⟩ (fun ex s1 => ex = .exit 5 ∧ Wk base c00 nilStore s1 ⟨.v (.string (mkS text)) :: jj 4 (.row 0 6 0 ((out).length) :: .v (.int .i64 o8) :: jj 105 []), St [some ⟨6, false, true, List.map cToken out⟩], none, 0⟩) := by
 refine f12_l1.partial_correctness text _ ?_
 intro lp__ ih i_1 o8 h
 refine WpL.stepE (lbI Try.f12.eq_1) ?_
 refine Wp.seq <| Wp.seq <| ?_
 rcases Bool.eq_false_or_eq_true (decide (i_1 < (text.length : Int))) with hg108 | hg108
 ·rw [if_t hg108] at h
  obtain ⟨b9, hb9, h⟩ := bind_some h
  have fx := i2 hb9 hg108
  refine rq hU (f12_ci_ok _) rgJF <| thenN <| ?_
  refine Wp.cond hU (t := b9 != 10) rfl (fun hc10 => ?_) (fun hc10 => ?_)
  ·rw [if_t hc10] at h
   refine Wp.skip <| thenN <| Wp.block <| ?_
   have fx := i2 hg108 hc10
   refine rq hU (f12_ci_ok _) rgJF <| blkN <| againN <| ?_
   refine Wk.wpL ?_ (ih (IntKind.i64.wrap (i_1 + 1)) _ h)
   exact Wk.weak hU [some 0] _ (by decide) wsJ wvJ
  ·rw [if_f hc10] at h
   refine Wp.exit <| thenE <| againE <| ?_
   obtain rfl := sj h
   refine ⟨rfl, ?_⟩
   exact Wk.weak hU [some 0] _ (by decide) wsJ wvJ
 ·rw [if_f hg108] at h
  have fx := hg108
  refine rq hU (f12_ci_ok _) rgJF <| thenN <| ?_
  refine Wp.cond hU (t := false) rfl (fun hc => by cases hc) (fun _ => ?_)
  refine Wp.exit <| thenE <| againE <| ?_
  obtain rfl := sj h
  refine ⟨rfl, ?_⟩
  exact Wk.weak hU [some 0] _ (by decide) wsJ wvJ
theorem f12_l2_ok {base : Nat} {c00 : Ctx} (text : Str) (out : List Token) (i : Int) (hU : Under E base c00 nilStore) : ∀ (to : Int) (o15 : Int), f12_l2 text to = some o15 →
  WpL E base c00 nilStore (lb Try.f12 2) ⟨.v (.string (mkS text)) :: jj 4 (.row 0 6 0 ((out).length) :: .v (.int .i64 i) :: jj 1 (.v (.int .i64 to) :: jj 103 [])), St [some ⟨6, false, true, List.map cToken out⟩], none, 0⟩ (fun ex s1 => ex = .exit 3 ∧ Wk base c00 nilStore s1 ⟨.v (.string (mkS text)) :: jj 4 (.row 0 6 0 ((out).length) :: .v (.int .i64 i) :: jj 1 (.v (.int .i64 o15) :: jj 103 [])), St [some ⟨6, false, true, List.map cToken out⟩], none, 0⟩) := by
 refine f12_l2.partial_correctness text _ ?_
 intro lp__ ih to o15 h
 refine WpL.stepE (lbI Try.f12.eq_1) ?_
 refine Wp.seq <| Wp.seq <| ?_
 rcases Bool.eq_false_or_eq_true (decide (to < (text.length : Int))) with hg128 | hg128
 ·rw [if_t hg128] at h
  obtain ⟨b16, hb16, h⟩ := bind_some h
  obtain ⟨r17, hr17, h⟩ := bind_some h
  have hr17c := fun σ => show f12_ci 21 _ σ = _ from f21_call hr17 σ
  try simp only [List.map_cons, List.map_nil, cInt_eq, cBool_eq, cStr_eq, cSl_eq, tys] at hr17c
  have fx := i3 hb16 hr17c hg128
  refine rq hU (f12_ci_ok _) rgJF <| thenN <| ?_
  refine Wp.cond hU (t := !r17) rfl (fun hc18 => ?_) (fun hc18 => ?_)
  ·rw [if_t hc18] at h
   refine Wp.skip <| thenN <| Wp.block <| ?_
   have fx := i2 hg128 hc18
   refine rq hU (f12_ci_ok _) rgJF <| blkN <| againN <| ?_
   refine Wk.wpL ?_ (ih (IntKind.i64.wrap (to + 1)) _ h)
   exact Wk.weak hU [some 0] _ (by decide) wsJ wvJ
  ·rw [if_f hc18] at h
   refine Wp.exit <| thenE <| againE <| ?_
   obtain rfl := sj h
   refine ⟨rfl, ?_⟩
   exact Wk.weak hU [some 0] _ (by decide) wsJ wvJ
 ·rw [if_f hg128] at h
  have fx := hg128
  refine rq hU (f12_ci_ok _) rgJF <| thenN <| ?_
  refine Wp.cond hU (t := false) rfl (fun hc => by cases hc) (fun _ => ?_)
  refine Wp.exit <| thenE <| againE <| ?_
  obtain rfl := sj h
  refine ⟨rfl, ?_⟩
  exact Wk.weak hU [some 0] _ (by decide) wsJ wvJ
theorem f12_l0_ok {base : Nat} {c00 : Ctx} (text : Str) (hU : Under E base c00 nilStore) : ∀ (out : List Token) (i : Int) (o2 : Ou ((List Token) × Int × Int) ((List Token))), f12_l0 text out i = some o2 →
  WpL E base c00 nilStore (lb Try.f12 0) ⟨.v (.string (mkS text)) :: jj 4 (.row 0 6 0 ((out).length) :: .v (.int .i64 i) :: jj 105 []), St [some ⟨6, false, true, List.map cToken out⟩], none, 0⟩ (fun ex s1 => match o2 with | .ret r0 => ex = .ret ∧ Rt E base c00 Try.f12 (.tup [.own false 6 (List.map cToken r0.1), .v (.int .i64 r0.2.1), .v (.int .i64 r0.2.2)]) s1 | .nxt wo2 => ex = .exit 0 ∧ Wk base c00 nilStore s1 ⟨jj 5 (.row 0 6 0 ((wo2).length) :: jj 106 []), St [some ⟨6, false, true, List.map cToken wo2⟩], none, 0⟩) := by
 refine f12_l0.partial_correctness text _ ?_
 intro lp__ ih out i o2 h
 refine WpL.stepE (lbI Try.f12.eq_1) ?_
 refine Wp.seq <| rs hU (f12_ci_ok _) rgJ <| ?_
 refine Wp.cond hU (t := decide (i < (text.length : Int))) rfl (fun hc3 => ?_) (fun hc3 => ?_)
 ·rw [if_t hc3] at h
  refine Wp.skip <| thenN <| Wp.block <| Wp.seq <| ?_
  obtain ⟨b4, hb4, h⟩ := bind_some h
  have fx := i2 hb4 hc3
  refine rq hU (f12_ci_ok _) rgJF <| thenN <| Wp.block <| Wp.seq <| ?_
  obtain ⟨r5, hr5, h⟩ := bind_some h
  have hr5c := fun σ => show f12_ci 21 _ σ = _ from f21_call hr5 σ
  try simp only [List.map_cons, List.map_nil, cInt_eq, cBool_eq, cStr_eq, cSl_eq, tys] at hr5c
  have fx := i2 hr5c hc3
  refine rq hU (f12_ci_ok _) rgJF <| thenN <| ?_
  refine Wp.cond hU (t := r5) rfl (fun hc6 => ?_) (fun hc6 => ?_)
  ·rw [if_t hc6] at h
   have fx := i2 hc3 hc6
   refine rq hU (f12_ci_ok _) rgJF <| blkN <| blkN <| againN <| ?_
   refine Wk.wpL ?_ (ih out (IntKind.i64.wrap (i + 1)) _ h)
   exact Wk.weak hU [some 0] _ (by decide) wsJ wvJ
  ·rw [if_f hc6] at h
   refine Wp.seq <| ?_
   have fx := i2 hc3 hc6
   refine rq hU (f12_ci_ok _) rgJF <| thenN <| ?_
   refine Wp.cond hU (t := b4 == 59) rfl (fun hc7 => ?_) (fun hc7 => ?_)
   ·rw [if_t hc7] at h
    refine Wp.block <| ?_
    obtain ⟨o8, ho8, h⟩ := bind_some h
    refine Wp.loop <| ?_
    refine Tw.mono (Wk.wpL (s2 := ⟨.v (.string (mkS text)) :: jj 4 (.row 0 6 0 ((out).length) :: .v (.int .i64 i) :: jj 105 []), St [some ⟨6, false, true, List.map cToken out⟩], none, 0⟩) ?_ (f12_l1_ok text out hU i o8 ho8)) (fun ex s1 hp => ?_)
    ·exact Wk.weak hU [some 0] _ (by decide) wsJ wvJ
    ·obtain ⟨rfl, hp⟩ := hp
     refine blkE <| blkN <| blkN <| againN <| hp.wpL <| ?_
     refine Wk.wpL ?_ (ih out o8 _ h)
     exact Wk.weak hU [some 0] _ (by decide) wsJ wvJ
   ·rw [if_f hc7] at h
    refine Wp.seq <| ?_
    have fx := i3 hc3 hc6 hc7
    refine rq hU (f12_ci_ok _) rgJF <| thenN <| ?_
    refine Wp.cond hU (t := b4 == 40) rfl (fun hc9 => ?_) (fun hc9 => ?_)
    ·rw [if_t hc9] at h
     refine Wp.seq <| ?_
     obtain ⟨a10, ha10, h⟩ := bind_some h
     obtain ⟨ha10a, ha10b⟩ := ap_some ha10
     try simp only [List.length_cons, List.length_nil, Nat.zero_add, Nat.add_zero, Nat.reduceAdd] at ha10a
     have fx := i5 ha10a hc3 hc6 hc7 hc9
     refine rq hU (f12_ci_ok _) rgJF <| thenN <| ?_
     refine Wk.wp (s2 := ⟨.v (.string (mkS text)) :: jj 4 (.row 0 6 0 ((a10).length) :: .v (.int .i64 i) :: jj 105 []), St [some ⟨6, false, true, List.map cToken a10⟩], none, 0⟩) ?_ ?_
     ·refine Wk.weak hU [some 2] _ (by decide) ?_ ?_
      ·refine .obj rfl ?_ ?_
       ·refine WO.grow (c := cToken) (l := out) (ys := [[.v (.int .i64 1), .v (.string (mkS [40])), .v (.bool false), .sl [], .sl [], .v (.int .i64 i)]]) plToken ?_ rfl ?_
        ·repeat' (first | exact WL.nil | refine WL.cons ?_ ?_)
         have fe := ha10b
         have fl := ha10b
         have fv := nofx
         all_goals exact wvJF
        ·simp only [bxw, Int.toNat_natCast, List.length_replicate, ha10b, tys]
       exact .nil
      ·have fe := ha10b
       have fl := ha10b
       have fv := nofx
       exact wvJF
     have fx := i4 hc3 hc6 hc7 hc9
     refine rq hU (f12_ci_ok _) rgJF <| blkN <| blkN <| againN <| ?_
     refine Wk.wpL ?_ (ih a10 (IntKind.i64.wrap (i + 1)) _ h)
     have fe := ha10b
     have fl := ha10b
     have fv := nofx
     exact Wk.weak hU [some 0] _ (by decide) wsJF wvJF
    ·rw [if_f hc9] at h
     refine Wp.seq <| ?_
     have fx := i4 hc3 hc6 hc7 hc9
     refine rq hU (f12_ci_ok _) rgJF <| thenN <| ?_
     refine Wp.cond hU (t := b4 == 41) rfl (fun hc11 => ?_) (fun hc11 => ?_)
     ·rw [if_t hc11] at h
      refine Wp.seq <| ?_
      obtain ⟨a12, ha12, h⟩ := bind_some h
      obtain ⟨ha12a, ha12b⟩ := ap_some ha12
      try simp only [List.length_cons, List.length_nil, Nat.zero_add, Nat.add_zero, Nat.reduceAdd] at ha12a
      have fx := i6 ha12a hc3 hc6 hc7 hc9 hc11
      refine rq hU (f12_ci_ok _) rgJF <| thenN <| ?_
      refine Wk.wp (s2 := ⟨.v (.string (mkS text)) :: jj 4 (.row 0 6 0 ((a12).length) :: .v (.int .i64 i) :: jj 105 []), St [some ⟨6, false, true, List.map cToken a12⟩], none, 0⟩) ?_ ?_
      ·refine Wk.weak hU [some 2] _ (by decide) ?_ ?_
       ·refine .obj rfl ?_ ?_
        ·refine WO.grow (c := cToken) (l := out) (ys := [[.v (.int .i64 2), .v (.string (mkS [41])), .v (.bool false), .sl [], .sl [], .v (.int .i64 i)]]) plToken ?_ rfl ?_
         ·repeat' (first | exact WL.nil | refine WL.cons ?_ ?_)
          have fe := ha12b
          have fl := ha12b
          have fv := nofx
          all_goals exact wvJF
         ·simp only [bxw, Int.toNat_natCast, List.length_replicate, ha12b, tys]
        exact .nil
       ·have fe := ha12b
        have fl := ha12b
        have fv := nofx
        exact wvJF
      have fx := i5 hc3 hc6 hc7 hc9 hc11
      refine rq hU (f12_ci_ok _) rgJF <| blkN <| blkN <| againN <| ?_
      refine Wk.wpL ?_ (ih a12 (IntKind.i64.wrap (i + 1)) _ h)
      have fe := ha12b
      have fl := ha12b
      have fv := nofx
      exact Wk.weak hU [some 0] _ (by decide) wsJF wvJF
     ·rw [if_f hc11] at h
      refine Wp.seq <| ?_
      have fx := i5 hc3 hc6 hc7 hc9 hc11
      refine rq hU (f12_ci_ok _) rgJF <| thenN <| ?_
      refine Wp.cond hU (t := b4 == 39) rfl (fun hc13 => ?_) (fun hc13 => ?_)
      ·rw [if_t hc13] at h
       refine Wp.seq <| ?_
       obtain ⟨a14, ha14, h⟩ := bind_some h
       obtain ⟨ha14a, ha14b⟩ := ap_some ha14
       try simp only [List.length_cons, List.length_nil, Nat.zero_add, Nat.add_zero, Nat.reduceAdd] at ha14a
       have fx := i7 ha14a hc3 hc6 hc7 hc9 hc11 hc13
       refine rq hU (f12_ci_ok _) rgJF <| thenN <| ?_
       refine Wk.wp (s2 := ⟨.v (.string (mkS text)) :: jj 4 (.row 0 6 0 ((a14).length) :: .v (.int .i64 i) :: jj 105 []), St [some ⟨6, false, true, List.map cToken a14⟩], none, 0⟩) ?_ ?_
       ·refine Wk.weak hU [some 2] _ (by decide) ?_ ?_
        ·refine .obj rfl ?_ ?_
         ·refine WO.grow (c := cToken) (l := out) (ys := [[.v (.int .i64 3), .v (.string (mkS [39])), .v (.bool false), .sl [], .sl [], .v (.int .i64 i)]]) plToken ?_ rfl ?_
          ·repeat' (first | exact WL.nil | refine WL.cons ?_ ?_)
           have fe := ha14b
           have fl := ha14b
           have fv := nofx
           all_goals exact wvJF
          ·simp only [bxw, Int.toNat_natCast, List.length_replicate, ha14b, tys]
         exact .nil
        ·have fe := ha14b
         have fl := ha14b
         have fv := nofx
         exact wvJF
       have fx := i6 hc3 hc6 hc7 hc9 hc11 hc13
       refine rq hU (f12_ci_ok _) rgJF <| blkN <| blkN <| againN <| ?_
       refine Wk.wpL ?_ (ih a14 (IntKind.i64.wrap (i + 1)) _ h)
       have fe := ha14b
       have fl := ha14b
       have fv := nofx
       exact Wk.weak hU [some 0] _ (by decide) wsJF wvJF
      ·rw [if_f hc13] at h
       refine Wp.seq <| ?_
       have fx := i6 hc3 hc6 hc7 hc9 hc11 hc13
       refine rq hU (f12_ci_ok _) rgJF <| thenN <| Wp.seq <| Wp.block <| ?_
       obtain ⟨o15, ho15, h⟩ := bind_some h
       refine Wp.loop <| ?_
       refine Tw.mono (Wk.wpL (s2 := ⟨.v (.string (mkS text)) :: jj 4 (.row 0 6 0 ((out).length) :: .v (.int .i64 i) :: jj 1 (.v (.int .i64 i) :: jj 103 [])), St [some ⟨6, false, true, List.map cToken out⟩], none, 0⟩) ?_ (f12_l2_ok text out i hU i o15 ho15)) (fun ex s1 hp => ?_)
       ·exact Wk.weak hU [some 0] _ (by decide) wsJ wvJ
       ·obtain ⟨rfl, hp⟩ := hp
        refine blkE <| thenN <| hp.wp <| Wp.seq <| ?_
        obtain ⟨p16, hp16, h⟩ := bind_some h
        obtain ⟨hp16a, hp16b, hp16c, hp16d, hp16e, hp16f⟩ := cutL_some hp16
        try simp only [Int.toNat_natCast] at hp16c hp16d
        try simp only [Int.toNat_natCast, Int.toNat_zero, List.drop_zero, Nat.sub_zero] at hp16e hp16f
        obtain ⟨r17, hr17, h⟩ := bind_some h
        have hr17c := fun σ => show f12_ci 22 _ σ = _ from f22_call hr17 σ
        have hr17p := hr17c
        try simp only [hp16e, List.map_append, List.nil_append, Int.toNat_zero, List.drop_zero, List.map_cons, List.map_nil, cInt_eq, cBool_eq, cStr_eq, cSl_eq, tys] at hr17p
        have fx := i9 hp16a hp16b hp16c hp16d hp16e.symm hr17c hr17p hc3 (i5 hc6 hc7 hc9 hc11 hc13)
        refine rq hU (f12_ci_ok _) rgJS <| thenN <| Wp.seq <| Wp.seq <| ?_
        have fx := i9 hp16a hp16b hp16c hp16d hc3 hc6 hc7 hc9 (i2 hc11 hc13)
        refine rq hU (f12_ci_ok _) rgJS <| thenN <| ?_
        refine Wp.cond hU (t := r17.2.2 != 0) rfl (fun hc18 => ?_) (fun hc18 => ?_)
        ·rw [if_t hc18] at h
         refine Wp.seq <| ?_
         have fx := i9 hp16a hp16b hp16c hp16d hc3 hc6 hc7 hc9 (i3 hc11 hc13 hc18)
         refine rq hU (f12_ci_ok _) rgJS <| thenN <| Wp.ret <| thenR <| blkR <| blkR <| againR <| ?_
         obtain rfl := sj h
         refine ⟨rfl, ?_⟩
         refine Rt.of <| ?_
         have fx := i3 f12_res f12_rt hp16e
         exact rtJ
        ·rw [if_f hc18] at h
         refine Wp.skip <| thenN <| Wp.seq <| ?_
         obtain ⟨p19, hp19, h⟩ := bind_some h
         obtain ⟨hp19a, hp19b, hp19c, hp19d, hp19e, hp19f⟩ := cutL_some hp19
         try simp only [Int.toNat_natCast] at hp19c hp19d
         try simp only [Int.toNat_natCast, Int.toNat_zero, List.drop_zero, Nat.sub_zero] at hp19e hp19f
         obtain ⟨a20, ha20, h⟩ := bind_some h
         obtain ⟨ha20a, ha20b⟩ := ap_some ha20
         try simp only [List.length_cons, List.length_nil, Nat.zero_add, Nat.add_zero, Nat.reduceAdd] at ha20a
         have fx := i9 hp19a hp19b hp19c hp19d hp19e.symm ha20a hp16a hp16b (i9 hp16c hp16d hc3 hc6 hc7 hc9 hc11 hc13 hc18)
         refine Wp.regionT hU (f12_ci_ok _) rgJS (by kernel_rfl) <| thenN <| ?_
         refine Wk.wp (s2 := ⟨.v (.string (mkS text)) :: jj 4 (.row 0 6 0 ((a20).length) :: jj 2 (.v (.int .i64 o15) :: jj 103 [])), St [some ⟨6, false, true, List.map cToken a20⟩], none, 0⟩) ?_ ?_
         ·refine Wk.share hU [1, 2] ?_
          simp (decide := true) only [share, fresh1, reduceIte, reduceCtorEq, Nat.reduceAdd, bxm]
          refine Wk.weak hU [some 5] _ (by decide) ?_ ?_
          ·refine .obj rfl ?_ ?_
           ·refine WO.grow (c := cToken) (l := out) (ys := [[.v (.int .i64 r17.1), .v (.string (mkS p19)), .v (.bool r17.2.1.Neg), .sl (List.map (cInt .u32) r17.2.1.Num), .sl (List.map (cInt .u32) r17.2.1.Den), .v (.int .i64 i)]]) plToken ?_ rfl ?_
            ·repeat' (first | exact WL.nil | refine WL.cons ?_ ?_)
             have fe := i3 hp16e hp19e ha20b
             have fl := i3 ha20b hp16f hp19f
             have fv := i6 hp16e hp19e hp16c hp16d hp19c hp19d
             all_goals exact wvJF
            ·simp only [bxw, Int.toNat_natCast, List.length_replicate, hp16e, hp19e, ha20b, tys]
           exact .nil
          ·have fe := i3 hp16e hp19e ha20b
           have fl := i3 ha20b hp16f hp19f
           have fv := i6 hp16e hp19e hp16c hp16d hp19c hp19d
           exact wvJF
         have fx := i9 hp16a hp16b hp16c hp16d hp19a hp19b hp19c hp19d (i7 hc3 hc6 hc7 hc9 hc11 hc13 hc18)
         refine rq hU (f12_ci_ok _) rgJS <| blkN <| blkN <| againN <| ?_
         refine Wk.wpL ?_ (ih a20 o15 _ h)
         have fe := i3 hp16e hp19e ha20b
         have fl := i3 ha20b hp16f hp19f
         have fv := i6 hp16e hp19e hp16c hp16d hp19c hp19d
         exact Wk.weak hU [some 0] _ (by decide) wsJF wvJF
 ·rw [if_f hc3] at h
  refine Wp.exit <| thenE <| againE <| ?_
  obtain rfl := sj h
  refine ⟨rfl, ?_⟩
  exact Wk.weak hU [some 0] _ (by decide) wsJ wvJ
theorem f12_ok (text : Str) (r : (List Token) × Int × Int) (h : f12 text = some r) : PureOK E 12 [.v (.string (mkS text))] (.tup [.own false 6 (List.map cToken r.1), .v (.int .i64 r.2.1), .v (.int .i64 r.2.2)]) := by
 unfold f12 at h
 refine pof (fn := Try.f12) (nt := 112) Try.func12 rfl rfl rfl rfl (fun _ => rfl) (fun base c00 hU => ?_)
 refine Wk.wp (s2 := ⟨.v (.string (mkS text)) :: jj 111 [], St [], none, 0⟩) ?_ ?_
 ·exact Wk.weak hU [] _ (by decide) .nil wvS
 refine rs hU (f12_ci_ok _) rgJ <| Wp.seq <| rs hU (f12_ci_ok _) rgJ <| ?_
 refine Wp.cond hU (t := decide ((text.length : Int) > 4096)) rfl (fun hc1 => ?_) (fun hc1 => ?_)
 ·rw [if_t hc1] at h
  refine Wp.seq <| ?_
  have fx := hc1
  refine rq hU (f12_ci_ok _) rgJF <| thenN <| Wp.ret <| thenR <| ?_
  obtain rfl := sj h
  refine ⟨.inl rfl, ?_⟩
  refine Rt.of <| ?_
  have fx := i2 f12_res f12_rt
  exact rtJ
 ·rw [if_f hc1] at h
  refine Wp.skip <| thenN <| Wp.seq <| ?_
  have fx := hc1
  refine rq hU (f12_ci_ok _) rgJF <| thenN <| Wp.seq <| rs hU (f12_ci_ok _) rgJF <| Wp.block <| ?_
  obtain ⟨o2, ho2, h⟩ := bind_some h
  refine Wp.loop <| ?_
  refine Tw.mono (Wk.wpL (s2 := ⟨.v (.string (mkS text)) :: jj 4 (.row 0 6 0 (0) :: .v (.int .i64 0) :: jj 105 []), St [some ⟨6, false, true, List.map cToken []⟩], none, 0⟩) ?_ (f12_l0_ok text hU [] 0 o2 ho2)) (fun ex s1 hp => ?_)
  ·exact Wk.weak hU [none] _ (by decide) wsJ wvJ
  ·cases o2 with
   | ret r0 =>
    obtain ⟨rfl, hp⟩ := hp
    obtain rfl := sj h
    refine blkR <| thenR <| ?_
    exact ⟨.inl rfl, hp⟩
   | nxt wo2 =>
    obtain ⟨rfl, hp⟩ := hp
    dsimp only at h
    refine blkE <| thenN <| hp.wp <| rs hU (f12_ci_ok _) rgJF <| Wp.ret <| ?_
    obtain rfl := sj h
    refine ⟨.inl rfl, ?_⟩
    refine Rt.of <| ?_
    have fx := i2 f12_res f12_rt
    exact rtJ
noncomputable def f12_tbl : CI := tbl 12 (fun p : Str => [.v (.string (mkS p))]) (fun p => (f12 p).map fun r => .tup [.own false 6 (List.map cToken r.1), .v (.int .i64 r.2.1), .v (.int .i64 r.2.2)])
theorem f12_tbl_ok {base : Nat} : CIOK E base f12_tbl := tbl_okM fun p q h => f12_ok p q h
theorem f12_call {text : Str} {r : (List Token) × Int × Int} (h : f12 text = some r) (σ : Store) : f12_tbl 12 [.v (.string (mkS text))] σ = some (.tup [.own false 6 (List.map cToken r.1), .v (.int .i64 r.2.1), .v (.int .i64 r.2.2)], σ, none) :=
 tbl_eq (x := (text)) (fun x y e => by
  exact av_str (List.cons.inj e).1) (by simp [h]) σ
def f36_l0 (a : List Int) (b : List Int) (i : Int) : Option (Ou Bool Unit) :=
 if (decide (i < (a.length : Int))) = true then
  (rd a i >>= fun e4 =>
  rd b i >>= fun e5 =>
  if (e4 != e5) = true then
   (some (.ret false))
  else
   f36_l0 a b (IntKind.i64.wrap (i + 1)))
 else
  some (.nxt ())
 partial_fixpoint
/-- sibyl/sibylref01.Same -/
def f36 (a : List Int) (b : List Int) : Option (Bool) :=
 if ((a.length : Int) != (b.length : Int)) = true then
  (some false)
 else
  f36_l0 a b 0 >>= fun o2 => match o2 with
  | .ret r0 => some r0
  | .nxt wo2 =>
   some true
theorem f36_res : Try.f36.results = #[.tmp 4] := rfl
theorem f36_rt : Try.f36.resultTypes = #[4] := rfl
theorem f36_l0_ok {base : Nat} {c00 : Ctx} (a : List Int) (b : List Int) (hU : Under E base c00 nilStore) : ∀ (i : Int) (o2 : Ou Bool Unit), f36_l0 a b i = some o2 →
  WpL E base c00 nilStore (lb Try.f36 0) ⟨.sl (List.map (cInt .u32) a) :: .sl (List.map (cInt .u32) b) :: jj 3 (.v (.int .i64 i) :: jj 20 []), St [], none, 0⟩ (fun ex s1 => match o2 with | .ret r0 => ex = .ret ∧ Rt E base c00 Try.f36 (.v (.bool r0)) s1 | .nxt wo2 => ex = .exit 0 ∧ Wk base c00 nilStore s1 ⟨jj 26 [], St [], none, 0⟩) := by
 refine f36_l0.partial_correctness a b _ ?_
 intro lp__ ih i o2 h
 refine WpL.stepE (lbI Try.f36.eq_1) ?_
 refine Wp.seq <| rs hU no_ok rgI <| ?_
 refine Wp.cond hU (t := decide (i < (a.length : Int))) rfl (fun hc3 => ?_) (fun hc3 => ?_)
 ·rw [if_t hc3] at h
  refine Wp.skip <| thenN <| Wp.seq <| Wp.block <| Wp.seq <| ?_
  obtain ⟨e4, he4, h⟩ := bind_some h
  obtain ⟨he4a, he4b, he4c⟩ := rd_some he4
  obtain ⟨e5, he5, h⟩ := bind_some h
  obtain ⟨he5a, he5b, he5c⟩ := rd_some he5
  have fx := i7 he4a he4b he4c he5a he5b he5c hc3
  refine Wp.regionT hU no_ok rgIF (by kernel_rfl) <| thenN <| ?_
  refine Wp.cond hU (t := e4 != e5) rfl (fun hc6 => ?_) (fun hc6 => ?_)
  ·rw [if_t hc6] at h
   refine Wp.seq <| ?_
   have fx := i2 hc3 hc6
   refine rq hU no_ok rgIF <| thenN <| Wp.ret <| blkR <| thenR <| againR <| ?_
   obtain rfl := sj h
   refine ⟨rfl, ?_⟩
   refine Rt.of <| ?_
   have fx := i2 f36_res f36_rt
   exact rtI
  ·rw [if_f hc6] at h
   refine Wp.skip <| blkN <| thenN <| ?_
   have fx := i2 hc3 hc6
   refine rq hU no_ok rgIF <| againN <| ?_
   refine Wk.wpL ?_ (ih (IntKind.i64.wrap (i + 1)) _ h)
   exact Wk.weak hU [] _ (by decide) .nil wvI
 ·rw [if_f hc3] at h
  refine Wp.exit <| thenE <| againE <| ?_
  obtain rfl := sj h
  refine ⟨rfl, ?_⟩
  exact Wk.weak hU [] _ (by decide) .nil wvI
theorem f36_ok (a : List Int) (b : List Int) (r : Bool) (h : f36 a b = some r) : PureOK E 36 [.sl (List.map (cInt .u32) a), .sl (List.map (cInt .u32) b)] (.v (.bool r)) := by
 unfold f36 at h
 refine pof (fn := Try.f36) (nt := 26) Try.func36 rfl rfl rfl rfl (fun _ => rfl) (fun base c00 hU => ?_)
 refine Wk.wp (s2 := ⟨.sl (List.map (cInt .u32) a) :: .sl (List.map (cInt .u32) b) :: jj 24 [], St [], none, 0⟩) ?_ ?_
 ·exact Wk.weak hU [] _ (by decide) .nil wvS
 refine rs hU no_ok rgI <| Wp.seq <| rs hU no_ok rgI <| ?_
 refine Wp.cond hU (t := (a.length : Int) != (b.length : Int)) rfl (fun hc1 => ?_) (fun hc1 => ?_)
 ·rw [if_t hc1] at h
  refine Wp.seq <| ?_
  have fx := hc1
  refine rq hU no_ok rgIF <| thenN <| Wp.ret <| thenR <| ?_
  obtain rfl := sj h
  refine ⟨.inl rfl, ?_⟩
  refine Rt.of <| ?_
  have fx := i2 f36_res f36_rt
  exact rtI
 ·rw [if_f hc1] at h
  refine Wp.skip <| thenN <| Wp.seq <| Wp.seq <| ?_
  have fx := hc1
  refine rq hU no_ok rgIF <| thenN <| Wp.block <| ?_
  obtain ⟨o2, ho2, h⟩ := bind_some h
  refine Wp.loop <| ?_
  refine Tw.mono (Wk.wpL (s2 := ⟨.sl (List.map (cInt .u32) a) :: .sl (List.map (cInt .u32) b) :: jj 3 (.v (.int .i64 0) :: jj 20 []), St [], none, 0⟩) ?_ (f36_l0_ok a b hU 0 o2 ho2)) (fun ex s1 hp => ?_)
  ·exact Wk.weak hU [] _ (by decide) .nil wvI
  ·cases o2 with
   | ret r0 =>
    obtain ⟨rfl, hp⟩ := hp
    obtain rfl := sj h
    refine blkR <| thenR <| ?_
    exact ⟨.inl rfl, hp⟩
   | nxt wo2 =>
    obtain ⟨rfl, hp⟩ := hp
    dsimp only at h
    refine blkE <| thenN <| hp.wp <| rs hU no_ok rgIF <| Wp.ret <| ?_
    obtain rfl := sj h
    refine ⟨.inl rfl, ?_⟩
    refine Rt.of <| ?_
    have fx := i2 f36_res f36_rt
    exact rtI
noncomputable def f36_tbl : CI := tbl 36 (fun p : (List Int) × (List Int) => [.sl (List.map (cInt .u32) p.1), .sl (List.map (cInt .u32) p.2)]) (fun p => (f36 p.1 p.2).map fun r => .v (.bool r))
theorem f36_tbl_ok {base : Nat} : CIOK E base f36_tbl := tbl_okM fun p q h => f36_ok p.1 p.2 q h
theorem f36_call {a : List Int} {b : List Int} {r : Bool} (h : f36 a b = some r) (σ : Store) : f36_tbl 36 [.sl (List.map (cInt .u32) a), .sl (List.map (cInt .u32) b)] σ = some (.v (.bool r), σ, none) :=
 tbl_eq (x := (a, b)) (fun x y e => by
  obtain ⟨x0, x1⟩ := x; obtain ⟨y0, y1⟩ := y
  have e0 := av_sl inj_int (List.cons.inj e).1
  have e1 := av_sl inj_int (List.cons.inj (List.cons.inj e).2).1
  subst e0 e1; rfl) (by simp [h]) σ
/-- sibyl/sibylref02.Same -/
def f23 (a : Ratio) (b : Ratio) : Option (Bool) :=
 (if (a.Neg == b.Neg) = true then
  (f36 a.Num b.Num >>= fun r2 =>
  if r2 = true then
   (f36 a.Den b.Den >>= fun r3 =>
   some r3)
  else
   some false)
 else
  some false : Option (Bool)) >>= fun o1 =>
 some o1
noncomputable def f23_ci : CI := (CI.or 36 f36_tbl (fun _ _ _ => none))
theorem f23_ci_ok (base : Nat) : CIOK E base f23_ci := (or_ok f36_tbl_ok no_ok)
theorem f23_res : Try.f23.results = #[.tmp 4] := rfl
theorem f23_rt : Try.f23.resultTypes = #[4] := rfl
theorem f23_ok (a : Ratio) (b : Ratio) (r : Bool) (h : f23 a b = some r) : PureOK E 23 [.agg [.v (.bool a.Neg), .sl (List.map (cInt .u32) a.Num), .sl (List.map (cInt .u32) a.Den)], .agg [.v (.bool b.Neg), .sl (List.map (cInt .u32) b.Num), .sl (List.map (cInt .u32) b.Den)]] (.v (.bool r)) := by
 unfold f23 at h
 refine pof (fn := Try.f23) (nt := 24) Try.func23 rfl rfl rfl rfl (fun _ => rfl) (fun base c00 hU => ?_)
 refine Wk.wp (s2 := ⟨.agg [.v (.bool a.Neg), .sl (List.map (cInt .u32) a.Num), .sl (List.map (cInt .u32) a.Den)] :: .agg [.v (.bool b.Neg), .sl (List.map (cInt .u32) b.Num), .sl (List.map (cInt .u32) b.Den)] :: jj 22 [], St [], none, 0⟩) ?_ ?_
 ·exact Wk.weak hU [] _ (by decide) .nil wvS
 refine rs hU (f23_ci_ok _) rgI <| ?_
 obtain ⟨o1, ho1, h⟩ := bind_some h
 refine Wp.seq1 (JP := (fun ex s1 => ex = .nrm ∧ Wk base c00 nilStore s1 ⟨jj 4 (.v (.bool o1) :: jj 19 []), St [], none, 0⟩)) ?_ (fun ex s1 hp => ?_)
 ·replace h := ho1
  rcases Bool.eq_false_or_eq_true (a.Neg == b.Neg) with hg5 | hg5
  ·rw [if_t hg5] at h
   obtain ⟨r2, hr2, h⟩ := bind_some h
   have hr2c := fun σ => show f23_ci 36 _ σ = _ from f36_call hr2 σ
   rcases Bool.eq_false_or_eq_true (r2) with hg6 | hg6
   ·rw [if_t hg6] at h
    obtain ⟨r3, hr3, h⟩ := bind_some h
    have hr3c := fun σ => show f23_ci 36 _ σ = _ from f36_call hr3 σ
    have fx := i4 hr2c hr3c hg5 hg6
    refine rq hU (f23_ci_ok _) rgIF <| ?_
    obtain rfl := sj h
    refine ⟨rfl, ?_⟩
    exact Wk.weak hU [] _ (by decide) .nil wvI
   ·rw [if_f hg6] at h
    have fx := i3 hr2c hg5 hg6
    refine rq hU (f23_ci_ok _) rgIF <| ?_
    obtain rfl := sj h
    refine ⟨rfl, ?_⟩
    exact Wk.weak hU [] _ (by decide) .nil wvI
  ·rw [if_f hg5] at h
   have fx := hg5
   refine rq hU (f23_ci_ok _) rgIF <| ?_
   obtain rfl := sj h
   refine ⟨rfl, ?_⟩
   exact Wk.weak hU [] _ (by decide) .nil wvI
 ·obtain ⟨rfl, hp⟩ := hp
  refine thenN (hp.wp ?_)
  refine Wp.ret <| ?_
  obtain rfl := sj h
  refine ⟨.inl rfl, ?_⟩
  refine Rt.of <| ?_
  have fx := i2 f23_res f23_rt
  exact rtI
noncomputable def f23_tbl : CI := tbl 23 (fun p : Ratio × Ratio => [.agg [.v (.bool p.1.Neg), .sl (List.map (cInt .u32) p.1.Num), .sl (List.map (cInt .u32) p.1.Den)], .agg [.v (.bool p.2.Neg), .sl (List.map (cInt .u32) p.2.Num), .sl (List.map (cInt .u32) p.2.Den)]]) (fun p => (f23 p.1 p.2).map fun r => .v (.bool r))
theorem f23_tbl_ok {base : Nat} : CIOK E base f23_tbl := tbl_okM fun p q h => f23_ok p.1 p.2 q h
theorem f23_call {a : Ratio} {b : Ratio} {r : Bool} (h : f23 a b = some r) (σ : Store) : f23_tbl 23 [.agg [.v (.bool a.Neg), .sl (List.map (cInt .u32) a.Num), .sl (List.map (cInt .u32) a.Den)], .agg [.v (.bool b.Neg), .sl (List.map (cInt .u32) b.Num), .sl (List.map (cInt .u32) b.Den)]] σ = some (.v (.bool r), σ, none) :=
 tbl_eq (x := (a, b)) (fun x y e => by
  obtain ⟨x0, x1⟩ := x; obtain ⟨y0, y1⟩ := y
  have e0 := av_agg injRatio (List.cons.inj e).1
  have e1 := av_agg injRatio (List.cons.inj (List.cons.inj e).2).1
  subst e0 e1; rfl) (by simp [h]) σ
def f13_l0 (a : List Token) (b : List Token) (v : Int) : Option (Ou Bool Unit) :=
 if (decide (v < (a.length : Int))) = true then
  (rd a v >>= fun e4 =>
  rd b v >>= fun e5 =>
  if (e4.Kind != e5.Kind) = true then
   (some (.ret false))
  else
   if (e4.Text != e5.Text) = true then
    (some (.ret false))
   else
    if (e4.At != e5.At) = true then
     (some (.ret false))
    else
     f23 (⟨e4.N.Neg, e4.N.Num, e4.N.Den⟩ : Ratio) (⟨e5.N.Neg, e5.N.Num, e5.N.Den⟩ : Ratio) >>= fun r6 =>
     if (!r6) = true then
      (some (.ret false))
     else
      f13_l0 a b (IntKind.i64.wrap (v + 1)))
 else
  some (.nxt ())
 partial_fixpoint
/-- sibyl/sibyllaw04.same -/
def f13 (a : List Token) (b : List Token) : Option (Bool) :=
 if ((a.length : Int) != (b.length : Int)) = true then
  (some false)
 else
  f13_l0 a b 0 >>= fun o2 => match o2 with
  | .ret r0 => some r0
  | .nxt wo2 =>
   some true
noncomputable def f13_ci : CI := (CI.or 23 f23_tbl (fun _ _ _ => none))
theorem f13_ci_ok (base : Nat) : CIOK E base f13_ci := (or_ok f23_tbl_ok no_ok)
theorem f13_res : Try.f13.results = #[.tmp 4] := rfl
theorem f13_rt : Try.f13.resultTypes = #[4] := rfl
theorem f13_l0_ok {base : Nat} {c00 : Ctx} (a : List Token) (b : List Token) (hU : Under E base c00 nilStore) : ∀ (v : Int) (o2 : Ou Bool Unit), f13_l0 a b v = some o2 →
  WpL E base c00 nilStore (lb Try.f13 0) ⟨.sl (List.map cToken a) :: .sl (List.map cToken b) :: jj 10 (.v (.int .i64 (a.length : Int)) :: .v (.int .i64 v) :: jj 54 []), St [], none, 0⟩ (fun ex s1 => match o2 with | .ret r0 => ex = .ret ∧ Rt E base c00 Try.f13 (.v (.bool r0)) s1 | .nxt wo2 => ex = .exit 0 ∧ Wk base c00 nilStore s1 ⟨jj 68 [], St [], none, 0⟩) := by
 refine f13_l0.partial_correctness a b _ ?_
 intro lp__ ih v o2 h
 refine WpL.stepE (lbI Try.f13.eq_1) ?_
 refine rs hU (f13_ci_ok _) rgI <| Wp.seq <| ?_
 refine Wp.cond hU (t := decide (v < (a.length : Int))) rfl (fun hc3 => ?_) (fun hc3 => ?_)
 ·rw [if_t hc3] at h
  refine Wp.skip <| thenN <| Wp.seq <| Wp.block <| Wp.seq <| ?_
  have fx := hc3
  refine rq hU (f13_ci_ok _) rgIF <| thenN <| Wp.seq <| ?_
  obtain ⟨e4, he4, h⟩ := bind_some h
  obtain ⟨he4a, he4b, he4c⟩ := rd_some he4
  obtain ⟨e5, he5, h⟩ := bind_some h
  obtain ⟨he5a, he5b, he5c⟩ := rd_some he5
  rcases Bool.eq_false_or_eq_true (e4.Kind != e5.Kind) with hg58 | hg58
  ·rw [if_t hg58] at h
   have fx := i8 he4a he4b he4c he5a he5b he5c hc3 hg58
   refine Wp.regionT hU (f13_ci_ok _) rgIF (by kernel_rfl) <| thenN <| ?_
   refine Wp.cond hU (t := true) rfl (fun _ => ?_) (fun hc => by cases hc)
   refine Wp.seq <| ?_
   have fx := i2 hc3 hg58
   refine rq hU (f13_ci_ok _) rgIF <| thenN <| Wp.ret <| blkR <| thenR <| againR <| ?_
   obtain rfl := sj h
   refine ⟨rfl, ?_⟩
   refine Rt.of <| ?_
   have fx := i2 f13_res f13_rt
   exact rtI
  ·rw [if_f hg58] at h
   rcases Bool.eq_false_or_eq_true (e4.Text != e5.Text) with hg59 | hg59
   ·rw [if_t hg59] at h
    have fx := i9 he4a he4b he4c he5a he5b he5c hc3 hg58 hg59
    refine Wp.regionT hU (f13_ci_ok _) rgIF (by kernel_rfl) <| thenN <| ?_
    refine Wp.cond hU (t := true) rfl (fun _ => ?_) (fun hc => by cases hc)
    refine Wp.seq <| ?_
    have fx := i3 hc3 hg58 hg59
    refine rq hU (f13_ci_ok _) rgIF <| thenN <| Wp.ret <| blkR <| thenR <| againR <| ?_
    obtain rfl := sj h
    refine ⟨rfl, ?_⟩
    refine Rt.of <| ?_
    have fx := i2 f13_res f13_rt
    exact rtI
   ·rw [if_f hg59] at h
    rcases Bool.eq_false_or_eq_true (e4.At != e5.At) with hg60 | hg60
    ·rw [if_t hg60] at h
     have fx := i9 he4a he4b he4c he5a he5b he5c hc3 hg58 (i2 hg59 hg60)
     refine Wp.regionT hU (f13_ci_ok _) rgIF (by kernel_rfl) <| thenN <| ?_
     refine Wp.cond hU (t := true) rfl (fun _ => ?_) (fun hc => by cases hc)
     refine Wp.seq <| ?_
     have fx := i4 hc3 hg58 hg59 hg60
     refine rq hU (f13_ci_ok _) rgIF <| thenN <| Wp.ret <| blkR <| thenR <| againR <| ?_
     obtain rfl := sj h
     refine ⟨rfl, ?_⟩
     refine Rt.of <| ?_
     have fx := i2 f13_res f13_rt
     exact rtI
    ·rw [if_f hg60] at h
     obtain ⟨r6, hr6, h⟩ := bind_some h
     have hr6c := fun σ => show f13_ci 23 _ σ = _ from f23_call hr6 σ
     have fx := i9 he4a he4b he4c he5a he5b he5c hr6c hc3 (i3 hg58 hg59 hg60)
     refine Wp.regionT hU (f13_ci_ok _) rgIF (by kernel_rfl) <| thenN <| ?_
     refine Wp.cond hU (t := !r6) rfl (fun hc7 => ?_) (fun hc7 => ?_)
     ·rw [if_t hc7] at h
      refine Wp.seq <| ?_
      have fx := i5 hc3 hg58 hg59 hg60 hc7
      refine rq hU (f13_ci_ok _) rgIF <| thenN <| Wp.ret <| blkR <| thenR <| againR <| ?_
      obtain rfl := sj h
      refine ⟨rfl, ?_⟩
      refine Rt.of <| ?_
      have fx := i2 f13_res f13_rt
      exact rtI
     ·rw [if_f hc7] at h
      refine Wp.skip <| blkN <| thenN <| ?_
      have fx := i5 hc3 hg58 hg59 hg60 hc7
      refine rq hU (f13_ci_ok _) rgIF <| againN <| ?_
      refine Wk.wpL ?_ (ih (IntKind.i64.wrap (v + 1)) _ h)
      exact Wk.weak hU [] _ (by decide) .nil wvI
 ·rw [if_f hc3] at h
  refine Wp.exit <| thenE <| againE <| ?_
  obtain rfl := sj h
  refine ⟨rfl, ?_⟩
  exact Wk.weak hU [] _ (by decide) .nil wvI
theorem f13_ok (a : List Token) (b : List Token) (r : Bool) (h : f13 a b = some r) : PureOK E 13 [.sl (List.map cToken a), .sl (List.map cToken b)] (.v (.bool r)) := by
 unfold f13 at h
 refine pof (fn := Try.f13) (nt := 68) Try.func13 rfl rfl rfl rfl (fun _ => rfl) (fun base c00 hU => ?_)
 refine Wk.wp (s2 := ⟨.sl (List.map cToken a) :: .sl (List.map cToken b) :: jj 66 [], St [], none, 0⟩) ?_ ?_
 ·exact Wk.weak hU [] _ (by decide) .nil wvS
 refine rs hU (f13_ci_ok _) rgI <| Wp.seq <| rs hU (f13_ci_ok _) rgI <| ?_
 refine Wp.cond hU (t := (a.length : Int) != (b.length : Int)) rfl (fun hc1 => ?_) (fun hc1 => ?_)
 ·rw [if_t hc1] at h
  refine Wp.seq <| ?_
  have fx := hc1
  refine rq hU (f13_ci_ok _) rgIF <| thenN <| Wp.ret <| thenR <| ?_
  obtain rfl := sj h
  refine ⟨.inl rfl, ?_⟩
  refine Rt.of <| ?_
  have fx := i2 f13_res f13_rt
  exact rtI
 ·rw [if_f hc1] at h
  refine Wp.skip <| thenN <| Wp.seq <| Wp.seq <| ?_
  have fx := hc1
  refine rq hU (f13_ci_ok _) rgIF <| thenN <| Wp.block <| ?_
  obtain ⟨o2, ho2, h⟩ := bind_some h
  refine Wp.loop <| ?_
  refine Tw.mono (Wk.wpL (s2 := ⟨.sl (List.map cToken a) :: .sl (List.map cToken b) :: jj 10 (.v (.int .i64 (a.length : Int)) :: .v (.int .i64 0) :: jj 54 []), St [], none, 0⟩) ?_ (f13_l0_ok a b hU 0 o2 ho2)) (fun ex s1 hp => ?_)
  ·exact Wk.weak hU [] _ (by decide) .nil wvI
  ·cases o2 with
   | ret r0 =>
    obtain ⟨rfl, hp⟩ := hp
    obtain rfl := sj h
    refine blkR <| thenR <| ?_
    exact ⟨.inl rfl, hp⟩
   | nxt wo2 =>
    obtain ⟨rfl, hp⟩ := hp
    dsimp only at h
    refine blkE <| thenN <| hp.wp <| rs hU (f13_ci_ok _) rgIF <| Wp.ret <| ?_
    obtain rfl := sj h
    refine ⟨.inl rfl, ?_⟩
    refine Rt.of <| ?_
    have fx := i2 f13_res f13_rt
    exact rtI
noncomputable def f13_tbl : CI := tbl 13 (fun p : (List Token) × (List Token) => [.sl (List.map cToken p.1), .sl (List.map cToken p.2)]) (fun p => (f13 p.1 p.2).map fun r => .v (.bool r))
theorem f13_tbl_ok {base : Nat} : CIOK E base f13_tbl := tbl_okM fun p q h => f13_ok p.1 p.2 q h
theorem f13_call {a : List Token} {b : List Token} {r : Bool} (h : f13 a b = some r) (σ : Store) : f13_tbl 13 [.sl (List.map cToken a), .sl (List.map cToken b)] σ = some (.v (.bool r), σ, none) :=
 tbl_eq (x := (a, b)) (fun x y e => by
  obtain ⟨x0, x1⟩ := x; obtain ⟨y0, y1⟩ := y
  have e0 := av_sl injToken (List.cons.inj e).1
  have e1 := av_sl injToken (List.cons.inj (List.cons.inj e).2).1
  subst e0 e1; rfl) (by simp [h]) σ
/-- sibyl/sibylref04.Name -/
def f15 (s : Str) : Option (Bool) :=
 (f25 s >>= fun r2 =>
 if r2 = true then
  (some (decide ((s.length : Int) ≤ 32)))
 else
  some false : Option (Bool)) >>= fun o1 =>
 some o1
noncomputable def f15_ci : CI := (CI.or 25 f25_tbl (fun _ _ _ => none))
theorem f15_ci_ok (base : Nat) : CIOK E base f15_ci := (or_ok f25_tbl_ok no_ok)
theorem f15_res : Try.f15.results = #[.tmp 2] := rfl
theorem f15_rt : Try.f15.resultTypes = #[4] := rfl
theorem f15_ok (s : Str) (r : Bool) (h : f15 s = some r) : PureOK E 15 [.v (.string (mkS s))] (.v (.bool r)) := by
 unfold f15 at h
 refine pof (fn := Try.f15) (nt := 10) Try.func15 rfl rfl rfl rfl (fun _ => rfl) (fun base c00 hU => ?_)
 refine Wk.wp (s2 := ⟨.v (.string (mkS s)) :: jj 9 [], St [], none, 0⟩) ?_ ?_
 ·exact Wk.weak hU [] _ (by decide) .nil wvS
 refine rs hU (f15_ci_ok _) rgI <| ?_
 obtain ⟨o1, ho1, h⟩ := bind_some h
 refine Wp.seq1 (JP := (fun ex s1 => ex = .nrm ∧ Wk base c00 nilStore s1 ⟨jj 2 (.v (.bool o1) :: jj 7 []), St [], none, 0⟩)) ?_ (fun ex s1 hp => ?_)
 ·replace h := ho1
  obtain ⟨r2, hr2, h⟩ := bind_some h
  have hr2c := fun σ => show f15_ci 25 _ σ = _ from f25_call hr2 σ
  rcases Bool.eq_false_or_eq_true (r2) with hg3 | hg3
  ·rw [if_t hg3] at h
   have fx := i2 hr2c hg3
   refine rq hU (f15_ci_ok _) rgIF <| ?_
   obtain rfl := sj h
   refine ⟨rfl, ?_⟩
   exact Wk.weak hU [] _ (by decide) .nil wvI
  ·rw [if_f hg3] at h
   have fx := i2 hr2c hg3
   refine rq hU (f15_ci_ok _) rgIF <| ?_
   obtain rfl := sj h
   refine ⟨rfl, ?_⟩
   exact Wk.weak hU [] _ (by decide) .nil wvI
 ·obtain ⟨rfl, hp⟩ := hp
  refine thenN (hp.wp ?_)
  refine Wp.ret <| ?_
  obtain rfl := sj h
  refine ⟨.inl rfl, ?_⟩
  refine Rt.of <| ?_
  have fx := i2 f15_res f15_rt
  exact rtI
noncomputable def f15_tbl : CI := tbl 15 (fun p : Str => [.v (.string (mkS p))]) (fun p => (f15 p).map fun r => .v (.bool r))
theorem f15_tbl_ok {base : Nat} : CIOK E base f15_tbl := tbl_okM fun p q h => f15_ok p q h
theorem f15_call {s : Str} {r : Bool} (h : f15 s = some r) (σ : Store) : f15_tbl 15 [.v (.string (mkS s))] σ = some (.v (.bool r), σ, none) :=
 tbl_eq (x := (s)) (fun x y e => by
  exact av_str (List.cons.inj e).1) (by simp [h]) σ
end Go.Bx.Scan

/- Layer 04: which texts are names, in plain Lean. (Own text.) -/
namespace Go.Bx.Scan
set_option linter.unusedVariables false
set_option linter.unusedSimpArgs false
set_option linter.unusedSectionVars false
open Go.Proofs
set_option linter.unusedVariables false
set_option linter.unusedSimpArgs false

theorem w64 {x : Int} (h : -9223372036854775808 ≤ x) (h2 : x < 9223372036854775808) : IntKind.i64.wrap x = x := IntWalk.i64_in _ ⟨h, by omega⟩
theorem rd_nat {α : Type} {l : List α} {i : Nat} (h : i < l.length) : rd l (i : Int) = some l[i] := rd_of (by simp [-List.getElem_cons_drop, h])
theorem bind_ok {α β : Type} (x : α) (f : α → Option β) : ((some x) >>= f) = f x := rfl
theorem bt_nat {s : Str} {i : Nat} (h : i < s.length) : bt s (i : Int) = some (s[i].toNat : Int) := by unfold bt; rw [rd_nat h]; rfl
theorem toByte (b : UInt8) : ((b.toNat : Int)).toNat.toUInt8 = b := by simp

/-- Is a byte in a text. -/
theorem f19_eq (s : Str) (b : UInt8) : f19 s (b.toNat : Int) = some (Lib.indexByte s b) := by unfold f19; rw [toByte]
theorem in_byte (s : Str) (b : UInt8) (inst : Decidable (Lib.indexByte s b ≥ 0)) : @decide (Lib.indexByte s b ≥ 0) inst = s.contains b := by rw [Lib.contains_iff_indexByte s b]; congr
theorem d97 (b : UInt8) : decide ((b.toNat : Int) ≥ 97) = decide (97 ≤ b.toNat) := decide_eq_decide.2 (by omega)
theorem d122 (b : UInt8) : decide ((b.toNat : Int) ≤ 122) = decide (b.toNat ≤ 122) := decide_eq_decide.2 (by omega)
theorem d65 (b : UInt8) : decide ((b.toNat : Int) ≥ 65) = decide (65 ≤ b.toNat) := decide_eq_decide.2 (by omega)
theorem d90 (b : UInt8) : decide ((b.toNat : Int) ≤ 90) = decide (b.toNat ≤ 90) := decide_eq_decide.2 (by omega)
theorem f21_l0_eq (b : UInt8) (s : Str) (hl : s.length < 9223372036854775807) : ∀ (k i : Nat), i + k = s.length → f21_l0 (b.toNat : Int) s i = some (if (s.drop i).contains b then .ret true else .nxt ())
  | 0, i, hk => by
    rw [f21_l0, if_neg (by simp; omega), List.drop_of_length_le (by omega)]; rfl
  | k + 1, i, hk => by
    have h1 : i < s.length := by omega
    rw [f21_l0, if_pos (by simp; omega), bt_nat h1]
    simp only [bind_ok]
    rw [List.drop_eq_getElem_cons h1, w64 (by omega) (by omega), show ((i : Int) + 1) = ((i + 1 : Nat) : Int) by omega]
    by_cases he : s[i] = b
    · rw [if_pos (by simp [-List.getElem_cons_drop, he])]
      simp [-List.getElem_cons_drop, he]
    · have hne : ¬ ((s[i].toNat : Int) = (b.toNat : Int)) := fun h => he (UInt8.toNat_inj.1 (by omega))
      rw [if_neg (by simpa [-List.getElem_cons_drop] using hne), f21_l0_eq b s hl k (i + 1) (by omega)]
      have hbe : (b == s[i]) = false := beq_eq_false_iff_ne.2 (fun h => he h.symm)
      rw [List.contains_cons, hbe, Bool.false_or]
theorem f21_eq (b : UInt8) (s : Str) (hl : s.length < 9223372036854775807) : f21 (b.toNat : Int) s = some (s.contains b) := by
  unfold f21
  have := f21_l0_eq b s hl s.length 0 (by omega)
  rw [show ((0 : Nat) : Int) = 0 from rfl] at this
  rw [this]
  simp only [bind_ok, List.drop_zero]
  cases s.contains b <;> rfl

def starts : Str := [33, 36, 37, 38, 42, 47, 58, 60, 61, 62, 63, 94, 95, 126]
def others : Str := [48, 49, 50, 51, 52, 53, 54, 55, 56, 57, 43, 45, 46, 64]
/-- How a name may begin. -/
def beginsB (b : UInt8) : Bool := (decide (97 ≤ b.toNat) && decide (b.toNat ≤ 122)) || (decide (65 ≤ b.toNat) && decide (b.toNat ≤ 90)) || starts.contains b
theorem f37_eq (b : UInt8) : f37 (b.toNat : Int) = some (beginsB b) := by
  have h := f19_eq [33, 36, 37, 38, 42, 47, 58, 60, 61, 62, 63, 94, 95, 126] b
  unfold f37
  rw [h]
  simp only [bind_ok, in_byte, d97, d122, d65, d90]
  unfold beginsB starts
  generalize List.contains _ b = x
  cases decide (97 ≤ b.toNat) <;> cases decide (b.toNat ≤ 122) <;> cases decide (65 ≤ b.toNat) <;> cases decide (b.toNat ≤ 90) <;> cases x <;> rfl
theorem f38_eq (b : UInt8) : f38 (b.toNat : Int) = some (beginsB b) := by
  have h := f21_eq b [33, 36, 37, 38, 42, 47, 58, 60, 61, 62, 63, 94, 95, 126] (by decide)
  unfold f38
  rw [h]
  simp only [bind_ok, d97, d122, d65, d90]
  unfold beginsB starts
  generalize List.contains _ b = x
  cases decide (97 ≤ b.toNat) <;> cases decide (b.toNat ≤ 122) <;> cases decide (65 ≤ b.toNat) <;> cases decide (b.toNat ≤ 90) <;> cases x <;> rfl
def goesB (b : UInt8) : Bool := beginsB b || others.contains b
theorem f24_l0_eq (s : Str) (hl : s.length < 9223372036854775807) : ∀ (k i : Nat), i + k = s.length → f24_l0 s i = some (if (s.drop i).all goesB then .nxt () else .ret false)
  | 0, i, hk => by
    rw [f24_l0, if_neg (by simp; omega), List.drop_of_length_le (by omega)]; rfl
  | k + 1, i, hk => by
    have h1 : i < s.length := by omega
    rw [f24_l0, if_pos (by simp; omega), bt_nat h1]
    simp only [bind_ok, f37_eq]
    have hi := in_byte others s[i]
    rw [List.drop_eq_getElem_cons h1, w64 (by omega) (by omega), show ((i : Int) + 1) = ((i + 1 : Nat) : Int) by omega, List.all_cons]
    have ih := f24_l0_eq s hl k (i + 1) (by omega)
    have h19 := f19_eq others s[i]
    unfold others at hi h19
    cases hb : beginsB s[i] with
    | true => simp only [Bool.not_true, Bool.false_eq_true, if_false, bind_ok, ih, goesB, hb, Bool.true_or, Bool.true_and]
    | false =>
      simp only [Bool.not_false, if_true, h19, bind_ok, goesB, hb, Bool.false_or]
      unfold others
      rw [← hi inferInstance]
      by_cases hn : Lib.indexByte [48, 49, 50, 51, 52, 53, 54, 55, 56, 57, 43, 45, 46, 64] s[i] < 0
      · have : ¬ Lib.indexByte [48, 49, 50, 51, 52, 53, 54, 55, 56, 57, 43, 45, 46, 64] s[i] ≥ 0 := by omega
        simp only [hn, this, decide_true, decide_false, if_true, bind_ok, Bool.false_and, Bool.false_eq_true, if_false]
      · have : Lib.indexByte [48, 49, 50, 51, 52, 53, 54, 55, 56, 57, 43, 45, 46, 64] s[i] ≥ 0 := by omega
        simp only [hn, this, decide_true, decide_false, Bool.false_eq_true, if_false, bind_ok, Bool.true_and, ih]
theorem f25_l0_eq (s : Str) (hl : s.length < 9223372036854775807) : ∀ (k i : Nat), i + k = s.length → f25_l0 s i = some (if (s.drop i).all goesB then .nxt () else .ret false)
  | 0, i, hk => by
    rw [f25_l0, if_neg (by simp; omega), List.drop_of_length_le (by omega)]; rfl
  | k + 1, i, hk => by
    have h1 : i < s.length := by omega
    rw [f25_l0, if_pos (by simp; omega), bt_nat h1]
    simp only [bind_ok, f38_eq]
    rw [List.drop_eq_getElem_cons h1, w64 (by omega) (by omega), show ((i : Int) + 1) = ((i + 1 : Nat) : Int) by omega, List.all_cons]
    have ih := f25_l0_eq s hl k (i + 1) (by omega)
    have h21 := f21_eq s[i] others (by decide)
    unfold others at h21
    cases hb : beginsB s[i] with
    | true => simp only [Bool.not_true, Bool.false_eq_true, if_false, bind_ok, ih, goesB, hb, Bool.true_or, Bool.true_and]
    | false =>
      simp only [Bool.not_false, if_true, h21, bind_ok, goesB, hb, Bool.false_or]
      unfold others
      cases hc : List.contains [48, 49, 50, 51, 52, 53, 54, 55, 56, 57, 43, 45, 46, 64] s[i] with
      | true => simp only [Bool.not_true, Bool.false_eq_true, if_false, bind_ok, ih, Bool.true_and]
      | false => simp only [Bool.not_false, if_true, bind_ok, Bool.false_and, Bool.false_eq_true, if_false]
def shapeB (s : Str) : Bool := s == [43] || s == [45] || (match s with | [] => false | b :: r => beginsB b && r.all goesB)
theorem f24_eq (s : Str) (hl : s.length < 9223372036854775807) : f24 s = some (shapeB s) := by
  unfold f24 shapeB
  by_cases h1 : s = [43]
  · subst h1; rfl
  by_cases h2 : s = [45]
  · subst h2; rfl
  rw [if_neg (by simpa using h1), if_neg (by simpa using h2)]
  have e1 : (s == [43]) = false := beq_eq_false_iff_ne.2 h1
  have e2 : (s == [45]) = false := beq_eq_false_iff_ne.2 h2
  rw [e1, e2]
  cases s with
  | nil => rfl
  | cons b r =>
    rw [if_neg (by simp)]
    have hb := bt_nat (s := b :: r) (i := 0) (by simp)
    have ih := f24_l0_eq (b :: r) hl r.length 1 (by simp; omega)
    have hb : bt (b :: r) 0 = some (b.toNat : Int) := hb
    have ih : f24_l0 (b :: r) 1 = some (if r.all goesB then .nxt () else .ret false) := ih
    rw [hb]
    simp only [bind_ok, f37_eq, Bool.false_or]
    cases beginsB b with
    | false => rfl
    | true =>
      simp only [Bool.not_true, Bool.false_eq_true, if_false, ih, bind_ok, Bool.true_and]
      cases r.all goesB <;> rfl
theorem f25_eq (s : Str) (hl : s.length < 9223372036854775807) : f25 s = some (shapeB s) := by
  unfold f25 shapeB
  by_cases h1 : s = [43]
  · subst h1; rfl
  by_cases h2 : s = [45]
  · subst h2; rfl
  rw [if_neg (by simpa using h1), if_neg (by simpa using h2)]
  have e1 : (s == [43]) = false := beq_eq_false_iff_ne.2 h1
  have e2 : (s == [45]) = false := beq_eq_false_iff_ne.2 h2
  rw [e1, e2]
  cases s with
  | nil => rfl
  | cons b r =>
    rw [if_neg (by simp; omega)]
    have hb := bt_nat (s := b :: r) (i := 0) (by simp)
    have ih := f25_l0_eq (b :: r) hl r.length 1 (by simp; omega)
    have hb : bt (b :: r) 0 = some (b.toNat : Int) := hb
    have ih : f25_l0 (b :: r) 1 = some (if r.all goesB then .nxt () else .ret false) := ih
    rw [hb]
    simp only [bind_ok, f38_eq, Bool.false_or]
    cases beginsB b with
    | false => rfl
    | true =>
      simp only [Bool.not_true, Bool.false_eq_true, if_false, ih, bind_ok, Bool.true_and]
      cases r.all goesB <;> rfl
/-- Is a text a name. -/
def nameB (s : Str) : Bool := decide (s.length ≤ 32) && shapeB s
theorem f14_eq (s : Str) : f14 s = some (nameB s) := by
  unfold f14 nameB
  by_cases h : s.length ≤ 32
  · rw [if_pos (by simp; omega), f24_eq s (by omega)]; simp [bind_ok, h]
  · rw [if_neg (by simp; omega)]; simp [bind_ok, h]
theorem f15_eq (s : Str) (hl : s.length < 9223372036854775807) : f15 s = some (nameB s) := by
  unfold f15 nameB
  rw [f25_eq s hl]
  simp only [bind_ok]
  cases shapeB s <;> by_cases h : s.length ≤ 32 <;> simp [bind_ok, h] <;> omega
end Go.Bx.Scan

namespace Go.Bx.Scan
set_option linter.unusedVariables false
set_option linter.unusedSimpArgs false
set_option linter.unusedSectionVars false
open Go.Proofs
set_option linter.unusedSimpArgs false
set_option linter.unusedVariables false
set_option maxRecDepth 10000
set_option maxHeartbeats 4000000
/-- sibyl/sibylref04.Good -/
def f30 (t : Token) : Option (Bool) :=
 if (t.Text == [40]) = true then
  (some (t.Kind == 1))
 else
  if (t.Text == [41]) = true then
   (some (t.Kind == 2))
  else
   if (t.Text == [39]) = true then
    (some (t.Kind == 3))
   else
    if (decide ((t.Text.length : Int) > 4096)) = true then
     (some false)
    else
     f22 t.Text >>= fun r5 =>
     (if (r5.2.2 == 0) = true then
      (some (r5.1 == t.Kind))
     else
      some false : Option (Bool)) >>= fun o6 =>
     some o6
noncomputable def f30_ci : CI := (CI.or 22 f22_tbl (fun _ _ _ => none))
theorem f30_ci_ok (base : Nat) : CIOK E base f30_ci := (or_ok f22_tbl_ok no_ok)
theorem f30_res : Try.f30.results = #[.tmp 2] := rfl
theorem f30_rt : Try.f30.resultTypes = #[4] := rfl
theorem f30_ok (t : Token) (r : Bool) (h : f30 t = some r) : PureOK E 30 [.agg [.v (.int .i64 t.Kind), .v (.string (mkS t.Text)), .v (.bool t.N.Neg), .sl (List.map (cInt .u32) t.N.Num), .sl (List.map (cInt .u32) t.N.Den), .v (.int .i64 t.At)]] (.v (.bool r)) := by
 unfold f30 at h
 refine pof (fn := Try.f30) (nt := 43) Try.func30 rfl rfl rfl rfl (fun _ => rfl) (fun base c00 hU => ?_)
 refine Wk.wp (s2 := ⟨.agg [.v (.int .i64 t.Kind), .v (.string (mkS t.Text)), .v (.bool t.N.Neg), .sl (List.map (cInt .u32) t.N.Num), .sl (List.map (cInt .u32) t.N.Den), .v (.int .i64 t.At)] :: jj 42 [], St [], none, 0⟩) ?_ ?_
 ·exact Wk.weak hU [] _ (by decide) .nil wvS
 refine rs hU (f30_ci_ok _) rgI <| Wp.seq <| rs hU (f30_ci_ok _) rgI <| ?_
 refine Wp.cond hU (t := t.Text == [40]) rfl (fun hc1 => ?_) (fun hc1 => ?_)
 ·rw [if_t hc1] at h
  refine Wp.seq <| ?_
  have fx := hc1
  refine rq hU (f30_ci_ok _) rgIF <| thenN <| Wp.ret <| thenR <| ?_
  obtain rfl := sj h
  refine ⟨.inl rfl, ?_⟩
  refine Rt.of <| ?_
  have fx := i2 f30_res f30_rt
  exact rtI
 ·rw [if_f hc1] at h
  refine Wp.skip <| thenN <| Wp.seq <| Wp.seq <| ?_
  have fx := hc1
  refine rq hU (f30_ci_ok _) rgIF <| thenN <| ?_
  refine Wp.cond hU (t := t.Text == [41]) rfl (fun hc2 => ?_) (fun hc2 => ?_)
  ·rw [if_t hc2] at h
   refine Wp.seq <| ?_
   have fx := i2 hc1 hc2
   refine rq hU (f30_ci_ok _) rgIF <| thenN <| Wp.ret <| thenR <| ?_
   obtain rfl := sj h
   refine ⟨.inl rfl, ?_⟩
   refine Rt.of <| ?_
   have fx := i2 f30_res f30_rt
   exact rtI
  ·rw [if_f hc2] at h
   refine Wp.skip <| thenN <| Wp.seq <| Wp.seq <| ?_
   have fx := i2 hc1 hc2
   refine rq hU (f30_ci_ok _) rgIF <| thenN <| ?_
   refine Wp.cond hU (t := t.Text == [39]) rfl (fun hc3 => ?_) (fun hc3 => ?_)
   ·rw [if_t hc3] at h
    refine Wp.seq <| ?_
    have fx := i3 hc1 hc2 hc3
    refine rq hU (f30_ci_ok _) rgIF <| thenN <| Wp.ret <| thenR <| ?_
    obtain rfl := sj h
    refine ⟨.inl rfl, ?_⟩
    refine Rt.of <| ?_
    have fx := i2 f30_res f30_rt
    exact rtI
   ·rw [if_f hc3] at h
    refine Wp.skip <| thenN <| Wp.seq <| Wp.seq <| ?_
    have fx := i3 hc1 hc2 hc3
    refine rq hU (f30_ci_ok _) rgIF <| thenN <| ?_
    refine Wp.cond hU (t := decide ((t.Text.length : Int) > 4096)) rfl (fun hc4 => ?_) (fun hc4 => ?_)
    ·rw [if_t hc4] at h
     refine Wp.seq <| ?_
     have fx := i4 hc1 hc2 hc3 hc4
     refine rq hU (f30_ci_ok _) rgIF <| thenN <| Wp.ret <| thenR <| ?_
     obtain rfl := sj h
     refine ⟨.inl rfl, ?_⟩
     refine Rt.of <| ?_
     have fx := i2 f30_res f30_rt
     exact rtI
    ·rw [if_f hc4] at h
     refine Wp.skip <| thenN <| Wp.seq <| ?_
     obtain ⟨r5, hr5, h⟩ := bind_some h
     have hr5c := fun σ => show f30_ci 22 _ σ = _ from f22_call hr5 σ
     have fx := i5 hr5c hc1 hc2 hc3 hc4
     refine rq hU (f30_ci_ok _) rgIF <| thenN <| ?_
     obtain ⟨o6, ho6, h⟩ := bind_some h
     refine Wp.seq1 (JP := (fun ex s1 => ex = .nrm ∧ Wk base c00 nilStore s1 ⟨jj 2 (.v (.bool o6) :: jj 40 []), St [], none, 0⟩)) ?_ (fun ex s1 hp => ?_)
     ·replace h := ho6
      rcases Bool.eq_false_or_eq_true (r5.2.2 == 0) with hg3 | hg3
      ·rw [if_t hg3] at h
       have fx := i5 hc1 hc2 hc3 hc4 hg3
       refine rq hU (f30_ci_ok _) rgIF <| ?_
       obtain rfl := sj h
       refine ⟨rfl, ?_⟩
       exact Wk.weak hU [] _ (by decide) .nil wvI
      ·rw [if_f hg3] at h
       have fx := i5 hc1 hc2 hc3 hc4 hg3
       refine rq hU (f30_ci_ok _) rgIF <| ?_
       obtain rfl := sj h
       refine ⟨rfl, ?_⟩
       exact Wk.weak hU [] _ (by decide) .nil wvI
     ·obtain ⟨rfl, hp⟩ := hp
      refine thenN (hp.wp ?_)
      refine Wp.ret <| ?_
      obtain rfl := sj h
      refine ⟨.inl rfl, ?_⟩
      refine Rt.of <| ?_
      have fx := i2 f30_res f30_rt
      exact rtI
noncomputable def f30_tbl : CI := tbl 30 (fun p : Token => [.agg [.v (.int .i64 p.Kind), .v (.string (mkS p.Text)), .v (.bool p.N.Neg), .sl (List.map (cInt .u32) p.N.Num), .sl (List.map (cInt .u32) p.N.Den), .v (.int .i64 p.At)]]) (fun p => (f30 p).map fun r => .v (.bool r))
theorem f30_tbl_ok {base : Nat} : CIOK E base f30_tbl := tbl_okM fun p q h => f30_ok p q h
theorem f30_call {t : Token} {r : Bool} (h : f30 t = some r) (σ : Store) : f30_tbl 30 [.agg [.v (.int .i64 t.Kind), .v (.string (mkS t.Text)), .v (.bool t.N.Neg), .sl (List.map (cInt .u32) t.N.Num), .sl (List.map (cInt .u32) t.N.Den), .v (.int .i64 t.At)]] σ = some (.v (.bool r), σ, none) :=
 tbl_eq (x := (t)) (fun x y e => by
  exact av_agg injToken (List.cons.inj e).1) (by simp [h]) σ
end Go.Bx.Scan

/- Layer 04: from the given statements to the contracts: what all laws share. (Own text.) -/
namespace Go.Bx.Scan
set_option linter.unusedVariables false
set_option linter.unusedSimpArgs false
set_option linter.unusedSectionVars false
open Go.Proofs Go.Proofs.Ytgnhnfaojpjieaa
open Go.ChangeShapes Go.WideShapes Go.ChangeAt Go.RowKit
set_option linter.unusedVariables false
theorem own_ : ownKnob Try.prog.godebug = none := by kernel_rfl
theorem laidOut : laidOutB Try.prog = true := by kernel_rfl
theorem shape_limbs {H : Type} {n : Nat} {xs : Cs} {d : DataW H} (h : Shape tab (n + 2) 36 xs d) : ∃ l : List Int, xs = [.sl (l.map (cInt .u32))] ∧ l.length * 4 ≤ reachBytes := by
  obtain ⟨l, h1, h2, _⟩ := shape_slice (T := tab) (t := 36) (e := 42) rfl tab42 (cInt .u32) (fun _ => True) (fun ys y hy => by
    obtain ⟨z, hz, _⟩ := shape_int (T := tab) (t := 42) (k := .u32) rfl hy; exact ⟨z, hz, trivial⟩) h
  exact ⟨l, h1, h2⟩
theorem shape_ratio {H : Type} {n : Nat} {xs : Cs} {d : DataW H} (h : Shape tab (n + 3) 38 xs d) : ∃ x : Ratio, xs = cRatio x := by
  obtain ⟨ds, h⟩ := shape_struct (T := tab) (t := 38) (fs := [(0, 4), (1, 36), (2, 36)]) rfl h
  obtain ⟨p, q, d0, r, rfl, s0, h⟩ := shapeF_cons h
  obtain ⟨p1, q1, d1, r1, rfl, s1, h⟩ := shapeF_cons h
  obtain ⟨p2, q2, d2, r2, rfl, s2, h⟩ := shapeF_cons h
  obtain rfl := shapeF_nil h
  obtain ⟨k, rfl⟩ := shape_bool (T := tab) (t := 4) rfl s0
  obtain ⟨l, rfl, hl⟩ := shape_limbs s1
  obtain ⟨m, rfl, hm⟩ := shape_limbs s2
  exact ⟨⟨k, l, m⟩, rfl⟩
theorem shape_token {H : Type} {n : Nat} {xs : Cs} {d : DataW H} (h : Shape tab (n + 4) 40 xs d) : ∃ x : Token, xs = cToken x ∧ x.Text.length ≤ reachBytes := by
  obtain ⟨ds, h⟩ := shape_struct (T := tab) (t := 40) (fs := [(0, 3), (1, 9), (2, 38), (5, 3)]) rfl h
  obtain ⟨p, q, d0, r, rfl, s0, h⟩ := shapeF_cons h
  obtain ⟨p1, q1, d1, r1, rfl, s1, h⟩ := shapeF_cons h
  obtain ⟨p2, q2, d2, r2, rfl, s2, h⟩ := shapeF_cons h
  obtain ⟨p3, q3, d3, r3, rfl, s3, h⟩ := shapeF_cons h
  obtain rfl := shapeF_nil h
  obtain ⟨k, rfl, _⟩ := shape_int (T := tab) (t := 3) (k := .i64) rfl s0
  obtain ⟨l, rfl, hl⟩ := shape_str (T := tab) (t := 9) rfl s1
  obtain ⟨m, rfl⟩ := shape_ratio s2
  obtain ⟨a, rfl, _⟩ := shape_int (T := tab) (t := 3) (k := .i64) rfl s3
  exact ⟨⟨k, l, m, a⟩, rfl, hl⟩
theorem shape_tokens {H : Type} {xs : Cs} {d : DataW H} (h : Shape tab 8 23 xs d) : ∃ l : List Token, xs = [.sl (l.map cToken)] ∧ l.length * 88 ≤ reachBytes ∧ ∀ t ∈ l, t.Text.length ≤ reachBytes := by
  obtain ⟨l, h1, h2, h3⟩ := shape_slice (T := tab) (t := 23) (e := 40) rfl tab40 cToken (fun f => f.Text.length ≤ reachBytes) (fun ys y hy => shape_token hy) h
  exact ⟨l, h1, h2, h3⟩
end Go.Bx.Scan
