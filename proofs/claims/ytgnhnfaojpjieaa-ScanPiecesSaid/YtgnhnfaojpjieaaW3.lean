/- What the program's functions compute, shown of their code (W3). Own text; parts are printed by a program of this claim's author. -/
import Derived.Test.YtgnhnfaojpjieaaV0
import Derived.Test.YtgnhnfaojpjieaaW2
namespace Go.Bx.Scan
set_option linter.unusedVariables false
set_option linter.unusedSimpArgs false
set_option linter.unusedSectionVars false
open Go.Proofs
set_option linter.unusedSimpArgs false
set_option linter.unusedVariables false
set_option maxRecDepth 10000
set_option maxHeartbeats 4000000
-- theorem f53_ok (c : Int) (r : Int) (h : f53 c = some r) : PureOK E 53 [.v (.int .u8 c)] (.v (.int .i64 r))
noncomputable def f53_tbl : CI := tbl 53 (fun p : Int => [.v (.int .u8 p)]) (fun p => (f53 p).map fun r => .v (.int .i64 r))
theorem f53_tbl_ok {base : Nat} : CIOK E base f53_tbl := tbl_okM fun p q h => f53_ok p q h
theorem f53_call {c : Int} {r : Int} (h : f53 c = some r) (σ : Store) : f53_tbl 53 [.v (.int .u8 c)] σ = some (.v (.int .i64 r), σ, none) :=
 tbl_eq (x := (c)) (fun x y e => by
  exact av_int (List.cons.inj e).1) (by simp [h]) σ
def f54_l0 (s : Str) (out : List Int) (i : Int) : Option ((List Int) × Int) :=
 if (decide (i < (s.length : Int))) = true then
  (bt s i >>= fun b2 =>
  f53 b2 >>= fun r3 =>
  if (r3 == 2) = true then
   ((bt s i >>= fun b6 =>
   if (decide ((IntKind.u8.wrap (b6 - 48)) > 0)) = true then
    (f61 out (IntKind.u32.wrap (IntKind.u8.wrap (b6 - 48))) >>= fun r7 =>
    some r7)
   else
    if (decide ((out.length : Int) > 0)) = true then
     (f61 out (IntKind.u32.wrap (IntKind.u8.wrap (b6 - 48))) >>= fun r8 =>
     some r8)
    else
     some out : Option ((List Int))) >>= fun o5 =>
   f54_l0 s o5 (IntKind.i64.wrap (i + 1)))
  else
   some (out, i))
 else
  some (out, i)
 partial_fixpoint
/-- sibyl/ratio.natDigits -/
def f54 (s : Str) (at_ : Int) : Option ((List Int) × Int × Bool) :=
 f54_l0 s [] at_ >>= fun o1 =>
 some (o1.1, o1.2, decide (o1.2 > at_))
noncomputable def f54_ci : CI := (CI.or 53 f53_tbl (fun _ _ _ => none))
theorem f54_ci_ok (base : Nat) : CIOK E base f54_ci := (or_ok f53_tbl_ok no_ok)
theorem f54_res : Try.f54.results = #[.tmp 4, .tmp 5, .tmp 6] := rfl
theorem f54_rt : Try.f54.resultTypes = #[36, 3, 4] := rfl
theorem f54_l0_ok {base : Nat} {c00 : Ctx} (s : Str) (at_ : Int) (hU : Under E base c00 nilStore) : ∀ (out : List Int) (i : Int) (o1 : (List Int) × Int), f54_l0 s out i = some o1 →
  WpL E base c00 nilStore (lb Try.f54 0) ⟨.v (.string (mkS s)) :: .v (.int .i64 at_) :: jj 5 (.row 0 1 0 ((out).length) :: .v (.int .i64 i) :: jj 35 []), St [some ⟨1, false, true, List.map (cInt .u32) out⟩], none, 0⟩ (fun ex s1 => ex = .exit 0 ∧ Wk base c00 nilStore s1 ⟨jj 1 (.v (.int .i64 at_) :: jj 5 (.row 0 1 0 ((o1.1).length) :: .v (.int .i64 o1.2) :: jj 35 [])), St [some ⟨1, false, true, List.map (cInt .u32) o1.1⟩], none, 0⟩) := by
 refine f54_l0.partial_correctness s _ ?_
 intro lp__ ih out i o1 h
 refine WpL.stepE (lbI Try.f54.eq_1) ?_
 refine Wp.seq <| Wp.seq <| ?_
 rcases Bool.eq_false_or_eq_true (decide (i < (s.length : Int))) with hg76 | hg76
 ·rw [if_t hg76] at h
  obtain ⟨b2, hb2, h⟩ := bind_some h
  obtain ⟨r3, hr3, h⟩ := bind_some h
  have hr3c := fun σ => show f54_ci 53 _ σ = _ from f53_call hr3 σ
  have fx := i3 hb2 hr3c hg76
  refine rq hU (f54_ci_ok _) rgIF <| thenN <| ?_
  refine Wp.cond hU (t := r3 == 2) rfl (fun hc4 => ?_) (fun hc4 => ?_)
  ·rw [if_t hc4] at h
   refine Wp.skip <| thenN <| ?_
   obtain ⟨o5, ho5, h⟩ := bind_some h
   refine Wp.seq1 (JP := (fun ex s1 => ex = .nrm ∧ Wk base c00 nilStore s1 ⟨.v (.string (mkS s)) :: .v (.int .i64 at_) :: jj 5 (.row 0 1 0 ((o5).length) :: .v (.int .i64 i) :: jj 35 []), St [some ⟨1, false, true, List.map (cInt .u32) o5⟩], none, 0⟩)) ?_ (fun ex s1 hp => ?_)
   ·replace h := ho5
    refine Wp.block <| Wp.seq <| ?_
    obtain ⟨b6, hb6, h⟩ := bind_some h
    have fx := i3 hb6 hg76 hc4
    refine rq hU (f54_ci_ok _) rgIF <| thenN <| Wp.seq <| ?_
    rcases Bool.eq_false_or_eq_true (decide ((IntKind.u8.wrap (b6 - 48)) > 0)) with hg80 | hg80
    ·rw [if_t hg80] at h
     have fx := i3 hg76 hc4 hg80
     refine rq hU (f54_ci_ok _) rgIF <| thenN <| ?_
     refine Wp.cond hU (t := true) rfl (fun _ => ?_) (fun hc => by cases hc)
     obtain ⟨r7, hr7, h⟩ := bind_some h
     have hr7c : CallOK E base 61 [.row 0 1 0 ((out).length), .v (.int .u32 (IntKind.u32.wrap (IntKind.u8.wrap (b6 - 48))))] (St [some ⟨1, false, true, List.map (cInt .u32) out⟩]) (.row 1 1 0 ((r7).length)) (St [none, some ⟨1, false, true, List.map (cInt .u32) r7⟩]) (some 0) := (f61_ok out (IntKind.u32.wrap (IntKind.u8.wrap (b6 - 48))) r7 hr7).at [0] 0 rfl ⟨rfl, trivial⟩ rfl rfl rfl
     refine rq hU (rone_ok hr7c (f54_ci_ok _)) rgIF <| blkN <| ?_
     obtain rfl := sj h
     refine ⟨rfl, ?_⟩
     exact Wk.weak hU [some 1] _ (by decide) wsI wvI
    ·rw [if_f hg80] at h
     have fx := i3 hg76 hc4 hg80
     refine rq hU (f54_ci_ok _) rgIF <| thenN <| ?_
     refine Wp.cond hU (t := decide ((out.length : Int) > 0)) rfl (fun hc7 => ?_) (fun hc7 => ?_)
     ·rw [if_t hc7] at h
      obtain ⟨r8, hr8, h⟩ := bind_some h
      have hr8c : CallOK E base 61 [.row 0 1 0 ((out).length), .v (.int .u32 (IntKind.u32.wrap (IntKind.u8.wrap (b6 - 48))))] (St [some ⟨1, false, true, List.map (cInt .u32) out⟩]) (.row 1 1 0 ((r8).length)) (St [none, some ⟨1, false, true, List.map (cInt .u32) r8⟩]) (some 0) := (f61_ok out (IntKind.u32.wrap (IntKind.u8.wrap (b6 - 48))) r8 hr8).at [0] 0 rfl ⟨rfl, trivial⟩ rfl rfl rfl
      have fx := i4 hg76 hc4 hg80 hc7
      refine rq hU (rone_ok hr8c (f54_ci_ok _)) rgIF <| blkN <| ?_
      obtain rfl := sj h
      refine ⟨rfl, ?_⟩
      exact Wk.weak hU [some 1] _ (by decide) wsI wvI
     ·rw [if_f hc7] at h
      refine Wp.skip <| blkN <| ?_
      obtain rfl := sj h
      refine ⟨rfl, ?_⟩
      exact Wk.weak hU [some 0] _ (by decide) wsI wvI
   ·obtain ⟨rfl, hp⟩ := hp
    refine thenN (hp.wp ?_)
    have fx := i2 hg76 hc4
    refine rq hU (f54_ci_ok _) rgIF <| againN <| ?_
    refine Wk.wpL ?_ (ih o5 (IntKind.i64.wrap (i + 1)) _ h)
    exact Wk.weak hU [some 0] _ (by decide) wsI wvI
  ·rw [if_f hc4] at h
   refine Wp.exit <| thenE <| againE <| ?_
   obtain rfl := sj h
   refine ⟨rfl, ?_⟩
   exact Wk.weak hU [some 0] _ (by decide) wsI wvI
 ·rw [if_f hg76] at h
  have fx := hg76
  refine rq hU (f54_ci_ok _) rgIF <| thenN <| ?_
  refine Wp.cond hU (t := false) rfl (fun hc => by cases hc) (fun _ => ?_)
  refine Wp.exit <| thenE <| againE <| ?_
  obtain rfl := sj h
  refine ⟨rfl, ?_⟩
  exact Wk.weak hU [some 0] _ (by decide) wsI wvI
theorem f54_ok (s : Str) (at_ : Int) (r : (List Int) × Int × Bool) (h : f54 s at_ = some r) : PureOK E 54 [.v (.string (mkS s)), .v (.int .i64 at_)] (.tup [.own false 1 (List.map (cInt .u32) r.1), .v (.int .i64 r.2.1), .v (.bool r.2.2)]) := by
 unfold f54 at h
 refine pof (fn := Try.f54) (nt := 44) Try.func54 rfl rfl rfl rfl (fun _ => rfl) (fun base c00 hU => ?_)
 refine Wk.wp (s2 := ⟨.v (.string (mkS s)) :: .v (.int .i64 at_) :: jj 42 [], St [], none, 0⟩) ?_ ?_
 ·exact Wk.weak hU [] _ (by decide) .nil wvS
 refine rs hU (f54_ci_ok _) rgI <| rs hU (f54_ci_ok _) rgI <| rs hU (f54_ci_ok _) rgI <| Wp.seq <| Wp.block <| ?_
 obtain ⟨o1, ho1, h⟩ := bind_some h
 refine Wp.loop <| ?_
 refine Tw.mono (Wk.wpL (s2 := ⟨.v (.string (mkS s)) :: .v (.int .i64 at_) :: jj 5 (.row 0 1 0 (0) :: .v (.int .i64 at_) :: jj 35 []), St [some ⟨1, false, true, List.map (cInt .u32) []⟩], none, 0⟩) ?_ (f54_l0_ok s at_ hU [] at_ o1 ho1)) (fun ex s1 hp => ?_)
 ·exact Wk.weak hU [none] _ (by decide) wsI wvI
 ·obtain ⟨rfl, hp⟩ := hp
  refine blkE <| thenN <| hp.wp <| rs hU (f54_ci_ok _) rgI <| Wp.ret <| ?_
  obtain rfl := sj h
  refine ⟨.inl rfl, ?_⟩
  refine Rt.of <| ?_
  have fx := i2 f54_res f54_rt
  exact rtI
noncomputable def f54_tbl : CI := tbl 54 (fun p : Str × Int => [.v (.string (mkS p.1)), .v (.int .i64 p.2)]) (fun p => (f54 p.1 p.2).map fun r => .tup [.own false 1 (List.map (cInt .u32) r.1), .v (.int .i64 r.2.1), .v (.bool r.2.2)])
theorem f54_tbl_ok {base : Nat} : CIOK E base f54_tbl := tbl_okM fun p q h => f54_ok p.1 p.2 q h
theorem f54_call {s : Str} {at_ : Int} {r : (List Int) × Int × Bool} (h : f54 s at_ = some r) (σ : Store) : f54_tbl 54 [.v (.string (mkS s)), .v (.int .i64 at_)] σ = some (.tup [.own false 1 (List.map (cInt .u32) r.1), .v (.int .i64 r.2.1), .v (.bool r.2.2)], σ, none) :=
 tbl_eq (x := (s, at_)) (fun x y e => by
  obtain ⟨x0, x1⟩ := x; obtain ⟨y0, y1⟩ := y
  have e0 := av_str (List.cons.inj e).1
  have e1 := av_int (List.cons.inj (List.cons.inj e).2).1
  subst e0 e1; rfl) (by simp [h]) σ
/-- sibyl/ratio.Read -/
def f45 (s : Str) : Option (Ratio × Int) :=
 if (decide ((s.length : Int) > 4096)) = true then
  (some ((⟨false, [], []⟩ : Ratio), 3))
 else
  (if (s != []) = true then
   (bt s 0 >>= fun b3 =>
   f53 b3 >>= fun r4 =>
   if (r4 == 1) = true then
    (bt s 0 >>= fun b6 =>
    some (b6 == 45, 1))
   else
    some (false, 0))
  else
   some (false, 0) : Option (Bool × Int)) >>= fun o2 =>
  f54 s o2.2 >>= fun r3 =>
  if (!r3.2.2) = true then
   (some ((⟨false, [], []⟩ : Ratio), 21))
  else
   if (decide (r3.2.1 < (s.length : Int))) = true then
    (bt s r3.2.1 >>= fun b6 =>
    f53 b6 >>= fun r7 =>
    if (r7 != 3) = true then
     (some ((⟨false, [], []⟩ : Ratio), 21))
    else
     f54 s (IntKind.i64.wrap (r3.2.1 + 1)) >>= fun r9 =>
     if (!r9.2.2) = true then
      (some ((⟨false, [], []⟩ : Ratio), 21))
     else
      if (decide (r9.2.1 < (s.length : Int))) = true then
       (some ((⟨false, [], []⟩ : Ratio), 21))
      else
       if ((r9.1.length : Int) == 0) = true then
        (some ((⟨false, [], []⟩ : Ratio), 21))
       else
        f55 o2.1 r3.1 r9.1 >>= fun r11 =>
        some ((⟨r11.1.Neg, r11.1.Num, r11.1.Den⟩ : Ratio), r11.2))
   else
    f55 o2.1 r3.1 [1] >>= fun r12 =>
    some ((⟨r12.1.Neg, r12.1.Num, r12.1.Den⟩ : Ratio), r12.2)
noncomputable def f45_ci : CI := (CI.or 53 f53_tbl (CI.or 54 f54_tbl (CI.or 55 f55_tbl (fun _ _ _ => none))))
theorem f45_ci_ok (base : Nat) : CIOK E base f45_ci := (or_ok f53_tbl_ok (or_ok f54_tbl_ok (or_ok f55_tbl_ok no_ok)))
theorem f45_res : Try.f45.results = #[.cell 2 38, .tmp 3] := rfl
theorem f45_rt : Try.f45.resultTypes = #[38, 24] := rfl
theorem f45_ok (s : Str) (r : Ratio × Int) (h : f45 s = some r) : PureOK E 45 [.v (.string (mkS s))] (.tup [.agg [.v (.bool r.1.Neg), .sl (List.map (cInt .u32) r.1.Num), .sl (List.map (cInt .u32) r.1.Den)], .v (.int .i64 r.2)]) := by
 unfold f45 at h
 refine pof (fn := Try.f45) (nt := 74) Try.func45 rfl rfl rfl rfl (fun _ => rfl) (fun base c00 hU => ?_)
 refine Wk.wp (s2 := ⟨.v (.string (mkS s)) :: jj 73 [], St [], none, 0⟩) ?_ ?_
 ·exact Wk.weak hU [] _ (by decide) .nil wvS
 refine rs hU (f45_ci_ok _) rgI <| Wp.seq <| rs hU (f45_ci_ok _) rgI <| ?_
 refine Wp.cond hU (t := decide ((s.length : Int) > 4096)) rfl (fun hc1 => ?_) (fun hc1 => ?_)
 ·rw [if_t hc1] at h
  refine Wp.seq <| ?_
  have fx := hc1
  refine rq hU (f45_ci_ok _) rgIF <| thenN <| Wp.ret <| thenR <| ?_
  obtain rfl := sj h
  refine ⟨.inl rfl, ?_⟩
  refine Rt.wk (s2 := ⟨jj 2 (.ptr 0 0 0 :: .v (.int .i64 3) :: jj 70 []), St [some ⟨3, false, false, [[.v (.bool false), .sl (List.map (cInt .u32) []), .sl (List.map (cInt .u32) [])]]⟩], none, 0⟩) ?_ (Rt.of ?_)
  ·exact Wk.weak hU [some 0] _ (by decide) wsI wvI
  have fx := i2 f45_res f45_rt
  exact rtI
 ·rw [if_f hc1] at h
  refine Wp.skip <| thenN <| Wp.seq <| ?_
  have fx := hc1
  refine rq hU (f45_ci_ok _) rgIF <| thenN <| ?_
  obtain ⟨o2, ho2, h⟩ := bind_some h
  refine Wp.seq1 (JP := (fun ex s1 => ex = .nrm ∧ Wk base c00 nilStore s1 ⟨.v (.string (mkS s)) :: jj 1 (.ptr 0 0 0 :: jj 1 (.v (.bool o2.1) :: .v (.int .i64 o2.2) :: jj 68 [])), St [some ⟨3, false, false, [[.v (.bool false), .v (.slice none 0 0), .v (.slice none 0 0)]]⟩], none, 0⟩)) ?_ (fun ex s1 hp => ?_)
  ·replace h := ho2
   refine Wp.seq <| ?_
   rcases Bool.eq_false_or_eq_true (s != []) with hg10 | hg10
   ·rw [if_t hg10] at h
    obtain ⟨b3, hb3, h⟩ := bind_some h
    obtain ⟨r4, hr4, h⟩ := bind_some h
    have hr4c := fun σ => show f45_ci 53 _ σ = _ from f53_call hr4 σ
    have fx := i4 hb3 hr4c hc1 hg10
    refine rq hU (f45_ci_ok _) rgIF <| thenN <| ?_
    refine Wp.cond hU (t := r4 == 1) rfl (fun hc5 => ?_) (fun hc5 => ?_)
    ·rw [if_t hc5] at h
     obtain ⟨b6, hb6, h⟩ := bind_some h
     have fx := i4 hb6 hc1 hg10 hc5
     refine rq hU (f45_ci_ok _) rgIF <| ?_
     obtain rfl := sj h
     refine ⟨rfl, ?_⟩
     exact Wk.weak hU [some 0] _ (by decide) wsI wvI
    ·rw [if_f hc5] at h
     refine Wp.skip <| ?_
     obtain rfl := sj h
     refine ⟨rfl, ?_⟩
     exact Wk.weak hU [some 0] _ (by decide) wsI wvI
   ·rw [if_f hg10] at h
    have fx := i2 hc1 hg10
    refine rq hU (f45_ci_ok _) rgIF <| thenN <| ?_
    refine Wp.cond hU (t := false) rfl (fun hc => by cases hc) (fun _ => ?_)
    refine Wp.skip <| ?_
    obtain rfl := sj h
    refine ⟨rfl, ?_⟩
    exact Wk.weak hU [some 0] _ (by decide) wsI wvI
  ·obtain ⟨rfl, hp⟩ := hp
   refine thenN (hp.wp ?_)
   refine Wp.seq <| ?_
   obtain ⟨r3, hr3, h⟩ := bind_some h
   have hr3c := fun σ => show f45_ci 54 _ σ = _ from f54_call hr3 σ
   have fx := i2 hr3c hc1
   refine rq hU (f45_ci_ok _) rgIF <| thenN <| Wp.seq <| Wp.seq <| ?_
   have fx := hc1
   refine rq hU (f45_ci_ok _) rgIF <| thenN <| ?_
   refine Wp.cond hU (t := !r3.2.2) rfl (fun hc4 => ?_) (fun hc4 => ?_)
   ·rw [if_t hc4] at h
    refine Wp.seq <| ?_
    have fx := i2 hc1 hc4
    refine rq hU (f45_ci_ok _) rgIF <| thenN <| Wp.ret <| thenR <| ?_
    obtain rfl := sj h
    refine ⟨.inl rfl, ?_⟩
    refine Rt.wk (s2 := ⟨jj 2 (.ptr 0 0 0 :: .v (.int .i64 21) :: jj 70 []), St [some ⟨3, false, false, [[.v (.bool false), .sl (List.map (cInt .u32) []), .sl (List.map (cInt .u32) [])]]⟩], none, 0⟩) ?_ (Rt.of ?_)
    ·exact Wk.weak hU [some 0] _ (by decide) wsI wvI
    have fx := i2 f45_res f45_rt
    exact rtI
   ·rw [if_f hc4] at h
    refine Wp.skip <| thenN <| Wp.seq <| ?_
    have fx := i2 hc1 hc4
    refine rq hU (f45_ci_ok _) rgIF <| thenN <| Wp.seq <| rs hU (f45_ci_ok _) rgIF <| ?_
    refine Wp.cond hU (t := decide (r3.2.1 < (s.length : Int))) rfl (fun hc5 => ?_) (fun hc5 => ?_)
    ·rw [if_t hc5] at h
     refine Wp.seq <| Wp.seq <| ?_
     obtain ⟨b6, hb6, h⟩ := bind_some h
     obtain ⟨r7, hr7, h⟩ := bind_some h
     have hr7c := fun σ => show f45_ci 53 _ σ = _ from f53_call hr7 σ
     have fx := i5 hb6 hr7c hc1 hc4 hc5
     refine rq hU (f45_ci_ok _) rgIF <| thenN <| ?_
     refine Wp.cond hU (t := r7 != 3) rfl (fun hc8 => ?_) (fun hc8 => ?_)
     ·rw [if_t hc8] at h
      refine Wp.seq <| ?_
      have fx := i4 hc1 hc4 hc5 hc8
      refine rq hU (f45_ci_ok _) rgIF <| thenN <| Wp.ret <| thenR <| thenR <| ?_
      obtain rfl := sj h
      refine ⟨.inl rfl, ?_⟩
      refine Rt.wk (s2 := ⟨jj 2 (.ptr 0 0 0 :: .v (.int .i64 21) :: jj 70 []), St [some ⟨3, false, false, [[.v (.bool false), .sl (List.map (cInt .u32) []), .sl (List.map (cInt .u32) [])]]⟩], none, 0⟩) ?_ (Rt.of ?_)
      ·exact Wk.weak hU [some 0] _ (by decide) wsI wvI
      have fx := i2 f45_res f45_rt
      exact rtI
     ·rw [if_f hc8] at h
      refine Wp.skip <| thenN <| Wp.seq <| ?_
      obtain ⟨r9, hr9, h⟩ := bind_some h
      have hr9c := fun σ => show f45_ci 54 _ σ = _ from f54_call hr9 σ
      have fx := i5 hr9c hc1 hc4 hc5 hc8
      refine rq hU (f45_ci_ok _) rgIF <| thenN <| Wp.seq <| ?_
      rcases Bool.eq_false_or_eq_true (!r9.2.2) with hg13 | hg13
      ·rw [if_t hg13] at h
       have fx := i5 hc1 hc4 hc5 hc8 hg13
       refine rq hU (f45_ci_ok _) rgIF <| thenN <| ?_
       refine Wp.cond hU (t := true) rfl (fun _ => ?_) (fun hc => by cases hc)
       refine rs hU (f45_ci_ok _) rgIF <| Wp.ret <| thenR <| ?_
       obtain rfl := sj h
       refine ⟨.inl rfl, ?_⟩
       refine Rt.wk (s2 := ⟨jj 2 (.ptr 0 0 0 :: .v (.int .i64 21) :: jj 70 []), St [some ⟨3, false, false, [[.v (.bool false), .sl (List.map (cInt .u32) []), .sl (List.map (cInt .u32) [])]]⟩], none, 0⟩) ?_ (Rt.of ?_)
       ·exact Wk.weak hU [some 0] _ (by decide) wsI wvI
       have fx := i2 f45_res f45_rt
       exact rtI
      ·rw [if_f hg13] at h
       rcases Bool.eq_false_or_eq_true (decide (r9.2.1 < (s.length : Int))) with hg14 | hg14
       ·rw [if_t hg14] at h
        have fx := i6 hc1 hc4 hc5 hc8 hg13 hg14
        refine rq hU (f45_ci_ok _) rgIF <| thenN <| ?_
        refine Wp.cond hU (t := true) rfl (fun _ => ?_) (fun hc => by cases hc)
        refine rs hU (f45_ci_ok _) rgIF <| Wp.ret <| thenR <| ?_
        obtain rfl := sj h
        refine ⟨.inl rfl, ?_⟩
        refine Rt.wk (s2 := ⟨jj 2 (.ptr 0 0 0 :: .v (.int .i64 21) :: jj 70 []), St [some ⟨3, false, false, [[.v (.bool false), .sl (List.map (cInt .u32) []), .sl (List.map (cInt .u32) [])]]⟩], none, 0⟩) ?_ (Rt.of ?_)
        ·exact Wk.weak hU [some 0] _ (by decide) wsI wvI
        have fx := i2 f45_res f45_rt
        exact rtI
       ·rw [if_f hg14] at h
        have fx := i6 hc1 hc4 hc5 hc8 hg13 hg14
        refine rq hU (f45_ci_ok _) rgIF <| thenN <| ?_
        refine Wp.cond hU (t := (r9.1.length : Int) == 0) rfl (fun hc10 => ?_) (fun hc10 => ?_)
        ·rw [if_t hc10] at h
         refine Wp.seq <| ?_
         have fx := i7 hc1 hc4 hc5 hc8 hg13 hg14 hc10
         refine rq hU (f45_ci_ok _) rgIF <| thenN <| Wp.ret <| thenR <| ?_
         obtain rfl := sj h
         refine ⟨.inl rfl, ?_⟩
         refine Rt.wk (s2 := ⟨jj 2 (.ptr 0 0 0 :: .v (.int .i64 21) :: jj 70 []), St [some ⟨3, false, false, [[.v (.bool false), .sl (List.map (cInt .u32) []), .sl (List.map (cInt .u32) [])]]⟩], none, 0⟩) ?_ (Rt.of ?_)
         ·exact Wk.weak hU [some 0] _ (by decide) wsI wvI
         have fx := i2 f45_res f45_rt
         exact rtI
        ·rw [if_f hc10] at h
         refine Wp.skip <| thenN <| Wp.seq <| ?_
         obtain ⟨r11, hr11, h⟩ := bind_some h
         have hr11c := fun σ => show f45_ci 55 _ σ = _ from f55_call hr11 σ
         have fx := i8 hr11c hc1 hc4 hc5 hc8 hg13 hg14 hc10
         refine rq hU (f45_ci_ok _) rgIF <| thenN <| Wp.ret <| ?_
         obtain rfl := sj h
         refine ⟨.inl rfl, ?_⟩
         refine Rt.of <| ?_
         have fx := i2 f45_res f45_rt
         exact rtI
    ·rw [if_f hc5] at h
     refine Wp.skip <| thenN <| Wp.seq <| ?_
     obtain ⟨r12, hr12, h⟩ := bind_some h
     have hr12c := fun σ => show f45_ci 55 _ σ = _ from f55_call hr12 σ
     try simp only [List.map_cons, List.map_nil, cInt_eq, cBool_eq, cStr_eq, cSl_eq, tys] at hr12c
     have fx := i4 hr12c hc1 hc4 hc5
     refine rq hU (f45_ci_ok _) rgIF <| thenN <| Wp.ret <| ?_
     obtain rfl := sj h
     refine ⟨.inl rfl, ?_⟩
     refine Rt.of <| ?_
     have fx := i2 f45_res f45_rt
     exact rtI
noncomputable def f45_tbl : CI := tbl 45 (fun p : Str => [.v (.string (mkS p))]) (fun p => (f45 p).map fun r => .tup [.agg [.v (.bool r.1.Neg), .sl (List.map (cInt .u32) r.1.Num), .sl (List.map (cInt .u32) r.1.Den)], .v (.int .i64 r.2)])
theorem f45_tbl_ok {base : Nat} : CIOK E base f45_tbl := tbl_okM fun p q h => f45_ok p q h
theorem f45_call {s : Str} {r : Ratio × Int} (h : f45 s = some r) (σ : Store) : f45_tbl 45 [.v (.string (mkS s))] σ = some (.tup [.agg [.v (.bool r.1.Neg), .sl (List.map (cInt .u32) r.1.Num), .sl (List.map (cInt .u32) r.1.Den)], .v (.int .i64 r.2)], σ, none) :=
 tbl_eq (x := (s)) (fun x y e => by
  exact av_str (List.cons.inj e).1) (by simp [h]) σ
/-- sibyl/scan.run -/
def f33 (s : Str) : Option (Token × Int) :=
 if (s == [46]) = true then
  (some ((⟨4, s, (⟨false, [], []⟩ : Ratio), 0⟩ : Token), 0))
 else
  if (s == [35, 116]) = true then
   (some ((⟨6, s, (⟨false, [], []⟩ : Ratio), 0⟩ : Token), 0))
  else
   if (s == [35, 102]) = true then
    (some ((⟨6, s, (⟨false, [], []⟩ : Ratio), 0⟩ : Token), 0))
   else
    f45 s >>= fun r3 =>
    if (r3.2 == 0) = true then
     (some ((⟨5, s, (⟨r3.1.Neg, r3.1.Num, r3.1.Den⟩ : Ratio), 0⟩ : Token), r3.2))
    else
     if (r3.2 == 4) = true then
      (some ((⟨5, s, (⟨r3.1.Neg, r3.1.Num, r3.1.Den⟩ : Ratio), 0⟩ : Token), r3.2))
     else
      f24 s >>= fun r5 =>
      if (!r5) = true then
       (some ((⟨0, s, (⟨false, [], []⟩ : Ratio), 0⟩ : Token), 40))
      else
       if (decide ((s.length : Int) > 32)) = true then
        (some ((⟨0, s, (⟨false, [], []⟩ : Ratio), 0⟩ : Token), 3))
       else
        some ((⟨7, s, (⟨false, [], []⟩ : Ratio), 0⟩ : Token), 0)
noncomputable def f33_ci : CI := (CI.or 45 f45_tbl (CI.or 24 f24_tbl (fun _ _ _ => none)))
theorem f33_ci_ok (base : Nat) : CIOK E base f33_ci := (or_ok f45_tbl_ok (or_ok f24_tbl_ok no_ok))
theorem f33_res : Try.f33.results = #[.cell 2 40, .tmp 3] := rfl
theorem f33_rt : Try.f33.resultTypes = #[40, 24] := rfl
theorem f33_ok (s : Str) (r : Token × Int) (h : f33 s = some r) : PureOK E 33 [.v (.string (mkS s))] (.tup [.agg [.v (.int .i64 r.1.Kind), .v (.string (mkS r.1.Text)), .v (.bool r.1.N.Neg), .sl (List.map (cInt .u32) r.1.N.Num), .sl (List.map (cInt .u32) r.1.N.Den), .v (.int .i64 r.1.At)], .v (.int .i64 r.2)]) := by
 unfold f33 at h
 refine pof (fn := Try.f33) (nt := 47) Try.func33 rfl rfl rfl rfl (fun _ => rfl) (fun base c00 hU => ?_)
 refine Wk.wp (s2 := ⟨.v (.string (mkS s)) :: jj 46 [], St [], none, 0⟩) ?_ ?_
 ·exact Wk.weak hU [] _ (by decide) .nil wvS
 refine rs hU (f33_ci_ok _) rgI <| rs hU (f33_ci_ok _) rgI <| Wp.seq <| rs hU (f33_ci_ok _) rgI <| ?_
 refine Wp.cond hU (t := s == [46]) rfl (fun hc1 => ?_) (fun hc1 => ?_)
 ·rw [if_t hc1] at h
  refine Wp.seq <| ?_
  have fx := hc1
  refine rq hU (f33_ci_ok _) rgIF <| thenN <| rs hU (f33_ci_ok _) rgIF <| Wp.ret <| thenR <| ?_
  obtain rfl := sj h
  refine ⟨.inl rfl, ?_⟩
  refine Rt.wk (s2 := ⟨jj 2 (.ptr 0 0 0 :: .v (.int .i64 0) :: jj 43 []), St [some ⟨6, false, false, [[.v (.int .i64 4), .v (.string (mkS s)), .v (.bool false), .sl (List.map (cInt .u32) []), .sl (List.map (cInt .u32) []), .v (.int .i64 0)]]⟩], none, 0⟩) ?_ (Rt.of ?_)
  ·exact Wk.weak hU [some 0] _ (by decide) wsI wvI
  have fx := i2 f33_res f33_rt
  exact rtI
 ·rw [if_f hc1] at h
  refine Wp.skip <| thenN <| Wp.seq <| Wp.seq <| ?_
  rcases Bool.eq_false_or_eq_true (s == [35, 116]) with hg12 | hg12
  ·rw [if_t hg12] at h
   have fx := i2 hc1 hg12
   refine rq hU (f33_ci_ok _) rgIF <| thenN <| ?_
   refine Wp.cond hU (t := true) rfl (fun _ => ?_) (fun hc => by cases hc)
   refine rs hU (f33_ci_ok _) rgIF <| rs hU (f33_ci_ok _) rgIF <| Wp.ret <| thenR <| ?_
   obtain rfl := sj h
   refine ⟨.inl rfl, ?_⟩
   refine Rt.wk (s2 := ⟨jj 2 (.ptr 0 0 0 :: .v (.int .i64 0) :: jj 43 []), St [some ⟨6, false, false, [[.v (.int .i64 6), .v (.string (mkS s)), .v (.bool false), .sl (List.map (cInt .u32) []), .sl (List.map (cInt .u32) []), .v (.int .i64 0)]]⟩], none, 0⟩) ?_ (Rt.of ?_)
   ·exact Wk.weak hU [some 0] _ (by decide) wsI wvI
   have fx := i2 f33_res f33_rt
   exact rtI
  ·rw [if_f hg12] at h
   have fx := i2 hc1 hg12
   refine rq hU (f33_ci_ok _) rgIF <| thenN <| ?_
   refine Wp.cond hU (t := s == [35, 102]) rfl (fun hc2 => ?_) (fun hc2 => ?_)
   ·rw [if_t hc2] at h
    refine Wp.seq <| ?_
    have fx := i3 hc1 hg12 hc2
    refine rq hU (f33_ci_ok _) rgIF <| thenN <| rs hU (f33_ci_ok _) rgIF <| Wp.ret <| thenR <| ?_
    obtain rfl := sj h
    refine ⟨.inl rfl, ?_⟩
    refine Rt.wk (s2 := ⟨jj 2 (.ptr 0 0 0 :: .v (.int .i64 0) :: jj 43 []), St [some ⟨6, false, false, [[.v (.int .i64 6), .v (.string (mkS s)), .v (.bool false), .sl (List.map (cInt .u32) []), .sl (List.map (cInt .u32) []), .v (.int .i64 0)]]⟩], none, 0⟩) ?_ (Rt.of ?_)
    ·exact Wk.weak hU [some 0] _ (by decide) wsI wvI
    have fx := i2 f33_res f33_rt
    exact rtI
   ·rw [if_f hc2] at h
    refine Wp.skip <| thenN <| Wp.seq <| ?_
    obtain ⟨r3, hr3, h⟩ := bind_some h
    have hr3c := fun σ => show f33_ci 45 _ σ = _ from f45_call hr3 σ
    have fx := i4 hr3c hc1 hg12 hc2
    refine rq hU (f33_ci_ok _) rgIF <| thenN <| ?_
    refine Wk.wp (s2 := ⟨.v (.string (mkS s)) :: jj 1 (.ptr 0 0 0 :: jj 1 (.ptr 1 0 0 :: .vp [.v (.bool r3.1.Neg), .sl (List.map (cInt .u32) r3.1.Num), .sl (List.map (cInt .u32) r3.1.Den)] :: .v (.int .i64 r3.2) :: jj 40 [])), St [some ⟨6, false, false, [[.v (.int .i64 0), .v (.string (mkS [])), .v (.bool false), .v (.slice none 0 0), .v (.slice none 0 0), .v (.int .i64 0)]]⟩, some ⟨6, false, false, [[.v (.int .i64 0), .v (.string (mkS s)), .v (.bool false), .v (.slice none 0 0), .v (.slice none 0 0), .v (.int .i64 0)]]⟩], none, 0⟩) ?_ ?_
    ·refine Wk.share hU [2] ?_
     simp (decide := true) only [share, fresh1, reduceIte, reduceCtorEq, Nat.reduceAdd, bxm]
     exact Wk.weak hU [some 0, some 1] _ (by decide) wsI wvI
    refine Wp.seq <| Wp.seq <| ?_
    rcases Bool.eq_false_or_eq_true (r3.2 == 0) with hg16 | hg16
    ·rw [if_t hg16] at h
     have fx := i4 hc1 hg12 hc2 hg16
     refine rq hU (f33_ci_ok _) rgIF <| thenN <| ?_
     refine Wp.cond hU (t := true) rfl (fun _ => ?_) (fun hc => by cases hc)
     refine Wp.seq <| Wp.regionT hU (f33_ci_ok _) rgIF (by kernel_rfl) <| thenN <| rs hU (f33_ci_ok _) rgIF <| Wp.ret <| thenR <| ?_
     obtain rfl := sj h
     refine ⟨.inl rfl, ?_⟩
     refine Rt.of <| ?_
     have fx := i2 f33_res f33_rt
     exact rtI
    ·rw [if_f hg16] at h
     have fx := i4 hc1 hg12 hc2 hg16
     refine rq hU (f33_ci_ok _) rgIF <| thenN <| ?_
     refine Wp.cond hU (t := r3.2 == 4) rfl (fun hc4 => ?_) (fun hc4 => ?_)
     ·rw [if_t hc4] at h
      refine Wp.seq <| ?_
      have fx := i5 hc1 hg12 hc2 hg16 hc4
      refine Wp.regionT hU (f33_ci_ok _) rgIF (by kernel_rfl) <| thenN <| rs hU (f33_ci_ok _) rgIF <| Wp.ret <| thenR <| ?_
      obtain rfl := sj h
      refine ⟨.inl rfl, ?_⟩
      refine Rt.of <| ?_
      have fx := i2 f33_res f33_rt
      exact rtI
     ·rw [if_f hc4] at h
      refine Wp.skip <| thenN <| Wp.seq <| Wp.seq <| ?_
      obtain ⟨r5, hr5, h⟩ := bind_some h
      have hr5c := fun σ => show f33_ci 24 _ σ = _ from f24_call hr5 σ
      have fx := i6 hr5c hc1 hg12 hc2 hg16 hc4
      refine rq hU (f33_ci_ok _) rgIF <| thenN <| ?_
      refine Wp.cond hU (t := !r5) rfl (fun hc6 => ?_) (fun hc6 => ?_)
      ·rw [if_t hc6] at h
       refine Wp.seq <| ?_
       have fx := i6 hc1 hg12 hc2 hg16 hc4 hc6
       refine rq hU (f33_ci_ok _) rgIF <| thenN <| Wp.ret <| thenR <| ?_
       obtain rfl := sj h
       refine ⟨.inl rfl, ?_⟩
       refine Rt.wk (s2 := ⟨jj 2 (.ptr 0 0 0 :: .v (.int .i64 40) :: jj 43 []), St [some ⟨6, false, false, [[.v (.int .i64 0), .v (.string (mkS s)), .v (.bool false), .sl (List.map (cInt .u32) []), .sl (List.map (cInt .u32) []), .v (.int .i64 0)]]⟩], none, 0⟩) ?_ (Rt.of ?_)
       ·exact Wk.weak hU [some 0] _ (by decide) wsI wvI
       have fx := i2 f33_res f33_rt
       exact rtI
      ·rw [if_f hc6] at h
       refine Wp.skip <| thenN <| Wp.seq <| Wp.seq <| ?_
       have fx := i6 hc1 hg12 hc2 hg16 hc4 hc6
       refine rq hU (f33_ci_ok _) rgIF <| thenN <| ?_
       refine Wp.cond hU (t := decide ((s.length : Int) > 32)) rfl (fun hc7 => ?_) (fun hc7 => ?_)
       ·rw [if_t hc7] at h
        refine Wp.seq <| ?_
        have fx := i7 hc1 hg12 hc2 hg16 hc4 hc6 hc7
        refine rq hU (f33_ci_ok _) rgIF <| thenN <| Wp.ret <| thenR <| ?_
        obtain rfl := sj h
        refine ⟨.inl rfl, ?_⟩
        refine Rt.wk (s2 := ⟨jj 2 (.ptr 0 0 0 :: .v (.int .i64 3) :: jj 43 []), St [some ⟨6, false, false, [[.v (.int .i64 0), .v (.string (mkS s)), .v (.bool false), .sl (List.map (cInt .u32) []), .sl (List.map (cInt .u32) []), .v (.int .i64 0)]]⟩], none, 0⟩) ?_ (Rt.of ?_)
        ·exact Wk.weak hU [some 0] _ (by decide) wsI wvI
        have fx := i2 f33_res f33_rt
        exact rtI
       ·rw [if_f hc7] at h
        refine Wp.skip <| thenN <| Wp.seq <| ?_
        have fx := i7 hc1 hg12 hc2 hg16 hc4 hc6 hc7
        refine rq hU (f33_ci_ok _) rgIF <| thenN <| rs hU (f33_ci_ok _) rgIF <| Wp.ret <| ?_
        obtain rfl := sj h
        refine ⟨.inl rfl, ?_⟩
        refine Rt.wk (s2 := ⟨jj 2 (.ptr 0 0 0 :: .v (.int .i64 0) :: jj 43 []), St [some ⟨6, false, false, [[.v (.int .i64 7), .v (.string (mkS s)), .v (.bool false), .sl (List.map (cInt .u32) []), .sl (List.map (cInt .u32) []), .v (.int .i64 0)]]⟩], none, 0⟩) ?_ (Rt.of ?_)
        ·exact Wk.weak hU [some 0] _ (by decide) wsI wvI
        have fx := i2 f33_res f33_rt
        exact rtI
noncomputable def f33_tbl : CI := tbl 33 (fun p : Str => [.v (.string (mkS p))]) (fun p => (f33 p).map fun r => .tup [.agg [.v (.int .i64 r.1.Kind), .v (.string (mkS r.1.Text)), .v (.bool r.1.N.Neg), .sl (List.map (cInt .u32) r.1.N.Num), .sl (List.map (cInt .u32) r.1.N.Den), .v (.int .i64 r.1.At)], .v (.int .i64 r.2)])
theorem f33_tbl_ok {base : Nat} : CIOK E base f33_tbl := tbl_okM fun p q h => f33_ok p q h
theorem f33_call {s : Str} {r : Token × Int} (h : f33 s = some r) (σ : Store) : f33_tbl 33 [.v (.string (mkS s))] σ = some (.tup [.agg [.v (.int .i64 r.1.Kind), .v (.string (mkS r.1.Text)), .v (.bool r.1.N.Neg), .sl (List.map (cInt .u32) r.1.N.Num), .sl (List.map (cInt .u32) r.1.N.Den), .v (.int .i64 r.1.At)], .v (.int .i64 r.2)], σ, none) :=
 tbl_eq (x := (s)) (fun x y e => by
  exact av_str (List.cons.inj e).1) (by simp [h]) σ
/-- sibyl/scan.word -/
def f20 (out : List Token) (text : Str) (i : Int) : Option (Int × (List Token) × Int) :=
 cutL text i (text.length : Int) >>= fun p1 =>
 f32 p1 [32, 9, 10, 13, 59, 40, 41, 39] >>= fun r2 =>
 if (decide (r2 < 0)) = true then
  (some (IntKind.i64.wrap ((text.length : Int) - i)) >>= fun x4 =>
  cutL text i (IntKind.i64.wrap (i + x4)) >>= fun p5 =>
  f33 p5 >>= fun r6 =>
  if (r6.2 != 0) = true then
   (some (r6.2, out, i))
  else
   ap 88 out [(⟨r6.1.Kind, r6.1.Text, (⟨r6.1.N.Neg, r6.1.N.Num, r6.1.N.Den⟩ : Ratio), i⟩ : Token)] >>= fun a8 =>
   some (0, a8, IntKind.i64.wrap (i + x4)))
 else
  cutL text i (IntKind.i64.wrap (i + r2)) >>= fun p9 =>
  f33 p9 >>= fun r10 =>
  if (r10.2 != 0) = true then
   (some (r10.2, out, i))
  else
   ap 88 out [(⟨r10.1.Kind, r10.1.Text, (⟨r10.1.N.Neg, r10.1.N.Num, r10.1.N.Den⟩ : Ratio), i⟩ : Token)] >>= fun a12 =>
   some (0, a12, IntKind.i64.wrap (i + r2))
noncomputable def f20_ci : CI := (CI.or 32 f32_tbl (CI.or 33 f33_tbl (fun _ _ _ => none)))
theorem f20_ci_ok (base : Nat) : CIOK E base f20_ci := (or_ok f32_tbl_ok (or_ok f33_tbl_ok no_ok))
theorem f20_res : Try.f20.results = #[.tmp 6] := rfl
def f20_S (out : List Token) (text : Str) (i : Int) : List (Option Obj) := [some ⟨1, false, false, [[.row 1 6 0 ((out).length)]]⟩, some ⟨6, false, true, List.map cToken out⟩, some ⟨1, false, false, [[.v (.int .i64 i)]]⟩]
theorem f20_ok (out : List Token) (text : Str) (i : Int) (r : Int × (List Token) × Int) (h : f20 out text i = some r) : RefC E 20 3 [.ptr 0 0 0, .v (.string (mkS text)), .ptr 2 0 0] (f20_S out text i) (.v (.int .i64 r.1)) [some ⟨1, false, false, [[.row 3 6 0 ((r.2.1).length)]]⟩, none, some ⟨1, false, false, [[.v (.int .i64 r.2.2)]]⟩, some ⟨6, false, true, List.map cToken r.2.1⟩] := by
 unfold f20 at h
 refine ref_of_wp tabOK mixed (fn := Try.f20) (nt := 59) Try.func20 rfl rfl (names _ _ Try.func20) (fun _ => rfl) (refOK_of rfl) (fun base c00 hU => ?_)
 refine Wk.wp (s2 := ⟨.ptr 0 0 0 :: .v (.string (mkS text)) :: .ptr 2 0 0 :: jj 56 [], St [some ⟨1, false, false, [[.row 1 6 0 ((out).length)]]⟩, some ⟨6, false, true, List.map cToken out⟩, some ⟨1, false, false, [[.v (.int .i64 i)]]⟩], some 0, 3⟩) ?_ ?_
 ·refine Wk.weakK hU [some 0, some 1, some 2] _ (by decide) (k := 3) rfl rfl ?_ ?_
  refine .obj rfl ?_ ?_
  ·refine .mk ?_ (by simp only [bxm, leaf_ptr, leaf_slf, leaf_trow, leaf_tptr]) nofun
   refine .cons ?_ .nil
   repeat' (first | exact WVs.nil | refine WVs.cons ?_ ?_)
   all_goals first | exact WV.keep rfl | exact WV.row rfl | exact WV.ptr rfl | exact WV.slf rfl | exact WV.trow rfl
  refine .obj rfl ?_ ?_
  ·exact .same _ _ _
  refine .obj rfl ?_ ?_
  ·refine .mk ?_ (by simp only [bxm, leaf_ptr, leaf_slf, leaf_trow, leaf_tptr]) nofun
   refine .cons ?_ .nil
   repeat' (first | exact WVs.nil | refine WVs.cons ?_ ?_)
   all_goals first | exact WV.keep rfl | exact WV.row rfl | exact WV.ptr rfl | exact WV.slf rfl | exact WV.trow rfl
  ·exact .nil
  simp only [jjs, List.length_cons, List.length_nil, Nat.reduceAdd, Nat.reduceSub, List.replicate, List.cons_append, List.nil_append]
  repeat' (first | exact WVs.nil | refine WVs.cons ?_ ?_)
  all_goals first | exact WV.junk _ | exact WV.keep rfl | exact WV.row rfl | exact WV.ptr rfl | exact WV.tptr rfl | exact .agg rfl (aggKeep rfl)
 refine rs hU (f20_ci_ok _) rgI <| Wp.seq <| ?_
 obtain ⟨p1, hp1, h⟩ := bind_some h
 obtain ⟨hp1a, hp1b, hp1c, hp1d, hp1e, hp1f⟩ := cutL_some hp1
 try simp only [Int.toNat_natCast] at hp1c hp1d
 try simp only [Int.toNat_natCast, Int.toNat_zero, List.drop_zero, Nat.sub_zero] at hp1e hp1f
 obtain ⟨r2, hr2, h⟩ := bind_some h
 have hr2c := fun σ => show f20_ci 32 _ σ = _ from f32_call hr2 σ
 have hr2p := hr2c
 try simp only [hp1e, List.map_append, List.nil_append, Int.toNat_zero, List.drop_zero, List.map_cons, List.map_nil, cInt_eq, cBool_eq, cStr_eq, cSl_eq, tys] at hr2p
 have fx := i7 hp1a hp1b hp1c hp1d hp1e.symm hr2c hr2p
 refine rq hU (f20_ci_ok _) rgIS <| thenN <| Wp.seq <| Wp.seq <| ?_
 have fx := i4 hp1a hp1b hp1c hp1d
 refine rq hU (f20_ci_ok _) rgIS <| thenN <| ?_
 refine Wp.cond hU (t := decide (r2 < 0)) rfl (fun hc3 => ?_) (fun hc3 => ?_)
 ·rw [if_t hc3] at h
  obtain ⟨x4, hx4, h⟩ := bind_some h
  replace hx4 := sj hx4
  have fx := i6 hx4 hp1a hp1b hp1c hp1d hc3
  refine rq hU (f20_ci_ok _) rgIS <| thenN <| Wp.seq <| ?_
  obtain ⟨p5, hp5, h⟩ := bind_some h
  obtain ⟨hp5a, hp5b, hp5c, hp5d, hp5e, hp5f⟩ := cutL_some hp5
  try simp only [Int.toNat_natCast] at hp5c hp5d
  try simp only [Int.toNat_natCast, Int.toNat_zero, List.drop_zero, Nat.sub_zero] at hp5e hp5f
  obtain ⟨r6, hr6, h⟩ := bind_some h
  have hr6c := fun σ => show f20_ci 33 _ σ = _ from f33_call hr6 σ
  have hr6p := hr6c
  try simp only [hp5e, List.map_append, List.nil_append, Int.toNat_zero, List.drop_zero, List.map_cons, List.map_nil, cInt_eq, cBool_eq, cStr_eq, cSl_eq, tys] at hr6p
  have fx := i9 hp5a hp5b hp5c hp5d hp5e.symm hr6c hr6p hp1a (i4 hp1b hp1c hp1d hc3)
  refine Wp.regionT hU (f20_ci_ok _) rgIS (by kernel_rfl) <| thenN <| Wp.seq <| Wp.seq <| ?_
  have fx := i9 hp1a hp1b hp1c hp1d hp5a hp5b hp5c hp5d hc3
  refine rq hU (f20_ci_ok _) rgIS <| thenN <| ?_
  refine Wp.cond hU (t := r6.2 != 0) rfl (fun hc7 => ?_) (fun hc7 => ?_)
  ·rw [if_t hc7] at h
   refine Wp.seq <| ?_
   have fx := i9 hp1a hp1b hp1c hp1d hp5a hp5b hp5c hp5d (i2 hc3 hc7)
   refine rq hU (f20_ci_ok _) rgIS <| thenN <| Wp.ret <| thenR <| ?_
   obtain rfl := sj h
   refine ⟨.inl rfl, ?_⟩
   refine RtR.wk (s2 := ⟨jj 6 (.v (.int .i64 r6.2) :: jj 52 []), St [some ⟨1, false, false, [[.row 3 6 0 ((out).length)]]⟩, none, some ⟨1, false, false, [[.v (.int .i64 i)]]⟩, some ⟨6, false, true, List.map cToken out⟩], some 0, 3⟩) ?_ (RtR.of rfl rfl)
   ·refine Wk.trans (s2 := ⟨.ptr 0 0 0 :: .v (.string (mkS text)) :: .ptr 2 0 0 :: jj 3 (.v (.int .i64 r6.2) :: .v (.int .i64 x4) :: .ptr 3 0 0 :: .v (.int .i64 r6.2) :: .v (.string (mkS text)) :: .ptr 2 0 0 :: .ptr 2 0 0 :: .v (.int .i64 i) :: .v (.string (mkS p1)) :: .v (.int .i64 r2) :: .v (.int .i64 r2) :: .v (.bool true) :: .v (.string (mkS text)) :: .v (.int .i64 (text.length : Int)) :: .ptr 2 0 0 :: .ptr 2 0 0 :: .v (.int .i64 i) :: .v (.int .i64 x4) :: .tup [.agg [.v (.int .i64 r6.1.Kind), .v (.string (mkS r6.1.Text)), .v (.bool r6.1.N.Neg), .sl (List.map (cInt .u32) r6.1.N.Num), .sl (List.map (cInt .u32) r6.1.N.Den), .v (.int .i64 r6.1.At)], .v (.int .i64 r6.2)] :: .v (.string (mkS text)) :: .ptr 2 0 0 :: .ptr 2 0 0 :: .v (.int .i64 i) :: .ptr 2 0 0 :: .ptr 2 0 0 :: .v (.int .i64 i) :: .v (.int .i64 x4) :: .v (.int .i64 (IntKind.i64.wrap (i + x4))) :: .v (.string (mkS p5)) :: .tup [.agg [.v (.int .i64 r6.1.Kind), .v (.string (mkS r6.1.Text)), .v (.bool r6.1.N.Neg), .sl (List.map (cInt .u32) r6.1.N.Num), .sl (List.map (cInt .u32) r6.1.N.Den), .v (.int .i64 r6.1.At)], .v (.int .i64 r6.2)] :: .agg [.v (.int .i64 r6.1.Kind), .v (.string (mkS r6.1.Text)), .v (.bool r6.1.N.Neg), .sl (List.map (cInt .u32) r6.1.N.Num), .sl (List.map (cInt .u32) r6.1.N.Den), .v (.int .i64 r6.1.At)] :: .v (.int .i64 r6.2) :: .v (.int .i64 r6.2) :: .v (.bool true) :: .v (.int .i64 r6.2) :: jj 18 []), St [some ⟨1, false, false, [[.row 4 6 0 ((out).length)]]⟩, none, some ⟨1, false, false, [[.v (.int .i64 i)]]⟩, some ⟨6, false, false, [[.v (.int .i64 r6.1.Kind), .v (.string (mkS r6.1.Text)), .v (.bool r6.1.N.Neg), .sl (List.map (cInt .u32) r6.1.N.Num), .sl (List.map (cInt .u32) r6.1.N.Den), .v (.int .i64 r6.1.At)]]⟩, some ⟨6, false, true, List.map cToken out⟩], some 0, 3⟩) (Wk.moveTo hU 1 _ rfl rfl rfl rfl rfl) ?_
    have fe := i2 hp1e hp5e
    have fl := i2 hp1f hp5f
    have fv := i6 hp1e hp5e hp1c hp1d hp5c hp5d
    exact Wk.weakK hU [some 0, some 1, some 2, some 4] _ (by decide) (k := 3) rfl rfl wsIF wvIF
  ·rw [if_f hc7] at h
   refine Wp.skip <| thenN <| Wp.seq <| ?_
   have fx := i9 hp1a hp1b hp1c hp1d hp5a hp5b hp5c hp5d (i2 hc3 hc7)
   refine rq hU (f20_ci_ok _) rgIS <| thenN <| Wp.seq <| ?_
   obtain ⟨a8, ha8, h⟩ := bind_some h
   obtain ⟨ha8a, ha8b⟩ := ap_some ha8
   try simp only [List.length_cons, List.length_nil, Nat.zero_add, Nat.add_zero, Nat.reduceAdd] at ha8a
   have fx := i9 ha8a hp1a hp1b hp1c hp1d hp5a hp5b hp5c (i3 hp5d hc3 hc7)
   refine Wp.regionT hU (f20_ci_ok _) rgIS (by kernel_rfl) <| thenN <| ?_
   refine Wk.wp (s2 := ⟨jj 2 (.ptr 2 0 0 :: jj 4 (.v (.int .i64 x4) :: jj 51 [])), St [some ⟨1, false, false, [[.row 3 6 0 ((a8).length)]]⟩, none, some ⟨1, false, false, [[.v (.int .i64 i)]]⟩, some ⟨6, false, true, List.map cToken a8⟩], some 0, 3⟩) ?_ ?_
   ·have fe := i3 hp1e hp5e ha8b
    have fl := i3 ha8b hp1f hp5f
    have fv := i6 hp1e hp5e hp1c hp1d hp5c hp5d
    exact Wk.weakK hU [some 0, some 1, some 2, some 5] _ (by decide) (k := 3) rfl rfl wsIF wvIF
   refine Wp.seq <| ?_
   have fx := i9 hp1a hp1b hp1c hp1d hp5a hp5b hp5c hp5d (i2 hc3 hc7)
   refine rq hU (f20_ci_ok _) rgIS <| thenN <| rs hU (f20_ci_ok _) rgIS <| Wp.ret <| ?_
   obtain rfl := sj h
   refine ⟨.inl rfl, ?_⟩
   refine RtR.wk (s2 := ⟨jj 6 (.v (.int .i64 0) :: jj 52 []), St [some ⟨1, false, false, [[.row 3 6 0 ((a8).length)]]⟩, none, some ⟨1, false, false, [[.v (.int .i64 (IntKind.i64.wrap (i + x4)))]]⟩, some ⟨6, false, true, List.map cToken a8⟩], some 0, 3⟩) ?_ (RtR.of rfl rfl)
   ·have fe := i3 hp1e hp5e ha8b
    have fl := i3 ha8b hp1f hp5f
    have fv := i6 hp1e hp5e hp1c hp1d hp5c hp5d
    exact Wk.weakK hU [some 0, some 1, some 2, some 3] _ (by decide) (k := 3) rfl rfl wsIF wvIF
 ·rw [if_f hc3] at h
  refine Wp.skip <| thenN <| Wp.seq <| ?_
  obtain ⟨p9, hp9, h⟩ := bind_some h
  obtain ⟨hp9a, hp9b, hp9c, hp9d, hp9e, hp9f⟩ := cutL_some hp9
  try simp only [Int.toNat_natCast] at hp9c hp9d
  try simp only [Int.toNat_natCast, Int.toNat_zero, List.drop_zero, Nat.sub_zero] at hp9e hp9f
  obtain ⟨r10, hr10, h⟩ := bind_some h
  have hr10c := fun σ => show f20_ci 33 _ σ = _ from f33_call hr10 σ
  have hr10p := hr10c
  try simp only [hp9e, List.map_append, List.nil_append, Int.toNat_zero, List.drop_zero, List.map_cons, List.map_nil, cInt_eq, cBool_eq, cStr_eq, cSl_eq, tys] at hr10p
  have fx := i9 hp9a hp9b hp9c hp9d hp9e.symm hr10c hr10p hp1a (i4 hp1b hp1c hp1d hc3)
  refine Wp.regionT hU (f20_ci_ok _) rgIS (by kernel_rfl) <| thenN <| Wp.seq <| Wp.seq <| ?_
  have fx := i9 hp1a hp1b hp1c hp1d hp9a hp9b hp9c hp9d hc3
  refine rq hU (f20_ci_ok _) rgIS <| thenN <| ?_
  refine Wp.cond hU (t := r10.2 != 0) rfl (fun hc11 => ?_) (fun hc11 => ?_)
  ·rw [if_t hc11] at h
   refine Wp.seq <| ?_
   have fx := i9 hp1a hp1b hp1c hp1d hp9a hp9b hp9c hp9d (i2 hc3 hc11)
   refine rq hU (f20_ci_ok _) rgIS <| thenN <| Wp.ret <| thenR <| ?_
   obtain rfl := sj h
   refine ⟨.inl rfl, ?_⟩
   refine RtR.wk (s2 := ⟨jj 6 (.v (.int .i64 r10.2) :: jj 52 []), St [some ⟨1, false, false, [[.row 3 6 0 ((out).length)]]⟩, none, some ⟨1, false, false, [[.v (.int .i64 i)]]⟩, some ⟨6, false, true, List.map cToken out⟩], some 0, 3⟩) ?_ (RtR.of rfl rfl)
   ·refine Wk.trans (s2 := ⟨.ptr 0 0 0 :: .v (.string (mkS text)) :: .ptr 2 0 0 :: jj 3 (.v (.int .i64 r10.2) :: .v (.int .i64 r2) :: .ptr 3 0 0 :: .v (.int .i64 r10.2) :: .v (.string (mkS text)) :: .ptr 2 0 0 :: .ptr 2 0 0 :: .v (.int .i64 i) :: .v (.string (mkS p1)) :: .v (.int .i64 r2) :: .v (.int .i64 r2) :: .v (.bool false) :: jj 6 (.tup [.agg [.v (.int .i64 r10.1.Kind), .v (.string (mkS r10.1.Text)), .v (.bool r10.1.N.Neg), .sl (List.map (cInt .u32) r10.1.N.Num), .sl (List.map (cInt .u32) r10.1.N.Den), .v (.int .i64 r10.1.At)], .v (.int .i64 r10.2)] :: .v (.string (mkS text)) :: .ptr 2 0 0 :: .ptr 2 0 0 :: .v (.int .i64 i) :: .ptr 2 0 0 :: .ptr 2 0 0 :: .v (.int .i64 i) :: .v (.int .i64 r2) :: .v (.int .i64 (IntKind.i64.wrap (i + r2))) :: .v (.string (mkS p9)) :: .tup [.agg [.v (.int .i64 r10.1.Kind), .v (.string (mkS r10.1.Text)), .v (.bool r10.1.N.Neg), .sl (List.map (cInt .u32) r10.1.N.Num), .sl (List.map (cInt .u32) r10.1.N.Den), .v (.int .i64 r10.1.At)], .v (.int .i64 r10.2)] :: .agg [.v (.int .i64 r10.1.Kind), .v (.string (mkS r10.1.Text)), .v (.bool r10.1.N.Neg), .sl (List.map (cInt .u32) r10.1.N.Num), .sl (List.map (cInt .u32) r10.1.N.Den), .v (.int .i64 r10.1.At)] :: .v (.int .i64 r10.2) :: .v (.int .i64 r10.2) :: .v (.bool true) :: .v (.int .i64 r10.2) :: jj 18 [])), St [some ⟨1, false, false, [[.row 4 6 0 ((out).length)]]⟩, none, some ⟨1, false, false, [[.v (.int .i64 i)]]⟩, some ⟨6, false, false, [[.v (.int .i64 r10.1.Kind), .v (.string (mkS r10.1.Text)), .v (.bool r10.1.N.Neg), .sl (List.map (cInt .u32) r10.1.N.Num), .sl (List.map (cInt .u32) r10.1.N.Den), .v (.int .i64 r10.1.At)]]⟩, some ⟨6, false, true, List.map cToken out⟩], some 0, 3⟩) (Wk.moveTo hU 1 _ rfl rfl rfl rfl rfl) ?_
    have fe := i2 hp1e hp9e
    have fl := i2 hp1f hp9f
    have fv := i6 hp1e hp9e hp1c hp1d hp9c hp9d
    exact Wk.weakK hU [some 0, some 1, some 2, some 4] _ (by decide) (k := 3) rfl rfl wsIF wvIF
  ·rw [if_f hc11] at h
   refine Wp.skip <| thenN <| Wp.seq <| ?_
   have fx := i9 hp1a hp1b hp1c hp1d hp9a hp9b hp9c hp9d (i2 hc3 hc11)
   refine rq hU (f20_ci_ok _) rgIS <| thenN <| Wp.seq <| ?_
   obtain ⟨a12, ha12, h⟩ := bind_some h
   obtain ⟨ha12a, ha12b⟩ := ap_some ha12
   try simp only [List.length_cons, List.length_nil, Nat.zero_add, Nat.add_zero, Nat.reduceAdd] at ha12a
   have fx := i9 ha12a hp1a hp1b hp1c hp1d hp9a hp9b hp9c (i3 hp9d hc3 hc11)
   refine Wp.regionT hU (f20_ci_ok _) rgIS (by kernel_rfl) <| thenN <| ?_
   refine Wk.wp (s2 := ⟨jj 2 (.ptr 2 0 0 :: jj 4 (.v (.int .i64 r2) :: jj 51 [])), St [some ⟨1, false, false, [[.row 3 6 0 ((a12).length)]]⟩, none, some ⟨1, false, false, [[.v (.int .i64 i)]]⟩, some ⟨6, false, true, List.map cToken a12⟩], some 0, 3⟩) ?_ ?_
   ·have fe := i3 hp1e hp9e ha12b
    have fl := i3 ha12b hp1f hp9f
    have fv := i6 hp1e hp9e hp1c hp1d hp9c hp9d
    exact Wk.weakK hU [some 0, some 1, some 2, some 5] _ (by decide) (k := 3) rfl rfl wsIF wvIF
   refine Wp.seq <| ?_
   have fx := i9 hp1a hp1b hp1c hp1d hp9a hp9b hp9c hp9d (i2 hc3 hc11)
   refine rq hU (f20_ci_ok _) rgIS <| thenN <| rs hU (f20_ci_ok _) rgIS <| Wp.ret <| ?_
   obtain rfl := sj h
   refine ⟨.inl rfl, ?_⟩
   refine RtR.wk (s2 := ⟨jj 6 (.v (.int .i64 0) :: jj 52 []), St [some ⟨1, false, false, [[.row 3 6 0 ((a12).length)]]⟩, none, some ⟨1, false, false, [[.v (.int .i64 (IntKind.i64.wrap (i + r2)))]]⟩, some ⟨6, false, true, List.map cToken a12⟩], some 0, 3⟩) ?_ (RtR.of rfl rfl)
   ·have fe := i3 hp1e hp9e ha12b
    have fl := i3 ha12b hp1f hp9f
    have fv := i6 hp1e hp9e hp1c hp1d hp9c hp9d
    exact Wk.weakK hU [some 0, some 1, some 2, some 3] _ (by decide) (k := 3) rfl rfl wsIF wvIF
def f11_l0 (text : Str) (i_0_1 : Int) : Option (Int) :=
 if (decide (i_0_1 < (text.length : Int))) = true then
  (bt text i_0_1 >>= fun b6 =>
  if (b6 != 10) = true then
   (f11_l0 text (IntKind.i64.wrap (i_0_1 + 1)))
  else
   some i_0_1)
 else
  some i_0_1
 partial_fixpoint
def f11_g0 (text : Str) (out_0 : List Token) (i_0 : Int) : Option ((List Token) × Int × Int) :=
 if (i_0 == (text.length : Int)) = true then
  (some (out_0, 0, 0))
 else
  bt text i_0 >>= fun b3 =>
  if (b3 == 59) = true then
   (f11_l0 text i_0 >>= fun o5 =>
   f11_g0 text out_0 o5)
  else
   f18 b3 >>= fun r6 =>
   if (decide (r6 > 0)) = true then
    (cutL text i_0 (IntKind.i64.wrap (i_0 + 1)) >>= fun p8 =>
    ap 88 out_0 [(⟨r6, p8, (⟨false, [], []⟩ : Ratio), i_0⟩ : Token)] >>= fun a9 =>
    f11_g0 text a9 (IntKind.i64.wrap (i_0 + 1)))
   else
    f19 [32, 9, 10, 13, 59, 40, 41, 39] b3 >>= fun r10 =>
    if (decide (r10 ≥ 0)) = true then
     (f11_g0 text out_0 (IntKind.i64.wrap (i_0 + 1)))
    else
     f20 out_0 text i_0 >>= fun r12 =>
     if (r12.1 != 0) = true then
      (some ([], r12.2.2, r12.1))
     else
      f11_g0 text r12.2.1 r12.2.2
 partial_fixpoint
/-- sibyl/scan.Tokens -/
def f11 (text : Str) : Option ((List Token) × Int × Int) :=
 if (decide ((text.length : Int) > 4096)) = true then
  (some ([], 0, 3))
 else
  f11_g0 text [] 0
noncomputable def f11_ci : CI := (CI.or 18 f18_tbl (CI.or 19 f19_tbl (fun _ _ _ => none)))
theorem f11_ci_ok (base : Nat) : CIOK E base f11_ci := (or_ok f18_tbl_ok (or_ok f19_tbl_ok no_ok))
theorem f11_res : Try.f11.results = #[.tmp 2, .tmp 3, .tmp 4] := rfl
theorem f11_rt : Try.f11.resultTypes = #[23, 3, 24] := rfl
theorem f11_l0_ok {base : Nat} {c00 : Ctx} (text : Str) (out_0 : List Token) (hU : Under E base c00 nilStore) : ∀ (i_0_1 : Int) (o5 : Int), f11_l0 text i_0_1 = some o5 →
  WpL E base c00 nilStore (lb Try.f11 0) ⟨.v (.string (mkS text)) :: jj 4 (.ptr 0 0 0 :: .ptr 2 0 0 :: jj 58 []), St [some ⟨1, false, false, [[.row 1 6 0 ((out_0).length)]]⟩, some ⟨6, false, true, List.map cToken out_0⟩, some ⟨1, false, false, [[.v (.int .i64 i_0_1)]]⟩], none, 0⟩ (fun ex s1 => ex = .exit 1 ∧ Wk base c00 nilStore s1 ⟨.v (.string (mkS text)) :: jj 4 (.ptr 0 0 0 :: .ptr 2 0 0 :: jj 58 []), St [some ⟨1, false, false, [[.row 1 6 0 ((out_0).length)]]⟩, some ⟨6, false, true, List.map cToken out_0⟩, some ⟨1, false, false, [[.v (.int .i64 o5)]]⟩], none, 0⟩) := by
 refine f11_l0.partial_correctness text _ ?_
 intro lp__ ih i_0_1 o5 h
 refine WpL.stepE (lbI Try.f11.eq_1) ?_
 refine Wp.seq <| Wp.seq <| ?_
 rcases Bool.eq_false_or_eq_true (decide (i_0_1 < (text.length : Int))) with hg116 | hg116
 ·rw [if_t hg116] at h
  obtain ⟨b6, hb6, h⟩ := bind_some h
  have fx := i2 hb6 hg116
  refine rq hU (f11_ci_ok _) rgIF <| thenN <| ?_
  refine Wp.cond hU (t := b6 != 10) rfl (fun hc7 => ?_) (fun hc7 => ?_)
  ·rw [if_t hc7] at h
   refine Wp.skip <| thenN <| Wp.block <| ?_
   have fx := i2 hg116 hc7
   refine rq hU (f11_ci_ok _) rgIF <| blkN <| againN <| ?_
   refine Wk.wpL ?_ (ih (IntKind.i64.wrap (i_0_1 + 1)) _ h)
   exact Wk.weak hU [some 0, some 1, some 2] _ (by decide) wsI wvI
  ·rw [if_f hc7] at h
   refine Wp.exit <| thenE <| againE <| ?_
   obtain rfl := sj h
   refine ⟨rfl, ?_⟩
   exact Wk.weak hU [some 0, some 1, some 2] _ (by decide) wsI wvI
 ·rw [if_f hg116] at h
  have fx := hg116
  refine rq hU (f11_ci_ok _) rgIF <| thenN <| ?_
  refine Wp.cond hU (t := false) rfl (fun hc => by cases hc) (fun _ => ?_)
  refine Wp.exit <| thenE <| againE <| ?_
  obtain rfl := sj h
  refine ⟨rfl, ?_⟩
  exact Wk.weak hU [some 0, some 1, some 2] _ (by decide) wsI wvI
theorem f11_g0_ok {base : Nat} {c00 : Ctx} (text : Str) (hU : Under E base c00 nilStore) : ∀ (out_0 : List Token) (i_0 : Int) (r : (List Token) × Int × Int), f11_g0 text out_0 i_0 = some r →
  Wp E base c00 nilStore (lbl (sb Try.f11 0) 0) ⟨.v (.string (mkS text)) :: jj 4 (.ptr 0 0 0 :: .ptr 2 0 0 :: jj 58 []), St [some ⟨1, false, false, [[.row 1 6 0 ((out_0).length)]]⟩, some ⟨6, false, true, List.map cToken out_0⟩, some ⟨1, false, false, [[.v (.int .i64 i_0)]]⟩], none, 0⟩ (Jump E base c00 nilStore (sb Try.f11 0) (fun ex s1 => ex = .ret ∧ Rt E base c00 Try.f11 (.tup [.own false 6 (List.map cToken r.1), .v (.int .i64 r.2.1), .v (.int .i64 r.2.2)]) s1)) := by
 refine f11_g0.partial_correctness text _ ?_
 intro lp__ ih out_0 i_0 r h
 refine Wp.codeE (by simp only [Try.f11, sb, lbl, scopesOf, Option.getD_some, Option.map_some, List.nil_append, List.append_nil, List.cons_append, List.getElem?_cons_zero, List.getElem?_cons_succ] <;> rfl) ?_
 refine Wp.seq <| rs hU (f11_ci_ok _) rgI <| ?_
 refine Wp.cond hU (t := i_0 == (text.length : Int)) rfl (fun hc2 => ?_) (fun hc2 => ?_)
 ·rw [if_t hc2] at h
  refine Wp.seq <| ?_
  have fx := hc2
  refine rq hU (f11_ci_ok _) rgIF <| thenN <| Wp.ret <| thenR <| jumpR <| ?_
  obtain rfl := sj h
  refine ⟨rfl, ?_⟩
  refine Rt.of <| ?_
  have fx := i2 f11_res f11_rt
  exact rtI
 ·rw [if_f hc2] at h
  refine Wp.skip <| thenN <| Wp.seq <| Wp.seq <| ?_
  obtain ⟨b3, hb3, h⟩ := bind_some h
  have fx := i2 hb3 hc2
  refine rq hU (f11_ci_ok _) rgIF <| thenN <| Wp.block <| Wp.seq <| ?_
  have fx := hc2
  refine rq hU (f11_ci_ok _) rgIF <| thenN <| ?_
  refine Wp.cond hU (t := b3 == 59) rfl (fun hc4 => ?_) (fun hc4 => ?_)
  ·rw [if_t hc4] at h
   refine Wp.goto <| blkG <| thenG <| ?_
   refine gotoTo (c := lbl (sb Try.f11 0) 1) rfl (Wp.codeE (by simp only [Try.f11, sb, lbl, scopesOf, Option.getD_some, Option.map_some, List.nil_append, List.append_nil, List.cons_append, List.getElem?_cons_zero, List.getElem?_cons_succ] <;> rfl) ?_)
   refine Wp.seq <| Wp.block <| ?_
   obtain ⟨o5, ho5, h⟩ := bind_some h
   refine Wp.loop <| ?_
   refine Tw.mono (Wk.wpL (s2 := ⟨.v (.string (mkS text)) :: jj 4 (.ptr 0 0 0 :: .ptr 2 0 0 :: jj 58 []), St [some ⟨1, false, false, [[.row 1 6 0 ((out_0).length)]]⟩, some ⟨6, false, true, List.map cToken out_0⟩, some ⟨1, false, false, [[.v (.int .i64 i_0)]]⟩], none, 0⟩) ?_ (f11_l0_ok text out_0 hU i_0 o5 ho5)) (fun ex s1 hp => ?_)
   ·exact Wk.weak hU [some 0, some 1, some 2] _ (by decide) wsI wvI
   ·obtain ⟨rfl, hp⟩ := hp
    refine blkE <| thenN <| hp.wp <| Wp.goto <| ?_
    refine gotoTo (c := lbl (sb Try.f11 0) 0) rfl ?_
    refine Wk.wp ?_ (ih out_0 o5 _ h)
    exact Wk.weak hU [some 0, some 1, some 2] _ (by decide) wsI wvI
  ·rw [if_f hc4] at h
   refine Wp.seq <| ?_
   obtain ⟨r6, hr6, h⟩ := bind_some h
   have hr6c := fun σ => show f11_ci 18 _ σ = _ from f18_call hr6 σ
   have fx := i3 hr6c hc2 hc4
   refine rq hU (f11_ci_ok _) rgIF <| thenN <| ?_
   refine Wp.cond hU (t := decide (r6 > 0)) rfl (fun hc7 => ?_) (fun hc7 => ?_)
   ·rw [if_t hc7] at h
    refine Wp.seq <| ?_
    obtain ⟨p8, hp8, h⟩ := bind_some h
    obtain ⟨hp8a, hp8b, hp8c, hp8d, hp8e, hp8f⟩ := cutL_some hp8
    try simp only [Int.toNat_natCast] at hp8c hp8d
    try simp only [Int.toNat_natCast, Int.toNat_zero, List.drop_zero, Nat.sub_zero] at hp8e hp8f
    obtain ⟨a9, ha9, h⟩ := bind_some h
    obtain ⟨ha9a, ha9b⟩ := ap_some ha9
    try simp only [List.length_cons, List.length_nil, Nat.zero_add, Nat.add_zero, Nat.reduceAdd] at ha9a
    have fx := i9 hp8a hp8b hp8c hp8d hp8e.symm ha9a hr6c hc2 (i2 hc4 hc7)
    refine Wp.regionT hU (f11_ci_ok _) rgIS (by kernel_rfl) <| thenN <| ?_
    refine Wk.wp (s2 := ⟨.v (.string (mkS text)) :: jj 4 (.ptr 0 0 0 :: .ptr 2 0 0 :: jj 58 []), St [some ⟨1, false, false, [[.row 1 6 0 ((a9).length)]]⟩, some ⟨6, false, true, List.map cToken a9⟩, some ⟨1, false, false, [[.v (.int .i64 i_0)]]⟩], none, 0⟩) ?_ ?_
    ·refine Wk.weak hU [some 0, some 4, some 2] _ (by decide) ?_ ?_
     ·refine .obj rfl ?_ ?_
      ·refine .mk ?_ (by simp only [bxm, leaf_ptr, leaf_slf, leaf_trow, leaf_tptr]) nofun
       refine .cons ?_ .nil
       have fe := i2 hp8e ha9b
       have fl := i2 ha9b hp8f
       have fv := i3 hp8e hp8c hp8d
       exact wvIF
      refine .obj rfl ?_ ?_
      ·refine WO.grow (c := cToken) (l := out_0) (ys := [[.v (.int .i64 r6), .v (.string (mkS p8)), .v (.bool false), .sl [], .sl [], .v (.int .i64 i_0)]]) plToken ?_ rfl ?_
       ·repeat' (first | exact WL.nil | refine WL.cons ?_ ?_)
        have fe := i2 hp8e ha9b
        have fl := i2 ha9b hp8f
        have fv := i3 hp8e hp8c hp8d
        all_goals exact wvIF
       ·simp only [bxw, Int.toNat_natCast, List.length_replicate, hp8e, ha9b, tys]
      refine .obj rfl ?_ ?_
      ·refine .mk ?_ (by simp only [bxm, leaf_ptr, leaf_slf, leaf_trow, leaf_tptr]) nofun
       refine .cons ?_ .nil
       have fe := i2 hp8e ha9b
       have fl := i2 ha9b hp8f
       have fv := i3 hp8e hp8c hp8d
       exact wvIF
      exact .nil
     ·have fe := i2 hp8e ha9b
      have fl := i2 ha9b hp8f
      have fv := i3 hp8e hp8c hp8d
      exact wvIF
    refine Wp.seq <| ?_
    have fx := i7 hp8a hp8b hp8c hp8d hc2 hc4 hc7
    refine rq hU (f11_ci_ok _) rgIS <| thenN <| Wp.goto <| blkG <| thenG <| ?_
    refine gotoTo (c := lbl (sb Try.f11 0) 0) rfl ?_
    refine Wk.wp ?_ (ih a9 (IntKind.i64.wrap (i_0 + 1)) _ h)
    have fe := i2 hp8e ha9b
    have fl := i2 ha9b hp8f
    have fv := i3 hp8e hp8c hp8d
    exact Wk.weak hU [some 0, some 1, some 2] _ (by decide) wsIF wvIF
   ·rw [if_f hc7] at h
    refine Wp.seq <| ?_
    obtain ⟨r10, hr10, h⟩ := bind_some h
    have hr10c := fun σ => show f11_ci 19 _ σ = _ from f19_call hr10 σ
    try simp only [List.map_cons, List.map_nil, cInt_eq, cBool_eq, cStr_eq, cSl_eq, tys] at hr10c
    have fx := i4 hr10c hc2 hc4 hc7
    refine rq hU (f11_ci_ok _) rgIF <| thenN <| ?_
    refine Wp.cond hU (t := decide (r10 ≥ 0)) rfl (fun hc11 => ?_) (fun hc11 => ?_)
    ·rw [if_t hc11] at h
     refine Wp.seq <| ?_
     have fx := i4 hc2 hc4 hc7 hc11
     refine rq hU (f11_ci_ok _) rgIF <| thenN <| Wp.goto <| blkG <| thenG <| ?_
     refine gotoTo (c := lbl (sb Try.f11 0) 0) rfl ?_
     refine Wk.wp ?_ (ih out_0 (IntKind.i64.wrap (i_0 + 1)) _ h)
     exact Wk.weak hU [some 0, some 1, some 2] _ (by decide) wsI wvI
    ·rw [if_f hc11] at h
     refine Wp.skip <| blkN <| thenN <| Wp.seq <| Wp.seq <| ?_
     obtain ⟨r12, hr12, h⟩ := bind_some h
     have hr12c : CallOK E base 20 [.ptr 0 0 0, .v (.string (mkS text)), .ptr 2 0 0] (St [some ⟨1, false, false, [[.row 1 6 0 ((out_0).length)]]⟩, some ⟨6, false, true, List.map cToken out_0⟩, some ⟨1, false, false, [[.v (.int .i64 i_0)]]⟩]) (.v (.int .i64 r12.1)) (St [some ⟨1, false, false, [[.row 3 6 0 ((r12.2.1).length)]]⟩, none, some ⟨1, false, false, [[.v (.int .i64 r12.2.2)]]⟩, some ⟨6, false, true, List.map cToken r12.2.1⟩]) (some 0) := (f20_ok out_0 text i_0 r12 hr12).at [0, 1, 2] 0 rfl ⟨rfl, rfl, rfl, trivial⟩ rfl rfl rfl
     have fx := i4 hc2 hc4 hc7 hc11
     refine rq hU (rone_ok hr12c (f11_ci_ok _)) rgIF <| thenN <| ?_
     refine Wk.wp (s2 := ⟨.v (.string (mkS text)) :: jj 4 (.ptr 0 0 0 :: .ptr 2 0 0 :: jj 1 (.v (.int .i64 r12.1) :: jj 56 [])), St [some ⟨1, false, false, [[.row 1 6 0 ((r12.2.1).length)]]⟩, some ⟨6, false, true, List.map cToken r12.2.1⟩, some ⟨1, false, false, [[.v (.int .i64 r12.2.2)]]⟩], none, 0⟩) ?_ ?_
     ·exact Wk.weak hU [some 0, some 3, some 2] _ (by decide) wsI wvI
     refine rs hU (f11_ci_ok _) rgIF <| ?_
     refine Wp.cond hU (t := r12.1 != 0) rfl (fun hc13 => ?_) (fun hc13 => ?_)
     ·rw [if_t hc13] at h
      refine Wp.seq <| ?_
      have fx := i5 hc2 hc4 hc7 hc11 hc13
      refine Wp.regionT hU (f11_ci_ok _) rgIF (by kernel_rfl) <| thenN <| Wp.ret <| thenR <| jumpR <| ?_
      obtain rfl := sj h
      refine ⟨rfl, ?_⟩
      refine Rt.of <| ?_
      have fx := i2 f11_res f11_rt
      exact rtI
     ·rw [if_f hc13] at h
      refine Wp.skip <| thenN <| Wp.seq <| Wp.goto <| thenG <| ?_
      refine gotoTo (c := lbl (sb Try.f11 0) 0) rfl ?_
      refine Wk.wp ?_ (ih r12.2.1 r12.2.2 _ h)
      exact Wk.weak hU [some 0, some 1, some 2] _ (by decide) wsI wvI
theorem f11_ok (text : Str) (r : (List Token) × Int × Int) (h : f11 text = some r) : PureOK E 11 [.v (.string (mkS text))] (.tup [.own false 6 (List.map cToken r.1), .v (.int .i64 r.2.1), .v (.int .i64 r.2.2)]) := by
 unfold f11 at h
 refine pof (fn := Try.f11) (nt := 65) Try.func11 rfl rfl rfl rfl (fun _ => rfl) (fun base c00 hU => ?_)
 refine Wk.wp (s2 := ⟨.v (.string (mkS text)) :: jj 64 [], St [], none, 0⟩) ?_ ?_
 ·exact Wk.weak hU [] _ (by decide) .nil wvS
 refine rs hU (f11_ci_ok _) rgI <| ?_
 refine Wp.scopeE (b' := sb Try.f11 0) (by simp only [Try.f11, sb, lbl, scopesOf, Option.getD_some, Option.map_some, List.nil_append, List.append_nil, List.cons_append, List.getElem?_cons_zero, List.getElem?_cons_succ] <;> rfl) ?_
 refine Wp.seq <| rs hU (f11_ci_ok _) rgI <| ?_
 refine Wp.cond hU (t := decide ((text.length : Int) > 4096)) rfl (fun hc1 => ?_) (fun hc1 => ?_)
 ·rw [if_t hc1] at h
  refine Wp.seq <| ?_
  have fx := hc1
  refine rq hU (f11_ci_ok _) rgIF <| thenN <| Wp.ret <| thenR <| jumpR <| ?_
  obtain rfl := sj h
  refine ⟨.inl rfl, ?_⟩
  refine Rt.of <| ?_
  have fx := i2 f11_res f11_rt
  exact rtI
 ·rw [if_f hc1] at h
  refine Wp.skip <| thenN <| Wp.seq <| ?_
  have fx := hc1
  refine rq hU (f11_ci_ok _) rgIF <| thenN <| rs hU (f11_ci_ok _) rgIF <| Wp.seq <| Wp.label <| thenN <| ?_
  refine Wp.labelE (c' := lbl (sb Try.f11 0) 0) rfl (Wk.wp (s2 := ⟨.v (.string (mkS text)) :: jj 4 (.ptr 0 0 0 :: .ptr 2 0 0 :: jj 58 []), St [some ⟨1, false, false, [[.row 1 6 0 (0)]]⟩, some ⟨6, false, true, List.map cToken []⟩, some ⟨1, false, false, [[.v (.int .i64 0)]]⟩], none, 0⟩) ?_ (f11_g0_ok text hU [] 0 _ h)) (fun ex s1 hp => ?_)
  ·exact Wk.weak hU [some 0, none, some 1] _ (by decide) wsI wvI
  ·obtain ⟨rfl, hp⟩ := hp
   exact ⟨.inl rfl, hp⟩
noncomputable def f11_tbl : CI := tbl 11 (fun p : Str => [.v (.string (mkS p))]) (fun p => (f11 p).map fun r => .tup [.own false 6 (List.map cToken r.1), .v (.int .i64 r.2.1), .v (.int .i64 r.2.2)])
theorem f11_tbl_ok {base : Nat} : CIOK E base f11_tbl := tbl_okM fun p q h => f11_ok p q h
theorem f11_call {text : Str} {r : (List Token) × Int × Int} (h : f11 text = some r) (σ : Store) : f11_tbl 11 [.v (.string (mkS text))] σ = some (.tup [.own false 6 (List.map cToken r.1), .v (.int .i64 r.2.1), .v (.int .i64 r.2.2)], σ, none) :=
 tbl_eq (x := (text)) (fun x y e => by
  exact av_str (List.cons.inj e).1) (by simp [h]) σ
/-- sibyl/scan.made -/
def f26 (t : Token) : Option (Bool) :=
 f11 t.Text >>= fun r1 =>
 (if (r1.2.2 == 0) = true then
  (if ((r1.1.length : Int) == 1) = true then
   (rd r1.1 0 >>= fun e3 =>
   if (e3.Kind == t.Kind) = true then
    (some (e3.Text == t.Text))
   else
    some false)
  else
   some false)
 else
  some false : Option (Bool)) >>= fun o2 =>
 some o2
noncomputable def f26_ci : CI := (CI.or 11 f11_tbl (fun _ _ _ => none))
theorem f26_ci_ok (base : Nat) : CIOK E base f26_ci := (or_ok f11_tbl_ok no_ok)
theorem f26_res : Try.f26.results = #[.tmp 2] := rfl
theorem f26_rt : Try.f26.resultTypes = #[4] := rfl
theorem f26_ok (t : Token) (r : Bool) (h : f26 t = some r) : PureOK E 26 [.agg [.v (.int .i64 t.Kind), .v (.string (mkS t.Text)), .v (.bool t.N.Neg), .sl (List.map (cInt .u32) t.N.Num), .sl (List.map (cInt .u32) t.N.Den), .v (.int .i64 t.At)]] (.v (.bool r)) := by
 unfold f26 at h
 refine pof (fn := Try.f26) (nt := 38) Try.func26 rfl rfl rfl rfl (fun _ => rfl) (fun base c00 hU => ?_)
 refine Wk.wp (s2 := ⟨.agg [.v (.int .i64 t.Kind), .v (.string (mkS t.Text)), .v (.bool t.N.Neg), .sl (List.map (cInt .u32) t.N.Num), .sl (List.map (cInt .u32) t.N.Den), .v (.int .i64 t.At)] :: jj 37 [], St [], none, 0⟩) ?_ ?_
 ·exact Wk.weak hU [] _ (by decide) .nil wvS
 refine rs hU (f26_ci_ok _) rgI <| Wp.seq <| ?_
 obtain ⟨r1, hr1, h⟩ := bind_some h
 have hr1c := fun σ => show f26_ci 11 _ σ = _ from f11_call hr1 σ
 have fx := hr1c
 refine rq hU (f26_ci_ok _) rgIF <| thenN <| ?_
 obtain ⟨o2, ho2, h⟩ := bind_some h
 refine Wp.seq1 (JP := (fun ex s1 => ex = .nrm ∧ Wk base c00 nilStore s1 ⟨jj 2 (.v (.bool o2) :: jj 35 []), St [], none, 0⟩)) ?_ (fun ex s1 hp => ?_)
 ·replace h := ho2
  rcases Bool.eq_false_or_eq_true (r1.2.2 == 0) with hg7 | hg7
  ·rw [if_t hg7] at h
   rcases Bool.eq_false_or_eq_true ((r1.1.length : Int) == 1) with hg8 | hg8
   ·rw [if_t hg8] at h
    obtain ⟨e3, he3, h⟩ := bind_some h
    obtain ⟨he3a, he3b, he3c⟩ := rd_some he3
    rcases Bool.eq_false_or_eq_true (e3.Kind == t.Kind) with hg9 | hg9
    ·rw [if_t hg9] at h
     have fx := i6 he3a he3b he3c hg7 hg8 hg9
     refine Wp.regionT hU (f26_ci_ok _) rgIF (by kernel_rfl) <| ?_
     obtain rfl := sj h
     refine ⟨rfl, ?_⟩
     exact Wk.weak hU [] _ (by decide) .nil wvI
    ·rw [if_f hg9] at h
     have fx := i6 he3a he3b he3c hg7 hg8 hg9
     refine Wp.regionT hU (f26_ci_ok _) rgIF (by kernel_rfl) <| ?_
     obtain rfl := sj h
     refine ⟨rfl, ?_⟩
     exact Wk.weak hU [] _ (by decide) .nil wvI
   ·rw [if_f hg8] at h
    have fx := i2 hg7 hg8
    refine Wp.regionT hU (f26_ci_ok _) rgIF (by kernel_rfl) <| ?_
    obtain rfl := sj h
    refine ⟨rfl, ?_⟩
    exact Wk.weak hU [] _ (by decide) .nil wvI
  ·rw [if_f hg7] at h
   have fx := hg7
   refine Wp.regionT hU (f26_ci_ok _) rgIF (by kernel_rfl) <| ?_
   obtain rfl := sj h
   refine ⟨rfl, ?_⟩
   exact Wk.weak hU [] _ (by decide) .nil wvI
 ·obtain ⟨rfl, hp⟩ := hp
  refine thenN (hp.wp ?_)
  refine Wp.ret <| ?_
  obtain rfl := sj h
  refine ⟨.inl rfl, ?_⟩
  refine Rt.of <| ?_
  have fx := i2 f26_res f26_rt
  exact rtI
noncomputable def f26_tbl : CI := tbl 26 (fun p : Token => [.agg [.v (.int .i64 p.Kind), .v (.string (mkS p.Text)), .v (.bool p.N.Neg), .sl (List.map (cInt .u32) p.N.Num), .sl (List.map (cInt .u32) p.N.Den), .v (.int .i64 p.At)]]) (fun p => (f26 p).map fun r => .v (.bool r))
theorem f26_tbl_ok {base : Nat} : CIOK E base f26_tbl := tbl_okM fun p q h => f26_ok p q h
theorem f26_call {t : Token} {r : Bool} (h : f26 t = some r) (σ : Store) : f26_tbl 26 [.agg [.v (.int .i64 t.Kind), .v (.string (mkS t.Text)), .v (.bool t.N.Neg), .sl (List.map (cInt .u32) t.N.Num), .sl (List.map (cInt .u32) t.N.Den), .v (.int .i64 t.At)]] σ = some (.v (.bool r), σ, none) :=
 tbl_eq (x := (t)) (fun x y e => by
  exact av_agg injToken (List.cons.inj e).1) (by simp [h]) σ
def f16_l0 (ts : List Token) (v : Int) : Option (Ou (Str × Int) Unit) :=
 if (decide (v < (ts.length : Int))) = true then
  (rd ts v >>= fun e3 =>
  f26 (⟨e3.Kind, e3.Text, (⟨e3.N.Neg, e3.N.Num, e3.N.Den⟩ : Ratio), e3.At⟩ : Token) >>= fun r4 =>
  if (!r4) = true then
   (some (.ret ([], 40)))
  else
   f16_l0 ts (IntKind.i64.wrap (v + 1)))
 else
  some (.nxt ())
 partial_fixpoint
def f16_l1 (ts : List Token) (n : Int) (b_b : List Int) (v : Int) : Option (Ou (Str × Int) ((List Int))) :=
 if (decide (v < (ts.length : Int))) = true then
  ((rd ts v >>= fun e9 =>
  if (decide (v > 0)) = true then
   (f27 b_b 32 >>= fun r11 =>
   some (IntKind.i64.wrap ((IntKind.i64.wrap (n + 1)) + (e9.Text.length : Int))) >>= fun x12 =>
   if (decide (x12 > 4096)) = true then
    (some (.ret ([], 3)))
   else
    f28 r11 e9.Text >>= fun r14 =>
    some (.nxt (x12, r14.2)))
  else
   some (IntKind.i64.wrap (n + (e9.Text.length : Int))) >>= fun x15 =>
   if (decide (x15 > 4096)) = true then
    (some (.ret ([], 3)))
   else
    f28 b_b e9.Text >>= fun r17 =>
    some (.nxt (x15, r17.2)) : Option (Ou (Str × Int) (Int × (List Int)))) >>= fun o8 => match o8 with
  | .ret r0 => some (.ret r0)
  | .nxt wo8 =>
   f16_l1 ts wo8.1 wo8.2 (IntKind.i64.wrap (v + 1)))
 else
  some (.nxt b_b)
 partial_fixpoint
/-- sibyl/scan.Join -/
def f16 (ts : List Token) : Option (Str × Int) :=
 f16_l0 ts 0 >>= fun o1 => match o1 with
 | .ret r0 => some r0
 | .nxt wo1 =>
  f16_l1 ts 0 [] 0 >>= fun o6 => match o6 with
  | .ret r0 => some r0
  | .nxt wo6 =>
   f29 wo6 >>= fun r18 =>
   some (r18, 0)
noncomputable def f16_ci : CI := (CI.or 26 f26_tbl (fun _ _ _ => none))
theorem f16_ci_ok (base : Nat) : CIOK E base f16_ci := (or_ok f26_tbl_ok no_ok)
theorem f16_res : Try.f16.results = #[.tmp 2, .tmp 3] := rfl
theorem f16_rt : Try.f16.resultTypes = #[9, 24] := rfl
theorem f16_l0_ok {base : Nat} {c00 : Ctx} (ts : List Token) (hU : Under E base c00 nilStore) : ∀ (v : Int) (o1 : Ou (Str × Int) Unit), f16_l0 ts v = some o1 →
  WpL E base c00 nilStore (lb Try.f16 0) ⟨.sl (List.map cToken ts) :: jj 3 (.v (.int .i64 0) :: jj 5 (.sl (List.map cToken ts) :: .v (.int .i64 (ts.length : Int)) :: .v (.int .i64 v) :: jj 31 [])), St [], none, 0⟩ (fun ex s1 => match o1 with | .ret r0 => ex = .ret ∧ Rt E base c00 Try.f16 (.tup [.v (.string (mkS r0.1)), .v (.int .i64 r0.2)]) s1 | .nxt wo1 => ex = .exit 0 ∧ Wk base c00 nilStore s1 ⟨.sl (List.map cToken ts) :: jj 3 (.v (.int .i64 0) :: jj 39 []), St [], none, 0⟩) := by
 refine f16_l0.partial_correctness ts _ ?_
 intro lp__ ih v o1 h
 refine WpL.stepE (lbI Try.f16.eq_1) ?_
 refine rs hU (f16_ci_ok _) rgI <| Wp.seq <| ?_
 refine Wp.cond hU (t := decide (v < (ts.length : Int))) rfl (fun hc2 => ?_) (fun hc2 => ?_)
 ·rw [if_t hc2] at h
  refine Wp.skip <| thenN <| Wp.seq <| Wp.block <| Wp.seq <| ?_
  obtain ⟨e3, he3, h⟩ := bind_some h
  obtain ⟨he3a, he3b, he3c⟩ := rd_some he3
  have fx := i4 he3a he3b he3c hc2
  refine rq hU (f16_ci_ok _) rgIF <| thenN <| Wp.seq <| ?_
  obtain ⟨r4, hr4, h⟩ := bind_some h
  have hr4c := fun σ => show f16_ci 26 _ σ = _ from f26_call hr4 σ
  have fx := i2 hr4c hc2
  refine rq hU (f16_ci_ok _) rgIF <| thenN <| ?_
  refine Wp.cond hU (t := !r4) rfl (fun hc5 => ?_) (fun hc5 => ?_)
  ·rw [if_t hc5] at h
   refine Wp.seq <| ?_
   have fx := i2 hc2 hc5
   refine rq hU (f16_ci_ok _) rgIF <| thenN <| Wp.ret <| blkR <| thenR <| againR <| ?_
   obtain rfl := sj h
   refine ⟨rfl, ?_⟩
   refine Rt.of <| ?_
   have fx := i2 f16_res f16_rt
   exact rtI
  ·rw [if_f hc5] at h
   refine Wp.skip <| blkN <| thenN <| ?_
   have fx := i2 hc2 hc5
   refine rq hU (f16_ci_ok _) rgIF <| againN <| ?_
   refine Wk.wpL ?_ (ih (IntKind.i64.wrap (v + 1)) _ h)
   exact Wk.weak hU [] _ (by decide) .nil wvI
 ·rw [if_f hc2] at h
  refine Wp.exit <| thenE <| againE <| ?_
  obtain rfl := sj h
  refine ⟨rfl, ?_⟩
  exact Wk.weak hU [] _ (by decide) .nil wvI
theorem f16_l1_ok {base : Nat} {c00 : Ctx} (ts : List Token) (hU : Under E base c00 nilStore) : ∀ (n : Int) (b_b : List Int) (v : Int) (o6 : Ou (Str × Int) ((List Int))), f16_l1 ts n b_b v = some o6 →
  WpL E base c00 nilStore (lb Try.f16 1) ⟨jj 4 (.v (.int .i64 n) :: jj 2 (.tptr 0 57 :: jj 12 (.sl (List.map cToken ts) :: .v (.int .i64 (ts.length : Int)) :: .v (.int .i64 v) :: jj 21 []))), St [some ⟨2, false, false, [[.slf 0, .trow 1 5 ((b_b).length)]]⟩, some ⟨1, false, true, List.map (cInt .u8) b_b⟩], none, 0⟩ (fun ex s1 => match o6 with | .ret r0 => ex = .ret ∧ Rt E base c00 Try.f16 (.tup [.v (.string (mkS r0.1)), .v (.int .i64 r0.2)]) s1 | .nxt wo6 => ex = .exit 2 ∧ Wk base c00 nilStore s1 ⟨jj 7 (.tptr 0 57 :: jj 36 []), St [some ⟨2, false, false, [[.slf 0, .trow 1 5 ((wo6).length)]]⟩, some ⟨1, false, true, List.map (cInt .u8) wo6⟩], none, 0⟩) := by
 refine f16_l1.partial_correctness ts _ ?_
 intro lp__ ih n b_b v o6 h
 refine WpL.stepE (lbI Try.f16.eq_1) ?_
 refine rs hU (f16_ci_ok _) rgI <| Wp.seq <| ?_
 refine Wp.cond hU (t := decide (v < (ts.length : Int))) rfl (fun hc7 => ?_) (fun hc7 => ?_)
 ·rw [if_t hc7] at h
  refine Wp.skip <| thenN <| ?_
  obtain ⟨o8, ho8, h⟩ := bind_some h
  refine Wp.seq1 (JP := (fun ex s1 => match o8 with | .ret r0 => ex = .ret ∧ Rt E base c00 Try.f16 (.tup [.v (.string (mkS r0.1)), .v (.int .i64 r0.2)]) s1 | .nxt wo8 => ex = .nrm ∧ Wk base c00 nilStore s1 ⟨jj 4 (.v (.int .i64 wo8.1) :: jj 2 (.tptr 0 57 :: jj 12 (.sl (List.map cToken ts) :: .v (.int .i64 (ts.length : Int)) :: .v (.int .i64 v) :: jj 21 []))), St [some ⟨2, false, false, [[.slf 0, .trow 1 5 ((wo8.2).length)]]⟩, some ⟨1, false, true, List.map (cInt .u8) wo8.2⟩], none, 0⟩)) ?_ (fun ex s1 hp => ?_)
  ·replace h := ho8
   refine Wp.block <| Wp.seq <| ?_
   obtain ⟨e9, he9, h⟩ := bind_some h
   obtain ⟨he9a, he9b, he9c⟩ := rd_some he9
   have fx := i4 he9a he9b he9c hc7
   refine rq hU (f16_ci_ok _) rgIF <| thenN <| Wp.seq <| Wp.seq <| ?_
   have fx := hc7
   refine rq hU (f16_ci_ok _) rgIF <| thenN <| ?_
   refine Wp.cond hU (t := decide (v > 0)) rfl (fun hc10 => ?_) (fun hc10 => ?_)
   ·rw [if_t hc10] at h
    refine Wp.seq <| ?_
    obtain ⟨r11, hr11, h⟩ := bind_some h
    have hr11c : CallOK E base 27 [.tptr 0 57, .v (.int .u8 32)] (St [some ⟨2, false, false, [[.slf 0, .trow 1 5 ((b_b).length)]]⟩, some ⟨1, false, true, List.map (cInt .u8) b_b⟩, some ⟨6, false, false, [[.v (.int .i64 e9.Kind), .v (.string (mkS e9.Text)), .v (.bool e9.N.Neg), .sl (List.map (cInt .u32) e9.N.Num), .sl (List.map (cInt .u32) e9.N.Den), .v (.int .i64 e9.At)]]⟩]) (.v .nilIface) (St [some ⟨2, false, false, [[.slf 0, .trow 3 5 ((r11).length)]]⟩, none, some ⟨6, false, false, [[.v (.int .i64 e9.Kind), .v (.string (mkS e9.Text)), .v (.bool e9.N.Neg), .sl (List.map (cInt .u32) e9.N.Num), .sl (List.map (cInt .u32) e9.N.Den), .v (.int .i64 e9.At)]]⟩, some ⟨1, false, true, List.map (cInt .u8) r11⟩]) (some 0) := (f27_ok b_b 32 r11 hr11).at [0, 1] 0 rfl ⟨rfl, rfl, trivial⟩ rfl rfl rfl
    have fx := i2 hc7 hc10
    refine rq hU (rone_ok hr11c (f16_ci_ok _)) rgIF <| thenN <| ?_
    refine Wk.wp (s2 := ⟨jj 4 (.v (.int .i64 n) :: jj 2 (.tptr 0 57 :: jj 1 (.ptr 2 0 0 :: jj 10 (.sl (List.map cToken ts) :: .v (.int .i64 (ts.length : Int)) :: .v (.int .i64 v) :: jj 21 [])))), St [some ⟨2, false, false, [[.slf 0, .trow 1 5 ((r11).length)]]⟩, some ⟨1, false, true, List.map (cInt .u8) r11⟩, some ⟨6, false, false, [[.v (.int .i64 e9.Kind), .v (.string (mkS e9.Text)), .v (.bool e9.N.Neg), .sl (List.map (cInt .u32) e9.N.Num), .sl (List.map (cInt .u32) e9.N.Den), .v (.int .i64 e9.At)]]⟩], none, 0⟩) ?_ ?_
    ·exact Wk.weak hU [some 0, some 3, some 2] _ (by decide) wsI wvI
    refine rq hU (f16_ci_ok _) rgIF <| thenN <| Wp.seq <| ?_
    obtain ⟨x12, hx12, h⟩ := bind_some h
    replace hx12 := sj hx12
    have fx := i3 hx12 hc7 hc10
    refine rq hU (f16_ci_ok _) rgIF <| thenN <| Wp.seq <| Wp.seq <| ?_
    have fx := i2 hc7 hc10
    refine rq hU (f16_ci_ok _) rgIF <| thenN <| ?_
    refine Wp.cond hU (t := decide (x12 > 4096)) rfl (fun hc13 => ?_) (fun hc13 => ?_)
    ·rw [if_t hc13] at h
     refine Wp.seq <| ?_
     have fx := i3 hc7 hc10 hc13
     refine rq hU (f16_ci_ok _) rgIF <| thenN <| Wp.ret <| thenR <| blkR <| ?_
     obtain rfl := sj h
     refine ⟨rfl, ?_⟩
     refine Rt.of <| ?_
     have fx := i2 f16_res f16_rt
     exact rtI
    ·rw [if_f hc13] at h
     refine Wp.skip <| thenN <| ?_
     obtain ⟨r14, hr14, h⟩ := bind_some h
     have hr14c : CallOK E base 28 [.tptr 0 57, .v (.string (mkS e9.Text))] (St [some ⟨2, false, false, [[.slf 0, .trow 1 5 ((r11).length)]]⟩, some ⟨1, false, true, List.map (cInt .u8) r11⟩, some ⟨6, false, false, [[.v (.int .i64 e9.Kind), .v (.string (mkS e9.Text)), .v (.bool e9.N.Neg), .sl (List.map (cInt .u32) e9.N.Num), .sl (List.map (cInt .u32) e9.N.Den), .v (.int .i64 e9.At)]]⟩]) (.tup [.v (.int .i64 r14.1), .v .nilIface]) (St [some ⟨2, false, false, [[.slf 0, .trow 3 5 ((r14.2).length)]]⟩, none, some ⟨6, false, false, [[.v (.int .i64 e9.Kind), .v (.string (mkS e9.Text)), .v (.bool e9.N.Neg), .sl (List.map (cInt .u32) e9.N.Num), .sl (List.map (cInt .u32) e9.N.Den), .v (.int .i64 e9.At)]]⟩, some ⟨1, false, true, List.map (cInt .u8) r14.2⟩]) (some 0) := (f28_ok r11 e9.Text r14 hr14).at [0, 1] 0 rfl ⟨rfl, rfl, trivial⟩ rfl rfl rfl
     have fx := i3 hc7 hc10 hc13
     refine rq hU (rone_ok hr14c (f16_ci_ok _)) rgIF <| blkN <| ?_
     obtain rfl := sj h
     refine ⟨rfl, ?_⟩
     exact Wk.weak hU [some 0, some 3] _ (by decide) wsI wvI
   ·rw [if_f hc10] at h
    refine Wp.skip <| thenN <| Wp.seq <| ?_
    obtain ⟨x15, hx15, h⟩ := bind_some h
    replace hx15 := sj hx15
    have fx := i3 hx15 hc7 hc10
    refine rq hU (f16_ci_ok _) rgIF <| thenN <| Wp.seq <| Wp.seq <| ?_
    have fx := i2 hc7 hc10
    refine rq hU (f16_ci_ok _) rgIF <| thenN <| ?_
    refine Wp.cond hU (t := decide (x15 > 4096)) rfl (fun hc16 => ?_) (fun hc16 => ?_)
    ·rw [if_t hc16] at h
     refine Wp.seq <| ?_
     have fx := i3 hc7 hc10 hc16
     refine rq hU (f16_ci_ok _) rgIF <| thenN <| Wp.ret <| thenR <| blkR <| ?_
     obtain rfl := sj h
     refine ⟨rfl, ?_⟩
     refine Rt.of <| ?_
     have fx := i2 f16_res f16_rt
     exact rtI
    ·rw [if_f hc16] at h
     refine Wp.skip <| thenN <| ?_
     obtain ⟨r17, hr17, h⟩ := bind_some h
     have hr17c : CallOK E base 28 [.tptr 0 57, .v (.string (mkS e9.Text))] (St [some ⟨2, false, false, [[.slf 0, .trow 1 5 ((b_b).length)]]⟩, some ⟨1, false, true, List.map (cInt .u8) b_b⟩, some ⟨6, false, false, [[.v (.int .i64 e9.Kind), .v (.string (mkS e9.Text)), .v (.bool e9.N.Neg), .sl (List.map (cInt .u32) e9.N.Num), .sl (List.map (cInt .u32) e9.N.Den), .v (.int .i64 e9.At)]]⟩]) (.tup [.v (.int .i64 r17.1), .v .nilIface]) (St [some ⟨2, false, false, [[.slf 0, .trow 3 5 ((r17.2).length)]]⟩, none, some ⟨6, false, false, [[.v (.int .i64 e9.Kind), .v (.string (mkS e9.Text)), .v (.bool e9.N.Neg), .sl (List.map (cInt .u32) e9.N.Num), .sl (List.map (cInt .u32) e9.N.Den), .v (.int .i64 e9.At)]]⟩, some ⟨1, false, true, List.map (cInt .u8) r17.2⟩]) (some 0) := (f28_ok b_b e9.Text r17 hr17).at [0, 1] 0 rfl ⟨rfl, rfl, trivial⟩ rfl rfl rfl
     have fx := i3 hc7 hc10 hc16
     refine rq hU (rone_ok hr17c (f16_ci_ok _)) rgIF <| blkN <| ?_
     obtain rfl := sj h
     refine ⟨rfl, ?_⟩
     exact Wk.weak hU [some 0, some 3] _ (by decide) wsI wvI
  ·cases o8 with
   | ret r0 =>
    obtain ⟨rfl, hp⟩ := hp
    obtain rfl := sj h
    refine thenR <| againR <| ?_
    exact ⟨rfl, hp⟩
   | nxt wo8 =>
    obtain ⟨rfl, hp⟩ := hp
    dsimp only at h
    refine thenN (hp.wp ?_)
    have fx := hc7
    refine rq hU (f16_ci_ok _) rgIF <| againN <| ?_
    refine Wk.wpL ?_ (ih wo8.1 wo8.2 (IntKind.i64.wrap (v + 1)) _ h)
    exact Wk.weak hU [some 0, some 1] _ (by decide) wsI wvI
 ·rw [if_f hc7] at h
  refine Wp.exit <| thenE <| againE <| ?_
  obtain rfl := sj h
  refine ⟨rfl, ?_⟩
  exact Wk.weak hU [some 0, some 1] _ (by decide) wsI wvI
theorem f16_ok (ts : List Token) (r : Str × Int) (h : f16 ts = some r) : PureOK E 16 [.sl (List.map cToken ts)] (.tup [.v (.string (mkS r.1)), .v (.int .i64 r.2)]) := by
 unfold f16 at h
 refine pof (fn := Try.f16) (nt := 44) Try.func16 rfl rfl rfl rfl (fun _ => rfl) (fun base c00 hU => ?_)
 refine Wk.wp (s2 := ⟨.sl (List.map cToken ts) :: jj 43 [], St [], none, 0⟩) ?_ ?_
 ·exact Wk.weak hU [] _ (by decide) .nil wvS
 refine rs hU (f16_ci_ok _) rgI <| rs hU (f16_ci_ok _) rgI <| Wp.seq <| rs hU (f16_ci_ok _) rgI <| Wp.block <| ?_
 obtain ⟨o1, ho1, h⟩ := bind_some h
 refine Wp.loop <| ?_
 refine Tw.mono (Wk.wpL (s2 := ⟨.sl (List.map cToken ts) :: jj 3 (.v (.int .i64 0) :: jj 5 (.sl (List.map cToken ts) :: .v (.int .i64 (ts.length : Int)) :: .v (.int .i64 0) :: jj 31 [])), St [], none, 0⟩) ?_ (f16_l0_ok ts hU 0 o1 ho1)) (fun ex s1 hp => ?_)
 ·exact Wk.weak hU [] _ (by decide) .nil wvI
 ·cases o1 with
  | ret r0 =>
   obtain ⟨rfl, hp⟩ := hp
   obtain rfl := sj h
   refine blkR <| thenR <| ?_
   exact ⟨.inl rfl, hp⟩
  | nxt wo1 =>
   obtain ⟨rfl, hp⟩ := hp
   dsimp only at h
   refine blkE <| thenN <| hp.wp <| rs hU (f16_ci_ok _) rgI <| ?_
   refine Wk.wp (s2 := ⟨.sl (List.map cToken ts) :: jj 3 (.v (.int .i64 0) :: jj 2 (.tptr 0 57 :: jj 36 [])), St [some ⟨2, false, false, [[.slf 0, .trow 1 5 0]]⟩, some ⟨1, false, true, []⟩], none, 0⟩) ?_ ?_
   ·exact Wk.weak hU [some 0, none] _ (by decide) wsI wvI
   refine Wp.seq <| rs hU (f16_ci_ok _) rgI <| Wp.block <| ?_
   obtain ⟨o6, ho6, h⟩ := bind_some h
   refine Wp.loop <| ?_
   refine Tw.mono (Wk.wpL (s2 := ⟨jj 4 (.v (.int .i64 0) :: jj 2 (.tptr 0 57 :: jj 12 (.sl (List.map cToken ts) :: .v (.int .i64 (ts.length : Int)) :: .v (.int .i64 0) :: jj 21 []))), St [some ⟨2, false, false, [[.slf 0, .trow 1 5 (0)]]⟩, some ⟨1, false, true, List.map (cInt .u8) []⟩], none, 0⟩) ?_ (f16_l1_ok ts hU 0 [] 0 o6 ho6)) (fun ex s1 hp => ?_)
   ·exact Wk.weak hU [some 0, some 1] _ (by decide) wsI wvI
   ·cases o6 with
    | ret r0 =>
     obtain ⟨rfl, hp⟩ := hp
     obtain rfl := sj h
     refine blkR <| thenR <| ?_
     exact ⟨.inl rfl, hp⟩
    | nxt wo6 =>
     obtain ⟨rfl, hp⟩ := hp
     dsimp only at h
     refine blkE <| thenN <| hp.wp <| Wp.seq <| ?_
     obtain ⟨r18, hr18, h⟩ := bind_some h
     have hr18c : CallOK E base 29 [.tptr 0 57] (St [some ⟨2, false, false, [[.slf 0, .trow 1 5 ((wo6).length)]]⟩, some ⟨1, false, true, List.map (cInt .u8) wo6⟩]) (.v (.string (mkS r18))) (St [some ⟨2, false, false, [[.slf 0, .trow 1 5 ((wo6).length)]]⟩, none]) (some 1) := f29_at base [some ⟨2, false, false, [[.slf 0, .trow 1 5 ((wo6).length)]]⟩, some ⟨1, false, true, List.map (cInt .u8) wo6⟩] 0 1 wo6 r18 hr18 rfl rfl
     refine rq hU (rone_ok hr18c (f16_ci_ok _)) rgI <| thenN <| Wp.ret <| ?_
     obtain rfl := sj h
     refine ⟨.inl rfl, ?_⟩
     refine Rt.of <| ?_
     have fx := i2 f16_res f16_rt
     exact rtI
noncomputable def f16_tbl : CI := tbl 16 (fun p : (List Token) => [.sl (List.map cToken p)]) (fun p => (f16 p).map fun r => .tup [.v (.string (mkS r.1)), .v (.int .i64 r.2)])
theorem f16_tbl_ok {base : Nat} : CIOK E base f16_tbl := tbl_okM fun p q h => f16_ok p q h
theorem f16_call {ts : List Token} {r : Str × Int} (h : f16 ts = some r) (σ : Store) : f16_tbl 16 [.sl (List.map cToken ts)] σ = some (.tup [.v (.string (mkS r.1)), .v (.int .i64 r.2)], σ, none) :=
 tbl_eq (x := (ts)) (fun x y e => by
  exact av_sl injToken (List.cons.inj e).1) (by simp [h]) σ
/-- sibyl/sibyllaw04.wakes -/
def f10  : Option (Bool) :=
 f11 [40, 97, 32, 46, 32, 39, 98, 41, 32, 59, 32, 120, 10, 45, 49, 47, 50] >>= fun r1 =>
 f11 [97, 32, 53, 120] >>= fun r2 =>
 if (r1.2.2 != 0) = true then
  (some false)
 else
  if (r1.2.1 != 0) = true then
   (some false)
  else
   if ((r1.1.length : Int) != 7) = true then
    (some false)
   else
    if (r2.2.2 != 40) = true then
     (some false)
    else
     if (r2.2.1 != 2) = true then
      (some false)
     else
      f16 r1.1 >>= fun r4 =>
      (if (r4.2 == 0) = true then
       (if (r4.1 == [40, 32, 97, 32, 46, 32, 39, 32, 98, 32, 41, 32, 45, 49, 47, 50]) = true then
        (rd r1.1 6 >>= fun e6 =>
        if (e6.Kind == 5) = true then
         (if (e6.At == 13) = true then
          (f14 [115, 101, 116, 45, 99, 97, 114, 33] >>= fun r7 =>
          if r7 = true then
           (f14 [49, 97] >>= fun r8 =>
           some (!r8))
          else
           some false)
         else
          some false)
        else
         some false)
       else
        some false)
      else
       some false : Option (Bool)) >>= fun o5 =>
      some o5
noncomputable def f10_ci : CI := (CI.or 11 f11_tbl (CI.or 16 f16_tbl (CI.or 14 f14_tbl (fun _ _ _ => none))))
theorem f10_ci_ok (base : Nat) : CIOK E base f10_ci := (or_ok f11_tbl_ok (or_ok f16_tbl_ok (or_ok f14_tbl_ok no_ok)))
theorem f10_res : Try.f10.results = #[.tmp 0] := rfl
theorem f10_rt : Try.f10.resultTypes = #[4] := rfl
theorem f10_ok  (r : Bool) (h : f10  = some r) : PureOK E 10 [] (.v (.bool r)) := by
 unfold f10 at h
 refine pof (fn := Try.f10) (nt := 70) Try.func10 rfl rfl rfl rfl (fun _ => rfl) (fun base c00 hU => ?_)
 refine Wk.wp (s2 := ⟨jj 70 [], St [], none, 0⟩) ?_ ?_
 ·exact Wk.weak hU [] _ (by decide) .nil wvS
 refine rs hU (f10_ci_ok _) rgI <| Wp.seq <| ?_
 obtain ⟨r1, hr1, h⟩ := bind_some h
 have hr1c := fun σ => show f10_ci 11 _ σ = _ from f11_call hr1 σ
 try simp only [List.map_cons, List.map_nil, cInt_eq, cBool_eq, cStr_eq, cSl_eq, tys] at hr1c
 have fx := hr1c
 refine rq hU (f10_ci_ok _) rgIF <| thenN <| Wp.seq <| ?_
 obtain ⟨r2, hr2, h⟩ := bind_some h
 have hr2c := fun σ => show f10_ci 11 _ σ = _ from f11_call hr2 σ
 try simp only [List.map_cons, List.map_nil, cInt_eq, cBool_eq, cStr_eq, cSl_eq, tys] at hr2c
 have fx := hr2c
 refine rq hU (f10_ci_ok _) rgIF <| thenN <| Wp.seq <| Wp.seq <| ?_
 rcases Bool.eq_false_or_eq_true (r1.2.2 != 0) with hg34 | hg34
 ·rw [if_t hg34] at h
  have fx := hg34
  refine rq hU (f10_ci_ok _) rgIF <| thenN <| ?_
  refine Wp.cond hU (t := true) rfl (fun _ => ?_) (fun hc => by cases hc)
  refine rs hU (f10_ci_ok _) rgIF <| Wp.ret <| thenR <| ?_
  obtain rfl := sj h
  refine ⟨.inl rfl, ?_⟩
  refine Rt.of <| ?_
  have fx := i2 f10_res f10_rt
  exact rtI
 ·rw [if_f hg34] at h
  rcases Bool.eq_false_or_eq_true (r1.2.1 != 0) with hg35 | hg35
  ·rw [if_t hg35] at h
   have fx := i2 hg34 hg35
   refine rq hU (f10_ci_ok _) rgIF <| thenN <| ?_
   refine Wp.cond hU (t := true) rfl (fun _ => ?_) (fun hc => by cases hc)
   refine rs hU (f10_ci_ok _) rgIF <| Wp.ret <| thenR <| ?_
   obtain rfl := sj h
   refine ⟨.inl rfl, ?_⟩
   refine Rt.of <| ?_
   have fx := i2 f10_res f10_rt
   exact rtI
  ·rw [if_f hg35] at h
   rcases Bool.eq_false_or_eq_true ((r1.1.length : Int) != 7) with hg36 | hg36
   ·rw [if_t hg36] at h
    have fx := i3 hg34 hg35 hg36
    refine rq hU (f10_ci_ok _) rgIF <| thenN <| ?_
    refine Wp.cond hU (t := true) rfl (fun _ => ?_) (fun hc => by cases hc)
    refine rs hU (f10_ci_ok _) rgIF <| Wp.ret <| thenR <| ?_
    obtain rfl := sj h
    refine ⟨.inl rfl, ?_⟩
    refine Rt.of <| ?_
    have fx := i2 f10_res f10_rt
    exact rtI
   ·rw [if_f hg36] at h
    rcases Bool.eq_false_or_eq_true (r2.2.2 != 40) with hg37 | hg37
    ·rw [if_t hg37] at h
     have fx := i4 hg34 hg35 hg36 hg37
     refine rq hU (f10_ci_ok _) rgIF <| thenN <| ?_
     refine Wp.cond hU (t := true) rfl (fun _ => ?_) (fun hc => by cases hc)
     refine rs hU (f10_ci_ok _) rgIF <| Wp.ret <| thenR <| ?_
     obtain rfl := sj h
     refine ⟨.inl rfl, ?_⟩
     refine Rt.of <| ?_
     have fx := i2 f10_res f10_rt
     exact rtI
    ·rw [if_f hg37] at h
     have fx := i4 hg34 hg35 hg36 hg37
     refine rq hU (f10_ci_ok _) rgIF <| thenN <| ?_
     refine Wp.cond hU (t := r2.2.1 != 2) rfl (fun hc3 => ?_) (fun hc3 => ?_)
     ·rw [if_t hc3] at h
      refine Wp.seq <| ?_
      have fx := i5 hg34 hg35 hg36 hg37 hc3
      refine rq hU (f10_ci_ok _) rgIF <| thenN <| Wp.ret <| thenR <| ?_
      obtain rfl := sj h
      refine ⟨.inl rfl, ?_⟩
      refine Rt.of <| ?_
      have fx := i2 f10_res f10_rt
      exact rtI
     ·rw [if_f hc3] at h
      refine Wp.skip <| thenN <| Wp.seq <| ?_
      obtain ⟨r4, hr4, h⟩ := bind_some h
      have hr4c := fun σ => show f10_ci 16 _ σ = _ from f16_call hr4 σ
      have fx := i6 hr4c hg34 hg35 hg36 hg37 hc3
      refine rq hU (f10_ci_ok _) rgIF <| thenN <| ?_
      obtain ⟨o5, ho5, h⟩ := bind_some h
      refine Wp.seq1 (JP := (fun ex s1 => ex = .nrm ∧ Wk base c00 nilStore s1 ⟨.v (.bool o5) :: jj 69 [], St [], none, 0⟩)) ?_ (fun ex s1 hp => ?_)
      ·replace h := ho5
       rcases Bool.eq_false_or_eq_true (r4.2 == 0) with hg43 | hg43
       ·rw [if_t hg43] at h
        rcases Bool.eq_false_or_eq_true (r4.1 == [40, 32, 97, 32, 46, 32, 39, 32, 98, 32, 41, 32, 45, 49, 47, 50]) with hg44 | hg44
        ·rw [if_t hg44] at h
         obtain ⟨e6, he6, h⟩ := bind_some h
         obtain ⟨he6a, he6b, he6c⟩ := rd_some he6
         rcases Bool.eq_false_or_eq_true (e6.Kind == 5) with hg45 | hg45
         ·rw [if_t hg45] at h
          rcases Bool.eq_false_or_eq_true (e6.At == 13) with hg46 | hg46
          ·rw [if_t hg46] at h
           obtain ⟨r7, hr7, h⟩ := bind_some h
           have hr7c := fun σ => show f10_ci 14 _ σ = _ from f14_call hr7 σ
           try simp only [List.map_cons, List.map_nil, cInt_eq, cBool_eq, cStr_eq, cSl_eq, tys] at hr7c
           rcases Bool.eq_false_or_eq_true (r7) with hg47 | hg47
           ·rw [if_t hg47] at h
            obtain ⟨r8, hr8, h⟩ := bind_some h
            have hr8c := fun σ => show f10_ci 14 _ σ = _ from f14_call hr8 σ
            try simp only [List.map_cons, List.map_nil, cInt_eq, cBool_eq, cStr_eq, cSl_eq, tys] at hr8c
            have fx := i9 he6a he6b he6c hr7c hr8c hg34 hg35 hg36 (i7 hg37 hc3 hg43 hg44 hg45 hg46 hg47)
            refine rq hU (f10_ci_ok _) rgIF <| ?_
            obtain rfl := sj h
            refine ⟨rfl, ?_⟩
            exact Wk.weak hU [] _ (by decide) .nil wvI
           ·rw [if_f hg47] at h
            have fx := i9 he6a he6b he6c hr7c hg34 hg35 hg36 hg37 (i6 hc3 hg43 hg44 hg45 hg46 hg47)
            refine rq hU (f10_ci_ok _) rgIF <| ?_
            obtain rfl := sj h
            refine ⟨rfl, ?_⟩
            exact Wk.weak hU [] _ (by decide) .nil wvI
          ·rw [if_f hg46] at h
           have fx := i9 he6a he6b he6c hg34 hg35 hg36 hg37 hc3 (i4 hg43 hg44 hg45 hg46)
           refine rq hU (f10_ci_ok _) rgIF <| ?_
           obtain rfl := sj h
           refine ⟨rfl, ?_⟩
           exact Wk.weak hU [] _ (by decide) .nil wvI
         ·rw [if_f hg45] at h
          have fx := i9 he6a he6b he6c hg34 hg35 hg36 hg37 hc3 (i3 hg43 hg44 hg45)
          refine rq hU (f10_ci_ok _) rgIF <| ?_
          obtain rfl := sj h
          refine ⟨rfl, ?_⟩
          exact Wk.weak hU [] _ (by decide) .nil wvI
        ·rw [if_f hg44] at h
         have fx := i7 hg34 hg35 hg36 hg37 hc3 hg43 hg44
         refine rq hU (f10_ci_ok _) rgIF <| ?_
         obtain rfl := sj h
         refine ⟨rfl, ?_⟩
         exact Wk.weak hU [] _ (by decide) .nil wvI
       ·rw [if_f hg43] at h
        have fx := i6 hg34 hg35 hg36 hg37 hc3 hg43
        refine rq hU (f10_ci_ok _) rgIF <| ?_
        obtain rfl := sj h
        refine ⟨rfl, ?_⟩
        exact Wk.weak hU [] _ (by decide) .nil wvI
      ·obtain ⟨rfl, hp⟩ := hp
       refine thenN (hp.wp ?_)
       refine Wp.ret <| ?_
       obtain rfl := sj h
       refine ⟨.inl rfl, ?_⟩
       refine Rt.of <| ?_
       have fx := i2 f10_res f10_rt
       exact rtI
noncomputable def f10_tbl : CI := tbl 10 (fun p : Unit => []) (fun p => (f10 ).map fun r => .v (.bool r))
theorem f10_tbl_ok {base : Nat} : CIOK E base f10_tbl := tbl_okM fun p q h => f10_ok  q h
theorem f10_call  {r : Bool} (h : f10  = some r) (σ : Store) : f10_tbl 10 [] σ = some (.v (.bool r), σ, none) :=
 tbl_eq (x := ()) (fun x y e => by
  rfl) (by simp [h]) σ
end Go.Bx.Scan

/- Naturals as lists of limbs: what a list is worth. Plain Lean. (Own text.) -/
namespace Go.Bx.Scan
set_option linter.unusedVariables false
set_option linter.unusedSimpArgs false
set_option linter.unusedSectionVars false
open Go.Proofs
set_option linter.unusedVariables false
set_option linter.unusedSimpArgs false

def Lim (l : List Int) : Prop := ∀ x ∈ l, 0 ≤ x ∧ x < 4294967296
def val : List Int → Int
  | [] => 0
  | x :: l => x + 4294967296 * val l
def pw (n : Nat) : Int := 4294967296 ^ n
theorem pw_0 : pw 0 = 1 := rfl
theorem pw_s (n : Nat) : pw (n + 1) = 4294967296 * pw n := by simp only [pw, Int.pow_succ]; omega
theorem pw_add (m n : Nat) : pw (m + n) = pw m * pw n := by simp only [pw, Int.pow_add]
theorem pw_pos : ∀ n : Nat, 0 < pw n
  | 0 => by decide
  | n + 1 => by have := pw_pos n; rw [pw_s]; omega
theorem pw_mono {m n : Nat} (h : m ≤ n) : pw m ≤ pw n := by
  obtain ⟨k, rfl⟩ := Nat.exists_eq_add_of_le h
  rw [pw_add]; have h1 := pw_pos m; have h2 := pw_pos k
  have : pw m * 1 ≤ pw m * pw k := Int.mul_le_mul_of_nonneg_left (by omega) (by omega)
  omega

theorem Lim.nil : Lim [] := fun x h => by simp at h
theorem Lim.cons {x : Int} {l : List Int} (h : 0 ≤ x ∧ x < 4294967296) (k : Lim l) : Lim (x :: l) := fun y hy => by
  rcases List.mem_cons.1 hy with rfl | hy
  · exact h
  · exact k y hy
theorem Lim.head {x : Int} {l : List Int} (h : Lim (x :: l)) : 0 ≤ x ∧ x < 4294967296 := h x (by simp)
theorem Lim.tail {x : Int} {l : List Int} (h : Lim (x :: l)) : Lim l := fun y hy => h y (by simp [hy])
theorem Lim.append {a b : List Int} (h : Lim a) (k : Lim b) : Lim (a ++ b) := fun y hy => by
  rcases List.mem_append.1 hy with hy | hy
  · exact h y hy
  · exact k y hy
theorem Lim.left {a b : List Int} (h : Lim (a ++ b)) : Lim a := fun y hy => h y (by simp [hy])
theorem Lim.right {a b : List Int} (h : Lim (a ++ b)) : Lim b := fun y hy => h y (by simp [hy])
theorem Lim.take {a : List Int} (h : Lim a) (n : Nat) : Lim (a.take n) := fun y hy => h y (List.mem_of_mem_take hy)
theorem Lim.drop {a : List Int} (h : Lim a) (n : Nat) : Lim (a.drop n) := fun y hy => h y (List.mem_of_mem_drop hy)
theorem Lim.get {a : List Int} (h : Lim a) {n : Nat} (hn : n < a.length) : 0 ≤ a[n] ∧ a[n] < 4294967296 := h _ (List.getElem_mem hn)
theorem Lim.set {a : List Int} (h : Lim a) {n : Nat} {x : Int} (hx : 0 ≤ x ∧ x < 4294967296) : Lim (a.set n x) := fun y hy => by
  rcases List.mem_or_eq_of_mem_set hy with hy | rfl
  · exact h y hy
  · exact hx
theorem Lim.zeros (n : Nat) : Lim (List.replicate n 0) := fun y hy => by rw [(List.mem_replicate.1 hy).2]; decide
theorem Lim.reverse {a : List Int} (h : Lim a) : Lim a.reverse := fun y hy => h y (List.mem_reverse.1 hy)

theorem val_nil : val [] = 0 := rfl
theorem val_cons (x : Int) (l : List Int) : val (x :: l) = x + 4294967296 * val l := rfl
theorem val_one (x : Int) : val [x] = x := by simp [val]
theorem val_append : ∀ a b : List Int, val (a ++ b) = val a + pw a.length * val b
  | [], b => by rw [List.nil_append, val_nil, List.length_nil, pw_0]; omega
  | x :: a, b => by rw [List.cons_append, val_cons, val_cons, val_append a b, List.length_cons, pw_s]; grind
theorem val_nonneg : ∀ {l : List Int}, Lim l → 0 ≤ val l
  | [], _ => by decide
  | x :: l, h => by have h1 := h.head; have h2 := val_nonneg h.tail; rw [val_cons]; omega
theorem val_lt : ∀ {l : List Int}, Lim l → val l < pw l.length
  | [], _ => by decide
  | x :: l, h => by have h1 := h.head; have h2 := val_lt h.tail; rw [val_cons, List.length_cons, pw_s]; omega
theorem val_zeros : ∀ n : Nat, val (List.replicate n 0) = 0
  | 0 => rfl
  | n + 1 => by rw [List.replicate_succ, val_cons, val_zeros n]; omega
theorem val_take_succ {l : List Int} {i : Nat} (h : i < l.length) : val (l.take (i + 1)) = val (l.take i) + pw i * l[i] := by
  rw [List.take_succ_eq_append_getElem h, val_append, val_one, List.length_take, Nat.min_eq_left (by omega)]
theorem val_split {l : List Int} {i : Nat} (h : i ≤ l.length) : val l = val (l.take i) + pw i * val (l.drop i) := by
  have := val_append (l.take i) (l.drop i)
  rwa [List.take_append_drop, List.length_take, Nat.min_eq_left h] at this
theorem val_drop {l : List Int} {i : Nat} (h : i < l.length) : val (l.drop i) = l[i] + 4294967296 * val (l.drop (i + 1)) := by
  rw [List.drop_eq_getElem_cons h, val_cons]

/-- Without noughts at the end. -/
def trimL (l : List Int) : List Int := (l.reverse.dropWhile (· == 0)).reverse
theorem trim_nil : trimL [] = [] := rfl
theorem trim_snoc (l : List Int) (x : Int) : trimL (l ++ [x]) = if x = 0 then trimL l else l ++ [x] := by
  unfold trimL
  rw [List.reverse_append, List.reverse_singleton, List.singleton_append, List.dropWhile_cons]
  by_cases h : x = 0
  · subst h; simp
  · rw [if_neg (by simpa using h), if_neg h]; simp
theorem snocInd {P : List Int → Prop} (h0 : P []) (hs : ∀ l x, P l → P (l ++ [x])) (l : List Int) : P l := by
  rw [← List.reverse_reverse l]
  induction l.reverse with
  | nil => exact h0
  | cons x l ih => rw [List.reverse_cons]; exact hs _ _ ih
theorem trim_val (l : List Int) : val (trimL l) = val l := by
  induction l using snocInd with
  | h0 => rfl
  | hs l x ih =>
    rw [trim_snoc]
    split
    · rename_i h; subst h; rw [ih, val_append, val_one]; omega
    · rfl
theorem trim_lim {l : List Int} (h : Lim l) : Lim (trimL l) := by
  induction l using snocInd with
  | h0 => exact h
  | hs l x ih =>
    rw [trim_snoc]
    split
    · exact ih h.left
    · exact h
theorem trim_le (l : List Int) : (trimL l).length ≤ l.length := by
  induction l using snocInd with
  | h0 => exact Nat.le_refl _
  | hs l x ih =>
    rw [trim_snoc]
    split
    · simp; omega
    · exact Nat.le_refl _
theorem trim_take (l : List Int) : trimL l = l.take (trimL l).length := by
  induction l using snocInd with
  | h0 => rfl
  | hs l x ih =>
    rw [trim_snoc]
    split
    · have := trim_le l
      rw [List.take_append_of_le_length this]; exact ih
    · rw [List.take_length]
/-- In form. -/
def Norm (l : List Int) : Prop := Lim l ∧ trimL l = l
theorem trim_norm {l : List Int} (h : Lim l) : Norm (trimL l) := by
  refine ⟨trim_lim h, ?_⟩
  induction l using snocInd with
  | h0 => rfl
  | hs l x ih =>
    rw [trim_snoc]
    split
    · exact ih h.left
    · rename_i hx; rw [trim_snoc, if_neg hx]
theorem Norm.nil : Norm [] := ⟨Lim.nil, rfl⟩
theorem Norm.snoc {l : List Int} {x : Int} (h : Norm (l ++ [x])) : x ≠ 0 := by
  intro hx; have h2 := h.2; rw [trim_snoc, if_pos hx] at h2
  have := trim_le l; rw [h2, List.length_append, List.length_singleton] at this; omega
theorem norm_snoc {l : List Int} {x : Int} (h : Lim (l ++ [x])) (hx : x ≠ 0) : Norm (l ++ [x]) := ⟨h, by rw [trim_snoc, if_neg hx]⟩
theorem snoc_cases (l : List Int) : l = [] ∨ ∃ m x, l = m ++ [x] := by
  induction l using snocInd with
  | h0 => exact .inl rfl
  | hs l x _ => exact .inr ⟨l, x, rfl⟩
theorem Norm.ge {l : List Int} (h : Norm l) (hl : l ≠ []) : pw (l.length - 1) ≤ val l := by
  rcases snoc_cases l with rfl | ⟨m, x, rfl⟩
  · exact absurd rfl hl
  · have h1 := h.snoc
    have h2 := h.1 x (by simp)
    have h3 := val_nonneg h.1.left
    have h4 := pw_pos m.length
    rw [val_append, val_one, List.length_append, List.length_singleton, Nat.add_sub_cancel]
    have : pw m.length * 1 ≤ pw m.length * x := Int.mul_le_mul_of_nonneg_left (by omega) (by omega)
    omega
theorem Norm.pos {l : List Int} (h : Norm l) (hl : l ≠ []) : 0 < val l := by
  have h1 := h.ge hl; have h2 := pw_pos (l.length - 1); omega
theorem Norm.zero {l : List Int} (h : Norm l) : val l = 0 ↔ l = [] := ⟨fun h0 => by
  by_cases hl : l = []
  · exact hl
  · have := h.pos hl; omega, fun h => by subst h; rfl⟩
theorem Norm.len_lt {a b : List Int} (ha : Lim a) (hb : Norm b) (h : a.length < b.length) : val a < val b := by
  have h1 := val_lt ha
  have h2 := hb.ge (by intro h'; subst h'; simp at h)
  have h3 : pw a.length ≤ pw (b.length - 1) := pw_mono (by omega)
  omega
theorem lim_eq : ∀ {a b : List Int}, Lim a → Lim b → a.length = b.length → val a = val b → a = b
  | [], [], _, _, _, _ => rfl
  | [], _ :: _, _, _, h, _ => by simp at h
  | _ :: _, [], _, _, h, _ => by simp at h
  | x :: a, y :: b, ha, hb, hl, hv => by
    rw [val_cons, val_cons] at hv
    have h1 := ha.head; have h2 := hb.head
    have : x = y := by omega
    subst this
    rw [lim_eq ha.tail hb.tail (by simpa using hl) (by omega)]
theorem Norm.eq {a b : List Int} (ha : Norm a) (hb : Norm b) (h : val a = val b) : a = b := by
  refine lim_eq ha.1 hb.1 ?_ h
  rcases Nat.lt_trichotomy a.length b.length with hl | hl | hl
  · have := Norm.len_lt ha.1 hb hl; omega
  · exact hl
  · have := Norm.len_lt hb.1 ha hl; omega
theorem trim_of_norm {l : List Int} (h : Norm l) : trimL l = l := h.2
theorem Norm.len_le {a : List Int} {n : Nat} (ha : Norm a) (h : val a < pw n) : a.length ≤ n := by
  by_cases hl : a = []
  · subst hl; simp
  · have h1 := ha.ge hl
    apply Classical.byContradiction
    intro hc
    have : pw n ≤ pw (a.length - 1) := pw_mono (by omega)
    omega

theorem wrap_u64 (n : Int) : IntKind.u64.wrap n = n % 18446744073709551616 := by simp [IntKind.wrap, IntKind.bits, IntKind.signed]
theorem wu64 {x : Int} (h : 0 ≤ x) (h2 : x < 18446744073709551616) : IntKind.u64.wrap x = x := by rw [wrap_u64]; omega
theorem wu32 {x : Int} (h : 0 ≤ x) (h2 : x < 4294967296) : IntKind.u32.wrap x = x := by rw [IntKind.wrap_u32]; omega
theorem rdN {α : Type} {l : List α} {i : Int} {n : Nat} (hi : i = (n : Int)) (h : n < l.length) : rd l i = some l[n] := by subst hi; exact rd_nat h
theorem setN {α : Type} {l : List α} {i : Int} {n : Nat} (x : α) (hi : i = (n : Int)) : setL l i x = l.set n x := by subst hi; rfl
theorem mkN {α : Type} {b : Nat} {i : Int} {n : Nat} (x : α) (hi : i = (n : Int)) (h : b * n ≤ 140737488355328) (hn : n ≤ 9223372036854775807) : mk b i x = some (List.replicate n x) := by
  subst hi; unfold mk; rw [if_pos ⟨by omega, by omega, by omega⟩]; rfl
theorem cutN {α : Type} {l : List α} {i j : Int} {m n : Nat} (hi : i = (m : Int)) (hj : j = (n : Int)) (h : m ≤ n) (h2 : n ≤ l.length) : cutL l i j = some ((l.take n).drop m) := by
  subst hi hj; unfold cutL; rw [if_pos ⟨by omega, by omega, by omega, by omega⟩]; rfl
theorem apN {α : Type} {b : Nat} {l m : List α} (h : (l.length + m.length) * b ≤ 140737488355328) : ap b l m = some (l ++ m) := ap_of h

/-! ### nats.cut, nats.Trim -/
theorem f72_l0_eq (a : List Int) (ha : a.length < 1000000000) : ∀ n : Nat, n ≤ a.length → f72_l0 a n = some ((trimL (a.take n)).length : Int)
  | 0, _ => by rw [f72_l0, if_neg (by simp)]; simp [trimL]
  | n + 1, hn => by
    have h1 : n < a.length := by omega
    rw [f72_l0, if_pos (by simp <;> omega), show IntKind.i64.wrap (((n + 1 : Nat) : Int) - 1) = (n : Int) by rw [w64 (by omega) (by omega)]; omega, rd_nat h1]
    simp only [bind_ok]
    rw [List.take_succ_eq_append_getElem h1, trim_snoc]
    by_cases h0 : a[n] = 0
    · rw [if_pos (by simp [h0]), if_pos h0]; exact f72_l0_eq a ha n (by omega)
    · rw [if_neg (by simp [h0]), if_neg h0, List.length_append, List.length_take, Nat.min_eq_left (by omega), List.length_singleton]
theorem f72_eq (a : List Int) (ha : a.length < 1000000000) : f72 a = some (trimL a) := by
  unfold f72
  have h := f72_l0_eq a ha a.length (Nat.le_refl _)
  rw [List.take_length] at h
  rw [h]
  simp only [bind_ok]
  rw [cutN (i := 0) (m := 0) rfl rfl (Nat.zero_le _) (trim_le a)]
  simp only [bind_ok, List.drop_zero]
  rw [← trim_take]
theorem f62_l0_eq (a : List Int) (ha : a.length < 1000000000) : ∀ n : Nat, n ≤ a.length → f62_l0 a n = some ((trimL (a.take n)).length : Int)
  | 0, _ => by rw [f62_l0, if_neg (by simp)]; simp [trimL]
  | n + 1, hn => by
    have h1 : n < a.length := by omega
    rw [f62_l0, if_pos (by simp <;> omega), show IntKind.i64.wrap (((n + 1 : Nat) : Int) - 1) = (n : Int) by rw [w64 (by omega) (by omega)]; omega, rd_nat h1]
    simp only [bind_ok]
    rw [List.take_succ_eq_append_getElem h1, trim_snoc]
    by_cases h0 : a[n] = 0
    · rw [if_pos (by simp [h0]), if_pos h0]; exact f62_l0_eq a ha n (by omega)
    · rw [if_neg (by simp [h0]), if_neg h0, List.length_append, List.length_take, Nat.min_eq_left (by omega), List.length_singleton]
theorem f62_eq (a : List Int) (ha : a.length < 1000000000) : f62 a = some (trimL a) := by
  unfold f62
  have h := f62_l0_eq a ha a.length (Nat.le_refl _)
  rw [List.take_length] at h
  rw [h]
  simp only [bind_ok]
  rw [cutN (i := 0) (m := 0) rfl rfl (Nat.zero_le _) (trim_le a)]
  simp only [bind_ok, List.drop_zero]
  rw [← trim_take, apN (by have := trim_le a; simp; omega)]
  rfl
end Go.Bx.Scan

/- nats: what its functions compute, in plain Lean: comparing, dividing by one limb, shifting. (Own text.) -/
namespace Go.Bx.Scan
set_option linter.unusedVariables false
set_option linter.unusedSimpArgs false
set_option linter.unusedSectionVars false
open Go.Proofs
set_option linter.unusedVariables false
set_option linter.unusedSimpArgs false

/-- How two numbers stand to each other. -/
def cmpZ (a b : Int) : Int := if a < b then -1 else if b < a then 1 else 0
theorem shlI_64 {a : Int} {s : Nat} (h : 0 ≤ a) (hs : s < 64) (h2 : a * 2 ^ s < 18446744073709551616) : shlI .u64 a s = a * 2 ^ s := by
  have : min ((s : Int).toNat) IntKind.u64.bits = s := by simp [IntKind.bits]; omega
  unfold shlI; rw [this]; exact wu64 (Int.mul_nonneg h (Int.le_of_lt (Int.pow_pos (by decide)))) h2
theorem shl32 {a : Int} (h : 0 ≤ a) (h2 : a < 4294967296) : shlI .u64 a 32 = a * 4294967296 := shlI_64 (s := 32) h (by decide) (by omega)
theorem shrI_64 {a : Int} {s : Nat} (hs : s < 64) : shrI .u64 a s = a / 2 ^ s := by
  have : min ((s : Int).toNat) IntKind.u64.bits = s := by simp [IntKind.bits]; omega
  unfold shrI; rw [this]; exact Int.fdiv_eq_ediv_of_nonneg _ (Int.le_of_lt (Int.pow_pos (by decide)))
theorem shr32 (a : Int) : shrI .u64 a 32 = a / 4294967296 := shrI_64 (s := 32) (by decide)
theorem shr63 (a : Int) : shrI .u64 a 63 = a / 9223372036854775808 := shrI_64 (s := 63) (by decide)
/-- 'or' of what is far up and what is low. -/
theorem or_lo {k : IntKind} {x y : Int} {s : Nat} (hk : ∀ z : Int, 0 ≤ z → z < 2 ^ k.bits → k.wrap z = z) (hx : 0 ≤ x) (hy : 0 ≤ y) (hys : y < 2 ^ s) (hb : x * 2 ^ s + y < 2 ^ k.bits) (hs : s ≤ k.bits) : orI k (x * 2 ^ s) y = x * 2 ^ s + y := by
  obtain ⟨m, rfl⟩ := Int.eq_ofNat_of_zero_le hx
  obtain ⟨n, rfl⟩ := Int.eq_ofNat_of_zero_le hy
  unfold orI
  have e1 : ((m : Int) * 2 ^ s) = ((m * 2 ^ s : Nat) : Int) := by push_cast; rfl
  have h1 : n < 2 ^ s := by exact_mod_cast hys
  have h2 : m * 2 ^ s + n < 2 ^ k.bits := by exact_mod_cast hb
  have h3 : (BitVec.ofInt k.bits ((m : Int) * 2 ^ s) ||| BitVec.ofInt k.bits (n : Int)).toNat = m * 2 ^ s + n := by
    rw [e1, BitVec.toNat_or, BitVec.ofInt_natCast, BitVec.ofInt_natCast, BitVec.toNat_ofNat, BitVec.toNat_ofNat, Nat.mod_eq_of_lt (by omega), Nat.mod_eq_of_lt (by omega), Nat.mul_comm, ← Nat.two_pow_add_eq_or_of_lt h1]
  rw [h3, hk _ (by omega) (by exact_mod_cast h2)]; push_cast; rfl
theorem or64 {x y : Int} (hx : 0 ≤ x) (hx2 : x < 4294967296) (hy : 0 ≤ y) (hy2 : y < 4294967296) : orI .u64 (x * 4294967296) y = x * 4294967296 + y :=
  or_lo (k := .u64) (s := 32) (fun z h1 h2 => wu64 h1 (by simpa [IntKind.bits] using h2)) hx hy hy2 (by simp only [IntKind.bits]; omega) (by decide)
theorem or64' {x y : Int} (hx : 0 ≤ x) (hx2 : x < 4294967296) (hy : 0 ≤ y) (hy2 : y < 4294967296) : orI .u64 y (x * 4294967296) = y + x * 4294967296 := by
  have := or64 hx hx2 hy hy2
  unfold orI at this ⊢
  rw [BitVec.or_comm, this]; omega
theorem quo64 {x y : Int} (hx : 0 ≤ x) (hx2 : x < 18446744073709551616) (hy : 0 < y) : quoI .u64 x y = x / y := by
  unfold quoI; exact IntWalk.u64_quo x y ⟨hx, by omega, by omega⟩
theorem quoi64 {x y : Int} (hx : 0 ≤ x) (hx2 : x < 9223372036854775808) (hy : 0 < y) : quoI .i64 x y = x / y := by
  unfold quoI; exact IntWalk.i64_quo x y ⟨hx, by omega, by omega⟩
theorem tmod_pos {x y : Int} (hx : 0 ≤ x) : x.tmod y = x % y := Int.tmod_eq_emod_of_nonneg hx
theorem nzN {b : Int} (h : b ≠ 0) : nz b = some () := if_neg h
theorem nnN {b : Int} (h : 0 ≤ b) : nn b = some () := if_neg (by omega)

/-! ### nats.Cmp -/
theorem f73_l0_eq (a b : List Int) (ha : Lim a) (hb : Lim b) (hl : a.length = b.length) (hs : a.length < 1000000000) : ∀ n : Nat, n ≤ a.length → a.drop n = b.drop n →
    f73_l0 a b ((n : Int) - 1) = some (if val a < val b then .ret (-1) else if val b < val a then .ret 1 else .nxt ())
  | 0, _, hd => by
    rw [List.drop_zero, List.drop_zero] at hd; subst hd
    rw [f73_l0, if_neg (by simp), if_neg (by omega), if_neg (by omega)]
  | n + 1, hn, hd => by
    have h1 : n < a.length := by omega
    have h2 : n < b.length := by omega
    rw [f73_l0, if_pos (by simp <;> omega), show (((n + 1 : Nat) : Int) - 1) = (n : Int) by omega, rd_nat h1, rd_nat h2]
    simp only [bind_ok]
    by_cases he : a[n] = b[n]
    · rw [if_neg (by simp [he]), w64 (by omega) (by omega)]
      refine f73_l0_eq a b ha hb hl hs n (by omega) ?_
      rw [List.drop_eq_getElem_cons h1, List.drop_eq_getElem_cons h2, he, hd]
    · rw [if_pos (by simp [he])]
      have e1 := val_split (l := a) (i := n) (by omega)
      have e2 := val_split (l := b) (i := n) (by omega)
      rw [val_drop h1] at e1; rw [val_drop h2, ← hd] at e2
      have l1 := val_lt (ha.take n); have l2 := val_lt (hb.take n)
      rw [List.length_take, Nat.min_eq_left (by omega)] at l1 l2
      have n1 := val_nonneg (ha.take n); have n2 := val_nonneg (hb.take n)
      have hp := pw_pos n
      rcases Int.lt_or_gt_of_ne he with hlt | hlt
      · have : pw n * (a[n] + 4294967296 * val (a.drop (n + 1)) + 1) ≤ pw n * (b[n] + 4294967296 * val (a.drop (n + 1))) := Int.mul_le_mul_of_nonneg_left (by omega) (by omega)
        rw [Int.mul_add, Int.mul_one] at this
        rw [if_pos (by simpa using hlt), if_pos (by omega)]
      · have : pw n * (b[n] + 4294967296 * val (a.drop (n + 1)) + 1) ≤ pw n * (a[n] + 4294967296 * val (a.drop (n + 1))) := Int.mul_le_mul_of_nonneg_left (by omega) (by omega)
        rw [Int.mul_add, Int.mul_one] at this
        rw [if_neg (by simp <;> omega), if_neg (by omega), if_pos (by omega)]
theorem f73_eq (a b : List Int) (ha : Lim a) (hb : Lim b) (la : a.length < 1000000000) (lb : b.length < 1000000000) : f73 a b = some (cmpZ (val a) (val b)) := by
  unfold f73
  rw [f72_eq a la, f72_eq b lb]
  simp only [bind_ok]
  have na := trim_norm ha; have nb := trim_norm hb
  have ka := trim_le a; have kb := trim_le b
  rw [← trim_val a, ← trim_val b]
  generalize trimL a = x at *; generalize trimL b = y at *
  unfold cmpZ
  by_cases hl : x.length = y.length
  · rw [if_neg (by simp [hl]), w64 (by omega) (by omega)]
    rw [f73_l0_eq x y na.1 nb.1 hl (by omega) x.length (Nat.le_refl _) (by rw [List.drop_length, hl, List.drop_length])]
    simp only [bind_ok]
    by_cases h1 : val x < val y
    · rw [if_pos h1, if_pos h1]
    · rw [if_neg h1, if_neg h1]
      by_cases h2 : val y < val x
      · rw [if_pos h2, if_pos h2]
      · rw [if_neg h2, if_neg h2]
  · rw [if_pos (by simp <;> omega)]
    rcases Nat.lt_or_gt_of_ne hl with h | h
    · rw [if_pos (by simp <;> omega), if_pos (Norm.len_lt na.1 nb h)]
    · have := Norm.len_lt nb.1 na h
      rw [if_neg (by simp <;> omega), if_neg (by omega), if_pos this]

/-! ### nats.word -/
theorem f74_l0_eq (a : List Int) (w : Int) (ha : Lim a) (hs : a.length < 1000000000) (hw : 0 < w ∧ w < 4294967296) : ∀ (n : Nat) (out : List Int) (r : Int), n ≤ a.length → out.length = a.length → Lim out → 0 ≤ r → r < w → val a / w = pw n * val (out.drop n) + (pw n * r + val (a.take n)) / w → val a % w = (pw n * r + val (a.take n)) % w →
    ∃ o r', f74_l0 a w out r ((n : Int) - 1) = some (o, r') ∧ Lim o ∧ o.length = a.length ∧ val o = val a / w ∧ r' = val a % w
  | 0, out, r, _, hl, ho, h0, h1, h2, h3 => by
    refine ⟨out, r, by rw [f74_l0, if_neg (by simp)], ho, hl, ?_, ?_⟩
    · rw [h2, pw_0, List.drop_zero, List.take_zero, val_nil, Int.add_zero, Int.one_mul, Int.one_mul, Int.ediv_eq_zero_of_lt h0 h1, Int.add_zero]
    · rw [h3, pw_0, List.take_zero, val_nil, Int.add_zero, Int.one_mul, Int.emod_eq_of_lt h0 h1]
  | n + 1, out, r, hn, hl, ho, h0, h1, h2, h3 => by
    have k1 : n < a.length := by omega
    have k2 : n < out.length := by omega
    have ka := ha.get k1
    rw [f74_l0, if_pos (by simp <;> omega), show (((n + 1 : Nat) : Int) - 1) = (n : Int) by omega, rd_nat k1, rd_nat k2]
    simp only [bind_ok]
    rw [wu64 (x := a[n]) (by omega) (by omega), wu64 (x := w) (by omega) (by omega), shl32 h0 (by omega), or64 h0 (by omega) ka.1 ka.2, nzN (by omega)]
    simp only [bind_ok]
    generalize hx : r * 4294967296 + a[n] = x
    have hx0 : 0 ≤ x := by omega
    have hxw : x < w * 4294967296 := by omega
    have hx2 : x < 18446744073709551616 := by omega
    have hq0 : 0 ≤ x / w := Int.ediv_nonneg hx0 (by omega)
    have hq1 : x / w < 4294967296 := Int.ediv_lt_of_lt_mul hw.1 (by rw [Int.mul_comm]; exact hxw)
    have hr0 : 0 ≤ x % w := Int.emod_nonneg _ (by omega)
    have hr1 : x % w < w := Int.emod_lt_of_pos _ hw.1
    have hdm := Int.mul_ediv_add_emod x w
    rw [quo64 hx0 hx2 hw.1, wu32 hq0 hq1, tmod_pos hx0, setN _ rfl, w64 (by omega) (by omega)]
    have hv : val (a.take (n + 1)) = val (a.take n) + pw n * a[n] := val_take_succ k1
    have hN : pw (n + 1) * r + val (a.take (n + 1)) = w * (pw n * (x / w)) + (pw n * (x % w) + val (a.take n)) := by
      rw [hv, pw_s]
      have : pw n * x = pw n * (w * (x / w) + x % w) := by rw [hdm]
      rw [← hx] at this ⊢
      grind
    refine f74_l0_eq a w ha hs hw n _ _ (by omega) (by simpa using hl) (ho.set ⟨hq0, hq1⟩) hr0 hr1 ?_ ?_
    · rw [h2, hN, Int.add_comm (w * _), Int.add_mul_ediv_left _ _ (by omega)]
      have hk2 : n < (out.set n (x / w)).length := by simpa using k2
      rw [val_drop hk2, List.getElem_set_self, List.drop_set_of_lt (by omega), pw_s]
      grind
    · rw [h3, hN, Int.add_comm (w * _), Int.add_mul_emod_self_left]
theorem f74_eq (a : List Int) (w : Int) (ha : Lim a) (hs : a.length < 1000000000) (hw : 0 < w ∧ w < 4294967296) : ∃ q, f74 a w = some (q, val a % w) ∧ Norm q ∧ val q = val a / w ∧ q.length ≤ a.length := by
  unfold f74
  rw [mkN (n := a.length) 0 rfl (by omega) (by omega)]
  simp only [bind_ok]
  rw [w64 (by omega) (by omega)]
  obtain ⟨o, r, h1, h2, h3, h4, h5⟩ := f74_l0_eq a w ha hs hw a.length (List.replicate a.length 0) 0 (Nat.le_refl _) (by simp) (Lim.zeros _) (by omega) hw.1
    (by rw [List.drop_of_length_le (by simp), val_nil, List.take_length]; simp) (by rw [List.take_length]; simp)
  rw [h1]
  simp only [bind_ok]
  rw [f72_eq o (by omega)]
  simp only [bind_ok]
  have hr0 : 0 ≤ val a % w := Int.emod_nonneg _ (by omega)
  have hr1 : val a % w < w := Int.emod_lt_of_pos _ hw.1
  refine ⟨trimL o, by rw [h5, wu32 hr0 (by omega)], trim_norm h2, by rw [trim_val, h4], by have := trim_le o; omega⟩
end Go.Bx.Scan

/- nats: shifting by less than a limb, in plain Lean. (Own text.) -/
namespace Go.Bx.Scan
set_option linter.unusedVariables false
set_option linter.unusedSimpArgs false
set_option linter.unusedSectionVars false
open Go.Proofs
set_option linter.unusedVariables false
set_option linter.unusedSimpArgs false

def p2 (s : Nat) : Int := 2 ^ s
theorem p2_pos (s : Nat) : 0 < p2 s := Int.pow_pos (by decide)
theorem p2_split {s : Nat} (hs : s ≤ 32) : p2 s * p2 (32 - s) = 4294967296 := by
  unfold p2; rw [← Int.pow_add, show s + (32 - s) = 32 by omega]; rfl
theorem p2_le {s : Nat} (hs : s ≤ 32) : p2 s ≤ 4294967296 := by
  have h1 := p2_split hs; have h2 := p2_pos s; have h3 := p2_pos (32 - s)
  have : p2 s * 1 ≤ p2 s * p2 (32 - s) := Int.mul_le_mul_of_nonneg_left (by omega) (by omega)
  omega
theorem p2_31 {s : Nat} (hs : s < 32) : p2 s ≤ 2147483648 := by
  have h1 := p2_split (s := s) (by omega); have h2 := p2_pos s
  have h3 : p2 (32 - s) = 2 * p2 (31 - s) := by unfold p2; rw [show 32 - s = (31 - s) + 1 by omega, Int.pow_succ]; omega
  have h4 := p2_pos (31 - s)
  have : p2 s * 1 ≤ p2 s * p2 (31 - s) := Int.mul_le_mul_of_nonneg_left (by omega) (by omega)
  rw [h3] at h1
  have : p2 s * (2 * p2 (31 - s)) = 2 * (p2 s * p2 (31 - s)) := by grind
  omega
theorem bitLen_bounds : ∀ (n x : Nat), x < 2 ^ n → n ≤ 64 → 0 < x → 2 ^ (Lib.bitLen x - 1) ≤ x ∧ x < 2 ^ Lib.bitLen x ∧ 0 < Lib.bitLen x ∧ Lib.bitLen x ≤ n
  | 0, x, h, _, hp => by simp at h; omega
  | n + 1, x, h, hn, hp => by
    have hx : x < 2 ^ 64 := Nat.lt_of_lt_of_le h (Nat.pow_le_pow_right (by decide) hn)
    rw [Lib.bitLen_half x (by omega) hx]
    by_cases h1 : x = 1
    · subst h1; exact ⟨by decide, by decide, by decide, by have : Lib.bitLen (1 / 2) = 0 := by decide
                                                           omega⟩
    · have h2 : x / 2 < 2 ^ n := by rw [Nat.pow_succ] at h; omega
      obtain ⟨a, b, c, d⟩ := bitLen_bounds n (x / 2) h2 (by omega) (by omega)
      generalize Lib.bitLen (x / 2) = k at *
      obtain ⟨j, rfl⟩ : ∃ j, k = j + 1 := ⟨k - 1, by omega⟩
      rw [show 1 + (j + 1) - 1 = j + 1 by omega, show 1 + (j + 1) = (j + 1) + 1 by omega]
      rw [Nat.add_sub_cancel] at a
      have e1 : 2 ^ (j + 1) = 2 * 2 ^ j := by rw [Nat.pow_succ]; omega
      have e2 : 2 ^ (j + 1 + 1) = 2 * 2 ^ (j + 1) := by rw [Nat.pow_succ]; omega
      exact ⟨by omega, by omega, by omega, by omega⟩
theorem f75_eq {x : Int} (h : 0 < x) (h2 : x < 4294967296) : ∃ s : Nat, f75 x = some (s : Int) ∧ s < 32 ∧ 2147483648 ≤ x * p2 s ∧ x * p2 s < 4294967296 := by
  obtain ⟨m, rfl⟩ := Int.eq_ofNat_of_zero_le (Int.le_of_lt h)
  have hm : m < 2 ^ 32 := by omega
  obtain ⟨a, b, c, d⟩ := bitLen_bounds 32 m hm (by decide) (by omega)
  refine ⟨32 - Lib.bitLen m, ?_, by omega, ?_, ?_⟩
  · unfold f75
    rw [if_pos ⟨by omega, by omega⟩]
    have : ((m : Int)).toNat = m := by omega
    rw [this]; congr 1; omega
  all_goals
    generalize Lib.bitLen m = k at *
    obtain ⟨j, rfl⟩ : ∃ j, k = j + 1 := ⟨k - 1, by omega⟩
    rw [Nat.add_sub_cancel] at a
    have e0 : p2 (32 - (j + 1)) = ((2 ^ (32 - (j + 1)) : Nat) : Int) := by unfold p2; push_cast; rfl
    rw [e0]
    have e1 : 2 ^ j * 2 ^ (32 - (j + 1)) = 2147483648 := by rw [← Nat.pow_add, show j + (32 - (j + 1)) = 31 by omega]
    have e2 : 2 ^ (j + 1) * 2 ^ (32 - (j + 1)) = 4294967296 := by rw [← Nat.pow_add, show j + 1 + (32 - (j + 1)) = 32 by omega]
  · have := Nat.mul_le_mul_right (2 ^ (32 - (j + 1))) a
    rw [e1] at this
    generalize 2 ^ (32 - (j + 1)) = t at *
    rw [← Int.natCast_mul]; omega
  · have := Nat.mul_lt_mul_of_pos_right b (Nat.two_pow_pos (32 - (j + 1)))
    rw [e2] at this
    generalize 2 ^ (32 - (j + 1)) = t at *
    rw [← Int.natCast_mul]; omega

/-! ### nats.Shl by less than a limb -/
theorem or32 {e z : Int} {s : Nat} (hs : s < 32) (he : 0 ≤ e) (he2 : e < p2 s) (hz : 0 ≤ z) (hz2 : z < 4294967296) (hd : z % p2 s = 0) : orI .u32 e z = e + z := by
  have hp := p2_pos s
  have hzq : z = z / p2 s * p2 s := by have := Int.mul_ediv_add_emod z (p2 s); rw [hd] at this; rw [Int.mul_comm]; omega
  have hq0 : 0 ≤ z / p2 s := Int.ediv_nonneg hz (by omega)
  have hbnd : z + e < 4294967296 := by
    -- z and e have no bit in common: z ≤ B - p
    have hps := p2_split (s := s) (by omega)
    have : z / p2 s < p2 (32 - s) := Int.ediv_lt_of_lt_mul hp (by rw [Int.mul_comm, hps]; exact hz2)
    have h3 : p2 s * (z / p2 s + 1) ≤ p2 s * p2 (32 - s) := Int.mul_le_mul_of_nonneg_left (by omega) (by omega)
    rw [hps, Int.mul_add, Int.mul_one, Int.mul_comm, ← hzq] at h3
    omega
  have h := or_lo (k := .u32) (x := z / p2 s) (y := e) (s := s) (fun w h1 h2 => wu32 h1 (by simpa [IntKind.bits] using h2)) hq0 he he2 (by show z / p2 s * p2 s + e < _; rw [← hzq]; simpa [IntKind.bits] using hbnd) (by simp only [IntKind.bits]; omega)
  have h' : orI .u32 (z / p2 s * p2 s) e = z / p2 s * p2 s + e := h
  rw [← hzq] at h'
  unfold orI at h' ⊢
  rw [BitVec.or_comm, h']; omega
theorem mod_mod_p2 {x : Int} {s : Nat} (hs : s ≤ 32) : (x % 4294967296) % p2 s = x % p2 s := Int.emod_emod_of_dvd x ⟨p2 (32 - s), (p2_split hs).symm⟩
theorem f76_l0_eq (s : Nat) (a : List Int) (hs : s < 32) (ha : Lim a) (la : a.length < 1000000000) : ∀ (k i : Nat) (out : List Int), i + k = a.length → out.length = a.length + 1 → Lim out → (∀ h : i < out.length, out[i] < p2 s) →
    val (out.take (i + 1)) = val (a.take i) * p2 s → (∀ j, i < j → j < out.length → out[j]? = some 0) → ∃ o, f76_l0 s a out i = some o ∧ Lim o ∧ o.length = a.length + 1 ∧ val o = val a * p2 s
  | 0, i, out, hk, hl, ho, h1, h2, h3 => by
    refine ⟨out, by rw [f76_l0, if_neg (by simp <;> omega)], ho, hl, ?_⟩
    rw [List.take_of_length_le (by omega), List.take_of_length_le (by omega)] at h2
    exact h2
  | k + 1, i, out, hk, hl, ho, h1, h2, h3 => by
    have k1 : i < a.length := by omega
    have k2 : i < out.length := by omega
    have k3 : i + 1 < out.length := by omega
    have ka := ha.get k1
    have ko := ho.get k2
    have hp := p2_pos s
    have hp31 := p2_31 hs
    have hm : ((s : Int)).tmod 32 = s := by rw [tmod_pos (by omega)]; omega
    have hq : quoI .i64 (s : Int) 32 = 0 := by rw [quoi64 (by omega) (by omega) (by omega)]; omega
    rw [f76_l0, if_pos (by simp <;> omega), rd_nat k1]
    simp only [bind_ok, hm, hq, Int.zero_add]
    rw [wu64 (x := (s : Int)) (by omega) (by omega), nnN (by omega), wu64 (x := a[i]) (by omega) (by omega)]
    simp only [bind_ok]
    have hx0 : 0 ≤ a[i] * p2 s := Int.mul_nonneg ka.1 (by omega)
    have hxb : a[i] * p2 s < 4294967296 * p2 s := Int.mul_lt_mul_of_pos_right ka.2 hp
    rw [shlI_64 ka.1 (by omega) (show a[i] * 2 ^ s < _ by show a[i] * p2 s < _; omega)]
    show ∃ o, (rd out _ >>= _) = some o ∧ _
    rw [show a[i] * (2 : Int) ^ s = a[i] * p2 s from rfl]
    generalize hx : a[i] * p2 s = x at *
    rw [w64 (x := (i : Int)) (by omega) (by omega), rd_nat k2]
    simp only [bind_ok]
    rw [w64 (x := (i : Int) + 1) (by omega) (by omega), IntKind.wrap_u32 x]
    have hlow : x % 4294967296 % p2 s = 0 := by rw [mod_mod_p2 (by omega), ← hx, Int.mul_emod_left]
    rw [or32 hs ko.1 (h1 k2) (by omega) (by omega) hlow, setN _ rfl]
    have k3' : i + 1 < (out.set i (out[i] + x % 4294967296)).length := by simpa using k3
    rw [show ((i : Int) + 1) = ((i + 1 : Nat) : Int) by omega, rd_nat k3']
    simp only [bind_ok]
    rw [setN _ rfl, shr32]
    have hh0 : 0 ≤ x / 4294967296 := by omega
    have hh1 : x / 4294967296 < p2 s := Int.ediv_lt_of_lt_mul (by decide) (by rw [Int.mul_comm]; exact hxb)
    rw [wu32 hh0 (by omega)]
    have hsum : out[i] + x % 4294967296 < 4294967296 := by
      have hps := p2_split (s := s) (by omega)
      have hzq := Int.mul_ediv_add_emod (x % 4294967296) (p2 s)
      rw [hlow, Int.add_zero] at hzq
      have : x % 4294967296 / p2 s < p2 (32 - s) := Int.ediv_lt_of_lt_mul hp (by rw [Int.mul_comm, hps]; omega)
      have h5 : p2 s * (x % 4294967296 / p2 s + 1) ≤ p2 s * p2 (32 - s) := Int.mul_le_mul_of_nonneg_left (by omega) (by omega)
      rw [hps, Int.mul_add, Int.mul_one, hzq] at h5
      have := h1 k2; omega
    have hlen : ((out.set i (out[i] + x % 4294967296)).set (i + 1) (x / 4294967296)).length = out.length := by simp
    refine f76_l0_eq s a hs ha la k (i + 1) _ (by omega) (by rw [hlen]; exact hl) ((ho.set ⟨by omega, hsum⟩).set ⟨hh0, by omega⟩) (fun h => by rw [List.getElem_set_self]; exact hh1) ?_ (fun j hj1 hj2 => ?_)
    · have e1 : i + 1 < ((out.set i (out[i] + x % 4294967296)).set (i + 1) (x / 4294967296)).length := by rw [hlen]; exact k3
      have e2 : i < (out.set i (out[i] + x % 4294967296)).length := by simpa using k2
      rw [val_take_succ e1, List.getElem_set_self, List.take_set_of_le (by omega), val_take_succ e2, List.getElem_set_self, List.take_set_of_le (by omega), val_take_succ k1, pw_s]
      rw [val_take_succ k2] at h2
      have hxd : x = 4294967296 * (x / 4294967296) + x % 4294967296 := (Int.mul_ediv_add_emod x 4294967296).symm
      generalize x / 4294967296 = xh at *
      generalize x % 4294967296 = xl at *
      have : (val (a.take i) + pw i * a[i]) * p2 s = val (a.take i) * p2 s + pw i * (a[i] * p2 s) := by grind
      rw [this, ← h2, hx, hxd]
      grind
    · rw [List.getElem?_set_ne (by omega), List.getElem?_set_ne (by omega)]
      exact h3 j (by omega) (by simpa using hj2)
theorem f76_eq (s : Nat) (a : List Int) (hs : s < 32) (ha : Lim a) (la : a.length < 100000000) : ∃ r, f76 a s = some r ∧ Norm r ∧ val r = val a * p2 s := by
  unfold f76
  rw [f72_eq a (by omega)]
  simp only [bind_ok]
  have hn := trim_norm ha; have hv := trim_val a; have hl := trim_le a
  generalize trimL a = t at *
  by_cases h0 : t = []
  · subst h0
    rw [if_pos (by simp)]
    exact ⟨[], rfl, Norm.nil, by rw [← hv]; simp [val]⟩
  · have hpos : 0 < t.length := List.length_pos_iff.2 h0
    have hq : quoI .i64 (s : Int) 32 = 0 := by rw [quoi64 (by omega) (by omega) (by omega)]; omega
    rw [if_neg (by simp <;> omega), hq, Int.zero_add, w64 (x := (t.length : Int)) (by omega) (by omega), w64 (by omega) (by omega), mkN (n := t.length + 1) 0 (by omega) (by omega) (by omega)]
    simp only [bind_ok]
    obtain ⟨o, h1, h2, h3, h4⟩ := f76_l0_eq s t hs hn.1 (by omega) t.length 0 (List.replicate (t.length + 1) 0) (by omega) (by simp) (Lim.zeros _) (fun h => by simp; exact p2_pos s) (by simp [val, List.take_replicate]) (fun j _ hj => by simp at hj; simp [hj])
    rw [show ((0 : Nat) : Int) = 0 from rfl] at h1
    rw [h1]
    simp only [bind_ok]
    rw [f72_eq o (by omega)]
    exact ⟨trimL o, rfl, trim_norm h2, by rw [trim_val, h4, hv]⟩

/-! ### nats.Shr by less than a limb -/
theorem shr_step {x Y : Int} {s : Nat} (hs : s < 32) (hx : 0 ≤ x) (hx2 : x < 4294967296) (hY : 0 ≤ Y) :
    (x + 4294967296 * Y) / p2 s = (x + 4294967296 * (Y % 4294967296)) / p2 s % 4294967296 + 4294967296 * (Y / p2 s) := by
  have hp := p2_pos s
  have hps := p2_split (s := s) (by omega)
  generalize hq : p2 (32 - s) = q at *
  generalize hp' : p2 s = p at *
  have hq0 : 0 < q := by rw [← hq]; exact p2_pos _
  have e1 : ∀ Z : Int, (x + 4294967296 * Z) / p = x / p + q * Z := fun Z => by rw [← hps, Int.mul_assoc, Int.add_mul_ediv_left _ _ (by omega)]
  rw [e1, e1]
  have hY1 := Int.mul_ediv_add_emod Y p
  have hm : Y % 4294967296 % p = Y % p := by rw [← hp']; exact mod_mod_p2 (by omega)
  have hY2 := Int.mul_ediv_add_emod (Y % 4294967296) p
  rw [hm] at hY2
  have hr0 : 0 ≤ Y % p := Int.emod_nonneg _ (by omega)
  have hr1 : Y % p < p := Int.emod_lt_of_pos _ hp
  have hx3 : 0 ≤ x / p := Int.ediv_nonneg hx (by omega)
  have hx4 : x / p < q := Int.ediv_lt_of_lt_mul hp (by rw [Int.mul_comm, hps]; exact hx2)
  generalize Y % p = r at *
  generalize Y % 4294967296 = y at *
  generalize Y / p = Y' at *
  generalize y / p = y' at *
  generalize x / p = x' at *
  have hqr : q * (r + 1) ≤ q * p := Int.mul_le_mul_of_nonneg_left (by omega) (by omega)
  have hqr0 : 0 ≤ q * r := Int.mul_nonneg (by omega) hr0
  have hqp : q * p = 4294967296 := by rw [Int.mul_comm]; exact hps
  have e2 : x' + q * y = x' + q * r + 4294967296 * y' := by rw [← hY2, ← hqp]; grind
  have e3 : x' + q * Y = x' + q * r + 4294967296 * Y' := by rw [← hY1, ← hqp]; grind
  rw [e2, e3, Int.add_mul_emod_self_left, Int.emod_eq_of_lt (by omega) (by rw [Int.mul_add, hqp] at hqr; omega)]
theorem f78_l0_eq (s : Nat) (a m3 : List Int) (hs : s < 32) (ha : Lim a) (la : a.length < 1000000000) (hm : m3.length = a.length) : ∀ (k i : Nat) (out : List Int), i + k = a.length → out.length = a.length → Lim out →
    val (out.take i) + pw i * (val (a.drop i) / p2 s) = val a / p2 s → ∃ o, f78_l0 a m3 0 s out i = some o ∧ Lim o ∧ o.length = a.length ∧ val o = val a / p2 s
  | 0, i, out, hk, hl, ho, h2 => by
    refine ⟨out, by rw [f78_l0, if_neg (by simp <;> omega)], ho, hl, ?_⟩
    rw [List.take_of_length_le (by omega), List.drop_of_length_le (by omega), val_nil] at h2
    simpa using h2
  | k + 1, i, out, hk, hl, ho, h2 => by
    have k1 : i < a.length := by omega
    have k2 : i < out.length := by omega
    have ka := ha.get k1
    have hp := p2_pos s
    have hY0 := val_nonneg (ha.drop (i + 1))
    have hst := shr_step hs ka.1 ka.2 hY0
    rw [f78_l0, if_pos (by simp <;> omega), Int.zero_add, w64 (x := (i : Int)) (by omega) (by omega), rd_nat k1]
    simp only [bind_ok]
    rw [w64 (x := (i : Int) + 1) (by omega) (by omega), wu64 (x := a[i]) (by omega) (by omega)]
    have key : ∀ z : Int, z = (a[i] + 4294967296 * (val (a.drop (i + 1)) % 4294967296)) / p2 s % 4294967296 →
        ∃ o, f78_l0 a m3 0 s (setL out i z) ((i : Int) + 1) = some o ∧ Lim o ∧ o.length = a.length ∧ val o = val a / p2 s := fun z hz => by
      rw [setN _ rfl, show ((i : Int) + 1) = ((i + 1 : Nat) : Int) by omega]
      have k3 : i < (out.set i z).length := by simpa using k2
      refine f78_l0_eq s a m3 hs ha la hm k (i + 1) _ (by omega) (by simpa using hl) (ho.set (by omega)) ?_
      rw [val_take_succ k3, List.getElem_set_self, List.take_set_of_le (by omega), pw_s]
      rw [val_drop k1, hst, ← hz] at h2
      rw [← h2]; grind
    by_cases hnx : i + 1 < a.length
    · have kb := ha.get hnx
      rw [if_pos (by simp <;> omega), rdN (n := i + 1) (by omega) hnx]
      simp only [bind_ok]
      rw [wu64 (x := a[i + 1]) (by omega) (by omega), shl32 kb.1 kb.2, or64' kb.1 kb.2 ka.1 ka.2, nnN (by omega), rd_nat k2]
      simp only [bind_ok]
      rw [shrI_64 (by omega), IntKind.wrap_u32]
      refine key _ ?_
      have : val (a.drop (i + 1)) % 4294967296 = a[i + 1] := by rw [val_drop hnx]; omega
      rw [this, Int.mul_comm]; rfl
    · rw [if_neg (by simp <;> omega), nnN (by omega), rd_nat k2]
      simp only [bind_ok]
      rw [shrI_64 (by omega), IntKind.wrap_u32]
      refine key _ ?_
      rw [List.drop_of_length_le (by omega), val_nil]; simp [p2]
theorem f78_eq (s : Nat) (a : List Int) (hs : s < 32) (ha : Lim a) (la : a.length < 100000000) : ∃ r, f78 a s = some r ∧ Norm r ∧ val r = val a / p2 s := by
  unfold f78
  rw [f72_eq a (by omega)]
  simp only [bind_ok]
  have hn := trim_norm ha; have hv := trim_val a; have hl := trim_le a
  generalize trimL a = t at *
  have hq : quoI .i64 (s : Int) 32 = 0 := by rw [quoi64 (by omega) (by omega) (by omega)]; omega
  rw [hq]
  by_cases h0 : t = []
  · subst h0
    rw [if_pos (by simp)]
    exact ⟨[], rfl, Norm.nil, by rw [← hv]; simp [val]⟩
  · have hpos : 0 < t.length := List.length_pos_iff.2 h0
    have hm : ((s : Int)).tmod 32 = s := by rw [tmod_pos (by omega)]; omega
    rw [if_neg (by simp <;> omega), Int.sub_zero, w64 (x := (t.length : Int)) (by omega) (by omega), mkN (n := t.length) 0 rfl (by omega) (by omega)]
    simp only [bind_ok]
    rw [hm, wu64 (x := (s : Int)) (by omega) (by omega)]
    obtain ⟨o, h1, h2, h3, h4⟩ := f78_l0_eq s t (List.replicate t.length 0) hs hn.1 (by omega) (by simp) t.length 0 (List.replicate t.length 0) (by omega) (by simp) (Lim.zeros _) (by rw [List.take_zero, val_nil, pw_0, List.drop_zero]; omega)
    rw [show ((0 : Nat) : Int) = 0 from rfl] at h1
    rw [h1]
    simp only [bind_ok]
    rw [f72_eq o (by omega)]
    exact ⟨trimL o, rfl, trim_norm h2, by rw [trim_val, h4, hv]⟩
end Go.Bx.Scan
