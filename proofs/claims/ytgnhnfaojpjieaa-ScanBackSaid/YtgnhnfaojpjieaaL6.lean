/- What the program's functions compute, shown of their code (L6). Own text; parts are printed by a program of this claim's author. -/
import Derived.Test.YtgnhnfaojpjieaaW5
namespace Go.Bx.Scan
set_option linter.unusedVariables false
set_option linter.unusedSimpArgs false
set_option linter.unusedSectionVars false
open Go.Proofs
set_option linter.unusedSimpArgs false
set_option linter.unusedVariables false
set_option maxRecDepth 10000
set_option maxHeartbeats 4000000
def f17_l0 (ts : List Token) (i : Int) : Option (Ou (Str × Int) Unit) :=
 if (decide (i < (ts.length : Int))) = true then
  (rd ts i >>= fun e3 =>
  f30 (⟨e3.Kind, e3.Text, (⟨e3.N.Neg, e3.N.Num, e3.N.Den⟩ : Ratio), e3.At⟩ : Token) >>= fun r4 =>
  if (!r4) = true then
   (some (.ret ([], 40)))
  else
   f17_l0 ts (IntKind.i64.wrap (i + 1)))
 else
  some (.nxt ())
 partial_fixpoint
def f17_l1 (ts : List Token) (s : Str) (i : Int) : Option (Ou (Str × Int) Str) :=
 if (decide (i < (ts.length : Int))) = true then
  ((if (decide (i > 0)) = true then
   (cat s [32] >>= fun s10 =>
   rd ts i >>= fun e11 =>
   cat s10 e11.Text >>= fun s12 =>
   if (decide ((s12.length : Int) > 4096)) = true then
    (some (.ret ([], 3)))
   else
    some (.nxt s12))
  else
   rd ts i >>= fun e14 =>
   cat s e14.Text >>= fun s15 =>
   if (decide ((s15.length : Int) > 4096)) = true then
    (some (.ret ([], 3)))
   else
    some (.nxt s15) : Option (Ou (Str × Int) Str)) >>= fun o8 => match o8 with
  | .ret r0 => some (.ret r0)
  | .nxt wo8 =>
   f17_l1 ts wo8 (IntKind.i64.wrap (i + 1)))
 else
  some (.nxt s)
 partial_fixpoint
/-- sibyl/sibylref04.Join -/
def f17 (ts : List Token) : Option (Str × Int) :=
 f17_l0 ts 0 >>= fun o1 => match o1 with
 | .ret r0 => some r0
 | .nxt wo1 =>
  f17_l1 ts [] 0 >>= fun o6 => match o6 with
  | .ret r0 => some r0
  | .nxt wo6 =>
   some (wo6, 0)
noncomputable def f17_ci : CI := (CI.or 30 f30_tbl (fun _ _ _ => none))
theorem f17_ci_ok (base : Nat) : CIOK E base f17_ci := (or_ok f30_tbl_ok no_ok)
theorem f17_res : Try.f17.results = #[.tmp 2, .tmp 3] := rfl
theorem f17_rt : Try.f17.resultTypes = #[9, 3] := rfl
theorem f17_l0_ok {base : Nat} {c00 : Ctx} (ts : List Token) (hU : Under E base c00 nilStore) : ∀ (i : Int) (o1 : Ou (Str × Int) Unit), f17_l0 ts i = some o1 →
  WpL E base c00 nilStore (lb Try.f17 0) ⟨.sl (List.map cToken ts) :: jj 3 (.v (.int .i64 i) :: jj 35 []), St [], none, 0⟩ (fun ex s1 => match o1 with | .ret r0 => ex = .ret ∧ Rt E base c00 Try.f17 (.tup [.v (.string (mkS r0.1)), .v (.int .i64 r0.2)]) s1 | .nxt wo1 => ex = .exit 0 ∧ Wk base c00 nilStore s1 ⟨.sl (List.map cToken ts) :: jj 39 [], St [], none, 0⟩) := by
 refine f17_l0.partial_correctness ts _ ?_
 intro lp__ ih i o1 h
 refine WpL.stepE (lbI Try.f17.eq_1) ?_
 refine Wp.seq <| rs hU (f17_ci_ok _) rgI <| ?_
 refine Wp.cond hU (t := decide (i < (ts.length : Int))) rfl (fun hc2 => ?_) (fun hc2 => ?_)
 ·rw [if_t hc2] at h
  refine Wp.skip <| thenN <| Wp.seq <| Wp.block <| Wp.seq <| ?_
  obtain ⟨e3, he3, h⟩ := bind_some h
  obtain ⟨he3a, he3b, he3c⟩ := rd_some he3
  obtain ⟨r4, hr4, h⟩ := bind_some h
  have hr4c := fun σ => show f17_ci 30 _ σ = _ from f30_call hr4 σ
  have fx := i5 he3a he3b he3c hr4c hc2
  refine rq hU (f17_ci_ok _) rgIF <| thenN <| ?_
  refine Wp.cond hU (t := !r4) rfl (fun hc5 => ?_) (fun hc5 => ?_)
  ·rw [if_t hc5] at h
   refine Wp.seq <| ?_
   have fx := i2 hc2 hc5
   refine rq hU (f17_ci_ok _) rgIF <| thenN <| Wp.ret <| blkR <| thenR <| againR <| ?_
   obtain rfl := sj h
   refine ⟨rfl, ?_⟩
   refine Rt.of <| ?_
   have fx := i2 f17_res f17_rt
   exact rtI
  ·rw [if_f hc5] at h
   refine Wp.skip <| blkN <| thenN <| ?_
   have fx := i2 hc2 hc5
   refine rq hU (f17_ci_ok _) rgIF <| againN <| ?_
   refine Wk.wpL ?_ (ih (IntKind.i64.wrap (i + 1)) _ h)
   exact Wk.weak hU [] _ (by decide) .nil wvI
 ·rw [if_f hc2] at h
  refine Wp.exit <| thenE <| againE <| ?_
  obtain rfl := sj h
  refine ⟨rfl, ?_⟩
  exact Wk.weak hU [] _ (by decide) .nil wvI
theorem f17_l1_ok {base : Nat} {c00 : Ctx} (ts : List Token) (hU : Under E base c00 nilStore) : ∀ (s : Str) (i : Int) (o6 : Ou (Str × Int) Str), f17_l1 ts s i = some o6 →
  WpL E base c00 nilStore (lb Try.f17 1) ⟨.sl (List.map cToken ts) :: jj 4 (.v (.string (mkS s)) :: .v (.int .i64 i) :: jj 33 []), St [], none, 0⟩ (fun ex s1 => match o6 with | .ret r0 => ex = .ret ∧ Rt E base c00 Try.f17 (.tup [.v (.string (mkS r0.1)), .v (.int .i64 r0.2)]) s1 | .nxt wo6 => ex = .exit 2 ∧ Wk base c00 nilStore s1 ⟨jj 5 (.v (.string (mkS wo6)) :: jj 34 []), St [], none, 0⟩) := by
 refine f17_l1.partial_correctness ts _ ?_
 intro lp__ ih s i o6 h
 refine WpL.stepE (lbI Try.f17.eq_1) ?_
 refine Wp.seq <| rs hU (f17_ci_ok _) rgI <| ?_
 refine Wp.cond hU (t := decide (i < (ts.length : Int))) rfl (fun hc7 => ?_) (fun hc7 => ?_)
 ·rw [if_t hc7] at h
  refine Wp.skip <| thenN <| ?_
  obtain ⟨o8, ho8, h⟩ := bind_some h
  refine Wp.seq1 (JP := (fun ex s1 => match o8 with | .ret r0 => ex = .ret ∧ Rt E base c00 Try.f17 (.tup [.v (.string (mkS r0.1)), .v (.int .i64 r0.2)]) s1 | .nxt wo8 => ex = .nrm ∧ Wk base c00 nilStore s1 ⟨.sl (List.map cToken ts) :: jj 4 (.v (.string (mkS wo8)) :: .v (.int .i64 i) :: jj 33 []), St [], none, 0⟩)) ?_ (fun ex s1 hp => ?_)
  ·replace h := ho8
   refine Wp.block <| Wp.seq <| Wp.seq <| ?_
   have fx := hc7
   refine rq hU (f17_ci_ok _) rgIF <| thenN <| ?_
   refine Wp.cond hU (t := decide (i > 0)) rfl (fun hc9 => ?_) (fun hc9 => ?_)
   ·rw [if_t hc9] at h
    obtain ⟨s10, hs10, h⟩ := bind_some h
    obtain ⟨hs10a, hs10b⟩ := cat_some hs10
    try simp only [List.length_cons, List.length_nil, Nat.zero_add, Nat.add_zero, Nat.reduceAdd] at hs10a
    have fx := i3 hs10a hc7 hc9
    refine rq hU (f17_ci_ok _) rgIF <| thenN <| ?_
    refine Wk.wp (s2 := ⟨.sl (List.map cToken ts) :: jj 4 (.v (.string (mkS s10)) :: .v (.int .i64 i) :: jj 33 []), St [], none, 0⟩) ?_ ?_
    ·have fe := hs10b
     have fl := hs10b
     have fv := nofx
     exact Wk.weak hU [] _ (by decide) .nil wvIF
    refine Wp.seq <| ?_
    obtain ⟨e11, he11, h⟩ := bind_some h
    obtain ⟨he11a, he11b, he11c⟩ := rd_some he11
    obtain ⟨s12, hs12, h⟩ := bind_some h
    obtain ⟨hs12a, hs12b⟩ := cat_some hs12
    try simp only [List.length_cons, List.length_nil, Nat.zero_add, Nat.add_zero, Nat.reduceAdd] at hs12a
    have fx := i6 he11a he11b he11c hs12a hc7 hc9
    refine rq hU (f17_ci_ok _) rgIF <| thenN <| ?_
    refine Wk.wp (s2 := ⟨.sl (List.map cToken ts) :: jj 4 (.v (.string (mkS s12)) :: .v (.int .i64 i) :: jj 33 []), St [], none, 0⟩) ?_ ?_
    ·have fe := i2 hs10b hs12b
     have fl := i2 hs10b hs12b
     have fv := nofx
     exact Wk.weak hU [] _ (by decide) .nil wvIF
    refine Wp.seq <| ?_
    have fx := i2 hc7 hc9
    refine rq hU (f17_ci_ok _) rgIF <| thenN <| ?_
    refine Wp.cond hU (t := decide ((s12.length : Int) > 4096)) rfl (fun hc13 => ?_) (fun hc13 => ?_)
    ·rw [if_t hc13] at h
     refine Wp.seq <| ?_
     have fx := i3 hc7 hc9 hc13
     refine rq hU (f17_ci_ok _) rgIF <| thenN <| Wp.ret <| blkR <| ?_
     obtain rfl := sj h
     refine ⟨rfl, ?_⟩
     refine Rt.of <| ?_
     have fx := i4 f17_res f17_rt hs10b hs12b
     exact rtI
    ·rw [if_f hc13] at h
     refine Wp.skip <| blkN <| ?_
     obtain rfl := sj h
     refine ⟨rfl, ?_⟩
     have fe := i2 hs10b hs12b
     have fl := i2 hs10b hs12b
     have fv := nofx
     exact Wk.weak hU [] _ (by decide) .nil wvIF
   ·rw [if_f hc9] at h
    refine Wp.skip <| thenN <| Wp.seq <| ?_
    obtain ⟨e14, he14, h⟩ := bind_some h
    obtain ⟨he14a, he14b, he14c⟩ := rd_some he14
    obtain ⟨s15, hs15, h⟩ := bind_some h
    obtain ⟨hs15a, hs15b⟩ := cat_some hs15
    try simp only [List.length_cons, List.length_nil, Nat.zero_add, Nat.add_zero, Nat.reduceAdd] at hs15a
    have fx := i6 he14a he14b he14c hs15a hc7 hc9
    refine rq hU (f17_ci_ok _) rgIF <| thenN <| ?_
    refine Wk.wp (s2 := ⟨.sl (List.map cToken ts) :: jj 4 (.v (.string (mkS s15)) :: .v (.int .i64 i) :: jj 33 []), St [], none, 0⟩) ?_ ?_
    ·have fe := hs15b
     have fl := hs15b
     have fv := nofx
     exact Wk.weak hU [] _ (by decide) .nil wvIF
    refine Wp.seq <| ?_
    have fx := i2 hc7 hc9
    refine rq hU (f17_ci_ok _) rgIF <| thenN <| ?_
    refine Wp.cond hU (t := decide ((s15.length : Int) > 4096)) rfl (fun hc16 => ?_) (fun hc16 => ?_)
    ·rw [if_t hc16] at h
     refine Wp.seq <| ?_
     have fx := i3 hc7 hc9 hc16
     refine rq hU (f17_ci_ok _) rgIF <| thenN <| Wp.ret <| blkR <| ?_
     obtain rfl := sj h
     refine ⟨rfl, ?_⟩
     refine Rt.of <| ?_
     have fx := i3 f17_res f17_rt hs15b
     exact rtI
    ·rw [if_f hc16] at h
     refine Wp.skip <| blkN <| ?_
     obtain rfl := sj h
     refine ⟨rfl, ?_⟩
     have fe := hs15b
     have fl := hs15b
     have fv := nofx
     exact Wk.weak hU [] _ (by decide) .nil wvIF
  ·cases o8 with
   | ret r0 =>
    obtain ⟨rfl, hp⟩ := hp
    obtain rfl := sj h
    refine thenR <| againR <| ?_
    exact ⟨rfl, hp⟩
   | nxt wo8 =>
    obtain ⟨rfl, hp⟩ := hp
    dsimp only at h
    refine thenN (hp.wp ?_)
    have fx := hc7
    refine rq hU (f17_ci_ok _) rgIF <| againN <| ?_
    refine Wk.wpL ?_ (ih wo8 (IntKind.i64.wrap (i + 1)) _ h)
    exact Wk.weak hU [] _ (by decide) .nil wvI
 ·rw [if_f hc7] at h
  refine Wp.exit <| thenE <| againE <| ?_
  obtain rfl := sj h
  refine ⟨rfl, ?_⟩
  exact Wk.weak hU [] _ (by decide) .nil wvI
theorem f17_ok (ts : List Token) (r : Str × Int) (h : f17 ts = some r) : PureOK E 17 [.sl (List.map cToken ts)] (.tup [.v (.string (mkS r.1)), .v (.int .i64 r.2)]) := by
 unfold f17 at h
 refine pof (fn := Try.f17) (nt := 40) Try.func17 rfl rfl rfl rfl (fun _ => rfl) (fun base c00 hU => ?_)
 refine Wk.wp (s2 := ⟨.sl (List.map cToken ts) :: jj 39 [], St [], none, 0⟩) ?_ ?_
 ·exact Wk.weak hU [] _ (by decide) .nil wvS
 refine rs hU (f17_ci_ok _) rgI <| Wp.seq <| rs hU (f17_ci_ok _) rgI <| Wp.block <| ?_
 obtain ⟨o1, ho1, h⟩ := bind_some h
 refine Wp.loop <| ?_
 refine Tw.mono (Wk.wpL (s2 := ⟨.sl (List.map cToken ts) :: jj 3 (.v (.int .i64 0) :: jj 35 []), St [], none, 0⟩) ?_ (f17_l0_ok ts hU 0 o1 ho1)) (fun ex s1 hp => ?_)
 ·exact Wk.weak hU [] _ (by decide) .nil wvI
 ·cases o1 with
  | ret r0 =>
   obtain ⟨rfl, hp⟩ := hp
   obtain rfl := sj h
   refine blkR <| thenR <| ?_
   exact ⟨.inl rfl, hp⟩
  | nxt wo1 =>
   obtain ⟨rfl, hp⟩ := hp
   dsimp only at h
   refine blkE <| thenN <| hp.wp <| rs hU (f17_ci_ok _) rgI <| Wp.seq <| rs hU (f17_ci_ok _) rgI <| Wp.block <| ?_
   obtain ⟨o6, ho6, h⟩ := bind_some h
   refine Wp.loop <| ?_
   refine Tw.mono (Wk.wpL (s2 := ⟨.sl (List.map cToken ts) :: jj 4 (.v (.string (mkS [])) :: .v (.int .i64 0) :: jj 33 []), St [], none, 0⟩) ?_ (f17_l1_ok ts hU [] 0 o6 ho6)) (fun ex s1 hp => ?_)
   ·exact Wk.weak hU [] _ (by decide) .nil wvI
   ·cases o6 with
    | ret r0 =>
     obtain ⟨rfl, hp⟩ := hp
     obtain rfl := sj h
     refine blkR <| thenR <| ?_
     exact ⟨.inl rfl, hp⟩
    | nxt wo6 =>
     obtain ⟨rfl, hp⟩ := hp
     dsimp only at h
     refine blkE <| thenN <| hp.wp <| rs hU (f17_ci_ok _) rgI <| Wp.ret <| ?_
     obtain rfl := sj h
     refine ⟨.inl rfl, ?_⟩
     refine Rt.of <| ?_
     have fx := i2 f17_res f17_rt
     exact rtI
noncomputable def f17_tbl : CI := tbl 17 (fun p : (List Token) => [.sl (List.map cToken p)]) (fun p => (f17 p).map fun r => .tup [.v (.string (mkS r.1)), .v (.int .i64 r.2)])
theorem f17_tbl_ok {base : Nat} : CIOK E base f17_tbl := tbl_okM fun p q h => f17_ok p q h
theorem f17_call {ts : List Token} {r : Str × Int} (h : f17 ts = some r) (σ : Store) : f17_tbl 17 [.sl (List.map cToken ts)] σ = some (.tup [.v (.string (mkS r.1)), .v (.int .i64 r.2)], σ, none) :=
 tbl_eq (x := (ts)) (fun x y e => by
  exact av_sl injToken (List.cons.inj e).1) (by simp [h]) σ
/-- sibyl/sibyllaw04.ScanJoins -/
def f5 (ts : List Token) : Option (Bool) :=
 f10 >>= fun r1 =>
 if (!r1) = true then
  (some false)
 else
  ap 88 [] ts >>= fun a3 =>
  f16 a3 >>= fun r4 =>
  f17 ts >>= fun r5 =>
  (if (r4.1 == r5.1) = true then
   (some (r4.2 == r5.2))
  else
   some false : Option (Bool)) >>= fun o6 =>
  some o6
noncomputable def f5_ci : CI := (CI.or 10 f10_tbl (CI.or 16 f16_tbl (CI.or 17 f17_tbl (fun _ _ _ => none))))
theorem f5_ci_ok (base : Nat) : CIOK E base f5_ci := (or_ok f10_tbl_ok (or_ok f16_tbl_ok (or_ok f17_tbl_ok no_ok)))
theorem f5_res : Try.f5.results = #[.tmp 2] := rfl
theorem f5_rt : Try.f5.resultTypes = #[4] := rfl
theorem f5_ok (ts : List Token) (r : Bool) (h : f5 ts = some r) : PureOK E 5 [.sl (List.map cToken ts)] (.v (.bool r)) := by
 unfold f5 at h
 refine pof (fn := Try.f5) (nt := 31) Try.func5 rfl rfl rfl rfl (fun _ => rfl) (fun base c00 hU => ?_)
 refine Wk.wp (s2 := ⟨.sl (List.map cToken ts) :: jj 30 [], St [], none, 0⟩) ?_ ?_
 ·exact Wk.weak hU [] _ (by decide) .nil wvS
 refine rs hU (f5_ci_ok _) rgI <| Wp.seq <| Wp.seq <| ?_
 obtain ⟨r1, hr1, h⟩ := bind_some h
 have hr1c := fun σ => show f5_ci 10 _ σ = _ from f10_call hr1 σ
 have fx := hr1c
 refine rq hU (f5_ci_ok _) rgIF <| thenN <| ?_
 refine Wp.cond hU (t := !r1) rfl (fun hc2 => ?_) (fun hc2 => ?_)
 ·rw [if_t hc2] at h
  refine Wp.seq <| ?_
  have fx := hc2
  refine rq hU (f5_ci_ok _) rgIF <| thenN <| Wp.ret <| thenR <| ?_
  obtain rfl := sj h
  refine ⟨.inl rfl, ?_⟩
  refine Rt.of <| ?_
  have fx := i2 f5_res f5_rt
  exact rtI
 ·rw [if_f hc2] at h
  refine Wp.skip <| thenN <| Wp.seq <| ?_
  obtain ⟨a3, ha3, h⟩ := bind_some h
  obtain ⟨ha3a, ha3b⟩ := ap_some ha3
  try simp only [List.length_cons, List.length_nil, Nat.zero_add, Nat.add_zero, Nat.reduceAdd] at ha3a
  have fx := i2 ha3a hc2
  refine rq hU (f5_ci_ok _) rgIF <| thenN <| ?_
  refine Wk.wp (s2 := ⟨.sl (List.map cToken ts) :: jj 2 (.row 0 6 0 ((a3).length) :: jj 27 []), St [some ⟨6, false, true, List.map cToken a3⟩], none, 0⟩) ?_ ?_
  ·have fe := ha3b
   have fl := ha3b
   have fv := nofx
   exact Wk.weak hU [some 1] _ (by decide) wsIF wvIF
  refine Wp.seq <| ?_
  obtain ⟨r4, hr4, h⟩ := bind_some h
  have hr4c := fun σ => show f5_ci 16 _ σ = _ from f16_call hr4 σ
  have fx := i2 hr4c hc2
  refine rq hU (f5_ci_ok _) rgIF <| thenN <| Wp.seq <| ?_
  obtain ⟨r5, hr5, h⟩ := bind_some h
  have hr5c := fun σ => show f5_ci 17 _ σ = _ from f17_call hr5 σ
  have fx := i2 hr5c hc2
  refine rq hU (f5_ci_ok _) rgIF <| thenN <| ?_
  obtain ⟨o6, ho6, h⟩ := bind_some h
  refine Wp.seq1 (JP := (fun ex s1 => ex = .nrm ∧ Wk base c00 nilStore s1 ⟨jj 2 (.v (.bool o6) :: jj 28 []), St [], none, 0⟩)) ?_ (fun ex s1 hp => ?_)
  ·replace h := ho6
   rcases Bool.eq_false_or_eq_true (r4.1 == r5.1) with hg3 | hg3
   ·rw [if_t hg3] at h
    have fx := i2 hc2 hg3
    refine rq hU (f5_ci_ok _) rgIF <| ?_
    obtain rfl := sj h
    refine ⟨rfl, ?_⟩
    have fe := ha3b
    have fl := ha3b
    have fv := nofx
    exact Wk.weak hU [] _ (by decide) .nil wvIF
   ·rw [if_f hg3] at h
    have fx := i2 hc2 hg3
    refine rq hU (f5_ci_ok _) rgIF <| ?_
    obtain rfl := sj h
    refine ⟨rfl, ?_⟩
    have fe := ha3b
    have fl := ha3b
    have fv := nofx
    exact Wk.weak hU [] _ (by decide) .nil wvIF
  ·obtain ⟨rfl, hp⟩ := hp
   refine thenN (hp.wp ?_)
   refine Wp.ret <| ?_
   obtain rfl := sj h
   refine ⟨.inl rfl, ?_⟩
   refine Rt.of <| ?_
   have fx := i3 f5_res f5_rt ha3b
   exact rtI
noncomputable def f5_tbl : CI := tbl 5 (fun p : (List Token) => [.sl (List.map cToken p)]) (fun p => (f5 p).map fun r => .v (.bool r))
theorem f5_tbl_ok {base : Nat} : CIOK E base f5_tbl := tbl_okM fun p q h => f5_ok p q h
theorem f5_call {ts : List Token} {r : Bool} (h : f5 ts = some r) (σ : Store) : f5_tbl 5 [.sl (List.map cToken ts)] σ = some (.v (.bool r), σ, none) :=
 tbl_eq (x := (ts)) (fun x y e => by
  exact av_sl injToken (List.cons.inj e).1) (by simp [h]) σ
end Go.Bx.Scan

/- ScanJoins in plain Lean: which tokens can come out of a text; tokens put together. (Own text.) -/
namespace Go.Bx.Scan
set_option linter.unusedVariables false
set_option linter.unusedSimpArgs false
set_option linter.unusedSectionVars false
open Go.Proofs
set_option linter.unusedVariables false
set_option linter.unusedSimpArgs false

/-! ### a run that is told is no delimiter anywhere -/
theorem byteAll {P : UInt8 → Prop} [DecidablePred P] (h : ∀ n : Fin 256, P (UInt8.ofNat n.val)) (b : UInt8) : P b := by
  have := h ⟨b.toNat, b.toNat_lt⟩
  have e : UInt8.ofNat b.toNat = b := by simp
  rw [← e]; exact this
theorem goes_notD (b : UInt8) : goesB b = true → notD b = true := byteAll (P := fun b => goesB b = true → notD b = true) (by decide +kernel) b
theorem dig_notD (b : UInt8) : isDig b = true → notD b = true := byteAll (P := fun b => isDig b = true → notD b = true) (by decide +kernel) b
theorem begins_notD (b : UInt8) : beginsB b = true → notD b = true := fun h => goes_notD b (by unfold goesB; rw [h]; rfl)
theorem all_mono {p q : UInt8 → Bool} (h : ∀ b, p b = true → q b = true) {l : Str} (hl : l.all p = true) : l.all q = true := List.all_eq_true.2 (fun x hx => h x (List.all_eq_true.1 hl x hx))
theorem shape_notD {s : Str} (h : shapeB s = true) : s ≠ [] ∧ s.all notD = true := by
  unfold shapeB at h
  simp only [Bool.or_eq_true, beq_iff_eq] at h
  rcases h with (h | h) | h
  · subst h; exact ⟨by simp, by decide⟩
  · subst h; exact ⟨by simp, by decide⟩
  · cases s with
    | nil => cases h
    | cons b r =>
      simp only [Bool.and_eq_true] at h
      exact ⟨by simp, by rw [List.all_cons, begins_notD b h.1, all_mono goes_notD h.2]; rfl⟩
theorem cut_notD {T : Str} (h : cutOK T = true) : T ≠ [] ∧ T.all notD = true := by
  unfold cutOK at h
  simp only [Bool.and_eq_true, decide_eq_true_eq] at h
  have hn := all_mono dig_notD h.1.1.1.1
  have hd := all_mono dig_notD h.1.1.2
  have hne : T ≠ [] := by
    intro e; subst e; simp [numOf] at h
  refine ⟨hne, ?_⟩
  by_cases hl : (numOf T).length < T.length
  · have e : T = numOf T ++ T[(numOf T).length] :: denOf T := by
      conv => lhs; rw [← List.take_append_drop (numOf T).length T, numOf_take, List.drop_eq_getElem_cons hl]
      unfold denOf; rw [if_pos hl]
    have h47 : T[(numOf T).length] = 47 := by
      have key : ∀ (T : Str) (h : (T.takeWhile isNs).length < T.length), T[(T.takeWhile isNs).length] = 47 := by
        intro T
        induction T with
        | nil => intro h; simp at h
        | cons b l ih =>
          intro h
          by_cases hb : b = 47
          · subst hb; rfl
          · have e : isNs b = true := by simp [isNs, hb]
            have e2 : ((b :: l).takeWhile isNs) = b :: l.takeWhile isNs := by rw [List.takeWhile_cons, if_pos e]
            simp only [e2, List.length_cons, List.getElem_cons_succ] at h ⊢
            exact ih (by omega)
      exact key T hl
    rw [e, h47, List.all_append, List.all_cons, hn, hd]; rfl
  · have := numOf_take T
    rw [List.take_of_length_le (by omega)] at this
    rw [this]; exact hn
theorem strip_notD {s : Str} (h : (strip s).1 ≠ [] ∧ (strip s).1.all notD = true) : s ≠ [] ∧ s.all notD = true := by
  cases s with
  | nil => exact absurd rfl h.1
  | cons b l =>
    refine ⟨by simp, ?_⟩
    unfold strip at h
    by_cases h1 : b = 43
    · subst h1; simp at h; rw [List.all_cons]; rw [show notD 43 = true by decide]; simpa using h.2
    · by_cases h2 : b = 45
      · subst h2; simp at h; rw [List.all_cons]; rw [show notD 45 = true by decide]; simpa using h.2
      · simpa [h1, h2] using h
theorem kind_notD {s : Str} (ls : s.length ≤ 4096) (h : (kindS s).2.2 = 0) : s ≠ [] ∧ s.all notD = true := by
  have hk := (kind_eq s ls).1
  unfold f22 at hk
  by_cases h1 : s = [46]
  · subst h1; exact ⟨by simp, by decide⟩
  by_cases h2 : s = [35, 116]
  · subst h2; exact ⟨by simp, by decide⟩
  by_cases h3 : s = [35, 102]
  · subst h3; exact ⟨by simp, by decide⟩
  have e1 : (s == [46]) = false := beq_eq_false_iff_ne.2 h1
  have e2 : (s == [35, 116]) = false := beq_eq_false_iff_ne.2 h2
  have e3 : (s == [35, 102]) = false := beq_eq_false_iff_ne.2 h3
  simp only [e1, e2, e3, Bool.false_eq_true, if_false] at hk
  rw [f34_eq s (by omega)] at hk
  simp only [bind_ok] at hk
  cases hc : cutOK (strip s).1 with
  | true => exact strip_notD (cut_notD hc)
  | false =>
    rw [hc] at hk
    simp only [Bool.false_eq_true, if_false] at hk
    rw [f25_eq s (by omega)] at hk
    simp only [bind_ok] at hk
    cases hs : shapeB s with
    | true => exact shape_notD hs
    | false =>
      rw [hs] at hk
      simp only [Bool.not_false, if_true] at hk
      have := Option.some.inj hk
      rw [← this] at h; simp at h

/-! ### one token -/
theorem tok_len : ∀ (n : Nat) (l : Str) (i : Int) (ts : List Token), l.length ≤ n → tokS l i = .ok ts → ∀ t ∈ ts, t.Text.length ≤ l.length
  | n, [], i, ts, hl, h => by rw [tok_nil] at h; cases h; intro t ht; simp at ht
  | 0, c :: r, i, ts, hl, h => by simp at hl
  | n + 1, c :: r, i, ts, hl, h => by
    rw [List.length_cons] at hl
    have hcons : ∀ (t : Token) (m : Str) (j : Int), m.length ≤ n → m.length ≤ r.length → t.Text.length ≤ r.length + 1 → TR.cons t (tokS m j) = .ok ts → ∀ t ∈ ts, t.Text.length ≤ r.length + 1 := fun t m j hm hmr ht h => by
      cases hr : tokS m j with
      | bad a e => rw [hr] at h; cases h
      | ok us =>
        rw [hr] at h; cases h
        intro u hu
        rcases List.mem_cons.1 hu with rfl | hu
        · exact ht
        · have := tok_len n m j us hm hr u hu; omega
    rw [List.length_cons]
    by_cases h59 : c = 59
    · subst h59
      have hle := (List.dropWhile_suffix nl (l := r)).length_le
      rw [tok_rem] at h
      intro t ht
      have := tok_len n _ _ ts (by omega) h t ht; omega
    · cases hs : isSig c with
      | true => rw [tok_sig _ hs] at h; exact hcons _ _ _ (by omega) (Nat.le_refl _) (by simp) h
      | false =>
        cases hd : isDelim c with
        | true =>
          rw [tok_blank _ h59 hs hd] at h
          intro t ht
          have := tok_len n _ _ ts (by omega) h t ht; omega
        | false =>
          have hle := (List.dropWhile_suffix notD (l := r)).length_le
          have htl := (List.takeWhile_prefix (l := r) notD).length_le
          rw [tok_word _ hd] at h
          split at h
          · exact hcons _ _ _ (by omega) hle (by simp; omega) h
          · cases h
/-- A text that is one token, itself. -/
theorem tok_one_sig {c : UInt8} (h : isSig c = true) (i : Int) : tokS [c] i = .ok [⟨sgn c, [c], nil0, i⟩] := by rw [tok_sig _ h, tok_nil]; rfl
theorem tok_one_word {s : Str} (h0 : s ≠ []) (h : s.all notD = true) (i : Int) : tokS s i = if (kindS s).2.2 = 0 then .ok [⟨(kindS s).1, s, (kindS s).2.1, i⟩] else .bad i (kindS s).2.2 := by
  cases s with
  | nil => exact absurd rfl h0
  | cons c r =>
    rw [List.all_cons, Bool.and_eq_true] at h
    have hd : isDelim c = false := by have := h.1; unfold notD at this; simpa using this
    rw [tok_word _ hd, tw_all h.2, dw_all h.2, tok_nil]; rfl
theorem one_cases {s : Str} {i : Int} {x : Token} (h : tokS s i = .ok [x]) (hx : x.Text = s) : (∃ c, s = [c] ∧ isSig c = true ∧ x.Kind = sgn c) ∨ (s ≠ [] ∧ s.all notD = true ∧ (kindS s).2.2 = 0 ∧ x.Kind = (kindS s).1) := by
  cases s with
  | nil => rw [tok_nil] at h; cases h
  | cons c r =>
    by_cases h59 : c = 59
    · subst h59
      rw [tok_rem] at h
      have hle := (List.dropWhile_suffix nl (l := r)).length_le
      have := tok_len _ _ _ _ (Nat.le_refl _) h x (by simp)
      rw [hx, List.length_cons] at this; omega
    · cases hs : isSig c with
      | true =>
        rw [tok_sig _ hs] at h
        left
        cases hr : tokS r (i + 1) with
        | bad a e => rw [hr] at h; cases h
        | ok us =>
          rw [hr] at h; cases h
          have : r = [] := by simpa using hx
          subst this; exact ⟨c, rfl, hs, rfl⟩
      | false =>
        cases hd : isDelim c with
        | true =>
          rw [tok_blank _ h59 hs hd] at h
          have := tok_len _ _ _ _ (Nat.le_refl _) h x (by simp)
          rw [hx, List.length_cons] at this; omega
        | false =>
          rw [tok_word _ hd] at h
          right
          split at h
          · rename_i hk
            cases hr : tokS (r.dropWhile notD) (i + 1 + ((r.takeWhile notD).length : Int)) with
            | bad a e => rw [hr] at h; cases h
            | ok us =>
              rw [hr] at h
              cases h
              have htw : r.takeWhile notD = r := by simpa using hx
              rw [htw] at hk ⊢
              exact ⟨by simp, by rw [List.all_cons, show notD c = true by simp [notD, hd], all_tw htw]; rfl, hk, rfl⟩
          · cases h
/-- Can a token come out of a text. -/
def madeB (t : Token) : Bool := if t.Text.length ≤ 4096 then (match tokS t.Text 0 with
  | .ok [x] => x.Kind == t.Kind && x.Text == t.Text
  | _ => false) else false
theorem f26_eq (t : Token) : f26 t = some (madeB t) := by
  unfold f26 madeB
  rw [f11_eq]
  simp only [bind_ok]
  by_cases h : t.Text.length ≤ 4096
  · rw [if_pos h, if_pos h]
    cases hr : tokS t.Text 0 with
    | bad a e =>
      have he := tok_err _ _ _ _ _ (Nat.le_refl _) hr
      simp [finT, he]
    | ok ts =>
      match ts with
      | [] => simp [finT]
      | [x] =>
        have : rd [x] (0 : Int) = some x := rfl
        simp only [finT, List.nil_append, this, bind_ok]
        by_cases hk : x.Kind = t.Kind <;> simp [hk]
      | x :: y :: l =>
        have : ¬ (((x :: y :: l).length : Int) == 1) = true := by rw [beq_iff_eq]; simp; omega
        have h2 : (((x :: y :: l).length : Int) == 1) = false := by simpa using this
        simp [finT]
        omega
  · rw [if_neg h, if_neg h]; rfl
theorem f30_eq (t : Token) : f30 t = some (madeB t) := by
  unfold f30
  have sig : ∀ (c : UInt8), isSig c = true → t.Text = [c] → madeB t = (t.Kind == sgn c) := fun c hc ht => by
    unfold madeB
    rw [ht, if_pos (show [c].length ≤ 4096 by simp), tok_one_sig hc]
    simp only [beq_self_eq_true, Bool.and_true]
    rw [Bool.eq_iff_iff, beq_iff_eq, beq_iff_eq]; exact eq_comm
  by_cases h1 : t.Text = [40]
  · rw [if_pos (by simpa using h1), sig 40 (by decide) h1]; rfl
  rw [if_neg (by simpa using h1)]
  by_cases h2 : t.Text = [41]
  · rw [if_pos (by simpa using h2), sig 41 (by decide) h2]; rfl
  rw [if_neg (by simpa using h2)]
  by_cases h3 : t.Text = [39]
  · rw [if_pos (by simpa using h3), sig 39 (by decide) h3]; rfl
  rw [if_neg (by simpa using h3)]
  by_cases hl : t.Text.length ≤ 4096
  · rw [if_neg (by rw [decide_eq_true_eq]; omega), (kind_eq t.Text hl).1]
    simp only [bind_ok]
    unfold madeB
    rw [if_pos hl]
    by_cases hk : (kindS t.Text).2.2 = 0
    · obtain ⟨n0, n1⟩ := kind_notD hl hk
      rw [tok_one_word n0 n1, if_pos hk, if_pos (by simpa using hk)]
      simp
    · rw [if_neg (by simpa using hk)]
      simp only [bind_ok]
      congr 1
      symm
      cases hr : tokS t.Text 0 with
      | bad a e => rfl
      | ok ts =>
        match ts with
        | [] => rfl
        | x :: y :: l => rfl
        | [x] =>
          simp only
          cases hx : x.Text == t.Text with
          | false => simp
          | true =>
            have hx' : x.Text = t.Text := by simpa using hx
            rcases one_cases hr hx' with ⟨c, e1, e2, e3⟩ | ⟨e1, e2, e3, e4⟩
            · exfalso
              unfold isSig at e2
              simp only [Bool.or_eq_true, beq_iff_eq] at e2
              rcases e2 with (e2 | e2) | e2 <;> subst e2
              · exact h1 e1
              · exact h2 e1
              · exact h3 e1
            · exact absurd e3 hk
  · rw [if_pos (by rw [decide_eq_true_eq]; omega)]
    unfold madeB; rw [if_neg hl]

/-! ### tokens put together -/
theorem f16_l0_eq (ts : List Token) (lt : ts.length < 9000000000000) : ∀ (k i : Nat), i + k = ts.length → f16_l0 ts i = some (if (ts.drop i).all madeB then .nxt () else .ret ([], 40))
  | 0, i, hk => by rw [f16_l0, if_neg (by simp <;> omega), List.drop_of_length_le (by omega)]; rfl
  | k + 1, i, hk => by
    have k1 : i < ts.length := by omega
    rw [f16_l0, if_pos (by simp <;> omega), rd_nat k1]
    simp only [bind_ok]
    show (f26 ts[i] >>= _) = _
    rw [f26_eq]
    simp only [bind_ok]
    rw [List.drop_eq_getElem_cons k1, List.all_cons]
    cases h : madeB ts[i] with
    | false => rfl
    | true =>
      simp only [Bool.not_true, Bool.false_eq_true, if_false, Bool.true_and]
      rw [w64 (by omega) (by omega), show ((i : Int) + 1) = ((i + 1 : Nat) : Int) by omega]
      exact f16_l0_eq ts lt k (i + 1) (by omega)
theorem f17_l0_eq (ts : List Token) (lt : ts.length < 9000000000000) : ∀ (k i : Nat), i + k = ts.length → f17_l0 ts i = some (if (ts.drop i).all madeB then .nxt () else .ret ([], 40))
  | 0, i, hk => by rw [f17_l0, if_neg (by simp <;> omega), List.drop_of_length_le (by omega)]; rfl
  | k + 1, i, hk => by
    have k1 : i < ts.length := by omega
    rw [f17_l0, if_pos (by simp <;> omega), rd_nat k1]
    simp only [bind_ok]
    show (f30 ts[i] >>= _) = _
    rw [f30_eq]
    simp only [bind_ok]
    rw [List.drop_eq_getElem_cons k1, List.all_cons]
    cases h : madeB ts[i] with
    | false => rfl
    | true =>
      simp only [Bool.not_true, Bool.false_eq_true, if_false, Bool.true_and]
      rw [w64 (by omega) (by omega), show ((i : Int) + 1) = ((i + 1 : Nat) : Int) by omega]
      exact f17_l0_eq ts lt k (i + 1) (by omega)
/-- Behind a text, the others, a blank ahead of each but the first of all; none: too long. -/
def joinS : Str → Nat → List Token → Option Str
  | s, _, [] => some s
  | s, i, t :: ts => if (if i = 0 then s ++ t.Text else s ++ [32] ++ t.Text).length ≤ 4096 then joinS (if i = 0 then s ++ t.Text else s ++ [32] ++ t.Text) (i + 1) ts else none
theorem bts_app (a b : Str) : bts a ++ bts b = bts (a ++ b) := by simp [bts]
theorem f16_l1_eq (ts : List Token) (lt : ts.length < 9000000000000) (hm : ∀ t ∈ ts, t.Text.length ≤ 4096) : ∀ (k i : Nat) (s : Str), i + k = ts.length → s.length ≤ 4096 → f16_l1 ts (s.length : Int) (bts s) i = some (match joinS s i (ts.drop i) with | some r => .nxt (bts r) | none => .ret ([], 3))
  | 0, i, s, hk, hs => by rw [f16_l1, if_neg (by simp <;> omega), List.drop_of_length_le (by omega)]; rfl
  | k + 1, i, s, hk, hs => by
    have k1 : i < ts.length := by omega
    have ht := hm _ (List.getElem_mem k1)
    rw [f16_l1, if_pos (by simp <;> omega), rd_nat k1]
    simp only [bind_ok]
    rw [List.drop_eq_getElem_cons k1, joinS]
    by_cases h0 : i = 0
    · subst h0
      rw [if_neg (by simp), if_pos rfl, w64 (by omega) (by omega)]
      by_cases hl : (s ++ ts[0].Text).length ≤ 4096
      · rw [if_pos hl]
        rw [List.length_append] at hl
        rw [if_neg (by rw [decide_eq_true_eq]; omega)]
        unfold f28
        rw [apN (by simp [bts]; omega)]
        simp only [bind_ok]
        rw [bts_app, show ((s.length : Int) + (ts[0].Text.length : Int)) = ((s ++ ts[0].Text).length : Int) by rw [List.length_append]; omega, w64 (by omega) (by omega)]
        have := f16_l1_eq ts lt hm k 1 (s ++ ts[0].Text) (by omega) (by rw [List.length_append]; omega)
        exact this
      · rw [if_neg hl]
        rw [List.length_append] at hl
        rw [if_pos (by rw [decide_eq_true_eq]; omega)]
        rfl
    · rw [if_pos (by rw [decide_eq_true_eq]; omega), if_neg h0]
      unfold f27
      have e32 : bts s ++ [32] = bts (s ++ [32]) := by simp [bts]
      rw [apN (by simp [bts]; omega)]
      simp only [bind_ok]
      rw [e32, w64 (x := (s.length : Int) + 1) (by omega) (by omega), w64 (by omega) (by omega)]
      by_cases hl : (s ++ [32] ++ ts[i].Text).length ≤ 4096
      · rw [if_pos hl]
        simp only [List.length_append, List.length_singleton] at hl
        rw [if_neg (by rw [decide_eq_true_eq]; omega)]
        unfold f28
        rw [apN (by simp [bts]; omega)]
        simp only [bind_ok]
        rw [bts_app, show ((s.length : Int) + 1 + (ts[i].Text.length : Int)) = ((s ++ [32] ++ ts[i].Text).length : Int) by simp only [List.length_append, List.length_singleton]; omega, w64 (by omega) (by omega), show ((i : Int) + 1) = ((i + 1 : Nat) : Int) by omega]
        exact f16_l1_eq ts lt hm k (i + 1) (s ++ [32] ++ ts[i].Text) (by omega) (by simp only [List.length_append, List.length_singleton]; omega)
      · rw [if_neg hl]
        simp only [List.length_append, List.length_singleton] at hl
        rw [if_pos (by rw [decide_eq_true_eq]; omega)]
        rfl
theorem f17_l1_eq (ts : List Token) (lt : ts.length < 9000000000000) (hm : ∀ t ∈ ts, t.Text.length ≤ 4096) : ∀ (k i : Nat) (s : Str), i + k = ts.length → s.length ≤ 4096 → f17_l1 ts s i = some (match joinS s i (ts.drop i) with | some r => .nxt r | none => .ret ([], 3))
  | 0, i, s, hk, hs => by rw [f17_l1, if_neg (by simp <;> omega), List.drop_of_length_le (by omega)]; rfl
  | k + 1, i, s, hk, hs => by
    have k1 : i < ts.length := by omega
    have ht := hm _ (List.getElem_mem k1)
    rw [f17_l1, if_pos (by simp <;> omega)]
    rw [List.drop_eq_getElem_cons k1, joinS]
    by_cases h0 : i = 0
    · subst h0
      rw [if_neg (by simp), if_pos rfl, rd_nat k1]
      simp only [bind_ok]
      rw [catN (by omega)]
      simp only [bind_ok]
      by_cases hl : (s ++ ts[0].Text).length ≤ 4096
      · rw [if_pos hl, if_neg (by rw [decide_eq_true_eq]; omega)]
        simp only [bind_ok]
        rw [w64 (by omega) (by omega)]
        exact f17_l1_eq ts lt hm k 1 (s ++ ts[0].Text) (by omega) hl
      · rw [if_neg hl, if_pos (by rw [decide_eq_true_eq]; omega)]
        rfl
    · rw [if_pos (by rw [decide_eq_true_eq]; omega), if_neg h0, catN (by simp; omega), rd_nat k1]
      simp only [bind_ok]
      rw [catN (by simp; omega)]
      simp only [bind_ok]
      by_cases hl : (s ++ [32] ++ ts[i].Text).length ≤ 4096
      · rw [if_pos hl, if_neg (by rw [decide_eq_true_eq]; omega)]
        simp only [bind_ok]
        rw [w64 (by omega) (by omega), show ((i : Int) + 1) = ((i + 1 : Nat) : Int) by omega]
        exact f17_l1_eq ts lt hm k (i + 1) (s ++ [32] ++ ts[i].Text) (by omega) hl
      · rw [if_neg hl, if_pos (by rw [decide_eq_true_eq]; omega)]
        rfl
theorem made_len {t : Token} (h : madeB t = true) : t.Text.length ≤ 4096 := by
  unfold madeB at h
  split at h
  · assumption
  · cases h
/-- What Join answers. -/
def joinA (ts : List Token) : Str × Int := if ts.all madeB then (match joinS [] 0 ts with | some r => (r, 0) | none => ([], 3)) else ([], 40)
theorem joinS_len : ∀ (ts : List Token) (s : Str) (i : Nat) (r : Str), s.length ≤ 4096 → joinS s i ts = some r → r.length ≤ 4096
  | [], s, i, r, hs, h => by rw [joinS] at h; cases h; exact hs
  | t :: ts, s, i, r, hs, h => by
    rw [joinS] at h
    generalize (if i = 0 then s ++ t.Text else s ++ [32] ++ t.Text) = q at h
    by_cases hl : q.length ≤ 4096
    · rw [if_pos hl] at h; exact joinS_len ts _ _ r hl h
    · rw [if_neg hl] at h; cases h
theorem f16_eq (ts : List Token) (lt : ts.length < 9000000000000) : f16 ts = some (joinA ts) := by
  unfold f16 joinA
  have h0 := f16_l0_eq ts lt ts.length 0 (by omega)
  rw [show ((0 : Nat) : Int) = 0 from rfl, List.drop_zero] at h0
  rw [h0]
  simp only [bind_ok]
  cases hm : ts.all madeB with
  | false => rfl
  | true =>
    simp only [if_true]
    have h1 := f16_l1_eq ts lt (fun t ht => made_len (List.all_eq_true.1 hm t ht)) ts.length 0 [] (by omega) (by simp)
    rw [show ((0 : Nat) : Int) = 0 from rfl, List.drop_zero] at h1
    have h1' : f16_l1 ts 0 [] 0 = _ := h1
    rw [h1']
    simp only [bind_ok]
    cases hj : joinS [] 0 ts with
    | none => rfl
    | some r =>
      have hrl := joinS_len ts [] 0 r (by simp) hj
      simp only
      unfold f29
      rw [stb_bts, if_pos ⟨rfl, by simp [bts]; omega⟩]
      rfl
theorem f17_eq (ts : List Token) (lt : ts.length < 9000000000000) : f17 ts = some (joinA ts) := by
  unfold f17 joinA
  have h0 := f17_l0_eq ts lt ts.length 0 (by omega)
  rw [show ((0 : Nat) : Int) = 0 from rfl, List.drop_zero] at h0
  rw [h0]
  simp only [bind_ok]
  cases hm : ts.all madeB with
  | false => rfl
  | true =>
    simp only [if_true]
    have h1 := f17_l1_eq ts lt (fun t ht => made_len (List.all_eq_true.1 hm t ht)) ts.length 0 [] (by omega) (by simp)
    rw [show ((0 : Nat) : Int) = 0 from rfl, List.drop_zero] at h1
    rw [h1]
    simp only [bind_ok]
    cases hj : joinS [] 0 ts <;> rfl
theorem f5_eq (ts : List Token) (lt : ts.length * 88 ≤ 140737488355328) : f5 ts = some true := by
  unfold f5
  rw [f10_eq]
  simp only [bind_ok, Bool.not_true, Bool.false_eq_true, if_false]
  rw [apN (by simp; omega)]
  simp only [bind_ok, List.nil_append]
  rw [f16_eq ts (by omega), f17_eq ts (by omega)]
  simp
end Go.Bx.Scan

namespace Go.Bx.Scan
set_option linter.unusedVariables false
set_option linter.unusedSimpArgs false
set_option linter.unusedSectionVars false
open Go.Proofs
set_option linter.unusedSimpArgs false
set_option linter.unusedVariables false
set_option maxRecDepth 10000
set_option maxHeartbeats 4000000
def f6_l0 (text : Str) (r3 : (List Token) × Int × Int) (r9 : (List Token) × Int × Int) (last : Int) (v : Int) : Option (Ou Bool Unit) :=
 if (decide (v < (r3.1.length : Int))) = true then
  (rd r9.1 v >>= fun e13 =>
  rd r3.1 v >>= fun e14 =>
  if (e13.Kind != e14.Kind) = true then
   (some (.ret false))
  else
   if (e13.Text != e14.Text) = true then
    (some (.ret false))
   else
    if (decide (e14.At ≤ last)) = true then
     (some (.ret false))
    else
     if (decide ((IntKind.i64.wrap (e14.At + (e14.Text.length : Int))) > (text.length : Int))) = true then
      (some (.ret false))
     else
      cutL text e14.At (IntKind.i64.wrap (e14.At + (e14.Text.length : Int))) >>= fun p15 =>
      if (p15 != e14.Text) = true then
       (some (.ret false))
      else
       rd r3.1 v >>= fun e17 =>
       f6_l0 text r3 r9 e17.At (IntKind.i64.wrap (v + 1)))
 else
  some (.nxt ())
 partial_fixpoint
/-- sibyl/sibyllaw04.ScanBack -/
def f6 (text : Str) : Option (Bool) :=
 f10 >>= fun r1 =>
 if (!r1) = true then
  (some false)
 else
  f11 text >>= fun r3 =>
  if (r3.2.2 != 0) = true then
   ((if ((r3.1.length : Int) == 0) = true then
    (if (decide (r3.2.1 ≥ 0)) = true then
     (some (decide (r3.2.1 ≤ (text.length : Int))))
    else
     some false)
   else
    some false : Option (Bool)) >>= fun o5 =>
   some o5)
  else
   f16 r3.1 >>= fun r6 =>
   if (r6.2 != 0) = true then
    ((if (r6.2 == 3) = true then
     (some (r6.1 == []))
    else
     some false : Option (Bool)) >>= fun o8 =>
    some o8)
   else
    f11 r6.1 >>= fun r9 =>
    if (r9.2.2 != 0) = true then
     (some false)
    else
     if ((r9.1.length : Int) != (r3.1.length : Int)) = true then
      (some false)
     else
      f6_l0 text r3 r9 (-1) 0 >>= fun o11 => match o11 with
      | .ret r0 => some r0
      | .nxt wo11 =>
       some true
noncomputable def f6_ci : CI := (CI.or 10 f10_tbl (CI.or 11 f11_tbl (CI.or 16 f16_tbl (fun _ _ _ => none))))
theorem f6_ci_ok (base : Nat) : CIOK E base f6_ci := (or_ok f10_tbl_ok (or_ok f11_tbl_ok (or_ok f16_tbl_ok no_ok)))
theorem f6_res : Try.f6.results = #[.tmp 2] := rfl
theorem f6_rt : Try.f6.resultTypes = #[4] := rfl
theorem f6_l0_ok {base : Nat} {c00 : Ctx} (text : Str) (r3 : (List Token) × Int × Int) (r9 : (List Token) × Int × Int) (hU : Under E base c00 nilStore) : ∀ (last : Int) (v : Int) (o11 : Ou Bool Unit), f6_l0 text r3 r9 last v = some o11 →
  WpL E base c00 nilStore (lb Try.f6 0) ⟨.v (.string (mkS text)) :: jj 2 (.row 0 6 0 ((r3.1).length) :: jj 4 (.row 1 6 0 ((r9.1).length) :: jj 2 (.v (.int .i64 last) :: jj 53 (.v (.int .i64 (r3.1.length : Int)) :: .v (.int .i64 v) :: jj 85 [])))), St [some ⟨6, true, true, List.map cToken r3.1⟩, some ⟨6, false, true, List.map cToken r9.1⟩], none, 0⟩ (fun ex s1 => match o11 with | .ret r0 => ex = .ret ∧ Rt E base c00 Try.f6 (.v (.bool r0)) s1 | .nxt wo11 => ex = .exit 0 ∧ Wk base c00 nilStore s1 ⟨jj 152 [], St [], none, 0⟩) := by
 refine f6_l0.partial_correctness text r3 r9 _ ?_
 intro lp__ ih last v o11 h
 refine WpL.stepE (lbI Try.f6.eq_1) ?_
 refine rs hU (f6_ci_ok _) rgJ <| Wp.seq <| ?_
 refine Wp.cond hU (t := decide (v < (r3.1.length : Int))) rfl (fun hc12 => ?_) (fun hc12 => ?_)
 ·rw [if_t hc12] at h
  refine Wp.skip <| thenN <| Wp.seq <| Wp.block <| Wp.seq <| ?_
  have fx := hc12
  refine rq hU (f6_ci_ok _) rgJF <| thenN <| Wp.seq <| Wp.seq <| ?_
  obtain ⟨e13, he13, h⟩ := bind_some h
  obtain ⟨he13a, he13b, he13c⟩ := rd_some he13
  obtain ⟨e14, he14, h⟩ := bind_some h
  obtain ⟨he14a, he14b, he14c⟩ := rd_some he14
  rcases Bool.eq_false_or_eq_true (e13.Kind != e14.Kind) with hg174 | hg174
  ·rw [if_t hg174] at h
   have fx := i8 he13a he13b he13c he14a he14b he14c hc12 hg174
   refine Wp.regionT hU (f6_ci_ok _) rgJF (by kernel_rfl) <| thenN <| ?_
   refine Wp.cond hU (t := true) rfl (fun _ => ?_) (fun hc => by cases hc)
   refine Wp.seq <| ?_
   have fx := i2 hc12 hg174
   refine rq hU (f6_ci_ok _) rgJF <| thenN <| Wp.ret <| thenR <| blkR <| thenR <| againR <| ?_
   obtain rfl := sj h
   refine ⟨rfl, ?_⟩
   refine Rt.of <| ?_
   have fx := i2 f6_res f6_rt
   exact rtJ
  ·rw [if_f hg174] at h
   rcases Bool.eq_false_or_eq_true (e13.Text != e14.Text) with hg175 | hg175
   ·rw [if_t hg175] at h
    have fx := i9 he13a he13b he13c he14a he14b he14c hc12 hg174 hg175
    refine Wp.regionT hU (f6_ci_ok _) rgJF (by kernel_rfl) <| thenN <| ?_
    refine Wp.cond hU (t := true) rfl (fun _ => ?_) (fun hc => by cases hc)
    refine Wp.seq <| ?_
    have fx := i3 hc12 hg174 hg175
    refine rq hU (f6_ci_ok _) rgJF <| thenN <| Wp.ret <| thenR <| blkR <| thenR <| againR <| ?_
    obtain rfl := sj h
    refine ⟨rfl, ?_⟩
    refine Rt.of <| ?_
    have fx := i2 f6_res f6_rt
    exact rtJ
   ·rw [if_f hg175] at h
    rcases Bool.eq_false_or_eq_true (decide (e14.At ≤ last)) with hg176 | hg176
    ·rw [if_t hg176] at h
     have fx := i9 he13a he13b he13c he14a he14b he14c hc12 hg174 (i2 hg175 hg176)
     refine Wp.regionT hU (f6_ci_ok _) rgJF (by kernel_rfl) <| thenN <| ?_
     refine Wp.cond hU (t := true) rfl (fun _ => ?_) (fun hc => by cases hc)
     refine Wp.seq <| ?_
     have fx := i4 hc12 hg174 hg175 hg176
     refine rq hU (f6_ci_ok _) rgJF <| thenN <| Wp.ret <| thenR <| blkR <| thenR <| againR <| ?_
     obtain rfl := sj h
     refine ⟨rfl, ?_⟩
     refine Rt.of <| ?_
     have fx := i2 f6_res f6_rt
     exact rtJ
    ·rw [if_f hg176] at h
     rcases Bool.eq_false_or_eq_true (decide ((IntKind.i64.wrap (e14.At + (e14.Text.length : Int))) > (text.length : Int))) with hg177 | hg177
     ·rw [if_t hg177] at h
      have fx := i9 he13a he13b he13c he14a he14b he14c hc12 hg174 (i3 hg175 hg176 hg177)
      refine Wp.regionT hU (f6_ci_ok _) rgJF (by kernel_rfl) <| thenN <| ?_
      refine Wp.cond hU (t := true) rfl (fun _ => ?_) (fun hc => by cases hc)
      refine Wp.seq <| ?_
      have fx := i5 hc12 hg174 hg175 hg176 hg177
      refine rq hU (f6_ci_ok _) rgJF <| thenN <| Wp.ret <| thenR <| blkR <| thenR <| againR <| ?_
      obtain rfl := sj h
      refine ⟨rfl, ?_⟩
      refine Rt.of <| ?_
      have fx := i2 f6_res f6_rt
      exact rtJ
     ·rw [if_f hg177] at h
      obtain ⟨p15, hp15, h⟩ := bind_some h
      obtain ⟨hp15a, hp15b, hp15c, hp15d, hp15e, hp15f⟩ := cutL_some hp15
      try simp only [Int.toNat_natCast] at hp15c hp15d
      try simp only [Int.toNat_natCast, Int.toNat_zero, List.drop_zero, Nat.sub_zero] at hp15e hp15f
      have fx := i9 he13a he13b he13c he14a he14b he14c hp15a hp15b (i8 hp15c hp15d hp15e.symm hc12 hg174 hg175 hg176 hg177)
      refine Wp.regionT hU (f6_ci_ok _) rgJS (by kernel_rfl) <| thenN <| ?_
      refine Wp.cond hU (t := p15 != e14.Text) rfl (fun hc16 => ?_) (fun hc16 => ?_)
      ·rw [if_t hc16] at h
       refine Wp.seq <| ?_
       have fx := i9 hp15a hp15b hp15c hp15d hc12 hg174 hg175 hg176 (i2 hg177 hc16)
       refine rq hU (f6_ci_ok _) rgJS <| thenN <| Wp.ret <| thenR <| blkR <| thenR <| againR <| ?_
       obtain rfl := sj h
       refine ⟨rfl, ?_⟩
       refine Rt.of <| ?_
       have fx := i3 f6_res f6_rt hp15e
       exact rtJ
      ·rw [if_f hc16] at h
       refine Wp.skip <| thenN <| ?_
       obtain ⟨e17, he17, h⟩ := bind_some h
       obtain ⟨he17a, he17b, he17c⟩ := rd_some he17
       have fx := i9 he17a he17b he17c hp15a hp15b hp15c hp15d hc12 (i5 hg174 hg175 hg176 hg177 hc16)
       refine rq hU (f6_ci_ok _) rgJS <| blkN <| thenN <| ?_
       have fx := i9 hp15a hp15b hp15c hp15d hc12 hg174 hg175 hg176 (i2 hg177 hc16)
       refine rq hU (f6_ci_ok _) rgJS <| againN <| ?_
       refine Wk.wpL ?_ (ih e17.At (IntKind.i64.wrap (v + 1)) _ h)
       have fe := hp15e
       have fl := hp15f
       have fv := i3 hp15e hp15c hp15d
       exact Wk.weak hU [some 0, some 1] _ (by decide) wsJF wvJF
 ·rw [if_f hc12] at h
  refine Wp.exit <| thenE <| againE <| ?_
  obtain rfl := sj h
  refine ⟨rfl, ?_⟩
  exact Wk.weak hU [] _ (by decide) .nil wvJ
theorem f6_ok (text : Str) (r : Bool) (h : f6 text = some r) : PureOK E 6 [.v (.string (mkS text))] (.v (.bool r)) := by
 unfold f6 at h
 refine pof (fn := Try.f6) (nt := 152) Try.func6 rfl rfl rfl rfl (fun _ => rfl) (fun base c00 hU => ?_)
 refine Wk.wp (s2 := ⟨.v (.string (mkS text)) :: jj 151 [], St [], none, 0⟩) ?_ ?_
 ·exact Wk.weak hU [] _ (by decide) .nil wvS
 refine rs hU (f6_ci_ok _) rgJ <| Wp.seq <| Wp.seq <| ?_
 obtain ⟨r1, hr1, h⟩ := bind_some h
 have hr1c := fun σ => show f6_ci 10 _ σ = _ from f10_call hr1 σ
 have fx := hr1c
 refine rq hU (f6_ci_ok _) rgJF <| thenN <| ?_
 refine Wp.cond hU (t := !r1) rfl (fun hc2 => ?_) (fun hc2 => ?_)
 ·rw [if_t hc2] at h
  refine Wp.seq <| ?_
  have fx := hc2
  refine rq hU (f6_ci_ok _) rgJF <| thenN <| Wp.ret <| thenR <| ?_
  obtain rfl := sj h
  refine ⟨.inl rfl, ?_⟩
  refine Rt.of <| ?_
  have fx := i2 f6_res f6_rt
  exact rtJ
 ·rw [if_f hc2] at h
  refine Wp.skip <| thenN <| Wp.seq <| ?_
  obtain ⟨r3, hr3, h⟩ := bind_some h
  have hr3c := fun σ => show f6_ci 11 _ σ = _ from f11_call hr3 σ
  have fx := i2 hr3c hc2
  refine rq hU (f6_ci_ok _) rgJF <| thenN <| Wp.seq <| Wp.seq <| ?_
  have fx := hc2
  refine rq hU (f6_ci_ok _) rgJF <| thenN <| ?_
  refine Wp.cond hU (t := r3.2.2 != 0) rfl (fun hc4 => ?_) (fun hc4 => ?_)
  ·rw [if_t hc4] at h
   obtain ⟨o5, ho5, h⟩ := bind_some h
   refine Wp.seq1 (JP := (fun ex s1 => ex = .nrm ∧ Wk base c00 nilStore s1 ⟨jj 2 (.v (.bool o5) :: jj 149 []), St [], none, 0⟩)) ?_ (fun ex s1 hp => ?_)
   ·replace h := ho5
    rcases Bool.eq_false_or_eq_true ((r3.1.length : Int) == 0) with hg74 | hg74
    ·rw [if_t hg74] at h
     rcases Bool.eq_false_or_eq_true (decide (r3.2.1 ≥ 0)) with hg75 | hg75
     ·rw [if_t hg75] at h
      have fx := i4 hc2 hc4 hg74 hg75
      refine rq hU (f6_ci_ok _) rgJF <| ?_
      obtain rfl := sj h
      refine ⟨rfl, ?_⟩
      exact Wk.weak hU [] _ (by decide) .nil wvJ
     ·rw [if_f hg75] at h
      have fx := i4 hc2 hc4 hg74 hg75
      refine rq hU (f6_ci_ok _) rgJF <| ?_
      obtain rfl := sj h
      refine ⟨rfl, ?_⟩
      exact Wk.weak hU [] _ (by decide) .nil wvJ
    ·rw [if_f hg74] at h
     have fx := i3 hc2 hc4 hg74
     refine rq hU (f6_ci_ok _) rgJF <| ?_
     obtain rfl := sj h
     refine ⟨rfl, ?_⟩
     exact Wk.weak hU [] _ (by decide) .nil wvJ
   ·obtain ⟨rfl, hp⟩ := hp
    refine thenN (hp.wp ?_)
    refine Wp.ret <| thenR <| ?_
    obtain rfl := sj h
    refine ⟨.inl rfl, ?_⟩
    refine Rt.of <| ?_
    have fx := i2 f6_res f6_rt
    exact rtJ
  ·rw [if_f hc4] at h
   refine Wp.skip <| thenN <| Wp.seq <| ?_
   obtain ⟨r6, hr6, h⟩ := bind_some h
   have hr6c := fun σ => show f6_ci 16 _ σ = _ from f16_call hr6 σ
   have fx := i3 hr6c hc2 hc4
   refine rq hU (f6_ci_ok _) rgJF <| thenN <| Wp.seq <| Wp.seq <| ?_
   have fx := i2 hc2 hc4
   refine rq hU (f6_ci_ok _) rgJF <| thenN <| ?_
   refine Wp.cond hU (t := r6.2 != 0) rfl (fun hc7 => ?_) (fun hc7 => ?_)
   ·rw [if_t hc7] at h
    obtain ⟨o8, ho8, h⟩ := bind_some h
    refine Wp.seq1 (JP := (fun ex s1 => ex = .nrm ∧ Wk base c00 nilStore s1 ⟨jj 2 (.v (.bool o8) :: jj 149 []), St [], none, 0⟩)) ?_ (fun ex s1 hp => ?_)
    ·replace h := ho8
     rcases Bool.eq_false_or_eq_true (r6.2 == 3) with hg77 | hg77
     ·rw [if_t hg77] at h
      have fx := i4 hc2 hc4 hc7 hg77
      refine rq hU (f6_ci_ok _) rgJF <| ?_
      obtain rfl := sj h
      refine ⟨rfl, ?_⟩
      exact Wk.weak hU [] _ (by decide) .nil wvJ
     ·rw [if_f hg77] at h
      have fx := i4 hc2 hc4 hc7 hg77
      refine rq hU (f6_ci_ok _) rgJF <| ?_
      obtain rfl := sj h
      refine ⟨rfl, ?_⟩
      exact Wk.weak hU [] _ (by decide) .nil wvJ
    ·obtain ⟨rfl, hp⟩ := hp
     refine thenN (hp.wp ?_)
     refine Wp.ret <| thenR <| ?_
     obtain rfl := sj h
     refine ⟨.inl rfl, ?_⟩
     refine Rt.of <| ?_
     have fx := i2 f6_res f6_rt
     exact rtJ
   ·rw [if_f hc7] at h
    refine Wp.skip <| thenN <| Wp.seq <| ?_
    obtain ⟨r9, hr9, h⟩ := bind_some h
    have hr9c := fun σ => show f6_ci 11 _ σ = _ from f11_call hr9 σ
    have fx := i4 hr9c hc2 hc4 hc7
    refine rq hU (f6_ci_ok _) rgJF <| thenN <| Wp.seq <| Wp.seq <| ?_
    rcases Bool.eq_false_or_eq_true (r9.2.2 != 0) with hg81 | hg81
    ·rw [if_t hg81] at h
     have fx := i4 hc2 hc4 hc7 hg81
     refine rq hU (f6_ci_ok _) rgJF <| thenN <| ?_
     refine Wp.cond hU (t := true) rfl (fun _ => ?_) (fun hc => by cases hc)
     refine rs hU (f6_ci_ok _) rgJF <| Wp.ret <| thenR <| ?_
     obtain rfl := sj h
     refine ⟨.inl rfl, ?_⟩
     refine Rt.of <| ?_
     have fx := i2 f6_res f6_rt
     exact rtJ
    ·rw [if_f hg81] at h
     have fx := i4 hc2 hc4 hc7 hg81
     refine rq hU (f6_ci_ok _) rgJF <| thenN <| ?_
     refine Wp.cond hU (t := (r9.1.length : Int) != (r3.1.length : Int)) rfl (fun hc10 => ?_) (fun hc10 => ?_)
     ·rw [if_t hc10] at h
      refine Wp.seq <| ?_
      have fx := i5 hc2 hc4 hc7 hg81 hc10
      refine rq hU (f6_ci_ok _) rgJF <| thenN <| Wp.ret <| thenR <| ?_
      obtain rfl := sj h
      refine ⟨.inl rfl, ?_⟩
      refine Rt.of <| ?_
      have fx := i2 f6_res f6_rt
      exact rtJ
     ·rw [if_f hc10] at h
      refine Wp.skip <| thenN <| Wp.seq <| ?_
      have fx := i5 hc2 hc4 hc7 hg81 hc10
      refine rq hU (f6_ci_ok _) rgJF <| thenN <| Wp.seq <| rs hU (f6_ci_ok _) rgJF <| Wp.block <| ?_
      obtain ⟨o11, ho11, h⟩ := bind_some h
      refine Wp.loop <| ?_
      refine Tw.mono (Wk.wpL (s2 := ⟨.v (.string (mkS text)) :: jj 2 (.row 0 6 0 ((r3.1).length) :: jj 4 (.row 1 6 0 ((r9.1).length) :: jj 2 (.v (.int .i64 (-1)) :: jj 53 (.v (.int .i64 (r3.1.length : Int)) :: .v (.int .i64 0) :: jj 85 [])))), St [some ⟨6, true, true, List.map cToken r3.1⟩, some ⟨6, false, true, List.map cToken r9.1⟩], none, 0⟩) ?_ (f6_l0_ok text r3 r9 hU (-1) 0 o11 ho11)) (fun ex s1 hp => ?_)
      ·exact Wk.weak hU [some 0, some 1] _ (by decide) wsJ wvJ
      ·cases o11 with
       | ret r0 =>
        obtain ⟨rfl, hp⟩ := hp
        obtain rfl := sj h
        refine blkR <| thenR <| ?_
        exact ⟨.inl rfl, hp⟩
       | nxt wo11 =>
        obtain ⟨rfl, hp⟩ := hp
        dsimp only at h
        refine blkE <| thenN <| hp.wp <| rs hU (f6_ci_ok _) rgJF <| Wp.ret <| ?_
        obtain rfl := sj h
        refine ⟨.inl rfl, ?_⟩
        refine Rt.of <| ?_
        have fx := i2 f6_res f6_rt
        exact rtJ
noncomputable def f6_tbl : CI := tbl 6 (fun p : Str => [.v (.string (mkS p))]) (fun p => (f6 p).map fun r => .v (.bool r))
theorem f6_tbl_ok {base : Nat} : CIOK E base f6_tbl := tbl_okM fun p q h => f6_ok p q h
theorem f6_call {text : Str} {r : Bool} (h : f6 text = some r) (σ : Store) : f6_tbl 6 [.v (.string (mkS text))] σ = some (.v (.bool r), σ, none) :=
 tbl_eq (x := (text)) (fun x y e => by
  exact av_str (List.cons.inj e).1) (by simp [h]) σ
end Go.Bx.Scan

/- ScanBack in plain Lean. (Own text.) -/
namespace Go.Bx.Scan
set_option linter.unusedVariables false
set_option linter.unusedSimpArgs false
set_option linter.unusedSectionVars false
open Go.Proofs
set_option linter.unusedVariables false
set_option linter.unusedSimpArgs false

def sk (t : Token) : Int × Str := (t.Kind, t.Text)
theorem tok_made (s : Str) (ls : s.length ≤ 4096) (ts : List Token) (h : tokS s 0 = .ok ts) : (∀ t ∈ ts, madeB t = true ∧ 59 ∉ t.Text) ∧ ts.length ≤ s.length := by
  refine tok_all (P := fun t => madeB t = true ∧ 59 ∉ t.Text) (fun c i hc => ?_) (fun w i hw0 hw hwl hk => ?_) s.length s 0 (Nat.le_refl _) ls ts h
  · refine ⟨?_, ?_⟩
    · unfold madeB
      rw [if_pos (show [c].length ≤ 4096 by simp), tok_one_sig hc]; simp
    · intro hm
      have hm2 : (59 : UInt8) ∈ [c] := hm
      have : c = 59 := (List.mem_singleton.1 hm2).symm
      subst this; cases hc
  · refine ⟨?_, ?_⟩
    · unfold madeB
      rw [if_pos hwl, tok_one_word hw0 hw, if_pos hk]; simp
    · intro hm
      have := List.all_eq_true.1 hw _ hm
      simp [notD, delim59] at this
theorem made_one {t : Token} (h : madeB t = true) (j : Int) : ∃ x, tokS t.Text j = .ok [x] ∧ sk x = sk t := by
  have hl := made_len h
  unfold madeB at h
  rw [if_pos hl] at h
  have hs := tok_shift j t.Text.length t.Text 0 (Nat.le_refl _)
  rw [Int.zero_add] at hs
  cases hr : tokS t.Text 0 with
  | bad a e => rw [hr] at h; cases h
  | ok ts =>
    rw [hr] at h
    match ts with
    | [] => cases h
    | x :: y :: l => cases h
    | [x] =>
      simp only [Bool.and_eq_true, beq_iff_eq] at h
      rw [hs, hr]
      exact ⟨x.at_ j, rfl, by unfold sk Token.at_; rw [h.1, h.2]⟩
theorem join_toks : ∀ (ts : List Token) (s : Str) (i : Nat) (r : Str) (us : List Token), (∀ t ∈ ts, madeB t = true ∧ 59 ∉ t.Text) → 59 ∉ s → tokS s 0 = .ok us → (i = 0 → s = []) → joinS s i ts = some r → ∃ vs, tokS r 0 = .ok (us ++ vs) ∧ vs.map sk = ts.map sk
  | [], s, i, r, us, hm, h59, hs, h0, h => by
    rw [joinS] at h; cases h
    exact ⟨[], by simpa using hs, rfl⟩
  | t :: ts, s, i, r, us, hm, h59, hs, h0, h => by
    have ht := hm t (by simp)
    have hm' : ∀ t ∈ ts, madeB t = true ∧ 59 ∉ t.Text := fun u hu => hm u (by simp [hu])
    rw [joinS] at h
    have key : ∀ q : Str, (if i = 0 then s ++ t.Text else s ++ [32] ++ t.Text) = q → ∃ x, tokS q 0 = .ok (us ++ [x]) ∧ sk x = sk t ∧ 59 ∉ q := fun q hq => by
      by_cases hi : i = 0
      · rw [if_pos hi, h0 hi, List.nil_append] at hq
        subst hq
        obtain ⟨x, x1, x2⟩ := made_one ht.1 0
        rw [h0 hi, tok_nil] at hs
        cases hs
        exact ⟨x, by simpa using x1, x2, ht.2⟩
      · rw [if_neg hi] at hq
        subst hq
        obtain ⟨x, x1, x2⟩ := made_one ht.1 (0 + (s.length : Int) + 1)
        refine ⟨x, ?_, x2, ?_⟩
        · have e : s ++ [32] ++ t.Text = s ++ 32 :: t.Text := by simp
          rw [e, tok_app (c := 32) (by decide) t.Text s.length s 0 (Nat.le_refl _) (.inr h59), hs, tok_blank _ (by decide) (by decide) (by decide), x1]; rfl
        · simp [h59, ht.2]
    obtain ⟨x, x1, x2, x3⟩ := key _ rfl
    generalize (if i = 0 then s ++ t.Text else s ++ [32] ++ t.Text) = q at *
    by_cases hl : q.length ≤ 4096
    · rw [if_pos hl] at h
      obtain ⟨vs, v1, v2⟩ := join_toks ts q (i + 1) r (us ++ [x]) hm' x3 x1 (fun h => by omega) h
      exact ⟨x :: vs, by rw [v1]; simp, by simp [x2, v2]⟩
    · rw [if_neg hl] at h; cases h
theorem f6_l0_eq (s : Str) (ts us : List Token) (x y : Int × Int) (ls : s.length ≤ 4096) (lt : ts.length ≤ 5000) (hsk : us.map sk = ts.map sk) : ∀ (k i : Nat) (last : Int), i + k = ts.length → -1 ≤ last → Pl s (last + 1) (ts.drop i) → f6_l0 s (ts, x.1, x.2) (us, y.1, y.2) last i = some (.nxt ())
  | 0, i, last, hk, hl, hp => by rw [f6_l0, if_neg (by simp <;> omega)]
  | k + 1, i, last, hk, hl, hp => by
    have k1 : i < ts.length := by omega
    have hul : us.length = ts.length := by have := congrArg List.length hsk; simpa using this
    have k2 : i < us.length := by omega
    have hi : sk us[i] = sk ts[i] := by
      have h1 : (us.map sk)[i]? = (ts.map sk)[i]? := by rw [hsk]
      simpa [List.getElem?_map, k1, k2, -List.getElem_cons_drop] using h1
    have hkind : us[i].Kind = ts[i].Kind := congrArg Prod.fst hi
    have htext : us[i].Text = ts[i].Text := congrArg Prod.snd hi
    rw [List.drop_eq_getElem_cons k1] at hp
    obtain ⟨p1, p2, p3, p4⟩ := hp
    rw [f6_l0, if_pos (by simp <;> omega), rd_nat k2, rd_nat k1]
    simp only [bind_ok]
    rw [if_neg (by simp [hkind]), if_neg (by simp [htext]), if_neg (by rw [decide_eq_true_eq]; omega), w64 (x := ts[i].At + (ts[i].Text.length : Int)) (by omega) (by omega), if_neg (by rw [decide_eq_true_eq]; omega)]
    rw [cutN (m := ts[i].At.toNat) (n := ts[i].At.toNat + ts[i].Text.length) (by omega) (by omega) (by omega) (by omega)]
    simp only [bind_ok]
    have hsl : (s.take (ts[i].At.toNat + ts[i].Text.length)).drop ts[i].At.toNat = ts[i].Text := by
      rw [List.drop_take, show ts[i].At.toNat + ts[i].Text.length - ts[i].At.toNat = ts[i].Text.length by omega]; exact p3
    rw [hsl, if_neg (by simp), w64 (by omega) (by omega), show ((i : Int) + 1) = ((i + 1 : Nat) : Int) by omega]
    exact f6_l0_eq s ts us x y ls lt hsk k (i + 1) _ (by omega) (by omega) p4
theorem f6_eq (s : Str) (hs : s.length < 9223372036854775807) : f6 s = some true := by
  unfold f6
  rw [f10_eq, f11_eq]
  simp only [bind_ok, Bool.not_true, Bool.false_eq_true, if_false]
  by_cases h : s.length ≤ 4096
  · rw [if_pos h]
    cases hr : tokS s 0 with
    | bad a e =>
      have he := tok_err _ _ _ _ _ (Nat.le_refl _) hr
      have hb := tok_bad s a e hr
      simp [finT, he, hb]
    | ok ts =>
      obtain ⟨hm, hl⟩ := tok_made s h ts hr
      have hall : ts.all madeB = true := List.all_eq_true.2 (fun t ht => (hm t ht).1)
      have h16 := f16_eq ts (by omega)
      unfold joinA at h16
      rw [if_pos hall] at h16
      cases hj : joinS [] 0 ts with
      | none => rw [hj] at h16; simp [finT, h16]
      | some r =>
        rw [hj] at h16
        have hrl := joinS_len ts [] 0 r (by simp) hj
        obtain ⟨vs, v1, v2⟩ := join_toks ts [] 0 r [] hm (by simp) (by rw [tok_nil]) (fun _ => rfl) hj
        rw [List.nil_append] at v1
        have hvl : vs.length = ts.length := by have := congrArg List.length v2; simpa using this
        have hloop := f6_l0_eq s ts vs (0, 0) (0, 0) h (by omega) v2 ts.length 0 (-1) (by omega) (by omega) (by simpa using tok_at s ts hr)
        rw [show ((0 : Nat) : Int) = 0 from rfl] at hloop
        have h11 := f11_le hrl
        rw [v1] at h11
        simp only [finT, List.nil_append] at h11
        simp [finT, h16, h11, hvl, hloop]
  · rw [if_neg h]
    simp
end Go.Bx.Scan

/- ScanBack: for every input that the statement speaks of the law returns true and leaves what it was handed. (Own text.) -/
namespace Go.Proofs.Ytgnhnfaojpjieaa
set_option linter.unusedVariables false
set_option linter.unusedSimpArgs false
set_option linter.unusedSectionVars false
open Go.Bx Go.Bx.Scan
open Go.Proofs Go.ChangeShapes Go.WideShapes Go.ChangeAt Go.RowKit
set_option linter.unusedVariables false

set_option maxRecDepth 100000 in
theorem lifted6 (os : Os) (started : os.Started) (H : Type) (enc : TypeId × Value → H) :
    ReturnsInHanded {} Try.checked os 6 .any (Rows.scanBackSpec.pre6 enc Try.prog Try.f6 Rows.scanBackRow.domain false) (Rows.scanBackSpec.post enc Try.prog Try.f6 false true false false) := by
  refine returnsInHanded_of_change_sized (C := Try.checked) own_ started (by kernel_rfl) Try.func6
    (ChangeSpec.witness6 (enc := enc) (C := Try.checked) false ⟨#[], #[.string ByteArray.empty], []⟩ 8 (by kernel_rfl) (by kernel_rfl) (by kernel_rfl) (by kernel_rfl)) ?_
  intro W base args ds gs before hval0 hW hcnd hsz0 _
  have hsz : (DataW.weightsEach Try.prog (Try.f6.params.toList ++ Rows.scanBackSpec.plain.varTypes Try.prog) (ds ++ gs)).all (· ≤ reachBytes) = true := hsz0
  have hval : ∀ (j : Nat) t v, Try.f6.params[j]? = some t → args[j]? = some v → Value.okWide Try.prog W .any base t v := hval0
  have hW' := hW
  obtain ⟨p, q, hA0, hV, rfl, hfz, hnd⟩ := hW
  have hA : DataW.TrodAll enc Try.prog W 0 (fun _ => true) true Try.f6.params.toList args.toList ds p := hA0
  rw [Try.params6] at hA hval hsz
  obtain ⟨v0, vs0, d0, ds0, p0, q0, hargs, rfl, rfl, h0, r0⟩ := trodAll_cons hA
  obtain ⟨rfl, rfl, rfl⟩ := trodAll_nil r0
  obtain rfl : args = #[v0] := by cases args; simp_all
  obtain ⟨rfl, rfl⟩ := trodVars_none hV
  have lt0 : ∀ x ∈ p0, x.block < W.heap.size := by obtain ⟨m, hm⟩ := h0; exact DataW.trod_lt m _ _ _ hm
  have k0 := h0
  have wt : ∀ (j : Nat) t (d : DataW H), ([9] : List Nat)[j]? = some t → [d0][j]? = some d → ∀ z ∈ d.weights Try.prog t, z ≤ reachBytes := by
    intro j t d ht hd z hz
    have := List.all_eq_true.1 hsz z (DataW.weights_mem_each (j := j) (t := t) (d := d) (by rw [List.getElem?_append_left]; exact ht; exact (List.getElem?_eq_some_iff.1 ht).1) (by rw [List.getElem?_append_left]; exact hd; exact (List.getElem?_eq_some_iff.1 hd).1) z hz)
    simpa using this
  obtain ⟨t0, rfl⟩ := okWide_string Try.underlying9 (hval 0 9 v0 rfl rfl)
  obtain ⟨m0, hm0⟩ := h0
  obtain ⟨xs0, e0, _, s0⟩ := read_rep tabOK 8 9 (by decide) m0 _ _ hm0 (wt 0 9 d0 rfl rfl)
  obtain ⟨x0, rfl, b0⟩ := shape_str (T := tab) (t := 9) rfl s0
  have hcall := f6_ok x0 true (f6_eq x0 (Nat.lt_of_le_of_lt b0 (by decide)))
  refine (law_pure (E := E) (W := W) (fun _ => .junk) hcall (e0)).mono fun e W' ⟨he, bel⟩ => ?_
  subst he
  exact ⟨_, rfl, _, _, _, [], _, [], hW', trodAll_mk1 (shut_bool Try.underlying4 _), (trodAll_cons_mk (Below.trod laidOut (by kernel_rfl) (of_decide_eq_true (by kernel_rfl)) k0 bel lt0) trodAll_mk0), rfl, bel.frame _, fun h => by cases h⟩

theorem over6 : Rows.scanBackRow.holds Try.pinned (OpenSpec.ofChange Rows.scanBackSpec) :=
  OpenClaim.holds_of_wide 6 Try.f6 rfl rfl rfl rfl rfl rfl rfl ⟨rfl, rfl, rfl, rfl, rfl⟩ rfl rfl rfl rfl rfl (by kernel_rfl) Try.func6 (by kernel_rfl)
    (of_decide_eq_true (by kernel_rfl)) (by unfold Func.isWrapper; first | (rw [if_pos (by decide +kernel)]; kernel_rfl) | (rw [if_neg (by decide +kernel)]; exact ⟨rfl, rfl⟩))
    (fun os started H enc _ => lifted6 os started H enc)
/-- ScanBack, as the statement says. -/
theorem scanBack_holds : Rows.ScanBackSaid := over6
#print axioms scanBack_holds
end Go.Proofs.Ytgnhnfaojpjieaa
