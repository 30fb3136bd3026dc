/- What the program's functions compute, shown of their code (We). Own text; parts are printed by a program of this claim's author. -/
import Derived.Test.YtgnhnfaojpjieaaWd
import Derived.Test.YtgnhnfaojpjieaaShelf
/- strings.IndexAny at the scanner's delimiters: off the shelf. (Own text.) -/
namespace Go.Bx.Scan
set_option linter.unusedVariables false
set_option linter.unusedSimpArgs false
set_option linter.unusedSectionVars false
open Go.Proofs Go.RowKit
set_option linter.unusedVariables false
def delims : Str := [32, 9, 10, 13, 59, 40, 41, 39]
/-- strings.IndexAny -/
def f32 (s chars : Str) : Option Int := if chars = delims ∧ s.length < 4294967281 ∧ (8 < s.length ∨ (s.all fun b => decide (b.toNat < 128)) = true) then some (Lib.indexAny s chars) else none
theorem delims_ascii : ∀ (j : Nat) b, (mkS delims).data.toList[j]? = some b → b.toNat < 128 := by
  intro j b h
  have h' : b ∈ delims := List.mem_of_getElem? h
  have : ∀ b ∈ delims, b.toNat < 128 := by decide
  exact this b h'
theorem f32_ok (s chars : Str) (r : Int) (h : f32 s chars = some r) : PureOK E 32 [.v (.string (mkS s)), .v (.string (mkS chars))] (.v (.int .i64 r)) := by
  unfold f32 at h
  split at h
  · rename_i hc
    obtain ⟨rfl, hs, hd⟩ := hc
    obtain rfl := Option.some.inj h
    refine pure_below (vs := [.string (mkS s), .string (mkS delims)]) Try.func32 rfl (names _ _ Try.func32) (fun w => ?_)
    by_cases h8 : 8 < s.length
    · refine (Try.strings_IndexAny_long (zero_of_info (n := 256) (by kernel_rfl)).1 (mkS s) (mkS delims) w (by decide) h8 hs (by decide) delims_ascii).mono ?_
      rintro e w' ⟨rfl, rfl⟩
      exact ⟨rfl, ((Below.refl _ _).alloc (Nat.le_refl _) _).alloc (by simp) _⟩
    · rcases hd with hd | hd
      · exact absurd hd h8
      · refine (Try.strings_IndexAny_short (mkS s) (mkS delims) w (by decide) (by show s.length ≤ 8; omega) (fun j b hb => ?_)).mono ?_
        · have h' : b ∈ s := List.mem_of_getElem? hb
          simpa using List.all_eq_true.1 hd b h'
        · rintro e w' ⟨rfl, pos, rfl⟩
          exact ⟨rfl, (Below.refl _ _).alloc (Nat.le_refl _) _⟩
  · cases h
end Go.Bx.Scan

/- strings.IndexAny, printed by pf.py. (Own text.) -/
namespace Go.Bx.Scan
set_option linter.unusedVariables false
set_option linter.unusedSimpArgs false
set_option linter.unusedSectionVars false
open Go.Proofs
set_option linter.unusedSimpArgs false
set_option linter.unusedVariables false
set_option maxRecDepth 10000
-- theorem f32_ok (s : Str) (chars : Str) (r : Int) (h : f32 s chars = some r) : PureOK E 32 [.v (.string (mkS s)), .v (.string (mkS chars))] (.v (.int .i64 r))
noncomputable def f32_tbl : CI := tbl 32 (fun p : Str × Str => [.v (.string (mkS p.1)), .v (.string (mkS p.2))]) (fun p => (f32 p.1 p.2).map fun r => .v (.int .i64 r))
theorem f32_tbl_ok {base : Nat} : CIOK E base f32_tbl := tbl_ok fun p r h => by obtain ⟨q, hq, rfl⟩ := Option.map_eq_some_iff.1 h; exact f32_ok p.1 p.2 q hq
theorem f32_call {s : Str} {chars : Str} {r : Int} (h : f32 s chars = some r) (σ : Store) : f32_tbl 32 [.v (.string (mkS s)), .v (.string (mkS chars))] σ = some (.v (.int .i64 r), σ, none) :=
  tbl_eq (x := (s, chars)) (fun x y e => by
    obtain ⟨x0, x1⟩ := x; obtain ⟨y0, y1⟩ := y
    have e0 := av_str (List.cons.inj e).1
    have e1 := av_str (List.cons.inj (List.cons.inj e).2).1
    subst e0 e1; rfl) (by simp [h]) σ
end Go.Bx.Scan

/- sibyl/scan.run, printed by pf.py. (Own text.) -/
namespace Go.Bx.Scan
set_option linter.unusedVariables false
set_option linter.unusedSimpArgs false
set_option linter.unusedSectionVars false
open Go.Proofs
set_option linter.unusedSimpArgs false
set_option linter.unusedVariables false
set_option maxRecDepth 10000
/-- sibyl/scan.run -/
def f33 (s : Str) : Option (Token × Int) :=
  if (s == [46]) = true then
    (some ((⟨4, s, (⟨false, [], []⟩ : Ratio), 0⟩ : Token), 0))
  else
    if (s == [35, 116]) = true then
      (some ((⟨6, s, (⟨false, [], []⟩ : Ratio), 0⟩ : Token), 0))
    else
      if (s == [35, 102]) = true then
        (some ((⟨6, s, (⟨false, [], []⟩ : Ratio), 0⟩ : Token), 0))
      else
        f45 s >>= fun r3 =>
        if (r3.2 == 0) = true then
          (some ((⟨5, s, (⟨r3.1.Neg, r3.1.Num, r3.1.Den⟩ : Ratio), 0⟩ : Token), r3.2))
        else
          if (r3.2 == 4) = true then
            (some ((⟨5, s, (⟨r3.1.Neg, r3.1.Num, r3.1.Den⟩ : Ratio), 0⟩ : Token), r3.2))
          else
            f24 s >>= fun r5 =>
            if (!r5) = true then
              (some ((⟨0, s, (⟨false, [], []⟩ : Ratio), 0⟩ : Token), 40))
            else
              if (decide ((s.length : Int) > 32)) = true then
                (some ((⟨0, s, (⟨false, [], []⟩ : Ratio), 0⟩ : Token), 3))
              else
                some ((⟨7, s, (⟨false, [], []⟩ : Ratio), 0⟩ : Token), 0)

noncomputable def f33_ci : CI := (CI.or 45 f45_tbl (CI.or 24 f24_tbl (fun _ _ _ => none)))
theorem f33_ci_ok (base : Nat) : CIOK E base f33_ci := (or_ok f45_tbl_ok (or_ok f24_tbl_ok no_ok))
theorem f33_res : Try.f33.results = #[.cell 2 40, .tmp 3] := rfl
theorem f33_rt : Try.f33.resultTypes = #[40, 24] := rfl

set_option maxHeartbeats 4000000 in
theorem f33_ok (s : Str) (r : Token × Int) (h : f33 s = some r) : PureOK E 33 [.v (.string (mkS s))] (.tup [.agg [.v (.int .i64 r.1.Kind), .v (.string (mkS r.1.Text)), .v (.bool r.1.N.Neg), .sl (List.map (cInt .u32) r.1.N.Num), .sl (List.map (cInt .u32) r.1.N.Den), .v (.int .i64 r.1.At)], .v (.int .i64 r.2)]) := by
  unfold f33 at h
  refine pure_of_wp tabOK mixed (fn := Try.f33) (nt := 47) Try.func33 rfl rfl (names _ _ Try.func33) rfl rfl (fun _ => rfl) (fun base c00 hU => ?_)
  refine Wk.wp (s2 := ⟨.v (.string (mkS s)) :: jj 46 [], St [], none, 0⟩) ?_ ?_
  · refine Wk.weak hU [] _ (by decide) .nil ?_
    simp only [jjs, List.length_cons, List.length_nil, Nat.reduceAdd, Nat.reduceSub, List.replicate, List.cons_append, List.nil_append]
    repeat' (first | exact WVs.nil | refine WVs.cons ?_ ?_)
    all_goals first | exact WV.junk _ | exact WV.keep rfl | exact .agg rfl (aggKeep rfl)
  refine Wp.seq <| Wp.region hU (f33_ci_ok _) rgI <| thenN <| Wp.seq <| Wp.region hU (f33_ci_ok _) rgI <| thenN <| Wp.seq <| Wp.seq <| Wp.region hU (f33_ci_ok _) rgI <| thenN <| ?_
  refine Wp.cond hU (t := s == [46]) rfl (fun hc1 => ?_) (fun hc1 => ?_)
  · rw [if_t hc1] at h
    refine Wp.seq <| ?_
    have fx := hc1
    refine Wp.region hU (f33_ci_ok _) rgIF <| thenN <| Wp.seq <| Wp.region hU (f33_ci_ok _) rgIF <| thenN <| Wp.ret <| thenR <| ?_
    obtain rfl := Option.some.inj h
    refine ⟨.inl rfl, ?_⟩
    refine Rt.wk (s2 := ⟨jj 2 (.ptr 0 0 0 :: .v (.int .i64 0) :: jj 43 []), St [some ⟨6, false, false, [[.v (.int .i64 4), .v (.string (mkS s)), .v (.bool false), .sl (List.map (cInt .u32) []), .sl (List.map (cInt .u32) []), .v (.int .i64 0)]]⟩], none, 0⟩) ?_ (Rt.of ?_)
    · refine Wk.weak hU [some 0] _ (by decide) ?_ ?_
      · refine .obj rfl ?_ ?_
        · refine .mk ?_ (by simp only [bxm, leaf_ptr, leaf_slf, leaf_trow, leaf_tptr]) nofun
          refine .cons ?_ .nil
          exact wvI
        exact .nil
      · exact wvI
    have fx := i2 f33_res f33_rt
    exact rtI
  · rw [if_f hc1] at h
    refine Wp.skip <| thenN <| Wp.seq <| Wp.seq <| ?_
    rcases Bool.eq_false_or_eq_true (s == [35, 116]) with hg12 | hg12
    · rw [if_t hg12] at h
      have fx := i2 hc1 hg12
      refine Wp.region hU (f33_ci_ok _) rgIF <| thenN <| ?_
      refine Wp.cond hU (t := true) rfl (fun _ => ?_) (fun hc => by cases hc)
      refine Wp.seq <| Wp.region hU (f33_ci_ok _) rgIF <| thenN <| Wp.seq <| Wp.region hU (f33_ci_ok _) rgIF <| thenN <| Wp.ret <| thenR <| ?_
      obtain rfl := Option.some.inj h
      refine ⟨.inl rfl, ?_⟩
      refine Rt.wk (s2 := ⟨jj 2 (.ptr 0 0 0 :: .v (.int .i64 0) :: jj 43 []), St [some ⟨6, false, false, [[.v (.int .i64 6), .v (.string (mkS s)), .v (.bool false), .sl (List.map (cInt .u32) []), .sl (List.map (cInt .u32) []), .v (.int .i64 0)]]⟩], none, 0⟩) ?_ (Rt.of ?_)
      · refine Wk.weak hU [some 0] _ (by decide) ?_ ?_
        · refine .obj rfl ?_ ?_
          · refine .mk ?_ (by simp only [bxm, leaf_ptr, leaf_slf, leaf_trow, leaf_tptr]) nofun
            refine .cons ?_ .nil
            exact wvI
          exact .nil
        · exact wvI
      have fx := i2 f33_res f33_rt
      exact rtI
    · rw [if_f hg12] at h
      have fx := i2 hc1 hg12
      refine Wp.region hU (f33_ci_ok _) rgIF <| thenN <| ?_
      refine Wp.cond hU (t := s == [35, 102]) rfl (fun hc2 => ?_) (fun hc2 => ?_)
      · rw [if_t hc2] at h
        refine Wp.seq <| ?_
        have fx := i3 hc1 hg12 hc2
        refine Wp.region hU (f33_ci_ok _) rgIF <| thenN <| Wp.seq <| Wp.region hU (f33_ci_ok _) rgIF <| thenN <| Wp.ret <| thenR <| ?_
        obtain rfl := Option.some.inj h
        refine ⟨.inl rfl, ?_⟩
        refine Rt.wk (s2 := ⟨jj 2 (.ptr 0 0 0 :: .v (.int .i64 0) :: jj 43 []), St [some ⟨6, false, false, [[.v (.int .i64 6), .v (.string (mkS s)), .v (.bool false), .sl (List.map (cInt .u32) []), .sl (List.map (cInt .u32) []), .v (.int .i64 0)]]⟩], none, 0⟩) ?_ (Rt.of ?_)
        · refine Wk.weak hU [some 0] _ (by decide) ?_ ?_
          · refine .obj rfl ?_ ?_
            · refine .mk ?_ (by simp only [bxm, leaf_ptr, leaf_slf, leaf_trow, leaf_tptr]) nofun
              refine .cons ?_ .nil
              exact wvI
            exact .nil
          · exact wvI
        have fx := i2 f33_res f33_rt
        exact rtI
      · rw [if_f hc2] at h
        refine Wp.skip <| thenN <| Wp.seq <| ?_
        obtain ⟨r3, hr3, h⟩ := bind_some h
        have hr3c : ∀ σ, f33_ci 45 [.v (.string (mkS s))] σ = some (.tup [.agg [.v (.bool r3.1.Neg), .sl (List.map (cInt .u32) r3.1.Num), .sl (List.map (cInt .u32) r3.1.Den)], .v (.int .i64 r3.2)], σ, none) := fun σ => f45_call hr3 σ
        have fx := i4 hr3c hc1 hg12 hc2
        refine Wp.region hU (f33_ci_ok _) rgIF <| thenN <| ?_
        refine Wk.wp (s2 := ⟨.v (.string (mkS s)) :: jj 1 (.ptr 0 0 0 :: jj 1 (.ptr 1 0 0 :: .vp [.v (.bool r3.1.Neg), .sl (List.map (cInt .u32) r3.1.Num), .sl (List.map (cInt .u32) r3.1.Den)] :: .v (.int .i64 r3.2) :: jj 40 [])), St [some ⟨6, false, false, [[.v (.int .i64 0), .v (.string (mkS [])), .v (.bool false), .v (.slice none 0 0), .v (.slice none 0 0), .v (.int .i64 0)]]⟩, some ⟨6, false, false, [[.v (.int .i64 0), .v (.string (mkS s)), .v (.bool false), .v (.slice none 0 0), .v (.slice none 0 0), .v (.int .i64 0)]]⟩], none, 0⟩) ?_ ?_
        · refine Wk.share hU [2] ?_
          simp (decide := true) only [share, fresh1, reduceIte, reduceCtorEq, Nat.reduceAdd, bxm]
          refine Wk.weak hU [some 0, some 1] _ (by decide) ?_ ?_
          · refine .obj rfl ?_ ?_
            · refine .mk ?_ (by simp only [bxm, leaf_ptr, leaf_slf, leaf_trow, leaf_tptr]) nofun
              refine .cons ?_ .nil
              exact wvI
            refine .obj rfl ?_ ?_
            · refine .mk ?_ (by simp only [bxm, leaf_ptr, leaf_slf, leaf_trow, leaf_tptr]) nofun
              refine .cons ?_ .nil
              exact wvI
            exact .nil
          · exact wvI
        refine Wp.seq <| Wp.seq <| ?_
        rcases Bool.eq_false_or_eq_true (r3.2 == 0) with hg16 | hg16
        · rw [if_t hg16] at h
          have fx := i4 hc1 hg12 hc2 hg16
          refine Wp.region hU (f33_ci_ok _) rgIF <| thenN <| ?_
          refine Wp.cond hU (t := true) rfl (fun _ => ?_) (fun hc => by cases hc)
          refine Wp.seq <| Wp.regionT hU (f33_ci_ok _) rgIF (by kernel_rfl) <| thenN <| Wp.seq <| Wp.region hU (f33_ci_ok _) rgIF <| thenN <| Wp.ret <| thenR <| ?_
          obtain rfl := Option.some.inj h
          refine ⟨.inl rfl, ?_⟩
          refine Rt.of <| ?_
          have fx := i2 f33_res f33_rt
          exact rtI
        · rw [if_f hg16] at h
          have fx := i4 hc1 hg12 hc2 hg16
          refine Wp.region hU (f33_ci_ok _) rgIF <| thenN <| ?_
          refine Wp.cond hU (t := r3.2 == 4) rfl (fun hc4 => ?_) (fun hc4 => ?_)
          · rw [if_t hc4] at h
            refine Wp.seq <| ?_
            have fx := i5 hc1 hg12 hc2 hg16 hc4
            refine Wp.regionT hU (f33_ci_ok _) rgIF (by kernel_rfl) <| thenN <| Wp.seq <| Wp.region hU (f33_ci_ok _) rgIF <| thenN <| Wp.ret <| thenR <| ?_
            obtain rfl := Option.some.inj h
            refine ⟨.inl rfl, ?_⟩
            refine Rt.of <| ?_
            have fx := i2 f33_res f33_rt
            exact rtI
          · rw [if_f hc4] at h
            refine Wp.skip <| thenN <| Wp.seq <| Wp.seq <| ?_
            obtain ⟨r5, hr5, h⟩ := bind_some h
            have hr5c : ∀ σ, f33_ci 24 [.v (.string (mkS s))] σ = some (.v (.bool r5), σ, none) := fun σ => f24_call hr5 σ
            have fx := i6 hr5c hc1 hg12 hc2 hg16 hc4
            refine Wp.region hU (f33_ci_ok _) rgIF <| thenN <| ?_
            refine Wp.cond hU (t := !r5) rfl (fun hc6 => ?_) (fun hc6 => ?_)
            · rw [if_t hc6] at h
              refine Wp.seq <| ?_
              have fx := i6 hc1 hg12 hc2 hg16 hc4 hc6
              refine Wp.region hU (f33_ci_ok _) rgIF <| thenN <| Wp.ret <| thenR <| ?_
              obtain rfl := Option.some.inj h
              refine ⟨.inl rfl, ?_⟩
              refine Rt.wk (s2 := ⟨jj 2 (.ptr 0 0 0 :: .v (.int .i64 40) :: jj 43 []), St [some ⟨6, false, false, [[.v (.int .i64 0), .v (.string (mkS s)), .v (.bool false), .sl (List.map (cInt .u32) []), .sl (List.map (cInt .u32) []), .v (.int .i64 0)]]⟩], none, 0⟩) ?_ (Rt.of ?_)
              · refine Wk.weak hU [some 0] _ (by decide) ?_ ?_
                · refine .obj rfl ?_ ?_
                  · refine .mk ?_ (by simp only [bxm, leaf_ptr, leaf_slf, leaf_trow, leaf_tptr]) nofun
                    refine .cons ?_ .nil
                    exact wvI
                  exact .nil
                · exact wvI
              have fx := i2 f33_res f33_rt
              exact rtI
            · rw [if_f hc6] at h
              refine Wp.skip <| thenN <| Wp.seq <| Wp.seq <| ?_
              have fx := i6 hc1 hg12 hc2 hg16 hc4 hc6
              refine Wp.region hU (f33_ci_ok _) rgIF <| thenN <| ?_
              refine Wp.cond hU (t := decide ((s.length : Int) > 32)) rfl (fun hc7 => ?_) (fun hc7 => ?_)
              · rw [if_t hc7] at h
                refine Wp.seq <| ?_
                have fx := i7 hc1 hg12 hc2 hg16 hc4 hc6 hc7
                refine Wp.region hU (f33_ci_ok _) rgIF <| thenN <| Wp.ret <| thenR <| ?_
                obtain rfl := Option.some.inj h
                refine ⟨.inl rfl, ?_⟩
                refine Rt.wk (s2 := ⟨jj 2 (.ptr 0 0 0 :: .v (.int .i64 3) :: jj 43 []), St [some ⟨6, false, false, [[.v (.int .i64 0), .v (.string (mkS s)), .v (.bool false), .sl (List.map (cInt .u32) []), .sl (List.map (cInt .u32) []), .v (.int .i64 0)]]⟩], none, 0⟩) ?_ (Rt.of ?_)
                · refine Wk.weak hU [some 0] _ (by decide) ?_ ?_
                  · refine .obj rfl ?_ ?_
                    · refine .mk ?_ (by simp only [bxm, leaf_ptr, leaf_slf, leaf_trow, leaf_tptr]) nofun
                      refine .cons ?_ .nil
                      exact wvI
                    exact .nil
                  · exact wvI
                have fx := i2 f33_res f33_rt
                exact rtI
              · rw [if_f hc7] at h
                refine Wp.skip <| thenN <| Wp.seq <| ?_
                have fx := i7 hc1 hg12 hc2 hg16 hc4 hc6 hc7
                refine Wp.region hU (f33_ci_ok _) rgIF <| thenN <| Wp.seq <| Wp.region hU (f33_ci_ok _) rgIF <| thenN <| Wp.ret <| ?_
                obtain rfl := Option.some.inj h
                refine ⟨.inl rfl, ?_⟩
                refine Rt.wk (s2 := ⟨jj 2 (.ptr 0 0 0 :: .v (.int .i64 0) :: jj 43 []), St [some ⟨6, false, false, [[.v (.int .i64 7), .v (.string (mkS s)), .v (.bool false), .sl (List.map (cInt .u32) []), .sl (List.map (cInt .u32) []), .v (.int .i64 0)]]⟩], none, 0⟩) ?_ (Rt.of ?_)
                · refine Wk.weak hU [some 0] _ (by decide) ?_ ?_
                  · refine .obj rfl ?_ ?_
                    · refine .mk ?_ (by simp only [bxm, leaf_ptr, leaf_slf, leaf_trow, leaf_tptr]) nofun
                      refine .cons ?_ .nil
                      exact wvI
                    exact .nil
                  · exact wvI
                have fx := i2 f33_res f33_rt
                exact rtI

noncomputable def f33_tbl : CI := tbl 33 (fun p : Str => [.v (.string (mkS p))]) (fun p => (f33 p).map fun r => .tup [.agg [.v (.int .i64 r.1.Kind), .v (.string (mkS r.1.Text)), .v (.bool r.1.N.Neg), .sl (List.map (cInt .u32) r.1.N.Num), .sl (List.map (cInt .u32) r.1.N.Den), .v (.int .i64 r.1.At)], .v (.int .i64 r.2)])
theorem f33_tbl_ok {base : Nat} : CIOK E base f33_tbl := tbl_ok fun p r h => by obtain ⟨q, hq, rfl⟩ := Option.map_eq_some_iff.1 h; exact f33_ok p q hq
theorem f33_call {s : Str} {r : Token × Int} (h : f33 s = some r) (σ : Store) : f33_tbl 33 [.v (.string (mkS s))] σ = some (.tup [.agg [.v (.int .i64 r.1.Kind), .v (.string (mkS r.1.Text)), .v (.bool r.1.N.Neg), .sl (List.map (cInt .u32) r.1.N.Num), .sl (List.map (cInt .u32) r.1.N.Den), .v (.int .i64 r.1.At)], .v (.int .i64 r.2)], σ, none) :=
  tbl_eq (x := (s)) (fun x y e => by
    exact av_str (List.cons.inj e).1) (by simp [h]) σ
end Go.Bx.Scan

/- sibyl/scan.word, printed by pf.py. (Own text.) -/
namespace Go.Bx.Scan
set_option linter.unusedVariables false
set_option linter.unusedSimpArgs false
set_option linter.unusedSectionVars false
open Go.Proofs
set_option linter.unusedSimpArgs false
set_option linter.unusedVariables false
set_option maxRecDepth 10000
/-- sibyl/scan.word -/
def f20 (out : List Token) (text : Str) (i : Int) : Option (Int × (List Token) × Int) :=
  cutL text i (text.length : Int) >>= fun p1 =>
  f32 p1 [32, 9, 10, 13, 59, 40, 41, 39] >>= fun r2 =>
  if (decide (r2 < 0)) = true then
    (some (IntKind.i64.wrap ((text.length : Int) - i)) >>= fun x4 =>
    cutL text i (IntKind.i64.wrap (i + x4)) >>= fun p5 =>
    f33 p5 >>= fun r6 =>
    if (r6.2 != 0) = true then
      (some (r6.2, out, i))
    else
      ap 88 out [(⟨r6.1.Kind, r6.1.Text, (⟨r6.1.N.Neg, r6.1.N.Num, r6.1.N.Den⟩ : Ratio), i⟩ : Token)] >>= fun a8 =>
      some (0, a8, IntKind.i64.wrap (i + x4)))
  else
    cutL text i (IntKind.i64.wrap (i + r2)) >>= fun p9 =>
    f33 p9 >>= fun r10 =>
    if (r10.2 != 0) = true then
      (some (r10.2, out, i))
    else
      ap 88 out [(⟨r10.1.Kind, r10.1.Text, (⟨r10.1.N.Neg, r10.1.N.Num, r10.1.N.Den⟩ : Ratio), i⟩ : Token)] >>= fun a12 =>
      some (0, a12, IntKind.i64.wrap (i + r2))

noncomputable def f20_ci : CI := (CI.or 32 f32_tbl (CI.or 33 f33_tbl (fun _ _ _ => none)))
theorem f20_ci_ok (base : Nat) : CIOK E base f20_ci := (or_ok f32_tbl_ok (or_ok f33_tbl_ok no_ok))
theorem f20_res : Try.f20.results = #[.tmp 6] := rfl

def f20_S (out : List Token) (text : Str) (i : Int) : List (Option Obj) := [some ⟨1, false, false, [[.row 1 6 0 ((out).length)]]⟩, some ⟨6, false, true, List.map cToken out⟩, some ⟨1, false, false, [[.v (.int .i64 i)]]⟩]
set_option maxHeartbeats 4000000 in
theorem f20_ok (out : List Token) (text : Str) (i : Int) (r : Int × (List Token) × Int) (h : f20 out text i = some r) : RefC E 20 3 [.ptr 0 0 0, .v (.string (mkS text)), .ptr 2 0 0] (f20_S out text i) (.v (.int .i64 r.1)) [some ⟨1, false, false, [[.row 3 6 0 ((r.2.1).length)]]⟩, none, some ⟨1, false, false, [[.v (.int .i64 r.2.2)]]⟩, some ⟨6, false, true, List.map cToken r.2.1⟩] := by
  unfold f20 at h
  refine ref_of_wp tabOK mixed (fn := Try.f20) (nt := 59) Try.func20 rfl rfl (names _ _ Try.func20) (fun _ => rfl) (refOK_of rfl) (fun base c00 hU => ?_)
  refine Wk.wp (s2 := ⟨.ptr 0 0 0 :: .v (.string (mkS text)) :: .ptr 2 0 0 :: jj 56 [], St [some ⟨1, false, false, [[.row 1 6 0 ((out).length)]]⟩, some ⟨6, false, true, List.map cToken out⟩, some ⟨1, false, false, [[.v (.int .i64 i)]]⟩], some 0, 3⟩) ?_ ?_
  · refine Wk.weakK hU [some 0, some 1, some 2] _ (by decide) (k := 3) rfl rfl ?_ ?_
    refine .obj rfl ?_ ?_
    · refine .mk ?_ (by simp only [bxm, leaf_ptr, leaf_slf, leaf_trow, leaf_tptr]) nofun
      refine .cons ?_ .nil
      repeat' (first | exact WVs.nil | refine WVs.cons ?_ ?_)
      all_goals first | exact WV.keep rfl | exact WV.row rfl | exact WV.ptr rfl | exact WV.slf rfl | exact WV.trow rfl
    refine .obj rfl ?_ ?_
    · exact .same _ _ _
    refine .obj rfl ?_ ?_
    · refine .mk ?_ (by simp only [bxm, leaf_ptr, leaf_slf, leaf_trow, leaf_tptr]) nofun
      refine .cons ?_ .nil
      repeat' (first | exact WVs.nil | refine WVs.cons ?_ ?_)
      all_goals first | exact WV.keep rfl | exact WV.row rfl | exact WV.ptr rfl | exact WV.slf rfl | exact WV.trow rfl
    · exact .nil
    simp only [jjs, List.length_cons, List.length_nil, Nat.reduceAdd, Nat.reduceSub, List.replicate, List.cons_append, List.nil_append]
    repeat' (first | exact WVs.nil | refine WVs.cons ?_ ?_)
    all_goals first | exact WV.junk _ | exact WV.keep rfl | exact WV.row rfl | exact WV.ptr rfl | exact WV.tptr rfl | exact .agg rfl (aggKeep rfl)
  refine Wp.seq <| Wp.region hU (f20_ci_ok _) rgI <| thenN <| Wp.seq <| ?_
  obtain ⟨p1, hp1, h⟩ := bind_some h
  obtain ⟨hp1a, hp1b, hp1c, hp1d, hp1e, hp1f⟩ := cutL_some hp1
  try simp only [Int.toNat_natCast] at hp1c hp1d
  try simp only [Int.toNat_natCast, Int.toNat_zero, List.drop_zero, Nat.sub_zero] at hp1e hp1f
  obtain ⟨r2, hr2, h⟩ := bind_some h
  have hr2c : ∀ σ, f20_ci 32 [.v (.string (mkS p1)), .v (.string (mkS [32, 9, 10, 13, 59, 40, 41, 39]))] σ = some (.v (.int .i64 r2), σ, none) := fun σ => f32_call hr2 σ
  have hr2p := hr2c
  try simp only [hp1e, List.map_append, List.nil_append, Int.toNat_zero, List.drop_zero, List.map_cons, List.map_nil, cInt_eq, cBool_eq, cStr_eq, cSl_eq, tys] at hr2p
  have fx := i7 hp1a hp1b hp1c hp1d hp1e.symm hr2c hr2p
  refine Wp.region hU (f20_ci_ok _) rgIS <| thenN <| Wp.seq <| Wp.seq <| ?_
  have fx := i4 hp1a hp1b hp1c hp1d
  refine Wp.region hU (f20_ci_ok _) rgIS <| thenN <| ?_
  refine Wp.cond hU (t := decide (r2 < 0)) rfl (fun hc3 => ?_) (fun hc3 => ?_)
  · rw [if_t hc3] at h
    obtain ⟨x4, hx4, h⟩ := bind_some h
    replace hx4 := Option.some.inj hx4
    have fx := i6 hx4 hp1a hp1b hp1c hp1d hc3
    refine Wp.region hU (f20_ci_ok _) rgIS <| thenN <| Wp.seq <| ?_
    obtain ⟨p5, hp5, h⟩ := bind_some h
    obtain ⟨hp5a, hp5b, hp5c, hp5d, hp5e, hp5f⟩ := cutL_some hp5
    try simp only [Int.toNat_natCast] at hp5c hp5d
    try simp only [Int.toNat_natCast, Int.toNat_zero, List.drop_zero, Nat.sub_zero] at hp5e hp5f
    obtain ⟨r6, hr6, h⟩ := bind_some h
    have hr6c : ∀ σ, f20_ci 33 [.v (.string (mkS p5))] σ = some (.tup [.agg [.v (.int .i64 r6.1.Kind), .v (.string (mkS r6.1.Text)), .v (.bool r6.1.N.Neg), .sl (List.map (cInt .u32) r6.1.N.Num), .sl (List.map (cInt .u32) r6.1.N.Den), .v (.int .i64 r6.1.At)], .v (.int .i64 r6.2)], σ, none) := fun σ => f33_call hr6 σ
    have hr6p := hr6c
    try simp only [hp5e, List.map_append, List.nil_append, Int.toNat_zero, List.drop_zero, List.map_cons, List.map_nil, cInt_eq, cBool_eq, cStr_eq, cSl_eq, tys] at hr6p
    have fx := i9 hp5a hp5b hp5c hp5d hp5e.symm hr6c hr6p hp1a (i4 hp1b hp1c hp1d hc3)
    refine Wp.regionT hU (f20_ci_ok _) rgIS (by kernel_rfl) <| thenN <| Wp.seq <| Wp.seq <| ?_
    have fx := i9 hp1a hp1b hp1c hp1d hp5a hp5b hp5c hp5d hc3
    refine Wp.region hU (f20_ci_ok _) rgIS <| thenN <| ?_
    refine Wp.cond hU (t := r6.2 != 0) rfl (fun hc7 => ?_) (fun hc7 => ?_)
    · rw [if_t hc7] at h
      refine Wp.seq <| ?_
      have fx := i9 hp1a hp1b hp1c hp1d hp5a hp5b hp5c hp5d (i2 hc3 hc7)
      refine Wp.region hU (f20_ci_ok _) rgIS <| thenN <| Wp.ret <| thenR <| ?_
      obtain rfl := Option.some.inj h
      refine ⟨.inl rfl, ?_⟩
      refine RtR.wk (s2 := ⟨jj 6 (.v (.int .i64 r6.2) :: jj 52 []), St [some ⟨1, false, false, [[.row 3 6 0 ((out).length)]]⟩, none, some ⟨1, false, false, [[.v (.int .i64 i)]]⟩, some ⟨6, false, true, List.map cToken out⟩], some 0, 3⟩) ?_ (RtR.of rfl rfl)
      · refine Wk.trans (s2 := ⟨.ptr 0 0 0 :: .v (.string (mkS text)) :: .ptr 2 0 0 :: jj 3 (.v (.int .i64 r6.2) :: .v (.int .i64 x4) :: .ptr 3 0 0 :: .v (.int .i64 r6.2) :: .v (.string (mkS text)) :: .ptr 2 0 0 :: .ptr 2 0 0 :: .v (.int .i64 i) :: .v (.string (mkS p1)) :: .v (.int .i64 r2) :: .v (.int .i64 r2) :: .v (.bool true) :: .v (.string (mkS text)) :: .v (.int .i64 (text.length : Int)) :: .ptr 2 0 0 :: .ptr 2 0 0 :: .v (.int .i64 i) :: .v (.int .i64 x4) :: .tup [.agg [.v (.int .i64 r6.1.Kind), .v (.string (mkS r6.1.Text)), .v (.bool r6.1.N.Neg), .sl (List.map (cInt .u32) r6.1.N.Num), .sl (List.map (cInt .u32) r6.1.N.Den), .v (.int .i64 r6.1.At)], .v (.int .i64 r6.2)] :: .v (.string (mkS text)) :: .ptr 2 0 0 :: .ptr 2 0 0 :: .v (.int .i64 i) :: .ptr 2 0 0 :: .ptr 2 0 0 :: .v (.int .i64 i) :: .v (.int .i64 x4) :: .v (.int .i64 (IntKind.i64.wrap (i + x4))) :: .v (.string (mkS p5)) :: .tup [.agg [.v (.int .i64 r6.1.Kind), .v (.string (mkS r6.1.Text)), .v (.bool r6.1.N.Neg), .sl (List.map (cInt .u32) r6.1.N.Num), .sl (List.map (cInt .u32) r6.1.N.Den), .v (.int .i64 r6.1.At)], .v (.int .i64 r6.2)] :: .agg [.v (.int .i64 r6.1.Kind), .v (.string (mkS r6.1.Text)), .v (.bool r6.1.N.Neg), .sl (List.map (cInt .u32) r6.1.N.Num), .sl (List.map (cInt .u32) r6.1.N.Den), .v (.int .i64 r6.1.At)] :: .v (.int .i64 r6.2) :: .v (.int .i64 r6.2) :: .v (.bool true) :: .v (.int .i64 r6.2) :: jj 18 []), St [some ⟨1, false, false, [[.row 4 6 0 ((out).length)]]⟩, none, some ⟨1, false, false, [[.v (.int .i64 i)]]⟩, some ⟨6, false, false, [[.v (.int .i64 r6.1.Kind), .v (.string (mkS r6.1.Text)), .v (.bool r6.1.N.Neg), .sl (List.map (cInt .u32) r6.1.N.Num), .sl (List.map (cInt .u32) r6.1.N.Den), .v (.int .i64 r6.1.At)]]⟩, some ⟨6, false, true, List.map cToken out⟩], some 0, 3⟩) (Wk.moveTo hU 1 _ rfl rfl rfl rfl rfl) ?_
        refine Wk.weakK hU [some 0, some 1, some 2, some 4] _ (by decide) (k := 3) rfl rfl ?_ ?_
        · refine .obj rfl ?_ ?_
          · refine .mk ?_ (by simp only [bxm, leaf_ptr, leaf_slf, leaf_trow, leaf_tptr]) nofun
            refine .cons ?_ .nil
            have fe := i2 hp1e hp5e
            have fl := i2 hp1f hp5f
            have fv := i6 hp1e hp5e hp1c hp1d hp5c hp5d
            exact wvIF
          refine .dead ?_
          refine .obj rfl ?_ ?_
          · refine .mk ?_ (by simp only [bxm, leaf_ptr, leaf_slf, leaf_trow, leaf_tptr]) nofun
            refine .cons ?_ .nil
            have fe := i2 hp1e hp5e
            have fl := i2 hp1f hp5f
            have fv := i6 hp1e hp5e hp1c hp1d hp5c hp5d
            exact wvIF
          refine .obj rfl ?_ ?_
          · have fe := i2 hp1e hp5e
            have fl := nofx
            have fv := nofx
            exact woIF
          exact .nil
        · have fe := i2 hp1e hp5e
          have fl := i2 hp1f hp5f
          have fv := i6 hp1e hp5e hp1c hp1d hp5c hp5d
          exact wvIF
    · rw [if_f hc7] at h
      refine Wp.skip <| thenN <| Wp.seq <| ?_
      have fx := i9 hp1a hp1b hp1c hp1d hp5a hp5b hp5c hp5d (i2 hc3 hc7)
      refine Wp.region hU (f20_ci_ok _) rgIS <| thenN <| Wp.seq <| ?_
      obtain ⟨a8, ha8, h⟩ := bind_some h
      obtain ⟨ha8a, ha8b⟩ := ap_some ha8
      try simp only [List.length_cons, List.length_nil, Nat.zero_add, Nat.add_zero, Nat.reduceAdd] at ha8a
      have fx := i9 ha8a hp1a hp1b hp1c hp1d hp5a hp5b hp5c (i3 hp5d hc3 hc7)
      refine Wp.regionT hU (f20_ci_ok _) rgIS (by kernel_rfl) <| thenN <| ?_
      refine Wk.wp (s2 := ⟨jj 2 (.ptr 2 0 0 :: jj 4 (.v (.int .i64 x4) :: jj 51 [])), St [some ⟨1, false, false, [[.row 3 6 0 ((a8).length)]]⟩, none, some ⟨1, false, false, [[.v (.int .i64 i)]]⟩, some ⟨6, false, true, List.map cToken a8⟩], some 0, 3⟩) ?_ ?_
      · refine Wk.weakK hU [some 0, some 1, some 2, some 5] _ (by decide) (k := 3) rfl rfl ?_ ?_
        · refine .obj rfl ?_ ?_
          · refine .mk ?_ (by simp only [bxm, leaf_ptr, leaf_slf, leaf_trow, leaf_tptr]) nofun
            refine .cons ?_ .nil
            have fe := i3 hp1e hp5e ha8b
            have fl := i3 ha8b hp1f hp5f
            have fv := i6 hp1e hp5e hp1c hp1d hp5c hp5d
            exact wvIF
          refine .dead ?_
          refine .obj rfl ?_ ?_
          · refine .mk ?_ (by simp only [bxm, leaf_ptr, leaf_slf, leaf_trow, leaf_tptr]) nofun
            refine .cons ?_ .nil
            have fe := i3 hp1e hp5e ha8b
            have fl := i3 ha8b hp1f hp5f
            have fv := i6 hp1e hp5e hp1c hp1d hp5c hp5d
            exact wvIF
          refine .obj rfl ?_ ?_
          · have fe := i3 hp1e hp5e ha8b
            have fl := nofx
            have fv := nofx
            exact woIF
          exact .nil
        · have fe := i3 hp1e hp5e ha8b
          have fl := i3 ha8b hp1f hp5f
          have fv := i6 hp1e hp5e hp1c hp1d hp5c hp5d
          exact wvIF
      refine Wp.seq <| ?_
      have fx := i9 hp1a hp1b hp1c hp1d hp5a hp5b hp5c hp5d (i2 hc3 hc7)
      refine Wp.region hU (f20_ci_ok _) rgIS <| thenN <| Wp.seq <| Wp.region hU (f20_ci_ok _) rgIS <| thenN <| Wp.ret <| ?_
      obtain rfl := Option.some.inj h
      refine ⟨.inl rfl, ?_⟩
      refine RtR.wk (s2 := ⟨jj 6 (.v (.int .i64 0) :: jj 52 []), St [some ⟨1, false, false, [[.row 3 6 0 ((a8).length)]]⟩, none, some ⟨1, false, false, [[.v (.int .i64 (IntKind.i64.wrap (i + x4)))]]⟩, some ⟨6, false, true, List.map cToken a8⟩], some 0, 3⟩) ?_ (RtR.of rfl rfl)
      · refine Wk.weakK hU [some 0, some 1, some 2, some 3] _ (by decide) (k := 3) rfl rfl ?_ ?_
        · refine .obj rfl ?_ ?_
          · refine .mk ?_ (by simp only [bxm, leaf_ptr, leaf_slf, leaf_trow, leaf_tptr]) nofun
            refine .cons ?_ .nil
            have fe := i3 hp1e hp5e ha8b
            have fl := i3 ha8b hp1f hp5f
            have fv := i6 hp1e hp5e hp1c hp1d hp5c hp5d
            exact wvIF
          refine .dead ?_
          refine .obj rfl ?_ ?_
          · refine .mk ?_ (by simp only [bxm, leaf_ptr, leaf_slf, leaf_trow, leaf_tptr]) nofun
            refine .cons ?_ .nil
            have fe := i3 hp1e hp5e ha8b
            have fl := i3 ha8b hp1f hp5f
            have fv := i6 hp1e hp5e hp1c hp1d hp5c hp5d
            exact wvIF
          refine .obj rfl ?_ ?_
          · have fe := i3 hp1e hp5e ha8b
            have fl := nofx
            have fv := nofx
            exact woIF
          exact .nil
        · have fe := i3 hp1e hp5e ha8b
          have fl := i3 ha8b hp1f hp5f
          have fv := i6 hp1e hp5e hp1c hp1d hp5c hp5d
          exact wvIF
  · rw [if_f hc3] at h
    refine Wp.skip <| thenN <| Wp.seq <| ?_
    obtain ⟨p9, hp9, h⟩ := bind_some h
    obtain ⟨hp9a, hp9b, hp9c, hp9d, hp9e, hp9f⟩ := cutL_some hp9
    try simp only [Int.toNat_natCast] at hp9c hp9d
    try simp only [Int.toNat_natCast, Int.toNat_zero, List.drop_zero, Nat.sub_zero] at hp9e hp9f
    obtain ⟨r10, hr10, h⟩ := bind_some h
    have hr10c : ∀ σ, f20_ci 33 [.v (.string (mkS p9))] σ = some (.tup [.agg [.v (.int .i64 r10.1.Kind), .v (.string (mkS r10.1.Text)), .v (.bool r10.1.N.Neg), .sl (List.map (cInt .u32) r10.1.N.Num), .sl (List.map (cInt .u32) r10.1.N.Den), .v (.int .i64 r10.1.At)], .v (.int .i64 r10.2)], σ, none) := fun σ => f33_call hr10 σ
    have hr10p := hr10c
    try simp only [hp9e, List.map_append, List.nil_append, Int.toNat_zero, List.drop_zero, List.map_cons, List.map_nil, cInt_eq, cBool_eq, cStr_eq, cSl_eq, tys] at hr10p
    have fx := i9 hp9a hp9b hp9c hp9d hp9e.symm hr10c hr10p hp1a (i4 hp1b hp1c hp1d hc3)
    refine Wp.regionT hU (f20_ci_ok _) rgIS (by kernel_rfl) <| thenN <| Wp.seq <| Wp.seq <| ?_
    have fx := i9 hp1a hp1b hp1c hp1d hp9a hp9b hp9c hp9d hc3
    refine Wp.region hU (f20_ci_ok _) rgIS <| thenN <| ?_
    refine Wp.cond hU (t := r10.2 != 0) rfl (fun hc11 => ?_) (fun hc11 => ?_)
    · rw [if_t hc11] at h
      refine Wp.seq <| ?_
      have fx := i9 hp1a hp1b hp1c hp1d hp9a hp9b hp9c hp9d (i2 hc3 hc11)
      refine Wp.region hU (f20_ci_ok _) rgIS <| thenN <| Wp.ret <| thenR <| ?_
      obtain rfl := Option.some.inj h
      refine ⟨.inl rfl, ?_⟩
      refine RtR.wk (s2 := ⟨jj 6 (.v (.int .i64 r10.2) :: jj 52 []), St [some ⟨1, false, false, [[.row 3 6 0 ((out).length)]]⟩, none, some ⟨1, false, false, [[.v (.int .i64 i)]]⟩, some ⟨6, false, true, List.map cToken out⟩], some 0, 3⟩) ?_ (RtR.of rfl rfl)
      · refine Wk.trans (s2 := ⟨.ptr 0 0 0 :: .v (.string (mkS text)) :: .ptr 2 0 0 :: jj 3 (.v (.int .i64 r10.2) :: .v (.int .i64 r2) :: .ptr 3 0 0 :: .v (.int .i64 r10.2) :: .v (.string (mkS text)) :: .ptr 2 0 0 :: .ptr 2 0 0 :: .v (.int .i64 i) :: .v (.string (mkS p1)) :: .v (.int .i64 r2) :: .v (.int .i64 r2) :: .v (.bool false) :: jj 6 (.tup [.agg [.v (.int .i64 r10.1.Kind), .v (.string (mkS r10.1.Text)), .v (.bool r10.1.N.Neg), .sl (List.map (cInt .u32) r10.1.N.Num), .sl (List.map (cInt .u32) r10.1.N.Den), .v (.int .i64 r10.1.At)], .v (.int .i64 r10.2)] :: .v (.string (mkS text)) :: .ptr 2 0 0 :: .ptr 2 0 0 :: .v (.int .i64 i) :: .ptr 2 0 0 :: .ptr 2 0 0 :: .v (.int .i64 i) :: .v (.int .i64 r2) :: .v (.int .i64 (IntKind.i64.wrap (i + r2))) :: .v (.string (mkS p9)) :: .tup [.agg [.v (.int .i64 r10.1.Kind), .v (.string (mkS r10.1.Text)), .v (.bool r10.1.N.Neg), .sl (List.map (cInt .u32) r10.1.N.Num), .sl (List.map (cInt .u32) r10.1.N.Den), .v (.int .i64 r10.1.At)], .v (.int .i64 r10.2)] :: .agg [.v (.int .i64 r10.1.Kind), .v (.string (mkS r10.1.Text)), .v (.bool r10.1.N.Neg), .sl (List.map (cInt .u32) r10.1.N.Num), .sl (List.map (cInt .u32) r10.1.N.Den), .v (.int .i64 r10.1.At)] :: .v (.int .i64 r10.2) :: .v (.int .i64 r10.2) :: .v (.bool true) :: .v (.int .i64 r10.2) :: jj 18 [])), St [some ⟨1, false, false, [[.row 4 6 0 ((out).length)]]⟩, none, some ⟨1, false, false, [[.v (.int .i64 i)]]⟩, some ⟨6, false, false, [[.v (.int .i64 r10.1.Kind), .v (.string (mkS r10.1.Text)), .v (.bool r10.1.N.Neg), .sl (List.map (cInt .u32) r10.1.N.Num), .sl (List.map (cInt .u32) r10.1.N.Den), .v (.int .i64 r10.1.At)]]⟩, some ⟨6, false, true, List.map cToken out⟩], some 0, 3⟩) (Wk.moveTo hU 1 _ rfl rfl rfl rfl rfl) ?_
        refine Wk.weakK hU [some 0, some 1, some 2, some 4] _ (by decide) (k := 3) rfl rfl ?_ ?_
        · refine .obj rfl ?_ ?_
          · refine .mk ?_ (by simp only [bxm, leaf_ptr, leaf_slf, leaf_trow, leaf_tptr]) nofun
            refine .cons ?_ .nil
            have fe := i2 hp1e hp9e
            have fl := i2 hp1f hp9f
            have fv := i6 hp1e hp9e hp1c hp1d hp9c hp9d
            exact wvIF
          refine .dead ?_
          refine .obj rfl ?_ ?_
          · refine .mk ?_ (by simp only [bxm, leaf_ptr, leaf_slf, leaf_trow, leaf_tptr]) nofun
            refine .cons ?_ .nil
            have fe := i2 hp1e hp9e
            have fl := i2 hp1f hp9f
            have fv := i6 hp1e hp9e hp1c hp1d hp9c hp9d
            exact wvIF
          refine .obj rfl ?_ ?_
          · have fe := i2 hp1e hp9e
            have fl := nofx
            have fv := nofx
            exact woIF
          exact .nil
        · have fe := i2 hp1e hp9e
          have fl := i2 hp1f hp9f
          have fv := i6 hp1e hp9e hp1c hp1d hp9c hp9d
          exact wvIF
    · rw [if_f hc11] at h
      refine Wp.skip <| thenN <| Wp.seq <| ?_
      have fx := i9 hp1a hp1b hp1c hp1d hp9a hp9b hp9c hp9d (i2 hc3 hc11)
      refine Wp.region hU (f20_ci_ok _) rgIS <| thenN <| Wp.seq <| ?_
      obtain ⟨a12, ha12, h⟩ := bind_some h
      obtain ⟨ha12a, ha12b⟩ := ap_some ha12
      try simp only [List.length_cons, List.length_nil, Nat.zero_add, Nat.add_zero, Nat.reduceAdd] at ha12a
      have fx := i9 ha12a hp1a hp1b hp1c hp1d hp9a hp9b hp9c (i3 hp9d hc3 hc11)
      refine Wp.regionT hU (f20_ci_ok _) rgIS (by kernel_rfl) <| thenN <| ?_
      refine Wk.wp (s2 := ⟨jj 2 (.ptr 2 0 0 :: jj 4 (.v (.int .i64 r2) :: jj 51 [])), St [some ⟨1, false, false, [[.row 3 6 0 ((a12).length)]]⟩, none, some ⟨1, false, false, [[.v (.int .i64 i)]]⟩, some ⟨6, false, true, List.map cToken a12⟩], some 0, 3⟩) ?_ ?_
      · refine Wk.weakK hU [some 0, some 1, some 2, some 5] _ (by decide) (k := 3) rfl rfl ?_ ?_
        · refine .obj rfl ?_ ?_
          · refine .mk ?_ (by simp only [bxm, leaf_ptr, leaf_slf, leaf_trow, leaf_tptr]) nofun
            refine .cons ?_ .nil
            have fe := i3 hp1e hp9e ha12b
            have fl := i3 ha12b hp1f hp9f
            have fv := i6 hp1e hp9e hp1c hp1d hp9c hp9d
            exact wvIF
          refine .dead ?_
          refine .obj rfl ?_ ?_
          · refine .mk ?_ (by simp only [bxm, leaf_ptr, leaf_slf, leaf_trow, leaf_tptr]) nofun
            refine .cons ?_ .nil
            have fe := i3 hp1e hp9e ha12b
            have fl := i3 ha12b hp1f hp9f
            have fv := i6 hp1e hp9e hp1c hp1d hp9c hp9d
            exact wvIF
          refine .obj rfl ?_ ?_
          · have fe := i3 hp1e hp9e ha12b
            have fl := nofx
            have fv := nofx
            exact woIF
          exact .nil
        · have fe := i3 hp1e hp9e ha12b
          have fl := i3 ha12b hp1f hp9f
          have fv := i6 hp1e hp9e hp1c hp1d hp9c hp9d
          exact wvIF
      refine Wp.seq <| ?_
      have fx := i9 hp1a hp1b hp1c hp1d hp9a hp9b hp9c hp9d (i2 hc3 hc11)
      refine Wp.region hU (f20_ci_ok _) rgIS <| thenN <| Wp.seq <| Wp.region hU (f20_ci_ok _) rgIS <| thenN <| Wp.ret <| ?_
      obtain rfl := Option.some.inj h
      refine ⟨.inl rfl, ?_⟩
      refine RtR.wk (s2 := ⟨jj 6 (.v (.int .i64 0) :: jj 52 []), St [some ⟨1, false, false, [[.row 3 6 0 ((a12).length)]]⟩, none, some ⟨1, false, false, [[.v (.int .i64 (IntKind.i64.wrap (i + r2)))]]⟩, some ⟨6, false, true, List.map cToken a12⟩], some 0, 3⟩) ?_ (RtR.of rfl rfl)
      · refine Wk.weakK hU [some 0, some 1, some 2, some 3] _ (by decide) (k := 3) rfl rfl ?_ ?_
        · refine .obj rfl ?_ ?_
          · refine .mk ?_ (by simp only [bxm, leaf_ptr, leaf_slf, leaf_trow, leaf_tptr]) nofun
            refine .cons ?_ .nil
            have fe := i3 hp1e hp9e ha12b
            have fl := i3 ha12b hp1f hp9f
            have fv := i6 hp1e hp9e hp1c hp1d hp9c hp9d
            exact wvIF
          refine .dead ?_
          refine .obj rfl ?_ ?_
          · refine .mk ?_ (by simp only [bxm, leaf_ptr, leaf_slf, leaf_trow, leaf_tptr]) nofun
            refine .cons ?_ .nil
            have fe := i3 hp1e hp9e ha12b
            have fl := i3 ha12b hp1f hp9f
            have fv := i6 hp1e hp9e hp1c hp1d hp9c hp9d
            exact wvIF
          refine .obj rfl ?_ ?_
          · have fe := i3 hp1e hp9e ha12b
            have fl := nofx
            have fv := nofx
            exact woIF
          exact .nil
        · have fe := i3 hp1e hp9e ha12b
          have fl := i3 ha12b hp1f hp9f
          have fv := i6 hp1e hp9e hp1c hp1d hp9c hp9d
          exact wvIF

end Go.Bx.Scan

/- sibyl/scan.Tokens, printed by pf.py. (Own text.) -/
namespace Go.Bx.Scan
set_option linter.unusedVariables false
set_option linter.unusedSimpArgs false
set_option linter.unusedSectionVars false
open Go.Proofs
set_option linter.unusedSimpArgs false
set_option linter.unusedVariables false
set_option maxRecDepth 10000
def f11_l0 (text : Str) (i_0_1 : Int) : Option (Int) :=
  if (decide (i_0_1 < (text.length : Int))) = true then
    (bt text i_0_1 >>= fun b6 =>
    if (b6 != 10) = true then
      (f11_l0 text (IntKind.i64.wrap (i_0_1 + 1)))
    else
      some i_0_1)
  else
    some i_0_1
  partial_fixpoint

def f11_g0 (text : Str) (out_0 : List Token) (i_0 : Int) : Option ((List Token) × Int × Int) :=
  if (i_0 == (text.length : Int)) = true then
    (some (out_0, 0, 0))
  else
    bt text i_0 >>= fun b3 =>
    if (b3 == 59) = true then
      (f11_l0 text i_0 >>= fun o5 =>
      f11_g0 text out_0 o5)
    else
      f18 b3 >>= fun r6 =>
      if (decide (r6 > 0)) = true then
        (cutL text i_0 (IntKind.i64.wrap (i_0 + 1)) >>= fun p8 =>
        ap 88 out_0 [(⟨r6, p8, (⟨false, [], []⟩ : Ratio), i_0⟩ : Token)] >>= fun a9 =>
        f11_g0 text a9 (IntKind.i64.wrap (i_0 + 1)))
      else
        f19 [32, 9, 10, 13, 59, 40, 41, 39] b3 >>= fun r10 =>
        if (decide (r10 ≥ 0)) = true then
          (f11_g0 text out_0 (IntKind.i64.wrap (i_0 + 1)))
        else
          f20 out_0 text i_0 >>= fun r12 =>
          if (r12.1 != 0) = true then
            (some ([], r12.2.2, r12.1))
          else
            f11_g0 text r12.2.1 r12.2.2
  partial_fixpoint

/-- sibyl/scan.Tokens -/
def f11 (text : Str) : Option ((List Token) × Int × Int) :=
  if (decide ((text.length : Int) > 4096)) = true then
    (some ([], 0, 3))
  else
    f11_g0 text [] 0

noncomputable def f11_ci : CI := (CI.or 18 f18_tbl (CI.or 19 f19_tbl (fun _ _ _ => none)))
theorem f11_ci_ok (base : Nat) : CIOK E base f11_ci := (or_ok f18_tbl_ok (or_ok f19_tbl_ok no_ok))
theorem f11_res : Try.f11.results = #[.tmp 2, .tmp 3, .tmp 4] := rfl
theorem f11_rt : Try.f11.resultTypes = #[23, 3, 24] := rfl

set_option maxHeartbeats 4000000 in
theorem f11_l0_ok {base : Nat} {c00 : Ctx} (text : Str) (out_0 : List Token) (hU : Under E base c00 nilStore) : ∀ (i_0_1 : Int) (o5 : Int), f11_l0 text i_0_1 = some o5 →
    WpL E base c00 nilStore (lb Try.f11 0) ⟨.v (.string (mkS text)) :: jj 4 (.ptr 0 0 0 :: .ptr 2 0 0 :: jj 58 []), St [some ⟨1, false, false, [[.row 1 6 0 ((out_0).length)]]⟩, some ⟨6, false, true, List.map cToken out_0⟩, some ⟨1, false, false, [[.v (.int .i64 i_0_1)]]⟩], none, 0⟩ (fun ex s1 => ex = .exit 1 ∧ Wk base c00 nilStore s1 ⟨.v (.string (mkS text)) :: jj 4 (.ptr 0 0 0 :: .ptr 2 0 0 :: jj 58 []), St [some ⟨1, false, false, [[.row 1 6 0 ((out_0).length)]]⟩, some ⟨6, false, true, List.map cToken out_0⟩, some ⟨1, false, false, [[.v (.int .i64 o5)]]⟩], none, 0⟩) := by
  refine f11_l0.partial_correctness text _ ?_
  intro lp__ ih i_0_1 o5 h
  refine WpL.stepE (by simp only [Try.f11, lb, Option.getD_some, loopsOf, List.nil_append, List.append_nil, List.cons_append, List.getElem?_cons_zero, List.getElem?_cons_succ] <;> rfl) ?_
  refine Wp.seq <| Wp.seq <| ?_
  rcases Bool.eq_false_or_eq_true (decide (i_0_1 < (text.length : Int))) with hg116 | hg116
  · rw [if_t hg116] at h
    obtain ⟨b6, hb6, h⟩ := bind_some h
    have fx := i2 hb6 hg116
    refine Wp.region hU (f11_ci_ok _) rgIF <| thenN <| ?_
    refine Wp.cond hU (t := b6 != 10) rfl (fun hc7 => ?_) (fun hc7 => ?_)
    · rw [if_t hc7] at h
      refine Wp.skip <| thenN <| Wp.block <| ?_
      have fx := i2 hg116 hc7
      refine Wp.region hU (f11_ci_ok _) rgIF <| blkN <| againN <| ?_
      refine Wk.wpL ?_ (ih (IntKind.i64.wrap (i_0_1 + 1)) _ h)
      refine Wk.weak hU [some 0, some 1, some 2] _ (by decide) ?_ ?_
      · refine .obj rfl ?_ ?_
        · refine .mk ?_ (by simp only [bxm, leaf_ptr, leaf_slf, leaf_trow, leaf_tptr]) nofun
          refine .cons ?_ .nil
          exact wvI
        refine .obj rfl ?_ ?_
        · exact woI
        refine .obj rfl ?_ ?_
        · refine .mk ?_ (by simp only [bxm, leaf_ptr, leaf_slf, leaf_trow, leaf_tptr]) nofun
          refine .cons ?_ .nil
          exact wvI
        exact .nil
      · exact wvI
    · rw [if_f hc7] at h
      refine Wp.exit <| thenE <| againE <| ?_
      obtain rfl := Option.some.inj h
      refine ⟨rfl, ?_⟩
      refine Wk.weak hU [some 0, some 1, some 2] _ (by decide) ?_ ?_
      · refine .obj rfl ?_ ?_
        · refine .mk ?_ (by simp only [bxm, leaf_ptr, leaf_slf, leaf_trow, leaf_tptr]) nofun
          refine .cons ?_ .nil
          exact wvI
        refine .obj rfl ?_ ?_
        · exact woI
        refine .obj rfl ?_ ?_
        · refine .mk ?_ (by simp only [bxm, leaf_ptr, leaf_slf, leaf_trow, leaf_tptr]) nofun
          refine .cons ?_ .nil
          exact wvI
        exact .nil
      · exact wvI
  · rw [if_f hg116] at h
    have fx := hg116
    refine Wp.region hU (f11_ci_ok _) rgIF <| thenN <| ?_
    refine Wp.cond hU (t := false) rfl (fun hc => by cases hc) (fun _ => ?_)
    refine Wp.exit <| thenE <| againE <| ?_
    obtain rfl := Option.some.inj h
    refine ⟨rfl, ?_⟩
    refine Wk.weak hU [some 0, some 1, some 2] _ (by decide) ?_ ?_
    · refine .obj rfl ?_ ?_
      · refine .mk ?_ (by simp only [bxm, leaf_ptr, leaf_slf, leaf_trow, leaf_tptr]) nofun
        refine .cons ?_ .nil
        exact wvI
      refine .obj rfl ?_ ?_
      · exact woI
      refine .obj rfl ?_ ?_
      · refine .mk ?_ (by simp only [bxm, leaf_ptr, leaf_slf, leaf_trow, leaf_tptr]) nofun
        refine .cons ?_ .nil
        exact wvI
      exact .nil
    · exact wvI

set_option maxHeartbeats 4000000 in
theorem f11_g0_ok {base : Nat} {c00 : Ctx} (text : Str) (hU : Under E base c00 nilStore) : ∀ (out_0 : List Token) (i_0 : Int) (r : (List Token) × Int × Int), f11_g0 text out_0 i_0 = some r →
    Wp E base c00 nilStore (lbl (sb Try.f11 0) 0) ⟨.v (.string (mkS text)) :: jj 4 (.ptr 0 0 0 :: .ptr 2 0 0 :: jj 58 []), St [some ⟨1, false, false, [[.row 1 6 0 ((out_0).length)]]⟩, some ⟨6, false, true, List.map cToken out_0⟩, some ⟨1, false, false, [[.v (.int .i64 i_0)]]⟩], none, 0⟩ (Jump E base c00 nilStore (sb Try.f11 0) (fun ex s1 => ex = .ret ∧ Rt E base c00 Try.f11 (.tup [.own false 6 (List.map cToken r.1), .v (.int .i64 r.2.1), .v (.int .i64 r.2.2)]) s1)) := by
  refine f11_g0.partial_correctness text _ ?_
  intro lp__ ih out_0 i_0 r h
  refine Wp.codeE (by simp only [Try.f11, sb, lbl, scopesOf, Option.getD_some, Option.map_some, List.nil_append, List.append_nil, List.cons_append, List.getElem?_cons_zero, List.getElem?_cons_succ] <;> rfl) ?_
  refine Wp.seq <| Wp.seq <| Wp.region hU (f11_ci_ok _) rgI <| thenN <| ?_
  refine Wp.cond hU (t := i_0 == (text.length : Int)) rfl (fun hc2 => ?_) (fun hc2 => ?_)
  · rw [if_t hc2] at h
    refine Wp.seq <| ?_
    have fx := hc2
    refine Wp.region hU (f11_ci_ok _) rgIF <| thenN <| Wp.ret <| thenR <| jumpR <| ?_
    obtain rfl := Option.some.inj h
    refine ⟨rfl, ?_⟩
    refine Rt.of <| ?_
    have fx := i2 f11_res f11_rt
    exact rtI
  · rw [if_f hc2] at h
    refine Wp.skip <| thenN <| Wp.seq <| Wp.seq <| ?_
    obtain ⟨b3, hb3, h⟩ := bind_some h
    have fx := i2 hb3 hc2
    refine Wp.region hU (f11_ci_ok _) rgIF <| thenN <| Wp.block <| Wp.seq <| ?_
    have fx := hc2
    refine Wp.region hU (f11_ci_ok _) rgIF <| thenN <| ?_
    refine Wp.cond hU (t := b3 == 59) rfl (fun hc4 => ?_) (fun hc4 => ?_)
    · rw [if_t hc4] at h
      refine Wp.goto <| blkG <| thenG <| ?_
      refine gotoTo (c := lbl (sb Try.f11 0) 1) rfl (Wp.codeE (by simp only [Try.f11, sb, lbl, scopesOf, Option.getD_some, Option.map_some, List.nil_append, List.append_nil, List.cons_append, List.getElem?_cons_zero, List.getElem?_cons_succ] <;> rfl) ?_)
      refine Wp.seq <| Wp.block <| ?_
      obtain ⟨o5, ho5, h⟩ := bind_some h
      refine Wp.loop <| ?_
      refine Tw.mono (Wk.wpL (s2 := ⟨.v (.string (mkS text)) :: jj 4 (.ptr 0 0 0 :: .ptr 2 0 0 :: jj 58 []), St [some ⟨1, false, false, [[.row 1 6 0 ((out_0).length)]]⟩, some ⟨6, false, true, List.map cToken out_0⟩, some ⟨1, false, false, [[.v (.int .i64 i_0)]]⟩], none, 0⟩) ?_ (f11_l0_ok text out_0 hU i_0 o5 ho5)) (fun ex s1 hp => ?_)
      · refine Wk.weak hU [some 0, some 1, some 2] _ (by decide) ?_ ?_
        · refine .obj rfl ?_ ?_
          · refine .mk ?_ (by simp only [bxm, leaf_ptr, leaf_slf, leaf_trow, leaf_tptr]) nofun
            refine .cons ?_ .nil
            exact wvI
          refine .obj rfl ?_ ?_
          · exact woI
          refine .obj rfl ?_ ?_
          · refine .mk ?_ (by simp only [bxm, leaf_ptr, leaf_slf, leaf_trow, leaf_tptr]) nofun
            refine .cons ?_ .nil
            exact wvI
          exact .nil
        · exact wvI
      · obtain ⟨rfl, hp⟩ := hp
        refine blkE <| thenN <| hp.wp <| Wp.goto <| ?_
        refine gotoTo (c := lbl (sb Try.f11 0) 0) rfl ?_
        refine Wk.wp ?_ (ih out_0 o5 _ h)
        refine Wk.weak hU [some 0, some 1, some 2] _ (by decide) ?_ ?_
        · refine .obj rfl ?_ ?_
          · refine .mk ?_ (by simp only [bxm, leaf_ptr, leaf_slf, leaf_trow, leaf_tptr]) nofun
            refine .cons ?_ .nil
            exact wvI
          refine .obj rfl ?_ ?_
          · exact woI
          refine .obj rfl ?_ ?_
          · refine .mk ?_ (by simp only [bxm, leaf_ptr, leaf_slf, leaf_trow, leaf_tptr]) nofun
            refine .cons ?_ .nil
            exact wvI
          exact .nil
        · exact wvI
    · rw [if_f hc4] at h
      refine Wp.seq <| ?_
      obtain ⟨r6, hr6, h⟩ := bind_some h
      have hr6c : ∀ σ, f11_ci 18 [.v (.int .u8 b3)] σ = some (.v (.int .i64 r6), σ, none) := fun σ => f18_call hr6 σ
      have fx := i3 hr6c hc2 hc4
      refine Wp.region hU (f11_ci_ok _) rgIF <| thenN <| ?_
      refine Wp.cond hU (t := decide (r6 > 0)) rfl (fun hc7 => ?_) (fun hc7 => ?_)
      · rw [if_t hc7] at h
        refine Wp.seq <| ?_
        obtain ⟨p8, hp8, h⟩ := bind_some h
        obtain ⟨hp8a, hp8b, hp8c, hp8d, hp8e, hp8f⟩ := cutL_some hp8
        try simp only [Int.toNat_natCast] at hp8c hp8d
        try simp only [Int.toNat_natCast, Int.toNat_zero, List.drop_zero, Nat.sub_zero] at hp8e hp8f
        obtain ⟨a9, ha9, h⟩ := bind_some h
        obtain ⟨ha9a, ha9b⟩ := ap_some ha9
        try simp only [List.length_cons, List.length_nil, Nat.zero_add, Nat.add_zero, Nat.reduceAdd] at ha9a
        have fx := i9 hp8a hp8b hp8c hp8d hp8e.symm ha9a hr6c hc2 (i2 hc4 hc7)
        refine Wp.regionT hU (f11_ci_ok _) rgIS (by kernel_rfl) <| thenN <| ?_
        refine Wk.wp (s2 := ⟨.v (.string (mkS text)) :: jj 4 (.ptr 0 0 0 :: .ptr 2 0 0 :: jj 58 []), St [some ⟨1, false, false, [[.row 1 6 0 ((a9).length)]]⟩, some ⟨6, false, true, List.map cToken a9⟩, some ⟨1, false, false, [[.v (.int .i64 i_0)]]⟩], none, 0⟩) ?_ ?_
        · refine Wk.weak hU [some 0, some 4, some 2] _ (by decide) ?_ ?_
          · refine .obj rfl ?_ ?_
            · refine .mk ?_ (by simp only [bxm, leaf_ptr, leaf_slf, leaf_trow, leaf_tptr]) nofun
              refine .cons ?_ .nil
              have fe := i2 hp8e ha9b
              have fl := i2 ha9b hp8f
              have fv := i3 hp8e hp8c hp8d
              exact wvIF
            refine .obj rfl ?_ ?_
            · refine WO.grow (c := cToken) (l := out_0) (ys := [[.v (.int .i64 r6), .v (.string (mkS p8)), .v (.bool false), .sl [], .sl [], .v (.int .i64 i_0)]]) plToken ?_ rfl ?_
              · repeat' (first | exact WL.nil | refine WL.cons ?_ ?_)
                have fe := i2 hp8e ha9b
                have fl := i2 ha9b hp8f
                have fv := i3 hp8e hp8c hp8d
                all_goals exact wvIF
              · simp only [bxw, Int.toNat_natCast, List.length_replicate, hp8e, ha9b, tys]
            refine .obj rfl ?_ ?_
            · refine .mk ?_ (by simp only [bxm, leaf_ptr, leaf_slf, leaf_trow, leaf_tptr]) nofun
              refine .cons ?_ .nil
              have fe := i2 hp8e ha9b
              have fl := i2 ha9b hp8f
              have fv := i3 hp8e hp8c hp8d
              exact wvIF
            exact .nil
          · have fe := i2 hp8e ha9b
            have fl := i2 ha9b hp8f
            have fv := i3 hp8e hp8c hp8d
            exact wvIF
        refine Wp.seq <| ?_
        have fx := i7 hp8a hp8b hp8c hp8d hc2 hc4 hc7
        refine Wp.region hU (f11_ci_ok _) rgIS <| thenN <| Wp.goto <| blkG <| thenG <| ?_
        refine gotoTo (c := lbl (sb Try.f11 0) 0) rfl ?_
        refine Wk.wp ?_ (ih a9 (IntKind.i64.wrap (i_0 + 1)) _ h)
        refine Wk.weak hU [some 0, some 1, some 2] _ (by decide) ?_ ?_
        · refine .obj rfl ?_ ?_
          · refine .mk ?_ (by simp only [bxm, leaf_ptr, leaf_slf, leaf_trow, leaf_tptr]) nofun
            refine .cons ?_ .nil
            have fe := i2 hp8e ha9b
            have fl := i2 ha9b hp8f
            have fv := i3 hp8e hp8c hp8d
            exact wvIF
          refine .obj rfl ?_ ?_
          · have fe := i2 hp8e ha9b
            have fl := nofx
            have fv := nofx
            exact woIF
          refine .obj rfl ?_ ?_
          · refine .mk ?_ (by simp only [bxm, leaf_ptr, leaf_slf, leaf_trow, leaf_tptr]) nofun
            refine .cons ?_ .nil
            have fe := i2 hp8e ha9b
            have fl := i2 ha9b hp8f
            have fv := i3 hp8e hp8c hp8d
            exact wvIF
          exact .nil
        · have fe := i2 hp8e ha9b
          have fl := i2 ha9b hp8f
          have fv := i3 hp8e hp8c hp8d
          exact wvIF
      · rw [if_f hc7] at h
        refine Wp.seq <| ?_
        obtain ⟨r10, hr10, h⟩ := bind_some h
        have hr10c : ∀ σ, f11_ci 19 [.v (.string (mkS [32, 9, 10, 13, 59, 40, 41, 39])), .v (.int .u8 b3)] σ = some (.v (.int .i64 r10), σ, none) := fun σ => f19_call hr10 σ
        try simp only [List.map_cons, List.map_nil, cInt_eq, cBool_eq, cStr_eq, cSl_eq, tys] at hr10c
        have fx := i4 hr10c hc2 hc4 hc7
        refine Wp.region hU (f11_ci_ok _) rgIF <| thenN <| ?_
        refine Wp.cond hU (t := decide (r10 ≥ 0)) rfl (fun hc11 => ?_) (fun hc11 => ?_)
        · rw [if_t hc11] at h
          refine Wp.seq <| ?_
          have fx := i4 hc2 hc4 hc7 hc11
          refine Wp.region hU (f11_ci_ok _) rgIF <| thenN <| Wp.goto <| blkG <| thenG <| ?_
          refine gotoTo (c := lbl (sb Try.f11 0) 0) rfl ?_
          refine Wk.wp ?_ (ih out_0 (IntKind.i64.wrap (i_0 + 1)) _ h)
          refine Wk.weak hU [some 0, some 1, some 2] _ (by decide) ?_ ?_
          · refine .obj rfl ?_ ?_
            · refine .mk ?_ (by simp only [bxm, leaf_ptr, leaf_slf, leaf_trow, leaf_tptr]) nofun
              refine .cons ?_ .nil
              exact wvI
            refine .obj rfl ?_ ?_
            · exact woI
            refine .obj rfl ?_ ?_
            · refine .mk ?_ (by simp only [bxm, leaf_ptr, leaf_slf, leaf_trow, leaf_tptr]) nofun
              refine .cons ?_ .nil
              exact wvI
            exact .nil
          · exact wvI
        · rw [if_f hc11] at h
          refine Wp.skip <| blkN <| thenN <| Wp.seq <| Wp.seq <| ?_
          obtain ⟨r12, hr12, h⟩ := bind_some h
          have hr12c : CallOK E base 20 [.ptr 0 0 0, .v (.string (mkS text)), .ptr 2 0 0] (St [some ⟨1, false, false, [[.row 1 6 0 ((out_0).length)]]⟩, some ⟨6, false, true, List.map cToken out_0⟩, some ⟨1, false, false, [[.v (.int .i64 i_0)]]⟩]) (.v (.int .i64 r12.1)) (St [some ⟨1, false, false, [[.row 3 6 0 ((r12.2.1).length)]]⟩, none, some ⟨1, false, false, [[.v (.int .i64 r12.2.2)]]⟩, some ⟨6, false, true, List.map cToken r12.2.1⟩]) (some 0) := (f20_ok out_0 text i_0 r12 hr12).at [0, 1, 2] 0 rfl ⟨rfl, rfl, rfl, trivial⟩ rfl rfl rfl
          have fx := i4 hc2 hc4 hc7 hc11
          refine Wp.region hU (rone_ok hr12c (f11_ci_ok _)) rgIF <| thenN <| ?_
          refine Wk.wp (s2 := ⟨.v (.string (mkS text)) :: jj 4 (.ptr 0 0 0 :: .ptr 2 0 0 :: jj 1 (.v (.int .i64 r12.1) :: jj 56 [])), St [some ⟨1, false, false, [[.row 1 6 0 ((r12.2.1).length)]]⟩, some ⟨6, false, true, List.map cToken r12.2.1⟩, some ⟨1, false, false, [[.v (.int .i64 r12.2.2)]]⟩], none, 0⟩) ?_ ?_
          · refine Wk.weak hU [some 0, some 3, some 2] _ (by decide) ?_ ?_
            · refine .obj rfl ?_ ?_
              · refine .mk ?_ (by simp only [bxm, leaf_ptr, leaf_slf, leaf_trow, leaf_tptr]) nofun
                refine .cons ?_ .nil
                exact wvI
              refine .obj rfl ?_ ?_
              · exact woI
              refine .obj rfl ?_ ?_
              · refine .mk ?_ (by simp only [bxm, leaf_ptr, leaf_slf, leaf_trow, leaf_tptr]) nofun
                refine .cons ?_ .nil
                exact wvI
              exact .nil
            · exact wvI
          refine Wp.seq <| Wp.region hU (f11_ci_ok _) rgIF <| thenN <| ?_
          refine Wp.cond hU (t := r12.1 != 0) rfl (fun hc13 => ?_) (fun hc13 => ?_)
          · rw [if_t hc13] at h
            refine Wp.seq <| ?_
            have fx := i5 hc2 hc4 hc7 hc11 hc13
            refine Wp.regionT hU (f11_ci_ok _) rgIF (by kernel_rfl) <| thenN <| Wp.ret <| thenR <| jumpR <| ?_
            obtain rfl := Option.some.inj h
            refine ⟨rfl, ?_⟩
            refine Rt.of <| ?_
            have fx := i2 f11_res f11_rt
            exact rtI
          · rw [if_f hc13] at h
            refine Wp.skip <| thenN <| Wp.seq <| Wp.goto <| thenG <| ?_
            refine gotoTo (c := lbl (sb Try.f11 0) 0) rfl ?_
            refine Wk.wp ?_ (ih r12.2.1 r12.2.2 _ h)
            refine Wk.weak hU [some 0, some 1, some 2] _ (by decide) ?_ ?_
            · refine .obj rfl ?_ ?_
              · refine .mk ?_ (by simp only [bxm, leaf_ptr, leaf_slf, leaf_trow, leaf_tptr]) nofun
                refine .cons ?_ .nil
                exact wvI
              refine .obj rfl ?_ ?_
              · exact woI
              refine .obj rfl ?_ ?_
              · refine .mk ?_ (by simp only [bxm, leaf_ptr, leaf_slf, leaf_trow, leaf_tptr]) nofun
                refine .cons ?_ .nil
                exact wvI
              exact .nil
            · exact wvI

set_option maxHeartbeats 4000000 in
theorem f11_ok (text : Str) (r : (List Token) × Int × Int) (h : f11 text = some r) : PureOK E 11 [.v (.string (mkS text))] (.tup [.own false 6 (List.map cToken r.1), .v (.int .i64 r.2.1), .v (.int .i64 r.2.2)]) := by
  unfold f11 at h
  refine pure_of_wp tabOK mixed (fn := Try.f11) (nt := 65) Try.func11 rfl rfl (names _ _ Try.func11) rfl rfl (fun _ => rfl) (fun base c00 hU => ?_)
  refine Wk.wp (s2 := ⟨.v (.string (mkS text)) :: jj 64 [], St [], none, 0⟩) ?_ ?_
  · refine Wk.weak hU [] _ (by decide) .nil ?_
    simp only [jjs, List.length_cons, List.length_nil, Nat.reduceAdd, Nat.reduceSub, List.replicate, List.cons_append, List.nil_append]
    repeat' (first | exact WVs.nil | refine WVs.cons ?_ ?_)
    all_goals first | exact WV.junk _ | exact WV.keep rfl | exact .agg rfl (aggKeep rfl)
  refine Wp.seq <| Wp.region hU (f11_ci_ok _) rgI <| thenN <| ?_
  refine Wp.scopeE (b' := sb Try.f11 0) (by simp only [Try.f11, sb, lbl, scopesOf, Option.getD_some, Option.map_some, List.nil_append, List.append_nil, List.cons_append, List.getElem?_cons_zero, List.getElem?_cons_succ] <;> rfl) ?_
  refine Wp.seq <| Wp.seq <| Wp.region hU (f11_ci_ok _) rgI <| thenN <| ?_
  refine Wp.cond hU (t := decide ((text.length : Int) > 4096)) rfl (fun hc1 => ?_) (fun hc1 => ?_)
  · rw [if_t hc1] at h
    refine Wp.seq <| ?_
    have fx := hc1
    refine Wp.region hU (f11_ci_ok _) rgIF <| thenN <| Wp.ret <| thenR <| jumpR <| ?_
    obtain rfl := Option.some.inj h
    refine ⟨.inl rfl, ?_⟩
    refine Rt.of <| ?_
    have fx := i2 f11_res f11_rt
    exact rtI
  · rw [if_f hc1] at h
    refine Wp.skip <| thenN <| Wp.seq <| ?_
    have fx := hc1
    refine Wp.region hU (f11_ci_ok _) rgIF <| thenN <| Wp.seq <| Wp.region hU (f11_ci_ok _) rgIF <| thenN <| Wp.seq <| Wp.label <| thenN <| ?_
    refine Wp.labelE (c' := lbl (sb Try.f11 0) 0) rfl (Wk.wp (s2 := ⟨.v (.string (mkS text)) :: jj 4 (.ptr 0 0 0 :: .ptr 2 0 0 :: jj 58 []), St [some ⟨1, false, false, [[.row 1 6 0 (0)]]⟩, some ⟨6, false, true, List.map cToken []⟩, some ⟨1, false, false, [[.v (.int .i64 0)]]⟩], none, 0⟩) ?_ (f11_g0_ok text hU [] 0 _ h)) (fun ex s1 hp => ?_)
    · refine Wk.weak hU [some 0, none, some 1] _ (by decide) ?_ ?_
      · refine .obj rfl ?_ ?_
        · refine .mk ?_ (by simp only [bxm, leaf_ptr, leaf_slf, leaf_trow, leaf_tptr]) nofun
          refine .cons ?_ .nil
          exact wvI
        refine .virt ?_
        refine .obj rfl ?_ ?_
        · refine .mk ?_ (by simp only [bxm, leaf_ptr, leaf_slf, leaf_trow, leaf_tptr]) nofun
          refine .cons ?_ .nil
          exact wvI
        exact .nil
      · exact wvI
    · obtain ⟨rfl, hp⟩ := hp
      exact ⟨.inl rfl, hp⟩

noncomputable def f11_tbl : CI := tbl 11 (fun p : Str => [.v (.string (mkS p))]) (fun p => (f11 p).map fun r => .tup [.own false 6 (List.map cToken r.1), .v (.int .i64 r.2.1), .v (.int .i64 r.2.2)])
theorem f11_tbl_ok {base : Nat} : CIOK E base f11_tbl := tbl_ok fun p r h => by obtain ⟨q, hq, rfl⟩ := Option.map_eq_some_iff.1 h; exact f11_ok p q hq
theorem f11_call {text : Str} {r : (List Token) × Int × Int} (h : f11 text = some r) (σ : Store) : f11_tbl 11 [.v (.string (mkS text))] σ = some (.tup [.own false 6 (List.map cToken r.1), .v (.int .i64 r.2.1), .v (.int .i64 r.2.2)], σ, none) :=
  tbl_eq (x := (text)) (fun x y e => by
    exact av_str (List.cons.inj e).1) (by simp [h]) σ
end Go.Bx.Scan
