/- What the program's functions compute, shown of their code (Wf). Own text; parts are printed by a program of this claim's author. -/
import Derived.Test.YtgnhnfaojpjieaaWe
import Derived.WalkKit
import Derived.Lib.Builder
import Derived.Laws.Externs
import Derived.Lib.UnsafeStr
import Derived.Shelf.Strings.Builder1
/- sibyl/scan.made, printed by pf.py. (Own text.) -/
namespace Go.Bx.Scan
set_option linter.unusedVariables false
set_option linter.unusedSimpArgs false
set_option linter.unusedSectionVars false
open Go.Proofs
set_option linter.unusedSimpArgs false
set_option linter.unusedVariables false
set_option maxRecDepth 10000
/-- sibyl/scan.made -/
def f26 (t : Token) : Option (Bool) :=
  f11 t.Text >>= fun r1 =>
  (if (r1.2.2 == 0) = true then
    (if ((r1.1.length : Int) == 1) = true then
      (rd r1.1 0 >>= fun e3 =>
      if (e3.Kind == t.Kind) = true then
        (some (e3.Text == t.Text))
      else
        some false)
    else
      some false)
  else
    some false : Option (Bool)) >>= fun o2 =>
  some o2

noncomputable def f26_ci : CI := (CI.or 11 f11_tbl (fun _ _ _ => none))
theorem f26_ci_ok (base : Nat) : CIOK E base f26_ci := (or_ok f11_tbl_ok no_ok)
theorem f26_res : Try.f26.results = #[.tmp 2] := rfl
theorem f26_rt : Try.f26.resultTypes = #[4] := rfl

set_option maxHeartbeats 4000000 in
theorem f26_ok (t : Token) (r : Bool) (h : f26 t = some r) : PureOK E 26 [.agg [.v (.int .i64 t.Kind), .v (.string (mkS t.Text)), .v (.bool t.N.Neg), .sl (List.map (cInt .u32) t.N.Num), .sl (List.map (cInt .u32) t.N.Den), .v (.int .i64 t.At)]] (.v (.bool r)) := by
  unfold f26 at h
  refine pure_of_wp tabOK mixed (fn := Try.f26) (nt := 38) Try.func26 rfl rfl (names _ _ Try.func26) rfl rfl (fun _ => rfl) (fun base c00 hU => ?_)
  refine Wk.wp (s2 := ⟨.agg [.v (.int .i64 t.Kind), .v (.string (mkS t.Text)), .v (.bool t.N.Neg), .sl (List.map (cInt .u32) t.N.Num), .sl (List.map (cInt .u32) t.N.Den), .v (.int .i64 t.At)] :: jj 37 [], St [], none, 0⟩) ?_ ?_
  · refine Wk.weak hU [] _ (by decide) .nil ?_
    simp only [jjs, List.length_cons, List.length_nil, Nat.reduceAdd, Nat.reduceSub, List.replicate, List.cons_append, List.nil_append]
    repeat' (first | exact WVs.nil | refine WVs.cons ?_ ?_)
    all_goals first | exact WV.junk _ | exact WV.keep rfl | exact .agg rfl (aggKeep rfl)
  refine Wp.seq <| Wp.region hU (f26_ci_ok _) rgI <| thenN <| Wp.seq <| ?_
  obtain ⟨r1, hr1, h⟩ := bind_some h
  have hr1c : ∀ σ, f26_ci 11 [.v (.string (mkS t.Text))] σ = some (.tup [.own false 6 (List.map cToken r1.1), .v (.int .i64 r1.2.1), .v (.int .i64 r1.2.2)], σ, none) := fun σ => f11_call hr1 σ
  have fx := hr1c
  refine Wp.region hU (f26_ci_ok _) rgIF <| thenN <| ?_
  obtain ⟨o2, ho2, h⟩ := bind_some h
  refine Wp.seq1 (JP := (fun ex s1 => ex = .nrm ∧ Wk base c00 nilStore s1 ⟨jj 2 (.v (.bool o2) :: jj 35 []), St [], none, 0⟩)) ?_ (fun ex s1 hp => ?_)
  · replace h := ho2
    rcases Bool.eq_false_or_eq_true (r1.2.2 == 0) with hg7 | hg7
    · rw [if_t hg7] at h
      rcases Bool.eq_false_or_eq_true ((r1.1.length : Int) == 1) with hg8 | hg8
      · rw [if_t hg8] at h
        obtain ⟨e3, he3, h⟩ := bind_some h
        obtain ⟨he3a, he3b, he3c⟩ := rd_some he3
        rcases Bool.eq_false_or_eq_true (e3.Kind == t.Kind) with hg9 | hg9
        · rw [if_t hg9] at h
          have fx := i6 he3a he3b he3c hg7 hg8 hg9
          refine Wp.regionT hU (f26_ci_ok _) rgIF (by kernel_rfl) <| ?_
          obtain rfl := Option.some.inj h
          refine ⟨rfl, ?_⟩
          refine Wk.weak hU [] _ (by decide) ?_ ?_
          · exact .nil
          · exact wvI
        · rw [if_f hg9] at h
          have fx := i6 he3a he3b he3c hg7 hg8 hg9
          refine Wp.regionT hU (f26_ci_ok _) rgIF (by kernel_rfl) <| ?_
          obtain rfl := Option.some.inj h
          refine ⟨rfl, ?_⟩
          refine Wk.weak hU [] _ (by decide) ?_ ?_
          · exact .nil
          · exact wvI
      · rw [if_f hg8] at h
        have fx := i2 hg7 hg8
        refine Wp.regionT hU (f26_ci_ok _) rgIF (by kernel_rfl) <| ?_
        obtain rfl := Option.some.inj h
        refine ⟨rfl, ?_⟩
        refine Wk.weak hU [] _ (by decide) ?_ ?_
        · exact .nil
        · exact wvI
    · rw [if_f hg7] at h
      have fx := hg7
      refine Wp.regionT hU (f26_ci_ok _) rgIF (by kernel_rfl) <| ?_
      obtain rfl := Option.some.inj h
      refine ⟨rfl, ?_⟩
      refine Wk.weak hU [] _ (by decide) ?_ ?_
      · exact .nil
      · exact wvI
  · obtain ⟨rfl, hp⟩ := hp
    refine thenN (hp.wp ?_)
    refine Wp.ret <| ?_
    obtain rfl := Option.some.inj h
    refine ⟨.inl rfl, ?_⟩
    refine Rt.of <| ?_
    have fx := i2 f26_res f26_rt
    exact rtI

noncomputable def f26_tbl : CI := tbl 26 (fun p : Token => [.agg [.v (.int .i64 p.Kind), .v (.string (mkS p.Text)), .v (.bool p.N.Neg), .sl (List.map (cInt .u32) p.N.Num), .sl (List.map (cInt .u32) p.N.Den), .v (.int .i64 p.At)]]) (fun p => (f26 p).map fun r => .v (.bool r))
theorem f26_tbl_ok {base : Nat} : CIOK E base f26_tbl := tbl_ok fun p r h => by obtain ⟨q, hq, rfl⟩ := Option.map_eq_some_iff.1 h; exact f26_ok p q hq
theorem f26_call {t : Token} {r : Bool} (h : f26 t = some r) (σ : Store) : f26_tbl 26 [.agg [.v (.int .i64 t.Kind), .v (.string (mkS t.Text)), .v (.bool t.N.Neg), .sl (List.map (cInt .u32) t.N.Num), .sl (List.map (cInt .u32) t.N.Den), .v (.int .i64 t.At)]] σ = some (.v (.bool r), σ, none) :=
  tbl_eq (x := (t)) (fun x y e => by
    exact av_agg injToken (List.cons.inj e).1) (by simp [h]) σ
end Go.Bx.Scan

/- strings.Builder's copyCheck: by hand, for it looks at its block's type. (Own text.) -/
namespace Go.Bx.Scan
set_option linter.unusedVariables false
set_option linter.unusedSimpArgs false
set_option linter.unusedSectionVars false
open Go.Proofs Go.RowKit
set_option linter.unusedVariables false
set_option linter.unusedSimpArgs false
theorem bld_info : (Try.prog.info? 57).map (·.size) = some 2 := by kernel_rfl
theorem bld_lies : liesAt Try.prog Try.prog.depth 57 (2 / Try.prog.cellsOf 57) 0 57 1 = true := by kernel_rfl
set_option maxHeartbeats 1000000 in
set_option maxRecDepth 100000 in
theorem cc_used (b : Nat) (w : World) (h0 : w.cell? ⟨b, 0, none⟩ = some (.pointer (some ⟨b, 0, none⟩))) :
    Calls Try.prog 39 #[.pointer (some ⟨b, 0, none⟩)] w fun e w' => e = .returned (.tuple #[]) ∧ w' = w := by
  obtain ⟨j, hj, _⟩ := Option.map_eq_some_iff.1 bld_info
  go_enter Try.func39, Try.ntmps39
  go_wp2
  rw [Lib.run_neq_ptr_same w _ Try.underlying54 hj]
  go_wp2
  go_end0
  exact ⟨rfl, rfl⟩
set_option maxHeartbeats 1000000 in
set_option maxRecDepth 100000 in
theorem cc_fresh (b : Nat) (w : World) (h0 : w.cell? ⟨b, 0, none⟩ = some (.pointer none)) (hsh : w.shape? b = some (57, 2)) (hfz : w.frozen? ⟨b, 0, none⟩ = false) :
    Calls Try.prog 39 #[.pointer (some ⟨b, 0, none⟩)] w fun e w' => e = .returned (.tuple #[]) ∧ w' = w.setCell ⟨b, 0, none⟩ (.pointer (some ⟨b, 0, none⟩)) := by
  obtain ⟨j, hj, hjs⟩ := Option.map_eq_some_iff.1 bld_info
  go_enter Try.func39, Try.ntmps39
  go_wp2
  rw [Lib.run_to_unsafe w ⟨b, 0, none⟩ Try.underlying54 Try.underlying84 hj (by rw [hjs]; decide) hsh (Nat.zero_lt_succ 1)]
  simp only [Result.andThen]
  rw [Oper.upon_value]
  go_wp2
  rw [run_callFunc_extern (f := 49) Try.func49 (by kernel_rfl) (by kernel_rfl) (by kernel_rfl) (e := Extern.AbiNoEscape.same) (by kernel_rfl)]
  rw [Lib.run_noEscape]
  simp only [Result.andThen]
  rw [Oper.upon_value]
  go_wp2
  rw [Lib.run_from_unsafe w ⟨b, 0, none⟩ Try.underlying84 Try.underlying54 hj hsh bld_lies]
  simp only [Result.andThen]
  rw [Oper.upon_value]
  go_wp2
  go_end0
  exact ⟨rfl, rfl⟩

/-- The store of one cell, as the world's. -/
theorem store1_run (b off : Nat) (v u0 : Value) (w : World) {t : TypeId} (ht : (Go.sizeOf t).run Try.prog w = .ok 1 w) (h1 : v.cells = #[v]) (h2 : v.oneCell' = true) (hc : w.cell? ⟨b, off, none⟩ = some u0) (hfz : w.frozen? ⟨b, off, none⟩ = false) (o : Oper) (a x : Operand) (ho : o.op = .store t a x) (ρ : Operand → Value) (ha : ρ a = .pointer (some ⟨b, off, none⟩)) (hx : ρ x = v) :
    (execOp ρ o).run Try.prog w = .ok .skip (w.setCell ⟨b, off, none⟩ v) := by
  simp [execOp, ho, ha, hx, Instr.storeAt, Instr.sureAddr, storeVar, ht, h1, storeCells, Addr.add_zero', run_store _ _ _ _ _ h2, stored, hc, hfz]
theorem f39_at (base : Nat) (σ : Store) (id : Nat) (x : AV) (h : σ.ob id = some ⟨2, false, false, [[.slf id, x]]⟩) : CallOK E base 39 [.tptr id 57] σ (.tup []) σ (some id) := by
  refine ⟨StGo.refl σ, (fun h => by cases h), ⟨_, Try.func39, rfl, by decide⟩, fun c us hI hG hus => ⟨fun _ _ _ => rfl, ?_⟩⟩
  obtain ⟨u, rfl⟩ : ∃ u, us = [u] := by
    have := hus.1
    cases us with
    | nil => simp at this
    | cons a l => cases l with
      | nil => exact ⟨a, rfl⟩
      | cons _ _ => simp at this
  have hu := hus.2 0 _ u rfl rfl
  cases hu with
  | tptr L hm ho ht =>
    have hok := hI.core.obj id _ L h hm
    obtain ⟨arr, T, h1, h2, h3⟩ := hok.mem
    have hty := (tyOf_cells h1).symm.trans ht
    simp only [Option.some.injEq, Prod.mk.injEq] at hty
    obtain ⟨rfl, has⟩ := hty
    have hsz : L.sz = 2 := hok.sz
    obtain ⟨u0, hu0, hr0, _⟩ := h3 0 _ 0 _ rfl rfl
    have hc : c.w.cell? ⟨L.b, 0, none⟩ = some u0 := by rw [cell_of h1]; rw [← hu0]; congr 1; omega
    have hsh : c.w.shape? L.b = some (57, 2) := by simp [World.shape?, h1]; omega
    have hfz : c.w.frozen? ⟨L.b, 0, none⟩ = false := by simp [World.frozen?, h1]
    cases hr0 with
    | slf0 =>
      refine (cc_fresh L.b c.w hc hsh hfz).mono ?_
      rintro e w' ⟨rfl, rfl⟩
      have hst : evStore E.T σ 54 (.ptr id 0 0) (.slf id) = some ⟨.junk, σ.put id (some ⟨2, false, false, [[.slf id, x]]⟩), some id, true⟩ := by
        simp [evStore, E_T, tab54, h, cells, leaf, putAt, pl]
      have hρ : ∀ y : Operand, Rep c ((fun y => match y with | .tmp 0 => .ptr id 0 0 | .tmp 1 => .slf id | _ => .junk) y) ((fun y => match y with | .tmp 0 => .pointer (some ⟨L.b, L.o + 0 * L.sz + 0, none⟩) | .tmp 1 => .pointer (some ⟨L.b, 0, none⟩) | _ => undef) y) := fun y => by
        dsimp only
        split
        · exact .ptr L hm
        · exact .slf L hm ho
        · exact .junk
      obtain ⟨u, c', hrun, hext, hinv, _, hfr⟩ := simB_store tabOK hI hρ { dst := none, op := .store 54 (.tmp 0) (.tmp 1), type := 0, pos := "", after := #[], guard := none } 54 (.tmp 0) (.tmp 1) rfl hst
      have hrun' := store1_run L.b 0 (.pointer (some ⟨L.b, 0, none⟩)) (.pointer none) c.w (t := 54) (siz tabOK tab54 c.w) rfl rfl hc hfz { dst := none, op := .store 54 (.tmp 0) (.tmp 1), type := 0, pos := "", after := #[], guard := none } (.tmp 0) (.tmp 1) rfl (fun y => match y with | .tmp 0 => .pointer (some ⟨L.b, L.o + 0 * L.sz + 0, none⟩) | .tmp 1 => .pointer (some ⟨L.b, 0, none⟩) | _ => undef) (by simp [ho]) rfl
      rw [hrun'] at hrun
      have hσ : σ.put id (some ⟨2, false, false, [[.slf id, x]]⟩) = σ := by
        cases σ; simp only [Store.put, Store.mk.injEq, true_and]; funext j
        by_cases hj : j = id
        · subst hj; simpa using h.symm
        · simp [hj]
      rw [hσ] at hinv
      rcases hrun with hrun | ⟨hrun, _⟩
      · cases hrun
      · injection hrun with _ hw
        exact ⟨.tuple #[], c', rfl, hw.symm, hext, hinv, .tup rfl (fun j x u h _ => by simp [import2L] at h), hfr⟩
    | slf L' hm' ho' =>
      rw [hm] at hm'; cases hm'
      refine (cc_used L.b c.w hc).mono ?_
      rintro e w' ⟨rfl, rfl⟩
      exact ⟨.tuple #[], c, rfl, rfl, Ext.refl c, hI, .tup rfl (fun j x u h _ => by simp [import2L] at h), Fr.refl _ _ _⟩
end Go.Bx.Scan

/- (*strings.Builder).copyCheck, printed by pf.py. (Own text.) -/
namespace Go.Bx.Scan
set_option linter.unusedVariables false
set_option linter.unusedSimpArgs false
set_option linter.unusedSectionVars false
open Go.Proofs
set_option linter.unusedSimpArgs false
set_option linter.unusedVariables false
set_option maxRecDepth 10000

end Go.Bx.Scan

/- (*strings.Builder).WriteByte, printed by pf.py. (Own text.) -/
namespace Go.Bx.Scan
set_option linter.unusedVariables false
set_option linter.unusedSimpArgs false
set_option linter.unusedSectionVars false
open Go.Proofs
set_option linter.unusedSimpArgs false
set_option linter.unusedVariables false
set_option maxRecDepth 10000
/-- (*strings.Builder).WriteByte -/
def f27 (b : List Int) (c : Int) : Option (List Int) :=
  ap 1 b [c] >>= fun a1 =>
  some a1

theorem f27_res : Try.f27.results = #[.tmp 4] := rfl

def f27_S (b : List Int) (c : Int) : List (Option Obj) := [some ⟨2, false, false, [[.slf 0, .trow 1 5 ((b).length)]]⟩, some ⟨1, false, true, List.map (cInt .u8) b⟩]
set_option maxHeartbeats 4000000 in
theorem f27_ok (b : List Int) (c : Int) (r : List Int) (h : f27 b c = some r) : RefC E 27 2 [.tptr 0 57, .v (.int .u8 c)] (f27_S b c) (.v .nilIface) [some ⟨2, false, false, [[.slf 0, .trow 2 5 ((r).length)]]⟩, none, some ⟨1, false, true, List.map (cInt .u8) r⟩] := by
  unfold f27 at h
  refine ref_of_wp tabOK mixed (fn := Try.f27) (nt := 17) Try.func27 rfl rfl (names _ _ Try.func27) (fun _ => rfl) (refOK_of rfl) (fun base c00 hU => ?_)
  refine Wk.wp (s2 := ⟨.tptr 0 57 :: .v (.int .u8 c) :: jj 15 [], St [some ⟨2, false, false, [[.slf 0, .trow 1 5 ((b).length)]]⟩, some ⟨1, false, true, List.map (cInt .u8) b⟩], some 0, 2⟩) ?_ ?_
  · refine Wk.weakK hU [some 0, some 1] _ (by decide) (k := 2) rfl rfl ?_ ?_
    refine .obj rfl ?_ ?_
    · refine .mk ?_ (by simp only [bxm, leaf_ptr, leaf_slf, leaf_trow, leaf_tptr]) nofun
      refine .cons ?_ .nil
      repeat' (first | exact WVs.nil | refine WVs.cons ?_ ?_)
      all_goals first | exact WV.keep rfl | exact WV.row rfl | exact WV.ptr rfl | exact WV.slf rfl | exact WV.trow rfl
    refine .obj rfl ?_ ?_
    · exact .same _ _ _
    · exact .nil
    simp only [jjs, List.length_cons, List.length_nil, Nat.reduceAdd, Nat.reduceSub, List.replicate, List.cons_append, List.nil_append]
    repeat' (first | exact WVs.nil | refine WVs.cons ?_ ?_)
    all_goals first | exact WV.junk _ | exact WV.keep rfl | exact WV.row rfl | exact WV.ptr rfl | exact WV.tptr rfl | exact .agg rfl (aggKeep rfl)
  refine Wp.seq <| Wp.region hU no_ok rgI <| thenN <| Wp.seq <| ?_
  have hv2 : CallOK E base 39 [.tptr 0 57] (St [some ⟨2, false, false, [[.slf 0, .trow 1 5 ((b).length)]]⟩, some ⟨1, false, true, List.map (cInt .u8) b⟩]) (.tup []) (St [some ⟨2, false, false, [[.slf 0, .trow 1 5 ((b).length)]]⟩, some ⟨1, false, true, List.map (cInt .u8) b⟩]) (some 0) := f39_at base (St [some ⟨2, false, false, [[.slf 0, .trow 1 5 ((b).length)]]⟩, some ⟨1, false, true, List.map (cInt .u8) b⟩]) 0 _ rfl
  refine Wp.region hU (rone_ok hv2 no_ok) rgI <| thenN <| ?_
  refine Wk.wp (s2 := ⟨.tptr 0 57 :: .v (.int .u8 c) :: jj 15 [], St [some ⟨2, false, false, [[.slf 0, .trow 1 5 ((b).length)]]⟩, some ⟨1, false, true, List.map (cInt .u8) b⟩], some 0, 2⟩) ?_ ?_
  · refine Wk.weakK hU [some 0, some 1] _ (by decide) (k := 2) rfl rfl ?_ ?_
    · refine .obj rfl ?_ ?_
      · refine .mk ?_ (by simp only [bxm, leaf_ptr, leaf_slf, leaf_trow, leaf_tptr]) nofun
        refine .cons ?_ .nil
        exact wvI
      refine .obj rfl ?_ ?_
      · exact woI
      exact .nil
    · exact wvI
  refine Wp.seq <| ?_
  obtain ⟨a1, ha1, h⟩ := bind_some h
  obtain ⟨ha1a, ha1b⟩ := ap_some ha1
  try simp only [List.length_cons, List.length_nil, Nat.zero_add, Nat.add_zero, Nat.reduceAdd] at ha1a
  have fx := ha1a
  refine Wp.region hU no_ok rgIF <| thenN <| ?_
  refine Wk.wp (s2 := ⟨jj 17 [], St [some ⟨2, false, false, [[.slf 0, .trow 2 5 ((a1).length)]]⟩, none, some ⟨1, false, true, List.map (cInt .u8) a1⟩], some 0, 2⟩) ?_ ?_
  · refine Wk.weakK hU [some 0, some 1, some 3] _ (by decide) (k := 2) rfl rfl ?_ ?_
    · refine .obj rfl ?_ ?_
      · refine .mk ?_ (by simp only [bxm, leaf_ptr, leaf_slf, leaf_trow, leaf_tptr]) nofun
        refine .cons ?_ .nil
        have fe := ha1b
        have fl := ha1b
        have fv := nofx
        exact wvIF
      refine .dead ?_
      refine .obj rfl ?_ ?_
      · have fe := ha1b
        have fl := nofx
        have fv := nofx
        exact woIF
      exact .nil
    · have fe := ha1b
      have fl := ha1b
      have fv := nofx
      exact wvIF
  refine Wp.seq <| Wp.region hU no_ok rgI <| thenN <| Wp.ret <| ?_
  obtain rfl := Option.some.inj h
  refine ⟨.inl rfl, ?_⟩
  refine RtR.wk (s2 := ⟨jj 4 (.v .nilIface :: jj 12 []), St [some ⟨2, false, false, [[.slf 0, .trow 2 5 ((a1).length)]]⟩, none, some ⟨1, false, true, List.map (cInt .u8) a1⟩], some 0, 2⟩) ?_ (RtR.of rfl rfl)
  · refine Wk.weakK hU [some 0, some 1, some 2] _ (by decide) (k := 2) rfl rfl ?_ ?_
    · refine .obj rfl ?_ ?_
      · refine .mk ?_ (by simp only [bxm, leaf_ptr, leaf_slf, leaf_trow, leaf_tptr]) nofun
        refine .cons ?_ .nil
        have fe := ha1b
        have fl := ha1b
        have fv := nofx
        exact wvIF
      refine .dead ?_
      refine .obj rfl ?_ ?_
      · have fe := ha1b
        have fl := nofx
        have fv := nofx
        exact woIF
      exact .nil
    · have fe := ha1b
      have fl := ha1b
      have fv := nofx
      exact wvIF

end Go.Bx.Scan

/- (*strings.Builder).WriteString, printed by pf.py. (Own text.) -/
namespace Go.Bx.Scan
set_option linter.unusedVariables false
set_option linter.unusedSimpArgs false
set_option linter.unusedSectionVars false
open Go.Proofs
set_option linter.unusedSimpArgs false
set_option linter.unusedVariables false
set_option maxRecDepth 10000
/-- (*strings.Builder).WriteString -/
def f28 (b : List Int) (s : Str) : Option (Int × (List Int)) :=
  ap 1 b (bts s) >>= fun a1 =>
  some ((s.length : Int), a1)

theorem f28_res : Try.f28.results = #[.tmp 4, .tmp 5] := rfl

def f28_S (b : List Int) (s : Str) : List (Option Obj) := [some ⟨2, false, false, [[.slf 0, .trow 1 5 ((b).length)]]⟩, some ⟨1, false, true, List.map (cInt .u8) b⟩]
set_option maxHeartbeats 4000000 in
theorem f28_ok (b : List Int) (s : Str) (r : Int × (List Int)) (h : f28 b s = some r) : RefC E 28 2 [.tptr 0 57, .v (.string (mkS s))] (f28_S b s) (.tup [.v (.int .i64 r.1), .v .nilIface]) [some ⟨2, false, false, [[.slf 0, .trow 2 5 ((r.2).length)]]⟩, none, some ⟨1, false, true, List.map (cInt .u8) r.2⟩] := by
  unfold f28 at h
  refine ref_of_wp tabOK mixed (fn := Try.f28) (nt := 19) Try.func28 rfl rfl (names _ _ Try.func28) (fun _ => rfl) (refOK_of rfl) (fun base c00 hU => ?_)
  refine Wk.wp (s2 := ⟨.tptr 0 57 :: .v (.string (mkS s)) :: jj 17 [], St [some ⟨2, false, false, [[.slf 0, .trow 1 5 ((b).length)]]⟩, some ⟨1, false, true, List.map (cInt .u8) b⟩], some 0, 2⟩) ?_ ?_
  · refine Wk.weakK hU [some 0, some 1] _ (by decide) (k := 2) rfl rfl ?_ ?_
    refine .obj rfl ?_ ?_
    · refine .mk ?_ (by simp only [bxm, leaf_ptr, leaf_slf, leaf_trow, leaf_tptr]) nofun
      refine .cons ?_ .nil
      repeat' (first | exact WVs.nil | refine WVs.cons ?_ ?_)
      all_goals first | exact WV.keep rfl | exact WV.row rfl | exact WV.ptr rfl | exact WV.slf rfl | exact WV.trow rfl
    refine .obj rfl ?_ ?_
    · exact .same _ _ _
    · exact .nil
    simp only [jjs, List.length_cons, List.length_nil, Nat.reduceAdd, Nat.reduceSub, List.replicate, List.cons_append, List.nil_append]
    repeat' (first | exact WVs.nil | refine WVs.cons ?_ ?_)
    all_goals first | exact WV.junk _ | exact WV.keep rfl | exact WV.row rfl | exact WV.ptr rfl | exact WV.tptr rfl | exact .agg rfl (aggKeep rfl)
  refine Wp.seq <| Wp.region hU no_ok rgI <| thenN <| Wp.seq <| ?_
  have hv2 : CallOK E base 39 [.tptr 0 57] (St [some ⟨2, false, false, [[.slf 0, .trow 1 5 ((b).length)]]⟩, some ⟨1, false, true, List.map (cInt .u8) b⟩]) (.tup []) (St [some ⟨2, false, false, [[.slf 0, .trow 1 5 ((b).length)]]⟩, some ⟨1, false, true, List.map (cInt .u8) b⟩]) (some 0) := f39_at base (St [some ⟨2, false, false, [[.slf 0, .trow 1 5 ((b).length)]]⟩, some ⟨1, false, true, List.map (cInt .u8) b⟩]) 0 _ rfl
  refine Wp.region hU (rone_ok hv2 no_ok) rgI <| thenN <| ?_
  refine Wk.wp (s2 := ⟨.tptr 0 57 :: .v (.string (mkS s)) :: jj 17 [], St [some ⟨2, false, false, [[.slf 0, .trow 1 5 ((b).length)]]⟩, some ⟨1, false, true, List.map (cInt .u8) b⟩], some 0, 2⟩) ?_ ?_
  · refine Wk.weakK hU [some 0, some 1] _ (by decide) (k := 2) rfl rfl ?_ ?_
    · refine .obj rfl ?_ ?_
      · refine .mk ?_ (by simp only [bxm, leaf_ptr, leaf_slf, leaf_trow, leaf_tptr]) nofun
        refine .cons ?_ .nil
        exact wvI
      refine .obj rfl ?_ ?_
      · exact woI
      exact .nil
    · exact wvI
  refine Wp.seq <| ?_
  obtain ⟨a1, ha1, h⟩ := bind_some h
  obtain ⟨ha1a, ha1b⟩ := ap_some ha1
  try simp only [List.length_cons, List.length_nil, Nat.zero_add, Nat.add_zero, Nat.reduceAdd] at ha1a
  have fx := ha1a
  refine Wp.region hU no_ok rgIF <| thenN <| ?_
  refine Wk.wp (s2 := ⟨jj 1 (.v (.string (mkS s)) :: jj 17 []), St [some ⟨2, false, false, [[.slf 0, .trow 2 5 ((a1).length)]]⟩, none, some ⟨1, false, true, List.map (cInt .u8) a1⟩], some 0, 2⟩) ?_ ?_
  · refine Wk.weakK hU [some 0, some 1, some 2] _ (by decide) (k := 2) rfl rfl ?_ ?_
    · refine .obj rfl ?_ ?_
      · refine .mk ?_ (by simp only [bxm, leaf_ptr, leaf_slf, leaf_trow, leaf_tptr]) nofun
        refine .cons ?_ .nil
        have fe := ha1b
        have fl := ha1b
        have fv := nofx
        exact wvIF
      refine .dead ?_
      refine .obj rfl ?_ ?_
      · have fe := ha1b
        have fl := nofx
        have fv := nofx
        exact woIF
      exact .nil
    · have fe := ha1b
      have fl := ha1b
      have fv := nofx
      exact wvIF
  refine Wp.seq <| Wp.region hU no_ok rgI <| thenN <| Wp.ret <| ?_
  obtain rfl := Option.some.inj h
  refine ⟨.inl rfl, ?_⟩
  refine RtR.wk (s2 := ⟨jj 4 (.v (.int .i64 (s.length : Int)) :: .v .nilIface :: jj 13 []), St [some ⟨2, false, false, [[.slf 0, .trow 2 5 ((a1).length)]]⟩, none, some ⟨1, false, true, List.map (cInt .u8) a1⟩], some 0, 2⟩) ?_ (RtR.of rfl rfl)
  · refine Wk.weakK hU [some 0, some 1, some 2] _ (by decide) (k := 2) rfl rfl ?_ ?_
    · refine .obj rfl ?_ ?_
      · refine .mk ?_ (by simp only [bxm, leaf_ptr, leaf_slf, leaf_trow, leaf_tptr]) nofun
        refine .cons ?_ .nil
        have fe := ha1b
        have fl := ha1b
        have fv := nofx
        exact wvIF
      refine .dead ?_
      refine .obj rfl ?_ ?_
      · have fe := ha1b
        have fl := nofx
        have fv := nofx
        exact woIF
      exact .nil
    · have fe := ha1b
      have fl := ha1b
      have fv := nofx
      exact wvIF

end Go.Bx.Scan

/- strings.Builder's String: by hand, for it looks at its buffer's type. (Own text.) -/
namespace Go.Bx.Scan
set_option linter.unusedVariables false
set_option linter.unusedSimpArgs false
set_option linter.unusedSectionVars false
open Go.Proofs Go.RowKit
set_option linter.unusedVariables false
set_option linter.unusedSimpArgs false
theorem byte_cells : Try.prog.cellsOf 5 = 1 := by kernel_rfl
theorem us_none (W : World) (q : Option Addr) : (Builtin.unsafeString_ #[73, 3] 9 #[.pointer q, .int .i64 0]).run Try.prog W = .ok (.string .empty) W :=
  Lib.run_unsafeString_none W _ _ _ q
set_option maxHeartbeats 2000000 in
set_option maxRecDepth 100000 in
theorem str_row (b g : Nat) (s : Str) (cap : Nat) (cur : Array Value) (w : World) (h0 : s ≠ []) (hn : s.length ≤ cap) (hm : s.length ≤ 9223372036854775807) (hcs : cur.size = cap)
    (hb : w.cell? ⟨b, 1, none⟩ = some (.slice (some ⟨g, 0, none⟩) s.length cap)) (hg : w.heap[g]? = some (.cells cur 5 (0, 0))) (hc : ∀ (j : Nat) x, s[j]? = some x → cur[j]? = some (.int .u8 x.toNat)) :
    Calls Try.prog 29 #[.pointer (some ⟨b, 0, none⟩)] w fun e w' => e = .returned (.string (mkS s)) ∧ FzOK w w' g := by
  have hl0 : s.length ≠ 0 := by simpa using h0
  have c1 : w.drew.cell? ⟨b, 1, none⟩ = some (.slice (some ⟨g, 0, none⟩) s.length cap) := hb
  have hSD : (Builtin.unsafeSliceData_ #[55] 73 #[.slice (some ⟨g, 0, none⟩) s.length cap]).run Try.prog w.drew = .ok (.pointer (some ⟨g, 0, none⟩)) w.drew :=
    Lib.run_unsafeSliceData_row _ _ _ _ _ _ (by omega)
  have hg' : w.drew.heap[g]? = some (.cells cur 5 (0, 0)) := hg
  have hUS : (Builtin.unsafeString_ #[73, 3] 9 #[.pointer (some ⟨g, 0, none⟩), .int .i64 s.length]).run Try.prog w.drew = .ok (.string ⟨s.toArray⟩) (w.drew.freeze ⟨g, 0, none⟩ s.length) := by
    refine Lib.run_unsafeString_row w.drew 73 3 9 5 Try.underlying73 byte_cells g cur.size (by simp [World.shape?, hg']) s h0 (by omega) hm ?_
    intro j x hx
    rw [Addr.add_lit, Nat.zero_add, cell_of hg']; exact hc j x hx
  have hF : FzOK w (w.drew.freeze ⟨g, 0, none⟩ s.length) g := by
    have h := FzOK.freeze (w := w.drew) hg' s.length
    exact ⟨h.other, h.cell, h.ty, h.size, h.os, h.tape, h.output⟩
  go_enter Try.func29, Try.ntmps29
  go_wp2
  go_region
  all_goals (go_wp2; go_ret; exact ⟨rfl, hF⟩)
set_option maxHeartbeats 2000000 in
set_option maxRecDepth 100000 in
theorem str_nil (b : Nat) (w : World) (hb : w.cell? ⟨b, 1, none⟩ = some (.slice none 0 0)) :
    Calls Try.prog 29 #[.pointer (some ⟨b, 0, none⟩)] w fun e w' => e = .returned (.string ⟨#[]⟩) ∧ Below w.heap.size w w' := by
  have hUS := us_none
  have c1 : w.drew.cell? ⟨b, 1, none⟩ = some (.slice none 0 0) := hb
  have hSD : (Builtin.unsafeSliceData_ #[55] 73 #[.slice none 0 0]).run Try.prog w.drew = .ok (.pointer none) w.drew := rfl
  go_enter Try.func29, Try.ntmps29
  go_wp2
  go_region
  all_goals (go_wp2; go_ret; exact ⟨rfl, Below.drew (Below.refl _ w)⟩)
set_option maxHeartbeats 2000000 in
set_option maxRecDepth 100000 in
theorem str_room (b g cap : Nat) (w : World) (hc0 : cap ≠ 0) (hb : w.cell? ⟨b, 1, none⟩ = some (.slice (some ⟨g, 0, none⟩) 0 cap)) :
    Calls Try.prog 29 #[.pointer (some ⟨b, 0, none⟩)] w fun e w' => e = .returned (.string ⟨#[]⟩) ∧ Below w.heap.size w w' := by
  have hUS := us_none
  have c1 : w.drew.cell? ⟨b, 1, none⟩ = some (.slice (some ⟨g, 0, none⟩) 0 cap) := hb
  have hSD : (Builtin.unsafeSliceData_ #[55] 73 #[.slice (some ⟨g, 0, none⟩) 0 cap]).run Try.prog w.drew = .ok (.pointer (some ⟨g, 0, none⟩)) w.drew :=
    Lib.run_unsafeSliceData_row _ _ _ _ _ _ hc0
  clear hc0
  go_enter Try.func29, Try.ntmps29
  go_wp2
  go_region
  all_goals (go_wp2; go_ret; exact ⟨rfl, Below.drew (Below.refl _ w)⟩)
set_option maxHeartbeats 2000000 in
set_option maxRecDepth 100000 in
theorem str_noroom (b g : Nat) (cur : Array Value) (w : World) (hlt : b < w.heap.size) (hb : w.cell? ⟨b, 1, none⟩ = some (.slice (some ⟨g, 0, none⟩) 0 0)) (hg : w.heap[g]? = some (.cells cur 5 (0, 0))) :
    Calls Try.prog 29 #[.pointer (some ⟨b, 0, none⟩)] w fun e w' => e = .returned (.string ⟨#[]⟩) ∧ Below w.heap.size w w' := by
  have hUS := us_none
  have c1 : w.drew.cell? ⟨b, 1, none⟩ = some (.slice (some ⟨g, 0, none⟩) 0 0) := hb
  have hSD : (Builtin.unsafeSliceData_ #[55] 73 #[.slice (some ⟨g, 0, none⟩) 0 0]).run Try.prog w.drew = .ok (.pointer (some ⟨w.drew.heap.size, 0, none⟩)) (w.drew.alloc (.view ⟨g, 0, none⟩ 5)) :=
    Lib.run_unsafeSliceData_zero w.drew _ _ 5 Try.underlying73 ⟨g, 0, none⟩ 0 (5, cur.size) (by have hg' : w.drew.heap[g]? = some (.cells cur 5 (0, 0)) := hg; simp [World.shape?, hg'])
  have c2 : (w.drew.alloc (.view ⟨g, 0, none⟩ 5)).cell? ⟨b, 1, none⟩ = some (.slice (some ⟨g, 0, none⟩) 0 0) := (cell_alloc_old (w := w.drew) _ hlt).trans hb
  have c3 : (w.alloc (.view ⟨g, 0, none⟩ 5)).drew.cell? ⟨b, 1, none⟩ = some (.slice (some ⟨g, 0, none⟩) 0 0) := c2
  go_enter Try.func29, Try.ntmps29
  go_wp2
  go_region
  all_goals (go_wp2; go_ret; exact ⟨rfl, (Below.drew (Below.refl _ w)).alloc (Nat.le_refl _) _⟩)

/-- (*strings.Builder).String -/
def f29 (l : List Int) : Option Str := if bts (stb l) = l ∧ l.length ≤ 9223372036854775807 then some (stb l) else none
theorem f29_at (base : Nat) (L : List (Option Obj)) (id j : Nat) (l : List Int) (r : Str) (h : f29 l = some r) (h1 : L[id]? = some (some ⟨2, false, false, [[.slf id, .trow j 5 l.length]]⟩)) (h2 : L[j]? = some (some ⟨1, false, true, List.map (cInt .u8) l⟩)) :
    CallOK E base 29 [.tptr id 57] (St L) (.v (.string (mkS r))) (St (L.set j none)) (some j) := by
  have hjl : j < L.length := (List.getElem?_eq_some_iff.1 h2).1
  have hl : bts r = l ∧ r.length ≤ 9223372036854775807 := by
    unfold f29 at h
    split at h
    · rename_i hc; cases h; exact ⟨hc.1, by rw [← bts_length, hc.1]; exact hc.2⟩
    · cases h
  obtain ⟨rfl, hmax⟩ := hl
  have o1 : (St L).ob id = some ⟨2, false, false, [[.slf id, .trow j 5 (bts r).length]]⟩ := by simp [St, h1]
  have o2 : (St L).ob j = some ⟨1, false, true, List.map (cInt .u8) (bts r)⟩ := by simp [St, h2]
  rw [← St_put L j none hjl]
  generalize St L = σ at *
  refine ⟨StGo.drop _ _, (fun h => by cases h), ⟨_, Try.func29, rfl, by decide⟩, fun c us hI hG hus => ?_⟩
  obtain ⟨u, rfl⟩ : ∃ u, us = [u] := by
    have := hus.1
    cases us with
    | nil => simp at this
    | cons a l => cases l with
      | nil => exact ⟨a, rfl⟩
      | cons _ _ => simp at this
  have hu := hus.2 0 _ u rfl rfl
  cases hu with
  | tptr L hm ho ht =>
    have hok := hI.core.obj id _ L o1 hm
    obtain ⟨arr, T, q1, q2, q3⟩ := hok.mem
    have hsz : L.sz = 2 := hok.sz
    obtain ⟨u1, hu1, hr1, _⟩ := q3 0 _ 1 _ rfl rfl
    have hc : c.w.cell? ⟨L.b, 1, none⟩ = some u1 := by rw [cell_of q1]; rw [← hu1]; congr 1; omega
    have hlt : L.b < c.w.heap.size := hI.core.b_lt o1 hm
    generalize hn : (bts r).length = n at hr1
    cases hr1 with
    | trow K hmk hk1 hk2 hk3 hk4 hk5 =>
      rename_i cap
      refine ⟨fun i _ hi => ?_, ?_⟩
      · show (σ.put j none).ob i = _
        simp only [Store.put]
        by_cases hij : i = j
        · subst hij; rw [hmk] at hi; cases hi
        · rw [if_neg hij]
      have hok2 := hI.core.obj j _ K o2 hmk
      obtain ⟨arr2, T2, p1, p2, p3⟩ := hok2.mem
      have hty := (tyOf_cells p1).symm.trans hk3
      simp only [Option.some.injEq, Prod.mk.injEq] at hty
      obtain ⟨rfl, has⟩ := hty
      have hrn : r.length = n := by rw [← hn, bts_length]
      have fin : ∀ w', FzOK c.w w' K.b → ∃ v c', Ending.returned (.string (mkS r)) = .returned v ∧ c'.w = w' ∧ Ext c c' ∧ Inv (importAV (σ.put j none) (.v (.string (mkS r)))).2 c' base ∧ Rep c' (importAV (σ.put j none) (.v (.string (mkS r)))).1 v ∧ Fr c σ (some j) c' := fun w' hF => by
        obtain ⟨e1, e2, e3⟩ := hF.inv hI o2 hmk
        exact ⟨_, _, rfl, rfl, e1, e2, .v _, e3⟩
      by_cases h0 : r = []
      · subst h0
        have hn0 : n = 0 := by rw [← hrn]; rfl
        subst hn0
        by_cases hcap : cap = 0
        · subst hcap
          refine (str_noroom L.b K.b arr2 c.w hlt hc p1).mono ?_
          rintro e w' ⟨rfl, hB⟩
          exact fin w' (.below hB)
        · refine (str_room L.b K.b cap c.w hcap hc).mono ?_
          rintro e w' ⟨rfl, hB⟩
          exact fin w' (.below hB)
      · refine (str_row L.b K.b r cap arr2 c.w h0 (by omega) hmax (by omega) (by rw [hrn]; exact hc) p1 (fun k x hx => ?_)).mono ?_
        · obtain ⟨v, a1, a2, _⟩ := p3 k [.v (.int .u8 x.toNat)] 0 _ (by simp [bts, hx, cInt]) rfl
          cases a2
          rw [← a1]; congr 1; rw [hk2, hk1]; omega
        · rintro e w' ⟨rfl, hF⟩
          exact fin w' hF
    | trow0 hmk =>
      refine ⟨fun i _ hi => ?_, ?_⟩
      · show (σ.put j none).ob i = _
        simp only [Store.put]
        by_cases hij : i = j
        · subst hij; rw [hmk] at hi; cases hi
        · rw [if_neg hij]
      have h0 : r = [] := by
        have : r.length = 0 := by rw [← bts_length]; exact hn
        exact List.eq_nil_of_length_eq_zero this
      subst h0
      refine (str_nil L.b c.w hc).mono ?_
      rintro e w' ⟨rfl, hB⟩
      obtain ⟨e1, e2, e3⟩ := FzOK.inv0 (j := j) hI hB
      exact ⟨_, _, rfl, rfl, e1, e2, .v _, e3⟩
end Go.Bx.Scan

/- (*strings.Builder).String, printed by pf.py. (Own text.) -/
namespace Go.Bx.Scan
set_option linter.unusedVariables false
set_option linter.unusedSimpArgs false
set_option linter.unusedSectionVars false
open Go.Proofs
set_option linter.unusedSimpArgs false
set_option linter.unusedVariables false
set_option maxRecDepth 10000

end Go.Bx.Scan

/- sibyl/scan.Join, printed by pf.py. (Own text.) -/
namespace Go.Bx.Scan
set_option linter.unusedVariables false
set_option linter.unusedSimpArgs false
set_option linter.unusedSectionVars false
open Go.Proofs
set_option linter.unusedSimpArgs false
set_option linter.unusedVariables false
set_option maxRecDepth 10000
def f16_l0 (ts : List Token) (v : Int) : Option (Ou (Str × Int) Unit) :=
  if (decide (v < (ts.length : Int))) = true then
    (rd ts v >>= fun e3 =>
    f26 (⟨e3.Kind, e3.Text, (⟨e3.N.Neg, e3.N.Num, e3.N.Den⟩ : Ratio), e3.At⟩ : Token) >>= fun r4 =>
    if (!r4) = true then
      (some (.ret ([], 40)))
    else
      f16_l0 ts (IntKind.i64.wrap (v + 1)))
  else
    some (.nxt ())
  partial_fixpoint

def f16_l1 (ts : List Token) (n : Int) (b_b : List Int) (v : Int) : Option (Ou (Str × Int) ((List Int))) :=
  if (decide (v < (ts.length : Int))) = true then
    ((rd ts v >>= fun e9 =>
    if (decide (v > 0)) = true then
      (f27 b_b 32 >>= fun r11 =>
      some (IntKind.i64.wrap ((IntKind.i64.wrap (n + 1)) + (e9.Text.length : Int))) >>= fun x12 =>
      if (decide (x12 > 4096)) = true then
        (some (.ret ([], 3)))
      else
        f28 r11 e9.Text >>= fun r14 =>
        some (.nxt (x12, r14.2)))
    else
      some (IntKind.i64.wrap (n + (e9.Text.length : Int))) >>= fun x15 =>
      if (decide (x15 > 4096)) = true then
        (some (.ret ([], 3)))
      else
        f28 b_b e9.Text >>= fun r17 =>
        some (.nxt (x15, r17.2)) : Option (Ou (Str × Int) (Int × (List Int)))) >>= fun o8 => match o8 with
    | .ret r0 => some (.ret r0)
    | .nxt wo8 =>
      f16_l1 ts wo8.1 wo8.2 (IntKind.i64.wrap (v + 1)))
  else
    some (.nxt b_b)
  partial_fixpoint

/-- sibyl/scan.Join -/
def f16 (ts : List Token) : Option (Str × Int) :=
  f16_l0 ts 0 >>= fun o1 => match o1 with
  | .ret r0 => some r0
  | .nxt wo1 =>
    f16_l1 ts 0 [] 0 >>= fun o6 => match o6 with
    | .ret r0 => some r0
    | .nxt wo6 =>
      f29 wo6 >>= fun r18 =>
      some (r18, 0)

noncomputable def f16_ci : CI := (CI.or 26 f26_tbl (fun _ _ _ => none))
theorem f16_ci_ok (base : Nat) : CIOK E base f16_ci := (or_ok f26_tbl_ok no_ok)
theorem f16_res : Try.f16.results = #[.tmp 2, .tmp 3] := rfl
theorem f16_rt : Try.f16.resultTypes = #[9, 24] := rfl

set_option maxHeartbeats 4000000 in
theorem f16_l0_ok {base : Nat} {c00 : Ctx} (ts : List Token) (hU : Under E base c00 nilStore) : ∀ (v : Int) (o1 : Ou (Str × Int) Unit), f16_l0 ts v = some o1 →
    WpL E base c00 nilStore (lb Try.f16 0) ⟨.sl (List.map cToken ts) :: jj 3 (.v (.int .i64 0) :: jj 5 (.sl (List.map cToken ts) :: .v (.int .i64 (ts.length : Int)) :: .v (.int .i64 v) :: jj 31 [])), St [], none, 0⟩ (fun ex s1 => match o1 with | .ret r0 => ex = .ret ∧ Rt E base c00 Try.f16 (.tup [.v (.string (mkS r0.1)), .v (.int .i64 r0.2)]) s1 | .nxt wo1 => ex = .exit 0 ∧ Wk base c00 nilStore s1 ⟨.sl (List.map cToken ts) :: jj 3 (.v (.int .i64 0) :: jj 39 []), St [], none, 0⟩) := by
  refine f16_l0.partial_correctness ts _ ?_
  intro lp__ ih v o1 h
  refine WpL.stepE (by simp only [Try.f16, lb, Option.getD_some, loopsOf, List.nil_append, List.append_nil, List.cons_append, List.getElem?_cons_zero, List.getElem?_cons_succ] <;> rfl) ?_
  refine Wp.seq <| Wp.region hU (f16_ci_ok _) rgI <| thenN <| Wp.seq <| ?_
  refine Wp.cond hU (t := decide (v < (ts.length : Int))) rfl (fun hc2 => ?_) (fun hc2 => ?_)
  · rw [if_t hc2] at h
    refine Wp.skip <| thenN <| Wp.seq <| Wp.block <| Wp.seq <| ?_
    obtain ⟨e3, he3, h⟩ := bind_some h
    obtain ⟨he3a, he3b, he3c⟩ := rd_some he3
    have fx := i4 he3a he3b he3c hc2
    refine Wp.region hU (f16_ci_ok _) rgIF <| thenN <| Wp.seq <| ?_
    obtain ⟨r4, hr4, h⟩ := bind_some h
    have hr4c : ∀ σ, f16_ci 26 [.agg [.v (.int .i64 (((⟨e3.Kind, e3.Text, (⟨e3.N.Neg, e3.N.Num, e3.N.Den⟩ : Ratio), e3.At⟩ : Token)).Kind)), .v (.string (mkS (((⟨e3.Kind, e3.Text, (⟨e3.N.Neg, e3.N.Num, e3.N.Den⟩ : Ratio), e3.At⟩ : Token)).Text))), .v (.bool ((((⟨e3.Kind, e3.Text, (⟨e3.N.Neg, e3.N.Num, e3.N.Den⟩ : Ratio), e3.At⟩ : Token)).N).Neg)), .sl (List.map (cInt .u32) ((((⟨e3.Kind, e3.Text, (⟨e3.N.Neg, e3.N.Num, e3.N.Den⟩ : Ratio), e3.At⟩ : Token)).N).Num)), .sl (List.map (cInt .u32) ((((⟨e3.Kind, e3.Text, (⟨e3.N.Neg, e3.N.Num, e3.N.Den⟩ : Ratio), e3.At⟩ : Token)).N).Den)), .v (.int .i64 (((⟨e3.Kind, e3.Text, (⟨e3.N.Neg, e3.N.Num, e3.N.Den⟩ : Ratio), e3.At⟩ : Token)).At))]] σ = some (.v (.bool r4), σ, none) := fun σ => f26_call hr4 σ
    have fx := i2 hr4c hc2
    refine Wp.region hU (f16_ci_ok _) rgIF <| thenN <| ?_
    refine Wp.cond hU (t := !r4) rfl (fun hc5 => ?_) (fun hc5 => ?_)
    · rw [if_t hc5] at h
      refine Wp.seq <| ?_
      have fx := i2 hc2 hc5
      refine Wp.region hU (f16_ci_ok _) rgIF <| thenN <| Wp.ret <| blkR <| thenR <| againR <| ?_
      obtain rfl := Option.some.inj h
      refine ⟨rfl, ?_⟩
      refine Rt.of <| ?_
      have fx := i2 f16_res f16_rt
      exact rtI
    · rw [if_f hc5] at h
      refine Wp.skip <| blkN <| thenN <| ?_
      have fx := i2 hc2 hc5
      refine Wp.region hU (f16_ci_ok _) rgIF <| againN <| ?_
      refine Wk.wpL ?_ (ih (IntKind.i64.wrap (v + 1)) _ h)
      refine Wk.weak hU [] _ (by decide) ?_ ?_
      · exact .nil
      · exact wvI
  · rw [if_f hc2] at h
    refine Wp.exit <| thenE <| againE <| ?_
    obtain rfl := Option.some.inj h
    refine ⟨rfl, ?_⟩
    refine Wk.weak hU [] _ (by decide) ?_ ?_
    · exact .nil
    · exact wvI

set_option maxHeartbeats 4000000 in
theorem f16_l1_ok {base : Nat} {c00 : Ctx} (ts : List Token) (hU : Under E base c00 nilStore) : ∀ (n : Int) (b_b : List Int) (v : Int) (o6 : Ou (Str × Int) ((List Int))), f16_l1 ts n b_b v = some o6 →
    WpL E base c00 nilStore (lb Try.f16 1) ⟨jj 4 (.v (.int .i64 n) :: jj 2 (.tptr 0 57 :: jj 12 (.sl (List.map cToken ts) :: .v (.int .i64 (ts.length : Int)) :: .v (.int .i64 v) :: jj 21 []))), St [some ⟨2, false, false, [[.slf 0, .trow 1 5 ((b_b).length)]]⟩, some ⟨1, false, true, List.map (cInt .u8) b_b⟩], none, 0⟩ (fun ex s1 => match o6 with | .ret r0 => ex = .ret ∧ Rt E base c00 Try.f16 (.tup [.v (.string (mkS r0.1)), .v (.int .i64 r0.2)]) s1 | .nxt wo6 => ex = .exit 2 ∧ Wk base c00 nilStore s1 ⟨jj 7 (.tptr 0 57 :: jj 36 []), St [some ⟨2, false, false, [[.slf 0, .trow 1 5 ((wo6).length)]]⟩, some ⟨1, false, true, List.map (cInt .u8) wo6⟩], none, 0⟩) := by
  refine f16_l1.partial_correctness ts _ ?_
  intro lp__ ih n b_b v o6 h
  refine WpL.stepE (by simp only [Try.f16, lb, Option.getD_some, loopsOf, List.nil_append, List.append_nil, List.cons_append, List.getElem?_cons_zero, List.getElem?_cons_succ] <;> rfl) ?_
  refine Wp.seq <| Wp.region hU (f16_ci_ok _) rgI <| thenN <| Wp.seq <| ?_
  refine Wp.cond hU (t := decide (v < (ts.length : Int))) rfl (fun hc7 => ?_) (fun hc7 => ?_)
  · rw [if_t hc7] at h
    refine Wp.skip <| thenN <| ?_
    obtain ⟨o8, ho8, h⟩ := bind_some h
    refine Wp.seq1 (JP := (fun ex s1 => match o8 with | .ret r0 => ex = .ret ∧ Rt E base c00 Try.f16 (.tup [.v (.string (mkS r0.1)), .v (.int .i64 r0.2)]) s1 | .nxt wo8 => ex = .nrm ∧ Wk base c00 nilStore s1 ⟨jj 4 (.v (.int .i64 wo8.1) :: jj 2 (.tptr 0 57 :: jj 12 (.sl (List.map cToken ts) :: .v (.int .i64 (ts.length : Int)) :: .v (.int .i64 v) :: jj 21 []))), St [some ⟨2, false, false, [[.slf 0, .trow 1 5 ((wo8.2).length)]]⟩, some ⟨1, false, true, List.map (cInt .u8) wo8.2⟩], none, 0⟩)) ?_ (fun ex s1 hp => ?_)
    · replace h := ho8
      refine Wp.block <| Wp.seq <| ?_
      obtain ⟨e9, he9, h⟩ := bind_some h
      obtain ⟨he9a, he9b, he9c⟩ := rd_some he9
      have fx := i4 he9a he9b he9c hc7
      refine Wp.region hU (f16_ci_ok _) rgIF <| thenN <| Wp.seq <| Wp.seq <| ?_
      have fx := hc7
      refine Wp.region hU (f16_ci_ok _) rgIF <| thenN <| ?_
      refine Wp.cond hU (t := decide (v > 0)) rfl (fun hc10 => ?_) (fun hc10 => ?_)
      · rw [if_t hc10] at h
        refine Wp.seq <| ?_
        obtain ⟨r11, hr11, h⟩ := bind_some h
        have hr11c : CallOK E base 27 [.tptr 0 57, .v (.int .u8 32)] (St [some ⟨2, false, false, [[.slf 0, .trow 1 5 ((b_b).length)]]⟩, some ⟨1, false, true, List.map (cInt .u8) b_b⟩, some ⟨6, false, false, [[.v (.int .i64 e9.Kind), .v (.string (mkS e9.Text)), .v (.bool e9.N.Neg), .sl (List.map (cInt .u32) e9.N.Num), .sl (List.map (cInt .u32) e9.N.Den), .v (.int .i64 e9.At)]]⟩]) (.v .nilIface) (St [some ⟨2, false, false, [[.slf 0, .trow 3 5 ((r11).length)]]⟩, none, some ⟨6, false, false, [[.v (.int .i64 e9.Kind), .v (.string (mkS e9.Text)), .v (.bool e9.N.Neg), .sl (List.map (cInt .u32) e9.N.Num), .sl (List.map (cInt .u32) e9.N.Den), .v (.int .i64 e9.At)]]⟩, some ⟨1, false, true, List.map (cInt .u8) r11⟩]) (some 0) := (f27_ok b_b 32 r11 hr11).at [0, 1] 0 rfl ⟨rfl, rfl, trivial⟩ rfl rfl rfl
        have fx := i2 hc7 hc10
        refine Wp.region hU (rone_ok hr11c (f16_ci_ok _)) rgIF <| thenN <| ?_
        refine Wk.wp (s2 := ⟨jj 4 (.v (.int .i64 n) :: jj 2 (.tptr 0 57 :: jj 1 (.ptr 2 0 0 :: jj 10 (.sl (List.map cToken ts) :: .v (.int .i64 (ts.length : Int)) :: .v (.int .i64 v) :: jj 21 [])))), St [some ⟨2, false, false, [[.slf 0, .trow 1 5 ((r11).length)]]⟩, some ⟨1, false, true, List.map (cInt .u8) r11⟩, some ⟨6, false, false, [[.v (.int .i64 e9.Kind), .v (.string (mkS e9.Text)), .v (.bool e9.N.Neg), .sl (List.map (cInt .u32) e9.N.Num), .sl (List.map (cInt .u32) e9.N.Den), .v (.int .i64 e9.At)]]⟩], none, 0⟩) ?_ ?_
        · refine Wk.weak hU [some 0, some 3, some 2] _ (by decide) ?_ ?_
          · refine .obj rfl ?_ ?_
            · refine .mk ?_ (by simp only [bxm, leaf_ptr, leaf_slf, leaf_trow, leaf_tptr]) nofun
              refine .cons ?_ .nil
              exact wvI
            refine .obj rfl ?_ ?_
            · exact woI
            refine .obj rfl ?_ ?_
            · refine .mk ?_ (by simp only [bxm, leaf_ptr, leaf_slf, leaf_trow, leaf_tptr]) nofun
              refine .cons ?_ .nil
              exact wvI
            exact .nil
          · exact wvI
        refine Wp.region hU (f16_ci_ok _) rgIF <| thenN <| Wp.seq <| ?_
        obtain ⟨x12, hx12, h⟩ := bind_some h
        replace hx12 := Option.some.inj hx12
        have fx := i3 hx12 hc7 hc10
        refine Wp.region hU (f16_ci_ok _) rgIF <| thenN <| Wp.seq <| Wp.seq <| ?_
        have fx := i2 hc7 hc10
        refine Wp.region hU (f16_ci_ok _) rgIF <| thenN <| ?_
        refine Wp.cond hU (t := decide (x12 > 4096)) rfl (fun hc13 => ?_) (fun hc13 => ?_)
        · rw [if_t hc13] at h
          refine Wp.seq <| ?_
          have fx := i3 hc7 hc10 hc13
          refine Wp.region hU (f16_ci_ok _) rgIF <| thenN <| Wp.ret <| thenR <| blkR <| ?_
          obtain rfl := Option.some.inj h
          refine ⟨rfl, ?_⟩
          refine Rt.of <| ?_
          have fx := i2 f16_res f16_rt
          exact rtI
        · rw [if_f hc13] at h
          refine Wp.skip <| thenN <| ?_
          obtain ⟨r14, hr14, h⟩ := bind_some h
          have hr14c : CallOK E base 28 [.tptr 0 57, .v (.string (mkS e9.Text))] (St [some ⟨2, false, false, [[.slf 0, .trow 1 5 ((r11).length)]]⟩, some ⟨1, false, true, List.map (cInt .u8) r11⟩, some ⟨6, false, false, [[.v (.int .i64 e9.Kind), .v (.string (mkS e9.Text)), .v (.bool e9.N.Neg), .sl (List.map (cInt .u32) e9.N.Num), .sl (List.map (cInt .u32) e9.N.Den), .v (.int .i64 e9.At)]]⟩]) (.tup [.v (.int .i64 r14.1), .v .nilIface]) (St [some ⟨2, false, false, [[.slf 0, .trow 3 5 ((r14.2).length)]]⟩, none, some ⟨6, false, false, [[.v (.int .i64 e9.Kind), .v (.string (mkS e9.Text)), .v (.bool e9.N.Neg), .sl (List.map (cInt .u32) e9.N.Num), .sl (List.map (cInt .u32) e9.N.Den), .v (.int .i64 e9.At)]]⟩, some ⟨1, false, true, List.map (cInt .u8) r14.2⟩]) (some 0) := (f28_ok r11 e9.Text r14 hr14).at [0, 1] 0 rfl ⟨rfl, rfl, trivial⟩ rfl rfl rfl
          have fx := i3 hc7 hc10 hc13
          refine Wp.region hU (rone_ok hr14c (f16_ci_ok _)) rgIF <| blkN <| ?_
          obtain rfl := Option.some.inj h
          refine ⟨rfl, ?_⟩
          refine Wk.weak hU [some 0, some 3] _ (by decide) ?_ ?_
          · refine .obj rfl ?_ ?_
            · refine .mk ?_ (by simp only [bxm, leaf_ptr, leaf_slf, leaf_trow, leaf_tptr]) nofun
              refine .cons ?_ .nil
              exact wvI
            refine .obj rfl ?_ ?_
            · exact woI
            exact .nil
          · exact wvI
      · rw [if_f hc10] at h
        refine Wp.skip <| thenN <| Wp.seq <| ?_
        obtain ⟨x15, hx15, h⟩ := bind_some h
        replace hx15 := Option.some.inj hx15
        have fx := i3 hx15 hc7 hc10
        refine Wp.region hU (f16_ci_ok _) rgIF <| thenN <| Wp.seq <| Wp.seq <| ?_
        have fx := i2 hc7 hc10
        refine Wp.region hU (f16_ci_ok _) rgIF <| thenN <| ?_
        refine Wp.cond hU (t := decide (x15 > 4096)) rfl (fun hc16 => ?_) (fun hc16 => ?_)
        · rw [if_t hc16] at h
          refine Wp.seq <| ?_
          have fx := i3 hc7 hc10 hc16
          refine Wp.region hU (f16_ci_ok _) rgIF <| thenN <| Wp.ret <| thenR <| blkR <| ?_
          obtain rfl := Option.some.inj h
          refine ⟨rfl, ?_⟩
          refine Rt.of <| ?_
          have fx := i2 f16_res f16_rt
          exact rtI
        · rw [if_f hc16] at h
          refine Wp.skip <| thenN <| ?_
          obtain ⟨r17, hr17, h⟩ := bind_some h
          have hr17c : CallOK E base 28 [.tptr 0 57, .v (.string (mkS e9.Text))] (St [some ⟨2, false, false, [[.slf 0, .trow 1 5 ((b_b).length)]]⟩, some ⟨1, false, true, List.map (cInt .u8) b_b⟩, some ⟨6, false, false, [[.v (.int .i64 e9.Kind), .v (.string (mkS e9.Text)), .v (.bool e9.N.Neg), .sl (List.map (cInt .u32) e9.N.Num), .sl (List.map (cInt .u32) e9.N.Den), .v (.int .i64 e9.At)]]⟩]) (.tup [.v (.int .i64 r17.1), .v .nilIface]) (St [some ⟨2, false, false, [[.slf 0, .trow 3 5 ((r17.2).length)]]⟩, none, some ⟨6, false, false, [[.v (.int .i64 e9.Kind), .v (.string (mkS e9.Text)), .v (.bool e9.N.Neg), .sl (List.map (cInt .u32) e9.N.Num), .sl (List.map (cInt .u32) e9.N.Den), .v (.int .i64 e9.At)]]⟩, some ⟨1, false, true, List.map (cInt .u8) r17.2⟩]) (some 0) := (f28_ok b_b e9.Text r17 hr17).at [0, 1] 0 rfl ⟨rfl, rfl, trivial⟩ rfl rfl rfl
          have fx := i3 hc7 hc10 hc16
          refine Wp.region hU (rone_ok hr17c (f16_ci_ok _)) rgIF <| blkN <| ?_
          obtain rfl := Option.some.inj h
          refine ⟨rfl, ?_⟩
          refine Wk.weak hU [some 0, some 3] _ (by decide) ?_ ?_
          · refine .obj rfl ?_ ?_
            · refine .mk ?_ (by simp only [bxm, leaf_ptr, leaf_slf, leaf_trow, leaf_tptr]) nofun
              refine .cons ?_ .nil
              exact wvI
            refine .obj rfl ?_ ?_
            · exact woI
            exact .nil
          · exact wvI
    · cases o8 with
      | ret r0 =>
        obtain ⟨rfl, hp⟩ := hp
        obtain rfl := Option.some.inj h
        refine thenR <| againR <| ?_
        exact ⟨rfl, hp⟩
      | nxt wo8 =>
        obtain ⟨rfl, hp⟩ := hp
        dsimp only at h
        refine thenN (hp.wp ?_)
        have fx := hc7
        refine Wp.region hU (f16_ci_ok _) rgIF <| againN <| ?_
        refine Wk.wpL ?_ (ih wo8.1 wo8.2 (IntKind.i64.wrap (v + 1)) _ h)
        refine Wk.weak hU [some 0, some 1] _ (by decide) ?_ ?_
        · refine .obj rfl ?_ ?_
          · refine .mk ?_ (by simp only [bxm, leaf_ptr, leaf_slf, leaf_trow, leaf_tptr]) nofun
            refine .cons ?_ .nil
            exact wvI
          refine .obj rfl ?_ ?_
          · exact woI
          exact .nil
        · exact wvI
  · rw [if_f hc7] at h
    refine Wp.exit <| thenE <| againE <| ?_
    obtain rfl := Option.some.inj h
    refine ⟨rfl, ?_⟩
    refine Wk.weak hU [some 0, some 1] _ (by decide) ?_ ?_
    · refine .obj rfl ?_ ?_
      · refine .mk ?_ (by simp only [bxm, leaf_ptr, leaf_slf, leaf_trow, leaf_tptr]) nofun
        refine .cons ?_ .nil
        exact wvI
      refine .obj rfl ?_ ?_
      · exact woI
      exact .nil
    · exact wvI

set_option maxHeartbeats 4000000 in
theorem f16_ok (ts : List Token) (r : Str × Int) (h : f16 ts = some r) : PureOK E 16 [.sl (List.map cToken ts)] (.tup [.v (.string (mkS r.1)), .v (.int .i64 r.2)]) := by
  unfold f16 at h
  refine pure_of_wp tabOK mixed (fn := Try.f16) (nt := 44) Try.func16 rfl rfl (names _ _ Try.func16) rfl rfl (fun _ => rfl) (fun base c00 hU => ?_)
  refine Wk.wp (s2 := ⟨.sl (List.map cToken ts) :: jj 43 [], St [], none, 0⟩) ?_ ?_
  · refine Wk.weak hU [] _ (by decide) .nil ?_
    simp only [jjs, List.length_cons, List.length_nil, Nat.reduceAdd, Nat.reduceSub, List.replicate, List.cons_append, List.nil_append]
    repeat' (first | exact WVs.nil | refine WVs.cons ?_ ?_)
    all_goals first | exact WV.junk _ | exact WV.keep rfl | exact .agg rfl (aggKeep rfl)
  refine Wp.seq <| Wp.region hU (f16_ci_ok _) rgI <| thenN <| Wp.seq <| Wp.region hU (f16_ci_ok _) rgI <| thenN <| Wp.seq <| Wp.seq <| Wp.region hU (f16_ci_ok _) rgI <| thenN <| Wp.block <| ?_
  obtain ⟨o1, ho1, h⟩ := bind_some h
  refine Wp.loop <| ?_
  refine Tw.mono (Wk.wpL (s2 := ⟨.sl (List.map cToken ts) :: jj 3 (.v (.int .i64 0) :: jj 5 (.sl (List.map cToken ts) :: .v (.int .i64 (ts.length : Int)) :: .v (.int .i64 0) :: jj 31 [])), St [], none, 0⟩) ?_ (f16_l0_ok ts hU 0 o1 ho1)) (fun ex s1 hp => ?_)
  · refine Wk.weak hU [] _ (by decide) ?_ ?_
    · exact .nil
    · exact wvI
  · cases o1 with
    | ret r0 =>
      obtain ⟨rfl, hp⟩ := hp
      obtain rfl := Option.some.inj h
      refine blkR <| thenR <| ?_
      exact ⟨.inl rfl, hp⟩
    | nxt wo1 =>
      obtain ⟨rfl, hp⟩ := hp
      dsimp only at h
      refine blkE <| thenN <| hp.wp <| Wp.seq <| Wp.region hU (f16_ci_ok _) rgI <| thenN <| ?_
      refine Wk.wp (s2 := ⟨.sl (List.map cToken ts) :: jj 3 (.v (.int .i64 0) :: jj 2 (.tptr 0 57 :: jj 36 [])), St [some ⟨2, false, false, [[.slf 0, .trow 1 5 0]]⟩, some ⟨1, false, true, []⟩], none, 0⟩) ?_ ?_
      · refine Wk.weak hU [some 0, none] _ (by decide) ?_ ?_
        · refine .obj rfl ?_ ?_
          · refine .mk ?_ (by simp only [bxm, leaf_ptr, leaf_slf, leaf_trow, leaf_tptr]) nofun
            refine .cons ?_ .nil
            exact wvI
          refine .virt ?_
          exact .nil
        · exact wvI
      refine Wp.seq <| Wp.seq <| Wp.region hU (f16_ci_ok _) rgI <| thenN <| Wp.block <| ?_
      obtain ⟨o6, ho6, h⟩ := bind_some h
      refine Wp.loop <| ?_
      refine Tw.mono (Wk.wpL (s2 := ⟨jj 4 (.v (.int .i64 0) :: jj 2 (.tptr 0 57 :: jj 12 (.sl (List.map cToken ts) :: .v (.int .i64 (ts.length : Int)) :: .v (.int .i64 0) :: jj 21 []))), St [some ⟨2, false, false, [[.slf 0, .trow 1 5 (0)]]⟩, some ⟨1, false, true, List.map (cInt .u8) []⟩], none, 0⟩) ?_ (f16_l1_ok ts hU 0 [] 0 o6 ho6)) (fun ex s1 hp => ?_)
      · refine Wk.weak hU [some 0, some 1] _ (by decide) ?_ ?_
        · refine .obj rfl ?_ ?_
          · refine .mk ?_ (by simp only [bxm, leaf_ptr, leaf_slf, leaf_trow, leaf_tptr]) nofun
            refine .cons ?_ .nil
            exact wvI
          refine .obj rfl ?_ ?_
          · exact woI
          exact .nil
        · exact wvI
      · cases o6 with
        | ret r0 =>
          obtain ⟨rfl, hp⟩ := hp
          obtain rfl := Option.some.inj h
          refine blkR <| thenR <| ?_
          exact ⟨.inl rfl, hp⟩
        | nxt wo6 =>
          obtain ⟨rfl, hp⟩ := hp
          dsimp only at h
          refine blkE <| thenN <| hp.wp <| Wp.seq <| ?_
          obtain ⟨r18, hr18, h⟩ := bind_some h
          have hr18c : CallOK E base 29 [.tptr 0 57] (St [some ⟨2, false, false, [[.slf 0, .trow 1 5 ((wo6).length)]]⟩, some ⟨1, false, true, List.map (cInt .u8) wo6⟩]) (.v (.string (mkS r18))) (St [some ⟨2, false, false, [[.slf 0, .trow 1 5 ((wo6).length)]]⟩, none]) (some 1) := f29_at base [some ⟨2, false, false, [[.slf 0, .trow 1 5 ((wo6).length)]]⟩, some ⟨1, false, true, List.map (cInt .u8) wo6⟩] 0 1 wo6 r18 hr18 rfl rfl
          refine Wp.region hU (rone_ok hr18c (f16_ci_ok _)) rgI <| thenN <| Wp.ret <| ?_
          obtain rfl := Option.some.inj h
          refine ⟨.inl rfl, ?_⟩
          refine Rt.of <| ?_
          have fx := i2 f16_res f16_rt
          exact rtI

noncomputable def f16_tbl : CI := tbl 16 (fun p : (List Token) => [.sl (List.map cToken p)]) (fun p => (f16 p).map fun r => .tup [.v (.string (mkS r.1)), .v (.int .i64 r.2)])
theorem f16_tbl_ok {base : Nat} : CIOK E base f16_tbl := tbl_ok fun p r h => by obtain ⟨q, hq, rfl⟩ := Option.map_eq_some_iff.1 h; exact f16_ok p q hq
theorem f16_call {ts : List Token} {r : Str × Int} (h : f16 ts = some r) (σ : Store) : f16_tbl 16 [.sl (List.map cToken ts)] σ = some (.tup [.v (.string (mkS r.1)), .v (.int .i64 r.2)], σ, none) :=
  tbl_eq (x := (ts)) (fun x y e => by
    exact av_sl injToken (List.cons.inj e).1) (by simp [h]) σ
end Go.Bx.Scan

/- sibyl/sibyllaw04.wakes, printed by pf.py. (Own text.) -/
namespace Go.Bx.Scan
set_option linter.unusedVariables false
set_option linter.unusedSimpArgs false
set_option linter.unusedSectionVars false
open Go.Proofs
set_option linter.unusedSimpArgs false
set_option linter.unusedVariables false
set_option maxRecDepth 10000
/-- sibyl/sibyllaw04.wakes -/
def f10  : Option (Bool) :=
  f11 [40, 97, 32, 46, 32, 39, 98, 41, 32, 59, 32, 120, 10, 45, 49, 47, 50] >>= fun r1 =>
  f11 [97, 32, 53, 120] >>= fun r2 =>
  if (r1.2.2 != 0) = true then
    (some false)
  else
    if (r1.2.1 != 0) = true then
      (some false)
    else
      if ((r1.1.length : Int) != 7) = true then
        (some false)
      else
        if (r2.2.2 != 40) = true then
          (some false)
        else
          if (r2.2.1 != 2) = true then
            (some false)
          else
            f16 r1.1 >>= fun r4 =>
            (if (r4.2 == 0) = true then
              (if (r4.1 == [40, 32, 97, 32, 46, 32, 39, 32, 98, 32, 41, 32, 45, 49, 47, 50]) = true then
                (rd r1.1 6 >>= fun e6 =>
                if (e6.Kind == 5) = true then
                  (if (e6.At == 13) = true then
                    (f14 [115, 101, 116, 45, 99, 97, 114, 33] >>= fun r7 =>
                    if r7 = true then
                      (f14 [49, 97] >>= fun r8 =>
                      some (!r8))
                    else
                      some false)
                  else
                    some false)
                else
                  some false)
              else
                some false)
            else
              some false : Option (Bool)) >>= fun o5 =>
            some o5

noncomputable def f10_ci : CI := (CI.or 11 f11_tbl (CI.or 16 f16_tbl (CI.or 14 f14_tbl (fun _ _ _ => none))))
theorem f10_ci_ok (base : Nat) : CIOK E base f10_ci := (or_ok f11_tbl_ok (or_ok f16_tbl_ok (or_ok f14_tbl_ok no_ok)))
theorem f10_res : Try.f10.results = #[.tmp 0] := rfl
theorem f10_rt : Try.f10.resultTypes = #[4] := rfl

set_option maxHeartbeats 4000000 in
theorem f10_ok  (r : Bool) (h : f10  = some r) : PureOK E 10 [] (.v (.bool r)) := by
  unfold f10 at h
  refine pure_of_wp tabOK mixed (fn := Try.f10) (nt := 70) Try.func10 rfl rfl (names _ _ Try.func10) rfl rfl (fun _ => rfl) (fun base c00 hU => ?_)
  refine Wk.wp (s2 := ⟨jj 70 [], St [], none, 0⟩) ?_ ?_
  · refine Wk.weak hU [] _ (by decide) .nil ?_
    simp only [jjs, List.length_cons, List.length_nil, Nat.reduceAdd, Nat.reduceSub, List.replicate, List.cons_append, List.nil_append]
    repeat' (first | exact WVs.nil | refine WVs.cons ?_ ?_)
    all_goals first | exact WV.junk _ | exact WV.keep rfl | exact .agg rfl (aggKeep rfl)
  refine Wp.seq <| Wp.region hU (f10_ci_ok _) rgI <| thenN <| Wp.seq <| ?_
  obtain ⟨r1, hr1, h⟩ := bind_some h
  have hr1c : ∀ σ, f10_ci 11 [.v (.string (mkS [40, 97, 32, 46, 32, 39, 98, 41, 32, 59, 32, 120, 10, 45, 49, 47, 50]))] σ = some (.tup [.own false 6 (List.map cToken r1.1), .v (.int .i64 r1.2.1), .v (.int .i64 r1.2.2)], σ, none) := fun σ => f11_call hr1 σ
  try simp only [List.map_cons, List.map_nil, cInt_eq, cBool_eq, cStr_eq, cSl_eq, tys] at hr1c
  have fx := hr1c
  refine Wp.region hU (f10_ci_ok _) rgIF <| thenN <| Wp.seq <| ?_
  obtain ⟨r2, hr2, h⟩ := bind_some h
  have hr2c : ∀ σ, f10_ci 11 [.v (.string (mkS [97, 32, 53, 120]))] σ = some (.tup [.own false 6 (List.map cToken r2.1), .v (.int .i64 r2.2.1), .v (.int .i64 r2.2.2)], σ, none) := fun σ => f11_call hr2 σ
  try simp only [List.map_cons, List.map_nil, cInt_eq, cBool_eq, cStr_eq, cSl_eq, tys] at hr2c
  have fx := hr2c
  refine Wp.region hU (f10_ci_ok _) rgIF <| thenN <| Wp.seq <| Wp.seq <| ?_
  rcases Bool.eq_false_or_eq_true (r1.2.2 != 0) with hg34 | hg34
  · rw [if_t hg34] at h
    have fx := hg34
    refine Wp.region hU (f10_ci_ok _) rgIF <| thenN <| ?_
    refine Wp.cond hU (t := true) rfl (fun _ => ?_) (fun hc => by cases hc)
    refine Wp.seq <| Wp.region hU (f10_ci_ok _) rgIF <| thenN <| Wp.ret <| thenR <| ?_
    obtain rfl := Option.some.inj h
    refine ⟨.inl rfl, ?_⟩
    refine Rt.of <| ?_
    have fx := i2 f10_res f10_rt
    exact rtI
  · rw [if_f hg34] at h
    rcases Bool.eq_false_or_eq_true (r1.2.1 != 0) with hg35 | hg35
    · rw [if_t hg35] at h
      have fx := i2 hg34 hg35
      refine Wp.region hU (f10_ci_ok _) rgIF <| thenN <| ?_
      refine Wp.cond hU (t := true) rfl (fun _ => ?_) (fun hc => by cases hc)
      refine Wp.seq <| Wp.region hU (f10_ci_ok _) rgIF <| thenN <| Wp.ret <| thenR <| ?_
      obtain rfl := Option.some.inj h
      refine ⟨.inl rfl, ?_⟩
      refine Rt.of <| ?_
      have fx := i2 f10_res f10_rt
      exact rtI
    · rw [if_f hg35] at h
      rcases Bool.eq_false_or_eq_true ((r1.1.length : Int) != 7) with hg36 | hg36
      · rw [if_t hg36] at h
        have fx := i3 hg34 hg35 hg36
        refine Wp.region hU (f10_ci_ok _) rgIF <| thenN <| ?_
        refine Wp.cond hU (t := true) rfl (fun _ => ?_) (fun hc => by cases hc)
        refine Wp.seq <| Wp.region hU (f10_ci_ok _) rgIF <| thenN <| Wp.ret <| thenR <| ?_
        obtain rfl := Option.some.inj h
        refine ⟨.inl rfl, ?_⟩
        refine Rt.of <| ?_
        have fx := i2 f10_res f10_rt
        exact rtI
      · rw [if_f hg36] at h
        rcases Bool.eq_false_or_eq_true (r2.2.2 != 40) with hg37 | hg37
        · rw [if_t hg37] at h
          have fx := i4 hg34 hg35 hg36 hg37
          refine Wp.region hU (f10_ci_ok _) rgIF <| thenN <| ?_
          refine Wp.cond hU (t := true) rfl (fun _ => ?_) (fun hc => by cases hc)
          refine Wp.seq <| Wp.region hU (f10_ci_ok _) rgIF <| thenN <| Wp.ret <| thenR <| ?_
          obtain rfl := Option.some.inj h
          refine ⟨.inl rfl, ?_⟩
          refine Rt.of <| ?_
          have fx := i2 f10_res f10_rt
          exact rtI
        · rw [if_f hg37] at h
          have fx := i4 hg34 hg35 hg36 hg37
          refine Wp.region hU (f10_ci_ok _) rgIF <| thenN <| ?_
          refine Wp.cond hU (t := r2.2.1 != 2) rfl (fun hc3 => ?_) (fun hc3 => ?_)
          · rw [if_t hc3] at h
            refine Wp.seq <| ?_
            have fx := i5 hg34 hg35 hg36 hg37 hc3
            refine Wp.region hU (f10_ci_ok _) rgIF <| thenN <| Wp.ret <| thenR <| ?_
            obtain rfl := Option.some.inj h
            refine ⟨.inl rfl, ?_⟩
            refine Rt.of <| ?_
            have fx := i2 f10_res f10_rt
            exact rtI
          · rw [if_f hc3] at h
            refine Wp.skip <| thenN <| Wp.seq <| ?_
            obtain ⟨r4, hr4, h⟩ := bind_some h
            have hr4c : ∀ σ, f10_ci 16 [.sl (List.map cToken r1.1)] σ = some (.tup [.v (.string (mkS r4.1)), .v (.int .i64 r4.2)], σ, none) := fun σ => f16_call hr4 σ
            have fx := i6 hr4c hg34 hg35 hg36 hg37 hc3
            refine Wp.region hU (f10_ci_ok _) rgIF <| thenN <| ?_
            obtain ⟨o5, ho5, h⟩ := bind_some h
            refine Wp.seq1 (JP := (fun ex s1 => ex = .nrm ∧ Wk base c00 nilStore s1 ⟨.v (.bool o5) :: jj 69 [], St [], none, 0⟩)) ?_ (fun ex s1 hp => ?_)
            · replace h := ho5
              rcases Bool.eq_false_or_eq_true (r4.2 == 0) with hg43 | hg43
              · rw [if_t hg43] at h
                rcases Bool.eq_false_or_eq_true (r4.1 == [40, 32, 97, 32, 46, 32, 39, 32, 98, 32, 41, 32, 45, 49, 47, 50]) with hg44 | hg44
                · rw [if_t hg44] at h
                  obtain ⟨e6, he6, h⟩ := bind_some h
                  obtain ⟨he6a, he6b, he6c⟩ := rd_some he6
                  rcases Bool.eq_false_or_eq_true (e6.Kind == 5) with hg45 | hg45
                  · rw [if_t hg45] at h
                    rcases Bool.eq_false_or_eq_true (e6.At == 13) with hg46 | hg46
                    · rw [if_t hg46] at h
                      obtain ⟨r7, hr7, h⟩ := bind_some h
                      have hr7c : ∀ σ, f10_ci 14 [.v (.string (mkS [115, 101, 116, 45, 99, 97, 114, 33]))] σ = some (.v (.bool r7), σ, none) := fun σ => f14_call hr7 σ
                      try simp only [List.map_cons, List.map_nil, cInt_eq, cBool_eq, cStr_eq, cSl_eq, tys] at hr7c
                      rcases Bool.eq_false_or_eq_true (r7) with hg47 | hg47
                      · rw [if_t hg47] at h
                        obtain ⟨r8, hr8, h⟩ := bind_some h
                        have hr8c : ∀ σ, f10_ci 14 [.v (.string (mkS [49, 97]))] σ = some (.v (.bool r8), σ, none) := fun σ => f14_call hr8 σ
                        try simp only [List.map_cons, List.map_nil, cInt_eq, cBool_eq, cStr_eq, cSl_eq, tys] at hr8c
                        have fx := i9 he6a he6b he6c hr7c hr8c hg34 hg35 hg36 (i7 hg37 hc3 hg43 hg44 hg45 hg46 hg47)
                        refine Wp.region hU (f10_ci_ok _) rgIF <| ?_
                        obtain rfl := Option.some.inj h
                        refine ⟨rfl, ?_⟩
                        refine Wk.weak hU [] _ (by decide) ?_ ?_
                        · exact .nil
                        · exact wvI
                      · rw [if_f hg47] at h
                        have fx := i9 he6a he6b he6c hr7c hg34 hg35 hg36 hg37 (i6 hc3 hg43 hg44 hg45 hg46 hg47)
                        refine Wp.region hU (f10_ci_ok _) rgIF <| ?_
                        obtain rfl := Option.some.inj h
                        refine ⟨rfl, ?_⟩
                        refine Wk.weak hU [] _ (by decide) ?_ ?_
                        · exact .nil
                        · exact wvI
                    · rw [if_f hg46] at h
                      have fx := i9 he6a he6b he6c hg34 hg35 hg36 hg37 hc3 (i4 hg43 hg44 hg45 hg46)
                      refine Wp.region hU (f10_ci_ok _) rgIF <| ?_
                      obtain rfl := Option.some.inj h
                      refine ⟨rfl, ?_⟩
                      refine Wk.weak hU [] _ (by decide) ?_ ?_
                      · exact .nil
                      · exact wvI
                  · rw [if_f hg45] at h
                    have fx := i9 he6a he6b he6c hg34 hg35 hg36 hg37 hc3 (i3 hg43 hg44 hg45)
                    refine Wp.region hU (f10_ci_ok _) rgIF <| ?_
                    obtain rfl := Option.some.inj h
                    refine ⟨rfl, ?_⟩
                    refine Wk.weak hU [] _ (by decide) ?_ ?_
                    · exact .nil
                    · exact wvI
                · rw [if_f hg44] at h
                  have fx := i7 hg34 hg35 hg36 hg37 hc3 hg43 hg44
                  refine Wp.region hU (f10_ci_ok _) rgIF <| ?_
                  obtain rfl := Option.some.inj h
                  refine ⟨rfl, ?_⟩
                  refine Wk.weak hU [] _ (by decide) ?_ ?_
                  · exact .nil
                  · exact wvI
              · rw [if_f hg43] at h
                have fx := i6 hg34 hg35 hg36 hg37 hc3 hg43
                refine Wp.region hU (f10_ci_ok _) rgIF <| ?_
                obtain rfl := Option.some.inj h
                refine ⟨rfl, ?_⟩
                refine Wk.weak hU [] _ (by decide) ?_ ?_
                · exact .nil
                · exact wvI
            · obtain ⟨rfl, hp⟩ := hp
              refine thenN (hp.wp ?_)
              refine Wp.ret <| ?_
              obtain rfl := Option.some.inj h
              refine ⟨.inl rfl, ?_⟩
              refine Rt.of <| ?_
              have fx := i2 f10_res f10_rt
              exact rtI

noncomputable def f10_tbl : CI := tbl 10 (fun p : Unit => []) (fun p => (f10 ).map fun r => .v (.bool r))
theorem f10_tbl_ok {base : Nat} : CIOK E base f10_tbl := tbl_ok fun p r h => by obtain ⟨q, hq, rfl⟩ := Option.map_eq_some_iff.1 h; exact f10_ok  q hq
theorem f10_call  {r : Bool} (h : f10  = some r) (σ : Store) : f10_tbl 10 [] σ = some (.v (.bool r), σ, none) :=
  tbl_eq (x := ()) (fun x y e => by
    rfl) (by simp [h]) σ
end Go.Bx.Scan

/- sibyl/sibyllaw04.ScanNames, printed by pf.py. (Own text.) -/
namespace Go.Bx.Scan
set_option linter.unusedVariables false
set_option linter.unusedSimpArgs false
set_option linter.unusedSectionVars false
open Go.Proofs
set_option linter.unusedSimpArgs false
set_option linter.unusedVariables false
set_option maxRecDepth 10000
/-- sibyl/sibyllaw04.ScanNames -/
def f4 (s : Str) : Option (Bool) :=
  f10 >>= fun r1 =>
  if (!r1) = true then
    (some false)
  else
    f14 s >>= fun r3 =>
    f15 s >>= fun r4 =>
    some (r3 == r4)

noncomputable def f4_ci : CI := (CI.or 10 f10_tbl (CI.or 14 f14_tbl (CI.or 15 f15_tbl (fun _ _ _ => none))))
theorem f4_ci_ok (base : Nat) : CIOK E base f4_ci := (or_ok f10_tbl_ok (or_ok f14_tbl_ok (or_ok f15_tbl_ok no_ok)))
theorem f4_res : Try.f4.results = #[.tmp 2] := rfl
theorem f4_rt : Try.f4.resultTypes = #[4] := rfl

set_option maxHeartbeats 4000000 in
theorem f4_ok (s : Str) (r : Bool) (h : f4 s = some r) : PureOK E 4 [.v (.string (mkS s))] (.v (.bool r)) := by
  unfold f4 at h
  refine pure_of_wp tabOK mixed (fn := Try.f4) (nt := 10) Try.func4 rfl rfl (names _ _ Try.func4) rfl rfl (fun _ => rfl) (fun base c00 hU => ?_)
  refine Wk.wp (s2 := ⟨.v (.string (mkS s)) :: jj 9 [], St [], none, 0⟩) ?_ ?_
  · refine Wk.weak hU [] _ (by decide) .nil ?_
    simp only [jjs, List.length_cons, List.length_nil, Nat.reduceAdd, Nat.reduceSub, List.replicate, List.cons_append, List.nil_append]
    repeat' (first | exact WVs.nil | refine WVs.cons ?_ ?_)
    all_goals first | exact WV.junk _ | exact WV.keep rfl | exact .agg rfl (aggKeep rfl)
  refine Wp.seq <| Wp.region hU (f4_ci_ok _) rgI <| thenN <| Wp.seq <| Wp.seq <| ?_
  obtain ⟨r1, hr1, h⟩ := bind_some h
  have hr1c : ∀ σ, f4_ci 10 [] σ = some (.v (.bool r1), σ, none) := fun σ => f10_call hr1 σ
  have fx := hr1c
  refine Wp.region hU (f4_ci_ok _) rgIF <| thenN <| ?_
  refine Wp.cond hU (t := !r1) rfl (fun hc2 => ?_) (fun hc2 => ?_)
  · rw [if_t hc2] at h
    refine Wp.seq <| ?_
    have fx := hc2
    refine Wp.region hU (f4_ci_ok _) rgIF <| thenN <| Wp.ret <| thenR <| ?_
    obtain rfl := Option.some.inj h
    refine ⟨.inl rfl, ?_⟩
    refine Rt.of <| ?_
    have fx := i2 f4_res f4_rt
    exact rtI
  · rw [if_f hc2] at h
    refine Wp.skip <| thenN <| Wp.seq <| ?_
    obtain ⟨r3, hr3, h⟩ := bind_some h
    have hr3c : ∀ σ, f4_ci 14 [.v (.string (mkS s))] σ = some (.v (.bool r3), σ, none) := fun σ => f14_call hr3 σ
    obtain ⟨r4, hr4, h⟩ := bind_some h
    have hr4c : ∀ σ, f4_ci 15 [.v (.string (mkS s))] σ = some (.v (.bool r4), σ, none) := fun σ => f15_call hr4 σ
    have fx := i3 hr3c hr4c hc2
    refine Wp.region hU (f4_ci_ok _) rgIF <| thenN <| Wp.ret <| ?_
    obtain rfl := Option.some.inj h
    refine ⟨.inl rfl, ?_⟩
    refine Rt.of <| ?_
    have fx := i2 f4_res f4_rt
    exact rtI

noncomputable def f4_tbl : CI := tbl 4 (fun p : Str => [.v (.string (mkS p))]) (fun p => (f4 p).map fun r => .v (.bool r))
theorem f4_tbl_ok {base : Nat} : CIOK E base f4_tbl := tbl_ok fun p r h => by obtain ⟨q, hq, rfl⟩ := Option.map_eq_some_iff.1 h; exact f4_ok p q hq
theorem f4_call {s : Str} {r : Bool} (h : f4 s = some r) (σ : Store) : f4_tbl 4 [.v (.string (mkS s))] σ = some (.v (.bool r), σ, none) :=
  tbl_eq (x := (s)) (fun x y e => by
    exact av_str (List.cons.inj e).1) (by simp [h]) σ
end Go.Bx.Scan
