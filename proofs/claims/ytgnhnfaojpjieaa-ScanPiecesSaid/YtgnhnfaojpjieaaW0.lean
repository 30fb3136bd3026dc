/- What the program's functions compute, shown of their code (W0). Own text; parts are printed by a program of this claim's author. -/
import Derived.Test.YtgnhnfaojpjieaaBc
import Derived.Test.YtgnhnfaojpjieaaChecked
import Derived.Test.YtgnhnfaojpjieaaShelf
import Derived.WalkKit
import Derived.Laws.RangeAny
import Derived.Laws.Runes
import Derived.WalkMore
import Derived.Deep.QuietTactic
import Derived.BigQuiet
import Derived.Deep.LoopGhost
import Derived.Lib.OthersKept
/- The table of the types, printed by pf.py. (Own text.) -/
namespace Go.Bx.Scan
set_option linter.unusedVariables false
set_option linter.unusedSimpArgs false
set_option linter.unusedSectionVars false
open Go.Proofs
def tab : Tab
  | 2 => some { desc := .int .i64, sz := 1, bytes := 8, zero := [.int .i64 0], eq := false, lv := [none] }
  | 3 => some { desc := .int .i64, sz := 1, bytes := 8, zero := [.int .i64 0], eq := false, lv := [none] }
  | 4 => some { desc := .bool, sz := 1, bytes := 1, zero := [.bool false], eq := false, lv := [none] }
  | 5 => some { desc := .int .u8, sz := 1, bytes := 1, zero := [.int .u8 0], eq := false, lv := [none] }
  | 9 => some { desc := .str, sz := 1, bytes := 16, zero := [.string ByteArray.empty], eq := false, lv := [none] }
  | 23 => some { desc := .slice 40, sz := 1, bytes := 24, zero := [.slice none 0 0], eq := false, lv := [some 6] }
  | 24 => some { desc := .int .i64, sz := 1, bytes := 8, zero := [.int .i64 0], eq := false, lv := [none] }
  | 36 => some { desc := .slice 42, sz := 1, bytes := 24, zero := [.slice none 0 0], eq := false, lv := [some 1] }
  | 38 => some { desc := .struct [(0, 4), (1, 36), (2, 36)], sz := 3, bytes := 56, zero := [.bool false, .slice none 0 0, .slice none 0 0], eq := false, lv := [none, some 1, some 1] }
  | 40 => some { desc := .struct [(0, 3), (1, 9), (2, 38), (5, 3)], sz := 6, bytes := 88, zero := [.int .i64 0, .string ByteArray.empty, .bool false, .slice none 0 0, .slice none 0 0, .int .i64 0], eq := false, lv := [none, none, none, some 1, some 1, none] }
  | 42 => some { desc := .int .u32, sz := 1, bytes := 4, zero := [.int .u32 0], eq := false, lv := [none] }
  | 54 => some { desc := .ptr 57, sz := 1, bytes := 8, zero := [.pointer none], eq := false, lv := [none] }
  | 55 => some { desc := .slice 5, sz := 1, bytes := 24, zero := [.slice none 0 0], eq := false, lv := [some 1] }
  | 57 => some { desc := .struct [(0, 54), (1, 55)], sz := 2, bytes := 32, zero := [.pointer none, .slice none 0 0], eq := false, lv := [none, some 1], tp := true }
  | 88 => some { desc := .int .u64, sz := 1, bytes := 8, zero := [.int .u64 0], eq := false, lv := [none] }
  | 104 => some { desc := .int .u64, sz := 1, bytes := 8, zero := [.int .u64 0], eq := false, lv := [none] }
  | _ => none
theorem tab2 : tab 2 = some { desc := .int .i64, sz := 1, bytes := 8, zero := [.int .i64 0], eq := false, lv := [none] } := rfl
theorem tab3 : tab 3 = some { desc := .int .i64, sz := 1, bytes := 8, zero := [.int .i64 0], eq := false, lv := [none] } := rfl
theorem tab4 : tab 4 = some { desc := .bool, sz := 1, bytes := 1, zero := [.bool false], eq := false, lv := [none] } := rfl
theorem tab5 : tab 5 = some { desc := .int .u8, sz := 1, bytes := 1, zero := [.int .u8 0], eq := false, lv := [none] } := rfl
theorem tab9 : tab 9 = some { desc := .str, sz := 1, bytes := 16, zero := [.string ByteArray.empty], eq := false, lv := [none] } := rfl
theorem tab23 : tab 23 = some { desc := .slice 40, sz := 1, bytes := 24, zero := [.slice none 0 0], eq := false, lv := [some 6] } := rfl
theorem tab24 : tab 24 = some { desc := .int .i64, sz := 1, bytes := 8, zero := [.int .i64 0], eq := false, lv := [none] } := rfl
theorem tab36 : tab 36 = some { desc := .slice 42, sz := 1, bytes := 24, zero := [.slice none 0 0], eq := false, lv := [some 1] } := rfl
theorem tab38 : tab 38 = some { desc := .struct [(0, 4), (1, 36), (2, 36)], sz := 3, bytes := 56, zero := [.bool false, .slice none 0 0, .slice none 0 0], eq := false, lv := [none, some 1, some 1] } := rfl
theorem tab40 : tab 40 = some { desc := .struct [(0, 3), (1, 9), (2, 38), (5, 3)], sz := 6, bytes := 88, zero := [.int .i64 0, .string ByteArray.empty, .bool false, .slice none 0 0, .slice none 0 0, .int .i64 0], eq := false, lv := [none, none, none, some 1, some 1, none] } := rfl
theorem tab42 : tab 42 = some { desc := .int .u32, sz := 1, bytes := 4, zero := [.int .u32 0], eq := false, lv := [none] } := rfl
theorem tab54 : tab 54 = some { desc := .ptr 57, sz := 1, bytes := 8, zero := [.pointer none], eq := false, lv := [none] } := rfl
theorem tab55 : tab 55 = some { desc := .slice 5, sz := 1, bytes := 24, zero := [.slice none 0 0], eq := false, lv := [some 1] } := rfl
theorem tab57 : tab 57 = some { desc := .struct [(0, 54), (1, 55)], sz := 2, bytes := 32, zero := [.pointer none, .slice none 0 0], eq := false, lv := [none, some 1], tp := true } := rfl
theorem tab88 : tab 88 = some { desc := .int .u64, sz := 1, bytes := 8, zero := [.int .u64 0], eq := false, lv := [none] } := rfl
theorem tab104 : tab 104 = some { desc := .int .u64, sz := 1, bytes := 8, zero := [.int .u64 0], eq := false, lv := [none] } := rfl
theorem tabOK : TabOK Try.prog tab := by
  intro t r h
  unfold tab at h
  split at h
  · cases h; exact RowOK.of Try.underlying2 rfl (z := (.int .i64 0)) (by kernel_rfl) rfl rfl (fun h => by cases h)
  · cases h; exact RowOK.of Try.underlying3 rfl (z := (.int .i64 0)) (by kernel_rfl) rfl rfl (fun h => by cases h)
  · cases h; exact RowOK.of Try.underlying4 rfl (z := (.bool false)) (by kernel_rfl) rfl rfl (fun h => by cases h)
  · cases h; exact RowOK.of Try.underlying5 rfl (z := (.int .u8 0)) (by kernel_rfl) rfl rfl (fun h => by cases h)
  · cases h; exact RowOK.of Try.underlying9 rfl (z := (.string ByteArray.empty)) (by kernel_rfl) rfl rfl (fun h => by cases h)
  · cases h; exact RowOK.of Try.underlying23 rfl (z := (.slice none 0 0)) (by kernel_rfl) rfl rfl (fun h => by cases h)
  · cases h; exact RowOK.of Try.underlying24 rfl (z := (.int .i64 0)) (by kernel_rfl) rfl rfl (fun h => by cases h)
  · cases h; exact RowOK.of Try.underlying36 rfl (z := (.slice none 0 0)) (by kernel_rfl) rfl rfl (fun h => by cases h)
  · cases h; exact RowOK.of Try.underlying38 ⟨_, rfl, rfl⟩ (z := .agg #[.bool false, .slice none 0 0, .slice none 0 0]) (by kernel_rfl) rfl rfl (fun h => by cases h)
  · cases h; exact RowOK.of Try.underlying40 ⟨_, rfl, rfl⟩ (z := .agg #[.int .i64 0, .string ByteArray.empty, .bool false, .slice none 0 0, .slice none 0 0, .int .i64 0]) (by kernel_rfl) rfl rfl (fun h => by cases h)
  · cases h; exact RowOK.of Try.underlying42 rfl (z := (.int .u32 0)) (by kernel_rfl) rfl rfl (fun h => by cases h)
  · cases h; exact RowOK.of Try.underlying54 rfl (z := (.pointer none)) (by kernel_rfl) rfl rfl (fun h => by cases h)
  · cases h; exact RowOK.of Try.underlying55 rfl (z := (.slice none 0 0)) (by kernel_rfl) rfl rfl (fun h => by cases h)
  · cases h; exact RowOK.of Try.underlying57 ⟨_, rfl, rfl⟩ (z := .agg #[.pointer none, .slice none 0 0]) (by kernel_rfl) rfl rfl (fun h => by cases h)
  · cases h; exact RowOK.of Try.underlying88 rfl (z := (.int .u64 0)) (by kernel_rfl) rfl rfl (fun h => by cases h)
  · cases h; exact RowOK.of Try.underlying104 rfl (z := (.int .u64 0)) (by kernel_rfl) rfl rfl (fun h => by cases h)
  · cases h
theorem tabs : (((((tab 2 = some { desc := .int .i64, sz := 1, bytes := 8, zero := [.int .i64 0], eq := false, lv := [none] }) ∧ (tab 3 = some { desc := .int .i64, sz := 1, bytes := 8, zero := [.int .i64 0], eq := false, lv := [none] })) ∧ ((tab 4 = some { desc := .bool, sz := 1, bytes := 1, zero := [.bool false], eq := false, lv := [none] }) ∧ (tab 5 = some { desc := .int .u8, sz := 1, bytes := 1, zero := [.int .u8 0], eq := false, lv := [none] }))) ∧ (((tab 9 = some { desc := .str, sz := 1, bytes := 16, zero := [.string ByteArray.empty], eq := false, lv := [none] }) ∧ (tab 23 = some { desc := .slice 40, sz := 1, bytes := 24, zero := [.slice none 0 0], eq := false, lv := [some 6] })) ∧ ((tab 24 = some { desc := .int .i64, sz := 1, bytes := 8, zero := [.int .i64 0], eq := false, lv := [none] }) ∧ (tab 36 = some { desc := .slice 42, sz := 1, bytes := 24, zero := [.slice none 0 0], eq := false, lv := [some 1] })))) ∧ ((((tab 38 = some { desc := .struct [(0, 4), (1, 36), (2, 36)], sz := 3, bytes := 56, zero := [.bool false, .slice none 0 0, .slice none 0 0], eq := false, lv := [none, some 1, some 1] }) ∧ (tab 40 = some { desc := .struct [(0, 3), (1, 9), (2, 38), (5, 3)], sz := 6, bytes := 88, zero := [.int .i64 0, .string ByteArray.empty, .bool false, .slice none 0 0, .slice none 0 0, .int .i64 0], eq := false, lv := [none, none, none, some 1, some 1, none] })) ∧ ((tab 42 = some { desc := .int .u32, sz := 1, bytes := 4, zero := [.int .u32 0], eq := false, lv := [none] }) ∧ (tab 54 = some { desc := .ptr 57, sz := 1, bytes := 8, zero := [.pointer none], eq := false, lv := [none] }))) ∧ (((tab 55 = some { desc := .slice 5, sz := 1, bytes := 24, zero := [.slice none 0 0], eq := false, lv := [some 1] }) ∧ (tab 57 = some { desc := .struct [(0, 54), (1, 55)], sz := 2, bytes := 32, zero := [.pointer none, .slice none 0 0], eq := false, lv := [none, some 1], tp := true })) ∧ ((tab 88 = some { desc := .int .u64, sz := 1, bytes := 8, zero := [.int .u64 0], eq := false, lv := [none] }) ∧ (tab 104 = some { desc := .int .u64, sz := 1, bytes := 8, zero := [.int .u64 0], eq := false, lv := [none] }))))) := (And.intro (And.intro (And.intro (And.intro (tab2) (tab3)) (And.intro (tab4) (tab5))) (And.intro (And.intro (tab9) (tab23)) (And.intro (tab24) (tab36)))) (And.intro (And.intro (And.intro (tab38) (tab40)) (And.intro (tab42) (tab54))) (And.intro (And.intro (tab55) (tab57)) (And.intro (tab88) (tab104)))))
structure Ratio where
  Neg : Bool
  Num : List Int
  Den : List Int
  deriving DecidableEq
def cRatio (x : Ratio) : Cs := [.v (.bool x.Neg), .sl (List.map (cInt .u32) x.Num), .sl (List.map (cInt .u32) x.Den)]
theorem cRatio_eq (x : Ratio) : cRatio x = [.v (.bool x.Neg), .sl (List.map (cInt .u32) x.Num), .sl (List.map (cInt .u32) x.Den)] := rfl
theorem lenRatio (l : List Ratio) : ((l.map cRatio).all fun e => e.length == 3) = true := all_len (c := cRatio) (n := 3) (fun _ => rfl) l
theorem plRatio (x : Ratio) : (cRatio x).all pl = true := rfl
theorem injRatio (x y : Ratio) (h : cRatio x = cRatio y) : x = y := by
  cases x; cases y
  simp only [cRatio_eq, List.cons.injEq, AV.v.injEq, Value.int.injEq, Value.bool.injEq, Value.string.injEq, AV.sl.injEq, mkS_eq, true_and, and_true] at h
  obtain ⟨h0, h1, h2⟩ := h
  have h1 := inj_map inj_int _ _ h1
  have h2 := inj_map inj_int _ _ h2
  simp only [Ratio.mk.injEq]; exact ⟨h0, h1, h2⟩
theorem ext_Ratio {x y : Ratio} (h0 : x.Neg = y.Neg) (h1 : x.Num = y.Num) (h2 : x.Den = y.Den) : x = y := by cases x; cases y; simp_all
structure Token where
  Kind : Int
  Text : Str
  N : Ratio
  At : Int
  deriving DecidableEq
def cToken (x : Token) : Cs := [.v (.int .i64 x.Kind), .v (.string (mkS x.Text)), .v (.bool x.N.Neg), .sl (List.map (cInt .u32) x.N.Num), .sl (List.map (cInt .u32) x.N.Den), .v (.int .i64 x.At)]
theorem cToken_eq (x : Token) : cToken x = [.v (.int .i64 x.Kind), .v (.string (mkS x.Text)), .v (.bool x.N.Neg), .sl (List.map (cInt .u32) x.N.Num), .sl (List.map (cInt .u32) x.N.Den), .v (.int .i64 x.At)] := rfl
theorem lenToken (l : List Token) : ((l.map cToken).all fun e => e.length == 6) = true := all_len (c := cToken) (n := 6) (fun _ => rfl) l
theorem plToken (x : Token) : (cToken x).all pl = true := rfl
theorem injToken (x y : Token) (h : cToken x = cToken y) : x = y := by
  cases x; cases y
  simp only [cToken_eq, List.cons.injEq, AV.v.injEq, Value.int.injEq, Value.bool.injEq, Value.string.injEq, AV.sl.injEq, mkS_eq, true_and, and_true] at h
  obtain ⟨h0, h1, h2, h3, h4, h5⟩ := h
  have h3 := inj_map inj_int _ _ h3
  have h4 := inj_map inj_int _ _ h4
  simp only [Token.mk.injEq]
  exact ⟨h0, h1, ext_Ratio h2 h3 h4, h5⟩
theorem ext_Token {x y : Token} (h0 : x.Kind = y.Kind) (h1 : x.Text = y.Text) (h2 : x.N = y.N) (h3 : x.At = y.At) : x = y := by cases x; cases y; simp_all
theorem tys : (((∀ (x : Ratio), cRatio x = [.v (.bool x.Neg), .sl (List.map (cInt .u32) x.Num), .sl (List.map (cInt .u32) x.Den)]) ∧ (∀ (l : List Ratio), ((l.map cRatio).all fun e => e.length == 3) = true)) ∧ ((∀ (x : Token), cToken x = [.v (.int .i64 x.Kind), .v (.string (mkS x.Text)), .v (.bool x.N.Neg), .sl (List.map (cInt .u32) x.N.Num), .sl (List.map (cInt .u32) x.N.Den), .v (.int .i64 x.At)]) ∧ (∀ (l : List Token), ((l.map cToken).all fun e => e.length == 6) = true))) := (And.intro (And.intro (@cRatio_eq) (@lenRatio)) (And.intro (@cToken_eq) (@lenToken)))
noncomputable def E : Env := ⟨Try.prog, tab, fun _ => .junk, fun _ _ _ => none, fun f i => (f == 20 && i == 0) || (f == 20 && i == 2) || (f == 27 && i == 0) || (f == 28 && i == 0) || (f == 29 && i == 0) || (f == 39 && i == 0) || (f == 61 && i == 0) || (f == 77 && i == 0)⟩
theorem E_T : E.T = tab := rfl
theorem E_gl : E.gl = fun _ => .junk := rfl
theorem mixed : Try.prog.follows .mixedOrders = true := by kernel_rfl
theorem names : ∀ (f : Nat) fn, Try.prog.funcs[f]? = some fn → fn.name ≠ "runtime.NumGoroutine" := by
  have h : (Try.prog.funcs.all fun fn => fn.name != "runtime.NumGoroutine") = true := by kernel_rfl
  intro f fn hf
  have := Array.all_eq_true_iff_forall_mem.1 h fn (Array.mem_of_getElem? hf)
  simpa using this
theorem brs : (((((((∀ i, E.br 2 i = false) ∧ ((∀ i, E.br 3 i = false) ∧ (∀ i, E.br 4 i = false))) ∧ ((∀ i, E.br 5 i = false) ∧ ((∀ i, E.br 6 i = false) ∧ (∀ i, E.br 7 i = false)))) ∧ (((∀ i, E.br 8 i = false) ∧ ((∀ i, E.br 9 i = false) ∧ (∀ i, E.br 10 i = false))) ∧ ((∀ i, E.br 11 i = false) ∧ ((∀ i, E.br 12 i = false) ∧ (∀ i, E.br 13 i = false))))) ∧ ((((∀ i, E.br 14 i = false) ∧ ((∀ i, E.br 15 i = false) ∧ (∀ i, E.br 16 i = false))) ∧ ((∀ i, E.br 17 i = false) ∧ ((∀ i, E.br 18 i = false) ∧ (∀ i, E.br 19 i = false)))) ∧ (((E.br 20 0 = true) ∧ ((E.br 20 1 = false) ∧ (E.br 20 2 = true))) ∧ (((E.br 20 3 = false) ∧ (E.br 20 4 = false)) ∧ ((E.br 20 5 = false) ∧ (∀ i, E.br 21 i = false)))))) ∧ (((((∀ i, E.br 22 i = false) ∧ ((∀ i, E.br 23 i = false) ∧ (∀ i, E.br 24 i = false))) ∧ ((∀ i, E.br 25 i = false) ∧ ((∀ i, E.br 26 i = false) ∧ (E.br 27 0 = true)))) ∧ (((E.br 27 1 = false) ∧ ((E.br 27 2 = false) ∧ (E.br 27 3 = false))) ∧ (((E.br 27 4 = false) ∧ (E.br 28 0 = true)) ∧ ((E.br 28 1 = false) ∧ (E.br 28 2 = false))))) ∧ ((((E.br 28 3 = false) ∧ ((E.br 28 4 = false) ∧ (E.br 29 0 = true))) ∧ ((E.br 29 1 = false) ∧ ((E.br 29 2 = false) ∧ (E.br 29 3 = false)))) ∧ (((∀ i, E.br 30 i = false) ∧ ((∀ i, E.br 31 i = false) ∧ (∀ i, E.br 32 i = false))) ∧ (((∀ i, E.br 33 i = false) ∧ (∀ i, E.br 34 i = false)) ∧ ((∀ i, E.br 35 i = false) ∧ (∀ i, E.br 36 i = false))))))) ∧ ((((((∀ i, E.br 37 i = false) ∧ ((∀ i, E.br 38 i = false) ∧ (E.br 39 0 = true))) ∧ ((E.br 39 1 = false) ∧ ((E.br 39 2 = false) ∧ (E.br 39 3 = false)))) ∧ (((∀ i, E.br 41 i = false) ∧ ((∀ i, E.br 42 i = false) ∧ (∀ i, E.br 43 i = false))) ∧ (((∀ i, E.br 44 i = false) ∧ (∀ i, E.br 45 i = false)) ∧ ((∀ i, E.br 46 i = false) ∧ (∀ i, E.br 47 i = false))))) ∧ ((((∀ i, E.br 48 i = false) ∧ ((∀ i, E.br 50 i = false) ∧ (∀ i, E.br 51 i = false))) ∧ ((∀ i, E.br 53 i = false) ∧ ((∀ i, E.br 54 i = false) ∧ (∀ i, E.br 55 i = false)))) ∧ (((∀ i, E.br 56 i = false) ∧ ((∀ i, E.br 57 i = false) ∧ (∀ i, E.br 58 i = false))) ∧ (((∀ i, E.br 59 i = false) ∧ (∀ i, E.br 60 i = false)) ∧ ((E.br 61 0 = true) ∧ (E.br 61 1 = false)))))) ∧ (((((E.br 61 2 = false) ∧ ((E.br 61 3 = false) ∧ (E.br 61 4 = false))) ∧ ((∀ i, E.br 62 i = false) ∧ ((∀ i, E.br 63 i = false) ∧ (∀ i, E.br 64 i = false)))) ∧ (((∀ i, E.br 65 i = false) ∧ ((∀ i, E.br 66 i = false) ∧ (∀ i, E.br 67 i = false))) ∧ (((∀ i, E.br 68 i = false) ∧ (∀ i, E.br 69 i = false)) ∧ ((∀ i, E.br 70 i = false) ∧ (∀ i, E.br 71 i = false))))) ∧ ((((∀ i, E.br 72 i = false) ∧ ((∀ i, E.br 73 i = false) ∧ (∀ i, E.br 74 i = false))) ∧ ((∀ i, E.br 75 i = false) ∧ ((∀ i, E.br 76 i = false) ∧ (E.br 77 0 = true)))) ∧ (((E.br 77 1 = false) ∧ ((E.br 77 2 = false) ∧ (E.br 77 3 = false))) ∧ (((E.br 77 4 = false) ∧ (∀ i, E.br 78 i = false)) ∧ ((∀ i, E.br 79 i = false) ∧ (∀ i, E.br 80 i = false)))))))) := ⟨⟨⟨⟨⟨⟨(fun _ => rfl), ⟨(fun _ => rfl), (fun _ => rfl)⟩⟩, ⟨(fun _ => rfl), ⟨(fun _ => rfl), (fun _ => rfl)⟩⟩⟩, ⟨⟨(fun _ => rfl), ⟨(fun _ => rfl), (fun _ => rfl)⟩⟩, ⟨(fun _ => rfl), ⟨(fun _ => rfl), (fun _ => rfl)⟩⟩⟩⟩, ⟨⟨⟨(fun _ => rfl), ⟨(fun _ => rfl), (fun _ => rfl)⟩⟩, ⟨(fun _ => rfl), ⟨(fun _ => rfl), (fun _ => rfl)⟩⟩⟩, ⟨⟨rfl, ⟨rfl, rfl⟩⟩, ⟨⟨rfl, rfl⟩, ⟨rfl, (fun _ => rfl)⟩⟩⟩⟩⟩, ⟨⟨⟨⟨(fun _ => rfl), ⟨(fun _ => rfl), (fun _ => rfl)⟩⟩, ⟨(fun _ => rfl), ⟨(fun _ => rfl), rfl⟩⟩⟩, ⟨⟨rfl, ⟨rfl, rfl⟩⟩, ⟨⟨rfl, rfl⟩, ⟨rfl, rfl⟩⟩⟩⟩, ⟨⟨⟨rfl, ⟨rfl, rfl⟩⟩, ⟨rfl, ⟨rfl, rfl⟩⟩⟩, ⟨⟨(fun _ => rfl), ⟨(fun _ => rfl), (fun _ => rfl)⟩⟩, ⟨⟨(fun _ => rfl), (fun _ => rfl)⟩, ⟨(fun _ => rfl), (fun _ => rfl)⟩⟩⟩⟩⟩⟩, ⟨⟨⟨⟨⟨(fun _ => rfl), ⟨(fun _ => rfl), rfl⟩⟩, ⟨rfl, ⟨rfl, rfl⟩⟩⟩, ⟨⟨(fun _ => rfl), ⟨(fun _ => rfl), (fun _ => rfl)⟩⟩, ⟨⟨(fun _ => rfl), (fun _ => rfl)⟩, ⟨(fun _ => rfl), (fun _ => rfl)⟩⟩⟩⟩, ⟨⟨⟨(fun _ => rfl), ⟨(fun _ => rfl), (fun _ => rfl)⟩⟩, ⟨(fun _ => rfl), ⟨(fun _ => rfl), (fun _ => rfl)⟩⟩⟩, ⟨⟨(fun _ => rfl), ⟨(fun _ => rfl), (fun _ => rfl)⟩⟩, ⟨⟨(fun _ => rfl), (fun _ => rfl)⟩, ⟨rfl, rfl⟩⟩⟩⟩⟩, ⟨⟨⟨⟨rfl, ⟨rfl, rfl⟩⟩, ⟨(fun _ => rfl), ⟨(fun _ => rfl), (fun _ => rfl)⟩⟩⟩, ⟨⟨(fun _ => rfl), ⟨(fun _ => rfl), (fun _ => rfl)⟩⟩, ⟨⟨(fun _ => rfl), (fun _ => rfl)⟩, ⟨(fun _ => rfl), (fun _ => rfl)⟩⟩⟩⟩, ⟨⟨⟨(fun _ => rfl), ⟨(fun _ => rfl), (fun _ => rfl)⟩⟩, ⟨(fun _ => rfl), ⟨(fun _ => rfl), rfl⟩⟩⟩, ⟨⟨rfl, ⟨rfl, rfl⟩⟩, ⟨⟨rfl, (fun _ => rfl)⟩, ⟨(fun _ => rfl), (fun _ => rfl)⟩⟩⟩⟩⟩⟩⟩
theorem nofx : (true && true) = true := rfl
theorem slk : (∀ {α : Type} (c : α → Cs) (l : List α) (n : Nat), slice (l.map c) 0 n = (l.take n).map c) ∧ (∀ {α : Type} (l : List α), l.take l.length = l) := ⟨slice_take, fun _ => List.take_length⟩
-- tactics that stand once
section
variable {p q r s t u v w x y z : Prop}
theorem i2 (h0 : p) (h1 : q) : p ∧ q := ⟨h0, h1⟩
theorem i3 (h0 : p) (h1 : q) (h2 : r) : p ∧ q ∧ r := ⟨h0, ⟨h1, h2⟩⟩
theorem i4 (h0 : p) (h1 : q) (h2 : r) (h3 : s) : p ∧ q ∧ r ∧ s := ⟨h0, ⟨h1, ⟨h2, h3⟩⟩⟩
theorem i5 (h0 : p) (h1 : q) (h2 : r) (h3 : s) (h4 : t) : p ∧ q ∧ r ∧ s ∧ t := ⟨h0, ⟨h1, ⟨h2, ⟨h3, h4⟩⟩⟩⟩
theorem i6 (h0 : p) (h1 : q) (h2 : r) (h3 : s) (h4 : t) (h5 : u) : p ∧ q ∧ r ∧ s ∧ t ∧ u := ⟨h0, ⟨h1, ⟨h2, ⟨h3, ⟨h4, h5⟩⟩⟩⟩⟩
theorem i7 (h0 : p) (h1 : q) (h2 : r) (h3 : s) (h4 : t) (h5 : u) (h6 : v) : p ∧ q ∧ r ∧ s ∧ t ∧ u ∧ v := ⟨h0, ⟨h1, ⟨h2, ⟨h3, ⟨h4, ⟨h5, h6⟩⟩⟩⟩⟩⟩
theorem i8 (h0 : p) (h1 : q) (h2 : r) (h3 : s) (h4 : t) (h5 : u) (h6 : v) (h7 : w) : p ∧ q ∧ r ∧ s ∧ t ∧ u ∧ v ∧ w := ⟨h0, ⟨h1, ⟨h2, ⟨h3, ⟨h4, ⟨h5, ⟨h6, h7⟩⟩⟩⟩⟩⟩⟩
theorem i9 (h0 : p) (h1 : q) (h2 : r) (h3 : s) (h4 : t) (h5 : u) (h6 : v) (h7 : w) (h8 : x) : p ∧ q ∧ r ∧ s ∧ t ∧ u ∧ v ∧ w ∧ x := ⟨h0, ⟨h1, ⟨h2, ⟨h3, ⟨h4, ⟨h5, ⟨h6, ⟨h7, h8⟩⟩⟩⟩⟩⟩⟩⟩
theorem rgI (h : p := by simp (decide := true) (disch := (first | omega | (simp only [List.length_append, List.length_map, List.length_cons, List.length_nil]; omega))) only [evOp, putTm, jjs, reduceIte, E_T, E_gl, brs, tdesc, reduceCtorEq, Nat.reduceAdd, Nat.reduceSub, Nat.reduceLT, Nat.reduceLeDiff, Nat.reduceEqDiff, bxm, bxk, tabs, evBin, eqAV, bothNil, constOp, eqCells, evUn, evLoad, ldV, ofCells, TD.isAgg, evStore, putAt, indexAddrAV, evA.eq_17, fieldPlaceT, evA.eq_4, fillL, evA.eq_15, sliceAV, boundAV, evA.eq_22, lenAV, evAppend, elemsT, elems, flatOf, byteCells_mkS, evCall, lendL, lendIds, mapO, importL, import2L, import1, import2, share, fresh1, freshL, evA.eq_5, evA.eq_23, evA.eq_24, evA.eq_8, evA.eq_12, evA.eq_11, evA.eq_14, evA.eq_13, tys]; rfl) : p := h
theorem rtI (h : p := by simp (decide := true) only [jjs, reduceIte, evReturn, retShare, evReturn0, resAV, evLoad, ofCells, TD.isAgg, mapO, exportVs, exportV, exportL, export1, rowsOf, rowOf, innerIds, rowIds, one, closed, share, fresh1, E_T, reduceCtorEq, Nat.reduceAdd, Nat.reduceSub, Nat.reduceLT, Nat.reduceLeDiff, Nat.reduceEqDiff, bxm, tabs, List.map_append, tys, fx]) : p := h
theorem wvI (h : p := by (try simp only [jjs]); (repeat' (first | exact WVs.nil | refine WVs.cons ?_ ?_ | (refine WVs.aggW ?_) | (refine WVs.fnW ?_ ?_))) <;> (first | exact WV.junk _ | exact WV.keep rfl | exact WV.row rfl | exact WV.nil rfl | exact WV.nilsl | exact WV.emp rfl | exact WV.empsl | exact WV.ptr rfl | exact WV.slfN | exact WV.slf rfl | exact WV.tptr rfl | exact WV.trow rfl | exact WV.trowN rfl | exact WV.vptr rfl rfl rfl rfl | (refine WV.row_eq rfl ?_; simp only [bxw, Int.toNat_natCast, List.length_replicate, List.take_length, tys]) | (refine WV.trow_eq rfl ?_; simp only [bxw, Int.toNat_natCast, bts_length, List.take_length, tys]) | (refine WV.view (k := 3) ?_; simp (decide := true) only [reify, share, fresh1, reduceIte, reduceCtorEq, Nat.reduceAdd, bxm, slk, Int.toNat_zero, List.drop_zero, true_and, and_true, tys]) | (refine WV.eq ?_ rfl; simp only [bxw, Int.toNat_natCast, List.length_replicate, List.take_length, setO_eq, tys]))) : p := h
theorem woI (h : p := by (first | exact WO.same _ _ _ | (refine WO.same_eq ?_; simp only [bxw, Int.toNat_natCast, List.length_replicate, List.take_length, setO_eq, tys]; done) | (refine WO.mk ?_ (by simp only [bxm, leaf_ptr, leaf_slf, leaf_trow, leaf_tptr]) nofun; refine WL.cons ?_ .nil; (try simp only [jjs]); (repeat' (first | exact WVs.nil | refine WVs.cons ?_ ?_ | (refine WVs.aggW ?_) | (refine WVs.fnW ?_ ?_))) <;> (first | exact WV.junk _ | exact WV.keep rfl | exact WV.row rfl | exact WV.nil rfl | exact WV.nilsl | exact WV.emp rfl | exact WV.empsl | exact WV.ptr rfl | exact WV.slfN | exact WV.slf rfl | exact WV.tptr rfl | exact WV.trow rfl | exact WV.trowN rfl | exact WV.vptr rfl rfl rfl rfl | (refine WV.row_eq rfl ?_; simp only [bxw, Int.toNat_natCast, List.length_replicate, List.take_length, tys]) | (refine WV.trow_eq rfl ?_; simp only [bxw, Int.toNat_natCast, bts_length, List.take_length, tys]) | (refine WV.view (k := 3) ?_; simp (decide := true) only [reify, share, fresh1, reduceIte, reduceCtorEq, Nat.reduceAdd, bxm, slk, Int.toNat_zero, List.drop_zero, true_and, and_true, tys]) | (refine WV.eq ?_ rfl; simp only [bxw, Int.toNat_natCast, List.length_replicate, List.take_length, setO_eq, tys]))))) : p := h
theorem wsI (h : p := by repeat' (first | exact .nil | refine .virt ?_ | refine .dead ?_ | (refine .obj rfl ?_ ?_; focus (first | exact WO.same _ _ _ | (refine WO.same_eq ?_; simp only [bxw, Int.toNat_natCast, List.length_replicate, List.take_length, setO_eq, tys]; done) | (refine WO.mk ?_ (by simp only [bxm, leaf_ptr, leaf_slf, leaf_trow, leaf_tptr]) nofun; refine WL.cons ?_ .nil; (try simp only [jjs]); (repeat' (first | exact WVs.nil | refine WVs.cons ?_ ?_ | (refine WVs.aggW ?_) | (refine WVs.fnW ?_ ?_))) <;> (first | exact WV.junk _ | exact WV.keep rfl | exact WV.row rfl | exact WV.nil rfl | exact WV.nilsl | exact WV.emp rfl | exact WV.empsl | exact WV.ptr rfl | exact WV.slfN | exact WV.slf rfl | exact WV.tptr rfl | exact WV.trow rfl | exact WV.trowN rfl | exact WV.vptr rfl rfl rfl rfl | (refine WV.row_eq rfl ?_; simp only [bxw, Int.toNat_natCast, List.length_replicate, List.take_length, tys]) | (refine WV.trow_eq rfl ?_; simp only [bxw, Int.toNat_natCast, bts_length, List.take_length, tys]) | (refine WV.view (k := 3) ?_; simp (decide := true) only [reify, share, fresh1, reduceIte, reduceCtorEq, Nat.reduceAdd, bxm, slk, Int.toNat_zero, List.drop_zero, true_and, and_true, tys]) | (refine WV.eq ?_ rfl; simp only [bxw, Int.toNat_natCast, List.length_replicate, List.take_length, setO_eq, tys]))))))) : p := h
theorem rgIF (h : p := by simp (decide := true) (disch := (first | omega | (simp only [List.length_append, List.length_map, List.length_cons, List.length_nil]; omega))) only [evOp, putTm, jjs, reduceIte, E_T, E_gl, brs, tdesc, reduceCtorEq, Nat.reduceAdd, Nat.reduceSub, Nat.reduceLT, Nat.reduceLeDiff, Nat.reduceEqDiff, bxm, bxk, tabs, evBin, eqAV, bothNil, constOp, eqCells, evUn, evLoad, ldV, ofCells, TD.isAgg, evStore, putAt, indexAddrAV, evA.eq_17, fieldPlaceT, evA.eq_4, fillL, evA.eq_15, sliceAV, boundAV, evA.eq_22, lenAV, evAppend, elemsT, elems, flatOf, byteCells_mkS, evCall, lendL, lendIds, mapO, importL, import2L, import1, import2, share, fresh1, freshL, evA.eq_5, evA.eq_23, evA.eq_24, evA.eq_8, evA.eq_12, evA.eq_11, evA.eq_14, evA.eq_13, tys, fx]; rfl) : p := h
theorem rgIS (h : p := by simp (decide := true) (disch := (first | omega | (simp only [List.length_append, List.length_map, List.length_cons, List.length_nil]; omega))) only [evOp, putTm, jjs, reduceIte, E_T, E_gl, brs, tdesc, reduceCtorEq, Nat.reduceAdd, Nat.reduceSub, Nat.reduceLT, Nat.reduceLeDiff, Nat.reduceEqDiff, bxm, bxk, tabs, evBin, eqAV, bothNil, constOp, eqCells, evUn, evLoad, ldV, ofCells, TD.isAgg, evStore, putAt, indexAddrAV, evA.eq_17, fieldPlaceT, evA.eq_4, fillL, evA.eq_15, sliceAV, boundAV, evA.eq_22, lenAV, evAppend, elemsT, elems, flatOf, byteCells_mkS, evCall, lendL, lendIds, mapO, importL, import2L, import1, import2, share, fresh1, freshL, evA.eq_5, evA.eq_23, evA.eq_24, evA.eq_8, evA.eq_12, evA.eq_11, evA.eq_14, evA.eq_13, tys, slice_take, fx]; rfl) : p := h
theorem rtIF (h : p := by simp (decide := true) only [jjs, reduceIte, evReturn, retShare, evReturn0, resAV, evLoad, ofCells, TD.isAgg, mapO, exportVs, exportV, exportL, export1, rowsOf, rowOf, innerIds, rowIds, one, closed, share, fresh1, E_T, reduceCtorEq, Nat.reduceAdd, Nat.reduceSub, Nat.reduceLT, Nat.reduceLeDiff, Nat.reduceEqDiff, bxm, tabs, List.map_append, tys, fx]) : p := h
theorem wvIF (h : p := by (try simp only [jjs]); (repeat' (first | exact WVs.nil | refine WVs.cons ?_ ?_ | (refine WVs.aggW ?_) | (refine WVs.fnW ?_ ?_))) <;> (first | exact WV.junk _ | exact WV.keep rfl | exact WV.row rfl | exact WV.nil rfl | exact WV.nilsl | exact WV.emp rfl | exact WV.empsl | exact WV.ptr rfl | exact WV.slfN | exact WV.slf rfl | exact WV.tptr rfl | exact WV.trow rfl | exact WV.trowN rfl | exact WV.vptr rfl rfl rfl rfl | (refine WV.row_eq rfl ?_; simp only [bxw, Int.toNat_natCast, List.length_replicate, List.take_length, fl, tys]) | (refine WV.trow_eq rfl ?_; simp only [bxw, Int.toNat_natCast, bts_length, List.take_length, fl, tys]) | (refine WV.view (k := 3) ?_; simp (decide := true) only [reify, share, fresh1, reduceIte, reduceCtorEq, Nat.reduceAdd, bxm, slk, Int.toNat_zero, List.drop_zero, true_and, and_true, fv, tys]) | (refine WV.eq ?_ rfl; simp only [bxw, Int.toNat_natCast, List.length_replicate, List.take_length, setO_eq, fe, tys]))) : p := h
theorem woIF (h : p := by (first | exact WO.same _ _ _ | (refine WO.same_eq ?_; simp only [bxw, Int.toNat_natCast, List.length_replicate, List.take_length, setO_eq, fe, tys]; done) | (refine WO.mk ?_ (by simp only [bxm, leaf_ptr, leaf_slf, leaf_trow, leaf_tptr]) nofun; refine WL.cons ?_ .nil; (try simp only [jjs]); (repeat' (first | exact WVs.nil | refine WVs.cons ?_ ?_ | (refine WVs.aggW ?_) | (refine WVs.fnW ?_ ?_))) <;> (first | exact WV.junk _ | exact WV.keep rfl | exact WV.row rfl | exact WV.nil rfl | exact WV.nilsl | exact WV.emp rfl | exact WV.empsl | exact WV.ptr rfl | exact WV.slfN | exact WV.slf rfl | exact WV.tptr rfl | exact WV.trow rfl | exact WV.trowN rfl | exact WV.vptr rfl rfl rfl rfl | (refine WV.row_eq rfl ?_; simp only [bxw, Int.toNat_natCast, List.length_replicate, List.take_length, fl, tys]) | (refine WV.trow_eq rfl ?_; simp only [bxw, Int.toNat_natCast, bts_length, List.take_length, fl, tys]) | (refine WV.view (k := 3) ?_; simp (decide := true) only [reify, share, fresh1, reduceIte, reduceCtorEq, Nat.reduceAdd, bxm, slk, Int.toNat_zero, List.drop_zero, true_and, and_true, fv, tys]) | (refine WV.eq ?_ rfl; simp only [bxw, Int.toNat_natCast, List.length_replicate, List.take_length, setO_eq, fe, tys]))))) : p := h
theorem wsIF (h : p := by repeat' (first | exact .nil | refine .virt ?_ | refine .dead ?_ | (refine .obj rfl ?_ ?_; focus (first | exact WO.same _ _ _ | (refine WO.same_eq ?_; simp only [bxw, Int.toNat_natCast, List.length_replicate, List.take_length, setO_eq, fe, tys]; done) | (refine WO.mk ?_ (by simp only [bxm, leaf_ptr, leaf_slf, leaf_trow, leaf_tptr]) nofun; refine WL.cons ?_ .nil; (try simp only [jjs]); (repeat' (first | exact WVs.nil | refine WVs.cons ?_ ?_ | (refine WVs.aggW ?_) | (refine WVs.fnW ?_ ?_))) <;> (first | exact WV.junk _ | exact WV.keep rfl | exact WV.row rfl | exact WV.nil rfl | exact WV.nilsl | exact WV.emp rfl | exact WV.empsl | exact WV.ptr rfl | exact WV.slfN | exact WV.slf rfl | exact WV.tptr rfl | exact WV.trow rfl | exact WV.trowN rfl | exact WV.vptr rfl rfl rfl rfl | (refine WV.row_eq rfl ?_; simp only [bxw, Int.toNat_natCast, List.length_replicate, List.take_length, fl, tys]) | (refine WV.trow_eq rfl ?_; simp only [bxw, Int.toNat_natCast, bts_length, List.take_length, fl, tys]) | (refine WV.view (k := 3) ?_; simp (decide := true) only [reify, share, fresh1, reduceIte, reduceCtorEq, Nat.reduceAdd, bxm, slk, Int.toNat_zero, List.drop_zero, true_and, and_true, fv, tys]) | (refine WV.eq ?_ rfl; simp only [bxw, Int.toNat_natCast, List.length_replicate, List.take_length, setO_eq, fe, tys]))))))) : p := h
theorem rgJ (h : p := by simp (decide := true) (disch := (first | omega | (simp only [List.length_append, List.length_map, List.length_cons, List.length_nil]; omega))) only [evOp, putTm, ↓reduceIte, jj_0, jj_set, jj_get, jj_getD, E_T, E_gl, brs, tdesc, reduceCtorEq, Nat.reduceAdd, Nat.reduceSub, Nat.reduceLT, Nat.reduceLeDiff, Nat.reduceEqDiff, bxm, bxk, tabs, evBin, eqAV, bothNil, constOp, eqCells, evUn, evLoad, ldV, ofCells, TD.isAgg, evStore, putAt, indexAddrAV, evA.eq_17, fieldPlaceT, evA.eq_4, fillL, evA.eq_15, sliceAV, boundAV, evA.eq_22, lenAV, evAppend, elemsT, elems, flatOf, byteCells_mkS, evCall, lendL, lendIds, mapO, importL, import2L, import1, import2, share, fresh1, freshL, evA.eq_5, evA.eq_23, evA.eq_24, evA.eq_8, evA.eq_12, evA.eq_11, evA.eq_14, evA.eq_13, tys]; rfl) : p := h
theorem rtJ (h : p := by simp (decide := true) only [↓reduceIte, jj_0, jj_set, jj_get, jj_getD, evReturn, retShare, evReturn0, resAV, evLoad, ofCells, TD.isAgg, mapO, exportVs, exportV, exportL, export1, rowsOf, rowOf, innerIds, rowIds, one, closed, share, fresh1, E_T, reduceCtorEq, Nat.reduceAdd, Nat.reduceSub, Nat.reduceLT, Nat.reduceLeDiff, Nat.reduceEqDiff, bxm, tabs, List.map_append, tys, fx]) : p := h
theorem wvJ (h : p := by (repeat' (first | exact WVs.nil | (refine WVs.jjT (by simp only [jj_length, List.length_cons, List.length_nil, Nat.reduceAdd, Nat.reduceLeDiff]) ?_; try simp (decide := true) only [jj_0, jj_drop, List.drop_succ_cons, List.drop_zero, List.drop_nil, Nat.reduceSub, Nat.reduceLeDiff, ↓reduceIte]) | refine WVs.cons ?_ ?_ | (refine WVs.aggW ?_) | (refine WVs.fnW ?_ ?_))) <;> (first | exact WV.junk _ | exact WV.keep rfl | exact WV.row rfl | exact WV.nil rfl | exact WV.nilsl | exact WV.emp rfl | exact WV.empsl | exact WV.ptr rfl | exact WV.slfN | exact WV.slf rfl | exact WV.tptr rfl | exact WV.trow rfl | exact WV.trowN rfl | exact WV.vptr rfl rfl rfl rfl | (refine WV.row_eq rfl ?_; simp only [bxw, Int.toNat_natCast, List.length_replicate, List.take_length, tys]) | (refine WV.trow_eq rfl ?_; simp only [bxw, Int.toNat_natCast, bts_length, List.take_length, tys]) | (refine WV.view (k := 3) ?_; simp (decide := true) only [reify, share, fresh1, reduceIte, reduceCtorEq, Nat.reduceAdd, bxm, slk, Int.toNat_zero, List.drop_zero, true_and, and_true, tys]) | (refine WV.eq ?_ rfl; simp only [bxw, Int.toNat_natCast, List.length_replicate, List.take_length, setO_eq, tys]))) : p := h
theorem woJ (h : p := by (first | exact WO.same _ _ _ | (refine WO.same_eq ?_; simp only [bxw, Int.toNat_natCast, List.length_replicate, List.take_length, setO_eq, tys]; done) | (refine WO.mk ?_ (by simp only [bxm, leaf_ptr, leaf_slf, leaf_trow, leaf_tptr]) nofun; refine WL.cons ?_ .nil; (repeat' (first | exact WVs.nil | (refine WVs.jjT (by simp only [jj_length, List.length_cons, List.length_nil, Nat.reduceAdd, Nat.reduceLeDiff]) ?_; try simp (decide := true) only [jj_0, jj_drop, List.drop_succ_cons, List.drop_zero, List.drop_nil, Nat.reduceSub, Nat.reduceLeDiff, ↓reduceIte]) | refine WVs.cons ?_ ?_ | (refine WVs.aggW ?_) | (refine WVs.fnW ?_ ?_))) <;> (first | exact WV.junk _ | exact WV.keep rfl | exact WV.row rfl | exact WV.nil rfl | exact WV.nilsl | exact WV.emp rfl | exact WV.empsl | exact WV.ptr rfl | exact WV.slfN | exact WV.slf rfl | exact WV.tptr rfl | exact WV.trow rfl | exact WV.trowN rfl | exact WV.vptr rfl rfl rfl rfl | (refine WV.row_eq rfl ?_; simp only [bxw, Int.toNat_natCast, List.length_replicate, List.take_length, tys]) | (refine WV.trow_eq rfl ?_; simp only [bxw, Int.toNat_natCast, bts_length, List.take_length, tys]) | (refine WV.view (k := 3) ?_; simp (decide := true) only [reify, share, fresh1, reduceIte, reduceCtorEq, Nat.reduceAdd, bxm, slk, Int.toNat_zero, List.drop_zero, true_and, and_true, tys]) | (refine WV.eq ?_ rfl; simp only [bxw, Int.toNat_natCast, List.length_replicate, List.take_length, setO_eq, tys]))))) : p := h
theorem wsJ (h : p := by repeat' (first | exact .nil | refine .virt ?_ | refine .dead ?_ | (refine .obj rfl ?_ ?_; focus (first | exact WO.same _ _ _ | (refine WO.same_eq ?_; simp only [bxw, Int.toNat_natCast, List.length_replicate, List.take_length, setO_eq, tys]; done) | (refine WO.mk ?_ (by simp only [bxm, leaf_ptr, leaf_slf, leaf_trow, leaf_tptr]) nofun; refine WL.cons ?_ .nil; (repeat' (first | exact WVs.nil | (refine WVs.jjT (by simp only [jj_length, List.length_cons, List.length_nil, Nat.reduceAdd, Nat.reduceLeDiff]) ?_; try simp (decide := true) only [jj_0, jj_drop, List.drop_succ_cons, List.drop_zero, List.drop_nil, Nat.reduceSub, Nat.reduceLeDiff, ↓reduceIte]) | refine WVs.cons ?_ ?_ | (refine WVs.aggW ?_) | (refine WVs.fnW ?_ ?_))) <;> (first | exact WV.junk _ | exact WV.keep rfl | exact WV.row rfl | exact WV.nil rfl | exact WV.nilsl | exact WV.emp rfl | exact WV.empsl | exact WV.ptr rfl | exact WV.slfN | exact WV.slf rfl | exact WV.tptr rfl | exact WV.trow rfl | exact WV.trowN rfl | exact WV.vptr rfl rfl rfl rfl | (refine WV.row_eq rfl ?_; simp only [bxw, Int.toNat_natCast, List.length_replicate, List.take_length, tys]) | (refine WV.trow_eq rfl ?_; simp only [bxw, Int.toNat_natCast, bts_length, List.take_length, tys]) | (refine WV.view (k := 3) ?_; simp (decide := true) only [reify, share, fresh1, reduceIte, reduceCtorEq, Nat.reduceAdd, bxm, slk, Int.toNat_zero, List.drop_zero, true_and, and_true, tys]) | (refine WV.eq ?_ rfl; simp only [bxw, Int.toNat_natCast, List.length_replicate, List.take_length, setO_eq, tys]))))))) : p := h
theorem rgJF (h : p := by simp (decide := true) (disch := (first | omega | (simp only [List.length_append, List.length_map, List.length_cons, List.length_nil]; omega))) only [evOp, putTm, ↓reduceIte, jj_0, jj_set, jj_get, jj_getD, E_T, E_gl, brs, tdesc, reduceCtorEq, Nat.reduceAdd, Nat.reduceSub, Nat.reduceLT, Nat.reduceLeDiff, Nat.reduceEqDiff, bxm, bxk, tabs, evBin, eqAV, bothNil, constOp, eqCells, evUn, evLoad, ldV, ofCells, TD.isAgg, evStore, putAt, indexAddrAV, evA.eq_17, fieldPlaceT, evA.eq_4, fillL, evA.eq_15, sliceAV, boundAV, evA.eq_22, lenAV, evAppend, elemsT, elems, flatOf, byteCells_mkS, evCall, lendL, lendIds, mapO, importL, import2L, import1, import2, share, fresh1, freshL, evA.eq_5, evA.eq_23, evA.eq_24, evA.eq_8, evA.eq_12, evA.eq_11, evA.eq_14, evA.eq_13, tys, fx]; rfl) : p := h
theorem rgJS (h : p := by simp (decide := true) (disch := (first | omega | (simp only [List.length_append, List.length_map, List.length_cons, List.length_nil]; omega))) only [evOp, putTm, ↓reduceIte, jj_0, jj_set, jj_get, jj_getD, E_T, E_gl, brs, tdesc, reduceCtorEq, Nat.reduceAdd, Nat.reduceSub, Nat.reduceLT, Nat.reduceLeDiff, Nat.reduceEqDiff, bxm, bxk, tabs, evBin, eqAV, bothNil, constOp, eqCells, evUn, evLoad, ldV, ofCells, TD.isAgg, evStore, putAt, indexAddrAV, evA.eq_17, fieldPlaceT, evA.eq_4, fillL, evA.eq_15, sliceAV, boundAV, evA.eq_22, lenAV, evAppend, elemsT, elems, flatOf, byteCells_mkS, evCall, lendL, lendIds, mapO, importL, import2L, import1, import2, share, fresh1, freshL, evA.eq_5, evA.eq_23, evA.eq_24, evA.eq_8, evA.eq_12, evA.eq_11, evA.eq_14, evA.eq_13, tys, slice_take, fx]; rfl) : p := h
theorem rtJF (h : p := by simp (decide := true) only [↓reduceIte, jj_0, jj_set, jj_get, jj_getD, evReturn, retShare, evReturn0, resAV, evLoad, ofCells, TD.isAgg, mapO, exportVs, exportV, exportL, export1, rowsOf, rowOf, innerIds, rowIds, one, closed, share, fresh1, E_T, reduceCtorEq, Nat.reduceAdd, Nat.reduceSub, Nat.reduceLT, Nat.reduceLeDiff, Nat.reduceEqDiff, bxm, tabs, List.map_append, tys, fx]) : p := h
theorem wvJF (h : p := by (repeat' (first | exact WVs.nil | (refine WVs.jjT (by simp only [jj_length, List.length_cons, List.length_nil, Nat.reduceAdd, Nat.reduceLeDiff]) ?_; try simp (decide := true) only [jj_0, jj_drop, List.drop_succ_cons, List.drop_zero, List.drop_nil, Nat.reduceSub, Nat.reduceLeDiff, ↓reduceIte]) | refine WVs.cons ?_ ?_ | (refine WVs.aggW ?_) | (refine WVs.fnW ?_ ?_))) <;> (first | exact WV.junk _ | exact WV.keep rfl | exact WV.row rfl | exact WV.nil rfl | exact WV.nilsl | exact WV.emp rfl | exact WV.empsl | exact WV.ptr rfl | exact WV.slfN | exact WV.slf rfl | exact WV.tptr rfl | exact WV.trow rfl | exact WV.trowN rfl | exact WV.vptr rfl rfl rfl rfl | (refine WV.row_eq rfl ?_; simp only [bxw, Int.toNat_natCast, List.length_replicate, List.take_length, fl, tys]) | (refine WV.trow_eq rfl ?_; simp only [bxw, Int.toNat_natCast, bts_length, List.take_length, fl, tys]) | (refine WV.view (k := 3) ?_; simp (decide := true) only [reify, share, fresh1, reduceIte, reduceCtorEq, Nat.reduceAdd, bxm, slk, Int.toNat_zero, List.drop_zero, true_and, and_true, fv, tys]) | (refine WV.eq ?_ rfl; simp only [bxw, Int.toNat_natCast, List.length_replicate, List.take_length, setO_eq, fe, tys]))) : p := h
theorem woJF (h : p := by (first | exact WO.same _ _ _ | (refine WO.same_eq ?_; simp only [bxw, Int.toNat_natCast, List.length_replicate, List.take_length, setO_eq, fe, tys]; done) | (refine WO.mk ?_ (by simp only [bxm, leaf_ptr, leaf_slf, leaf_trow, leaf_tptr]) nofun; refine WL.cons ?_ .nil; (repeat' (first | exact WVs.nil | (refine WVs.jjT (by simp only [jj_length, List.length_cons, List.length_nil, Nat.reduceAdd, Nat.reduceLeDiff]) ?_; try simp (decide := true) only [jj_0, jj_drop, List.drop_succ_cons, List.drop_zero, List.drop_nil, Nat.reduceSub, Nat.reduceLeDiff, ↓reduceIte]) | refine WVs.cons ?_ ?_ | (refine WVs.aggW ?_) | (refine WVs.fnW ?_ ?_))) <;> (first | exact WV.junk _ | exact WV.keep rfl | exact WV.row rfl | exact WV.nil rfl | exact WV.nilsl | exact WV.emp rfl | exact WV.empsl | exact WV.ptr rfl | exact WV.slfN | exact WV.slf rfl | exact WV.tptr rfl | exact WV.trow rfl | exact WV.trowN rfl | exact WV.vptr rfl rfl rfl rfl | (refine WV.row_eq rfl ?_; simp only [bxw, Int.toNat_natCast, List.length_replicate, List.take_length, fl, tys]) | (refine WV.trow_eq rfl ?_; simp only [bxw, Int.toNat_natCast, bts_length, List.take_length, fl, tys]) | (refine WV.view (k := 3) ?_; simp (decide := true) only [reify, share, fresh1, reduceIte, reduceCtorEq, Nat.reduceAdd, bxm, slk, Int.toNat_zero, List.drop_zero, true_and, and_true, fv, tys]) | (refine WV.eq ?_ rfl; simp only [bxw, Int.toNat_natCast, List.length_replicate, List.take_length, setO_eq, fe, tys]))))) : p := h
theorem wsJF (h : p := by repeat' (first | exact .nil | refine .virt ?_ | refine .dead ?_ | (refine .obj rfl ?_ ?_; focus (first | exact WO.same _ _ _ | (refine WO.same_eq ?_; simp only [bxw, Int.toNat_natCast, List.length_replicate, List.take_length, setO_eq, fe, tys]; done) | (refine WO.mk ?_ (by simp only [bxm, leaf_ptr, leaf_slf, leaf_trow, leaf_tptr]) nofun; refine WL.cons ?_ .nil; (repeat' (first | exact WVs.nil | (refine WVs.jjT (by simp only [jj_length, List.length_cons, List.length_nil, Nat.reduceAdd, Nat.reduceLeDiff]) ?_; try simp (decide := true) only [jj_0, jj_drop, List.drop_succ_cons, List.drop_zero, List.drop_nil, Nat.reduceSub, Nat.reduceLeDiff, ↓reduceIte]) | refine WVs.cons ?_ ?_ | (refine WVs.aggW ?_) | (refine WVs.fnW ?_ ?_))) <;> (first | exact WV.junk _ | exact WV.keep rfl | exact WV.row rfl | exact WV.nil rfl | exact WV.nilsl | exact WV.emp rfl | exact WV.empsl | exact WV.ptr rfl | exact WV.slfN | exact WV.slf rfl | exact WV.tptr rfl | exact WV.trow rfl | exact WV.trowN rfl | exact WV.vptr rfl rfl rfl rfl | (refine WV.row_eq rfl ?_; simp only [bxw, Int.toNat_natCast, List.length_replicate, List.take_length, fl, tys]) | (refine WV.trow_eq rfl ?_; simp only [bxw, Int.toNat_natCast, bts_length, List.take_length, fl, tys]) | (refine WV.view (k := 3) ?_; simp (decide := true) only [reify, share, fresh1, reduceIte, reduceCtorEq, Nat.reduceAdd, bxm, slk, Int.toNat_zero, List.drop_zero, true_and, and_true, fv, tys]) | (refine WV.eq ?_ rfl; simp only [bxw, Int.toNat_natCast, List.length_replicate, List.take_length, setO_eq, fe, tys]))))))) : p := h
end
theorem sj {α : Type} {a b : α} (h : some a = some b) : a = b := Option.some.inj h
theorem lbI {fn : Func} {x : Func} (ff : fn = x) {i : Nat} {b : Code} (h : lb x i = b := by simp only [lb, Option.getD_some, loopsOf, List.nil_append, List.append_nil, List.cons_append, List.getElem?_cons_zero, List.getElem?_cons_succ] <;> rfl) : lb fn i = b := (congrArg (fun z => lb z i) ff).trans h
theorem pof {f : FuncId} {fn : Func} {body : Code} {nt : Nat} {args : Cs} {r : AV} (hf : Try.prog.funcs[f]? = some fn) (hb : fn.body = some body) (hn : fn.ntmps = nt) (ha : (args.all fun x => (cells x).all closed) = true) (hr : resOK r = true) (hgl : ∀ g, closed (E.gl g) = true) (h : ∀ (base : Nat) (c00 : Ctx), Under E base c00 nilStore → Wp E base c00 nilStore body ⟨args ++ List.replicate (nt - args.length) (.v undef), nilStore, none, 0⟩ (fun ex s => (ex = .ret ∨ ex = .nrm) ∧ Rt E base c00 fn r s)) : PureOK E f args r := pure_of_wp (E := E) tabOK mixed hf hb hn (names _ _ hf) ha hr hgl h
theorem rs {base : Nat} {c00 : Ctx} {σ00 : Store} {s s1 : FS} {R : Post} {ci : CI} {y : Code} {id : Nat} {ops : Array Oper} {d : Bool} (hU : Under E base c00 σ00) (hci : CIOK E base ci) (h : evRegion E ci ops d s = some s1) (k : Wp E base c00 σ00 y s1 R) : Wp E base c00 σ00 (.seq (.region id ops d) y) s R := Wp.seq <| Wp.region hU hci h <| thenN k
theorem rq {base : Nat} {c00 : Ctx} {σ00 : Store} {s s1 : FS} {R : Post} {ci : CI} {id : Nat} {ops : Array Oper} {d : Bool} (hU : Under E base c00 σ00) (hci : CIOK E base ci) (h : evRegion E ci ops d s = some s1) (k : R .nrm s1) : Wp E base c00 σ00 (.region id ops d) s R := Wp.region hU hci h k
theorem tbl_okM {α ρ : Type} {base : Nat} {F : FuncId} {enc : α → Cs} {f : α → Option ρ} {g : ρ → AV} (h : ∀ x q, f x = some q → PureOK E F (enc x) (g q)) : CIOK E base (tbl F enc (fun p => (f p).map g)) := tbl_ok fun p r hr => by obtain ⟨q, hq, rfl⟩ := Option.map_eq_some_iff.1 hr; exact h p q hq
theorem wvS {p : Prop} (h : p := by (simp only [jjs, List.length_cons, List.length_nil, Nat.reduceAdd, Nat.reduceSub, List.replicate, List.cons_append, List.nil_append]; (repeat' (first | exact WVs.nil | refine WVs.cons ?_ ?_)); all_goals first | exact WV.junk _ | exact WV.keep rfl | exact .agg rfl (aggKeep rfl))) : p := h
end Go.Bx.Scan

/- strings.IndexByte: off the shelf. (Own text.) -/
namespace Go.Bx.Scan
set_option linter.unusedVariables false
set_option linter.unusedSimpArgs false
set_option linter.unusedSectionVars false
open Go.Proofs Go.RowKit
set_option linter.unusedVariables false

/-- strings.IndexByte -/
def f19 (s : Str) (c : Int) : Option Int := some (Lib.indexByte s c.toNat.toUInt8)
theorem f19_ok (s : Str) (c : Int) (r : Int) (h : f19 s c = some r) : PureOK E 19 [.v (.string (mkS s)), .v (.int .u8 c)] (.v (.int .i64 r)) := by
  obtain rfl := Option.some.inj h
  refine pure_below (vs := [.string (mkS s), .int .u8 c]) Try.func19 rfl (names _ _ Try.func19) (fun w => ?_)
  refine (Try.strings_IndexByte (mkS s) c w).mono ?_
  rintro e w' ⟨rfl, rfl⟩
  exact ⟨rfl, Below.refl _ _⟩
end Go.Bx.Scan

namespace Go.Bx.Scan
set_option linter.unusedVariables false
set_option linter.unusedSimpArgs false
set_option linter.unusedSectionVars false
open Go.Proofs
set_option linter.unusedSimpArgs false
set_option linter.unusedVariables false
set_option maxRecDepth 10000
set_option maxHeartbeats 4000000
-- theorem f19_ok (s : Str) (c : Int) (r : Int) (h : f19 s c = some r) : PureOK E 19 [.v (.string (mkS s)), .v (.int .u8 c)] (.v (.int .i64 r))
noncomputable def f19_tbl : CI := tbl 19 (fun p : Str × Int => [.v (.string (mkS p.1)), .v (.int .u8 p.2)]) (fun p => (f19 p.1 p.2).map fun r => .v (.int .i64 r))
theorem f19_tbl_ok {base : Nat} : CIOK E base f19_tbl := tbl_okM fun p q h => f19_ok p.1 p.2 q h
theorem f19_call {s : Str} {c : Int} {r : Int} (h : f19 s c = some r) (σ : Store) : f19_tbl 19 [.v (.string (mkS s)), .v (.int .u8 c)] σ = some (.v (.int .i64 r), σ, none) :=
 tbl_eq (x := (s, c)) (fun x y e => by
  obtain ⟨x0, x1⟩ := x; obtain ⟨y0, y1⟩ := y
  have e0 := av_str (List.cons.inj e).1
  have e1 := av_int (List.cons.inj (List.cons.inj e).2).1
  subst e0 e1; rfl) (by simp [h]) σ
/-- sibyl/scan.sign -/
def f18 (c : Int) : Option (Int) :=
 f19 [40, 41, 39] c >>= fun r1 =>
 some (IntKind.i64.wrap (1 + r1))
noncomputable def f18_ci : CI := (CI.or 19 f19_tbl (fun _ _ _ => none))
theorem f18_ci_ok (base : Nat) : CIOK E base f18_ci := (or_ok f19_tbl_ok no_ok)
theorem f18_res : Try.f18.results = #[.tmp 2] := rfl
theorem f18_rt : Try.f18.resultTypes = #[3] := rfl
theorem f18_ok (c : Int) (r : Int) (h : f18 c = some r) : PureOK E 18 [.v (.int .u8 c)] (.v (.int .i64 r)) := by
 unfold f18 at h
 refine pof (fn := Try.f18) (nt := 6) Try.func18 rfl rfl rfl rfl (fun _ => rfl) (fun base c00 hU => ?_)
 refine Wk.wp (s2 := ⟨.v (.int .u8 c) :: jj 5 [], St [], none, 0⟩) ?_ ?_
 ·exact Wk.weak hU [] _ (by decide) .nil wvS
 refine rs hU (f18_ci_ok _) rgI <| Wp.seq <| ?_
 obtain ⟨r1, hr1, h⟩ := bind_some h
 have hr1c := fun σ => show f18_ci 19 _ σ = _ from f19_call hr1 σ
 try simp only [List.map_cons, List.map_nil, cInt_eq, cBool_eq, cStr_eq, cSl_eq, tys] at hr1c
 have fx := hr1c
 refine rq hU (f18_ci_ok _) rgIF <| thenN <| Wp.ret <| ?_
 obtain rfl := sj h
 refine ⟨.inl rfl, ?_⟩
 refine Rt.of <| ?_
 have fx := i2 f18_res f18_rt
 exact rtI
noncomputable def f18_tbl : CI := tbl 18 (fun p : Int => [.v (.int .u8 p)]) (fun p => (f18 p).map fun r => .v (.int .i64 r))
theorem f18_tbl_ok {base : Nat} : CIOK E base f18_tbl := tbl_okM fun p q h => f18_ok p q h
theorem f18_call {c : Int} {r : Int} (h : f18 c = some r) (σ : Store) : f18_tbl 18 [.v (.int .u8 c)] σ = some (.v (.int .i64 r), σ, none) :=
 tbl_eq (x := (c)) (fun x y e => by
  exact av_int (List.cons.inj e).1) (by simp [h]) σ
end Go.Bx.Scan

/- strings.IndexAny at the scanner's delimiters, whatever the text. (Own text.) -/
namespace Go.Bx.Scan
set_option linter.unusedVariables false
set_option linter.unusedSimpArgs false
set_option linter.unusedSectionVars false
open Go.Proofs Go.RowKit Go.Lib
set_option linter.unusedVariables false
def delims : Str := [32, 9, 10, 13, 59, 40, 41, 39]
theorem delims_ascii : ∀ (j : Nat) b, (mkS delims).data.toList[j]? = some b → b.toNat < 128 := by
  intro j b h
  have h' : b ∈ delims := List.mem_of_getElem? h
  have : ∀ b ∈ delims, b.toNat < 128 := by decide
  exact this b h'
theorem dl_size : (mkS delims).size = 8 := rfl
set_option maxHeartbeats 8000000 in
set_option maxRecDepth 1000000 in
/-- The rune that stands for what is no rune isn't among the delimiters. -/
theorem ir_err (s : ByteArray) (hs : s = mkS delims) (w : World) : Calls Try.prog 41 #[.string s, .int .i32 65533] w fun e w' => e = .returned (.int .i64 (-1)) ∧ Below w.heap.size w w' := by
  have hsz : s.size = 8 := by rw [hs]; rfl
  have hasc : Aside (∀ (j : Nat) b, s.data.toList[j]? = some b → b.toNat < 128) := by rw [hs]; exact delims_ascii
  clear hs
  have e19 : ∀ args w, (callFunc 19 args).run Try.prog w = .ok (.enter 19 args) w := enters_of Try.func19 (by kernel_rfl) rfl
  go_enter Try.func41, Try.ntmps41
  go_wp2
  go_loopg [5, 6] 8 (fun g _ _ wx => ∃ i : Nat, i + g = 8 ∧ wx = w.iter s i)
  case atStart => exact ⟨0, by omega, rfl⟩
  case round =>
    obtain ⟨i, hig, rfl⟩ := hrel
    cases gk with
    | zero =>
      obtain rfl : i = 8 := by omega
      have hnx := fun ty => run_next_end (P := Try.prog) w s 8 ty (by omega)
      go_wp2
      go_ret
      exact ⟨rfl, (Below.refl _ _).alloc (Nat.le_refl _) _⟩
    | succ g =>
      have hi : i < s.size := by omega
      obtain ⟨x, hx⟩ : ∃ x : UInt8, s[i]'hi = x := ⟨_, rfl⟩
      have hxl : s.data.toList[i]? = some x := by rw [← hx]; exact Lib.data_getElem? s i hi
      have hx128 : x.toNat < 128 := hasc.out i x hxl
      have hnx := fun ty => run_next_ascii (P := Try.prog) w s i ty hi (by rw [hx]; exact hx128)
      rw [hx] at hnx
      clear hxl hx
      have hne : ((x.toNat : Int) == 65533) = false := beq_eq_false_iff_ne.2 (by omega)
      go_wp2
      go_roundg g
      case measure => omega
      case rel => exact ⟨i + 1, by omega, rfl⟩

set_option maxHeartbeats 8000000 in
set_option maxRecDepth 1000000 in
/-- No rune at all. -/
theorem ir_bad (s : ByteArray) (r : Int) (h1 : 128 ≤ r) (h2 : r ≠ 65533) (hv : Lib.validRune r = false) (w : World) : Calls Try.prog 41 #[.string s, .int .i32 r] w fun e w' => e = .returned (.int .i64 (-1)) ∧ Below w.heap.size w w' := by
  have hne : (r == 65533) = false := beq_eq_false_iff_ne.2 h2
  have h0 : (0 : Int) ≤ r := by omega
  have hlt : ¬ r < 128 := by omega
  have e50 : ∀ args w, (callFunc 50 args).run Try.prog w = .ok (.enter 50 args) w := enters_of Try.func50 (by kernel_rfl) rfl
  go_enter Try.func41, Try.ntmps41
  go_wp2_with (go_at_fn 50; refine (Try.utf8_ValidRune _ _).mono ?_; rintro e w' ⟨rfl, hw⟩; rw [hw, hv])
  go_ret
  exact ⟨rfl, Below.refl _ _⟩

set_option maxHeartbeats 8000000 in
set_option maxRecDepth 1000000 in
/-- A rune beyond ASCII: its last byte isn't among the delimiters. -/
theorem ir_high (s : ByteArray) (hs : s = mkS delims) (r : Int) (h1 : 128 ≤ r) (h2 : r ≠ 65533) (hv : Lib.validRune r = true) (w : World) : Calls Try.prog 41 #[.string s, .int .i32 r] w fun e w' => e = .returned (.int .i64 (-1)) ∧ Below w.heap.size w w' := by
  have hsz : s.size = 8 := by rw [hs]; rfl
  have hne : (r == 65533) = false := beq_eq_false_iff_ne.2 h2
  have h0 : (0 : Int) ≤ r := by omega
  have hlt : ¬ r < 128 := by omega
  have hval : Utf8.valid r = true := by
    simp only [Lib.validRune, decide_eq_true_eq] at hv
    simp only [Utf8.valid, Bool.or_eq_true, Bool.and_eq_true, decide_eq_true_eq]; omega
  obtain ⟨n2, n4, hlast⟩ := encode_facts r hval h1
  generalize hrs : Utf8.encode r = rs at *
  obtain ⟨x, hx⟩ : ∃ x : UInt8, rs[rs.size - 1]'(by omega) = x := ⟨_, rfl⟩
  have hx128 : 128 ≤ x.toNat := by rw [← hx]; exact hlast (by omega)
  have hin : ∀ (j : Nat) (h : j < s.size), ((s[j]'h).toNat : Int) ≠ (x.toNat : Int) := fun j h => by
    have := delims_ascii j (s[j]'h) (by rw [← hs]; exact Lib.data_getElem? s j h)
    omega
  have hidx : ∀ k : Nat, Lib.indexByte ((mkS delims).extract k 8).data.toList x = -1 := fun k => by
    have hall : ∀ b ∈ ((mkS delims).extract k 8).data.toList, b.toNat < 128 := fun b hb => by
      rw [mkS_extract] at hb
      have : b ∈ delims := List.mem_of_mem_take (List.mem_of_mem_drop hb)
      exact (by decide : ∀ b ∈ delims, b.toNat < 128) b this
    generalize ((mkS delims).extract k 8).data.toList = l at hall
    have hc : l.contains x = false := by
      cases h : l.contains x with
      | false => rfl
      | true => have := hall x (by simpa using h); omega
    rw [Lib.contains_iff_indexByte] at hc
    have hge := of_decide_eq_false hc
    have := Lib.indexByte_ge l x
    omega
  obtain ⟨m, hm⟩ : ∃ m, rs.size = m + 1 := ⟨rs.size - 1, by omega⟩
  have hxm : rs[m]'(by omega) = x := by rw [← hx]; congr 1; omega
  have hms : m < s.size := by omega
  have hms8 : (m : Int) < 8 := by omega
  have hmrs : m < rs.size := by omega
  have hmrs2 : (m : Int) < (rs.size : Int) := by omega
  have hb := hin m hms
  generalize hy : s[m]'hms = y at hb
  have hbne : ((y.toNat : Int) != (x.toNat : Int)) = true := by simpa using hb
  have hback : ((x.toNat : Int)).toNat.toUInt8 = x := by simp
  have HI : Aside (∀ k : Nat, Lib.indexByte (s.extract k 8).data.toList x = -1) := by rw [hs]; exact hidx
  clear hidx hin hlast hx hs
  have e50 : ∀ args w, (callFunc 50 args).run Try.prog w = .ok (.enter 50 args) w := enters_of Try.func50 (by kernel_rfl) rfl
  have e19 : ∀ args w, (callFunc 19 args).run Try.prog w = .ok (.enter 19 args) w := enters_of Try.func19 (by kernel_rfl) rfl
  go_enter Try.func41, Try.ntmps41
  go_wp2_with (go_at_fn 50; refine (Try.utf8_ValidRune _ _).mono ?_; rintro e w' ⟨rfl, hw⟩; rw [hw, hv])
  go_step3
  go_wp2
  go_loopg [9, 10, 11, 12] 1 (fun g a9 _ _ _ wx => g = 1 ∧ a9 = .int .i64 m ∧ wx = w)
  case atStart => exact ⟨by rfl, by first | rfl | (congr 1; omega), rfl⟩
  case round =>
    obtain ⟨rfl, rfl, rfl⟩ := hrel
    go_wp2
    go_step3
    go_wp2
    go_quiet (fail)
    go_wp2
    go_quiet ((go_at_call 19; refine (Try.strings_IndexByte _ _ _).mono ?_; rintro e w' ⟨rfl, hw⟩; exact ⟨by rw [hback, HI.out], _, hw⟩))
    go_wp2
    rw [Exit.noGoto_ret]
    try go_wp2
    try rw [Exit.noGoto_ret]
    go_ret
    exact ⟨rfl, rfl, rfl, rfl, Nat.le_refl _, fun _ _ => rfl⟩

/-- Whatever rune beyond ASCII. -/
theorem ir_any (r : Int) (h1 : 128 ≤ r) (w : World) : Calls Try.prog 41 #[.string (mkS delims), .int .i32 r] w fun e w' => e = .returned (.int .i64 (-1)) ∧ Below w.heap.size w w' := by
  by_cases h2 : r = 65533
  · subst h2; exact ir_err _ rfl w
  · cases hv : Lib.validRune r with
    | true => exact ir_high _ rfl r h1 h2 hv w
    | false => exact ir_bad _ r h1 h2 hv w

/-- What is read as one rune beyond ASCII is bytes beyond ASCII. -/
theorem decode_skip (s : ByteArray) (pos : Nat) (h : pos < s.size) (ha : 128 ≤ (s[pos]'h).toNat) : ∀ k, k < (Utf8.decode s pos).2 → ∃ b, s.data.toList[pos + k]? = some b ∧ 128 ≤ b.toNat := by
  have hn : ¬ (s[pos]'h).toNat < 128 := by omega
  have h0 : ∃ b, s.data.toList[pos + 0]? = some b ∧ 128 ≤ b.toNat := ⟨s[pos]'h, Lib.data_getElem? s pos h, ha⟩
  have hk : ∀ k, (decide (pos + k < s.size) && (s.get! (pos + k)).toNat / 64 == 2) = true → ∃ b, s.data.toList[pos + k]? = some b ∧ 128 ≤ b.toNat := fun k hc => by
    simp only [Bool.and_eq_true, decide_eq_true_eq, beq_iff_eq] at hc
    refine ⟨s[pos + k]'hc.1, Lib.data_getElem? s _ hc.1, ?_⟩
    have e : s.get! (pos + k) = s[pos + k]'hc.1 := get_at s (pos + k) hc.1
    rw [e] at hc; omega
  simp only [Utf8.decode, get_at s pos h, hn, if_false]
  intro k
  split
  · rename_i h1
    simp only [Bool.and_eq_true] at h1
    have c1 := hk 1 (by simpa using h1.2)
    split <;> (intro hlt; simp only at hlt)
    · match k with
      | 0 => exact h0
      | 1 => exact c1
      | k + 2 => omega
    · match k with
      | 0 => exact h0
      | k + 1 => omega
  · split
    · rename_i _ h1
      simp only [Bool.and_eq_true] at h1
      have c1 := hk 1 (by simpa using h1.1.2)
      have c2 := hk 2 (by simpa using h1.2)
      split <;> (intro hlt; simp only at hlt)
      · match k with
        | 0 => exact h0
        | 1 => exact c1
        | 2 => exact c2
        | k + 3 => omega
      · match k with
        | 0 => exact h0
        | k + 1 => omega
    · split
      · rename_i _ _ h1
        simp only [Bool.and_eq_true] at h1
        have c1 := hk 1 (by simpa using h1.1.1.2)
        have c2 := hk 2 (by simpa using h1.1.2)
        have c3 := hk 3 (by simpa using h1.2)
        split <;> (intro hlt; simp only at hlt)
        · match k with
          | 0 => exact h0
          | 1 => exact c1
          | 2 => exact c2
          | 3 => exact c3
          | k + 4 => omega
        · match k with
          | 0 => exact h0
          | k + 1 => omega
      · intro hlt; simp only at hlt
        match k with
        | 0 => exact h0
        | k + 1 => omega
theorem noAny_more {s chars : List UInt8} {i n : Nat} (h : Lib.NoAny s chars i) (hk : ∀ k, k < n → ∃ b, s[i + k]? = some b ∧ chars.contains b = false) : Lib.NoAny s chars (i + n) := fun j b hj hb => by
  by_cases hji : j < i
  · exact h j b hji hb
  · obtain ⟨c, hc, hc2⟩ := hk (j - i) (by omega)
    rw [show i + (j - i) = j by omega, hb] at hc
    cases hc; exact hc2
theorem delims_high {b : UInt8} (h : 128 ≤ b.toNat) : delims.contains b = false := by
  cases hc : delims.contains b with
  | false => rfl
  | true =>
    have h' : b ∈ delims := by simpa using hc
    have := (by decide : ∀ b ∈ delims, b.toNat < 128) b h'
    omega

set_option maxHeartbeats 8000000 in
set_option maxRecDepth 1000000 in
/-- strings.IndexAny at short texts, whatever they are. -/
theorem ia_short (s : ByteArray) (h8 : s.size ≤ 8) (w : World) : Calls Try.prog 32 #[.string s, .string (mkS delims)] w fun e w' => e = .returned (.int .i64 (Lib.indexAny s.data.toList delims)) ∧ Below w.heap.size w w' := by
  obtain ⟨ch, hch⟩ : ∃ ch, mkS delims = ch := ⟨_, rfl⟩
  have hIR : Aside (∀ (r : Int) (w : World), 128 ≤ r → Calls Try.prog 41 #[.string ch, .int .i32 r] w fun e w' => e = .returned (.int .i64 (-1)) ∧ Below w.heap.size w w') := by rw [← hch]; exact fun r w h => ir_any r h w
  have hIA : Aside (∀ (r : Int) (w : World), 0 ≤ r → r < 128 → Calls Try.prog 41 #[.string ch, .int .i32 r] w fun e w' => e = .returned (.int .i64 (Lib.indexByte delims r.toNat.toUInt8)) ∧ w' = w) := by rw [← hch]; exact fun r w h0 h1 => Try.strings_IndexRune_ascii (mkS delims) r w h0 h1
  have hsz : ch.size = 8 := by rw [← hch]; rfl
  have hemp : ch.toList.isEmpty = false := by rw [← hch, Lib.toList_data]; rfl
  rw [hch]
  clear hch
  have h8z : decide ((8 : Int) < (s.size : Int)) = false := decide_eq_false (by omega)
  have e41 : ∀ args w, (callFunc 41 args).run Try.prog w = .ok (.enter 41 args) w := enters_of Try.func41 (by kernel_rfl) rfl
  have e42 : ∀ args w, (callFunc 42 args).run Try.prog w = .ok (.enter 42 args) w := enters_of Try.func42 (by kernel_rfl) rfl
  go_enter Try.func32, Try.ntmps32
  go_wp2_with (go_at_fn 42; refine (Try.strings_shouldUseASCIISet _ _).mono ?_; rintro e w' ⟨rfl, hw⟩; rw [hw, h8z])
  go_loopg [9, 10] s.size (fun g _ _ wx => ∃ i : Nat, i + g = s.size ∧ wx.heap[w.heap.size]? = some (.stringIter s i) ∧ Below w.heap.size w wx ∧ Lib.NoAny s.data.toList delims i)
  case atStart => exact ⟨0, by omega, World.iter_heap w s 0, (Below.refl _ _).alloc (Nat.le_refl _) _, Lib.NoAny.zero _ _⟩
  case round =>
    obtain ⟨i, hig, hit, hbel, hno⟩ := hrel
    have HN : Aside (Lib.NoAny s.data.toList delims i) := hno
    have HB : Aside (Below w.heap.size w wr) := hbel
    clear hno hbel
    cases gk with
    | zero =>
      obtain rfl : i = s.size := by omega
      have hnx := fun ty => run_next_end_at (P := Try.prog) wr w.heap.size s s.size ty hit (by omega)
      go_wp2
      go_ret
      exact ⟨by rw [Lib.indexAny_none (by rw [← Lib.size_eq]; exact HN.out)]; rfl, HB.out⟩
    | succ g =>
      have hi : i < s.size := by omega
      obtain ⟨x, hx⟩ : ∃ x : UInt8, s[i]'hi = x := ⟨_, rfl⟩
      have hxl : s.data.toList[i]? = some x := by rw [← hx]; exact Lib.data_getElem? s i hi
      have Hx : Aside (s.data.toList[i]? = some x) := hxl
      have hwl : w.heap.size < wr.heap.size := (Array.getElem?_eq_some_iff.1 hit).1
      by_cases h128 : x.toNat < 128
      · have hnx := fun ty => run_next_ascii_at (P := Try.prog) wr w.heap.size s i ty hit hi (by rw [hx]; exact h128)
        rw [hx] at hnx
        have HI : Aside ((wr.iterAt w.heap.size s (i + 1)).heap[w.heap.size]? = some (.stringIter s (i + 1))) := iterAt_heap _ _ _ _ _ hit
        have HB2 : Aside (Below w.heap.size w (wr.iterAt w.heap.size s (i + 1))) := below_iterAt HB.out (Nat.le_refl _) _ _
        have hcon := Lib.contains_iff_indexByte delims x
        have hback : ((x.toNat : Int)).toNat.toUInt8 = x := by simp
        clear hxl hx hit
        cases hin : delims.contains x
        · rw [hin] at hcon
          have hlt : ¬ ((0 : Int) ≤ Lib.indexByte delims x) := of_decide_eq_false hcon.symm
          clear hcon
          go_wp2_with (go_at_fn 41; refine (hIA.out _ _ (by omega) (by omega)).mono ?_; rintro e w' ⟨rfl, hw⟩; rw [hw, hback])
          go_roundg g
          case measure => omega
          case rel => exact ⟨i + 1, by omega, HI.out, HB2.out, HN.out.succ Hx.out hin⟩
        · rw [hin] at hcon
          have hge : (0 : Int) ≤ Lib.indexByte delims x := of_decide_eq_true hcon.symm
          clear hcon
          go_wp2_with (go_at_fn 41; refine (hIA.out _ _ (by omega) (by omega)).mono ?_; rintro e w' ⟨rfl, hw⟩; rw [hw, hback])
          go_ret
          exact ⟨by rw [Lib.indexAny_hit HN.out Hx.out hin]; rfl, HB2.out⟩
      · have hnx := fun ty => run_next_any_at (P := Try.prog) wr w.heap.size s i ty hit hi
        obtain ⟨d1, d2⟩ := decode_high s i hi (by rw [hx]; omega)
        have hsk := decode_skip s i hi (by rw [hx]; omega)
        have HI : Aside (∀ n, (wr.iterAt w.heap.size s n).heap[w.heap.size]? = some (.stringIter s n)) := fun n => iterAt_heap _ _ _ _ _ hit
        have HB2 : Aside (∀ n, Below w.heap.size w (wr.iterAt w.heap.size s n)) := fun n => below_iterAt HB.out (Nat.le_refl _) _ _
        have HS : Aside (∀ n, (wr.iterAt w.heap.size s n).heap.size = wr.heap.size) := fun n => iterAt_size _ _ _ _
        generalize hdec : Utf8.decode s i = d at *
        obtain ⟨r, n⟩ := d
        simp only at d1 d2 hsk hnx
        have hno2 : Lib.NoAny s.data.toList delims (i + n) := noAny_more HN.out fun k hk => by
          obtain ⟨b, h1, h2⟩ := hsk k hk
          exact ⟨b, h1, delims_high h2⟩
        have hle : i + n ≤ s.size := by
          obtain ⟨b, h1, h2⟩ := hsk (n - 1) (by omega)
          have := (List.getElem?_eq_some_iff.1 h1).1
          rw [← Lib.size_eq] at this; omega
        have HN2 : Aside (Lib.NoAny s.data.toList delims (i + n)) := hno2
        clear hxl hx hit hsk hno2 hdec
        have hm1 : ¬ ((0 : Int) ≤ -1) := by omega
        go_wp2_with (go_at_fn 41; refine (hIR.out _ _ (by omega)).mono ?_; rintro e w' ⟨rfl, hw⟩)
        go_roundg (g + 1 - n)
        case measure => omega
        case rel => exact ⟨i + n, by omega, by rw [hw.block _ (by rw [HS.out]; exact hwl)]; exact HI.out _, (HB2.out _).trans ⟨hw.os, hw.tape, hw.output, hw.size, fun k hk => hw.block k (by rw [HS.out]; omega)⟩, HN2.out⟩

/-- strings.IndexAny -/
def f32 (s chars : Str) : Option Int := if chars = delims ∧ s.length < 4294967281 then some (Lib.indexAny s chars) else none
theorem f32_ok (s chars : Str) (r : Int) (h : f32 s chars = some r) : PureOK E 32 [.v (.string (mkS s)), .v (.string (mkS chars))] (.v (.int .i64 r)) := by
  unfold f32 at h
  split at h
  · rename_i hc
    obtain ⟨rfl, hs⟩ := hc
    obtain rfl := Option.some.inj h
    refine pure_below (vs := [.string (mkS s), .string (mkS delims)]) Try.func32 rfl (names _ _ Try.func32) (fun w => ?_)
    by_cases h8 : 8 < s.length
    · refine (Try.strings_IndexAny_long (zero_of_info (n := 256) (by kernel_rfl)).1 (mkS s) (mkS delims) w (by decide) h8 hs (by decide) delims_ascii).mono ?_
      rintro e w' ⟨rfl, rfl⟩
      exact ⟨rfl, ((Below.refl _ _).alloc (Nat.le_refl _) _).alloc (by simp) _⟩
    · exact ia_short (mkS s) (by show s.length ≤ 8; omega) w
  · cases h
end Go.Bx.Scan

namespace Go.Bx.Scan
set_option linter.unusedVariables false
set_option linter.unusedSimpArgs false
set_option linter.unusedSectionVars false
open Go.Proofs
set_option linter.unusedSimpArgs false
set_option linter.unusedVariables false
set_option maxRecDepth 10000
set_option maxHeartbeats 4000000
-- theorem f32_ok (s : Str) (chars : Str) (r : Int) (h : f32 s chars = some r) : PureOK E 32 [.v (.string (mkS s)), .v (.string (mkS chars))] (.v (.int .i64 r))
noncomputable def f32_tbl : CI := tbl 32 (fun p : Str × Str => [.v (.string (mkS p.1)), .v (.string (mkS p.2))]) (fun p => (f32 p.1 p.2).map fun r => .v (.int .i64 r))
theorem f32_tbl_ok {base : Nat} : CIOK E base f32_tbl := tbl_okM fun p q h => f32_ok p.1 p.2 q h
theorem f32_call {s : Str} {chars : Str} {r : Int} (h : f32 s chars = some r) (σ : Store) : f32_tbl 32 [.v (.string (mkS s)), .v (.string (mkS chars))] σ = some (.v (.int .i64 r), σ, none) :=
 tbl_eq (x := (s, chars)) (fun x y e => by
  obtain ⟨x0, x1⟩ := x; obtain ⟨y0, y1⟩ := y
  have e0 := av_str (List.cons.inj e).1
  have e1 := av_str (List.cons.inj (List.cons.inj e).2).1
  subst e0 e1; rfl) (by simp [h]) σ
def f61_l0 (a : List Int) (l0 : List Int) (c : Int) (v : Int) : Option ((List Int) × Int) :=
 if (decide (v < (a.length : Int))) = true then
  (rd l0 v >>= fun e3 =>
  some (IntKind.u64.wrap ((IntKind.u64.wrap ((IntKind.u64.wrap e3) * 10)) + c)) >>= fun x4 =>
  rd l0 v >>= fun e5 =>
  f61_l0 a (setL l0 v (IntKind.u32.wrap x4)) (shrI .u64 x4 32) (IntKind.i64.wrap (v + 1)))
 else
  some (l0, c)
 partial_fixpoint
/-- sibyl/nats.Push -/
def f61 (a : List Int) (d : Int) : Option (List Int) :=
 f61_l0 a a (IntKind.u64.wrap d) 0 >>= fun o1 =>
 if (decide (o1.2 > 0)) = true then
  (ap 4 o1.1 [IntKind.u32.wrap o1.2] >>= fun a7 =>
  some a7)
 else
  some o1.1
theorem f61_res : Try.f61.results = #[.tmp 4] := rfl
def f61_S (a : List Int) (d : Int) : List (Option Obj) := [some ⟨1, false, true, List.map (cInt .u32) a⟩]
theorem f61_l0_ok {base : Nat} {c00 : Ctx} (a : List Int) (d : Int) (hU : Under E base c00 (St (f61_S a d))) : ∀ (l0 : List Int) (c : Int) (v : Int) (o1 : (List Int) × Int), f61_l0 a l0 c v = some o1 →
  WpL E base c00 (St (f61_S a d)) (lb Try.f61 0) ⟨.row 0 1 0 ((l0).length) :: jj 4 (.v (.int .u64 c) :: jj 5 (.v (.int .i64 (a.length : Int)) :: .v (.int .i64 v) :: jj 26 [])), St [some ⟨1, false, true, List.map (cInt .u32) l0⟩], some 0, 1⟩ (fun ex s1 => ex = .exit 0 ∧ Wk base c00 (St (f61_S a d)) s1 ⟨.row 0 1 0 ((o1.1).length) :: jj 4 (.v (.int .u64 o1.2) :: jj 33 []), St [some ⟨1, false, true, List.map (cInt .u32) o1.1⟩], some 0, 1⟩) := by
 refine f61_l0.partial_correctness a _ ?_
 intro lp__ ih l0 c v o1 h
 refine WpL.stepE (lbI Try.f61.eq_1) ?_
 refine rs hU no_ok rgI <| Wp.seq <| ?_
 refine Wp.cond hU (t := decide (v < (a.length : Int))) rfl (fun hc2 => ?_) (fun hc2 => ?_)
 ·rw [if_t hc2] at h
  refine Wp.skip <| thenN <| Wp.seq <| Wp.block <| Wp.seq <| ?_
  have fx := hc2
  refine rq hU no_ok rgIF <| thenN <| Wp.seq <| ?_
  obtain ⟨e3, he3, h⟩ := bind_some h
  obtain ⟨he3a, he3b, he3c⟩ := rd_some he3
  obtain ⟨x4, hx4, h⟩ := bind_some h
  replace hx4 := sj hx4
  have fx := i5 he3a he3b he3c hx4 hc2
  refine rq hU no_ok rgIF <| thenN <| ?_
  obtain ⟨e5, he5, h⟩ := bind_some h
  obtain ⟨he5a, he5b, he5c⟩ := rd_some he5
  have fx := i4 he5a he5b he5c hc2
  refine rq hU no_ok rgIF <| blkN <| thenN <| ?_
  refine Wk.wp (s2 := ⟨.row 0 1 0 ((setL l0 v (IntKind.u32.wrap x4)).length) :: jj 4 (.v (.int .u64 (shrI .u64 x4 32)) :: jj 5 (.v (.int .i64 (a.length : Int)) :: .v (.int .i64 v) :: jj 26 [])), St [some ⟨1, false, true, List.map (cInt .u32) (setL l0 v (IntKind.u32.wrap x4))⟩], some 0, 1⟩) ?_ ?_
  ·exact Wk.weakK hU [some 0] _ (by decide) (k := 1) rfl rfl wsI wvI
  have fx := hc2
  refine rq hU no_ok rgIF <| againN <| ?_
  refine Wk.wpL ?_ (ih (setL l0 v (IntKind.u32.wrap x4)) (shrI .u64 x4 32) (IntKind.i64.wrap (v + 1)) _ h)
  exact Wk.weakK hU [some 0] _ (by decide) (k := 1) rfl rfl wsI wvI
 ·rw [if_f hc2] at h
  refine Wp.exit <| thenE <| againE <| ?_
  obtain rfl := sj h
  refine ⟨rfl, ?_⟩
  exact Wk.weakK hU [some 0] _ (by decide) (k := 1) rfl rfl wsI wvI
theorem f61_ok (a : List Int) (d : Int) (r : List Int) (h : f61 a d = some r) : RefC E 61 1 [.row 0 1 0 ((a).length), .v (.int .u32 d)] (f61_S a d) (.row 1 1 0 ((r).length)) [none, some ⟨1, false, true, List.map (cInt .u32) r⟩] := by
 unfold f61 at h
 refine ref_of_wp tabOK mixed (fn := Try.f61) (nt := 39) Try.func61 rfl rfl (names _ _ Try.func61) (fun _ => rfl) (refOK_of rfl) (fun base c00 hU => ?_)
 refine Wk.wp (s2 := ⟨.row 0 1 0 ((a).length) :: .v (.int .u32 d) :: jj 37 [], St [some ⟨1, false, true, List.map (cInt .u32) a⟩], some 0, 1⟩) ?_ ?_
 ·refine Wk.weakK hU [some 0] _ (by decide) (k := 1) rfl rfl ?_ ?_
  refine .obj rfl ?_ ?_
  ·exact .same _ _ _
  ·exact .nil
  simp only [jjs, List.length_cons, List.length_nil, Nat.reduceAdd, Nat.reduceSub, List.replicate, List.cons_append, List.nil_append]
  repeat' (first | exact WVs.nil | refine WVs.cons ?_ ?_)
  all_goals first | exact WV.junk _ | exact WV.keep rfl | exact WV.row rfl | exact WV.ptr rfl | exact WV.tptr rfl | exact .agg rfl (aggKeep rfl)
 refine rs hU no_ok rgI <| rs hU no_ok rgI <| Wp.seq <| rs hU no_ok rgI <| Wp.block <| ?_
 obtain ⟨o1, ho1, h⟩ := bind_some h
 refine Wp.loop <| ?_
 refine Tw.mono (Wk.wpL (s2 := ⟨.row 0 1 0 ((a).length) :: jj 4 (.v (.int .u64 (IntKind.u64.wrap d)) :: jj 5 (.v (.int .i64 (a.length : Int)) :: .v (.int .i64 0) :: jj 26 [])), St [some ⟨1, false, true, List.map (cInt .u32) a⟩], some 0, 1⟩) ?_ (f61_l0_ok a d hU a (IntKind.u64.wrap d) 0 o1 ho1)) (fun ex s1 hp => ?_)
 ·exact Wk.weakK hU [some 0] _ (by decide) (k := 1) rfl rfl wsI wvI
 ·obtain ⟨rfl, hp⟩ := hp
  refine blkE <| thenN <| hp.wp <| Wp.seq <| rs hU no_ok rgI <| ?_
  refine Wp.cond hU (t := decide (o1.2 > 0)) rfl (fun hc6 => ?_) (fun hc6 => ?_)
  ·rw [if_t hc6] at h
   obtain ⟨a7, ha7, h⟩ := bind_some h
   obtain ⟨ha7a, ha7b⟩ := ap_some ha7
   try simp only [List.length_cons, List.length_nil, Nat.zero_add, Nat.add_zero, Nat.reduceAdd] at ha7a
   have fx := i2 ha7a hc6
   refine rq hU no_ok rgIF <| thenN <| ?_
   refine Wk.wp (s2 := ⟨.row 1 1 0 ((a7).length) :: jj 38 [], St [none, some ⟨1, false, true, List.map (cInt .u32) a7⟩], some 0, 1⟩) ?_ ?_
   ·have fe := ha7b
    have fl := ha7b
    have fv := nofx
    exact Wk.weakK hU [some 0, some 2] _ (by decide) (k := 1) rfl rfl wsIF wvIF
   refine Wp.seq <| ?_
   have fx := hc6
   refine rq hU no_ok rgIF <| thenN <| Wp.ret <| ?_
   obtain rfl := sj h
   refine ⟨.inl rfl, ?_⟩
   refine RtR.wk (s2 := ⟨jj 4 (.row 1 1 0 ((a7).length) :: jj 34 []), St [none, some ⟨1, false, true, List.map (cInt .u32) a7⟩], some 0, 1⟩) ?_ (RtR.of rfl rfl)
   ·have fe := ha7b
    have fl := ha7b
    have fv := nofx
    exact Wk.weakK hU [some 0, some 1] _ (by decide) (k := 1) rfl rfl wsIF wvIF
  ·rw [if_f hc6] at h
   refine Wp.skip <| thenN <| Wp.seq <| ?_
   have fx := hc6
   refine rq hU no_ok rgIF <| thenN <| Wp.ret <| ?_
   obtain rfl := sj h
   refine ⟨.inl rfl, ?_⟩
   refine RtR.wk (s2 := ⟨jj 4 (.row 1 1 0 ((o1.1).length) :: jj 34 []), St [none, some ⟨1, false, true, List.map (cInt .u32) o1.1⟩], some 0, 1⟩) ?_ (RtR.of rfl rfl)
   ·refine Wk.trans (s2 := ⟨.row 1 1 0 ((o1.1).length) :: jj 3 (.row 1 1 0 ((o1.1).length) :: .v (.int .u64 o1.2) :: jj 25 (.v (.int .u64 o1.2) :: .v (.bool false) :: jj 5 (.row 1 1 0 ((o1.1).length) :: []))), St [none, some ⟨1, false, true, List.map (cInt .u32) o1.1⟩], some 0, 1⟩) (Wk.moveTo hU 0 _ rfl rfl rfl rfl rfl) ?_
    exact Wk.weakK hU [some 0, some 1] _ (by decide) (k := 1) rfl rfl wsI wvI
def f62_l0 (a : List Int) (n : Int) : Option (Int) :=
 if (decide (n > 0)) = true then
  (rd a (IntKind.i64.wrap (n - 1)) >>= fun e2 =>
  if (e2 == 0) = true then
   (f62_l0 a (IntKind.i64.wrap (n - 1)))
  else
   some n)
 else
  some n
 partial_fixpoint
/-- sibyl/nats.Trim -/
def f62 (a : List Int) : Option (List Int) :=
 f62_l0 a (a.length : Int) >>= fun o1 =>
 cutL a 0 o1 >>= fun p2 =>
 ap 4 [] p2 >>= fun a3 =>
 some a3
theorem f62_res : Try.f62.results = #[.tmp 2] := rfl
theorem f62_rt : Try.f62.resultTypes = #[36] := rfl
theorem f62_l0_ok {base : Nat} {c00 : Ctx} (a : List Int) (hU : Under E base c00 nilStore) : ∀ (n : Int) (o1 : Int), f62_l0 a n = some o1 →
  WpL E base c00 nilStore (lb Try.f62 0) ⟨.sl (List.map (cInt .u32) a) :: jj 2 (.v (.int .i64 n) :: jj 18 []), St [], none, 0⟩ (fun ex s1 => ex = .exit 0 ∧ Wk base c00 nilStore s1 ⟨.sl (List.map (cInt .u32) a) :: jj 2 (.v (.int .i64 o1) :: jj 18 []), St [], none, 0⟩) := by
 refine f62_l0.partial_correctness a _ ?_
 intro lp__ ih n o1 h
 refine WpL.stepE (lbI Try.f62.eq_1) ?_
 refine Wp.seq <| Wp.seq <| ?_
 rcases Bool.eq_false_or_eq_true (decide (n > 0)) with hg36 | hg36
 ·rw [if_t hg36] at h
  obtain ⟨e2, he2, h⟩ := bind_some h
  obtain ⟨he2a, he2b, he2c⟩ := rd_some he2
  have fx := i4 he2a he2b he2c hg36
  refine rq hU no_ok rgIF <| thenN <| ?_
  refine Wp.cond hU (t := e2 == 0) rfl (fun hc3 => ?_) (fun hc3 => ?_)
  ·rw [if_t hc3] at h
   refine Wp.skip <| thenN <| Wp.block <| ?_
   have fx := i2 hg36 hc3
   refine rq hU no_ok rgIF <| blkN <| againN <| ?_
   refine Wk.wpL ?_ (ih (IntKind.i64.wrap (n - 1)) _ h)
   exact Wk.weak hU [] _ (by decide) .nil wvI
  ·rw [if_f hc3] at h
   refine Wp.exit <| thenE <| againE <| ?_
   obtain rfl := sj h
   refine ⟨rfl, ?_⟩
   exact Wk.weak hU [] _ (by decide) .nil wvI
 ·rw [if_f hg36] at h
  have fx := hg36
  refine rq hU no_ok rgIF <| thenN <| ?_
  refine Wp.cond hU (t := false) rfl (fun hc => by cases hc) (fun _ => ?_)
  refine Wp.exit <| thenE <| againE <| ?_
  obtain rfl := sj h
  refine ⟨rfl, ?_⟩
  exact Wk.weak hU [] _ (by decide) .nil wvI
theorem f62_ok (a : List Int) (r : List Int) (h : f62 a = some r) : PureOK E 62 [.sl (List.map (cInt .u32) a)] (.own false 1 (List.map (cInt .u32) r)) := by
 unfold f62 at h
 refine pof (fn := Try.f62) (nt := 22) Try.func62 rfl rfl rfl rfl (fun _ => rfl) (fun base c00 hU => ?_)
 refine Wk.wp (s2 := ⟨.sl (List.map (cInt .u32) a) :: jj 21 [], St [], none, 0⟩) ?_ ?_
 ·exact Wk.weak hU [] _ (by decide) .nil wvS
 refine rs hU no_ok rgI <| rs hU no_ok rgI <| Wp.seq <| Wp.block <| ?_
 obtain ⟨o1, ho1, h⟩ := bind_some h
 refine Wp.loop <| ?_
 refine Tw.mono (Wk.wpL (s2 := ⟨.sl (List.map (cInt .u32) a) :: jj 2 (.v (.int .i64 (a.length : Int)) :: jj 18 []), St [], none, 0⟩) ?_ (f62_l0_ok a hU (a.length : Int) o1 ho1)) (fun ex s1 hp => ?_)
 ·exact Wk.weak hU [] _ (by decide) .nil wvI
 ·obtain ⟨rfl, hp⟩ := hp
  refine blkE <| thenN <| hp.wp <| Wp.seq <| ?_
  obtain ⟨p2, hp2, h⟩ := bind_some h
  obtain ⟨hp2a, hp2b, hp2c, hp2d, hp2e, hp2f⟩ := cutL_some hp2
  try simp only [Int.toNat_natCast] at hp2c hp2d
  try simp only [Int.toNat_natCast, Int.toNat_zero, List.drop_zero, Nat.sub_zero] at hp2e hp2f
  obtain ⟨a3, ha3, h⟩ := bind_some h
  obtain ⟨ha3a, ha3b⟩ := ap_some ha3
  try simp only [List.length_cons, List.length_nil, Nat.zero_add, Nat.add_zero, Nat.reduceAdd] at ha3a
  have fx := i6 hp2a hp2b hp2c hp2d hp2e.symm ha3a
  refine rq hU no_ok rgIS <| thenN <| Wp.ret <| ?_
  obtain rfl := sj h
  refine ⟨.inl rfl, ?_⟩
  refine Rt.of <| ?_
  have fx := i4 f62_res f62_rt hp2e ha3b
  exact rtI
noncomputable def f62_tbl : CI := tbl 62 (fun p : (List Int) => [.sl (List.map (cInt .u32) p)]) (fun p => (f62 p).map fun r => .own false 1 (List.map (cInt .u32) r))
theorem f62_tbl_ok {base : Nat} : CIOK E base f62_tbl := tbl_okM fun p q h => f62_ok p q h
theorem f62_call {a : List Int} {r : List Int} (h : f62 a = some r) (σ : Store) : f62_tbl 62 [.sl (List.map (cInt .u32) a)] σ = some (.own false 1 (List.map (cInt .u32) r), σ, none) :=
 tbl_eq (x := (a)) (fun x y e => by
  exact av_sl inj_int (List.cons.inj e).1) (by simp [h]) σ
def f72_l0 (a : List Int) (n : Int) : Option (Int) :=
 if (decide (n > 0)) = true then
  (rd a (IntKind.i64.wrap (n - 1)) >>= fun e2 =>
  if (e2 == 0) = true then
   (f72_l0 a (IntKind.i64.wrap (n - 1)))
  else
   some n)
 else
  some n
 partial_fixpoint
/-- sibyl/nats.cut -/
def f72 (a : List Int) : Option (List Int) :=
 f72_l0 a (a.length : Int) >>= fun o1 =>
 cutL a 0 o1 >>= fun p2 =>
 some p2
theorem f72_res : Try.f72.results = #[.tmp 2] := rfl
theorem f72_rt : Try.f72.resultTypes = #[36] := rfl
theorem f72_l0_ok {base : Nat} {c00 : Ctx} (a : List Int) (hU : Under E base c00 nilStore) : ∀ (n : Int) (o1 : Int), f72_l0 a n = some o1 →
  WpL E base c00 nilStore (lb Try.f72 0) ⟨.sl (List.map (cInt .u32) a) :: jj 2 (.v (.int .i64 n) :: jj 17 []), St [], none, 0⟩ (fun ex s1 => ex = .exit 0 ∧ Wk base c00 nilStore s1 ⟨.sl (List.map (cInt .u32) a) :: jj 2 (.v (.int .i64 o1) :: jj 17 []), St [], none, 0⟩) := by
 refine f72_l0.partial_correctness a _ ?_
 intro lp__ ih n o1 h
 refine WpL.stepE (lbI Try.f72.eq_1) ?_
 refine Wp.seq <| Wp.seq <| ?_
 rcases Bool.eq_false_or_eq_true (decide (n > 0)) with hg36 | hg36
 ·rw [if_t hg36] at h
  obtain ⟨e2, he2, h⟩ := bind_some h
  obtain ⟨he2a, he2b, he2c⟩ := rd_some he2
  have fx := i4 he2a he2b he2c hg36
  refine rq hU no_ok rgIF <| thenN <| ?_
  refine Wp.cond hU (t := e2 == 0) rfl (fun hc3 => ?_) (fun hc3 => ?_)
  ·rw [if_t hc3] at h
   refine Wp.skip <| thenN <| Wp.block <| ?_
   have fx := i2 hg36 hc3
   refine rq hU no_ok rgIF <| blkN <| againN <| ?_
   refine Wk.wpL ?_ (ih (IntKind.i64.wrap (n - 1)) _ h)
   exact Wk.weak hU [] _ (by decide) .nil wvI
  ·rw [if_f hc3] at h
   refine Wp.exit <| thenE <| againE <| ?_
   obtain rfl := sj h
   refine ⟨rfl, ?_⟩
   exact Wk.weak hU [] _ (by decide) .nil wvI
 ·rw [if_f hg36] at h
  have fx := hg36
  refine rq hU no_ok rgIF <| thenN <| ?_
  refine Wp.cond hU (t := false) rfl (fun hc => by cases hc) (fun _ => ?_)
  refine Wp.exit <| thenE <| againE <| ?_
  obtain rfl := sj h
  refine ⟨rfl, ?_⟩
  exact Wk.weak hU [] _ (by decide) .nil wvI
theorem f72_ok (a : List Int) (r : List Int) (h : f72 a = some r) : PureOK E 72 [.sl (List.map (cInt .u32) a)] (.sl (List.map (cInt .u32) r)) := by
 unfold f72 at h
 refine pof (fn := Try.f72) (nt := 21) Try.func72 rfl rfl rfl rfl (fun _ => rfl) (fun base c00 hU => ?_)
 refine Wk.wp (s2 := ⟨.sl (List.map (cInt .u32) a) :: jj 20 [], St [], none, 0⟩) ?_ ?_
 ·exact Wk.weak hU [] _ (by decide) .nil wvS
 refine rs hU no_ok rgI <| rs hU no_ok rgI <| Wp.seq <| Wp.block <| ?_
 obtain ⟨o1, ho1, h⟩ := bind_some h
 refine Wp.loop <| ?_
 refine Tw.mono (Wk.wpL (s2 := ⟨.sl (List.map (cInt .u32) a) :: jj 2 (.v (.int .i64 (a.length : Int)) :: jj 17 []), St [], none, 0⟩) ?_ (f72_l0_ok a hU (a.length : Int) o1 ho1)) (fun ex s1 hp => ?_)
 ·exact Wk.weak hU [] _ (by decide) .nil wvI
 ·obtain ⟨rfl, hp⟩ := hp
  refine blkE <| thenN <| hp.wp <| Wp.seq <| ?_
  obtain ⟨p2, hp2, h⟩ := bind_some h
  obtain ⟨hp2a, hp2b, hp2c, hp2d, hp2e, hp2f⟩ := cutL_some hp2
  try simp only [Int.toNat_natCast] at hp2c hp2d
  try simp only [Int.toNat_natCast, Int.toNat_zero, List.drop_zero, Nat.sub_zero] at hp2e hp2f
  have fx := i5 hp2a hp2b hp2c hp2d hp2e.symm
  refine rq hU no_ok rgIS <| thenN <| Wp.ret <| ?_
  obtain rfl := sj h
  refine ⟨.inl rfl, ?_⟩
  refine Rt.of <| ?_
  have fx := i3 f72_res f72_rt hp2e
  exact rtI
noncomputable def f72_tbl : CI := tbl 72 (fun p : (List Int) => [.sl (List.map (cInt .u32) p)]) (fun p => (f72 p).map fun r => .sl (List.map (cInt .u32) r))
theorem f72_tbl_ok {base : Nat} : CIOK E base f72_tbl := tbl_okM fun p q h => f72_ok p q h
theorem f72_call {a : List Int} {r : List Int} (h : f72 a = some r) (σ : Store) : f72_tbl 72 [.sl (List.map (cInt .u32) a)] σ = some (.sl (List.map (cInt .u32) r), σ, none) :=
 tbl_eq (x := (a)) (fun x y e => by
  exact av_sl inj_int (List.cons.inj e).1) (by simp [h]) σ
def f73_l0 (r1 : List Int) (r2 : List Int) (i : Int) : Option (Ou Int Unit) :=
 if (decide (i ≥ 0)) = true then
  (rd r1 i >>= fun e8 =>
  rd r2 i >>= fun e9 =>
  if (e8 != e9) = true then
   (rd r1 i >>= fun e11 =>
   rd r2 i >>= fun e12 =>
   if (decide (e11 < e12)) = true then
    (some (.ret (-1)))
   else
    some (.ret 1))
  else
   f73_l0 r1 r2 (IntKind.i64.wrap (i - 1)))
 else
  some (.nxt ())
 partial_fixpoint
/-- sibyl/nats.Cmp -/
def f73 (a : List Int) (b : List Int) : Option (Int) :=
 f72 a >>= fun r1 =>
 f72 b >>= fun r2 =>
 if ((r1.length : Int) != (r2.length : Int)) = true then
  (if (decide ((r1.length : Int) < (r2.length : Int))) = true then
   (some (-1))
  else
   some 1)
 else
  some (IntKind.i64.wrap ((r1.length : Int) - 1)) >>= fun x5 =>
  f73_l0 r1 r2 x5 >>= fun o6 => match o6 with
  | .ret r0 => some r0
  | .nxt wo6 =>
   some 0
noncomputable def f73_ci : CI := (CI.or 72 f72_tbl (fun _ _ _ => none))
theorem f73_ci_ok (base : Nat) : CIOK E base f73_ci := (or_ok f72_tbl_ok no_ok)
theorem f73_res : Try.f73.results = #[.tmp 4] := rfl
theorem f73_rt : Try.f73.resultTypes = #[3] := rfl
theorem f73_l0_ok {base : Nat} {c00 : Ctx} (r1 : List Int) (r2 : List Int) (hU : Under E base c00 nilStore) : ∀ (i : Int) (o6 : Ou Int Unit), f73_l0 r1 r2 i = some o6 →
  WpL E base c00 nilStore (lb Try.f73 0) ⟨.sl (List.map (cInt .u32) r1) :: .sl (List.map (cInt .u32) r2) :: jj 3 (.v (.int .i64 i) :: jj 39 []), St [], none, 0⟩ (fun ex s1 => match o6 with | .ret r0 => ex = .ret ∧ Rt E base c00 Try.f73 (.v (.int .i64 r0)) s1 | .nxt wo6 => ex = .exit 0 ∧ Wk base c00 nilStore s1 ⟨jj 45 [], St [], none, 0⟩) := by
 refine f73_l0.partial_correctness r1 r2 _ ?_
 intro lp__ ih i o6 h
 refine WpL.stepE (lbI Try.f73.eq_1) ?_
 refine Wp.seq <| rs hU (f73_ci_ok _) rgI <| ?_
 refine Wp.cond hU (t := decide (i ≥ 0)) rfl (fun hc7 => ?_) (fun hc7 => ?_)
 ·rw [if_t hc7] at h
  refine Wp.skip <| thenN <| Wp.seq <| Wp.block <| Wp.seq <| ?_
  obtain ⟨e8, he8, h⟩ := bind_some h
  obtain ⟨he8a, he8b, he8c⟩ := rd_some he8
  obtain ⟨e9, he9, h⟩ := bind_some h
  obtain ⟨he9a, he9b, he9c⟩ := rd_some he9
  have fx := i7 he8a he8b he8c he9a he9b he9c hc7
  refine Wp.regionT hU (f73_ci_ok _) rgIF (by kernel_rfl) <| thenN <| ?_
  refine Wp.cond hU (t := e8 != e9) rfl (fun hc10 => ?_) (fun hc10 => ?_)
  ·rw [if_t hc10] at h
   refine Wp.seq <| Wp.seq <| ?_
   obtain ⟨e11, he11, h⟩ := bind_some h
   obtain ⟨he11a, he11b, he11c⟩ := rd_some he11
   obtain ⟨e12, he12, h⟩ := bind_some h
   obtain ⟨he12a, he12b, he12c⟩ := rd_some he12
   have fx := i8 he11a he11b he11c he12a he12b he12c hc7 hc10
   refine Wp.regionT hU (f73_ci_ok _) rgIF (by kernel_rfl) <| thenN <| ?_
   refine Wp.cond hU (t := decide (e11 < e12)) rfl (fun hc13 => ?_) (fun hc13 => ?_)
   ·rw [if_t hc13] at h
    refine Wp.seq <| ?_
    have fx := i3 hc7 hc10 hc13
    refine rq hU (f73_ci_ok _) rgIF <| thenN <| Wp.ret <| thenR <| blkR <| thenR <| againR <| ?_
    obtain rfl := sj h
    refine ⟨rfl, ?_⟩
    refine Rt.of <| ?_
    have fx := i2 f73_res f73_rt
    exact rtI
   ·rw [if_f hc13] at h
    refine Wp.skip <| thenN <| Wp.seq <| ?_
    have fx := i3 hc7 hc10 hc13
    refine rq hU (f73_ci_ok _) rgIF <| thenN <| Wp.ret <| blkR <| thenR <| againR <| ?_
    obtain rfl := sj h
    refine ⟨rfl, ?_⟩
    refine Rt.of <| ?_
    have fx := i2 f73_res f73_rt
    exact rtI
  ·rw [if_f hc10] at h
   refine Wp.skip <| blkN <| thenN <| ?_
   have fx := i2 hc7 hc10
   refine rq hU (f73_ci_ok _) rgIF <| againN <| ?_
   refine Wk.wpL ?_ (ih (IntKind.i64.wrap (i - 1)) _ h)
   exact Wk.weak hU [] _ (by decide) .nil wvI
 ·rw [if_f hc7] at h
  refine Wp.exit <| thenE <| againE <| ?_
  obtain rfl := sj h
  refine ⟨rfl, ?_⟩
  exact Wk.weak hU [] _ (by decide) .nil wvI
theorem f73_ok (a : List Int) (b : List Int) (r : Int) (h : f73 a b = some r) : PureOK E 73 [.sl (List.map (cInt .u32) a), .sl (List.map (cInt .u32) b)] (.v (.int .i64 r)) := by
 unfold f73 at h
 refine pof (fn := Try.f73) (nt := 45) Try.func73 rfl rfl rfl rfl (fun _ => rfl) (fun base c00 hU => ?_)
 refine Wk.wp (s2 := ⟨.sl (List.map (cInt .u32) a) :: .sl (List.map (cInt .u32) b) :: jj 43 [], St [], none, 0⟩) ?_ ?_
 ·exact Wk.weak hU [] _ (by decide) .nil wvS
 refine rs hU (f73_ci_ok _) rgI <| Wp.seq <| ?_
 obtain ⟨r1, hr1, h⟩ := bind_some h
 have hr1c := fun σ => show f73_ci 72 _ σ = _ from f72_call hr1 σ
 obtain ⟨r2, hr2, h⟩ := bind_some h
 have hr2c := fun σ => show f73_ci 72 _ σ = _ from f72_call hr2 σ
 have fx := i2 hr1c hr2c
 refine rq hU (f73_ci_ok _) rgIF <| thenN <| Wp.seq <| rs hU (f73_ci_ok _) rgI <| ?_
 refine Wp.cond hU (t := (r1.length : Int) != (r2.length : Int)) rfl (fun hc3 => ?_) (fun hc3 => ?_)
 ·rw [if_t hc3] at h
  refine Wp.seq <| Wp.seq <| ?_
  have fx := hc3
  refine rq hU (f73_ci_ok _) rgIF <| thenN <| ?_
  refine Wp.cond hU (t := decide ((r1.length : Int) < (r2.length : Int))) rfl (fun hc4 => ?_) (fun hc4 => ?_)
  ·rw [if_t hc4] at h
   refine Wp.seq <| ?_
   have fx := i2 hc3 hc4
   refine rq hU (f73_ci_ok _) rgIF <| thenN <| Wp.ret <| thenR <| thenR <| ?_
   obtain rfl := sj h
   refine ⟨.inl rfl, ?_⟩
   refine Rt.of <| ?_
   have fx := i2 f73_res f73_rt
   exact rtI
  ·rw [if_f hc4] at h
   refine Wp.skip <| thenN <| Wp.seq <| ?_
   have fx := i2 hc3 hc4
   refine rq hU (f73_ci_ok _) rgIF <| thenN <| Wp.ret <| thenR <| ?_
   obtain rfl := sj h
   refine ⟨.inl rfl, ?_⟩
   refine Rt.of <| ?_
   have fx := i2 f73_res f73_rt
   exact rtI
 ·rw [if_f hc3] at h
  refine Wp.skip <| thenN <| Wp.seq <| Wp.seq <| ?_
  obtain ⟨x5, hx5, h⟩ := bind_some h
  replace hx5 := sj hx5
  have fx := i2 hx5 hc3
  refine rq hU (f73_ci_ok _) rgIF <| thenN <| Wp.block <| ?_
  obtain ⟨o6, ho6, h⟩ := bind_some h
  refine Wp.loop <| ?_
  refine Tw.mono (Wk.wpL (s2 := ⟨.sl (List.map (cInt .u32) r1) :: .sl (List.map (cInt .u32) r2) :: jj 3 (.v (.int .i64 x5) :: jj 39 []), St [], none, 0⟩) ?_ (f73_l0_ok r1 r2 hU x5 o6 ho6)) (fun ex s1 hp => ?_)
  ·exact Wk.weak hU [] _ (by decide) .nil wvI
  ·cases o6 with
   | ret r0 =>
    obtain ⟨rfl, hp⟩ := hp
    obtain rfl := sj h
    refine blkR <| thenR <| ?_
    exact ⟨.inl rfl, hp⟩
   | nxt wo6 =>
    obtain ⟨rfl, hp⟩ := hp
    dsimp only at h
    refine blkE <| thenN <| hp.wp <| Wp.seq <| ?_
    have fx := hc3
    refine rq hU (f73_ci_ok _) rgIF <| thenN <| Wp.ret <| ?_
    obtain rfl := sj h
    refine ⟨.inl rfl, ?_⟩
    refine Rt.of <| ?_
    have fx := i2 f73_res f73_rt
    exact rtI
noncomputable def f73_tbl : CI := tbl 73 (fun p : (List Int) × (List Int) => [.sl (List.map (cInt .u32) p.1), .sl (List.map (cInt .u32) p.2)]) (fun p => (f73 p.1 p.2).map fun r => .v (.int .i64 r))
theorem f73_tbl_ok {base : Nat} : CIOK E base f73_tbl := tbl_okM fun p q h => f73_ok p.1 p.2 q h
theorem f73_call {a : List Int} {b : List Int} {r : Int} (h : f73 a b = some r) (σ : Store) : f73_tbl 73 [.sl (List.map (cInt .u32) a), .sl (List.map (cInt .u32) b)] σ = some (.v (.int .i64 r), σ, none) :=
 tbl_eq (x := (a, b)) (fun x y e => by
  obtain ⟨x0, x1⟩ := x; obtain ⟨y0, y1⟩ := y
  have e0 := av_sl inj_int (List.cons.inj e).1
  have e1 := av_sl inj_int (List.cons.inj (List.cons.inj e).2).1
  subst e0 e1; rfl) (by simp [h]) σ
def f74_l0 (a : List Int) (w : Int) (out : List Int) (r_ : Int) (i : Int) : Option ((List Int) × Int) :=
 if (decide (i ≥ 0)) = true then
  (rd a i >>= fun e5 =>
  some (orI .u64 (shlI .u64 r_ 32) (IntKind.u64.wrap e5)) >>= fun x6 =>
  nz (IntKind.u64.wrap w) >>= fun u7 =>
  rd out i >>= fun e8 =>
  nz (IntKind.u64.wrap w) >>= fun u9 =>
  f74_l0 a w (setL out i (IntKind.u32.wrap (quoI .u64 x6 (IntKind.u64.wrap w)))) (x6.tmod (IntKind.u64.wrap w)) (IntKind.i64.wrap (i - 1)))
 else
  some (out, r_)
 partial_fixpoint
/-- sibyl/nats.word -/
def f74 (a : List Int) (w : Int) : Option ((List Int) × Int) :=
 mk 4 (a.length : Int) 0 >>= fun m1 =>
 some (IntKind.i64.wrap ((a.length : Int) - 1)) >>= fun x2 =>
 f74_l0 a w m1 0 x2 >>= fun o3 =>
 f72 o3.1 >>= fun r10 =>
 some (r10, IntKind.u32.wrap o3.2)
noncomputable def f74_ci : CI := (CI.or 72 f72_tbl (fun _ _ _ => none))
theorem f74_ci_ok (base : Nat) : CIOK E base f74_ci := (or_ok f72_tbl_ok no_ok)
theorem f74_res : Try.f74.results = #[.tmp 4, .tmp 5] := rfl
theorem f74_rt : Try.f74.resultTypes = #[36, 42] := rfl
theorem f74_l0_ok {base : Nat} {c00 : Ctx} (a : List Int) (w : Int) (hU : Under E base c00 nilStore) : ∀ (out : List Int) (r_ : Int) (i : Int) (o3 : (List Int) × Int), f74_l0 a w out r_ i = some o3 →
  WpL E base c00 nilStore (lb Try.f74 0) ⟨.sl (List.map (cInt .u32) a) :: .v (.int .u32 w) :: jj 4 (.row 0 1 0 ((out).length) :: .v (.int .u64 r_) :: .v (.int .i64 i) :: jj 35 []), St [some ⟨1, false, true, List.map (cInt .u32) out⟩], none, 0⟩ (fun ex s1 => ex = .exit 0 ∧ Wk base c00 nilStore s1 ⟨jj 6 (.row 0 1 0 ((o3.1).length) :: .v (.int .u64 o3.2) :: jj 36 []), St [some ⟨1, false, true, List.map (cInt .u32) o3.1⟩], none, 0⟩) := by
 refine f74_l0.partial_correctness a w _ ?_
 intro lp__ ih out r_ i o3 h
 refine WpL.stepE (lbI Try.f74.eq_1) ?_
 refine Wp.seq <| rs hU (f74_ci_ok _) rgI <| ?_
 refine Wp.cond hU (t := decide (i ≥ 0)) rfl (fun hc4 => ?_) (fun hc4 => ?_)
 ·rw [if_t hc4] at h
  refine Wp.skip <| thenN <| Wp.seq <| Wp.block <| Wp.seq <| ?_
  obtain ⟨e5, he5, h⟩ := bind_some h
  obtain ⟨he5a, he5b, he5c⟩ := rd_some he5
  obtain ⟨x6, hx6, h⟩ := bind_some h
  replace hx6 := sj hx6
  have fx := i5 he5a he5b he5c hx6 hc4
  refine rq hU (f74_ci_ok _) rgIF <| thenN <| Wp.seq <| ?_
  obtain ⟨u7, hu7, h⟩ := bind_some h
  have hu7a := nz_some hu7
  obtain ⟨e8, he8, h⟩ := bind_some h
  obtain ⟨he8a, he8b, he8c⟩ := rd_some he8
  have fx := i5 hu7a he8a he8b he8c hc4
  refine rq hU (f74_ci_ok _) rgIF <| thenN <| ?_
  refine Wk.wp (s2 := ⟨.sl (List.map (cInt .u32) a) :: .v (.int .u32 w) :: jj 4 (.row 0 1 0 ((setL out i (IntKind.u32.wrap (quoI .u64 x6 (IntKind.u64.wrap w)))).length) :: jj 1 (.v (.int .i64 i) :: .v (.int .u64 x6) :: jj 34 [])), St [some ⟨1, false, true, List.map (cInt .u32) (setL out i (IntKind.u32.wrap (quoI .u64 x6 (IntKind.u64.wrap w))))⟩], none, 0⟩) ?_ ?_
  ·exact Wk.weak hU [some 0] _ (by decide) wsI wvI
  obtain ⟨u9, hu9, h⟩ := bind_some h
  have hu9a := nz_some hu9
  have fx := i2 hu9a hc4
  refine rq hU (f74_ci_ok _) rgIF <| blkN <| thenN <| ?_
  have fx := hc4
  refine rq hU (f74_ci_ok _) rgIF <| againN <| ?_
  refine Wk.wpL ?_ (ih (setL out i (IntKind.u32.wrap (quoI .u64 x6 (IntKind.u64.wrap w)))) (x6.tmod (IntKind.u64.wrap w)) (IntKind.i64.wrap (i - 1)) _ h)
  exact Wk.weak hU [some 0] _ (by decide) wsI wvI
 ·rw [if_f hc4] at h
  refine Wp.exit <| thenE <| againE <| ?_
  obtain rfl := sj h
  refine ⟨rfl, ?_⟩
  exact Wk.weak hU [some 0] _ (by decide) wsI wvI
theorem f74_ok (a : List Int) (w : Int) (r : (List Int) × Int) (h : f74 a w = some r) : PureOK E 74 [.sl (List.map (cInt .u32) a), .v (.int .u32 w)] (.tup [.sl (List.map (cInt .u32) r.1), .v (.int .u32 r.2)]) := by
 unfold f74 at h
 refine pof (fn := Try.f74) (nt := 44) Try.func74 rfl rfl rfl rfl (fun _ => rfl) (fun base c00 hU => ?_)
 refine Wk.wp (s2 := ⟨.sl (List.map (cInt .u32) a) :: .v (.int .u32 w) :: jj 42 [], St [], none, 0⟩) ?_ ?_
 ·exact Wk.weak hU [] _ (by decide) .nil wvS
 refine rs hU (f74_ci_ok _) rgI <| Wp.seq <| ?_
 obtain ⟨m1, hm1, h⟩ := bind_some h
 obtain ⟨hm1a, hm1b, hm1c, hm1d⟩ := mk_some hm1
 have fx := i3 hm1a hm1b hm1c
 refine rq hU (f74_ci_ok _) rgIF <| thenN <| rs hU (f74_ci_ok _) rgI <| Wp.seq <| Wp.seq <| ?_
 obtain ⟨x2, hx2, h⟩ := bind_some h
 replace hx2 := sj hx2
 have fx := hx2
 refine rq hU (f74_ci_ok _) rgIF <| thenN <| Wp.block <| ?_
 obtain ⟨o3, ho3, h⟩ := bind_some h
 refine Wp.loop <| ?_
 refine Tw.mono (Wk.wpL (s2 := ⟨.sl (List.map (cInt .u32) a) :: .v (.int .u32 w) :: jj 4 (.row 0 1 0 ((m1).length) :: .v (.int .u64 0) :: .v (.int .i64 x2) :: jj 35 []), St [some ⟨1, false, true, List.map (cInt .u32) m1⟩], none, 0⟩) ?_ (f74_l0_ok a w hU m1 0 x2 o3 ho3)) (fun ex s1 hp => ?_)
 ·have fe := hm1d
  have fl := hm1d
  have fv := nofx
  exact Wk.weak hU [some 0] _ (by decide) wsIF wvIF
 ·obtain ⟨rfl, hp⟩ := hp
  refine blkE <| thenN <| hp.wp <| Wp.seq <| ?_
  obtain ⟨r10, hr10, h⟩ := bind_some h
  have hr10c := fun σ => show f74_ci 72 _ σ = _ from f72_call hr10 σ
  have fx := hr10c
  refine rq hU (f74_ci_ok _) rgIF <| thenN <| Wp.ret <| ?_
  obtain rfl := sj h
  refine ⟨.inl rfl, ?_⟩
  refine Rt.of <| ?_
  have fx := i3 f74_res f74_rt hm1d
  exact rtI
noncomputable def f74_tbl : CI := tbl 74 (fun p : (List Int) × Int => [.sl (List.map (cInt .u32) p.1), .v (.int .u32 p.2)]) (fun p => (f74 p.1 p.2).map fun r => .tup [.sl (List.map (cInt .u32) r.1), .v (.int .u32 r.2)])
theorem f74_tbl_ok {base : Nat} : CIOK E base f74_tbl := tbl_okM fun p q h => f74_ok p.1 p.2 q h
theorem f74_call {a : List Int} {w : Int} {r : (List Int) × Int} (h : f74 a w = some r) (σ : Store) : f74_tbl 74 [.sl (List.map (cInt .u32) a), .v (.int .u32 w)] σ = some (.tup [.sl (List.map (cInt .u32) r.1), .v (.int .u32 r.2)], σ, none) :=
 tbl_eq (x := (a, w)) (fun x y e => by
  obtain ⟨x0, x1⟩ := x; obtain ⟨y0, y1⟩ := y
  have e0 := av_sl inj_int (List.cons.inj e).1
  have e1 := av_int (List.cons.inj (List.cons.inj e).2).1
  subst e0 e1; rfl) (by simp [h]) σ
end Go.Bx.Scan

/- math/bits.LeadingZeros32: off the shelf. (Own text.) -/
namespace Go.Bx.Scan
set_option linter.unusedVariables false
set_option linter.unusedSimpArgs false
set_option linter.unusedSectionVars false
open Go.Proofs Go.RowKit
set_option linter.unusedVariables false

/-- math/bits.LeadingZeros32 -/
def f75 (x : Int) : Option Int := if 0 ≤ x ∧ x ≤ 4294967295 then some (32 - (Lib.bitLen x.toNat : Int)) else none
theorem f75_ok (x : Int) (r : Int) (h : f75 x = some r) : PureOK E 75 [.v (.int .u32 x)] (.v (.int .i64 r)) := by
  unfold f75 at h
  split at h
  · rename_i hc
    obtain rfl := Option.some.inj h
    refine pure_below (vs := [.int .u32 x]) Try.func75 rfl (names _ _ Try.func75) (fun w => ?_)
    refine (Try.bits_LeadingZeros32 x w hc.1 hc.2).mono ?_
    rintro e w' ⟨rfl, rfl⟩
    exact ⟨rfl, Below.refl _ _⟩
  · cases h
end Go.Bx.Scan

namespace Go.Bx.Scan
set_option linter.unusedVariables false
set_option linter.unusedSimpArgs false
set_option linter.unusedSectionVars false
open Go.Proofs
set_option linter.unusedSimpArgs false
set_option linter.unusedVariables false
set_option maxRecDepth 10000
set_option maxHeartbeats 4000000
-- theorem f75_ok (x : Int) (r : Int) (h : f75 x = some r) : PureOK E 75 [.v (.int .u32 x)] (.v (.int .i64 r))
noncomputable def f75_tbl : CI := tbl 75 (fun p : Int => [.v (.int .u32 p)]) (fun p => (f75 p).map fun r => .v (.int .i64 r))
theorem f75_tbl_ok {base : Nat} : CIOK E base f75_tbl := tbl_okM fun p q h => f75_ok p q h
theorem f75_call {x : Int} {r : Int} (h : f75 x = some r) (σ : Store) : f75_tbl 75 [.v (.int .u32 x)] σ = some (.v (.int .i64 r), σ, none) :=
 tbl_eq (x := (x)) (fun x y e => by
  exact av_int (List.cons.inj e).1) (by simp [h]) σ
def f76_l0 (n : Int) (r1 : List Int) (out : List Int) (v : Int) : Option ((List Int)) :=
 if (decide (v < (r1.length : Int))) = true then
  (rd r1 v >>= fun e6 =>
  nn (IntKind.u64.wrap (n.tmod 32)) >>= fun u7 =>
  some (shlI .u64 (IntKind.u64.wrap e6) (IntKind.u64.wrap (n.tmod 32))) >>= fun x8 =>
  rd out (IntKind.i64.wrap ((quoI .i64 n 32) + v)) >>= fun e9 =>
  rd (setL out (IntKind.i64.wrap ((quoI .i64 n 32) + v)) (orI .u32 e9 (IntKind.u32.wrap x8))) (IntKind.i64.wrap ((IntKind.i64.wrap ((quoI .i64 n 32) + v)) + 1)) >>= fun e10 =>
  f76_l0 n r1 (setL (setL out (IntKind.i64.wrap ((quoI .i64 n 32) + v)) (orI .u32 e9 (IntKind.u32.wrap x8))) (IntKind.i64.wrap ((IntKind.i64.wrap ((quoI .i64 n 32) + v)) + 1)) (IntKind.u32.wrap (shrI .u64 x8 32))) (IntKind.i64.wrap (v + 1)))
 else
  some out
 partial_fixpoint
/-- sibyl/nats.Shl -/
def f76 (a : List Int) (n : Int) : Option (List Int) :=
 f72 a >>= fun r1 =>
 if ((r1.length : Int) == 0) = true then
  (some [])
 else
  mk 4 (IntKind.i64.wrap ((IntKind.i64.wrap ((quoI .i64 n 32) + (r1.length : Int))) + 1)) 0 >>= fun m3 =>
  f76_l0 n r1 m3 0 >>= fun o4 =>
  f72 o4 >>= fun r11 =>
  some r11
noncomputable def f76_ci : CI := (CI.or 72 f72_tbl (fun _ _ _ => none))
theorem f76_ci_ok (base : Nat) : CIOK E base f76_ci := (or_ok f72_tbl_ok no_ok)
theorem f76_res : Try.f76.results = #[.tmp 4] := rfl
theorem f76_rt : Try.f76.resultTypes = #[36] := rfl
theorem f76_l0_ok {base : Nat} {c00 : Ctx} (n : Int) (r1 : List Int) (hU : Under E base c00 nilStore) : ∀ (out : List Int) (v : Int) (o4 : (List Int)), f76_l0 n r1 out v = some o4 →
  WpL E base c00 nilStore (lb Try.f76 0) ⟨jj 5 (.v (.int .i64 (quoI .i64 n 32)) :: .v (.int .u64 (IntKind.u64.wrap (n.tmod 32))) :: .row 0 1 0 ((out).length) :: jj 19 (.sl (List.map (cInt .u32) r1) :: .v (.int .i64 (r1.length : Int)) :: .v (.int .i64 v) :: jj 30 [])), St [some ⟨1, false, true, List.map (cInt .u32) out⟩], none, 0⟩ (fun ex s1 => ex = .exit 0 ∧ Wk base c00 nilStore s1 ⟨jj 7 (.row 0 1 0 ((o4).length) :: jj 52 []), St [some ⟨1, false, true, List.map (cInt .u32) o4⟩], none, 0⟩) := by
 refine f76_l0.partial_correctness n r1 _ ?_
 intro lp__ ih out v o4 h
 refine WpL.stepE (lbI Try.f76.eq_1) ?_
 refine rs hU (f76_ci_ok _) rgI <| Wp.seq <| ?_
 refine Wp.cond hU (t := decide (v < (r1.length : Int))) rfl (fun hc5 => ?_) (fun hc5 => ?_)
 ·rw [if_t hc5] at h
  refine Wp.skip <| thenN <| Wp.seq <| Wp.block <| Wp.seq <| ?_
  obtain ⟨e6, he6, h⟩ := bind_some h
  obtain ⟨he6a, he6b, he6c⟩ := rd_some he6
  have fx := i4 he6a he6b he6c hc5
  refine rq hU (f76_ci_ok _) rgIF <| thenN <| Wp.seq <| ?_
  obtain ⟨u7, hu7, h⟩ := bind_some h
  have hu7a := nn_some hu7
  obtain ⟨x8, hx8, h⟩ := bind_some h
  replace hx8 := sj hx8
  have fx := i3 hu7a hx8 hc5
  refine rq hU (f76_ci_ok _) rgIF <| thenN <| Wp.seq <| ?_
  obtain ⟨e9, he9, h⟩ := bind_some h
  obtain ⟨he9a, he9b, he9c⟩ := rd_some he9
  have fx := i4 he9a he9b he9c hc5
  refine rq hU (f76_ci_ok _) rgIF <| thenN <| ?_
  refine Wk.wp (s2 := ⟨jj 5 (.v (.int .i64 (quoI .i64 n 32)) :: .v (.int .u64 (IntKind.u64.wrap (n.tmod 32))) :: .row 0 1 0 ((setL out (IntKind.i64.wrap ((quoI .i64 n 32) + v)) (orI .u32 e9 (IntKind.u32.wrap x8))).length) :: .v (.int .i64 v) :: jj 1 (.v (.int .u64 x8) :: jj 16 (.sl (List.map (cInt .u32) r1) :: .v (.int .i64 (r1.length : Int)) :: .v (.int .i64 v) :: jj 30 []))), St [some ⟨1, false, true, List.map (cInt .u32) (setL out (IntKind.i64.wrap ((quoI .i64 n 32) + v)) (orI .u32 e9 (IntKind.u32.wrap x8)))⟩], none, 0⟩) ?_ ?_
  ·exact Wk.weak hU [some 0] _ (by decide) wsI wvI
  obtain ⟨e10, he10, h⟩ := bind_some h
  obtain ⟨he10a, he10b, he10c⟩ := rd_some he10
  try simp only [setL_len, setO_len] at he10b
  have fx := i4 he10a he10b he10c hc5
  refine rq hU (f76_ci_ok _) rgIF <| blkN <| thenN <| ?_
  refine Wk.wp (s2 := ⟨jj 5 (.v (.int .i64 (quoI .i64 n 32)) :: .v (.int .u64 (IntKind.u64.wrap (n.tmod 32))) :: .row 0 1 0 ((setL (setL out (IntKind.i64.wrap ((quoI .i64 n 32) + v)) (orI .u32 e9 (IntKind.u32.wrap x8))) (IntKind.i64.wrap ((IntKind.i64.wrap ((quoI .i64 n 32) + v)) + 1)) (IntKind.u32.wrap (shrI .u64 x8 32))).length) :: jj 19 (.sl (List.map (cInt .u32) r1) :: .v (.int .i64 (r1.length : Int)) :: .v (.int .i64 v) :: jj 30 [])), St [some ⟨1, false, true, List.map (cInt .u32) (setL (setL out (IntKind.i64.wrap ((quoI .i64 n 32) + v)) (orI .u32 e9 (IntKind.u32.wrap x8))) (IntKind.i64.wrap ((IntKind.i64.wrap ((quoI .i64 n 32) + v)) + 1)) (IntKind.u32.wrap (shrI .u64 x8 32)))⟩], none, 0⟩) ?_ ?_
  ·exact Wk.weak hU [some 0] _ (by decide) wsI wvI
  have fx := hc5
  refine rq hU (f76_ci_ok _) rgIF <| againN <| ?_
  refine Wk.wpL ?_ (ih (setL (setL out (IntKind.i64.wrap ((quoI .i64 n 32) + v)) (orI .u32 e9 (IntKind.u32.wrap x8))) (IntKind.i64.wrap ((IntKind.i64.wrap ((quoI .i64 n 32) + v)) + 1)) (IntKind.u32.wrap (shrI .u64 x8 32))) (IntKind.i64.wrap (v + 1)) _ h)
  exact Wk.weak hU [some 0] _ (by decide) wsI wvI
 ·rw [if_f hc5] at h
  refine Wp.exit <| thenE <| againE <| ?_
  obtain rfl := sj h
  refine ⟨rfl, ?_⟩
  exact Wk.weak hU [some 0] _ (by decide) wsI wvI
theorem f76_ok (a : List Int) (n : Int) (r : List Int) (h : f76 a n = some r) : PureOK E 76 [.sl (List.map (cInt .u32) a), .v (.int .i64 n)] (.sl (List.map (cInt .u32) r)) := by
 unfold f76 at h
 refine pof (fn := Try.f76) (nt := 60) Try.func76 rfl rfl rfl rfl (fun _ => rfl) (fun base c00 hU => ?_)
 refine Wk.wp (s2 := ⟨.sl (List.map (cInt .u32) a) :: .v (.int .i64 n) :: jj 58 [], St [], none, 0⟩) ?_ ?_
 ·exact Wk.weak hU [] _ (by decide) .nil wvS
 refine rs hU (f76_ci_ok _) rgI <| Wp.seq <| ?_
 obtain ⟨r1, hr1, h⟩ := bind_some h
 have hr1c := fun σ => show f76_ci 72 _ σ = _ from f72_call hr1 σ
 have fx := hr1c
 refine rq hU (f76_ci_ok _) rgIF <| thenN <| Wp.seq <| rs hU (f76_ci_ok _) rgI <| ?_
 refine Wp.cond hU (t := (r1.length : Int) == 0) rfl (fun hc2 => ?_) (fun hc2 => ?_)
 ·rw [if_t hc2] at h
  refine Wp.seq <| ?_
  have fx := hc2
  refine rq hU (f76_ci_ok _) rgIF <| thenN <| Wp.ret <| thenR <| ?_
  obtain rfl := sj h
  refine ⟨.inl rfl, ?_⟩
  refine Rt.wk (s2 := ⟨jj 4 (.sl (List.map (cInt .u32) []) :: jj 55 []), St [], none, 0⟩) ?_ (Rt.of ?_)
  ·exact Wk.weak hU [] _ (by decide) .nil wvI
  have fx := i2 f76_res f76_rt
  exact rtI
 ·rw [if_f hc2] at h
  refine Wp.skip <| thenN <| Wp.seq <| ?_
  have fx := hc2
  refine rq hU (f76_ci_ok _) rgIF <| thenN <| Wp.seq <| ?_
  obtain ⟨m3, hm3, h⟩ := bind_some h
  obtain ⟨hm3a, hm3b, hm3c, hm3d⟩ := mk_some hm3
  have fx := i4 hm3a hm3b hm3c hc2
  refine rq hU (f76_ci_ok _) rgIF <| thenN <| Wp.seq <| Wp.seq <| ?_
  have fx := hc2
  refine rq hU (f76_ci_ok _) rgIF <| thenN <| Wp.block <| ?_
  obtain ⟨o4, ho4, h⟩ := bind_some h
  refine Wp.loop <| ?_
  refine Tw.mono (Wk.wpL (s2 := ⟨jj 5 (.v (.int .i64 (quoI .i64 n 32)) :: .v (.int .u64 (IntKind.u64.wrap (n.tmod 32))) :: .row 0 1 0 ((m3).length) :: jj 19 (.sl (List.map (cInt .u32) r1) :: .v (.int .i64 (r1.length : Int)) :: .v (.int .i64 0) :: jj 30 [])), St [some ⟨1, false, true, List.map (cInt .u32) m3⟩], none, 0⟩) ?_ (f76_l0_ok n r1 hU m3 0 o4 ho4)) (fun ex s1 hp => ?_)
  ·have fe := hm3d
   have fl := hm3d
   have fv := nofx
   exact Wk.weak hU [some 0] _ (by decide) wsIF wvIF
  ·obtain ⟨rfl, hp⟩ := hp
   refine blkE <| thenN <| hp.wp <| Wp.seq <| ?_
   obtain ⟨r11, hr11, h⟩ := bind_some h
   have hr11c := fun σ => show f76_ci 72 _ σ = _ from f72_call hr11 σ
   have fx := i2 hr11c hc2
   refine rq hU (f76_ci_ok _) rgIF <| thenN <| Wp.ret <| ?_
   obtain rfl := sj h
   refine ⟨.inl rfl, ?_⟩
   refine Rt.of <| ?_
   have fx := i3 f76_res f76_rt hm3d
   exact rtI
noncomputable def f76_tbl : CI := tbl 76 (fun p : (List Int) × Int => [.sl (List.map (cInt .u32) p.1), .v (.int .i64 p.2)]) (fun p => (f76 p.1 p.2).map fun r => .sl (List.map (cInt .u32) r))
theorem f76_tbl_ok {base : Nat} : CIOK E base f76_tbl := tbl_okM fun p q h => f76_ok p.1 p.2 q h
theorem f76_call {a : List Int} {n : Int} {r : List Int} (h : f76 a n = some r) (σ : Store) : f76_tbl 76 [.sl (List.map (cInt .u32) a), .v (.int .i64 n)] σ = some (.sl (List.map (cInt .u32) r), σ, none) :=
 tbl_eq (x := (a, n)) (fun x y e => by
  obtain ⟨x0, x1⟩ := x; obtain ⟨y0, y1⟩ := y
  have e0 := av_sl inj_int (List.cons.inj e).1
  have e1 := av_int (List.cons.inj (List.cons.inj e).2).1
  subst e0 e1; rfl) (by simp [h]) σ
def f78_l0 (r1 : List Int) (m3 : List Int) (k_ : Int) (s : Int) (out : List Int) (v : Int) : Option ((List Int)) :=
 if (decide (v < (m3.length : Int))) = true then
  ((rd r1 (IntKind.i64.wrap (k_ + v)) >>= fun e7 =>
  if (decide ((IntKind.i64.wrap ((IntKind.i64.wrap (k_ + v)) + 1)) < (r1.length : Int))) = true then
   (rd r1 (IntKind.i64.wrap ((IntKind.i64.wrap (k_ + v)) + 1)) >>= fun e9 =>
   some (orI .u64 (IntKind.u64.wrap e7) (shlI .u64 (IntKind.u64.wrap e9) 32)) >>= fun x10 =>
   nn s >>= fun u11 =>
   rd out v >>= fun e12 =>
   some (setL out v (IntKind.u32.wrap (shrI .u64 x10 s))))
  else
   nn s >>= fun u13 =>
   rd out v >>= fun e14 =>
   some (setL out v (IntKind.u32.wrap (shrI .u64 (IntKind.u64.wrap e7) s))) : Option ((List Int))) >>= fun o6 =>
  f78_l0 r1 m3 k_ s o6 (IntKind.i64.wrap (v + 1)))
 else
  some out
 partial_fixpoint
/-- sibyl/nats.Shr -/
def f78 (a : List Int) (n : Int) : Option (List Int) :=
 f72 a >>= fun r1 =>
 if (decide ((quoI .i64 n 32) ≥ (r1.length : Int))) = true then
  (some [])
 else
  mk 4 (IntKind.i64.wrap ((r1.length : Int) - (quoI .i64 n 32))) 0 >>= fun m3 =>
  f78_l0 r1 m3 (quoI .i64 n 32) (IntKind.u64.wrap (n.tmod 32)) m3 0 >>= fun o4 =>
  f72 o4 >>= fun r15 =>
  some r15
noncomputable def f78_ci : CI := (CI.or 72 f72_tbl (fun _ _ _ => none))
theorem f78_ci_ok (base : Nat) : CIOK E base f78_ci := (or_ok f72_tbl_ok no_ok)
theorem f78_res : Try.f78.results = #[.tmp 4] := rfl
theorem f78_rt : Try.f78.resultTypes = #[36] := rfl
theorem f78_l0_ok {base : Nat} {c00 : Ctx} (r1 : List Int) (m3 : List Int) (k_ : Int) (s : Int) (hU : Under E base c00 nilStore) : ∀ (out : List Int) (v : Int) (o4 : (List Int)), f78_l0 r1 m3 k_ s out v = some o4 →
  WpL E base c00 nilStore (lb Try.f78 0) ⟨.sl (List.map (cInt .u32) r1) :: jj 4 (.v (.int .i64 k_) :: .v (.int .u64 s) :: .row 0 1 0 ((out).length) :: jj 19 (.v (.int .i64 (m3.length : Int)) :: .v (.int .i64 v) :: jj 37 [])), St [some ⟨1, false, true, List.map (cInt .u32) out⟩], none, 0⟩ (fun ex s1 => ex = .exit 0 ∧ Wk base c00 nilStore s1 ⟨jj 7 (.row 0 1 0 ((o4).length) :: jj 58 []), St [some ⟨1, false, true, List.map (cInt .u32) o4⟩], none, 0⟩) := by
 refine f78_l0.partial_correctness r1 m3 k_ s _ ?_
 intro lp__ ih out v o4 h
 refine WpL.stepE (lbI Try.f78.eq_1) ?_
 refine rs hU (f78_ci_ok _) rgI <| Wp.seq <| ?_
 refine Wp.cond hU (t := decide (v < (m3.length : Int))) rfl (fun hc5 => ?_) (fun hc5 => ?_)
 ·rw [if_t hc5] at h
  refine Wp.skip <| thenN <| ?_
  obtain ⟨o6, ho6, h⟩ := bind_some h
  refine Wp.seq1 (JP := (fun ex s1 => ex = .nrm ∧ Wk base c00 nilStore s1 ⟨.sl (List.map (cInt .u32) r1) :: jj 4 (.v (.int .i64 k_) :: .v (.int .u64 s) :: .row 0 1 0 ((o6).length) :: jj 19 (.v (.int .i64 (m3.length : Int)) :: .v (.int .i64 v) :: jj 37 [])), St [some ⟨1, false, true, List.map (cInt .u32) o6⟩], none, 0⟩)) ?_ (fun ex s1 hp => ?_)
  ·replace h := ho6
   refine Wp.block <| Wp.seq <| ?_
   have fx := hc5
   refine rq hU (f78_ci_ok _) rgIF <| thenN <| Wp.seq <| ?_
   obtain ⟨e7, he7, h⟩ := bind_some h
   obtain ⟨he7a, he7b, he7c⟩ := rd_some he7
   have fx := i4 he7a he7b he7c hc5
   refine rq hU (f78_ci_ok _) rgIF <| thenN <| Wp.seq <| Wp.seq <| ?_
   have fx := hc5
   refine rq hU (f78_ci_ok _) rgIF <| thenN <| ?_
   refine Wp.cond hU (t := decide ((IntKind.i64.wrap ((IntKind.i64.wrap (k_ + v)) + 1)) < (r1.length : Int))) rfl (fun hc8 => ?_) (fun hc8 => ?_)
   ·rw [if_t hc8] at h
    obtain ⟨e9, he9, h⟩ := bind_some h
    obtain ⟨he9a, he9b, he9c⟩ := rd_some he9
    obtain ⟨x10, hx10, h⟩ := bind_some h
    replace hx10 := sj hx10
    have fx := i6 he9a he9b he9c hx10 hc5 hc8
    refine rq hU (f78_ci_ok _) rgIF <| thenN <| ?_
    obtain ⟨u11, hu11, h⟩ := bind_some h
    have hu11a := nn_some hu11
    obtain ⟨e12, he12, h⟩ := bind_some h
    obtain ⟨he12a, he12b, he12c⟩ := rd_some he12
    have fx := i6 hu11a he12a he12b he12c hc5 hc8
    refine rq hU (f78_ci_ok _) rgIF <| blkN <| ?_
    obtain rfl := sj h
    refine ⟨rfl, ?_⟩
    exact Wk.weak hU [some 0] _ (by decide) wsI wvI
   ·rw [if_f hc8] at h
    refine Wp.skip <| thenN <| ?_
    obtain ⟨u13, hu13, h⟩ := bind_some h
    have hu13a := nn_some hu13
    obtain ⟨e14, he14, h⟩ := bind_some h
    obtain ⟨he14a, he14b, he14c⟩ := rd_some he14
    have fx := i6 hu13a he14a he14b he14c hc5 hc8
    refine rq hU (f78_ci_ok _) rgIF <| blkN <| ?_
    obtain rfl := sj h
    refine ⟨rfl, ?_⟩
    exact Wk.weak hU [some 0] _ (by decide) wsI wvI
  ·obtain ⟨rfl, hp⟩ := hp
   refine thenN (hp.wp ?_)
   have fx := hc5
   refine rq hU (f78_ci_ok _) rgIF <| againN <| ?_
   refine Wk.wpL ?_ (ih o6 (IntKind.i64.wrap (v + 1)) _ h)
   exact Wk.weak hU [some 0] _ (by decide) wsI wvI
 ·rw [if_f hc5] at h
  refine Wp.exit <| thenE <| againE <| ?_
  obtain rfl := sj h
  refine ⟨rfl, ?_⟩
  exact Wk.weak hU [some 0] _ (by decide) wsI wvI
theorem f78_ok (a : List Int) (n : Int) (r : List Int) (h : f78 a n = some r) : PureOK E 78 [.sl (List.map (cInt .u32) a), .v (.int .i64 n)] (.sl (List.map (cInt .u32) r)) := by
 unfold f78 at h
 refine pof (fn := Try.f78) (nt := 66) Try.func78 rfl rfl rfl rfl (fun _ => rfl) (fun base c00 hU => ?_)
 refine Wk.wp (s2 := ⟨.sl (List.map (cInt .u32) a) :: .v (.int .i64 n) :: jj 64 [], St [], none, 0⟩) ?_ ?_
 ·exact Wk.weak hU [] _ (by decide) .nil wvS
 refine rs hU (f78_ci_ok _) rgI <| Wp.seq <| ?_
 obtain ⟨r1, hr1, h⟩ := bind_some h
 have hr1c := fun σ => show f78_ci 72 _ σ = _ from f72_call hr1 σ
 have fx := hr1c
 refine rq hU (f78_ci_ok _) rgIF <| thenN <| rs hU (f78_ci_ok _) rgI <| Wp.seq <| rs hU (f78_ci_ok _) rgI <| ?_
 refine Wp.cond hU (t := decide ((quoI .i64 n 32) ≥ (r1.length : Int))) rfl (fun hc2 => ?_) (fun hc2 => ?_)
 ·rw [if_t hc2] at h
  refine Wp.seq <| ?_
  have fx := hc2
  refine rq hU (f78_ci_ok _) rgIF <| thenN <| Wp.ret <| thenR <| ?_
  obtain rfl := sj h
  refine ⟨.inl rfl, ?_⟩
  refine Rt.wk (s2 := ⟨jj 4 (.sl (List.map (cInt .u32) []) :: jj 61 []), St [], none, 0⟩) ?_ (Rt.of ?_)
  ·exact Wk.weak hU [] _ (by decide) .nil wvI
  have fx := i2 f78_res f78_rt
  exact rtI
 ·rw [if_f hc2] at h
  refine Wp.skip <| thenN <| Wp.seq <| ?_
  obtain ⟨m3, hm3, h⟩ := bind_some h
  obtain ⟨hm3a, hm3b, hm3c, hm3d⟩ := mk_some hm3
  have fx := i4 hm3a hm3b hm3c hc2
  refine rq hU (f78_ci_ok _) rgIF <| thenN <| Wp.seq <| Wp.seq <| ?_
  have fx := hc2
  refine rq hU (f78_ci_ok _) rgIF <| thenN <| Wp.block <| ?_
  obtain ⟨o4, ho4, h⟩ := bind_some h
  refine Wp.loop <| ?_
  refine Tw.mono (Wk.wpL (s2 := ⟨.sl (List.map (cInt .u32) r1) :: jj 4 (.v (.int .i64 (quoI .i64 n 32)) :: .v (.int .u64 (IntKind.u64.wrap (n.tmod 32))) :: .row 0 1 0 ((m3).length) :: jj 19 (.v (.int .i64 (m3.length : Int)) :: .v (.int .i64 0) :: jj 37 [])), St [some ⟨1, false, true, List.map (cInt .u32) m3⟩], none, 0⟩) ?_ (f78_l0_ok r1 m3 (quoI .i64 n 32) (IntKind.u64.wrap (n.tmod 32)) hU m3 0 o4 ho4)) (fun ex s1 hp => ?_)
  ·have fe := hm3d
   have fl := hm3d
   have fv := nofx
   exact Wk.weak hU [some 0] _ (by decide) wsIF wvIF
  ·obtain ⟨rfl, hp⟩ := hp
   refine blkE <| thenN <| hp.wp <| Wp.seq <| ?_
   obtain ⟨r15, hr15, h⟩ := bind_some h
   have hr15c := fun σ => show f78_ci 72 _ σ = _ from f72_call hr15 σ
   have fx := i2 hr15c hc2
   refine rq hU (f78_ci_ok _) rgIF <| thenN <| Wp.ret <| ?_
   obtain rfl := sj h
   refine ⟨.inl rfl, ?_⟩
   refine Rt.of <| ?_
   have fx := i3 f78_res f78_rt hm3d
   exact rtI
noncomputable def f78_tbl : CI := tbl 78 (fun p : (List Int) × Int => [.sl (List.map (cInt .u32) p.1), .v (.int .i64 p.2)]) (fun p => (f78 p.1 p.2).map fun r => .sl (List.map (cInt .u32) r))
theorem f78_tbl_ok {base : Nat} : CIOK E base f78_tbl := tbl_okM fun p q h => f78_ok p.1 p.2 q h
theorem f78_call {a : List Int} {n : Int} {r : List Int} (h : f78 a n = some r) (σ : Store) : f78_tbl 78 [.sl (List.map (cInt .u32) a), .v (.int .i64 n)] σ = some (.sl (List.map (cInt .u32) r), σ, none) :=
 tbl_eq (x := (a, n)) (fun x y e => by
  obtain ⟨x0, x1⟩ := x; obtain ⟨y0, y1⟩ := y
  have e0 := av_sl inj_int (List.cons.inj e).1
  have e1 := av_int (List.cons.inj (List.cons.inj e).2).1
  subst e0 e1; rfl) (by simp [h]) σ
/-- math/bits.Add32 -/
def f80 (x : Int) (y : Int) (carry : Int) : Option (Int × Int) :=
 some (IntKind.u64.wrap ((IntKind.u64.wrap ((IntKind.u64.wrap x) + (IntKind.u64.wrap y))) + (IntKind.u64.wrap carry))) >>= fun x1 =>
 some (IntKind.u32.wrap x1, IntKind.u32.wrap (shrI .u64 x1 32))
theorem f80_res : Try.f80.results = #[.tmp 6, .tmp 7] := rfl
theorem f80_rt : Try.f80.resultTypes = #[42, 42] := rfl
theorem f80_ok (x : Int) (y : Int) (carry : Int) (r : Int × Int) (h : f80 x y carry = some r) : PureOK E 80 [.v (.int .u32 x), .v (.int .u32 y), .v (.int .u32 carry)] (.tup [.v (.int .u32 r.1), .v (.int .u32 r.2)]) := by
 unfold f80 at h
 refine pof (fn := Try.f80) (nt := 22) Try.func80 rfl rfl rfl rfl (fun _ => rfl) (fun base c00 hU => ?_)
 refine Wk.wp (s2 := ⟨.v (.int .u32 x) :: .v (.int .u32 y) :: .v (.int .u32 carry) :: jj 19 [], St [], none, 0⟩) ?_ ?_
 ·exact Wk.weak hU [] _ (by decide) .nil wvS
 refine rs hU no_ok rgI <| Wp.seq <| ?_
 obtain ⟨x1, hx1, h⟩ := bind_some h
 replace hx1 := sj hx1
 have fx := hx1
 refine rq hU no_ok rgIF <| thenN <| rs hU no_ok rgI <| rs hU no_ok rgI <| Wp.ret <| ?_
 obtain rfl := sj h
 refine ⟨.inl rfl, ?_⟩
 refine Rt.of <| ?_
 have fx := i2 f80_res f80_rt
 exact rtI
noncomputable def f80_tbl : CI := tbl 80 (fun p : Int × Int × Int => [.v (.int .u32 p.1), .v (.int .u32 p.2.1), .v (.int .u32 p.2.2)]) (fun p => (f80 p.1 p.2.1 p.2.2).map fun r => .tup [.v (.int .u32 r.1), .v (.int .u32 r.2)])
theorem f80_tbl_ok {base : Nat} : CIOK E base f80_tbl := tbl_okM fun p q h => f80_ok p.1 p.2.1 p.2.2 q h
theorem f80_call {x : Int} {y : Int} {carry : Int} {r : Int × Int} (h : f80 x y carry = some r) (σ : Store) : f80_tbl 80 [.v (.int .u32 x), .v (.int .u32 y), .v (.int .u32 carry)] σ = some (.tup [.v (.int .u32 r.1), .v (.int .u32 r.2)], σ, none) :=
 tbl_eq (x := (x, y, carry)) (fun x y e => by
  obtain ⟨x0, x1, x2⟩ := x; obtain ⟨y0, y1, y2⟩ := y
  have e0 := av_int (List.cons.inj e).1
  have e1 := av_int (List.cons.inj (List.cons.inj e).2).1
  have e2 := av_int (List.cons.inj (List.cons.inj (List.cons.inj e).2).2).1
  subst e0 e1 e2; rfl) (by simp [h]) σ
def f77_l0 (u : List Int) (u_lo : Nat) (u_n : Nat) (v : List Int) (g : Int) (r_ : Int) : Option (Int) :=
 if (decide (g ≥ 4294967296)) = true then
  (rd v (IntKind.i64.wrap ((v.length : Int) - 1)) >>= fun e8 =>
  some (IntKind.u64.wrap (r_ + (IntKind.u64.wrap e8))) >>= fun x9 =>
  if (decide (x9 ≥ 4294967296)) = true then
   (some (IntKind.u64.wrap (g - 1)))
  else
   f77_l0 u u_lo u_n v (IntKind.u64.wrap (g - 1)) x9)
 else
  rd v (IntKind.i64.wrap ((v.length : Int) - 2)) >>= fun e8 =>
  rdo u u_lo u_n (IntKind.i64.wrap ((v.length : Int) - 2)) >>= fun e9 =>
  if (decide ((IntKind.u64.wrap (g * (IntKind.u64.wrap e8))) > (orI .u64 (shlI .u64 r_ 32) (IntKind.u64.wrap e9)))) = true then
   (rd v (IntKind.i64.wrap ((v.length : Int) - 1)) >>= fun e11 =>
   some (IntKind.u64.wrap (r_ + (IntKind.u64.wrap e11))) >>= fun x12 =>
   if (decide (x12 ≥ 4294967296)) = true then
    (some (IntKind.u64.wrap (g - 1)))
   else
    f77_l0 u u_lo u_n v (IntKind.u64.wrap (g - 1)) x12)
  else
   some g
 partial_fixpoint
def f77_l1 (u_lo : Nat) (u_n : Nat) (v : List Int) (o7 : Int) (l0 : List Int) (borrow : Int) (carry : Int) (v_1 : Int) : Option ((List Int) × Int × Int) :=
 if (decide (v_1 < (v.length : Int))) = true then
  (rd v v_1 >>= fun e16 =>
  some (IntKind.u64.wrap ((IntKind.u64.wrap (o7 * (IntKind.u64.wrap e16))) + carry)) >>= fun x17 =>
  rdo l0 u_lo u_n v_1 >>= fun e18 =>
  some (IntKind.u64.wrap ((IntKind.u64.wrap ((IntKind.u64.wrap e18) - (IntKind.u64.wrap (IntKind.u32.wrap x17)))) - borrow)) >>= fun x19 =>
  rdo l0 u_lo u_n v_1 >>= fun e20 =>
  f77_l1 u_lo u_n v o7 (setO l0 u_lo v_1 (IntKind.u32.wrap x19)) (shrI .u64 x19 63) (shrI .u64 x17 32) (IntKind.i64.wrap (v_1 + 1)))
 else
  some (l0, borrow, carry)
 partial_fixpoint
def f77_l2 (u_lo : Nat) (u_n : Nat) (v : List Int) (l0 : List Int) (c : Int) (v_1 : Int) : Option ((List Int) × Int) :=
 if (decide (v_1 < (v.length : Int))) = true then
  (rdo l0 u_lo u_n v_1 >>= fun e27 =>
  rd v v_1 >>= fun e28 =>
  f80 e27 e28 c >>= fun r29 =>
  f77_l2 u_lo u_n v (setO l0 u_lo v_1 r29.1) r29.2 (IntKind.i64.wrap (v_1 + 1)))
 else
  some (l0, c)
 partial_fixpoint
/-- sibyl/nats.digit -/
def f77 (u : List Int) (u_lo : Nat) (u_n : Nat) (v : List Int) : Option (Int × (List Int)) :=
 rdo u u_lo u_n (v.length : Int) >>= fun e1 =>
 rdo u u_lo u_n (IntKind.i64.wrap ((v.length : Int) - 1)) >>= fun e2 =>
 some (orI .u64 (shlI .u64 (IntKind.u64.wrap e1) 32) (IntKind.u64.wrap e2)) >>= fun x3 =>
 rd v (IntKind.i64.wrap ((v.length : Int) - 1)) >>= fun e4 =>
 nz (IntKind.u64.wrap e4) >>= fun u5 =>
 nz (IntKind.u64.wrap e4) >>= fun u6 =>
 f77_l0 u u_lo u_n v (quoI .u64 x3 (IntKind.u64.wrap e4)) (x3.tmod (IntKind.u64.wrap e4)) >>= fun o7 =>
 f77_l1 u_lo u_n v o7 u 0 0 0 >>= fun o14 =>
 rdo o14.1 u_lo u_n (v.length : Int) >>= fun e21 =>
 some (IntKind.u64.wrap ((IntKind.u64.wrap ((IntKind.u64.wrap e21) - o14.2.2)) - o14.2.1)) >>= fun x22 =>
 rdo o14.1 u_lo u_n (v.length : Int) >>= fun e23 =>
 if ((shrI .u64 x22 63) == 0) = true then
  (some (IntKind.u32.wrap o7, setO o14.1 u_lo (v.length : Int) (IntKind.u32.wrap x22)))
 else
  f77_l2 u_lo u_n v (setO o14.1 u_lo (v.length : Int) (IntKind.u32.wrap x22)) 0 0 >>= fun o25 =>
  rdo o25.1 u_lo u_n (v.length : Int) >>= fun e30 =>
  some (IntKind.u32.wrap (IntKind.u64.wrap (o7 - 1))) >>= fun x31 =>
  some (x31, setO o25.1 u_lo (v.length : Int) (IntKind.u32.wrap (e30 + o25.2)))
noncomputable def f77_ci : CI := (CI.or 80 f80_tbl (fun _ _ _ => none))
theorem f77_ci_ok (base : Nat) : CIOK E base f77_ci := (or_ok f80_tbl_ok no_ok)
theorem f77_res : Try.f77.results = #[.tmp 4] := rfl
def f77_S (u : List Int) (u_lo : Nat) (u_n : Nat) (v : List Int) : List (Option Obj) := [some ⟨1, false, true, List.map (cInt .u32) u⟩]
theorem f77_l0_ok {base : Nat} {c00 : Ctx} (u : List Int) (u_lo : Nat) (u_n : Nat) (v : List Int) (hU : Under E base c00 (St (f77_S u u_lo u_n v))) : ∀ (g : Int) (r_ : Int) (o7 : Int), f77_l0 u u_lo u_n v g r_ = some o7 →
  WpL E base c00 (St (f77_S u u_lo u_n v)) (lb Try.f77 0) ⟨.row 0 1 u_lo u_n :: .sl (List.map (cInt .u32) v) :: jj 3 (.v (.int .i64 (v.length : Int)) :: jj 1 (.v (.int .u64 g) :: .v (.int .u64 r_) :: jj 157 [])), St [some ⟨1, false, true, List.map (cInt .u32) u⟩], some 0, 1⟩ (fun ex s1 => ex = .exit 0 ∧ Wk base c00 (St (f77_S u u_lo u_n v)) s1 ⟨.row 0 1 u_lo u_n :: .sl (List.map (cInt .u32) v) :: jj 3 (.v (.int .i64 (v.length : Int)) :: jj 1 (.v (.int .u64 o7) :: jj 158 [])), St [some ⟨1, false, true, List.map (cInt .u32) u⟩], some 0, 1⟩) := by
 refine f77_l0.partial_correctness u u_lo u_n v _ ?_
 intro lp__ ih g r_ o7 h
 refine WpL.stepE (lbI Try.f77.eq_1) ?_
 refine Wp.seq <| Wp.seq <| ?_
 rcases Bool.eq_false_or_eq_true (decide (g ≥ 4294967296)) with hg36 | hg36
 ·rw [if_t hg36] at h
  have fx := hg36
  refine Wp.regionT hU (f77_ci_ok _) rgJF (by kernel_rfl) <| thenN <| ?_
  refine Wp.cond hU (t := true) rfl (fun _ => ?_) (fun hc => by cases hc)
  refine Wp.skip <| thenN <| Wp.block <| rs hU (f77_ci_ok _) rgJF <| Wp.seq <| ?_
  obtain ⟨e8, he8, h⟩ := bind_some h
  obtain ⟨he8a, he8b, he8c⟩ := rd_some he8
  obtain ⟨x9, hx9, h⟩ := bind_some h
  replace hx9 := sj hx9
  have fx := i5 he8a he8b he8c hx9 hg36
  refine rq hU (f77_ci_ok _) rgJF <| thenN <| Wp.seq <| ?_
  have fx := hg36
  refine rq hU (f77_ci_ok _) rgJF <| thenN <| ?_
  refine Wp.cond hU (t := decide (x9 ≥ 4294967296)) rfl (fun hc10 => ?_) (fun hc10 => ?_)
  ·rw [if_t hc10] at h
   refine Wp.exit <| ?_
   refine blkX (by decide) ?_
   refine againE <| ?_
   obtain rfl := sj h
   refine ⟨rfl, ?_⟩
   exact Wk.weakK hU [some 0] _ (by decide) (k := 1) rfl rfl wsJ wvJ
  ·rw [if_f hc10] at h
   refine Wp.skip <| blkN <| againN <| ?_
   refine Wk.wpL ?_ (ih (IntKind.u64.wrap (g - 1)) x9 _ h)
   exact Wk.weakK hU [some 0] _ (by decide) (k := 1) rfl rfl wsJ wvJ
 ·rw [if_f hg36] at h
  obtain ⟨e8, he8, h⟩ := bind_some h
  obtain ⟨he8a, he8b, he8c⟩ := rd_some he8
  obtain ⟨e9, he9, h⟩ := bind_some h
  obtain ⟨he9a, he9b, he9c⟩ := rdo_some he9
  try simp only [Int.toNat_natCast] at he9b he9c
  have fx := i7 he8a he8b he8c he9a he9b he9c hg36
  refine Wp.regionT hU (f77_ci_ok _) rgJF (by kernel_rfl) <| thenN <| ?_
  refine Wp.cond hU (t := decide ((IntKind.u64.wrap (g * (IntKind.u64.wrap e8))) > (orI .u64 (shlI .u64 r_ 32) (IntKind.u64.wrap e9)))) rfl (fun hc10 => ?_) (fun hc10 => ?_)
  ·rw [if_t hc10] at h
   refine Wp.skip <| thenN <| Wp.block <| Wp.seq <| ?_
   have fx := i2 hg36 hc10
   refine rq hU (f77_ci_ok _) rgJF <| thenN <| Wp.seq <| ?_
   obtain ⟨e11, he11, h⟩ := bind_some h
   obtain ⟨he11a, he11b, he11c⟩ := rd_some he11
   obtain ⟨x12, hx12, h⟩ := bind_some h
   replace hx12 := sj hx12
   have fx := i6 he11a he11b he11c hx12 hg36 hc10
   refine rq hU (f77_ci_ok _) rgJF <| thenN <| Wp.seq <| ?_
   have fx := i2 hg36 hc10
   refine rq hU (f77_ci_ok _) rgJF <| thenN <| ?_
   refine Wp.cond hU (t := decide (x12 ≥ 4294967296)) rfl (fun hc13 => ?_) (fun hc13 => ?_)
   ·rw [if_t hc13] at h
    refine Wp.exit <| ?_
    refine blkX (by decide) ?_
    refine againE <| ?_
    obtain rfl := sj h
    refine ⟨rfl, ?_⟩
    exact Wk.weakK hU [some 0] _ (by decide) (k := 1) rfl rfl wsJ wvJ
   ·rw [if_f hc13] at h
    refine Wp.skip <| blkN <| againN <| ?_
    refine Wk.wpL ?_ (ih (IntKind.u64.wrap (g - 1)) x12 _ h)
    exact Wk.weakK hU [some 0] _ (by decide) (k := 1) rfl rfl wsJ wvJ
  ·rw [if_f hc10] at h
   refine Wp.exit <| thenE <| againE <| ?_
   obtain rfl := sj h
   refine ⟨rfl, ?_⟩
   exact Wk.weakK hU [some 0] _ (by decide) (k := 1) rfl rfl wsJ wvJ
theorem f77_l1_ok {base : Nat} {c00 : Ctx} (u_lo : Nat) (u_n : Nat) (v : List Int) (o7 : Int) (u : List Int) (hU : Under E base c00 (St (f77_S u u_lo u_n v))) : ∀ (l0 : List Int) (borrow : Int) (carry : Int) (v_1 : Int) (o14 : (List Int) × Int × Int), f77_l1 u_lo u_n v o7 l0 borrow carry v_1 = some o14 →
  WpL E base c00 (St (f77_S u u_lo u_n v)) (lb Try.f77 1) ⟨.row 0 1 u_lo u_n :: .sl (List.map (cInt .u32) v) :: jj 3 (.v (.int .i64 (v.length : Int)) :: jj 1 (.v (.int .u64 o7) :: jj 1 (.v (.int .u64 borrow) :: .v (.int .u64 carry) :: jj 71 (.v (.int .i64 (v.length : Int)) :: .v (.int .i64 v_1) :: jj 82 [])))), St [some ⟨1, false, true, List.map (cInt .u32) l0⟩], some 0, 1⟩ (fun ex s1 => ex = .exit 2 ∧ Wk base c00 (St (f77_S u u_lo u_n v)) s1 ⟨.row 0 1 u_lo u_n :: .sl (List.map (cInt .u32) v) :: jj 3 (.v (.int .i64 (v.length : Int)) :: jj 1 (.v (.int .u64 o7) :: jj 1 (.v (.int .u64 o14.2.1) :: .v (.int .u64 o14.2.2) :: jj 155 []))), St [some ⟨1, false, true, List.map (cInt .u32) o14.1⟩], some 0, 1⟩) := by
 refine f77_l1.partial_correctness u_lo u_n v o7 _ ?_
 intro lp__ ih l0 borrow carry v_1 o14 h
 refine WpL.stepE (lbI Try.f77.eq_1) ?_
 refine rs hU (f77_ci_ok _) rgJ <| Wp.seq <| ?_
 refine Wp.cond hU (t := decide (v_1 < (v.length : Int))) rfl (fun hc15 => ?_) (fun hc15 => ?_)
 ·rw [if_t hc15] at h
  refine Wp.skip <| thenN <| Wp.seq <| Wp.block <| Wp.seq <| ?_
  have fx := hc15
  refine rq hU (f77_ci_ok _) rgJF <| thenN <| Wp.seq <| ?_
  obtain ⟨e16, he16, h⟩ := bind_some h
  obtain ⟨he16a, he16b, he16c⟩ := rd_some he16
  obtain ⟨x17, hx17, h⟩ := bind_some h
  replace hx17 := sj hx17
  have fx := i5 he16a he16b he16c hx17 hc15
  refine rq hU (f77_ci_ok _) rgJF <| thenN <| Wp.seq <| ?_
  have fx := hc15
  refine rq hU (f77_ci_ok _) rgJF <| thenN <| Wp.seq <| ?_
  obtain ⟨e18, he18, h⟩ := bind_some h
  obtain ⟨he18a, he18b, he18c⟩ := rdo_some he18
  try simp only [Int.toNat_natCast] at he18b he18c
  obtain ⟨x19, hx19, h⟩ := bind_some h
  replace hx19 := sj hx19
  have fx := i5 he18a he18b he18c hx19 hc15
  refine rq hU (f77_ci_ok _) rgJF <| thenN <| ?_
  obtain ⟨e20, he20, h⟩ := bind_some h
  obtain ⟨he20a, he20b, he20c⟩ := rdo_some he20
  try simp only [Int.toNat_natCast] at he20b he20c
  have fx := i4 he20a he20b he20c hc15
  refine rq hU (f77_ci_ok _) rgJF <| blkN <| thenN <| ?_
  refine Wk.wp (s2 := ⟨.row 0 1 u_lo u_n :: .sl (List.map (cInt .u32) v) :: jj 3 (.v (.int .i64 (v.length : Int)) :: jj 1 (.v (.int .u64 o7) :: jj 1 (.v (.int .u64 (shrI .u64 x19 63)) :: .v (.int .u64 (shrI .u64 x17 32)) :: jj 71 (.v (.int .i64 (v.length : Int)) :: .v (.int .i64 v_1) :: jj 82 [])))), St [some ⟨1, false, true, List.map (cInt .u32) (setO l0 u_lo v_1 (IntKind.u32.wrap x19))⟩], some 0, 1⟩) ?_ ?_
  ·exact Wk.weakK hU [some 0] _ (by decide) (k := 1) rfl rfl wsJ wvJ
  have fx := hc15
  refine rq hU (f77_ci_ok _) rgJF <| againN <| ?_
  refine Wk.wpL ?_ (ih (setO l0 u_lo v_1 (IntKind.u32.wrap x19)) (shrI .u64 x19 63) (shrI .u64 x17 32) (IntKind.i64.wrap (v_1 + 1)) _ h)
  exact Wk.weakK hU [some 0] _ (by decide) (k := 1) rfl rfl wsJ wvJ
 ·rw [if_f hc15] at h
  refine Wp.exit <| thenE <| againE <| ?_
  obtain rfl := sj h
  refine ⟨rfl, ?_⟩
  exact Wk.weakK hU [some 0] _ (by decide) (k := 1) rfl rfl wsJ wvJ
theorem f77_l2_ok {base : Nat} {c00 : Ctx} (u_lo : Nat) (u_n : Nat) (v : List Int) (u : List Int) (o7 : Int) (hU : Under E base c00 (St (f77_S u u_lo u_n v))) : ∀ (l0 : List Int) (c : Int) (v_1 : Int) (o25 : (List Int) × Int), f77_l2 u_lo u_n v l0 c v_1 = some o25 →
  WpL E base c00 (St (f77_S u u_lo u_n v)) (lb Try.f77 2) ⟨.row 0 1 u_lo u_n :: .sl (List.map (cInt .u32) v) :: jj 3 (.v (.int .i64 (v.length : Int)) :: jj 1 (.v (.int .u64 o7) :: jj 7 (.v (.int .u32 c) :: jj 119 (.v (.int .i64 (v.length : Int)) :: .v (.int .i64 v_1) :: jj 29 [])))), St [some ⟨1, false, true, List.map (cInt .u32) l0⟩], some 0, 1⟩ (fun ex s1 => ex = .exit 4 ∧ Wk base c00 (St (f77_S u u_lo u_n v)) s1 ⟨.row 0 1 u_lo u_n :: jj 4 (.v (.int .i64 (v.length : Int)) :: jj 1 (.v (.int .u64 o7) :: jj 7 (.v (.int .u32 o25.2) :: jj 150 []))), St [some ⟨1, false, true, List.map (cInt .u32) o25.1⟩], some 0, 1⟩) := by
 refine f77_l2.partial_correctness u_lo u_n v _ ?_
 intro lp__ ih l0 c v_1 o25 h
 refine WpL.stepE (lbI Try.f77.eq_1) ?_
 refine rs hU (f77_ci_ok _) rgJ <| Wp.seq <| ?_
 refine Wp.cond hU (t := decide (v_1 < (v.length : Int))) rfl (fun hc26 => ?_) (fun hc26 => ?_)
 ·rw [if_t hc26] at h
  refine Wp.skip <| thenN <| Wp.seq <| Wp.block <| Wp.seq <| ?_
  have fx := hc26
  refine rq hU (f77_ci_ok _) rgJF <| thenN <| ?_
  obtain ⟨e27, he27, h⟩ := bind_some h
  obtain ⟨he27a, he27b, he27c⟩ := rdo_some he27
  try simp only [Int.toNat_natCast] at he27b he27c
  obtain ⟨e28, he28, h⟩ := bind_some h
  obtain ⟨he28a, he28b, he28c⟩ := rd_some he28
  obtain ⟨r29, hr29, h⟩ := bind_some h
  have hr29c := fun σ => show f77_ci 80 _ σ = _ from f80_call hr29 σ
  have fx := i8 he27a he27b he27c he28a he28b he28c hr29c hc26
  refine Wp.regionT hU (f77_ci_ok _) rgJF (by kernel_rfl) <| blkN <| thenN <| ?_
  refine Wk.wp (s2 := ⟨.row 0 1 u_lo u_n :: .sl (List.map (cInt .u32) v) :: jj 3 (.v (.int .i64 (v.length : Int)) :: jj 1 (.v (.int .u64 o7) :: jj 7 (.v (.int .u32 r29.2) :: jj 119 (.v (.int .i64 (v.length : Int)) :: .v (.int .i64 v_1) :: jj 29 [])))), St [some ⟨1, false, true, List.map (cInt .u32) (setO l0 u_lo v_1 r29.1)⟩], some 0, 1⟩) ?_ ?_
  ·exact Wk.weakK hU [some 0] _ (by decide) (k := 1) rfl rfl wsJ wvJ
  have fx := hc26
  refine rq hU (f77_ci_ok _) rgJF <| againN <| ?_
  refine Wk.wpL ?_ (ih (setO l0 u_lo v_1 r29.1) r29.2 (IntKind.i64.wrap (v_1 + 1)) _ h)
  exact Wk.weakK hU [some 0] _ (by decide) (k := 1) rfl rfl wsJ wvJ
 ·rw [if_f hc26] at h
  refine Wp.exit <| thenE <| againE <| ?_
  obtain rfl := sj h
  refine ⟨rfl, ?_⟩
  exact Wk.weakK hU [some 0] _ (by decide) (k := 1) rfl rfl wsJ wvJ
theorem f77_ok (u : List Int) (u_lo : Nat) (u_n : Nat) (v : List Int) (r : Int × (List Int)) (h : f77 u u_lo u_n v = some r) : RefC E 77 1 [.row 0 1 u_lo u_n, .sl (List.map (cInt .u32) v)] (f77_S u u_lo u_n v) (.v (.int .u32 r.1)) [some ⟨1, false, true, List.map (cInt .u32) r.2⟩] := by
 unfold f77 at h
 refine ref_of_wp tabOK mixed (fn := Try.f77) (nt := 166) Try.func77 rfl rfl (names _ _ Try.func77) (fun _ => rfl) (refOK_of rfl) (fun base c00 hU => ?_)
 refine Wk.wp (s2 := ⟨.row 0 1 u_lo u_n :: .sl (List.map (cInt .u32) v) :: jj 164 [], St [some ⟨1, false, true, List.map (cInt .u32) u⟩], some 0, 1⟩) ?_ ?_
 ·refine Wk.weakK hU [some 0] _ (by decide) (k := 1) rfl rfl ?_ ?_
  refine .obj rfl ?_ ?_
  ·exact .same _ _ _
  ·exact .nil
  simp only [jjs, List.length_cons, List.length_nil, Nat.reduceAdd, Nat.reduceSub, List.replicate, List.cons_append, List.nil_append]
  repeat' (first | exact WVs.nil | refine WVs.cons ?_ ?_)
  all_goals first | exact WV.junk _ | exact WV.keep rfl | exact WV.row rfl | exact WV.ptr rfl | exact WV.tptr rfl | exact .agg rfl (aggKeep rfl)
 refine rs hU (f77_ci_ok _) rgJ <| rs hU (f77_ci_ok _) rgJ <| Wp.seq <| ?_
 obtain ⟨e1, he1, h⟩ := bind_some h
 obtain ⟨he1a, he1b, he1c⟩ := rdo_some he1
 try simp only [Int.toNat_natCast] at he1b he1c
 obtain ⟨e2, he2, h⟩ := bind_some h
 obtain ⟨he2a, he2b, he2c⟩ := rdo_some he2
 try simp only [Int.toNat_natCast] at he2b he2c
 obtain ⟨x3, hx3, h⟩ := bind_some h
 replace hx3 := sj hx3
 have fx := i7 he1a he1b he1c he2a he2b he2c hx3
 refine Wp.regionT hU (f77_ci_ok _) rgJF (by kernel_rfl) <| thenN <| Wp.seq <| ?_
 obtain ⟨e4, he4, h⟩ := bind_some h
 obtain ⟨he4a, he4b, he4c⟩ := rd_some he4
 obtain ⟨u5, hu5, h⟩ := bind_some h
 have hu5a := nz_some hu5
 obtain ⟨u6, hu6, h⟩ := bind_some h
 have hu6a := nz_some hu6
 have fx := i5 he4a he4b he4c hu5a hu6a
 refine Wp.regionT hU (f77_ci_ok _) rgJF (by kernel_rfl) <| thenN <| Wp.seq <| Wp.block <| ?_
 obtain ⟨o7, ho7, h⟩ := bind_some h
 refine Wp.loop <| ?_
 refine Tw.mono (Wk.wpL (s2 := ⟨.row 0 1 u_lo u_n :: .sl (List.map (cInt .u32) v) :: jj 3 (.v (.int .i64 (v.length : Int)) :: jj 1 (.v (.int .u64 (quoI .u64 x3 (IntKind.u64.wrap e4))) :: .v (.int .u64 (x3.tmod (IntKind.u64.wrap e4))) :: jj 157 [])), St [some ⟨1, false, true, List.map (cInt .u32) u⟩], some 0, 1⟩) ?_ (f77_l0_ok u u_lo u_n v hU (quoI .u64 x3 (IntKind.u64.wrap e4)) (x3.tmod (IntKind.u64.wrap e4)) o7 ho7)) (fun ex s1 hp => ?_)
 ·exact Wk.weakK hU [some 0] _ (by decide) (k := 1) rfl rfl wsJ wvJ
 ·obtain ⟨rfl, hp⟩ := hp
  refine blkE <| thenN <| hp.wp <| rs hU (f77_ci_ok _) rgJ <| Wp.seq <| rs hU (f77_ci_ok _) rgJ <| Wp.block <| ?_
  obtain ⟨o14, ho14, h⟩ := bind_some h
  refine Wp.loop <| ?_
  refine Tw.mono (Wk.wpL (s2 := ⟨.row 0 1 u_lo u_n :: .sl (List.map (cInt .u32) v) :: jj 3 (.v (.int .i64 (v.length : Int)) :: jj 1 (.v (.int .u64 o7) :: jj 1 (.v (.int .u64 0) :: .v (.int .u64 0) :: jj 71 (.v (.int .i64 (v.length : Int)) :: .v (.int .i64 0) :: jj 82 [])))), St [some ⟨1, false, true, List.map (cInt .u32) u⟩], some 0, 1⟩) ?_ (f77_l1_ok u_lo u_n v o7 u hU u 0 0 0 o14 ho14)) (fun ex s1 hp => ?_)
  ·exact Wk.weakK hU [some 0] _ (by decide) (k := 1) rfl rfl wsJ wvJ
  ·obtain ⟨rfl, hp⟩ := hp
   refine blkE <| thenN <| hp.wp <| Wp.seq <| ?_
   obtain ⟨e21, he21, h⟩ := bind_some h
   obtain ⟨he21a, he21b, he21c⟩ := rdo_some he21
   try simp only [Int.toNat_natCast] at he21b he21c
   obtain ⟨x22, hx22, h⟩ := bind_some h
   replace hx22 := sj hx22
   have fx := i4 he21a he21b he21c hx22
   refine rq hU (f77_ci_ok _) rgJF <| thenN <| Wp.seq <| ?_
   obtain ⟨e23, he23, h⟩ := bind_some h
   obtain ⟨he23a, he23b, he23c⟩ := rdo_some he23
   try simp only [Int.toNat_natCast] at he23b he23c
   have fx := i3 he23a he23b he23c
   refine rq hU (f77_ci_ok _) rgJF <| thenN <| ?_
   refine Wk.wp (s2 := ⟨.row 0 1 u_lo u_n :: .sl (List.map (cInt .u32) v) :: jj 3 (.v (.int .i64 (v.length : Int)) :: jj 1 (.v (.int .u64 o7) :: jj 6 (.v (.int .u64 x22) :: jj 151 []))), St [some ⟨1, false, true, List.map (cInt .u32) (setO o14.1 u_lo (v.length : Int) (IntKind.u32.wrap x22))⟩], some 0, 1⟩) ?_ ?_
   ·exact Wk.weakK hU [some 0] _ (by decide) (k := 1) rfl rfl wsJ wvJ
   refine Wp.seq <| rs hU (f77_ci_ok _) rgJ <| ?_
   refine Wp.cond hU (t := (shrI .u64 x22 63) == 0) rfl (fun hc24 => ?_) (fun hc24 => ?_)
   ·rw [if_t hc24] at h
    refine Wp.seq <| ?_
    have fx := hc24
    refine rq hU (f77_ci_ok _) rgJF <| thenN <| Wp.ret <| thenR <| ?_
    obtain rfl := sj h
    refine ⟨.inl rfl, ?_⟩
    refine RtR.wk (s2 := ⟨jj 4 (.v (.int .u32 (IntKind.u32.wrap o7)) :: jj 161 []), St [some ⟨1, false, true, List.map (cInt .u32) (setO o14.1 u_lo (v.length : Int) (IntKind.u32.wrap x22))⟩], some 0, 1⟩) ?_ (RtR.of rfl rfl)
    ·exact Wk.weakK hU [some 0] _ (by decide) (k := 1) rfl rfl wsJ wvJ
   ·rw [if_f hc24] at h
    refine Wp.skip <| thenN <| Wp.seq <| ?_
    have fx := hc24
    refine rq hU (f77_ci_ok _) rgJF <| thenN <| Wp.seq <| rs hU (f77_ci_ok _) rgJF <| Wp.block <| ?_
    obtain ⟨o25, ho25, h⟩ := bind_some h
    refine Wp.loop <| ?_
    refine Tw.mono (Wk.wpL (s2 := ⟨.row 0 1 u_lo u_n :: .sl (List.map (cInt .u32) v) :: jj 3 (.v (.int .i64 (v.length : Int)) :: jj 1 (.v (.int .u64 o7) :: jj 7 (.v (.int .u32 0) :: jj 119 (.v (.int .i64 (v.length : Int)) :: .v (.int .i64 0) :: jj 29 [])))), St [some ⟨1, false, true, List.map (cInt .u32) (setO o14.1 u_lo (v.length : Int) (IntKind.u32.wrap x22))⟩], some 0, 1⟩) ?_ (f77_l2_ok u_lo u_n v u o7 hU (setO o14.1 u_lo (v.length : Int) (IntKind.u32.wrap x22)) 0 0 o25 ho25)) (fun ex s1 hp => ?_)
    ·exact Wk.weakK hU [some 0] _ (by decide) (k := 1) rfl rfl wsJ wvJ
    ·obtain ⟨rfl, hp⟩ := hp
     refine blkE <| thenN <| hp.wp <| Wp.seq <| ?_
     obtain ⟨e30, he30, h⟩ := bind_some h
     obtain ⟨he30a, he30b, he30c⟩ := rdo_some he30
     try simp only [Int.toNat_natCast] at he30b he30c
     have fx := i4 he30a he30b he30c hc24
     refine rq hU (f77_ci_ok _) rgJF <| thenN <| ?_
     refine Wk.wp (s2 := ⟨jj 7 (.v (.int .u64 o7) :: jj 158 []), St [some ⟨1, false, true, List.map (cInt .u32) (setO o25.1 u_lo (v.length : Int) (IntKind.u32.wrap (e30 + o25.2)))⟩], some 0, 1⟩) ?_ ?_
     ·exact Wk.weakK hU [some 0] _ (by decide) (k := 1) rfl rfl wsJ wvJ
     refine Wp.seq <| ?_
     obtain ⟨x31, hx31, h⟩ := bind_some h
     replace hx31 := sj hx31
     have fx := i2 hx31 hc24
     refine rq hU (f77_ci_ok _) rgJF <| thenN <| Wp.ret <| ?_
     obtain rfl := sj h
     refine ⟨.inl rfl, ?_⟩
     refine RtR.wk (s2 := ⟨jj 4 (.v (.int .u32 x31) :: jj 161 []), St [some ⟨1, false, true, List.map (cInt .u32) (setO o25.1 u_lo (v.length : Int) (IntKind.u32.wrap (e30 + o25.2)))⟩], some 0, 1⟩) ?_ (RtR.of rfl rfl)
     ·exact Wk.weakK hU [some 0] _ (by decide) (k := 1) rfl rfl wsJ wvJ
theorem f77_l1_len (u_lo u_n : Nat) (v : List Int) (o7 : Int) : ∀ (l0 : List Int) (b c j : Int) (o : List Int × Int × Int), f77_l1 u_lo u_n v o7 l0 b c j = some o → o.1.length = l0.length := by
 refine f77_l1.partial_correctness u_lo u_n v o7 _ ?_
 intro lp ih l0 b c j o h
 split at h
 ·obtain ⟨_, _, h⟩ := bind_some h
  obtain ⟨_, _, h⟩ := bind_some h
  obtain ⟨_, _, h⟩ := bind_some h
  obtain ⟨_, _, h⟩ := bind_some h
  obtain ⟨_, _, h⟩ := bind_some h
  have := ih _ _ _ _ _ h
  simpa only [setO_len] using this
 ·cases h; rfl
theorem f77_l2_len (u_lo u_n : Nat) (v : List Int) : ∀ (l0 : List Int) (c j : Int) (o : List Int × Int), f77_l2 u_lo u_n v l0 c j = some o → o.1.length = l0.length := by
 refine f77_l2.partial_correctness u_lo u_n v _ ?_
 intro lp ih l0 c j o h
 split at h
 ·obtain ⟨_, _, h⟩ := bind_some h
  obtain ⟨_, _, h⟩ := bind_some h
  obtain ⟨_, _, h⟩ := bind_some h
  have := ih _ _ _ _ h
  simpa only [setO_len] using this
 ·cases h; rfl
theorem f77_len (u : List Int) (u_lo u_n : Nat) (v : List Int) (r : Int × List Int) (h : f77 u u_lo u_n v = some r) : r.2.length = u.length := by
 unfold f77 at h
 obtain ⟨_, _, h⟩ := bind_some h
 obtain ⟨_, _, h⟩ := bind_some h
 obtain ⟨_, _, h⟩ := bind_some h
 obtain ⟨_, _, h⟩ := bind_some h
 obtain ⟨_, _, h⟩ := bind_some h
 obtain ⟨_, _, h⟩ := bind_some h
 obtain ⟨_, _, h⟩ := bind_some h
 obtain ⟨o14, h14, h⟩ := bind_some h
 have h1 := f77_l1_len _ _ _ _ _ _ _ _ _ h14
 obtain ⟨_, _, h⟩ := bind_some h
 obtain ⟨_, _, h⟩ := bind_some h
 obtain ⟨_, _, h⟩ := bind_some h
 split at h
 ·cases h; simpa only [setO_len] using h1
 ·obtain ⟨o25, h25, h⟩ := bind_some h
  have h2 := f77_l2_len _ _ _ _ _ _ _ h25
  obtain ⟨_, _, h⟩ := bind_some h
  obtain ⟨_, _, h⟩ := bind_some h
  cases h
  simp only [setO_len] at h2 ⊢
  omega
end Go.Bx.Scan
