/- What the program's functions compute, shown of their code (Wa). Own text; parts are printed by a program of this claim's author. -/
import Derived.Test.YtgnhnfaojpjieaaBc
import Derived.Test.YtgnhnfaojpjieaaChecked
import Derived.Test.YtgnhnfaojpjieaaShelf
/- The table of the types, printed by pf.py. (Own text.) -/
namespace Go.Bx.Scan
set_option linter.unusedVariables false
set_option linter.unusedSimpArgs false
set_option linter.unusedSectionVars false
open Go.Proofs
def tab : Tab
  | 2 => some { desc := .int .i64, sz := 1, bytes := 8, zero := [.int .i64 0], eq := false, lv := [none] }
  | 3 => some { desc := .int .i64, sz := 1, bytes := 8, zero := [.int .i64 0], eq := false, lv := [none] }
  | 4 => some { desc := .bool, sz := 1, bytes := 1, zero := [.bool false], eq := false, lv := [none] }
  | 5 => some { desc := .int .u8, sz := 1, bytes := 1, zero := [.int .u8 0], eq := false, lv := [none] }
  | 9 => some { desc := .str, sz := 1, bytes := 16, zero := [.string ByteArray.empty], eq := false, lv := [none] }
  | 23 => some { desc := .slice 40, sz := 1, bytes := 24, zero := [.slice none 0 0], eq := false, lv := [some 6] }
  | 24 => some { desc := .int .i64, sz := 1, bytes := 8, zero := [.int .i64 0], eq := false, lv := [none] }
  | 36 => some { desc := .slice 42, sz := 1, bytes := 24, zero := [.slice none 0 0], eq := false, lv := [some 1] }
  | 38 => some { desc := .struct [(0, 4), (1, 36), (2, 36)], sz := 3, bytes := 56, zero := [.bool false, .slice none 0 0, .slice none 0 0], eq := false, lv := [none, some 1, some 1] }
  | 40 => some { desc := .struct [(0, 3), (1, 9), (2, 38), (5, 3)], sz := 6, bytes := 88, zero := [.int .i64 0, .string ByteArray.empty, .bool false, .slice none 0 0, .slice none 0 0, .int .i64 0], eq := false, lv := [none, none, none, some 1, some 1, none] }
  | 42 => some { desc := .int .u32, sz := 1, bytes := 4, zero := [.int .u32 0], eq := false, lv := [none] }
  | 54 => some { desc := .ptr 57, sz := 1, bytes := 8, zero := [.pointer none], eq := false, lv := [none] }
  | 55 => some { desc := .slice 5, sz := 1, bytes := 24, zero := [.slice none 0 0], eq := false, lv := [some 1] }
  | 57 => some { desc := .struct [(0, 54), (1, 55)], sz := 2, bytes := 32, zero := [.pointer none, .slice none 0 0], eq := false, lv := [none, some 1], tp := true }
  | 88 => some { desc := .int .u64, sz := 1, bytes := 8, zero := [.int .u64 0], eq := false, lv := [none] }
  | 104 => some { desc := .int .u64, sz := 1, bytes := 8, zero := [.int .u64 0], eq := false, lv := [none] }
  | _ => none
theorem tab2 : tab 2 = some { desc := .int .i64, sz := 1, bytes := 8, zero := [.int .i64 0], eq := false, lv := [none] } := rfl
theorem tab3 : tab 3 = some { desc := .int .i64, sz := 1, bytes := 8, zero := [.int .i64 0], eq := false, lv := [none] } := rfl
theorem tab4 : tab 4 = some { desc := .bool, sz := 1, bytes := 1, zero := [.bool false], eq := false, lv := [none] } := rfl
theorem tab5 : tab 5 = some { desc := .int .u8, sz := 1, bytes := 1, zero := [.int .u8 0], eq := false, lv := [none] } := rfl
theorem tab9 : tab 9 = some { desc := .str, sz := 1, bytes := 16, zero := [.string ByteArray.empty], eq := false, lv := [none] } := rfl
theorem tab23 : tab 23 = some { desc := .slice 40, sz := 1, bytes := 24, zero := [.slice none 0 0], eq := false, lv := [some 6] } := rfl
theorem tab24 : tab 24 = some { desc := .int .i64, sz := 1, bytes := 8, zero := [.int .i64 0], eq := false, lv := [none] } := rfl
theorem tab36 : tab 36 = some { desc := .slice 42, sz := 1, bytes := 24, zero := [.slice none 0 0], eq := false, lv := [some 1] } := rfl
theorem tab38 : tab 38 = some { desc := .struct [(0, 4), (1, 36), (2, 36)], sz := 3, bytes := 56, zero := [.bool false, .slice none 0 0, .slice none 0 0], eq := false, lv := [none, some 1, some 1] } := rfl
theorem tab40 : tab 40 = some { desc := .struct [(0, 3), (1, 9), (2, 38), (5, 3)], sz := 6, bytes := 88, zero := [.int .i64 0, .string ByteArray.empty, .bool false, .slice none 0 0, .slice none 0 0, .int .i64 0], eq := false, lv := [none, none, none, some 1, some 1, none] } := rfl
theorem tab42 : tab 42 = some { desc := .int .u32, sz := 1, bytes := 4, zero := [.int .u32 0], eq := false, lv := [none] } := rfl
theorem tab54 : tab 54 = some { desc := .ptr 57, sz := 1, bytes := 8, zero := [.pointer none], eq := false, lv := [none] } := rfl
theorem tab55 : tab 55 = some { desc := .slice 5, sz := 1, bytes := 24, zero := [.slice none 0 0], eq := false, lv := [some 1] } := rfl
theorem tab57 : tab 57 = some { desc := .struct [(0, 54), (1, 55)], sz := 2, bytes := 32, zero := [.pointer none, .slice none 0 0], eq := false, lv := [none, some 1], tp := true } := rfl
theorem tab88 : tab 88 = some { desc := .int .u64, sz := 1, bytes := 8, zero := [.int .u64 0], eq := false, lv := [none] } := rfl
theorem tab104 : tab 104 = some { desc := .int .u64, sz := 1, bytes := 8, zero := [.int .u64 0], eq := false, lv := [none] } := rfl
theorem tabOK : TabOK Try.prog tab := by
  intro t r h
  unfold tab at h
  split at h
  · cases h; exact RowOK.of Try.underlying2 rfl (z := (.int .i64 0)) (by kernel_rfl) rfl rfl (fun h => by cases h)
  · cases h; exact RowOK.of Try.underlying3 rfl (z := (.int .i64 0)) (by kernel_rfl) rfl rfl (fun h => by cases h)
  · cases h; exact RowOK.of Try.underlying4 rfl (z := (.bool false)) (by kernel_rfl) rfl rfl (fun h => by cases h)
  · cases h; exact RowOK.of Try.underlying5 rfl (z := (.int .u8 0)) (by kernel_rfl) rfl rfl (fun h => by cases h)
  · cases h; exact RowOK.of Try.underlying9 rfl (z := (.string ByteArray.empty)) (by kernel_rfl) rfl rfl (fun h => by cases h)
  · cases h; exact RowOK.of Try.underlying23 rfl (z := (.slice none 0 0)) (by kernel_rfl) rfl rfl (fun h => by cases h)
  · cases h; exact RowOK.of Try.underlying24 rfl (z := (.int .i64 0)) (by kernel_rfl) rfl rfl (fun h => by cases h)
  · cases h; exact RowOK.of Try.underlying36 rfl (z := (.slice none 0 0)) (by kernel_rfl) rfl rfl (fun h => by cases h)
  · cases h; exact RowOK.of Try.underlying38 ⟨_, rfl, rfl⟩ (z := .agg #[.bool false, .slice none 0 0, .slice none 0 0]) (by kernel_rfl) rfl rfl (fun h => by cases h)
  · cases h; exact RowOK.of Try.underlying40 ⟨_, rfl, rfl⟩ (z := .agg #[.int .i64 0, .string ByteArray.empty, .bool false, .slice none 0 0, .slice none 0 0, .int .i64 0]) (by kernel_rfl) rfl rfl (fun h => by cases h)
  · cases h; exact RowOK.of Try.underlying42 rfl (z := (.int .u32 0)) (by kernel_rfl) rfl rfl (fun h => by cases h)
  · cases h; exact RowOK.of Try.underlying54 rfl (z := (.pointer none)) (by kernel_rfl) rfl rfl (fun h => by cases h)
  · cases h; exact RowOK.of Try.underlying55 rfl (z := (.slice none 0 0)) (by kernel_rfl) rfl rfl (fun h => by cases h)
  · cases h; exact RowOK.of Try.underlying57 ⟨_, rfl, rfl⟩ (z := .agg #[.pointer none, .slice none 0 0]) (by kernel_rfl) rfl rfl (fun h => by cases h)
  · cases h; exact RowOK.of Try.underlying88 rfl (z := (.int .u64 0)) (by kernel_rfl) rfl rfl (fun h => by cases h)
  · cases h; exact RowOK.of Try.underlying104 rfl (z := (.int .u64 0)) (by kernel_rfl) rfl rfl (fun h => by cases h)
  · cases h
theorem tabs : (((((tab 2 = some { desc := .int .i64, sz := 1, bytes := 8, zero := [.int .i64 0], eq := false, lv := [none] }) ∧ (tab 3 = some { desc := .int .i64, sz := 1, bytes := 8, zero := [.int .i64 0], eq := false, lv := [none] })) ∧ ((tab 4 = some { desc := .bool, sz := 1, bytes := 1, zero := [.bool false], eq := false, lv := [none] }) ∧ (tab 5 = some { desc := .int .u8, sz := 1, bytes := 1, zero := [.int .u8 0], eq := false, lv := [none] }))) ∧ (((tab 9 = some { desc := .str, sz := 1, bytes := 16, zero := [.string ByteArray.empty], eq := false, lv := [none] }) ∧ (tab 23 = some { desc := .slice 40, sz := 1, bytes := 24, zero := [.slice none 0 0], eq := false, lv := [some 6] })) ∧ ((tab 24 = some { desc := .int .i64, sz := 1, bytes := 8, zero := [.int .i64 0], eq := false, lv := [none] }) ∧ (tab 36 = some { desc := .slice 42, sz := 1, bytes := 24, zero := [.slice none 0 0], eq := false, lv := [some 1] })))) ∧ ((((tab 38 = some { desc := .struct [(0, 4), (1, 36), (2, 36)], sz := 3, bytes := 56, zero := [.bool false, .slice none 0 0, .slice none 0 0], eq := false, lv := [none, some 1, some 1] }) ∧ (tab 40 = some { desc := .struct [(0, 3), (1, 9), (2, 38), (5, 3)], sz := 6, bytes := 88, zero := [.int .i64 0, .string ByteArray.empty, .bool false, .slice none 0 0, .slice none 0 0, .int .i64 0], eq := false, lv := [none, none, none, some 1, some 1, none] })) ∧ ((tab 42 = some { desc := .int .u32, sz := 1, bytes := 4, zero := [.int .u32 0], eq := false, lv := [none] }) ∧ (tab 54 = some { desc := .ptr 57, sz := 1, bytes := 8, zero := [.pointer none], eq := false, lv := [none] }))) ∧ (((tab 55 = some { desc := .slice 5, sz := 1, bytes := 24, zero := [.slice none 0 0], eq := false, lv := [some 1] }) ∧ (tab 57 = some { desc := .struct [(0, 54), (1, 55)], sz := 2, bytes := 32, zero := [.pointer none, .slice none 0 0], eq := false, lv := [none, some 1], tp := true })) ∧ ((tab 88 = some { desc := .int .u64, sz := 1, bytes := 8, zero := [.int .u64 0], eq := false, lv := [none] }) ∧ (tab 104 = some { desc := .int .u64, sz := 1, bytes := 8, zero := [.int .u64 0], eq := false, lv := [none] }))))) := (And.intro (And.intro (And.intro (And.intro (tab2) (tab3)) (And.intro (tab4) (tab5))) (And.intro (And.intro (tab9) (tab23)) (And.intro (tab24) (tab36)))) (And.intro (And.intro (And.intro (tab38) (tab40)) (And.intro (tab42) (tab54))) (And.intro (And.intro (tab55) (tab57)) (And.intro (tab88) (tab104)))))
structure Ratio where
  Neg : Bool
  Num : List Int
  Den : List Int
  deriving DecidableEq
def cRatio (x : Ratio) : Cs := [.v (.bool x.Neg), .sl (List.map (cInt .u32) x.Num), .sl (List.map (cInt .u32) x.Den)]
theorem cRatio_eq (x : Ratio) : cRatio x = [.v (.bool x.Neg), .sl (List.map (cInt .u32) x.Num), .sl (List.map (cInt .u32) x.Den)] := rfl
theorem lenRatio (l : List Ratio) : ((l.map cRatio).all fun e => e.length == 3) = true := all_len (c := cRatio) (n := 3) (fun _ => rfl) l
theorem plRatio (x : Ratio) : (cRatio x).all pl = true := rfl
theorem injRatio (x y : Ratio) (h : cRatio x = cRatio y) : x = y := by
  cases x; cases y
  simp only [cRatio_eq, List.cons.injEq, AV.v.injEq, Value.int.injEq, Value.bool.injEq, Value.string.injEq, AV.sl.injEq, mkS_eq, true_and, and_true] at h
  obtain ⟨h0, h1, h2⟩ := h
  have h1 := inj_map inj_int _ _ h1
  have h2 := inj_map inj_int _ _ h2
  simp only [Ratio.mk.injEq]; exact ⟨h0, h1, h2⟩
theorem ext_Ratio {x y : Ratio} (h0 : x.Neg = y.Neg) (h1 : x.Num = y.Num) (h2 : x.Den = y.Den) : x = y := by cases x; cases y; simp_all
structure Token where
  Kind : Int
  Text : Str
  N : Ratio
  At : Int
  deriving DecidableEq
def cToken (x : Token) : Cs := [.v (.int .i64 x.Kind), .v (.string (mkS x.Text)), .v (.bool x.N.Neg), .sl (List.map (cInt .u32) x.N.Num), .sl (List.map (cInt .u32) x.N.Den), .v (.int .i64 x.At)]
theorem cToken_eq (x : Token) : cToken x = [.v (.int .i64 x.Kind), .v (.string (mkS x.Text)), .v (.bool x.N.Neg), .sl (List.map (cInt .u32) x.N.Num), .sl (List.map (cInt .u32) x.N.Den), .v (.int .i64 x.At)] := rfl
theorem lenToken (l : List Token) : ((l.map cToken).all fun e => e.length == 6) = true := all_len (c := cToken) (n := 6) (fun _ => rfl) l
theorem plToken (x : Token) : (cToken x).all pl = true := rfl
theorem injToken (x y : Token) (h : cToken x = cToken y) : x = y := by
  cases x; cases y
  simp only [cToken_eq, List.cons.injEq, AV.v.injEq, Value.int.injEq, Value.bool.injEq, Value.string.injEq, AV.sl.injEq, mkS_eq, true_and, and_true] at h
  obtain ⟨h0, h1, h2, h3, h4, h5⟩ := h
  have h3 := inj_map inj_int _ _ h3
  have h4 := inj_map inj_int _ _ h4
  simp only [Token.mk.injEq]
  exact ⟨h0, h1, ext_Ratio h2 h3 h4, h5⟩
theorem ext_Token {x y : Token} (h0 : x.Kind = y.Kind) (h1 : x.Text = y.Text) (h2 : x.N = y.N) (h3 : x.At = y.At) : x = y := by cases x; cases y; simp_all
theorem tys : (((∀ (x : Ratio), cRatio x = [.v (.bool x.Neg), .sl (List.map (cInt .u32) x.Num), .sl (List.map (cInt .u32) x.Den)]) ∧ (∀ (l : List Ratio), ((l.map cRatio).all fun e => e.length == 3) = true)) ∧ ((∀ (x : Token), cToken x = [.v (.int .i64 x.Kind), .v (.string (mkS x.Text)), .v (.bool x.N.Neg), .sl (List.map (cInt .u32) x.N.Num), .sl (List.map (cInt .u32) x.N.Den), .v (.int .i64 x.At)]) ∧ (∀ (l : List Token), ((l.map cToken).all fun e => e.length == 6) = true))) := (And.intro (And.intro (@cRatio_eq) (@lenRatio)) (And.intro (@cToken_eq) (@lenToken)))
noncomputable def E : Env := ⟨Try.prog, tab, fun _ => .junk, fun _ _ _ => none, fun f i => (f == 20 && i == 0) || (f == 20 && i == 2) || (f == 27 && i == 0) || (f == 28 && i == 0) || (f == 29 && i == 0) || (f == 39 && i == 0) || (f == 61 && i == 0) || (f == 77 && i == 0)⟩
theorem E_T : E.T = tab := rfl
theorem E_gl : E.gl = fun _ => .junk := rfl
theorem mixed : Try.prog.follows .mixedOrders = true := by kernel_rfl
theorem names : ∀ (f : Nat) fn, Try.prog.funcs[f]? = some fn → fn.name ≠ "runtime.NumGoroutine" := by
  have h : (Try.prog.funcs.all fun fn => fn.name != "runtime.NumGoroutine") = true := by kernel_rfl
  intro f fn hf
  have := Array.all_eq_true_iff_forall_mem.1 h fn (Array.mem_of_getElem? hf)
  simpa using this
theorem brs : (((((((∀ i, E.br 2 i = false) ∧ ((∀ i, E.br 3 i = false) ∧ (∀ i, E.br 4 i = false))) ∧ ((∀ i, E.br 5 i = false) ∧ ((∀ i, E.br 6 i = false) ∧ (∀ i, E.br 7 i = false)))) ∧ (((∀ i, E.br 8 i = false) ∧ ((∀ i, E.br 9 i = false) ∧ (∀ i, E.br 10 i = false))) ∧ ((∀ i, E.br 11 i = false) ∧ ((∀ i, E.br 12 i = false) ∧ (∀ i, E.br 13 i = false))))) ∧ ((((∀ i, E.br 14 i = false) ∧ ((∀ i, E.br 15 i = false) ∧ (∀ i, E.br 16 i = false))) ∧ ((∀ i, E.br 17 i = false) ∧ ((∀ i, E.br 18 i = false) ∧ (∀ i, E.br 19 i = false)))) ∧ (((E.br 20 0 = true) ∧ ((E.br 20 1 = false) ∧ (E.br 20 2 = true))) ∧ (((E.br 20 3 = false) ∧ (E.br 20 4 = false)) ∧ ((E.br 20 5 = false) ∧ (∀ i, E.br 21 i = false)))))) ∧ (((((∀ i, E.br 22 i = false) ∧ ((∀ i, E.br 23 i = false) ∧ (∀ i, E.br 24 i = false))) ∧ ((∀ i, E.br 25 i = false) ∧ ((∀ i, E.br 26 i = false) ∧ (E.br 27 0 = true)))) ∧ (((E.br 27 1 = false) ∧ ((E.br 27 2 = false) ∧ (E.br 27 3 = false))) ∧ (((E.br 27 4 = false) ∧ (E.br 28 0 = true)) ∧ ((E.br 28 1 = false) ∧ (E.br 28 2 = false))))) ∧ ((((E.br 28 3 = false) ∧ ((E.br 28 4 = false) ∧ (E.br 29 0 = true))) ∧ ((E.br 29 1 = false) ∧ ((E.br 29 2 = false) ∧ (E.br 29 3 = false)))) ∧ (((∀ i, E.br 30 i = false) ∧ ((∀ i, E.br 31 i = false) ∧ (∀ i, E.br 32 i = false))) ∧ (((∀ i, E.br 33 i = false) ∧ (∀ i, E.br 34 i = false)) ∧ ((∀ i, E.br 35 i = false) ∧ (∀ i, E.br 36 i = false))))))) ∧ ((((((∀ i, E.br 37 i = false) ∧ ((∀ i, E.br 38 i = false) ∧ (E.br 39 0 = true))) ∧ ((E.br 39 1 = false) ∧ ((E.br 39 2 = false) ∧ (E.br 39 3 = false)))) ∧ (((∀ i, E.br 41 i = false) ∧ ((∀ i, E.br 42 i = false) ∧ (∀ i, E.br 43 i = false))) ∧ (((∀ i, E.br 44 i = false) ∧ (∀ i, E.br 45 i = false)) ∧ ((∀ i, E.br 46 i = false) ∧ (∀ i, E.br 47 i = false))))) ∧ ((((∀ i, E.br 48 i = false) ∧ ((∀ i, E.br 50 i = false) ∧ (∀ i, E.br 51 i = false))) ∧ ((∀ i, E.br 53 i = false) ∧ ((∀ i, E.br 54 i = false) ∧ (∀ i, E.br 55 i = false)))) ∧ (((∀ i, E.br 56 i = false) ∧ ((∀ i, E.br 57 i = false) ∧ (∀ i, E.br 58 i = false))) ∧ (((∀ i, E.br 59 i = false) ∧ (∀ i, E.br 60 i = false)) ∧ ((E.br 61 0 = true) ∧ (E.br 61 1 = false)))))) ∧ (((((E.br 61 2 = false) ∧ ((E.br 61 3 = false) ∧ (E.br 61 4 = false))) ∧ ((∀ i, E.br 62 i = false) ∧ ((∀ i, E.br 63 i = false) ∧ (∀ i, E.br 64 i = false)))) ∧ (((∀ i, E.br 65 i = false) ∧ ((∀ i, E.br 66 i = false) ∧ (∀ i, E.br 67 i = false))) ∧ (((∀ i, E.br 68 i = false) ∧ (∀ i, E.br 69 i = false)) ∧ ((∀ i, E.br 70 i = false) ∧ (∀ i, E.br 71 i = false))))) ∧ ((((∀ i, E.br 72 i = false) ∧ ((∀ i, E.br 73 i = false) ∧ (∀ i, E.br 74 i = false))) ∧ ((∀ i, E.br 75 i = false) ∧ ((∀ i, E.br 76 i = false) ∧ (E.br 77 0 = true)))) ∧ (((E.br 77 1 = false) ∧ ((E.br 77 2 = false) ∧ (E.br 77 3 = false))) ∧ (((E.br 77 4 = false) ∧ (∀ i, E.br 78 i = false)) ∧ ((∀ i, E.br 79 i = false) ∧ (∀ i, E.br 80 i = false)))))))) := ⟨⟨⟨⟨⟨⟨(fun _ => rfl), ⟨(fun _ => rfl), (fun _ => rfl)⟩⟩, ⟨(fun _ => rfl), ⟨(fun _ => rfl), (fun _ => rfl)⟩⟩⟩, ⟨⟨(fun _ => rfl), ⟨(fun _ => rfl), (fun _ => rfl)⟩⟩, ⟨(fun _ => rfl), ⟨(fun _ => rfl), (fun _ => rfl)⟩⟩⟩⟩, ⟨⟨⟨(fun _ => rfl), ⟨(fun _ => rfl), (fun _ => rfl)⟩⟩, ⟨(fun _ => rfl), ⟨(fun _ => rfl), (fun _ => rfl)⟩⟩⟩, ⟨⟨rfl, ⟨rfl, rfl⟩⟩, ⟨⟨rfl, rfl⟩, ⟨rfl, (fun _ => rfl)⟩⟩⟩⟩⟩, ⟨⟨⟨⟨(fun _ => rfl), ⟨(fun _ => rfl), (fun _ => rfl)⟩⟩, ⟨(fun _ => rfl), ⟨(fun _ => rfl), rfl⟩⟩⟩, ⟨⟨rfl, ⟨rfl, rfl⟩⟩, ⟨⟨rfl, rfl⟩, ⟨rfl, rfl⟩⟩⟩⟩, ⟨⟨⟨rfl, ⟨rfl, rfl⟩⟩, ⟨rfl, ⟨rfl, rfl⟩⟩⟩, ⟨⟨(fun _ => rfl), ⟨(fun _ => rfl), (fun _ => rfl)⟩⟩, ⟨⟨(fun _ => rfl), (fun _ => rfl)⟩, ⟨(fun _ => rfl), (fun _ => rfl)⟩⟩⟩⟩⟩⟩, ⟨⟨⟨⟨⟨(fun _ => rfl), ⟨(fun _ => rfl), rfl⟩⟩, ⟨rfl, ⟨rfl, rfl⟩⟩⟩, ⟨⟨(fun _ => rfl), ⟨(fun _ => rfl), (fun _ => rfl)⟩⟩, ⟨⟨(fun _ => rfl), (fun _ => rfl)⟩, ⟨(fun _ => rfl), (fun _ => rfl)⟩⟩⟩⟩, ⟨⟨⟨(fun _ => rfl), ⟨(fun _ => rfl), (fun _ => rfl)⟩⟩, ⟨(fun _ => rfl), ⟨(fun _ => rfl), (fun _ => rfl)⟩⟩⟩, ⟨⟨(fun _ => rfl), ⟨(fun _ => rfl), (fun _ => rfl)⟩⟩, ⟨⟨(fun _ => rfl), (fun _ => rfl)⟩, ⟨rfl, rfl⟩⟩⟩⟩⟩, ⟨⟨⟨⟨rfl, ⟨rfl, rfl⟩⟩, ⟨(fun _ => rfl), ⟨(fun _ => rfl), (fun _ => rfl)⟩⟩⟩, ⟨⟨(fun _ => rfl), ⟨(fun _ => rfl), (fun _ => rfl)⟩⟩, ⟨⟨(fun _ => rfl), (fun _ => rfl)⟩, ⟨(fun _ => rfl), (fun _ => rfl)⟩⟩⟩⟩, ⟨⟨⟨(fun _ => rfl), ⟨(fun _ => rfl), (fun _ => rfl)⟩⟩, ⟨(fun _ => rfl), ⟨(fun _ => rfl), rfl⟩⟩⟩, ⟨⟨rfl, ⟨rfl, rfl⟩⟩, ⟨⟨rfl, (fun _ => rfl)⟩, ⟨(fun _ => rfl), (fun _ => rfl)⟩⟩⟩⟩⟩⟩⟩
theorem nofx : (true && true) = true := rfl
theorem slk : (∀ {α : Type} (c : α → Cs) (l : List α) (n : Nat), slice (l.map c) 0 n = (l.take n).map c) ∧ (∀ {α : Type} (l : List α), l.take l.length = l) := ⟨slice_take, fun _ => List.take_length⟩
-- tactics that stand once
section
variable {p q r s t u v w x y z : Prop}
theorem i2 (h0 : p) (h1 : q) : p ∧ q := ⟨h0, h1⟩
theorem i3 (h0 : p) (h1 : q) (h2 : r) : p ∧ q ∧ r := ⟨h0, ⟨h1, h2⟩⟩
theorem i4 (h0 : p) (h1 : q) (h2 : r) (h3 : s) : p ∧ q ∧ r ∧ s := ⟨h0, ⟨h1, ⟨h2, h3⟩⟩⟩
theorem i5 (h0 : p) (h1 : q) (h2 : r) (h3 : s) (h4 : t) : p ∧ q ∧ r ∧ s ∧ t := ⟨h0, ⟨h1, ⟨h2, ⟨h3, h4⟩⟩⟩⟩
theorem i6 (h0 : p) (h1 : q) (h2 : r) (h3 : s) (h4 : t) (h5 : u) : p ∧ q ∧ r ∧ s ∧ t ∧ u := ⟨h0, ⟨h1, ⟨h2, ⟨h3, ⟨h4, h5⟩⟩⟩⟩⟩
theorem i7 (h0 : p) (h1 : q) (h2 : r) (h3 : s) (h4 : t) (h5 : u) (h6 : v) : p ∧ q ∧ r ∧ s ∧ t ∧ u ∧ v := ⟨h0, ⟨h1, ⟨h2, ⟨h3, ⟨h4, ⟨h5, h6⟩⟩⟩⟩⟩⟩
theorem i8 (h0 : p) (h1 : q) (h2 : r) (h3 : s) (h4 : t) (h5 : u) (h6 : v) (h7 : w) : p ∧ q ∧ r ∧ s ∧ t ∧ u ∧ v ∧ w := ⟨h0, ⟨h1, ⟨h2, ⟨h3, ⟨h4, ⟨h5, ⟨h6, h7⟩⟩⟩⟩⟩⟩⟩
theorem i9 (h0 : p) (h1 : q) (h2 : r) (h3 : s) (h4 : t) (h5 : u) (h6 : v) (h7 : w) (h8 : x) : p ∧ q ∧ r ∧ s ∧ t ∧ u ∧ v ∧ w ∧ x := ⟨h0, ⟨h1, ⟨h2, ⟨h3, ⟨h4, ⟨h5, ⟨h6, ⟨h7, h8⟩⟩⟩⟩⟩⟩⟩⟩
theorem rgI (h : p := by simp (decide := true) (disch := (first | omega | (simp only [List.length_append, List.length_map, List.length_cons, List.length_nil]; omega))) only [evOp, putTm, jjs, reduceIte, E_T, E_gl, brs, tdesc, reduceCtorEq, Nat.reduceAdd, Nat.reduceSub, Nat.reduceLT, Nat.reduceLeDiff, Nat.reduceEqDiff, bxm, bxk, tabs, evBin, eqAV, bothNil, constOp, eqCells, evUn, evLoad, ldV, ofCells, TD.isAgg, evStore, putAt, indexAddrAV, evA.eq_17, fieldPlaceT, evA.eq_4, fillL, evA.eq_15, sliceAV, boundAV, evA.eq_22, lenAV, evAppend, elemsT, elems, flatOf, byteCells_mkS, evCall, lendL, lendIds, mapO, importL, import2L, import1, import2, share, fresh1, freshL, evA.eq_5, evA.eq_23, evA.eq_24, evA.eq_8, evA.eq_12, evA.eq_11, evA.eq_14, evA.eq_13, tys]; rfl) : p := h
theorem rtI (h : p := by simp (decide := true) only [jjs, reduceIte, evReturn, retShare, evReturn0, resAV, evLoad, ofCells, TD.isAgg, mapO, exportVs, exportV, exportL, export1, rowsOf, rowOf, innerIds, rowIds, one, closed, share, fresh1, E_T, reduceCtorEq, Nat.reduceAdd, Nat.reduceSub, Nat.reduceLT, Nat.reduceLeDiff, Nat.reduceEqDiff, bxm, tabs, List.map_append, tys, fx]) : p := h
theorem wvI (h : p := by (try simp only [jjs]); (repeat' (first | exact WVs.nil | refine WVs.cons ?_ ?_ | (refine WVs.aggW ?_) | (refine WVs.fnW ?_ ?_))) <;> (first | exact WV.junk _ | exact WV.keep rfl | exact WV.row rfl | exact WV.nil rfl | exact WV.nilsl | exact WV.emp rfl | exact WV.empsl | exact WV.ptr rfl | exact WV.slfN | exact WV.slf rfl | exact WV.tptr rfl | exact WV.trow rfl | exact WV.trowN rfl | exact WV.vptr rfl rfl rfl rfl | (refine WV.row_eq rfl ?_; simp only [bxw, Int.toNat_natCast, List.length_replicate, List.take_length, tys]) | (refine WV.trow_eq rfl ?_; simp only [bxw, Int.toNat_natCast, bts_length, List.take_length, tys]) | (refine WV.view (k := 3) ?_; simp (decide := true) only [reify, share, fresh1, reduceIte, reduceCtorEq, Nat.reduceAdd, bxm, slk, Int.toNat_zero, List.drop_zero, true_and, and_true, tys]) | (refine WV.eq ?_ rfl; simp only [bxw, Int.toNat_natCast, List.length_replicate, List.take_length, setO_eq, tys]))) : p := h
theorem woI (h : p := by (first | exact WO.same _ _ _ | (refine WO.same_eq ?_; simp only [bxw, Int.toNat_natCast, List.length_replicate, List.take_length, setO_eq, tys]; done) | (refine WO.mk ?_ (by simp only [bxm, leaf_ptr, leaf_slf, leaf_trow, leaf_tptr]) nofun; refine WL.cons ?_ .nil; (try simp only [jjs]); (repeat' (first | exact WVs.nil | refine WVs.cons ?_ ?_ | (refine WVs.aggW ?_) | (refine WVs.fnW ?_ ?_))) <;> (first | exact WV.junk _ | exact WV.keep rfl | exact WV.row rfl | exact WV.nil rfl | exact WV.nilsl | exact WV.emp rfl | exact WV.empsl | exact WV.ptr rfl | exact WV.slfN | exact WV.slf rfl | exact WV.tptr rfl | exact WV.trow rfl | exact WV.trowN rfl | exact WV.vptr rfl rfl rfl rfl | (refine WV.row_eq rfl ?_; simp only [bxw, Int.toNat_natCast, List.length_replicate, List.take_length, tys]) | (refine WV.trow_eq rfl ?_; simp only [bxw, Int.toNat_natCast, bts_length, List.take_length, tys]) | (refine WV.view (k := 3) ?_; simp (decide := true) only [reify, share, fresh1, reduceIte, reduceCtorEq, Nat.reduceAdd, bxm, slk, Int.toNat_zero, List.drop_zero, true_and, and_true, tys]) | (refine WV.eq ?_ rfl; simp only [bxw, Int.toNat_natCast, List.length_replicate, List.take_length, setO_eq, tys]))))) : p := h
theorem wsI (h : p := by repeat' (first | exact WSs.nil | refine WSs.virt ?_ | refine WSs.dead ?_ | (refine WSs.obj rfl ?_ ?_; (first | exact WO.same _ _ _ | (refine WO.same_eq ?_; simp only [bxw, Int.toNat_natCast, List.length_replicate, List.take_length, setO_eq, tys]; done) | (refine WO.mk ?_ (by simp only [bxm, leaf_ptr, leaf_slf, leaf_trow, leaf_tptr]) nofun; refine WL.cons ?_ .nil; (try simp only [jjs]); (repeat' (first | exact WVs.nil | refine WVs.cons ?_ ?_ | (refine WVs.aggW ?_) | (refine WVs.fnW ?_ ?_))) <;> (first | exact WV.junk _ | exact WV.keep rfl | exact WV.row rfl | exact WV.nil rfl | exact WV.nilsl | exact WV.emp rfl | exact WV.empsl | exact WV.ptr rfl | exact WV.slfN | exact WV.slf rfl | exact WV.tptr rfl | exact WV.trow rfl | exact WV.trowN rfl | exact WV.vptr rfl rfl rfl rfl | (refine WV.row_eq rfl ?_; simp only [bxw, Int.toNat_natCast, List.length_replicate, List.take_length, tys]) | (refine WV.trow_eq rfl ?_; simp only [bxw, Int.toNat_natCast, bts_length, List.take_length, tys]) | (refine WV.view (k := 3) ?_; simp (decide := true) only [reify, share, fresh1, reduceIte, reduceCtorEq, Nat.reduceAdd, bxm, slk, Int.toNat_zero, List.drop_zero, true_and, and_true, tys]) | (refine WV.eq ?_ rfl; simp only [bxw, Int.toNat_natCast, List.length_replicate, List.take_length, setO_eq, tys]))))))) : p := h
theorem rgIF (h : p := by simp (decide := true) (disch := (first | omega | (simp only [List.length_append, List.length_map, List.length_cons, List.length_nil]; omega))) only [evOp, putTm, jjs, reduceIte, E_T, E_gl, brs, tdesc, reduceCtorEq, Nat.reduceAdd, Nat.reduceSub, Nat.reduceLT, Nat.reduceLeDiff, Nat.reduceEqDiff, bxm, bxk, tabs, evBin, eqAV, bothNil, constOp, eqCells, evUn, evLoad, ldV, ofCells, TD.isAgg, evStore, putAt, indexAddrAV, evA.eq_17, fieldPlaceT, evA.eq_4, fillL, evA.eq_15, sliceAV, boundAV, evA.eq_22, lenAV, evAppend, elemsT, elems, flatOf, byteCells_mkS, evCall, lendL, lendIds, mapO, importL, import2L, import1, import2, share, fresh1, freshL, evA.eq_5, evA.eq_23, evA.eq_24, evA.eq_8, evA.eq_12, evA.eq_11, evA.eq_14, evA.eq_13, tys, fx]; rfl) : p := h
theorem rgIS (h : p := by simp (decide := true) (disch := (first | omega | (simp only [List.length_append, List.length_map, List.length_cons, List.length_nil]; omega))) only [evOp, putTm, jjs, reduceIte, E_T, E_gl, brs, tdesc, reduceCtorEq, Nat.reduceAdd, Nat.reduceSub, Nat.reduceLT, Nat.reduceLeDiff, Nat.reduceEqDiff, bxm, bxk, tabs, evBin, eqAV, bothNil, constOp, eqCells, evUn, evLoad, ldV, ofCells, TD.isAgg, evStore, putAt, indexAddrAV, evA.eq_17, fieldPlaceT, evA.eq_4, fillL, evA.eq_15, sliceAV, boundAV, evA.eq_22, lenAV, evAppend, elemsT, elems, flatOf, byteCells_mkS, evCall, lendL, lendIds, mapO, importL, import2L, import1, import2, share, fresh1, freshL, evA.eq_5, evA.eq_23, evA.eq_24, evA.eq_8, evA.eq_12, evA.eq_11, evA.eq_14, evA.eq_13, tys, slice_take, fx]; rfl) : p := h
theorem rtIF (h : p := by simp (decide := true) only [jjs, reduceIte, evReturn, retShare, evReturn0, resAV, evLoad, ofCells, TD.isAgg, mapO, exportVs, exportV, exportL, export1, rowsOf, rowOf, innerIds, rowIds, one, closed, share, fresh1, E_T, reduceCtorEq, Nat.reduceAdd, Nat.reduceSub, Nat.reduceLT, Nat.reduceLeDiff, Nat.reduceEqDiff, bxm, tabs, List.map_append, tys, fx]) : p := h
theorem wvIF (h : p := by (try simp only [jjs]); (repeat' (first | exact WVs.nil | refine WVs.cons ?_ ?_ | (refine WVs.aggW ?_) | (refine WVs.fnW ?_ ?_))) <;> (first | exact WV.junk _ | exact WV.keep rfl | exact WV.row rfl | exact WV.nil rfl | exact WV.nilsl | exact WV.emp rfl | exact WV.empsl | exact WV.ptr rfl | exact WV.slfN | exact WV.slf rfl | exact WV.tptr rfl | exact WV.trow rfl | exact WV.trowN rfl | exact WV.vptr rfl rfl rfl rfl | (refine WV.row_eq rfl ?_; simp only [bxw, Int.toNat_natCast, List.length_replicate, List.take_length, fl, tys]) | (refine WV.trow_eq rfl ?_; simp only [bxw, Int.toNat_natCast, bts_length, List.take_length, fl, tys]) | (refine WV.view (k := 3) ?_; simp (decide := true) only [reify, share, fresh1, reduceIte, reduceCtorEq, Nat.reduceAdd, bxm, slk, Int.toNat_zero, List.drop_zero, true_and, and_true, fv, tys]) | (refine WV.eq ?_ rfl; simp only [bxw, Int.toNat_natCast, List.length_replicate, List.take_length, setO_eq, fe, tys]))) : p := h
theorem woIF (h : p := by (first | exact WO.same _ _ _ | (refine WO.same_eq ?_; simp only [bxw, Int.toNat_natCast, List.length_replicate, List.take_length, setO_eq, fe, tys]; done) | (refine WO.mk ?_ (by simp only [bxm, leaf_ptr, leaf_slf, leaf_trow, leaf_tptr]) nofun; refine WL.cons ?_ .nil; (try simp only [jjs]); (repeat' (first | exact WVs.nil | refine WVs.cons ?_ ?_ | (refine WVs.aggW ?_) | (refine WVs.fnW ?_ ?_))) <;> (first | exact WV.junk _ | exact WV.keep rfl | exact WV.row rfl | exact WV.nil rfl | exact WV.nilsl | exact WV.emp rfl | exact WV.empsl | exact WV.ptr rfl | exact WV.slfN | exact WV.slf rfl | exact WV.tptr rfl | exact WV.trow rfl | exact WV.trowN rfl | exact WV.vptr rfl rfl rfl rfl | (refine WV.row_eq rfl ?_; simp only [bxw, Int.toNat_natCast, List.length_replicate, List.take_length, fl, tys]) | (refine WV.trow_eq rfl ?_; simp only [bxw, Int.toNat_natCast, bts_length, List.take_length, fl, tys]) | (refine WV.view (k := 3) ?_; simp (decide := true) only [reify, share, fresh1, reduceIte, reduceCtorEq, Nat.reduceAdd, bxm, slk, Int.toNat_zero, List.drop_zero, true_and, and_true, fv, tys]) | (refine WV.eq ?_ rfl; simp only [bxw, Int.toNat_natCast, List.length_replicate, List.take_length, setO_eq, fe, tys]))))) : p := h
theorem wsIF (h : p := by repeat' (first | exact WSs.nil | refine WSs.virt ?_ | refine WSs.dead ?_ | (refine WSs.obj rfl ?_ ?_; (first | exact WO.same _ _ _ | (refine WO.same_eq ?_; simp only [bxw, Int.toNat_natCast, List.length_replicate, List.take_length, setO_eq, fe, tys]; done) | (refine WO.mk ?_ (by simp only [bxm, leaf_ptr, leaf_slf, leaf_trow, leaf_tptr]) nofun; refine WL.cons ?_ .nil; (try simp only [jjs]); (repeat' (first | exact WVs.nil | refine WVs.cons ?_ ?_ | (refine WVs.aggW ?_) | (refine WVs.fnW ?_ ?_))) <;> (first | exact WV.junk _ | exact WV.keep rfl | exact WV.row rfl | exact WV.nil rfl | exact WV.nilsl | exact WV.emp rfl | exact WV.empsl | exact WV.ptr rfl | exact WV.slfN | exact WV.slf rfl | exact WV.tptr rfl | exact WV.trow rfl | exact WV.trowN rfl | exact WV.vptr rfl rfl rfl rfl | (refine WV.row_eq rfl ?_; simp only [bxw, Int.toNat_natCast, List.length_replicate, List.take_length, fl, tys]) | (refine WV.trow_eq rfl ?_; simp only [bxw, Int.toNat_natCast, bts_length, List.take_length, fl, tys]) | (refine WV.view (k := 3) ?_; simp (decide := true) only [reify, share, fresh1, reduceIte, reduceCtorEq, Nat.reduceAdd, bxm, slk, Int.toNat_zero, List.drop_zero, true_and, and_true, fv, tys]) | (refine WV.eq ?_ rfl; simp only [bxw, Int.toNat_natCast, List.length_replicate, List.take_length, setO_eq, fe, tys]))))))) : p := h
theorem rgJ (h : p := by simp (decide := true) (disch := (first | omega | (simp only [List.length_append, List.length_map, List.length_cons, List.length_nil]; omega))) only [evOp, putTm, ↓reduceIte, jj_0, jj_set, jj_get, jj_getD, E_T, E_gl, brs, tdesc, reduceCtorEq, Nat.reduceAdd, Nat.reduceSub, Nat.reduceLT, Nat.reduceLeDiff, Nat.reduceEqDiff, bxm, bxk, tabs, evBin, eqAV, bothNil, constOp, eqCells, evUn, evLoad, ldV, ofCells, TD.isAgg, evStore, putAt, indexAddrAV, evA.eq_17, fieldPlaceT, evA.eq_4, fillL, evA.eq_15, sliceAV, boundAV, evA.eq_22, lenAV, evAppend, elemsT, elems, flatOf, byteCells_mkS, evCall, lendL, lendIds, mapO, importL, import2L, import1, import2, share, fresh1, freshL, evA.eq_5, evA.eq_23, evA.eq_24, evA.eq_8, evA.eq_12, evA.eq_11, evA.eq_14, evA.eq_13, tys]; rfl) : p := h
theorem rtJ (h : p := by simp (decide := true) only [↓reduceIte, jj_0, jj_set, jj_get, jj_getD, evReturn, retShare, evReturn0, resAV, evLoad, ofCells, TD.isAgg, mapO, exportVs, exportV, exportL, export1, rowsOf, rowOf, innerIds, rowIds, one, closed, share, fresh1, E_T, reduceCtorEq, Nat.reduceAdd, Nat.reduceSub, Nat.reduceLT, Nat.reduceLeDiff, Nat.reduceEqDiff, bxm, tabs, List.map_append, tys, fx]) : p := h
theorem wvJ (h : p := by (repeat' (first | exact WVs.nil | (refine WVs.jjT (by simp only [jj_length, List.length_cons, List.length_nil, Nat.reduceAdd, Nat.reduceLeDiff]) ?_; try simp (decide := true) only [jj_0, jj_drop, List.drop_succ_cons, List.drop_zero, List.drop_nil, Nat.reduceSub, Nat.reduceLeDiff, ↓reduceIte]) | refine WVs.cons ?_ ?_ | (refine WVs.aggW ?_) | (refine WVs.fnW ?_ ?_))) <;> (first | exact WV.junk _ | exact WV.keep rfl | exact WV.row rfl | exact WV.nil rfl | exact WV.nilsl | exact WV.emp rfl | exact WV.empsl | exact WV.ptr rfl | exact WV.slfN | exact WV.slf rfl | exact WV.tptr rfl | exact WV.trow rfl | exact WV.trowN rfl | exact WV.vptr rfl rfl rfl rfl | (refine WV.row_eq rfl ?_; simp only [bxw, Int.toNat_natCast, List.length_replicate, List.take_length, tys]) | (refine WV.trow_eq rfl ?_; simp only [bxw, Int.toNat_natCast, bts_length, List.take_length, tys]) | (refine WV.view (k := 3) ?_; simp (decide := true) only [reify, share, fresh1, reduceIte, reduceCtorEq, Nat.reduceAdd, bxm, slk, Int.toNat_zero, List.drop_zero, true_and, and_true, tys]) | (refine WV.eq ?_ rfl; simp only [bxw, Int.toNat_natCast, List.length_replicate, List.take_length, setO_eq, tys]))) : p := h
theorem woJ (h : p := by (first | exact WO.same _ _ _ | (refine WO.same_eq ?_; simp only [bxw, Int.toNat_natCast, List.length_replicate, List.take_length, setO_eq, tys]; done) | (refine WO.mk ?_ (by simp only [bxm, leaf_ptr, leaf_slf, leaf_trow, leaf_tptr]) nofun; refine WL.cons ?_ .nil; (repeat' (first | exact WVs.nil | (refine WVs.jjT (by simp only [jj_length, List.length_cons, List.length_nil, Nat.reduceAdd, Nat.reduceLeDiff]) ?_; try simp (decide := true) only [jj_0, jj_drop, List.drop_succ_cons, List.drop_zero, List.drop_nil, Nat.reduceSub, Nat.reduceLeDiff, ↓reduceIte]) | refine WVs.cons ?_ ?_ | (refine WVs.aggW ?_) | (refine WVs.fnW ?_ ?_))) <;> (first | exact WV.junk _ | exact WV.keep rfl | exact WV.row rfl | exact WV.nil rfl | exact WV.nilsl | exact WV.emp rfl | exact WV.empsl | exact WV.ptr rfl | exact WV.slfN | exact WV.slf rfl | exact WV.tptr rfl | exact WV.trow rfl | exact WV.trowN rfl | exact WV.vptr rfl rfl rfl rfl | (refine WV.row_eq rfl ?_; simp only [bxw, Int.toNat_natCast, List.length_replicate, List.take_length, tys]) | (refine WV.trow_eq rfl ?_; simp only [bxw, Int.toNat_natCast, bts_length, List.take_length, tys]) | (refine WV.view (k := 3) ?_; simp (decide := true) only [reify, share, fresh1, reduceIte, reduceCtorEq, Nat.reduceAdd, bxm, slk, Int.toNat_zero, List.drop_zero, true_and, and_true, tys]) | (refine WV.eq ?_ rfl; simp only [bxw, Int.toNat_natCast, List.length_replicate, List.take_length, setO_eq, tys]))))) : p := h
theorem wsJ (h : p := by repeat' (first | exact WSs.nil | refine WSs.virt ?_ | refine WSs.dead ?_ | (refine WSs.obj rfl ?_ ?_; (first | exact WO.same _ _ _ | (refine WO.same_eq ?_; simp only [bxw, Int.toNat_natCast, List.length_replicate, List.take_length, setO_eq, tys]; done) | (refine WO.mk ?_ (by simp only [bxm, leaf_ptr, leaf_slf, leaf_trow, leaf_tptr]) nofun; refine WL.cons ?_ .nil; (repeat' (first | exact WVs.nil | (refine WVs.jjT (by simp only [jj_length, List.length_cons, List.length_nil, Nat.reduceAdd, Nat.reduceLeDiff]) ?_; try simp (decide := true) only [jj_0, jj_drop, List.drop_succ_cons, List.drop_zero, List.drop_nil, Nat.reduceSub, Nat.reduceLeDiff, ↓reduceIte]) | refine WVs.cons ?_ ?_ | (refine WVs.aggW ?_) | (refine WVs.fnW ?_ ?_))) <;> (first | exact WV.junk _ | exact WV.keep rfl | exact WV.row rfl | exact WV.nil rfl | exact WV.nilsl | exact WV.emp rfl | exact WV.empsl | exact WV.ptr rfl | exact WV.slfN | exact WV.slf rfl | exact WV.tptr rfl | exact WV.trow rfl | exact WV.trowN rfl | exact WV.vptr rfl rfl rfl rfl | (refine WV.row_eq rfl ?_; simp only [bxw, Int.toNat_natCast, List.length_replicate, List.take_length, tys]) | (refine WV.trow_eq rfl ?_; simp only [bxw, Int.toNat_natCast, bts_length, List.take_length, tys]) | (refine WV.view (k := 3) ?_; simp (decide := true) only [reify, share, fresh1, reduceIte, reduceCtorEq, Nat.reduceAdd, bxm, slk, Int.toNat_zero, List.drop_zero, true_and, and_true, tys]) | (refine WV.eq ?_ rfl; simp only [bxw, Int.toNat_natCast, List.length_replicate, List.take_length, setO_eq, tys]))))))) : p := h
theorem rgJF (h : p := by simp (decide := true) (disch := (first | omega | (simp only [List.length_append, List.length_map, List.length_cons, List.length_nil]; omega))) only [evOp, putTm, ↓reduceIte, jj_0, jj_set, jj_get, jj_getD, E_T, E_gl, brs, tdesc, reduceCtorEq, Nat.reduceAdd, Nat.reduceSub, Nat.reduceLT, Nat.reduceLeDiff, Nat.reduceEqDiff, bxm, bxk, tabs, evBin, eqAV, bothNil, constOp, eqCells, evUn, evLoad, ldV, ofCells, TD.isAgg, evStore, putAt, indexAddrAV, evA.eq_17, fieldPlaceT, evA.eq_4, fillL, evA.eq_15, sliceAV, boundAV, evA.eq_22, lenAV, evAppend, elemsT, elems, flatOf, byteCells_mkS, evCall, lendL, lendIds, mapO, importL, import2L, import1, import2, share, fresh1, freshL, evA.eq_5, evA.eq_23, evA.eq_24, evA.eq_8, evA.eq_12, evA.eq_11, evA.eq_14, evA.eq_13, tys, fx]; rfl) : p := h
theorem rgJS (h : p := by simp (decide := true) (disch := (first | omega | (simp only [List.length_append, List.length_map, List.length_cons, List.length_nil]; omega))) only [evOp, putTm, ↓reduceIte, jj_0, jj_set, jj_get, jj_getD, E_T, E_gl, brs, tdesc, reduceCtorEq, Nat.reduceAdd, Nat.reduceSub, Nat.reduceLT, Nat.reduceLeDiff, Nat.reduceEqDiff, bxm, bxk, tabs, evBin, eqAV, bothNil, constOp, eqCells, evUn, evLoad, ldV, ofCells, TD.isAgg, evStore, putAt, indexAddrAV, evA.eq_17, fieldPlaceT, evA.eq_4, fillL, evA.eq_15, sliceAV, boundAV, evA.eq_22, lenAV, evAppend, elemsT, elems, flatOf, byteCells_mkS, evCall, lendL, lendIds, mapO, importL, import2L, import1, import2, share, fresh1, freshL, evA.eq_5, evA.eq_23, evA.eq_24, evA.eq_8, evA.eq_12, evA.eq_11, evA.eq_14, evA.eq_13, tys, slice_take, fx]; rfl) : p := h
theorem rtJF (h : p := by simp (decide := true) only [↓reduceIte, jj_0, jj_set, jj_get, jj_getD, evReturn, retShare, evReturn0, resAV, evLoad, ofCells, TD.isAgg, mapO, exportVs, exportV, exportL, export1, rowsOf, rowOf, innerIds, rowIds, one, closed, share, fresh1, E_T, reduceCtorEq, Nat.reduceAdd, Nat.reduceSub, Nat.reduceLT, Nat.reduceLeDiff, Nat.reduceEqDiff, bxm, tabs, List.map_append, tys, fx]) : p := h
theorem wvJF (h : p := by (repeat' (first | exact WVs.nil | (refine WVs.jjT (by simp only [jj_length, List.length_cons, List.length_nil, Nat.reduceAdd, Nat.reduceLeDiff]) ?_; try simp (decide := true) only [jj_0, jj_drop, List.drop_succ_cons, List.drop_zero, List.drop_nil, Nat.reduceSub, Nat.reduceLeDiff, ↓reduceIte]) | refine WVs.cons ?_ ?_ | (refine WVs.aggW ?_) | (refine WVs.fnW ?_ ?_))) <;> (first | exact WV.junk _ | exact WV.keep rfl | exact WV.row rfl | exact WV.nil rfl | exact WV.nilsl | exact WV.emp rfl | exact WV.empsl | exact WV.ptr rfl | exact WV.slfN | exact WV.slf rfl | exact WV.tptr rfl | exact WV.trow rfl | exact WV.trowN rfl | exact WV.vptr rfl rfl rfl rfl | (refine WV.row_eq rfl ?_; simp only [bxw, Int.toNat_natCast, List.length_replicate, List.take_length, fl, tys]) | (refine WV.trow_eq rfl ?_; simp only [bxw, Int.toNat_natCast, bts_length, List.take_length, fl, tys]) | (refine WV.view (k := 3) ?_; simp (decide := true) only [reify, share, fresh1, reduceIte, reduceCtorEq, Nat.reduceAdd, bxm, slk, Int.toNat_zero, List.drop_zero, true_and, and_true, fv, tys]) | (refine WV.eq ?_ rfl; simp only [bxw, Int.toNat_natCast, List.length_replicate, List.take_length, setO_eq, fe, tys]))) : p := h
theorem woJF (h : p := by (first | exact WO.same _ _ _ | (refine WO.same_eq ?_; simp only [bxw, Int.toNat_natCast, List.length_replicate, List.take_length, setO_eq, fe, tys]; done) | (refine WO.mk ?_ (by simp only [bxm, leaf_ptr, leaf_slf, leaf_trow, leaf_tptr]) nofun; refine WL.cons ?_ .nil; (repeat' (first | exact WVs.nil | (refine WVs.jjT (by simp only [jj_length, List.length_cons, List.length_nil, Nat.reduceAdd, Nat.reduceLeDiff]) ?_; try simp (decide := true) only [jj_0, jj_drop, List.drop_succ_cons, List.drop_zero, List.drop_nil, Nat.reduceSub, Nat.reduceLeDiff, ↓reduceIte]) | refine WVs.cons ?_ ?_ | (refine WVs.aggW ?_) | (refine WVs.fnW ?_ ?_))) <;> (first | exact WV.junk _ | exact WV.keep rfl | exact WV.row rfl | exact WV.nil rfl | exact WV.nilsl | exact WV.emp rfl | exact WV.empsl | exact WV.ptr rfl | exact WV.slfN | exact WV.slf rfl | exact WV.tptr rfl | exact WV.trow rfl | exact WV.trowN rfl | exact WV.vptr rfl rfl rfl rfl | (refine WV.row_eq rfl ?_; simp only [bxw, Int.toNat_natCast, List.length_replicate, List.take_length, fl, tys]) | (refine WV.trow_eq rfl ?_; simp only [bxw, Int.toNat_natCast, bts_length, List.take_length, fl, tys]) | (refine WV.view (k := 3) ?_; simp (decide := true) only [reify, share, fresh1, reduceIte, reduceCtorEq, Nat.reduceAdd, bxm, slk, Int.toNat_zero, List.drop_zero, true_and, and_true, fv, tys]) | (refine WV.eq ?_ rfl; simp only [bxw, Int.toNat_natCast, List.length_replicate, List.take_length, setO_eq, fe, tys]))))) : p := h
theorem wsJF (h : p := by repeat' (first | exact WSs.nil | refine WSs.virt ?_ | refine WSs.dead ?_ | (refine WSs.obj rfl ?_ ?_; (first | exact WO.same _ _ _ | (refine WO.same_eq ?_; simp only [bxw, Int.toNat_natCast, List.length_replicate, List.take_length, setO_eq, fe, tys]; done) | (refine WO.mk ?_ (by simp only [bxm, leaf_ptr, leaf_slf, leaf_trow, leaf_tptr]) nofun; refine WL.cons ?_ .nil; (repeat' (first | exact WVs.nil | (refine WVs.jjT (by simp only [jj_length, List.length_cons, List.length_nil, Nat.reduceAdd, Nat.reduceLeDiff]) ?_; try simp (decide := true) only [jj_0, jj_drop, List.drop_succ_cons, List.drop_zero, List.drop_nil, Nat.reduceSub, Nat.reduceLeDiff, ↓reduceIte]) | refine WVs.cons ?_ ?_ | (refine WVs.aggW ?_) | (refine WVs.fnW ?_ ?_))) <;> (first | exact WV.junk _ | exact WV.keep rfl | exact WV.row rfl | exact WV.nil rfl | exact WV.nilsl | exact WV.emp rfl | exact WV.empsl | exact WV.ptr rfl | exact WV.slfN | exact WV.slf rfl | exact WV.tptr rfl | exact WV.trow rfl | exact WV.trowN rfl | exact WV.vptr rfl rfl rfl rfl | (refine WV.row_eq rfl ?_; simp only [bxw, Int.toNat_natCast, List.length_replicate, List.take_length, fl, tys]) | (refine WV.trow_eq rfl ?_; simp only [bxw, Int.toNat_natCast, bts_length, List.take_length, fl, tys]) | (refine WV.view (k := 3) ?_; simp (decide := true) only [reify, share, fresh1, reduceIte, reduceCtorEq, Nat.reduceAdd, bxm, slk, Int.toNat_zero, List.drop_zero, true_and, and_true, fv, tys]) | (refine WV.eq ?_ rfl; simp only [bxw, Int.toNat_natCast, List.length_replicate, List.take_length, setO_eq, fe, tys]))))))) : p := h
end
end Go.Bx.Scan

/- math/bits.Add32, printed by pf.py. (Own text.) -/
namespace Go.Bx.Scan
set_option linter.unusedVariables false
set_option linter.unusedSimpArgs false
set_option linter.unusedSectionVars false
open Go.Proofs
set_option linter.unusedSimpArgs false
set_option linter.unusedVariables false
set_option maxRecDepth 10000
/-- math/bits.Add32 -/
def f80 (x : Int) (y : Int) (carry : Int) : Option (Int × Int) :=
  some (IntKind.u64.wrap ((IntKind.u64.wrap ((IntKind.u64.wrap x) + (IntKind.u64.wrap y))) + (IntKind.u64.wrap carry))) >>= fun x1 =>
  some (IntKind.u32.wrap x1, IntKind.u32.wrap (shrI .u64 x1 32))

theorem f80_res : Try.f80.results = #[.tmp 6, .tmp 7] := rfl
theorem f80_rt : Try.f80.resultTypes = #[42, 42] := rfl

set_option maxHeartbeats 4000000 in
theorem f80_ok (x : Int) (y : Int) (carry : Int) (r : Int × Int) (h : f80 x y carry = some r) : PureOK E 80 [.v (.int .u32 x), .v (.int .u32 y), .v (.int .u32 carry)] (.tup [.v (.int .u32 r.1), .v (.int .u32 r.2)]) := by
  unfold f80 at h
  refine pure_of_wp tabOK mixed (fn := Try.f80) (nt := 22) Try.func80 rfl rfl (names _ _ Try.func80) rfl rfl (fun _ => rfl) (fun base c00 hU => ?_)
  refine Wk.wp (s2 := ⟨.v (.int .u32 x) :: .v (.int .u32 y) :: .v (.int .u32 carry) :: jj 19 [], St [], none, 0⟩) ?_ ?_
  · refine Wk.weak hU [] _ (by decide) .nil ?_
    simp only [jjs, List.length_cons, List.length_nil, Nat.reduceAdd, Nat.reduceSub, List.replicate, List.cons_append, List.nil_append]
    repeat' (first | exact WVs.nil | refine WVs.cons ?_ ?_)
    all_goals first | exact WV.junk _ | exact WV.keep rfl | exact .agg rfl (aggKeep rfl)
  refine Wp.seq <| Wp.region hU no_ok rgI <| thenN <| Wp.seq <| ?_
  obtain ⟨x1, hx1, h⟩ := bind_some h
  replace hx1 := Option.some.inj hx1
  have fx := hx1
  refine Wp.region hU no_ok rgIF <| thenN <| Wp.seq <| Wp.region hU no_ok rgI <| thenN <| Wp.seq <| Wp.region hU no_ok rgI <| thenN <| Wp.ret <| ?_
  obtain rfl := Option.some.inj h
  refine ⟨.inl rfl, ?_⟩
  refine Rt.of <| ?_
  have fx := i2 f80_res f80_rt
  exact rtI

noncomputable def f80_tbl : CI := tbl 80 (fun p : Int × Int × Int => [.v (.int .u32 p.1), .v (.int .u32 p.2.1), .v (.int .u32 p.2.2)]) (fun p => (f80 p.1 p.2.1 p.2.2).map fun r => .tup [.v (.int .u32 r.1), .v (.int .u32 r.2)])
theorem f80_tbl_ok {base : Nat} : CIOK E base f80_tbl := tbl_ok fun p r h => by obtain ⟨q, hq, rfl⟩ := Option.map_eq_some_iff.1 h; exact f80_ok p.1 p.2.1 p.2.2 q hq
theorem f80_call {x : Int} {y : Int} {carry : Int} {r : Int × Int} (h : f80 x y carry = some r) (σ : Store) : f80_tbl 80 [.v (.int .u32 x), .v (.int .u32 y), .v (.int .u32 carry)] σ = some (.tup [.v (.int .u32 r.1), .v (.int .u32 r.2)], σ, none) :=
  tbl_eq (x := (x, y, carry)) (fun x y e => by
    obtain ⟨x0, x1, x2⟩ := x; obtain ⟨y0, y1, y2⟩ := y
    have e0 := av_int (List.cons.inj e).1
    have e1 := av_int (List.cons.inj (List.cons.inj e).2).1
    have e2 := av_int (List.cons.inj (List.cons.inj (List.cons.inj e).2).2).1
    subst e0 e1 e2; rfl) (by simp [h]) σ
end Go.Bx.Scan

/- math/bits.LeadingZeros32: off the shelf. (Own text.) -/
namespace Go.Bx.Scan
set_option linter.unusedVariables false
set_option linter.unusedSimpArgs false
set_option linter.unusedSectionVars false
open Go.Proofs Go.RowKit
set_option linter.unusedVariables false

/-- math/bits.LeadingZeros32 -/
def f75 (x : Int) : Option Int := if 0 ≤ x ∧ x ≤ 4294967295 then some (32 - (Lib.bitLen x.toNat : Int)) else none
theorem f75_ok (x : Int) (r : Int) (h : f75 x = some r) : PureOK E 75 [.v (.int .u32 x)] (.v (.int .i64 r)) := by
  unfold f75 at h
  split at h
  · rename_i hc
    obtain rfl := Option.some.inj h
    refine pure_below (vs := [.int .u32 x]) Try.func75 rfl (names _ _ Try.func75) (fun w => ?_)
    refine (Try.bits_LeadingZeros32 x w hc.1 hc.2).mono ?_
    rintro e w' ⟨rfl, rfl⟩
    exact ⟨rfl, Below.refl _ _⟩
  · cases h
end Go.Bx.Scan

/- math/bits.LeadingZeros32, printed by pf.py. (Own text.) -/
namespace Go.Bx.Scan
set_option linter.unusedVariables false
set_option linter.unusedSimpArgs false
set_option linter.unusedSectionVars false
open Go.Proofs
set_option linter.unusedSimpArgs false
set_option linter.unusedVariables false
set_option maxRecDepth 10000
-- theorem f75_ok (x : Int) (r : Int) (h : f75 x = some r) : PureOK E 75 [.v (.int .u32 x)] (.v (.int .i64 r))
noncomputable def f75_tbl : CI := tbl 75 (fun p : Int => [.v (.int .u32 p)]) (fun p => (f75 p).map fun r => .v (.int .i64 r))
theorem f75_tbl_ok {base : Nat} : CIOK E base f75_tbl := tbl_ok fun p r h => by obtain ⟨q, hq, rfl⟩ := Option.map_eq_some_iff.1 h; exact f75_ok p q hq
theorem f75_call {x : Int} {r : Int} (h : f75 x = some r) (σ : Store) : f75_tbl 75 [.v (.int .u32 x)] σ = some (.v (.int .i64 r), σ, none) :=
  tbl_eq (x := (x)) (fun x y e => by
    exact av_int (List.cons.inj e).1) (by simp [h]) σ
end Go.Bx.Scan

/- sibyl/nats.cut, printed by pf.py. (Own text.) -/
namespace Go.Bx.Scan
set_option linter.unusedVariables false
set_option linter.unusedSimpArgs false
set_option linter.unusedSectionVars false
open Go.Proofs
set_option linter.unusedSimpArgs false
set_option linter.unusedVariables false
set_option maxRecDepth 10000
def f72_l0 (a : List Int) (n : Int) : Option (Int) :=
  if (decide (n > 0)) = true then
    (rd a (IntKind.i64.wrap (n - 1)) >>= fun e2 =>
    if (e2 == 0) = true then
      (f72_l0 a (IntKind.i64.wrap (n - 1)))
    else
      some n)
  else
    some n
  partial_fixpoint

/-- sibyl/nats.cut -/
def f72 (a : List Int) : Option (List Int) :=
  f72_l0 a (a.length : Int) >>= fun o1 =>
  cutL a 0 o1 >>= fun p2 =>
  some p2

theorem f72_res : Try.f72.results = #[.tmp 2] := rfl
theorem f72_rt : Try.f72.resultTypes = #[36] := rfl

set_option maxHeartbeats 4000000 in
theorem f72_l0_ok {base : Nat} {c00 : Ctx} (a : List Int) (hU : Under E base c00 nilStore) : ∀ (n : Int) (o1 : Int), f72_l0 a n = some o1 →
    WpL E base c00 nilStore (lb Try.f72 0) ⟨.sl (List.map (cInt .u32) a) :: jj 2 (.v (.int .i64 n) :: jj 17 []), St [], none, 0⟩ (fun ex s1 => ex = .exit 0 ∧ Wk base c00 nilStore s1 ⟨.sl (List.map (cInt .u32) a) :: jj 2 (.v (.int .i64 o1) :: jj 17 []), St [], none, 0⟩) := by
  refine f72_l0.partial_correctness a _ ?_
  intro lp__ ih n o1 h
  refine WpL.stepE (by simp only [Try.f72, lb, Option.getD_some, loopsOf, List.nil_append, List.append_nil, List.cons_append, List.getElem?_cons_zero, List.getElem?_cons_succ] <;> rfl) ?_
  refine Wp.seq <| Wp.seq <| ?_
  rcases Bool.eq_false_or_eq_true (decide (n > 0)) with hg36 | hg36
  · rw [if_t hg36] at h
    obtain ⟨e2, he2, h⟩ := bind_some h
    obtain ⟨he2a, he2b, he2c⟩ := rd_some he2
    have fx := i4 he2a he2b he2c hg36
    refine Wp.region hU no_ok rgIF <| thenN <| ?_
    refine Wp.cond hU (t := e2 == 0) rfl (fun hc3 => ?_) (fun hc3 => ?_)
    · rw [if_t hc3] at h
      refine Wp.skip <| thenN <| Wp.block <| ?_
      have fx := i2 hg36 hc3
      refine Wp.region hU no_ok rgIF <| blkN <| againN <| ?_
      refine Wk.wpL ?_ (ih (IntKind.i64.wrap (n - 1)) _ h)
      refine Wk.weak hU [] _ (by decide) ?_ ?_
      · exact .nil
      · exact wvI
    · rw [if_f hc3] at h
      refine Wp.exit <| thenE <| againE <| ?_
      obtain rfl := Option.some.inj h
      refine ⟨rfl, ?_⟩
      refine Wk.weak hU [] _ (by decide) ?_ ?_
      · exact .nil
      · exact wvI
  · rw [if_f hg36] at h
    have fx := hg36
    refine Wp.region hU no_ok rgIF <| thenN <| ?_
    refine Wp.cond hU (t := false) rfl (fun hc => by cases hc) (fun _ => ?_)
    refine Wp.exit <| thenE <| againE <| ?_
    obtain rfl := Option.some.inj h
    refine ⟨rfl, ?_⟩
    refine Wk.weak hU [] _ (by decide) ?_ ?_
    · exact .nil
    · exact wvI

set_option maxHeartbeats 4000000 in
theorem f72_ok (a : List Int) (r : List Int) (h : f72 a = some r) : PureOK E 72 [.sl (List.map (cInt .u32) a)] (.sl (List.map (cInt .u32) r)) := by
  unfold f72 at h
  refine pure_of_wp tabOK mixed (fn := Try.f72) (nt := 21) Try.func72 rfl rfl (names _ _ Try.func72) rfl rfl (fun _ => rfl) (fun base c00 hU => ?_)
  refine Wk.wp (s2 := ⟨.sl (List.map (cInt .u32) a) :: jj 20 [], St [], none, 0⟩) ?_ ?_
  · refine Wk.weak hU [] _ (by decide) .nil ?_
    simp only [jjs, List.length_cons, List.length_nil, Nat.reduceAdd, Nat.reduceSub, List.replicate, List.cons_append, List.nil_append]
    repeat' (first | exact WVs.nil | refine WVs.cons ?_ ?_)
    all_goals first | exact WV.junk _ | exact WV.keep rfl | exact .agg rfl (aggKeep rfl)
  refine Wp.seq <| Wp.region hU no_ok rgI <| thenN <| Wp.seq <| Wp.region hU no_ok rgI <| thenN <| Wp.seq <| Wp.block <| ?_
  obtain ⟨o1, ho1, h⟩ := bind_some h
  refine Wp.loop <| ?_
  refine Tw.mono (Wk.wpL (s2 := ⟨.sl (List.map (cInt .u32) a) :: jj 2 (.v (.int .i64 (a.length : Int)) :: jj 17 []), St [], none, 0⟩) ?_ (f72_l0_ok a hU (a.length : Int) o1 ho1)) (fun ex s1 hp => ?_)
  · refine Wk.weak hU [] _ (by decide) ?_ ?_
    · exact .nil
    · exact wvI
  · obtain ⟨rfl, hp⟩ := hp
    refine blkE <| thenN <| hp.wp <| Wp.seq <| ?_
    obtain ⟨p2, hp2, h⟩ := bind_some h
    obtain ⟨hp2a, hp2b, hp2c, hp2d, hp2e, hp2f⟩ := cutL_some hp2
    try simp only [Int.toNat_natCast] at hp2c hp2d
    try simp only [Int.toNat_natCast, Int.toNat_zero, List.drop_zero, Nat.sub_zero] at hp2e hp2f
    have fx := i5 hp2a hp2b hp2c hp2d hp2e.symm
    refine Wp.region hU no_ok rgIS <| thenN <| Wp.ret <| ?_
    obtain rfl := Option.some.inj h
    refine ⟨.inl rfl, ?_⟩
    refine Rt.of <| ?_
    have fx := i3 f72_res f72_rt hp2e
    exact rtI

noncomputable def f72_tbl : CI := tbl 72 (fun p : (List Int) => [.sl (List.map (cInt .u32) p)]) (fun p => (f72 p).map fun r => .sl (List.map (cInt .u32) r))
theorem f72_tbl_ok {base : Nat} : CIOK E base f72_tbl := tbl_ok fun p r h => by obtain ⟨q, hq, rfl⟩ := Option.map_eq_some_iff.1 h; exact f72_ok p q hq
theorem f72_call {a : List Int} {r : List Int} (h : f72 a = some r) (σ : Store) : f72_tbl 72 [.sl (List.map (cInt .u32) a)] σ = some (.sl (List.map (cInt .u32) r), σ, none) :=
  tbl_eq (x := (a)) (fun x y e => by
    exact av_sl inj_int (List.cons.inj e).1) (by simp [h]) σ
end Go.Bx.Scan

/- sibyl/nats.Cmp, printed by pf.py. (Own text.) -/
namespace Go.Bx.Scan
set_option linter.unusedVariables false
set_option linter.unusedSimpArgs false
set_option linter.unusedSectionVars false
open Go.Proofs
set_option linter.unusedSimpArgs false
set_option linter.unusedVariables false
set_option maxRecDepth 10000
def f73_l0 (r1 : List Int) (r2 : List Int) (i : Int) : Option (Ou Int Unit) :=
  if (decide (i ≥ 0)) = true then
    (rd r1 i >>= fun e8 =>
    rd r2 i >>= fun e9 =>
    if (e8 != e9) = true then
      (rd r1 i >>= fun e11 =>
      rd r2 i >>= fun e12 =>
      if (decide (e11 < e12)) = true then
        (some (.ret (-1)))
      else
        some (.ret 1))
    else
      f73_l0 r1 r2 (IntKind.i64.wrap (i - 1)))
  else
    some (.nxt ())
  partial_fixpoint

/-- sibyl/nats.Cmp -/
def f73 (a : List Int) (b : List Int) : Option (Int) :=
  f72 a >>= fun r1 =>
  f72 b >>= fun r2 =>
  if ((r1.length : Int) != (r2.length : Int)) = true then
    (if (decide ((r1.length : Int) < (r2.length : Int))) = true then
      (some (-1))
    else
      some 1)
  else
    some (IntKind.i64.wrap ((r1.length : Int) - 1)) >>= fun x5 =>
    f73_l0 r1 r2 x5 >>= fun o6 => match o6 with
    | .ret r0 => some r0
    | .nxt wo6 =>
      some 0

noncomputable def f73_ci : CI := (CI.or 72 f72_tbl (fun _ _ _ => none))
theorem f73_ci_ok (base : Nat) : CIOK E base f73_ci := (or_ok f72_tbl_ok no_ok)
theorem f73_res : Try.f73.results = #[.tmp 4] := rfl
theorem f73_rt : Try.f73.resultTypes = #[3] := rfl

set_option maxHeartbeats 4000000 in
theorem f73_l0_ok {base : Nat} {c00 : Ctx} (r1 : List Int) (r2 : List Int) (hU : Under E base c00 nilStore) : ∀ (i : Int) (o6 : Ou Int Unit), f73_l0 r1 r2 i = some o6 →
    WpL E base c00 nilStore (lb Try.f73 0) ⟨.sl (List.map (cInt .u32) r1) :: .sl (List.map (cInt .u32) r2) :: jj 3 (.v (.int .i64 i) :: jj 39 []), St [], none, 0⟩ (fun ex s1 => match o6 with | .ret r0 => ex = .ret ∧ Rt E base c00 Try.f73 (.v (.int .i64 r0)) s1 | .nxt wo6 => ex = .exit 0 ∧ Wk base c00 nilStore s1 ⟨jj 45 [], St [], none, 0⟩) := by
  refine f73_l0.partial_correctness r1 r2 _ ?_
  intro lp__ ih i o6 h
  refine WpL.stepE (by simp only [Try.f73, lb, Option.getD_some, loopsOf, List.nil_append, List.append_nil, List.cons_append, List.getElem?_cons_zero, List.getElem?_cons_succ] <;> rfl) ?_
  refine Wp.seq <| Wp.seq <| Wp.region hU (f73_ci_ok _) rgI <| thenN <| ?_
  refine Wp.cond hU (t := decide (i ≥ 0)) rfl (fun hc7 => ?_) (fun hc7 => ?_)
  · rw [if_t hc7] at h
    refine Wp.skip <| thenN <| Wp.seq <| Wp.block <| Wp.seq <| ?_
    obtain ⟨e8, he8, h⟩ := bind_some h
    obtain ⟨he8a, he8b, he8c⟩ := rd_some he8
    obtain ⟨e9, he9, h⟩ := bind_some h
    obtain ⟨he9a, he9b, he9c⟩ := rd_some he9
    have fx := i7 he8a he8b he8c he9a he9b he9c hc7
    refine Wp.regionT hU (f73_ci_ok _) rgIF (by kernel_rfl) <| thenN <| ?_
    refine Wp.cond hU (t := e8 != e9) rfl (fun hc10 => ?_) (fun hc10 => ?_)
    · rw [if_t hc10] at h
      refine Wp.seq <| Wp.seq <| ?_
      obtain ⟨e11, he11, h⟩ := bind_some h
      obtain ⟨he11a, he11b, he11c⟩ := rd_some he11
      obtain ⟨e12, he12, h⟩ := bind_some h
      obtain ⟨he12a, he12b, he12c⟩ := rd_some he12
      have fx := i8 he11a he11b he11c he12a he12b he12c hc7 hc10
      refine Wp.regionT hU (f73_ci_ok _) rgIF (by kernel_rfl) <| thenN <| ?_
      refine Wp.cond hU (t := decide (e11 < e12)) rfl (fun hc13 => ?_) (fun hc13 => ?_)
      · rw [if_t hc13] at h
        refine Wp.seq <| ?_
        have fx := i3 hc7 hc10 hc13
        refine Wp.region hU (f73_ci_ok _) rgIF <| thenN <| Wp.ret <| thenR <| blkR <| thenR <| againR <| ?_
        obtain rfl := Option.some.inj h
        refine ⟨rfl, ?_⟩
        refine Rt.of <| ?_
        have fx := i2 f73_res f73_rt
        exact rtI
      · rw [if_f hc13] at h
        refine Wp.skip <| thenN <| Wp.seq <| ?_
        have fx := i3 hc7 hc10 hc13
        refine Wp.region hU (f73_ci_ok _) rgIF <| thenN <| Wp.ret <| blkR <| thenR <| againR <| ?_
        obtain rfl := Option.some.inj h
        refine ⟨rfl, ?_⟩
        refine Rt.of <| ?_
        have fx := i2 f73_res f73_rt
        exact rtI
    · rw [if_f hc10] at h
      refine Wp.skip <| blkN <| thenN <| ?_
      have fx := i2 hc7 hc10
      refine Wp.region hU (f73_ci_ok _) rgIF <| againN <| ?_
      refine Wk.wpL ?_ (ih (IntKind.i64.wrap (i - 1)) _ h)
      refine Wk.weak hU [] _ (by decide) ?_ ?_
      · exact .nil
      · exact wvI
  · rw [if_f hc7] at h
    refine Wp.exit <| thenE <| againE <| ?_
    obtain rfl := Option.some.inj h
    refine ⟨rfl, ?_⟩
    refine Wk.weak hU [] _ (by decide) ?_ ?_
    · exact .nil
    · exact wvI

set_option maxHeartbeats 4000000 in
theorem f73_ok (a : List Int) (b : List Int) (r : Int) (h : f73 a b = some r) : PureOK E 73 [.sl (List.map (cInt .u32) a), .sl (List.map (cInt .u32) b)] (.v (.int .i64 r)) := by
  unfold f73 at h
  refine pure_of_wp tabOK mixed (fn := Try.f73) (nt := 45) Try.func73 rfl rfl (names _ _ Try.func73) rfl rfl (fun _ => rfl) (fun base c00 hU => ?_)
  refine Wk.wp (s2 := ⟨.sl (List.map (cInt .u32) a) :: .sl (List.map (cInt .u32) b) :: jj 43 [], St [], none, 0⟩) ?_ ?_
  · refine Wk.weak hU [] _ (by decide) .nil ?_
    simp only [jjs, List.length_cons, List.length_nil, Nat.reduceAdd, Nat.reduceSub, List.replicate, List.cons_append, List.nil_append]
    repeat' (first | exact WVs.nil | refine WVs.cons ?_ ?_)
    all_goals first | exact WV.junk _ | exact WV.keep rfl | exact .agg rfl (aggKeep rfl)
  refine Wp.seq <| Wp.region hU (f73_ci_ok _) rgI <| thenN <| Wp.seq <| ?_
  obtain ⟨r1, hr1, h⟩ := bind_some h
  have hr1c : ∀ σ, f73_ci 72 [.sl (List.map (cInt .u32) a)] σ = some (.sl (List.map (cInt .u32) r1), σ, none) := fun σ => f72_call hr1 σ
  obtain ⟨r2, hr2, h⟩ := bind_some h
  have hr2c : ∀ σ, f73_ci 72 [.sl (List.map (cInt .u32) b)] σ = some (.sl (List.map (cInt .u32) r2), σ, none) := fun σ => f72_call hr2 σ
  have fx := i2 hr1c hr2c
  refine Wp.region hU (f73_ci_ok _) rgIF <| thenN <| Wp.seq <| Wp.seq <| Wp.region hU (f73_ci_ok _) rgI <| thenN <| ?_
  refine Wp.cond hU (t := (r1.length : Int) != (r2.length : Int)) rfl (fun hc3 => ?_) (fun hc3 => ?_)
  · rw [if_t hc3] at h
    refine Wp.seq <| Wp.seq <| ?_
    have fx := hc3
    refine Wp.region hU (f73_ci_ok _) rgIF <| thenN <| ?_
    refine Wp.cond hU (t := decide ((r1.length : Int) < (r2.length : Int))) rfl (fun hc4 => ?_) (fun hc4 => ?_)
    · rw [if_t hc4] at h
      refine Wp.seq <| ?_
      have fx := i2 hc3 hc4
      refine Wp.region hU (f73_ci_ok _) rgIF <| thenN <| Wp.ret <| thenR <| thenR <| ?_
      obtain rfl := Option.some.inj h
      refine ⟨.inl rfl, ?_⟩
      refine Rt.of <| ?_
      have fx := i2 f73_res f73_rt
      exact rtI
    · rw [if_f hc4] at h
      refine Wp.skip <| thenN <| Wp.seq <| ?_
      have fx := i2 hc3 hc4
      refine Wp.region hU (f73_ci_ok _) rgIF <| thenN <| Wp.ret <| thenR <| ?_
      obtain rfl := Option.some.inj h
      refine ⟨.inl rfl, ?_⟩
      refine Rt.of <| ?_
      have fx := i2 f73_res f73_rt
      exact rtI
  · rw [if_f hc3] at h
    refine Wp.skip <| thenN <| Wp.seq <| Wp.seq <| ?_
    obtain ⟨x5, hx5, h⟩ := bind_some h
    replace hx5 := Option.some.inj hx5
    have fx := i2 hx5 hc3
    refine Wp.region hU (f73_ci_ok _) rgIF <| thenN <| Wp.block <| ?_
    obtain ⟨o6, ho6, h⟩ := bind_some h
    refine Wp.loop <| ?_
    refine Tw.mono (Wk.wpL (s2 := ⟨.sl (List.map (cInt .u32) r1) :: .sl (List.map (cInt .u32) r2) :: jj 3 (.v (.int .i64 x5) :: jj 39 []), St [], none, 0⟩) ?_ (f73_l0_ok r1 r2 hU x5 o6 ho6)) (fun ex s1 hp => ?_)
    · refine Wk.weak hU [] _ (by decide) ?_ ?_
      · exact .nil
      · exact wvI
    · cases o6 with
      | ret r0 =>
        obtain ⟨rfl, hp⟩ := hp
        obtain rfl := Option.some.inj h
        refine blkR <| thenR <| ?_
        exact ⟨.inl rfl, hp⟩
      | nxt wo6 =>
        obtain ⟨rfl, hp⟩ := hp
        dsimp only at h
        refine blkE <| thenN <| hp.wp <| Wp.seq <| ?_
        have fx := hc3
        refine Wp.region hU (f73_ci_ok _) rgIF <| thenN <| Wp.ret <| ?_
        obtain rfl := Option.some.inj h
        refine ⟨.inl rfl, ?_⟩
        refine Rt.of <| ?_
        have fx := i2 f73_res f73_rt
        exact rtI

noncomputable def f73_tbl : CI := tbl 73 (fun p : (List Int) × (List Int) => [.sl (List.map (cInt .u32) p.1), .sl (List.map (cInt .u32) p.2)]) (fun p => (f73 p.1 p.2).map fun r => .v (.int .i64 r))
theorem f73_tbl_ok {base : Nat} : CIOK E base f73_tbl := tbl_ok fun p r h => by obtain ⟨q, hq, rfl⟩ := Option.map_eq_some_iff.1 h; exact f73_ok p.1 p.2 q hq
theorem f73_call {a : List Int} {b : List Int} {r : Int} (h : f73 a b = some r) (σ : Store) : f73_tbl 73 [.sl (List.map (cInt .u32) a), .sl (List.map (cInt .u32) b)] σ = some (.v (.int .i64 r), σ, none) :=
  tbl_eq (x := (a, b)) (fun x y e => by
    obtain ⟨x0, x1⟩ := x; obtain ⟨y0, y1⟩ := y
    have e0 := av_sl inj_int (List.cons.inj e).1
    have e1 := av_sl inj_int (List.cons.inj (List.cons.inj e).2).1
    subst e0 e1; rfl) (by simp [h]) σ
end Go.Bx.Scan

/- sibyl/nats.word, printed by pf.py. (Own text.) -/
namespace Go.Bx.Scan
set_option linter.unusedVariables false
set_option linter.unusedSimpArgs false
set_option linter.unusedSectionVars false
open Go.Proofs
set_option linter.unusedSimpArgs false
set_option linter.unusedVariables false
set_option maxRecDepth 10000
def f74_l0 (a : List Int) (w : Int) (out : List Int) (r_ : Int) (i : Int) : Option ((List Int) × Int) :=
  if (decide (i ≥ 0)) = true then
    (rd a i >>= fun e5 =>
    some (orI .u64 (shlI .u64 r_ 32) (IntKind.u64.wrap e5)) >>= fun x6 =>
    nz (IntKind.u64.wrap w) >>= fun u7 =>
    rd out i >>= fun e8 =>
    nz (IntKind.u64.wrap w) >>= fun u9 =>
    f74_l0 a w (setL out i (IntKind.u32.wrap (quoI .u64 x6 (IntKind.u64.wrap w)))) (x6.tmod (IntKind.u64.wrap w)) (IntKind.i64.wrap (i - 1)))
  else
    some (out, r_)
  partial_fixpoint

/-- sibyl/nats.word -/
def f74 (a : List Int) (w : Int) : Option ((List Int) × Int) :=
  mk 4 (a.length : Int) 0 >>= fun m1 =>
  some (IntKind.i64.wrap ((a.length : Int) - 1)) >>= fun x2 =>
  f74_l0 a w m1 0 x2 >>= fun o3 =>
  f72 o3.1 >>= fun r10 =>
  some (r10, IntKind.u32.wrap o3.2)

noncomputable def f74_ci : CI := (CI.or 72 f72_tbl (fun _ _ _ => none))
theorem f74_ci_ok (base : Nat) : CIOK E base f74_ci := (or_ok f72_tbl_ok no_ok)
theorem f74_res : Try.f74.results = #[.tmp 4, .tmp 5] := rfl
theorem f74_rt : Try.f74.resultTypes = #[36, 42] := rfl

set_option maxHeartbeats 4000000 in
theorem f74_l0_ok {base : Nat} {c00 : Ctx} (a : List Int) (w : Int) (hU : Under E base c00 nilStore) : ∀ (out : List Int) (r_ : Int) (i : Int) (o3 : (List Int) × Int), f74_l0 a w out r_ i = some o3 →
    WpL E base c00 nilStore (lb Try.f74 0) ⟨.sl (List.map (cInt .u32) a) :: .v (.int .u32 w) :: jj 4 (.row 0 1 0 ((out).length) :: .v (.int .u64 r_) :: .v (.int .i64 i) :: jj 35 []), St [some ⟨1, false, true, List.map (cInt .u32) out⟩], none, 0⟩ (fun ex s1 => ex = .exit 0 ∧ Wk base c00 nilStore s1 ⟨jj 6 (.row 0 1 0 ((o3.1).length) :: .v (.int .u64 o3.2) :: jj 36 []), St [some ⟨1, false, true, List.map (cInt .u32) o3.1⟩], none, 0⟩) := by
  refine f74_l0.partial_correctness a w _ ?_
  intro lp__ ih out r_ i o3 h
  refine WpL.stepE (by simp only [Try.f74, lb, Option.getD_some, loopsOf, List.nil_append, List.append_nil, List.cons_append, List.getElem?_cons_zero, List.getElem?_cons_succ] <;> rfl) ?_
  refine Wp.seq <| Wp.seq <| Wp.region hU (f74_ci_ok _) rgI <| thenN <| ?_
  refine Wp.cond hU (t := decide (i ≥ 0)) rfl (fun hc4 => ?_) (fun hc4 => ?_)
  · rw [if_t hc4] at h
    refine Wp.skip <| thenN <| Wp.seq <| Wp.block <| Wp.seq <| ?_
    obtain ⟨e5, he5, h⟩ := bind_some h
    obtain ⟨he5a, he5b, he5c⟩ := rd_some he5
    obtain ⟨x6, hx6, h⟩ := bind_some h
    replace hx6 := Option.some.inj hx6
    have fx := i5 he5a he5b he5c hx6 hc4
    refine Wp.region hU (f74_ci_ok _) rgIF <| thenN <| Wp.seq <| ?_
    obtain ⟨u7, hu7, h⟩ := bind_some h
    have hu7a := nz_some hu7
    obtain ⟨e8, he8, h⟩ := bind_some h
    obtain ⟨he8a, he8b, he8c⟩ := rd_some he8
    have fx := i5 hu7a he8a he8b he8c hc4
    refine Wp.region hU (f74_ci_ok _) rgIF <| thenN <| ?_
    refine Wk.wp (s2 := ⟨.sl (List.map (cInt .u32) a) :: .v (.int .u32 w) :: jj 4 (.row 0 1 0 ((setL out i (IntKind.u32.wrap (quoI .u64 x6 (IntKind.u64.wrap w)))).length) :: jj 1 (.v (.int .i64 i) :: .v (.int .u64 x6) :: jj 34 [])), St [some ⟨1, false, true, List.map (cInt .u32) (setL out i (IntKind.u32.wrap (quoI .u64 x6 (IntKind.u64.wrap w))))⟩], none, 0⟩) ?_ ?_
    · refine Wk.weak hU [some 0] _ (by decide) ?_ ?_
      · refine .obj rfl ?_ ?_
        · exact woI
        exact .nil
      · exact wvI
    obtain ⟨u9, hu9, h⟩ := bind_some h
    have hu9a := nz_some hu9
    have fx := i2 hu9a hc4
    refine Wp.region hU (f74_ci_ok _) rgIF <| blkN <| thenN <| ?_
    have fx := hc4
    refine Wp.region hU (f74_ci_ok _) rgIF <| againN <| ?_
    refine Wk.wpL ?_ (ih (setL out i (IntKind.u32.wrap (quoI .u64 x6 (IntKind.u64.wrap w)))) (x6.tmod (IntKind.u64.wrap w)) (IntKind.i64.wrap (i - 1)) _ h)
    refine Wk.weak hU [some 0] _ (by decide) ?_ ?_
    · refine .obj rfl ?_ ?_
      · exact woI
      exact .nil
    · exact wvI
  · rw [if_f hc4] at h
    refine Wp.exit <| thenE <| againE <| ?_
    obtain rfl := Option.some.inj h
    refine ⟨rfl, ?_⟩
    refine Wk.weak hU [some 0] _ (by decide) ?_ ?_
    · refine .obj rfl ?_ ?_
      · exact woI
      exact .nil
    · exact wvI

set_option maxHeartbeats 4000000 in
theorem f74_ok (a : List Int) (w : Int) (r : (List Int) × Int) (h : f74 a w = some r) : PureOK E 74 [.sl (List.map (cInt .u32) a), .v (.int .u32 w)] (.tup [.sl (List.map (cInt .u32) r.1), .v (.int .u32 r.2)]) := by
  unfold f74 at h
  refine pure_of_wp tabOK mixed (fn := Try.f74) (nt := 44) Try.func74 rfl rfl (names _ _ Try.func74) rfl rfl (fun _ => rfl) (fun base c00 hU => ?_)
  refine Wk.wp (s2 := ⟨.sl (List.map (cInt .u32) a) :: .v (.int .u32 w) :: jj 42 [], St [], none, 0⟩) ?_ ?_
  · refine Wk.weak hU [] _ (by decide) .nil ?_
    simp only [jjs, List.length_cons, List.length_nil, Nat.reduceAdd, Nat.reduceSub, List.replicate, List.cons_append, List.nil_append]
    repeat' (first | exact WVs.nil | refine WVs.cons ?_ ?_)
    all_goals first | exact WV.junk _ | exact WV.keep rfl | exact .agg rfl (aggKeep rfl)
  refine Wp.seq <| Wp.region hU (f74_ci_ok _) rgI <| thenN <| Wp.seq <| ?_
  obtain ⟨m1, hm1, h⟩ := bind_some h
  obtain ⟨hm1a, hm1b, hm1c, hm1d⟩ := mk_some hm1
  have fx := i3 hm1a hm1b hm1c
  refine Wp.region hU (f74_ci_ok _) rgIF <| thenN <| Wp.seq <| Wp.region hU (f74_ci_ok _) rgI <| thenN <| Wp.seq <| Wp.seq <| ?_
  obtain ⟨x2, hx2, h⟩ := bind_some h
  replace hx2 := Option.some.inj hx2
  have fx := hx2
  refine Wp.region hU (f74_ci_ok _) rgIF <| thenN <| Wp.block <| ?_
  obtain ⟨o3, ho3, h⟩ := bind_some h
  refine Wp.loop <| ?_
  refine Tw.mono (Wk.wpL (s2 := ⟨.sl (List.map (cInt .u32) a) :: .v (.int .u32 w) :: jj 4 (.row 0 1 0 ((m1).length) :: .v (.int .u64 0) :: .v (.int .i64 x2) :: jj 35 []), St [some ⟨1, false, true, List.map (cInt .u32) m1⟩], none, 0⟩) ?_ (f74_l0_ok a w hU m1 0 x2 o3 ho3)) (fun ex s1 hp => ?_)
  · refine Wk.weak hU [some 0] _ (by decide) ?_ ?_
    · refine .obj rfl ?_ ?_
      · have fe := hm1d
        have fl := nofx
        have fv := nofx
        exact woIF
      exact .nil
    · have fe := hm1d
      have fl := hm1d
      have fv := nofx
      exact wvIF
  · obtain ⟨rfl, hp⟩ := hp
    refine blkE <| thenN <| hp.wp <| Wp.seq <| ?_
    obtain ⟨r10, hr10, h⟩ := bind_some h
    have hr10c : ∀ σ, f74_ci 72 [.sl (List.map (cInt .u32) o3.1)] σ = some (.sl (List.map (cInt .u32) r10), σ, none) := fun σ => f72_call hr10 σ
    have fx := hr10c
    refine Wp.region hU (f74_ci_ok _) rgIF <| thenN <| Wp.ret <| ?_
    obtain rfl := Option.some.inj h
    refine ⟨.inl rfl, ?_⟩
    refine Rt.of <| ?_
    have fx := i3 f74_res f74_rt hm1d
    exact rtI

noncomputable def f74_tbl : CI := tbl 74 (fun p : (List Int) × Int => [.sl (List.map (cInt .u32) p.1), .v (.int .u32 p.2)]) (fun p => (f74 p.1 p.2).map fun r => .tup [.sl (List.map (cInt .u32) r.1), .v (.int .u32 r.2)])
theorem f74_tbl_ok {base : Nat} : CIOK E base f74_tbl := tbl_ok fun p r h => by obtain ⟨q, hq, rfl⟩ := Option.map_eq_some_iff.1 h; exact f74_ok p.1 p.2 q hq
theorem f74_call {a : List Int} {w : Int} {r : (List Int) × Int} (h : f74 a w = some r) (σ : Store) : f74_tbl 74 [.sl (List.map (cInt .u32) a), .v (.int .u32 w)] σ = some (.tup [.sl (List.map (cInt .u32) r.1), .v (.int .u32 r.2)], σ, none) :=
  tbl_eq (x := (a, w)) (fun x y e => by
    obtain ⟨x0, x1⟩ := x; obtain ⟨y0, y1⟩ := y
    have e0 := av_sl inj_int (List.cons.inj e).1
    have e1 := av_int (List.cons.inj (List.cons.inj e).2).1
    subst e0 e1; rfl) (by simp [h]) σ
end Go.Bx.Scan

/- sibyl/nats.Trim, printed by pf.py. (Own text.) -/
namespace Go.Bx.Scan
set_option linter.unusedVariables false
set_option linter.unusedSimpArgs false
set_option linter.unusedSectionVars false
open Go.Proofs
set_option linter.unusedSimpArgs false
set_option linter.unusedVariables false
set_option maxRecDepth 10000
def f62_l0 (a : List Int) (n : Int) : Option (Int) :=
  if (decide (n > 0)) = true then
    (rd a (IntKind.i64.wrap (n - 1)) >>= fun e2 =>
    if (e2 == 0) = true then
      (f62_l0 a (IntKind.i64.wrap (n - 1)))
    else
      some n)
  else
    some n
  partial_fixpoint

/-- sibyl/nats.Trim -/
def f62 (a : List Int) : Option (List Int) :=
  f62_l0 a (a.length : Int) >>= fun o1 =>
  cutL a 0 o1 >>= fun p2 =>
  ap 4 [] p2 >>= fun a3 =>
  some a3

theorem f62_res : Try.f62.results = #[.tmp 2] := rfl
theorem f62_rt : Try.f62.resultTypes = #[36] := rfl

set_option maxHeartbeats 4000000 in
theorem f62_l0_ok {base : Nat} {c00 : Ctx} (a : List Int) (hU : Under E base c00 nilStore) : ∀ (n : Int) (o1 : Int), f62_l0 a n = some o1 →
    WpL E base c00 nilStore (lb Try.f62 0) ⟨.sl (List.map (cInt .u32) a) :: jj 2 (.v (.int .i64 n) :: jj 18 []), St [], none, 0⟩ (fun ex s1 => ex = .exit 0 ∧ Wk base c00 nilStore s1 ⟨.sl (List.map (cInt .u32) a) :: jj 2 (.v (.int .i64 o1) :: jj 18 []), St [], none, 0⟩) := by
  refine f62_l0.partial_correctness a _ ?_
  intro lp__ ih n o1 h
  refine WpL.stepE (by simp only [Try.f62, lb, Option.getD_some, loopsOf, List.nil_append, List.append_nil, List.cons_append, List.getElem?_cons_zero, List.getElem?_cons_succ] <;> rfl) ?_
  refine Wp.seq <| Wp.seq <| ?_
  rcases Bool.eq_false_or_eq_true (decide (n > 0)) with hg36 | hg36
  · rw [if_t hg36] at h
    obtain ⟨e2, he2, h⟩ := bind_some h
    obtain ⟨he2a, he2b, he2c⟩ := rd_some he2
    have fx := i4 he2a he2b he2c hg36
    refine Wp.region hU no_ok rgIF <| thenN <| ?_
    refine Wp.cond hU (t := e2 == 0) rfl (fun hc3 => ?_) (fun hc3 => ?_)
    · rw [if_t hc3] at h
      refine Wp.skip <| thenN <| Wp.block <| ?_
      have fx := i2 hg36 hc3
      refine Wp.region hU no_ok rgIF <| blkN <| againN <| ?_
      refine Wk.wpL ?_ (ih (IntKind.i64.wrap (n - 1)) _ h)
      refine Wk.weak hU [] _ (by decide) ?_ ?_
      · exact .nil
      · exact wvI
    · rw [if_f hc3] at h
      refine Wp.exit <| thenE <| againE <| ?_
      obtain rfl := Option.some.inj h
      refine ⟨rfl, ?_⟩
      refine Wk.weak hU [] _ (by decide) ?_ ?_
      · exact .nil
      · exact wvI
  · rw [if_f hg36] at h
    have fx := hg36
    refine Wp.region hU no_ok rgIF <| thenN <| ?_
    refine Wp.cond hU (t := false) rfl (fun hc => by cases hc) (fun _ => ?_)
    refine Wp.exit <| thenE <| againE <| ?_
    obtain rfl := Option.some.inj h
    refine ⟨rfl, ?_⟩
    refine Wk.weak hU [] _ (by decide) ?_ ?_
    · exact .nil
    · exact wvI

set_option maxHeartbeats 4000000 in
theorem f62_ok (a : List Int) (r : List Int) (h : f62 a = some r) : PureOK E 62 [.sl (List.map (cInt .u32) a)] (.own false 1 (List.map (cInt .u32) r)) := by
  unfold f62 at h
  refine pure_of_wp tabOK mixed (fn := Try.f62) (nt := 22) Try.func62 rfl rfl (names _ _ Try.func62) rfl rfl (fun _ => rfl) (fun base c00 hU => ?_)
  refine Wk.wp (s2 := ⟨.sl (List.map (cInt .u32) a) :: jj 21 [], St [], none, 0⟩) ?_ ?_
  · refine Wk.weak hU [] _ (by decide) .nil ?_
    simp only [jjs, List.length_cons, List.length_nil, Nat.reduceAdd, Nat.reduceSub, List.replicate, List.cons_append, List.nil_append]
    repeat' (first | exact WVs.nil | refine WVs.cons ?_ ?_)
    all_goals first | exact WV.junk _ | exact WV.keep rfl | exact .agg rfl (aggKeep rfl)
  refine Wp.seq <| Wp.region hU no_ok rgI <| thenN <| Wp.seq <| Wp.region hU no_ok rgI <| thenN <| Wp.seq <| Wp.block <| ?_
  obtain ⟨o1, ho1, h⟩ := bind_some h
  refine Wp.loop <| ?_
  refine Tw.mono (Wk.wpL (s2 := ⟨.sl (List.map (cInt .u32) a) :: jj 2 (.v (.int .i64 (a.length : Int)) :: jj 18 []), St [], none, 0⟩) ?_ (f62_l0_ok a hU (a.length : Int) o1 ho1)) (fun ex s1 hp => ?_)
  · refine Wk.weak hU [] _ (by decide) ?_ ?_
    · exact .nil
    · exact wvI
  · obtain ⟨rfl, hp⟩ := hp
    refine blkE <| thenN <| hp.wp <| Wp.seq <| ?_
    obtain ⟨p2, hp2, h⟩ := bind_some h
    obtain ⟨hp2a, hp2b, hp2c, hp2d, hp2e, hp2f⟩ := cutL_some hp2
    try simp only [Int.toNat_natCast] at hp2c hp2d
    try simp only [Int.toNat_natCast, Int.toNat_zero, List.drop_zero, Nat.sub_zero] at hp2e hp2f
    obtain ⟨a3, ha3, h⟩ := bind_some h
    obtain ⟨ha3a, ha3b⟩ := ap_some ha3
    try simp only [List.length_cons, List.length_nil, Nat.zero_add, Nat.add_zero, Nat.reduceAdd] at ha3a
    have fx := i6 hp2a hp2b hp2c hp2d hp2e.symm ha3a
    refine Wp.region hU no_ok rgIS <| thenN <| Wp.ret <| ?_
    obtain rfl := Option.some.inj h
    refine ⟨.inl rfl, ?_⟩
    refine Rt.of <| ?_
    have fx := i4 f62_res f62_rt hp2e ha3b
    exact rtI

noncomputable def f62_tbl : CI := tbl 62 (fun p : (List Int) => [.sl (List.map (cInt .u32) p)]) (fun p => (f62 p).map fun r => .own false 1 (List.map (cInt .u32) r))
theorem f62_tbl_ok {base : Nat} : CIOK E base f62_tbl := tbl_ok fun p r h => by obtain ⟨q, hq, rfl⟩ := Option.map_eq_some_iff.1 h; exact f62_ok p q hq
theorem f62_call {a : List Int} {r : List Int} (h : f62 a = some r) (σ : Store) : f62_tbl 62 [.sl (List.map (cInt .u32) a)] σ = some (.own false 1 (List.map (cInt .u32) r), σ, none) :=
  tbl_eq (x := (a)) (fun x y e => by
    exact av_sl inj_int (List.cons.inj e).1) (by simp [h]) σ
end Go.Bx.Scan

/- sibyl/ratio.one, printed by pf.py. (Own text.) -/
namespace Go.Bx.Scan
set_option linter.unusedVariables false
set_option linter.unusedSimpArgs false
set_option linter.unusedSectionVars false
open Go.Proofs
set_option linter.unusedSimpArgs false
set_option linter.unusedVariables false
set_option maxRecDepth 10000
/-- sibyl/ratio.one -/
def f64 (a : List Int) : Option (Bool) :=
  (if ((a.length : Int) == 1) = true then
    (rd a 0 >>= fun e2 =>
    some (e2 == 1))
  else
    some false : Option (Bool)) >>= fun o1 =>
  some o1

theorem f64_res : Try.f64.results = #[.tmp 2] := rfl
theorem f64_rt : Try.f64.resultTypes = #[4] := rfl

set_option maxHeartbeats 4000000 in
theorem f64_ok (a : List Int) (r : Bool) (h : f64 a = some r) : PureOK E 64 [.sl (List.map (cInt .u32) a)] (.v (.bool r)) := by
  unfold f64 at h
  refine pure_of_wp tabOK mixed (fn := Try.f64) (nt := 12) Try.func64 rfl rfl (names _ _ Try.func64) rfl rfl (fun _ => rfl) (fun base c00 hU => ?_)
  refine Wk.wp (s2 := ⟨.sl (List.map (cInt .u32) a) :: jj 11 [], St [], none, 0⟩) ?_ ?_
  · refine Wk.weak hU [] _ (by decide) .nil ?_
    simp only [jjs, List.length_cons, List.length_nil, Nat.reduceAdd, Nat.reduceSub, List.replicate, List.cons_append, List.nil_append]
    repeat' (first | exact WVs.nil | refine WVs.cons ?_ ?_)
    all_goals first | exact WV.junk _ | exact WV.keep rfl | exact .agg rfl (aggKeep rfl)
  refine Wp.seq <| Wp.region hU no_ok rgI <| thenN <| ?_
  obtain ⟨o1, ho1, h⟩ := bind_some h
  refine Wp.seq1 (JP := (fun ex s1 => ex = .nrm ∧ Wk base c00 nilStore s1 ⟨jj 2 (.v (.bool o1) :: jj 9 []), St [], none, 0⟩)) ?_ (fun ex s1 hp => ?_)
  · replace h := ho1
    rcases Bool.eq_false_or_eq_true ((a.length : Int) == 1) with hg3 | hg3
    · rw [if_t hg3] at h
      obtain ⟨e2, he2, h⟩ := bind_some h
      obtain ⟨he2a, he2b, he2c⟩ := rd_some he2
      have fx := i4 he2a he2b he2c hg3
      refine Wp.region hU no_ok rgIF <| ?_
      obtain rfl := Option.some.inj h
      refine ⟨rfl, ?_⟩
      refine Wk.weak hU [] _ (by decide) ?_ ?_
      · exact .nil
      · exact wvI
    · rw [if_f hg3] at h
      have fx := hg3
      refine Wp.region hU no_ok rgIF <| ?_
      obtain rfl := Option.some.inj h
      refine ⟨rfl, ?_⟩
      refine Wk.weak hU [] _ (by decide) ?_ ?_
      · exact .nil
      · exact wvI
  · obtain ⟨rfl, hp⟩ := hp
    refine thenN (hp.wp ?_)
    refine Wp.ret <| ?_
    obtain rfl := Option.some.inj h
    refine ⟨.inl rfl, ?_⟩
    refine Rt.of <| ?_
    have fx := i2 f64_res f64_rt
    exact rtI

noncomputable def f64_tbl : CI := tbl 64 (fun p : (List Int) => [.sl (List.map (cInt .u32) p)]) (fun p => (f64 p).map fun r => .v (.bool r))
theorem f64_tbl_ok {base : Nat} : CIOK E base f64_tbl := tbl_ok fun p r h => by obtain ⟨q, hq, rfl⟩ := Option.map_eq_some_iff.1 h; exact f64_ok p q hq
theorem f64_call {a : List Int} {r : Bool} (h : f64 a = some r) (σ : Store) : f64_tbl 64 [.sl (List.map (cInt .u32) a)] σ = some (.v (.bool r), σ, none) :=
  tbl_eq (x := (a)) (fun x y e => by
    exact av_sl inj_int (List.cons.inj e).1) (by simp [h]) σ
end Go.Bx.Scan

/- sibyl/nats.Shl, printed by pf.py. (Own text.) -/
namespace Go.Bx.Scan
set_option linter.unusedVariables false
set_option linter.unusedSimpArgs false
set_option linter.unusedSectionVars false
open Go.Proofs
set_option linter.unusedSimpArgs false
set_option linter.unusedVariables false
set_option maxRecDepth 10000
def f76_l0 (n : Int) (r1 : List Int) (out : List Int) (v : Int) : Option ((List Int)) :=
  if (decide (v < (r1.length : Int))) = true then
    (rd r1 v >>= fun e6 =>
    nn (IntKind.u64.wrap (n.tmod 32)) >>= fun u7 =>
    some (shlI .u64 (IntKind.u64.wrap e6) (IntKind.u64.wrap (n.tmod 32))) >>= fun x8 =>
    rd out (IntKind.i64.wrap ((quoI .i64 n 32) + v)) >>= fun e9 =>
    rd (setL out (IntKind.i64.wrap ((quoI .i64 n 32) + v)) (orI .u32 e9 (IntKind.u32.wrap x8))) (IntKind.i64.wrap ((IntKind.i64.wrap ((quoI .i64 n 32) + v)) + 1)) >>= fun e10 =>
    f76_l0 n r1 (setL (setL out (IntKind.i64.wrap ((quoI .i64 n 32) + v)) (orI .u32 e9 (IntKind.u32.wrap x8))) (IntKind.i64.wrap ((IntKind.i64.wrap ((quoI .i64 n 32) + v)) + 1)) (IntKind.u32.wrap (shrI .u64 x8 32))) (IntKind.i64.wrap (v + 1)))
  else
    some out
  partial_fixpoint

/-- sibyl/nats.Shl -/
def f76 (a : List Int) (n : Int) : Option (List Int) :=
  f72 a >>= fun r1 =>
  if ((r1.length : Int) == 0) = true then
    (some [])
  else
    mk 4 (IntKind.i64.wrap ((IntKind.i64.wrap ((quoI .i64 n 32) + (r1.length : Int))) + 1)) 0 >>= fun m3 =>
    f76_l0 n r1 m3 0 >>= fun o4 =>
    f72 o4 >>= fun r11 =>
    some r11

noncomputable def f76_ci : CI := (CI.or 72 f72_tbl (fun _ _ _ => none))
theorem f76_ci_ok (base : Nat) : CIOK E base f76_ci := (or_ok f72_tbl_ok no_ok)
theorem f76_res : Try.f76.results = #[.tmp 4] := rfl
theorem f76_rt : Try.f76.resultTypes = #[36] := rfl

set_option maxHeartbeats 4000000 in
theorem f76_l0_ok {base : Nat} {c00 : Ctx} (n : Int) (r1 : List Int) (hU : Under E base c00 nilStore) : ∀ (out : List Int) (v : Int) (o4 : (List Int)), f76_l0 n r1 out v = some o4 →
    WpL E base c00 nilStore (lb Try.f76 0) ⟨jj 5 (.v (.int .i64 (quoI .i64 n 32)) :: .v (.int .u64 (IntKind.u64.wrap (n.tmod 32))) :: .row 0 1 0 ((out).length) :: jj 19 (.sl (List.map (cInt .u32) r1) :: .v (.int .i64 (r1.length : Int)) :: .v (.int .i64 v) :: jj 30 [])), St [some ⟨1, false, true, List.map (cInt .u32) out⟩], none, 0⟩ (fun ex s1 => ex = .exit 0 ∧ Wk base c00 nilStore s1 ⟨jj 7 (.row 0 1 0 ((o4).length) :: jj 52 []), St [some ⟨1, false, true, List.map (cInt .u32) o4⟩], none, 0⟩) := by
  refine f76_l0.partial_correctness n r1 _ ?_
  intro lp__ ih out v o4 h
  refine WpL.stepE (by simp only [Try.f76, lb, Option.getD_some, loopsOf, List.nil_append, List.append_nil, List.cons_append, List.getElem?_cons_zero, List.getElem?_cons_succ] <;> rfl) ?_
  refine Wp.seq <| Wp.region hU (f76_ci_ok _) rgI <| thenN <| Wp.seq <| ?_
  refine Wp.cond hU (t := decide (v < (r1.length : Int))) rfl (fun hc5 => ?_) (fun hc5 => ?_)
  · rw [if_t hc5] at h
    refine Wp.skip <| thenN <| Wp.seq <| Wp.block <| Wp.seq <| ?_
    obtain ⟨e6, he6, h⟩ := bind_some h
    obtain ⟨he6a, he6b, he6c⟩ := rd_some he6
    have fx := i4 he6a he6b he6c hc5
    refine Wp.region hU (f76_ci_ok _) rgIF <| thenN <| Wp.seq <| ?_
    obtain ⟨u7, hu7, h⟩ := bind_some h
    have hu7a := nn_some hu7
    obtain ⟨x8, hx8, h⟩ := bind_some h
    replace hx8 := Option.some.inj hx8
    have fx := i3 hu7a hx8 hc5
    refine Wp.region hU (f76_ci_ok _) rgIF <| thenN <| Wp.seq <| ?_
    obtain ⟨e9, he9, h⟩ := bind_some h
    obtain ⟨he9a, he9b, he9c⟩ := rd_some he9
    have fx := i4 he9a he9b he9c hc5
    refine Wp.region hU (f76_ci_ok _) rgIF <| thenN <| ?_
    refine Wk.wp (s2 := ⟨jj 5 (.v (.int .i64 (quoI .i64 n 32)) :: .v (.int .u64 (IntKind.u64.wrap (n.tmod 32))) :: .row 0 1 0 ((setL out (IntKind.i64.wrap ((quoI .i64 n 32) + v)) (orI .u32 e9 (IntKind.u32.wrap x8))).length) :: .v (.int .i64 v) :: jj 1 (.v (.int .u64 x8) :: jj 16 (.sl (List.map (cInt .u32) r1) :: .v (.int .i64 (r1.length : Int)) :: .v (.int .i64 v) :: jj 30 []))), St [some ⟨1, false, true, List.map (cInt .u32) (setL out (IntKind.i64.wrap ((quoI .i64 n 32) + v)) (orI .u32 e9 (IntKind.u32.wrap x8)))⟩], none, 0⟩) ?_ ?_
    · refine Wk.weak hU [some 0] _ (by decide) ?_ ?_
      · refine .obj rfl ?_ ?_
        · exact woI
        exact .nil
      · exact wvI
    obtain ⟨e10, he10, h⟩ := bind_some h
    obtain ⟨he10a, he10b, he10c⟩ := rd_some he10
    try simp only [setL_len, setO_len] at he10b
    have fx := i4 he10a he10b he10c hc5
    refine Wp.region hU (f76_ci_ok _) rgIF <| blkN <| thenN <| ?_
    refine Wk.wp (s2 := ⟨jj 5 (.v (.int .i64 (quoI .i64 n 32)) :: .v (.int .u64 (IntKind.u64.wrap (n.tmod 32))) :: .row 0 1 0 ((setL (setL out (IntKind.i64.wrap ((quoI .i64 n 32) + v)) (orI .u32 e9 (IntKind.u32.wrap x8))) (IntKind.i64.wrap ((IntKind.i64.wrap ((quoI .i64 n 32) + v)) + 1)) (IntKind.u32.wrap (shrI .u64 x8 32))).length) :: jj 19 (.sl (List.map (cInt .u32) r1) :: .v (.int .i64 (r1.length : Int)) :: .v (.int .i64 v) :: jj 30 [])), St [some ⟨1, false, true, List.map (cInt .u32) (setL (setL out (IntKind.i64.wrap ((quoI .i64 n 32) + v)) (orI .u32 e9 (IntKind.u32.wrap x8))) (IntKind.i64.wrap ((IntKind.i64.wrap ((quoI .i64 n 32) + v)) + 1)) (IntKind.u32.wrap (shrI .u64 x8 32)))⟩], none, 0⟩) ?_ ?_
    · refine Wk.weak hU [some 0] _ (by decide) ?_ ?_
      · refine .obj rfl ?_ ?_
        · exact woI
        exact .nil
      · exact wvI
    have fx := hc5
    refine Wp.region hU (f76_ci_ok _) rgIF <| againN <| ?_
    refine Wk.wpL ?_ (ih (setL (setL out (IntKind.i64.wrap ((quoI .i64 n 32) + v)) (orI .u32 e9 (IntKind.u32.wrap x8))) (IntKind.i64.wrap ((IntKind.i64.wrap ((quoI .i64 n 32) + v)) + 1)) (IntKind.u32.wrap (shrI .u64 x8 32))) (IntKind.i64.wrap (v + 1)) _ h)
    refine Wk.weak hU [some 0] _ (by decide) ?_ ?_
    · refine .obj rfl ?_ ?_
      · exact woI
      exact .nil
    · exact wvI
  · rw [if_f hc5] at h
    refine Wp.exit <| thenE <| againE <| ?_
    obtain rfl := Option.some.inj h
    refine ⟨rfl, ?_⟩
    refine Wk.weak hU [some 0] _ (by decide) ?_ ?_
    · refine .obj rfl ?_ ?_
      · exact woI
      exact .nil
    · exact wvI

set_option maxHeartbeats 4000000 in
theorem f76_ok (a : List Int) (n : Int) (r : List Int) (h : f76 a n = some r) : PureOK E 76 [.sl (List.map (cInt .u32) a), .v (.int .i64 n)] (.sl (List.map (cInt .u32) r)) := by
  unfold f76 at h
  refine pure_of_wp tabOK mixed (fn := Try.f76) (nt := 60) Try.func76 rfl rfl (names _ _ Try.func76) rfl rfl (fun _ => rfl) (fun base c00 hU => ?_)
  refine Wk.wp (s2 := ⟨.sl (List.map (cInt .u32) a) :: .v (.int .i64 n) :: jj 58 [], St [], none, 0⟩) ?_ ?_
  · refine Wk.weak hU [] _ (by decide) .nil ?_
    simp only [jjs, List.length_cons, List.length_nil, Nat.reduceAdd, Nat.reduceSub, List.replicate, List.cons_append, List.nil_append]
    repeat' (first | exact WVs.nil | refine WVs.cons ?_ ?_)
    all_goals first | exact WV.junk _ | exact WV.keep rfl | exact .agg rfl (aggKeep rfl)
  refine Wp.seq <| Wp.region hU (f76_ci_ok _) rgI <| thenN <| Wp.seq <| ?_
  obtain ⟨r1, hr1, h⟩ := bind_some h
  have hr1c : ∀ σ, f76_ci 72 [.sl (List.map (cInt .u32) a)] σ = some (.sl (List.map (cInt .u32) r1), σ, none) := fun σ => f72_call hr1 σ
  have fx := hr1c
  refine Wp.region hU (f76_ci_ok _) rgIF <| thenN <| Wp.seq <| Wp.seq <| Wp.region hU (f76_ci_ok _) rgI <| thenN <| ?_
  refine Wp.cond hU (t := (r1.length : Int) == 0) rfl (fun hc2 => ?_) (fun hc2 => ?_)
  · rw [if_t hc2] at h
    refine Wp.seq <| ?_
    have fx := hc2
    refine Wp.region hU (f76_ci_ok _) rgIF <| thenN <| Wp.ret <| thenR <| ?_
    obtain rfl := Option.some.inj h
    refine ⟨.inl rfl, ?_⟩
    refine Rt.wk (s2 := ⟨jj 4 (.sl (List.map (cInt .u32) []) :: jj 55 []), St [], none, 0⟩) ?_ (Rt.of ?_)
    · refine Wk.weak hU [] _ (by decide) ?_ ?_
      · exact .nil
      · exact wvI
    have fx := i2 f76_res f76_rt
    exact rtI
  · rw [if_f hc2] at h
    refine Wp.skip <| thenN <| Wp.seq <| ?_
    have fx := hc2
    refine Wp.region hU (f76_ci_ok _) rgIF <| thenN <| Wp.seq <| ?_
    obtain ⟨m3, hm3, h⟩ := bind_some h
    obtain ⟨hm3a, hm3b, hm3c, hm3d⟩ := mk_some hm3
    have fx := i4 hm3a hm3b hm3c hc2
    refine Wp.region hU (f76_ci_ok _) rgIF <| thenN <| Wp.seq <| Wp.seq <| ?_
    have fx := hc2
    refine Wp.region hU (f76_ci_ok _) rgIF <| thenN <| Wp.block <| ?_
    obtain ⟨o4, ho4, h⟩ := bind_some h
    refine Wp.loop <| ?_
    refine Tw.mono (Wk.wpL (s2 := ⟨jj 5 (.v (.int .i64 (quoI .i64 n 32)) :: .v (.int .u64 (IntKind.u64.wrap (n.tmod 32))) :: .row 0 1 0 ((m3).length) :: jj 19 (.sl (List.map (cInt .u32) r1) :: .v (.int .i64 (r1.length : Int)) :: .v (.int .i64 0) :: jj 30 [])), St [some ⟨1, false, true, List.map (cInt .u32) m3⟩], none, 0⟩) ?_ (f76_l0_ok n r1 hU m3 0 o4 ho4)) (fun ex s1 hp => ?_)
    · refine Wk.weak hU [some 0] _ (by decide) ?_ ?_
      · refine .obj rfl ?_ ?_
        · have fe := hm3d
          have fl := nofx
          have fv := nofx
          exact woIF
        exact .nil
      · have fe := hm3d
        have fl := hm3d
        have fv := nofx
        exact wvIF
    · obtain ⟨rfl, hp⟩ := hp
      refine blkE <| thenN <| hp.wp <| Wp.seq <| ?_
      obtain ⟨r11, hr11, h⟩ := bind_some h
      have hr11c : ∀ σ, f76_ci 72 [.sl (List.map (cInt .u32) o4)] σ = some (.sl (List.map (cInt .u32) r11), σ, none) := fun σ => f72_call hr11 σ
      have fx := i2 hr11c hc2
      refine Wp.region hU (f76_ci_ok _) rgIF <| thenN <| Wp.ret <| ?_
      obtain rfl := Option.some.inj h
      refine ⟨.inl rfl, ?_⟩
      refine Rt.of <| ?_
      have fx := i3 f76_res f76_rt hm3d
      exact rtI

noncomputable def f76_tbl : CI := tbl 76 (fun p : (List Int) × Int => [.sl (List.map (cInt .u32) p.1), .v (.int .i64 p.2)]) (fun p => (f76 p.1 p.2).map fun r => .sl (List.map (cInt .u32) r))
theorem f76_tbl_ok {base : Nat} : CIOK E base f76_tbl := tbl_ok fun p r h => by obtain ⟨q, hq, rfl⟩ := Option.map_eq_some_iff.1 h; exact f76_ok p.1 p.2 q hq
theorem f76_call {a : List Int} {n : Int} {r : List Int} (h : f76 a n = some r) (σ : Store) : f76_tbl 76 [.sl (List.map (cInt .u32) a), .v (.int .i64 n)] σ = some (.sl (List.map (cInt .u32) r), σ, none) :=
  tbl_eq (x := (a, n)) (fun x y e => by
    obtain ⟨x0, x1⟩ := x; obtain ⟨y0, y1⟩ := y
    have e0 := av_sl inj_int (List.cons.inj e).1
    have e1 := av_int (List.cons.inj (List.cons.inj e).2).1
    subst e0 e1; rfl) (by simp [h]) σ
end Go.Bx.Scan

/- sibyl/nats.Shr, printed by pf.py. (Own text.) -/
namespace Go.Bx.Scan
set_option linter.unusedVariables false
set_option linter.unusedSimpArgs false
set_option linter.unusedSectionVars false
open Go.Proofs
set_option linter.unusedSimpArgs false
set_option linter.unusedVariables false
set_option maxRecDepth 10000
def f78_l0 (r1 : List Int) (m3 : List Int) (k_ : Int) (s : Int) (out : List Int) (v : Int) : Option ((List Int)) :=
  if (decide (v < (m3.length : Int))) = true then
    ((rd r1 (IntKind.i64.wrap (k_ + v)) >>= fun e7 =>
    if (decide ((IntKind.i64.wrap ((IntKind.i64.wrap (k_ + v)) + 1)) < (r1.length : Int))) = true then
      (rd r1 (IntKind.i64.wrap ((IntKind.i64.wrap (k_ + v)) + 1)) >>= fun e9 =>
      some (orI .u64 (IntKind.u64.wrap e7) (shlI .u64 (IntKind.u64.wrap e9) 32)) >>= fun x10 =>
      nn s >>= fun u11 =>
      rd out v >>= fun e12 =>
      some (setL out v (IntKind.u32.wrap (shrI .u64 x10 s))))
    else
      nn s >>= fun u13 =>
      rd out v >>= fun e14 =>
      some (setL out v (IntKind.u32.wrap (shrI .u64 (IntKind.u64.wrap e7) s))) : Option ((List Int))) >>= fun o6 =>
    f78_l0 r1 m3 k_ s o6 (IntKind.i64.wrap (v + 1)))
  else
    some out
  partial_fixpoint

/-- sibyl/nats.Shr -/
def f78 (a : List Int) (n : Int) : Option (List Int) :=
  f72 a >>= fun r1 =>
  if (decide ((quoI .i64 n 32) ≥ (r1.length : Int))) = true then
    (some [])
  else
    mk 4 (IntKind.i64.wrap ((r1.length : Int) - (quoI .i64 n 32))) 0 >>= fun m3 =>
    f78_l0 r1 m3 (quoI .i64 n 32) (IntKind.u64.wrap (n.tmod 32)) m3 0 >>= fun o4 =>
    f72 o4 >>= fun r15 =>
    some r15

noncomputable def f78_ci : CI := (CI.or 72 f72_tbl (fun _ _ _ => none))
theorem f78_ci_ok (base : Nat) : CIOK E base f78_ci := (or_ok f72_tbl_ok no_ok)
theorem f78_res : Try.f78.results = #[.tmp 4] := rfl
theorem f78_rt : Try.f78.resultTypes = #[36] := rfl

set_option maxHeartbeats 4000000 in
theorem f78_l0_ok {base : Nat} {c00 : Ctx} (r1 : List Int) (m3 : List Int) (k_ : Int) (s : Int) (hU : Under E base c00 nilStore) : ∀ (out : List Int) (v : Int) (o4 : (List Int)), f78_l0 r1 m3 k_ s out v = some o4 →
    WpL E base c00 nilStore (lb Try.f78 0) ⟨.sl (List.map (cInt .u32) r1) :: jj 4 (.v (.int .i64 k_) :: .v (.int .u64 s) :: .row 0 1 0 ((out).length) :: jj 19 (.v (.int .i64 (m3.length : Int)) :: .v (.int .i64 v) :: jj 37 [])), St [some ⟨1, false, true, List.map (cInt .u32) out⟩], none, 0⟩ (fun ex s1 => ex = .exit 0 ∧ Wk base c00 nilStore s1 ⟨jj 7 (.row 0 1 0 ((o4).length) :: jj 58 []), St [some ⟨1, false, true, List.map (cInt .u32) o4⟩], none, 0⟩) := by
  refine f78_l0.partial_correctness r1 m3 k_ s _ ?_
  intro lp__ ih out v o4 h
  refine WpL.stepE (by simp only [Try.f78, lb, Option.getD_some, loopsOf, List.nil_append, List.append_nil, List.cons_append, List.getElem?_cons_zero, List.getElem?_cons_succ] <;> rfl) ?_
  refine Wp.seq <| Wp.region hU (f78_ci_ok _) rgI <| thenN <| Wp.seq <| ?_
  refine Wp.cond hU (t := decide (v < (m3.length : Int))) rfl (fun hc5 => ?_) (fun hc5 => ?_)
  · rw [if_t hc5] at h
    refine Wp.skip <| thenN <| ?_
    obtain ⟨o6, ho6, h⟩ := bind_some h
    refine Wp.seq1 (JP := (fun ex s1 => ex = .nrm ∧ Wk base c00 nilStore s1 ⟨.sl (List.map (cInt .u32) r1) :: jj 4 (.v (.int .i64 k_) :: .v (.int .u64 s) :: .row 0 1 0 ((o6).length) :: jj 19 (.v (.int .i64 (m3.length : Int)) :: .v (.int .i64 v) :: jj 37 [])), St [some ⟨1, false, true, List.map (cInt .u32) o6⟩], none, 0⟩)) ?_ (fun ex s1 hp => ?_)
    · replace h := ho6
      refine Wp.block <| Wp.seq <| ?_
      have fx := hc5
      refine Wp.region hU (f78_ci_ok _) rgIF <| thenN <| Wp.seq <| ?_
      obtain ⟨e7, he7, h⟩ := bind_some h
      obtain ⟨he7a, he7b, he7c⟩ := rd_some he7
      have fx := i4 he7a he7b he7c hc5
      refine Wp.region hU (f78_ci_ok _) rgIF <| thenN <| Wp.seq <| Wp.seq <| ?_
      have fx := hc5
      refine Wp.region hU (f78_ci_ok _) rgIF <| thenN <| ?_
      refine Wp.cond hU (t := decide ((IntKind.i64.wrap ((IntKind.i64.wrap (k_ + v)) + 1)) < (r1.length : Int))) rfl (fun hc8 => ?_) (fun hc8 => ?_)
      · rw [if_t hc8] at h
        obtain ⟨e9, he9, h⟩ := bind_some h
        obtain ⟨he9a, he9b, he9c⟩ := rd_some he9
        obtain ⟨x10, hx10, h⟩ := bind_some h
        replace hx10 := Option.some.inj hx10
        have fx := i6 he9a he9b he9c hx10 hc5 hc8
        refine Wp.region hU (f78_ci_ok _) rgIF <| thenN <| ?_
        obtain ⟨u11, hu11, h⟩ := bind_some h
        have hu11a := nn_some hu11
        obtain ⟨e12, he12, h⟩ := bind_some h
        obtain ⟨he12a, he12b, he12c⟩ := rd_some he12
        have fx := i6 hu11a he12a he12b he12c hc5 hc8
        refine Wp.region hU (f78_ci_ok _) rgIF <| blkN <| ?_
        obtain rfl := Option.some.inj h
        refine ⟨rfl, ?_⟩
        refine Wk.weak hU [some 0] _ (by decide) ?_ ?_
        · refine .obj rfl ?_ ?_
          · exact woI
          exact .nil
        · exact wvI
      · rw [if_f hc8] at h
        refine Wp.skip <| thenN <| ?_
        obtain ⟨u13, hu13, h⟩ := bind_some h
        have hu13a := nn_some hu13
        obtain ⟨e14, he14, h⟩ := bind_some h
        obtain ⟨he14a, he14b, he14c⟩ := rd_some he14
        have fx := i6 hu13a he14a he14b he14c hc5 hc8
        refine Wp.region hU (f78_ci_ok _) rgIF <| blkN <| ?_
        obtain rfl := Option.some.inj h
        refine ⟨rfl, ?_⟩
        refine Wk.weak hU [some 0] _ (by decide) ?_ ?_
        · refine .obj rfl ?_ ?_
          · exact woI
          exact .nil
        · exact wvI
    · obtain ⟨rfl, hp⟩ := hp
      refine thenN (hp.wp ?_)
      have fx := hc5
      refine Wp.region hU (f78_ci_ok _) rgIF <| againN <| ?_
      refine Wk.wpL ?_ (ih o6 (IntKind.i64.wrap (v + 1)) _ h)
      refine Wk.weak hU [some 0] _ (by decide) ?_ ?_
      · refine .obj rfl ?_ ?_
        · exact woI
        exact .nil
      · exact wvI
  · rw [if_f hc5] at h
    refine Wp.exit <| thenE <| againE <| ?_
    obtain rfl := Option.some.inj h
    refine ⟨rfl, ?_⟩
    refine Wk.weak hU [some 0] _ (by decide) ?_ ?_
    · refine .obj rfl ?_ ?_
      · exact woI
      exact .nil
    · exact wvI

set_option maxHeartbeats 4000000 in
theorem f78_ok (a : List Int) (n : Int) (r : List Int) (h : f78 a n = some r) : PureOK E 78 [.sl (List.map (cInt .u32) a), .v (.int .i64 n)] (.sl (List.map (cInt .u32) r)) := by
  unfold f78 at h
  refine pure_of_wp tabOK mixed (fn := Try.f78) (nt := 66) Try.func78 rfl rfl (names _ _ Try.func78) rfl rfl (fun _ => rfl) (fun base c00 hU => ?_)
  refine Wk.wp (s2 := ⟨.sl (List.map (cInt .u32) a) :: .v (.int .i64 n) :: jj 64 [], St [], none, 0⟩) ?_ ?_
  · refine Wk.weak hU [] _ (by decide) .nil ?_
    simp only [jjs, List.length_cons, List.length_nil, Nat.reduceAdd, Nat.reduceSub, List.replicate, List.cons_append, List.nil_append]
    repeat' (first | exact WVs.nil | refine WVs.cons ?_ ?_)
    all_goals first | exact WV.junk _ | exact WV.keep rfl | exact .agg rfl (aggKeep rfl)
  refine Wp.seq <| Wp.region hU (f78_ci_ok _) rgI <| thenN <| Wp.seq <| ?_
  obtain ⟨r1, hr1, h⟩ := bind_some h
  have hr1c : ∀ σ, f78_ci 72 [.sl (List.map (cInt .u32) a)] σ = some (.sl (List.map (cInt .u32) r1), σ, none) := fun σ => f72_call hr1 σ
  have fx := hr1c
  refine Wp.region hU (f78_ci_ok _) rgIF <| thenN <| Wp.seq <| Wp.region hU (f78_ci_ok _) rgI <| thenN <| Wp.seq <| Wp.seq <| Wp.region hU (f78_ci_ok _) rgI <| thenN <| ?_
  refine Wp.cond hU (t := decide ((quoI .i64 n 32) ≥ (r1.length : Int))) rfl (fun hc2 => ?_) (fun hc2 => ?_)
  · rw [if_t hc2] at h
    refine Wp.seq <| ?_
    have fx := hc2
    refine Wp.region hU (f78_ci_ok _) rgIF <| thenN <| Wp.ret <| thenR <| ?_
    obtain rfl := Option.some.inj h
    refine ⟨.inl rfl, ?_⟩
    refine Rt.wk (s2 := ⟨jj 4 (.sl (List.map (cInt .u32) []) :: jj 61 []), St [], none, 0⟩) ?_ (Rt.of ?_)
    · refine Wk.weak hU [] _ (by decide) ?_ ?_
      · exact .nil
      · exact wvI
    have fx := i2 f78_res f78_rt
    exact rtI
  · rw [if_f hc2] at h
    refine Wp.skip <| thenN <| Wp.seq <| ?_
    obtain ⟨m3, hm3, h⟩ := bind_some h
    obtain ⟨hm3a, hm3b, hm3c, hm3d⟩ := mk_some hm3
    have fx := i4 hm3a hm3b hm3c hc2
    refine Wp.region hU (f78_ci_ok _) rgIF <| thenN <| Wp.seq <| Wp.seq <| ?_
    have fx := hc2
    refine Wp.region hU (f78_ci_ok _) rgIF <| thenN <| Wp.block <| ?_
    obtain ⟨o4, ho4, h⟩ := bind_some h
    refine Wp.loop <| ?_
    refine Tw.mono (Wk.wpL (s2 := ⟨.sl (List.map (cInt .u32) r1) :: jj 4 (.v (.int .i64 (quoI .i64 n 32)) :: .v (.int .u64 (IntKind.u64.wrap (n.tmod 32))) :: .row 0 1 0 ((m3).length) :: jj 19 (.v (.int .i64 (m3.length : Int)) :: .v (.int .i64 0) :: jj 37 [])), St [some ⟨1, false, true, List.map (cInt .u32) m3⟩], none, 0⟩) ?_ (f78_l0_ok r1 m3 (quoI .i64 n 32) (IntKind.u64.wrap (n.tmod 32)) hU m3 0 o4 ho4)) (fun ex s1 hp => ?_)
    · refine Wk.weak hU [some 0] _ (by decide) ?_ ?_
      · refine .obj rfl ?_ ?_
        · have fe := hm3d
          have fl := nofx
          have fv := nofx
          exact woIF
        exact .nil
      · have fe := hm3d
        have fl := hm3d
        have fv := nofx
        exact wvIF
    · obtain ⟨rfl, hp⟩ := hp
      refine blkE <| thenN <| hp.wp <| Wp.seq <| ?_
      obtain ⟨r15, hr15, h⟩ := bind_some h
      have hr15c : ∀ σ, f78_ci 72 [.sl (List.map (cInt .u32) o4)] σ = some (.sl (List.map (cInt .u32) r15), σ, none) := fun σ => f72_call hr15 σ
      have fx := i2 hr15c hc2
      refine Wp.region hU (f78_ci_ok _) rgIF <| thenN <| Wp.ret <| ?_
      obtain rfl := Option.some.inj h
      refine ⟨.inl rfl, ?_⟩
      refine Rt.of <| ?_
      have fx := i3 f78_res f78_rt hm3d
      exact rtI

noncomputable def f78_tbl : CI := tbl 78 (fun p : (List Int) × Int => [.sl (List.map (cInt .u32) p.1), .v (.int .i64 p.2)]) (fun p => (f78 p.1 p.2).map fun r => .sl (List.map (cInt .u32) r))
theorem f78_tbl_ok {base : Nat} : CIOK E base f78_tbl := tbl_ok fun p r h => by obtain ⟨q, hq, rfl⟩ := Option.map_eq_some_iff.1 h; exact f78_ok p.1 p.2 q hq
theorem f78_call {a : List Int} {n : Int} {r : List Int} (h : f78 a n = some r) (σ : Store) : f78_tbl 78 [.sl (List.map (cInt .u32) a), .v (.int .i64 n)] σ = some (.sl (List.map (cInt .u32) r), σ, none) :=
  tbl_eq (x := (a, n)) (fun x y e => by
    obtain ⟨x0, x1⟩ := x; obtain ⟨y0, y1⟩ := y
    have e0 := av_sl inj_int (List.cons.inj e).1
    have e1 := av_int (List.cons.inj (List.cons.inj e).2).1
    subst e0 e1; rfl) (by simp [h]) σ
end Go.Bx.Scan
