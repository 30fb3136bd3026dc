/- What the program's functions compute, shown of their code (Wa). Own text; parts are printed by a program of this claim's author. -/
import Derived.Test.YtcjhbkcdhpbkcaaCb
import Derived.Test.YtcjhbkcdhpbkcaaChecked
import Derived.Test.YtcjhbkcdhpbkcaaShelf
import Derived.WalkKit
import Derived.Laws.RangeAny
import Derived.Laws.Runes
import Derived.WalkMore
import Derived.Deep.QuietTactic
import Derived.BigQuiet
import Derived.Deep.LoopGhost
import Derived.Lib.OthersKept
import Derived.Lib.Builder
import Derived.Laws.Externs
import Derived.Lib.UnsafeStr
import Derived.Shelf.Strings.Builder1
/- The types and the table of the seat, printed by csys.py. (Own text.) -/
namespace Go.Bx.Dat
set_option linter.unusedVariables false
set_option linter.unusedSimpArgs false
set_option linter.unusedSectionVars false
open Go.Proofs
set_option linter.unusedSimpArgs false
set_option maxRecDepth 10000
structure TRatio where
  x0 : Bool
  x1 : List Int
  x2 : List Int
def encTRatio : TRatio → Cs
  | .mk x0 x1 x2 => [.v (.bool x0), .sl (x1.map fun z => [.v (.int .u32 z)]), .sl (x2.map fun z => [.v (.int .u32 z)])]
structure TDatum where
  x0 : Int
  x1 : Bool
  x2 : List Int
  x3 : List Int
  x4 : Bool
  x5 : Str
  x6 : List TDatum
  x7 : Bool
mutual
def encTDatum : TDatum → Cs
  | .mk x0 x1 x2 x3 x4 x5 x6 x7 => [.v (.int .i64 x0), .v (.bool x1), .sl (x2.map fun z => [.v (.int .u32 z)]), .sl (x3.map fun z => [.v (.int .u32 z)]), .v (.bool x4), .v (.string (mkS x5)), .sl (encTDatums x6), .v (.bool x7)]
def encTDatums : List TDatum → List Cs
  | [] => []
  | x :: xs => encTDatum x :: encTDatums xs
end
mutual
def encTDatum_dep : TDatum → Nat
  | .mk x0 x1 x2 x3 x4 x5 x6 x7 => encTDatum_deps x6 + 1
def encTDatum_deps : List TDatum → Nat
  | [] => 0
  | x :: xs => encTDatum_dep x + encTDatum_deps xs
end
theorem encTDatums_map (l : List TDatum) : encTDatums l = l.map encTDatum := by
  induction l with
  | nil => rfl
  | cons x l ih => simp only [encTDatums, List.map_cons, ih]
structure TFault where
  x0 : Int
  x1 : Int
def encTFault : TFault → Cs
  | .mk x0 x1 => [.v (.int .i64 x0), .v (.int .i64 x1)]
structure TToken where
  x0 : Int
  x1 : Str
  x2 : Bool
  x3 : List Int
  x4 : List Int
  x5 : Int
def encTToken : TToken → Cs
  | .mk x0 x1 x2 x3 x4 x5 => [.v (.int .i64 x0), .v (.string (mkS x1)), .v (.bool x2), .sl (x3.map fun z => [.v (.int .u32 z)]), .sl (x4.map fun z => [.v (.int .u32 z)]), .v (.int .i64 x5)]
structure TReader where
  x0 : List TToken
  x1 : Int
  x2 : Int
  x3 : Int
def encTReader : TReader → Cs
  | .mk x0 x1 x2 x3 => [.sl (x0.map encTToken), .v (.int .i64 x1), .v (.int .i64 x2), .v (.int .i64 x3)]
structure TReading where
  x0 : Int
  x1 : Bool
  x2 : List Int
  x3 : List Int
  x4 : Bool
  x5 : Str
  x6 : List TDatum
  x7 : Bool
  x8 : Int
  x9 : Int
  x10 : Int
def encTReading : TReading → Cs
  | .mk x0 x1 x2 x3 x4 x5 x6 x7 x8 x9 x10 => [.v (.int .i64 x0), .v (.bool x1), .sl (x2.map fun z => [.v (.int .u32 z)]), .sl (x3.map fun z => [.v (.int .u32 z)]), .v (.bool x4), .v (.string (mkS x5)), .sl (x6.map encTDatum), .v (.bool x7), .v (.int .i64 x8), .v (.int .i64 x9), .v (.int .i64 x10)]
inductive Ty where
  | i (k : IntKind) | b | s | no | kTRatio | kTDatum | kTFault | kTToken | kTReader | kTReading
abbrev Ty.T : Ty → Type
  | .i _ => Int
  | .b => Bool
  | .s => Str
  | .no => Unit
  | .kTRatio => TRatio
  | .kTDatum => TDatum
  | .kTFault => TFault
  | .kTToken => TToken
  | .kTReader => TReader
  | .kTReading => TReading
def code : TypeId → Ty
  | 2 => .i .i64
  | 3 => .i .i64
  | 4 => .b
  | 5 => .i .u8
  | 9 => .s
  | 21 => .i .i32
  | 25 => .kTRatio
  | 28 => .kTDatum
  | 29 => .i .i64
  | 50 => .kTReader
  | 52 => .kTFault
  | 55 => .kTToken
  | 59 => .kTReading
  | 106 => .i .u32
  | 128 => .i .u64
  | 136 => .i .u64
  | _ => .no
abbrev I (t : TypeId) : Type := (code t).T
def tab : Tab
  | 2 => some { desc := .int .i64, sz := 1, bytes := 8, zero := [.int .i64 0], eq := false, lv := [none] }
  | 3 => some { desc := .int .i64, sz := 1, bytes := 8, zero := [.int .i64 0], eq := false, lv := [none] }
  | 4 => some { desc := .bool, sz := 1, bytes := 1, zero := [.bool false], eq := false, lv := [none] }
  | 5 => some { desc := .int .u8, sz := 1, bytes := 1, zero := [.int .u8 0], eq := false, lv := [none] }
  | 9 => some { desc := .str, sz := 1, bytes := 16, zero := [.string ByteArray.empty], eq := false, lv := [none] }
  | 20 => some { desc := .iface, sz := 1, bytes := 16, zero := [.nilIface], eq := false, lv := [none] }
  | 21 => some { desc := .int .i32, sz := 1, bytes := 4, zero := [.int .i32 0], eq := false, lv := [none] }
  | 23 => some { desc := .slice 106, sz := 1, bytes := 24, zero := [.slice none 0 0], eq := false, lv := [some 1] }
  | 25 => some { desc := .struct [(0, 4), (1, 23), (2, 23)], sz := 3, bytes := 56, zero := [.bool false, .slice none 0 0, .slice none 0 0], eq := false, lv := [none, some 1, some 1] }
  | 26 => some { desc := .slice 28, sz := 1, bytes := 24, zero := [.slice none 0 0], eq := false, lv := [some 8] }
  | 28 => some { desc := .struct [(0, 3), (1, 25), (4, 4), (5, 9), (6, 26), (7, 4)], sz := 8, bytes := 120, zero := [.int .i64 0, .bool false, .slice none 0 0, .slice none 0 0, .bool false, .string ByteArray.empty, .slice none 0 0, .bool false], eq := false, lv := [none, none, some 1, some 1, none, none, some 8, none] }
  | 29 => some { desc := .int .i64, sz := 1, bytes := 8, zero := [.int .i64 0], eq := false, lv := [none] }
  | 45 => some { desc := .slice 55, sz := 1, bytes := 24, zero := [.slice none 0 0], eq := false, lv := [some 6] }
  | 48 => some { desc := .ptr 50, sz := 1, bytes := 8, zero := [.pointer none], eq := false, lv := [none] }
  | 50 => some { desc := .struct [(0, 45), (1, 3), (2, 3), (3, 3)], sz := 4, bytes := 48, zero := [.slice none 0 0, .int .i64 0, .int .i64 0, .int .i64 0], eq := false, lv := [some 6, none, none, none] }
  | 52 => some { desc := .struct [(0, 3), (1, 29)], sz := 2, bytes := 16, zero := [.int .i64 0, .int .i64 0], eq := true, lv := [none, none] }
  | 55 => some { desc := .struct [(0, 3), (1, 9), (2, 25), (5, 3)], sz := 6, bytes := 88, zero := [.int .i64 0, .string ByteArray.empty, .bool false, .slice none 0 0, .slice none 0 0, .int .i64 0], eq := false, lv := [none, none, none, some 1, some 1, none] }
  | 59 => some { desc := .struct [(0, 28), (8, 3), (9, 3), (10, 3)], sz := 11, bytes := 144, zero := [.int .i64 0, .bool false, .slice none 0 0, .slice none 0 0, .bool false, .string ByteArray.empty, .slice none 0 0, .bool false, .int .i64 0, .int .i64 0, .int .i64 0], eq := false, lv := [none, none, some 1, some 1, none, none, some 8, none, none, none, none] }
  | 63 => some { desc := .ptr 66, sz := 1, bytes := 8, zero := [.pointer none], eq := false, lv := [none] }
  | 64 => some { desc := .slice 5, sz := 1, bytes := 24, zero := [.slice none 0 0], eq := false, lv := [some 1] }
  | 66 => some { desc := .struct [(0, 63), (1, 64)], sz := 2, bytes := 32, zero := [.pointer none, .slice none 0 0], eq := false, lv := [none, some 1], tp := true }
  | 76 => some { desc := .ptr 45, sz := 1, bytes := 8, zero := [.pointer none], eq := false, lv := [none] }
  | 77 => some { desc := .ptr 3, sz := 1, bytes := 8, zero := [.pointer none], eq := false, lv := [none] }
  | 89 => some { desc := .iface, sz := 1, bytes := 16, zero := [.nilIface], eq := false, lv := [none] }
  | 106 => some { desc := .int .u32, sz := 1, bytes := 4, zero := [.int .u32 0], eq := false, lv := [none] }
  | 113 => some { desc := .array 256 4, sz := 256, bytes := 256, zero := [.bool false, .bool false, .bool false, .bool false, .bool false, .bool false, .bool false, .bool false, .bool false, .bool false, .bool false, .bool false, .bool false, .bool false, .bool false, .bool false, .bool false, .bool false, .bool false, .bool false, .bool false, .bool false, .bool false, .bool false, .bool false, .bool false, .bool false, .bool false, .bool false, .bool false, .bool false, .bool false, .bool false, .bool false, .bool false, .bool false, .bool false, .bool false, .bool false, .bool false, .bool false, .bool false, .bool false, .bool false, .bool false, .bool false, .bool false, .bool false, .bool false, .bool false, .bool false, .bool false, .bool false, .bool false, .bool false, .bool false, .bool false, .bool false, .bool false, .bool false, .bool false, .bool false, .bool false, .bool false, .bool false, .bool false, .bool false, .bool false, .bool false, .bool false, .bool false, .bool false, .bool false, .bool false, .bool false, .bool false, .bool false, .bool false, .bool false, .bool false, .bool false, .bool false, .bool false, .bool false, .bool false, .bool false, .bool false, .bool false, .bool false, .bool false, .bool false, .bool false, .bool false, .bool false, .bool false, .bool false, .bool false, .bool false, .bool false, .bool false, .bool false, .bool false, .bool false, .bool false, .bool false, .bool false, .bool false, .bool false, .bool false, .bool false, .bool false, .bool false, .bool false, .bool false, .bool false, .bool false, .bool false, .bool false, .bool false, .bool false, .bool false, .bool false, .bool false, .bool false, .bool false, .bool false, .bool false, .bool false, .bool false, .bool false, .bool false, .bool false, .bool false, .bool false, .bool false, .bool false, .bool false, .bool false, .bool false, .bool false, .bool false, .bool false, .bool false, .bool false, .bool false, .bool false, .bool false, .bool false, .bool false, .bool false, .bool false, .bool false, .bool false, .bool false, .bool false, .bool false, .bool false, .bool false, .bool false, .bool false, .bool false, .bool false, .bool false, .bool false, .bool false, .bool false, .bool false, .bool false, .bool false, .bool false, .bool false, .bool false, .bool false, .bool false, .bool false, .bool false, .bool false, .bool false, .bool false, .bool false, .bool false, .bool false, .bool false, .bool false, .bool false, .bool false, .bool false, .bool false, .bool false, .bool false, .bool false, .bool false, .bool false, .bool false, .bool false, .bool false, .bool false, .bool false, .bool false, .bool false, .bool false, .bool false, .bool false, .bool false, .bool false, .bool false, .bool false, .bool false, .bool false, .bool false, .bool false, .bool false, .bool false, .bool false, .bool false, .bool false, .bool false, .bool false, .bool false, .bool false, .bool false, .bool false, .bool false, .bool false, .bool false, .bool false, .bool false, .bool false, .bool false, .bool false, .bool false, .bool false, .bool false, .bool false, .bool false, .bool false, .bool false, .bool false, .bool false, .bool false, .bool false, .bool false, .bool false, .bool false, .bool false, .bool false, .bool false, .bool false, .bool false, .bool false, .bool false, .bool false, .bool false, .bool false, .bool false, .bool false], eq := false, lv := [none, none, none, none, none, none, none, none, none, none, none, none, none, none, none, none, none, none, none, none, none, none, none, none, none, none, none, none, none, none, none, none, none, none, none, none, none, none, none, none, none, none, none, none, none, none, none, none, none, none, none, none, none, none, none, none, none, none, none, none, none, none, none, none, none, none, none, none, none, none, none, none, none, none, none, none, none, none, none, none, none, none, none, none, none, none, none, none, none, none, none, none, none, none, none, none, none, none, none, none, none, none, none, none, none, none, none, none, none, none, none, none, none, none, none, none, none, none, none, none, none, none, none, none, none, none, none, none, none, none, none, none, none, none, none, none, none, none, none, none, none, none, none, none, none, none, none, none, none, none, none, none, none, none, none, none, none, none, none, none, none, none, none, none, none, none, none, none, none, none, none, none, none, none, none, none, none, none, none, none, none, none, none, none, none, none, none, none, none, none, none, none, none, none, none, none, none, none, none, none, none, none, none, none, none, none, none, none, none, none, none, none, none, none, none, none, none, none, none, none, none, none, none, none, none, none, none, none, none, none, none, none, none, none, none, none, none, none, none, none, none, none, none, none, none, none, none, none, none, none, none, none, none, none, none, none] }
  | 128 => some { desc := .int .u64, sz := 1, bytes := 8, zero := [.int .u64 0], eq := false, lv := [none] }
  | 136 => some { desc := .int .u64, sz := 1, bytes := 8, zero := [.int .u64 0], eq := false, lv := [none] }
  | 137 => some { desc := .ptr 113, sz := 1, bytes := 8, zero := [.pointer none], eq := false, lv := [none] }
  | 143 => some { desc := .array 16 3, sz := 16, bytes := 128, zero := [.int .i64 0, .int .i64 0, .int .i64 0, .int .i64 0, .int .i64 0, .int .i64 0, .int .i64 0, .int .i64 0, .int .i64 0, .int .i64 0, .int .i64 0, .int .i64 0, .int .i64 0, .int .i64 0, .int .i64 0, .int .i64 0], eq := false, lv := [none, none, none, none, none, none, none, none, none, none, none, none, none, none, none, none] }
  | _ => none
theorem tabOK : TabOK Try.prog tab := by
  intro t r h
  unfold tab at h
  split at h
  · cases h; exact RowOK.of Try.underlying2 rfl (z := (.int .i64 0)) (by kernel_rfl) rfl rfl (fun h => by cases h)
  · cases h; exact RowOK.of Try.underlying3 rfl (z := (.int .i64 0)) (by kernel_rfl) rfl rfl (fun h => by cases h)
  · cases h; exact RowOK.of Try.underlying4 rfl (z := (.bool false)) (by kernel_rfl) rfl rfl (fun h => by cases h)
  · cases h; exact RowOK.of Try.underlying5 rfl (z := (.int .u8 0)) (by kernel_rfl) rfl rfl (fun h => by cases h)
  · cases h; exact RowOK.of Try.underlying9 rfl (z := (.string ByteArray.empty)) (by kernel_rfl) rfl rfl (fun h => by cases h)
  · cases h; exact RowOK.of Try.underlying20 ⟨_, rfl⟩ (z := (.nilIface)) (by kernel_rfl) rfl rfl (fun h => by cases h)
  · cases h; exact RowOK.of Try.underlying21 rfl (z := (.int .i32 0)) (by kernel_rfl) rfl rfl (fun h => by cases h)
  · cases h; exact RowOK.of Try.underlying23 rfl (z := (.slice none 0 0)) (by kernel_rfl) rfl rfl (fun h => by cases h)
  · cases h; exact RowOK.of Try.underlying25 ⟨_, rfl, rfl⟩ (z := .agg #[.bool false, .slice none 0 0, .slice none 0 0]) (by kernel_rfl) rfl rfl (fun h => by cases h)
  · cases h; exact RowOK.of Try.underlying26 rfl (z := (.slice none 0 0)) (by kernel_rfl) rfl rfl (fun h => by cases h)
  · cases h; exact RowOK.of Try.underlying28 ⟨_, rfl, rfl⟩ (z := .agg #[.int .i64 0, .bool false, .slice none 0 0, .slice none 0 0, .bool false, .string ByteArray.empty, .slice none 0 0, .bool false]) (by kernel_rfl) rfl rfl (fun h => by cases h)
  · cases h; exact RowOK.of Try.underlying29 rfl (z := (.int .i64 0)) (by kernel_rfl) rfl rfl (fun h => by cases h)
  · cases h; exact RowOK.of Try.underlying45 rfl (z := (.slice none 0 0)) (by kernel_rfl) rfl rfl (fun h => by cases h)
  · cases h; exact RowOK.of Try.underlying48 rfl (z := (.pointer none)) (by kernel_rfl) rfl rfl (fun h => by cases h)
  · cases h; exact RowOK.of Try.underlying50 ⟨_, rfl, rfl⟩ (z := .agg #[.slice none 0 0, .int .i64 0, .int .i64 0, .int .i64 0]) (by kernel_rfl) rfl rfl (fun h => by cases h)
  · cases h; exact RowOK.of Try.underlying52 ⟨_, rfl, rfl⟩ (z := .agg #[.int .i64 0, .int .i64 0]) (by kernel_rfl) rfl rfl (fun _ => ⟨by kernel_rfl, by kernel_rfl, _, Try.underlying52, by simp⟩)
  · cases h; exact RowOK.of Try.underlying55 ⟨_, rfl, rfl⟩ (z := .agg #[.int .i64 0, .string ByteArray.empty, .bool false, .slice none 0 0, .slice none 0 0, .int .i64 0]) (by kernel_rfl) rfl rfl (fun h => by cases h)
  · cases h; exact RowOK.of Try.underlying59 ⟨_, rfl, rfl⟩ (z := .agg #[.int .i64 0, .bool false, .slice none 0 0, .slice none 0 0, .bool false, .string ByteArray.empty, .slice none 0 0, .bool false, .int .i64 0, .int .i64 0, .int .i64 0]) (by kernel_rfl) rfl rfl (fun h => by cases h)
  · cases h; exact RowOK.of Try.underlying63 rfl (z := (.pointer none)) (by kernel_rfl) rfl rfl (fun h => by cases h)
  · cases h; exact RowOK.of Try.underlying64 rfl (z := (.slice none 0 0)) (by kernel_rfl) rfl rfl (fun h => by cases h)
  · cases h; exact RowOK.of Try.underlying66 ⟨_, rfl, rfl⟩ (z := .agg #[.pointer none, .slice none 0 0]) (by kernel_rfl) rfl rfl (fun h => by cases h)
  · cases h; exact RowOK.of Try.underlying76 rfl (z := (.pointer none)) (by kernel_rfl) rfl rfl (fun h => by cases h)
  · cases h; exact RowOK.of Try.underlying77 rfl (z := (.pointer none)) (by kernel_rfl) rfl rfl (fun h => by cases h)
  · cases h; exact RowOK.of Try.underlying89 ⟨_, rfl⟩ (z := (.nilIface)) (by kernel_rfl) rfl rfl (fun h => by cases h)
  · cases h; exact RowOK.of Try.underlying106 rfl (z := (.int .u32 0)) (by kernel_rfl) rfl rfl (fun h => by cases h)
  · cases h; exact RowOK.of Try.underlying113 rfl (z := .agg #[.bool false, .bool false, .bool false, .bool false, .bool false, .bool false, .bool false, .bool false, .bool false, .bool false, .bool false, .bool false, .bool false, .bool false, .bool false, .bool false, .bool false, .bool false, .bool false, .bool false, .bool false, .bool false, .bool false, .bool false, .bool false, .bool false, .bool false, .bool false, .bool false, .bool false, .bool false, .bool false, .bool false, .bool false, .bool false, .bool false, .bool false, .bool false, .bool false, .bool false, .bool false, .bool false, .bool false, .bool false, .bool false, .bool false, .bool false, .bool false, .bool false, .bool false, .bool false, .bool false, .bool false, .bool false, .bool false, .bool false, .bool false, .bool false, .bool false, .bool false, .bool false, .bool false, .bool false, .bool false, .bool false, .bool false, .bool false, .bool false, .bool false, .bool false, .bool false, .bool false, .bool false, .bool false, .bool false, .bool false, .bool false, .bool false, .bool false, .bool false, .bool false, .bool false, .bool false, .bool false, .bool false, .bool false, .bool false, .bool false, .bool false, .bool false, .bool false, .bool false, .bool false, .bool false, .bool false, .bool false, .bool false, .bool false, .bool false, .bool false, .bool false, .bool false, .bool false, .bool false, .bool false, .bool false, .bool false, .bool false, .bool false, .bool false, .bool false, .bool false, .bool false, .bool false, .bool false, .bool false, .bool false, .bool false, .bool false, .bool false, .bool false, .bool false, .bool false, .bool false, .bool false, .bool false, .bool false, .bool false, .bool false, .bool false, .bool false, .bool false, .bool false, .bool false, .bool false, .bool false, .bool false, .bool false, .bool false, .bool false, .bool false, .bool false, .bool false, .bool false, .bool false, .bool false, .bool false, .bool false, .bool false, .bool false, .bool false, .bool false, .bool false, .bool false, .bool false, .bool false, .bool false, .bool false, .bool false, .bool false, .bool false, .bool false, .bool false, .bool false, .bool false, .bool false, .bool false, .bool false, .bool false, .bool false, .bool false, .bool false, .bool false, .bool false, .bool false, .bool false, .bool false, .bool false, .bool false, .bool false, .bool false, .bool false, .bool false, .bool false, .bool false, .bool false, .bool false, .bool false, .bool false, .bool false, .bool false, .bool false, .bool false, .bool false, .bool false, .bool false, .bool false, .bool false, .bool false, .bool false, .bool false, .bool false, .bool false, .bool false, .bool false, .bool false, .bool false, .bool false, .bool false, .bool false, .bool false, .bool false, .bool false, .bool false, .bool false, .bool false, .bool false, .bool false, .bool false, .bool false, .bool false, .bool false, .bool false, .bool false, .bool false, .bool false, .bool false, .bool false, .bool false, .bool false, .bool false, .bool false, .bool false, .bool false, .bool false, .bool false, .bool false, .bool false, .bool false, .bool false, .bool false, .bool false, .bool false, .bool false, .bool false, .bool false, .bool false, .bool false, .bool false, .bool false, .bool false, .bool false, .bool false, .bool false, .bool false, .bool false]) (by kernel_rfl) rfl rfl (fun h => by cases h)
  · cases h; exact RowOK.of Try.underlying128 rfl (z := (.int .u64 0)) (by kernel_rfl) rfl rfl (fun h => by cases h)
  · cases h; exact RowOK.of Try.underlying136 rfl (z := (.int .u64 0)) (by kernel_rfl) rfl rfl (fun h => by cases h)
  · cases h; exact RowOK.of Try.underlying137 rfl (z := (.pointer none)) (by kernel_rfl) rfl rfl (fun h => by cases h)
  · cases h; exact RowOK.of Try.underlying143 rfl (z := .agg #[.int .i64 0, .int .i64 0, .int .i64 0, .int .i64 0, .int .i64 0, .int .i64 0, .int .i64 0, .int .i64 0, .int .i64 0, .int .i64 0, .int .i64 0, .int .i64 0, .int .i64 0, .int .i64 0, .int .i64 0, .int .i64 0]) (by kernel_rfl) rfl rfl (fun h => by cases h)
  · cases h
def szT (t : TypeId) : Nat := match tab t with
  | some r => r.sz
  | none => 0
def encT (n : Nat) : (c : Ty) → c.T → Cs
  | .i k, x => [.v (.int k x)]
  | .b, x => [.v (.bool x)]
  | .s, x => [.v (.string (mkS x))]
  | .no, _ => List.replicate n .emp
  | .kTRatio, x => encTRatio x
  | .kTDatum, x => encTDatum x
  | .kTFault, x => encTFault x
  | .kTToken, x => encTToken x
  | .kTReader, x => encTReader x
  | .kTReading, x => encTReading x
def toCT (n : Nat) : (c : Ty) → c.T → List (SV I)
  | .i k, x => [.i k x]
  | .b, x => [.b x]
  | .s, x => [.s x]
  | .no, _ => List.replicate n .emp
  | .kTRatio, x => [.b x.x0, .l 106 x.x1, .l 106 x.x2]
  | .kTDatum, x => [.i .i64 x.x0, .b x.x1, .l 106 x.x2, .l 106 x.x3, .b x.x4, .s x.x5, .l 28 x.x6, .b x.x7]
  | .kTFault, x => [.i .i64 x.x0, .i .i64 x.x1]
  | .kTToken, x => [.i .i64 x.x0, .s x.x1, .b x.x2, .l 106 x.x3, .l 106 x.x4, .i .i64 x.x5]
  | .kTReader, x => [.l 55 x.x0, .i .i64 x.x1, .i .i64 x.x2, .i .i64 x.x3]
  | .kTReading, x => [.i .i64 x.x0, .b x.x1, .l 106 x.x2, .l 106 x.x3, .b x.x4, .s x.x5, .l 28 x.x6, .b x.x7, .i .i64 x.x8, .i .i64 x.x9, .i .i64 x.x10]
def ofCT : (c : Ty) → List (SV I) → Option c.T
  | .i k, cs => match cs with
    | [.i k' x] => if k' = k then some x else none
    | _ => none
  | .b, cs => match cs with
    | [.b x] => some x
    | _ => none
  | .s, cs => match cs with
    | [.s x] => some x
    | _ => none
  | .no, _ => none
  | .kTRatio, cs => match cs with
    | [.b x0, .l 106 x1, .l 106 x2] => some (.mk x0 x1 x2)
    | _ => none
  | .kTDatum, cs => match cs with
    | [.i .i64 x0, .b x1, .l 106 x2, .l 106 x3, .b x4, .s x5, .l 28 x6, .b x7] => some (.mk x0 x1 x2 x3 x4 x5 x6 x7)
    | _ => none
  | .kTFault, cs => match cs with
    | [.i .i64 x0, .i .i64 x1] => some (.mk x0 x1)
    | _ => none
  | .kTToken, cs => match cs with
    | [.i .i64 x0, .s x1, .b x2, .l 106 x3, .l 106 x4, .i .i64 x5] => some (.mk x0 x1 x2 x3 x4 x5)
    | _ => none
  | .kTReader, cs => match cs with
    | [.l 55 x0, .i .i64 x1, .i .i64 x2, .i .i64 x3] => some (.mk x0 x1 x2 x3)
    | _ => none
  | .kTReading, cs => match cs with
    | [.i .i64 x0, .b x1, .l 106 x2, .l 106 x3, .b x4, .s x5, .l 28 x6, .b x7, .i .i64 x8, .i .i64 x9, .i .i64 x10] => some (.mk x0 x1 x2 x3 x4 x5 x6 x7 x8 x9 x10)
    | _ => none
def layT : TypeId → List (Option TypeId)
  | 23 => [some 106]
  | 25 => [none, some 106, some 106]
  | 26 => [some 28]
  | 28 => [none, none, some 106, some 106, none, none, some 28, none]
  | 45 => [some 55]
  | 50 => [some 55, none, none, none]
  | 55 => [none, none, none, some 106, some 106, none]
  | 59 => [none, none, some 106, some 106, none, none, some 28, none, none, none, none]
  | 64 => [some 5]
  | _ => []
def btsT : (c : Ty) → Str → Option (List c.T)
  | .i .u8, z => some (z.map fun b => (b.toNat : Int))
  | _, _ => none
def stbT : (c : Ty) → List c.T → Option Str
  | .i .u8, l => some (l.map fun n => UInt8.ofNat (Int.toNat n))
  | _, _ => none
noncomputable def E : Env := ⟨Try.prog, tab, fun _ => .junk, fun _ _ _ => none, fun f i => (f == 25 && i == 0) || (f == 30 && i == 0) || (f == 31 && i == 0) || (f == 39 && i == 0) || (f == 39 && i == 2) || (f == 40 && i == 0) || (f == 41 && i == 0) || (f == 42 && i == 0) || (f == 43 && i == 0) || (f == 50 && i == 0) || (f == 51 && i == 0) || (f == 52 && i == 0) || (f == 72 && i == 0) || (f == 85 && i == 0) || (f == 117 && i == 0) || (f == 119 && i == 0), fun _ => False⟩
noncomputable def S : Sys := ⟨E, I, szT, fun t => encT (szT t) (code t), fun t => toCT (szT t) (code t), fun t => ofCT (code t), layT, fun t => btsT (code t), fun t => stbT (code t)⟩
theorem mixed : Try.prog.follows .mixedOrders = true := by kernel_rfl
theorem names : ∀ (f : Nat) fn, Try.prog.funcs[f]? = some fn → fn.name ≠ "runtime.NumGoroutine" := by
  have h : (Try.prog.funcs.all fun fn => fn.name != "runtime.NumGoroutine") = true := by kernel_rfl
  intro f fn hf
  have := Array.all_eq_true_iff_forall_mem.1 h fn (Array.mem_of_getElem? hf)
  simpa using this
def szC : Ty → Option Nat
  | .no => none
  | .kTRatio => some 3
  | .kTDatum => some 8
  | .kTFault => some 2
  | .kTToken => some 6
  | .kTReader => some 4
  | .kTReading => some 11
  | _ => some 1
theorem code_sz (t : TypeId) : ∀ n, szC (code t) = some n → szT t = n := by
  unfold code
  split <;> intro n h <;> cases h <;> rfl
theorem repS (n : Nat) : List.replicate n AV.emp = avs S (List.replicate n .emp) := by rw [avs_map, List.map_replicate]; rfl
theorem eC (n : Nat) : ∀ (c : Ty) (x : c.T), encT n c x = avs S (toCT n c x)
  | .i _, _ => rfl
  | .b, _ => rfl
  | .s, _ => rfl
  | .no, _ => repS n
  | .kTRatio, .mk .. => by
    simp only [encT, toCT, avs, av, encTRatio]
    try rfl
  | .kTDatum, .mk .. => by
    simp only [encT, toCT, avs, av, encTDatum, encTDatums_map]
    try rfl
  | .kTFault, .mk .. => by
    simp only [encT, toCT, avs, av, encTFault]
    try rfl
  | .kTToken, .mk .. => by
    simp only [encT, toCT, avs, av, encTToken]
    try rfl
  | .kTReader, .mk .. => by
    simp only [encT, toCT, avs, av, encTReader]
    try rfl
  | .kTReading, .mk .. => by
    simp only [encT, toCT, avs, av, encTReading]
    try rfl
theorem pC (n : Nat) : ∀ (c : Ty) (x : c.T), (encT n c x).all pl = true
  | .i _, _ => rfl
  | .b, _ => rfl
  | .s, _ => rfl
  | .no, _ => by simp [encT, pl]
  | .kTRatio, .mk .. => by
    simp only [encT, encTRatio]
    rfl
  | .kTDatum, .mk .. => by
    simp only [encT, encTDatum]
    rfl
  | .kTFault, .mk .. => by
    simp only [encT, encTFault]
    rfl
  | .kTToken, .mk .. => by
    simp only [encT, encTToken]
    rfl
  | .kTReader, .mk .. => by
    simp only [encT, encTReader]
    rfl
  | .kTReading, .mk .. => by
    simp only [encT, encTReading]
    rfl
theorem lC (n : Nat) : ∀ (c : Ty) (x : c.T), (∀ m, szC c = some m → n = m) → (encT n c x).length = n
  | .i _, _, h => (h _ rfl).symm
  | .b, _, h => (h _ rfl).symm
  | .s, _, h => (h _ rfl).symm
  | .no, _, _ => by simp [encT]
  | .kTRatio, .mk .., h => by
    simp only [encT, encTRatio]
    exact (h _ rfl).symm
  | .kTDatum, .mk .., h => by
    simp only [encT, encTDatum]
    exact (h _ rfl).symm
  | .kTFault, .mk .., h => by
    simp only [encT, encTFault]
    exact (h _ rfl).symm
  | .kTToken, .mk .., h => by
    simp only [encT, encTToken]
    exact (h _ rfl).symm
  | .kTReader, .mk .., h => by
    simp only [encT, encTReader]
    exact (h _ rfl).symm
  | .kTReading, .mk .., h => by
    simp only [encT, encTReading]
    exact (h _ rfl).symm
theorem oC (n : Nat) (cs : List (SV I)) : ∀ (c : Ty) (x : c.T), ofCT c cs = some x → avs S cs = encT n c x
  | .i _, x, h => by
    unfold ofCT at h; simp only at h; split at h
    · split at h
      · rename_i he; subst he; cases h; rfl
      · cases h
    · cases h
  | .b, x, h => by
    unfold ofCT at h; simp only at h; split at h
    · cases h; rfl
    · cases h
  | .s, x, h => by
    unfold ofCT at h; simp only at h; split at h
    · cases h; rfl
    · cases h
  | .no, x, h => by cases h
  | .kTRatio, x, h => by
    unfold ofCT at h; simp only at h; split at h
    · cases h; exact (eC n .kTRatio (.mk _ _ _)).symm
    · cases h
  | .kTDatum, x, h => by
    unfold ofCT at h; simp only at h; split at h
    · cases h; exact (eC n .kTDatum (.mk _ _ _ _ _ _ _ _)).symm
    · cases h
  | .kTFault, x, h => by
    unfold ofCT at h; simp only at h; split at h
    · cases h; exact (eC n .kTFault (.mk _ _)).symm
    · cases h
  | .kTToken, x, h => by
    unfold ofCT at h; simp only at h; split at h
    · cases h; exact (eC n .kTToken (.mk _ _ _ _ _ _)).symm
    · cases h
  | .kTReader, x, h => by
    unfold ofCT at h; simp only at h; split at h
    · cases h; exact (eC n .kTReader (.mk _ _ _ _)).symm
    · cases h
  | .kTReading, x, h => by
    unfold ofCT at h; simp only at h; split at h
    · cases h; exact (eC n .kTReading (.mk _ _ _ _ _ _ _ _ _ _ _)).symm
    · cases h
theorem sC1 (l : List Int) : strOf (l.map fun x => [AV.v (.int .u8 x)]) = some (l.map fun n => UInt8.ofNat n.toNat) := by
  induction l with
  | nil => rfl
  | cons x l ih => simp only [List.map_cons, strOf, ih]
theorem sC (n : Nat) (z : Str) : ∀ (c : Ty) (l : List c.T), stbT c l = some z → strOf (l.map (encT n c)) = some z := by
  intro c l h
  unfold stbT at h
  split at h
  · cases h; exact sC1 _
  · cases h
theorem bC (n : Nat) (z : Str) : ∀ (c : Ty) (l : List c.T), btsT c z = some l → l.map (encT n c) = byteCells (mkS z) := by
  intro c l h
  unfold btsT at h
  split at h
  · cases h; simp only [List.map_map, byteCells, mkS]; rfl
  · cases h
theorem SOK : SysOK S where
  tab := tabOK
  mix := mixed
  np := fun _ h => h
  gl := fun _ => rfl
  encC := fun t x => eC _ _ x
  encPl := fun t x => pC _ _ x
  encLen := fun t x => lC _ _ x (code_sz t)
  of := fun t cs x h => oC _ cs _ x h
  szT := fun t r h => by
    show szT t = r.sz
    have h : tab t = some r := h
    unfold szT; rw [h]
  stbOK := fun t l z h => sC _ z _ l h
  btsOK := fun t z l h => bC _ z _ l h
end Go.Bx.Dat

/- strings.IndexByte: off the shelf. (Own text.) -/
namespace Go.Bx.Dat
set_option linter.unusedVariables false
set_option linter.unusedSimpArgs false
set_option linter.unusedSectionVars false
open Go.Proofs Go.RowKit
set_option linter.unusedVariables false

/-- strings.IndexByte -/
def F38 (s : Str) (c : Int) : Option Int := some (Lib.indexByte s c.toNat.toUInt8)
theorem F38_ok (s : Str) (c : Int) (r : Int) (h : F38 s c = some r) : PureOK E 38 [.v (.string (mkS s)), .v (.int .u8 c)] (.v (.int .i64 r)) := by
  obtain rfl := Option.some.inj h
  refine pure_below (vs := [.string (mkS s), .int .u8 c]) Try.func38 rfl (names _ _ Try.func38) (fun w => ?_)
  refine (Try.strings_IndexByte (mkS s) c w).mono ?_
  rintro e w' ⟨rfl, rfl⟩
  exact ⟨rfl, Below.refl _ _⟩
end Go.Bx.Dat

/- strings.IndexAny at the scanner's delimiters, whatever the text. (Own text.) -/
namespace Go.Bx.Dat
set_option linter.unusedVariables false
set_option linter.unusedSimpArgs false
set_option linter.unusedSectionVars false
open Go.Proofs Go.RowKit Go.Lib
set_option linter.unusedVariables false
def delims : Str := [32, 9, 10, 13, 59, 40, 41, 39]
theorem delims_ascii : ∀ (j : Nat) b, (mkS delims).data.toList[j]? = some b → b.toNat < 128 := by
  intro j b h
  have h' : b ∈ delims := List.mem_of_getElem? h
  have : ∀ b ∈ delims, b.toNat < 128 := by decide
  exact this b h'
theorem dl_size : (mkS delims).size = 8 := rfl
set_option maxHeartbeats 8000000 in
set_option maxRecDepth 1000000 in
/-- The rune that stands for what is no rune isn't among the delimiters. -/
theorem ir_err (s : ByteArray) (hs : s = mkS delims) (w : World) : Calls Try.prog 82 #[.string s, .int .i32 65533] w fun e w' => e = .returned (.int .i64 (-1)) ∧ Below w.heap.size w w' := by
  have hsz : s.size = 8 := by rw [hs]; rfl
  have hasc : Aside (∀ (j : Nat) b, s.data.toList[j]? = some b → b.toNat < 128) := by rw [hs]; exact delims_ascii
  clear hs
  have e19 : ∀ args w, (callFunc 38 args).run Try.prog w = .ok (.enter 38 args) w := enters_of Try.func38 (by kernel_rfl) rfl
  go_enter Try.func82, Try.ntmps82
  go_wp2
  go_loopg [5, 6] 8 (fun g _ _ wx => ∃ i : Nat, i + g = 8 ∧ wx = w.iter s i)
  case atStart => exact ⟨0, by omega, rfl⟩
  case round =>
    obtain ⟨i, hig, rfl⟩ := hrel
    cases gk with
    | zero =>
      obtain rfl : i = 8 := by omega
      have hnx := fun ty => run_next_end (P := Try.prog) w s 8 ty (by omega)
      go_wp2
      go_ret
      exact ⟨rfl, (Below.refl _ _).alloc (Nat.le_refl _) _⟩
    | succ g =>
      have hi : i < s.size := by omega
      obtain ⟨x, hx⟩ : ∃ x : UInt8, s[i]'hi = x := ⟨_, rfl⟩
      have hxl : s.data.toList[i]? = some x := by rw [← hx]; exact Lib.data_getElem? s i hi
      have hx128 : x.toNat < 128 := hasc.out i x hxl
      have hnx := fun ty => run_next_ascii (P := Try.prog) w s i ty hi (by rw [hx]; exact hx128)
      rw [hx] at hnx
      clear hxl hx
      have hne : ((x.toNat : Int) == 65533) = false := beq_eq_false_iff_ne.2 (by omega)
      go_wp2
      go_roundg g
      case measure => omega
      case rel => exact ⟨i + 1, by omega, rfl⟩

set_option maxHeartbeats 8000000 in
set_option maxRecDepth 1000000 in
/-- No rune at all. -/
theorem ir_bad (s : ByteArray) (r : Int) (h1 : 128 ≤ r) (h2 : r ≠ 65533) (hv : Lib.validRune r = false) (w : World) : Calls Try.prog 82 #[.string s, .int .i32 r] w fun e w' => e = .returned (.int .i64 (-1)) ∧ Below w.heap.size w w' := by
  have hne : (r == 65533) = false := beq_eq_false_iff_ne.2 h2
  have h0 : (0 : Int) ≤ r := by omega
  have hlt : ¬ r < 128 := by omega
  have e50 : ∀ args w, (callFunc 105 args).run Try.prog w = .ok (.enter 105 args) w := enters_of Try.func105 (by kernel_rfl) rfl
  go_enter Try.func82, Try.ntmps82
  go_wp2_with (go_at_fn 105; refine (Try.utf8_ValidRune _ _).mono ?_; rintro e w' ⟨rfl, hw⟩; rw [hw, hv])
  go_ret
  exact ⟨rfl, Below.refl _ _⟩

set_option maxHeartbeats 8000000 in
set_option maxRecDepth 1000000 in
/-- A rune beyond ASCII: its last byte isn't among the delimiters. -/
theorem ir_high (s : ByteArray) (hs : s = mkS delims) (r : Int) (h1 : 128 ≤ r) (h2 : r ≠ 65533) (hv : Lib.validRune r = true) (w : World) : Calls Try.prog 82 #[.string s, .int .i32 r] w fun e w' => e = .returned (.int .i64 (-1)) ∧ Below w.heap.size w w' := by
  have hsz : s.size = 8 := by rw [hs]; rfl
  have hne : (r == 65533) = false := beq_eq_false_iff_ne.2 h2
  have h0 : (0 : Int) ≤ r := by omega
  have hlt : ¬ r < 128 := by omega
  have hval : Utf8.valid r = true := by
    simp only [Lib.validRune, decide_eq_true_eq] at hv
    simp only [Utf8.valid, Bool.or_eq_true, Bool.and_eq_true, decide_eq_true_eq]; omega
  obtain ⟨n2, n4, hlast⟩ := encode_facts r hval h1
  generalize hrs : Utf8.encode r = rs at *
  obtain ⟨x, hx⟩ : ∃ x : UInt8, rs[rs.size - 1]'(by omega) = x := ⟨_, rfl⟩
  have hx128 : 128 ≤ x.toNat := by rw [← hx]; exact hlast (by omega)
  have hin : ∀ (j : Nat) (h : j < s.size), ((s[j]'h).toNat : Int) ≠ (x.toNat : Int) := fun j h => by
    have := delims_ascii j (s[j]'h) (by rw [← hs]; exact Lib.data_getElem? s j h)
    omega
  have hidx : ∀ k : Nat, Lib.indexByte ((mkS delims).extract k 8).data.toList x = -1 := fun k => by
    have hall : ∀ b ∈ ((mkS delims).extract k 8).data.toList, b.toNat < 128 := fun b hb => by
      rw [mkS_extract] at hb
      have : b ∈ delims := List.mem_of_mem_take (List.mem_of_mem_drop hb)
      exact (by decide : ∀ b ∈ delims, b.toNat < 128) b this
    generalize ((mkS delims).extract k 8).data.toList = l at hall
    have hc : l.contains x = false := by
      cases h : l.contains x with
      | false => rfl
      | true => have := hall x (by simpa using h); omega
    rw [Lib.contains_iff_indexByte] at hc
    have hge := of_decide_eq_false hc
    have := Lib.indexByte_ge l x
    omega
  obtain ⟨m, hm⟩ : ∃ m, rs.size = m + 1 := ⟨rs.size - 1, by omega⟩
  have hxm : rs[m]'(by omega) = x := by rw [← hx]; congr 1; omega
  have hms : m < s.size := by omega
  have hms8 : (m : Int) < 8 := by omega
  have hmrs : m < rs.size := by omega
  have hmrs2 : (m : Int) < (rs.size : Int) := by omega
  have hb := hin m hms
  generalize hy : s[m]'hms = y at hb
  have hbne : ((y.toNat : Int) != (x.toNat : Int)) = true := by simpa using hb
  have hback : ((x.toNat : Int)).toNat.toUInt8 = x := by simp
  have HI : Aside (∀ k : Nat, Lib.indexByte (s.extract k 8).data.toList x = -1) := by rw [hs]; exact hidx
  clear hidx hin hlast hx hs
  have e50 : ∀ args w, (callFunc 105 args).run Try.prog w = .ok (.enter 105 args) w := enters_of Try.func105 (by kernel_rfl) rfl
  have e19 : ∀ args w, (callFunc 38 args).run Try.prog w = .ok (.enter 38 args) w := enters_of Try.func38 (by kernel_rfl) rfl
  go_enter Try.func82, Try.ntmps82
  go_wp2_with (go_at_fn 105; refine (Try.utf8_ValidRune _ _).mono ?_; rintro e w' ⟨rfl, hw⟩; rw [hw, hv])
  go_step3
  go_wp2
  go_loopg [9, 10, 11, 12] 1 (fun g a9 _ _ _ wx => g = 1 ∧ a9 = .int .i64 m ∧ wx = w)
  case atStart => exact ⟨by rfl, by first | rfl | (congr 1; omega), rfl⟩
  case round =>
    obtain ⟨rfl, rfl, rfl⟩ := hrel
    go_wp2
    go_step3
    go_wp2
    go_quiet (fail)
    go_wp2
    go_quiet ((go_at_call 38; refine (Try.strings_IndexByte _ _ _).mono ?_; rintro e w' ⟨rfl, hw⟩; exact ⟨by rw [hback, HI.out], _, hw⟩))
    go_wp2
    rw [Exit.noGoto_ret]
    try go_wp2
    try rw [Exit.noGoto_ret]
    go_ret
    exact ⟨rfl, rfl, rfl, rfl, Nat.le_refl _, fun _ _ => rfl⟩

/-- Whatever rune beyond ASCII. -/
theorem ir_any (r : Int) (h1 : 128 ≤ r) (w : World) : Calls Try.prog 82 #[.string (mkS delims), .int .i32 r] w fun e w' => e = .returned (.int .i64 (-1)) ∧ Below w.heap.size w w' := by
  by_cases h2 : r = 65533
  · subst h2; exact ir_err _ rfl w
  · cases hv : Lib.validRune r with
    | true => exact ir_high _ rfl r h1 h2 hv w
    | false => exact ir_bad _ r h1 h2 hv w

/-- What is read as one rune beyond ASCII is bytes beyond ASCII. -/
theorem decode_skip (s : ByteArray) (pos : Nat) (h : pos < s.size) (ha : 128 ≤ (s[pos]'h).toNat) : ∀ k, k < (Utf8.decode s pos).2 → ∃ b, s.data.toList[pos + k]? = some b ∧ 128 ≤ b.toNat := by
  have hn : ¬ (s[pos]'h).toNat < 128 := by omega
  have h0 : ∃ b, s.data.toList[pos + 0]? = some b ∧ 128 ≤ b.toNat := ⟨s[pos]'h, Lib.data_getElem? s pos h, ha⟩
  have hk : ∀ k, (decide (pos + k < s.size) && (s.get! (pos + k)).toNat / 64 == 2) = true → ∃ b, s.data.toList[pos + k]? = some b ∧ 128 ≤ b.toNat := fun k hc => by
    simp only [Bool.and_eq_true, decide_eq_true_eq, beq_iff_eq] at hc
    refine ⟨s[pos + k]'hc.1, Lib.data_getElem? s _ hc.1, ?_⟩
    have e : s.get! (pos + k) = s[pos + k]'hc.1 := get_at s (pos + k) hc.1
    rw [e] at hc; omega
  simp only [Utf8.decode, get_at s pos h, hn, if_false]
  intro k
  split
  · rename_i h1
    simp only [Bool.and_eq_true] at h1
    have c1 := hk 1 (by simpa using h1.2)
    split <;> (intro hlt; simp only at hlt)
    · match k with
      | 0 => exact h0
      | 1 => exact c1
      | k + 2 => omega
    · match k with
      | 0 => exact h0
      | k + 1 => omega
  · split
    · rename_i _ h1
      simp only [Bool.and_eq_true] at h1
      have c1 := hk 1 (by simpa using h1.1.2)
      have c2 := hk 2 (by simpa using h1.2)
      split <;> (intro hlt; simp only at hlt)
      · match k with
        | 0 => exact h0
        | 1 => exact c1
        | 2 => exact c2
        | k + 3 => omega
      · match k with
        | 0 => exact h0
        | k + 1 => omega
    · split
      · rename_i _ _ h1
        simp only [Bool.and_eq_true] at h1
        have c1 := hk 1 (by simpa using h1.1.1.2)
        have c2 := hk 2 (by simpa using h1.1.2)
        have c3 := hk 3 (by simpa using h1.2)
        split <;> (intro hlt; simp only at hlt)
        · match k with
          | 0 => exact h0
          | 1 => exact c1
          | 2 => exact c2
          | 3 => exact c3
          | k + 4 => omega
        · match k with
          | 0 => exact h0
          | k + 1 => omega
      · intro hlt; simp only at hlt
        match k with
        | 0 => exact h0
        | k + 1 => omega
theorem noAny_more {s chars : List UInt8} {i n : Nat} (h : Lib.NoAny s chars i) (hk : ∀ k, k < n → ∃ b, s[i + k]? = some b ∧ chars.contains b = false) : Lib.NoAny s chars (i + n) := fun j b hj hb => by
  by_cases hji : j < i
  · exact h j b hji hb
  · obtain ⟨c, hc, hc2⟩ := hk (j - i) (by omega)
    rw [show i + (j - i) = j by omega, hb] at hc
    cases hc; exact hc2
theorem delims_high {b : UInt8} (h : 128 ≤ b.toNat) : delims.contains b = false := by
  cases hc : delims.contains b with
  | false => rfl
  | true =>
    have h' : b ∈ delims := by simpa using hc
    have := (by decide : ∀ b ∈ delims, b.toNat < 128) b h'
    omega

set_option maxHeartbeats 8000000 in
set_option maxRecDepth 1000000 in
/-- strings.IndexAny at short texts, whatever they are. -/
theorem ia_short (s : ByteArray) (h8 : s.size ≤ 8) (w : World) : Calls Try.prog 63 #[.string s, .string (mkS delims)] w fun e w' => e = .returned (.int .i64 (Lib.indexAny s.data.toList delims)) ∧ Below w.heap.size w w' := by
  obtain ⟨ch, hch⟩ : ∃ ch, mkS delims = ch := ⟨_, rfl⟩
  have hIR : Aside (∀ (r : Int) (w : World), 128 ≤ r → Calls Try.prog 82 #[.string ch, .int .i32 r] w fun e w' => e = .returned (.int .i64 (-1)) ∧ Below w.heap.size w w') := by rw [← hch]; exact fun r w h => ir_any r h w
  have hIA : Aside (∀ (r : Int) (w : World), 0 ≤ r → r < 128 → Calls Try.prog 82 #[.string ch, .int .i32 r] w fun e w' => e = .returned (.int .i64 (Lib.indexByte delims r.toNat.toUInt8)) ∧ w' = w) := by rw [← hch]; exact fun r w h0 h1 => Try.strings_IndexRune_ascii (mkS delims) r w h0 h1
  have hsz : ch.size = 8 := by rw [← hch]; rfl
  have hemp : ch.toList.isEmpty = false := by rw [← hch, Lib.toList_data]; rfl
  rw [hch]
  clear hch
  have h8z : decide ((8 : Int) < (s.size : Int)) = false := decide_eq_false (by omega)
  have e41 : ∀ args w, (callFunc 82 args).run Try.prog w = .ok (.enter 82 args) w := enters_of Try.func82 (by kernel_rfl) rfl
  have e42 : ∀ args w, (callFunc 83 args).run Try.prog w = .ok (.enter 83 args) w := enters_of Try.func83 (by kernel_rfl) rfl
  go_enter Try.func63, Try.ntmps63
  go_wp2_with (go_at_fn 83; refine (Try.strings_shouldUseASCIISet _ _).mono ?_; rintro e w' ⟨rfl, hw⟩; rw [hw, h8z])
  go_loopg [9, 10] s.size (fun g _ _ wx => ∃ i : Nat, i + g = s.size ∧ wx.heap[w.heap.size]? = some (.stringIter s i) ∧ Below w.heap.size w wx ∧ Lib.NoAny s.data.toList delims i)
  case atStart => exact ⟨0, by omega, World.iter_heap w s 0, (Below.refl _ _).alloc (Nat.le_refl _) _, Lib.NoAny.zero _ _⟩
  case round =>
    obtain ⟨i, hig, hit, hbel, hno⟩ := hrel
    have HN : Aside (Lib.NoAny s.data.toList delims i) := hno
    have HB : Aside (Below w.heap.size w wr) := hbel
    clear hno hbel
    cases gk with
    | zero =>
      obtain rfl : i = s.size := by omega
      have hnx := fun ty => run_next_end_at (P := Try.prog) wr w.heap.size s s.size ty hit (by omega)
      go_wp2
      go_ret
      exact ⟨by rw [Lib.indexAny_none (by rw [← Lib.size_eq]; exact HN.out)]; rfl, HB.out⟩
    | succ g =>
      have hi : i < s.size := by omega
      obtain ⟨x, hx⟩ : ∃ x : UInt8, s[i]'hi = x := ⟨_, rfl⟩
      have hxl : s.data.toList[i]? = some x := by rw [← hx]; exact Lib.data_getElem? s i hi
      have Hx : Aside (s.data.toList[i]? = some x) := hxl
      have hwl : w.heap.size < wr.heap.size := (Array.getElem?_eq_some_iff.1 hit).1
      by_cases h128 : x.toNat < 128
      · have hnx := fun ty => run_next_ascii_at (P := Try.prog) wr w.heap.size s i ty hit hi (by rw [hx]; exact h128)
        rw [hx] at hnx
        have HI : Aside ((wr.iterAt w.heap.size s (i + 1)).heap[w.heap.size]? = some (.stringIter s (i + 1))) := iterAt_heap _ _ _ _ _ hit
        have HB2 : Aside (Below w.heap.size w (wr.iterAt w.heap.size s (i + 1))) := below_iterAt HB.out (Nat.le_refl _) _ _
        have hcon := Lib.contains_iff_indexByte delims x
        have hback : ((x.toNat : Int)).toNat.toUInt8 = x := by simp
        clear hxl hx hit
        cases hin : delims.contains x
        · rw [hin] at hcon
          have hlt : ¬ ((0 : Int) ≤ Lib.indexByte delims x) := of_decide_eq_false hcon.symm
          clear hcon
          go_wp2_with (go_at_fn 82; refine (hIA.out _ _ (by omega) (by omega)).mono ?_; rintro e w' ⟨rfl, hw⟩; rw [hw, hback])
          go_roundg g
          case measure => omega
          case rel => exact ⟨i + 1, by omega, HI.out, HB2.out, HN.out.succ Hx.out hin⟩
        · rw [hin] at hcon
          have hge : (0 : Int) ≤ Lib.indexByte delims x := of_decide_eq_true hcon.symm
          clear hcon
          go_wp2_with (go_at_fn 82; refine (hIA.out _ _ (by omega) (by omega)).mono ?_; rintro e w' ⟨rfl, hw⟩; rw [hw, hback])
          go_ret
          exact ⟨by rw [Lib.indexAny_hit HN.out Hx.out hin]; rfl, HB2.out⟩
      · have hnx := fun ty => run_next_any_at (P := Try.prog) wr w.heap.size s i ty hit hi
        obtain ⟨d1, d2⟩ := decode_high s i hi (by rw [hx]; omega)
        have hsk := decode_skip s i hi (by rw [hx]; omega)
        have HI : Aside (∀ n, (wr.iterAt w.heap.size s n).heap[w.heap.size]? = some (.stringIter s n)) := fun n => iterAt_heap _ _ _ _ _ hit
        have HB2 : Aside (∀ n, Below w.heap.size w (wr.iterAt w.heap.size s n)) := fun n => below_iterAt HB.out (Nat.le_refl _) _ _
        have HS : Aside (∀ n, (wr.iterAt w.heap.size s n).heap.size = wr.heap.size) := fun n => iterAt_size _ _ _ _
        generalize hdec : Utf8.decode s i = d at *
        obtain ⟨r, n⟩ := d
        simp only at d1 d2 hsk hnx
        have hno2 : Lib.NoAny s.data.toList delims (i + n) := noAny_more HN.out fun k hk => by
          obtain ⟨b, h1, h2⟩ := hsk k hk
          exact ⟨b, h1, delims_high h2⟩
        have hle : i + n ≤ s.size := by
          obtain ⟨b, h1, h2⟩ := hsk (n - 1) (by omega)
          have := (List.getElem?_eq_some_iff.1 h1).1
          rw [← Lib.size_eq] at this; omega
        have HN2 : Aside (Lib.NoAny s.data.toList delims (i + n)) := hno2
        clear hxl hx hit hsk hno2 hdec
        have hm1 : ¬ ((0 : Int) ≤ -1) := by omega
        go_wp2_with (go_at_fn 82; refine (hIR.out _ _ (by omega)).mono ?_; rintro e w' ⟨rfl, hw⟩)
        go_roundg (g + 1 - n)
        case measure => omega
        case rel => exact ⟨i + n, by omega, by rw [hw.block _ (by rw [HS.out]; exact hwl)]; exact HI.out _, (HB2.out _).trans ⟨hw.os, hw.tape, hw.output, hw.size, fun k hk => hw.block k (by rw [HS.out]; omega)⟩, HN2.out⟩

/-- strings.IndexAny -/
def F63 (s chars : Str) : Option Int := if chars = delims ∧ s.length < 4294967281 then some (Lib.indexAny s chars) else none
theorem F63_ok (s chars : Str) (r : Int) (h : F63 s chars = some r) : PureOK E 63 [.v (.string (mkS s)), .v (.string (mkS chars))] (.v (.int .i64 r)) := by
  unfold F63 at h
  split at h
  · rename_i hc
    obtain ⟨rfl, hs⟩ := hc
    obtain rfl := Option.some.inj h
    refine pure_below (vs := [.string (mkS s), .string (mkS delims)]) Try.func63 rfl (names _ _ Try.func63) (fun w => ?_)
    by_cases h8 : 8 < s.length
    · refine (Try.strings_IndexAny_long (zero_of_info (n := 256) (by kernel_rfl)).1 (mkS s) (mkS delims) w (by decide) h8 hs (by decide) delims_ascii).mono ?_
      rintro e w' ⟨rfl, rfl⟩
      exact ⟨rfl, ((Below.refl _ _).alloc (Nat.le_refl _) _).alloc (by simp) _⟩
    · exact ia_short (mkS s) (by show s.length ≤ 8; omega) w
  · cases h
end Go.Bx.Dat

/- internal/stringslite.Clone: off the shelf. (Own text.) -/
namespace Go.Bx.Dat
set_option linter.unusedVariables false
set_option linter.unusedSimpArgs false
set_option linter.unusedSectionVars false
open Go.Proofs Go.RowKit
set_option linter.unusedVariables false
def F87 (s : Str) : Option Str := if s.length ≤ 281474976710656 then some s else none
theorem F87_ok (s : Str) (r : Str) (h : F87 s = some r) : PureOK E 87 [.v (.string (mkS s))] (.v (.string (mkS r))) := by
  unfold F87 at h
  split at h
  · rename_i hl
    cases h
    refine pure_below (vs := [.string (mkS s)]) Try.func87 rfl (names _ _ Try.func87) (fun w => ?_)
    refine (Try.stringslite_Clone (mkS s) w hl).mono ?_
    exact fun e w' h => h
  · cases h
end Go.Bx.Dat

/- strings.Builder's copyCheck: by hand, for it looks at its block's type. (Own text.) -/
namespace Go.Bx.Dat
set_option linter.unusedVariables false
set_option linter.unusedSimpArgs false
set_option linter.unusedSectionVars false
open Go.Proofs Go.RowKit
set_option linter.unusedVariables false
set_option linter.unusedSimpArgs false
theorem bld_info : (Try.prog.info? 66).map (·.size) = some 2 := by kernel_rfl
theorem bld_lies : liesAt Try.prog Try.prog.depth 66 (2 / Try.prog.cellsOf 66) 0 66 1 = true := by kernel_rfl
set_option maxHeartbeats 1000000 in
set_option maxRecDepth 100000 in
theorem cc_used (b : Nat) (w : World) (h0 : w.cell? ⟨b, 0, none⟩ = some (.pointer (some ⟨b, 0, none⟩))) :
    Calls Try.prog 72 #[.pointer (some ⟨b, 0, none⟩)] w fun e w' => e = .returned (.tuple #[]) ∧ w' = w := by
  obtain ⟨j, hj, _⟩ := Option.map_eq_some_iff.1 bld_info
  go_enter Try.func72, Try.ntmps72
  go_wp2
  rw [Lib.run_neq_ptr_same w _ Try.underlying63 hj]
  go_wp2
  go_end0
  exact ⟨rfl, rfl⟩
set_option maxHeartbeats 1000000 in
set_option maxRecDepth 100000 in
theorem cc_fresh (b : Nat) (w : World) (h0 : w.cell? ⟨b, 0, none⟩ = some (.pointer none)) (hsh : w.shape? b = some (66, 2)) (hfz : w.frozen? ⟨b, 0, none⟩ = false) :
    Calls Try.prog 72 #[.pointer (some ⟨b, 0, none⟩)] w fun e w' => e = .returned (.tuple #[]) ∧ w' = w.setCell ⟨b, 0, none⟩ (.pointer (some ⟨b, 0, none⟩)) := by
  obtain ⟨j, hj, hjs⟩ := Option.map_eq_some_iff.1 bld_info
  go_enter Try.func72, Try.ntmps72
  go_wp2
  rw [Lib.run_to_unsafe w ⟨b, 0, none⟩ Try.underlying63 Try.underlying124 hj (by rw [hjs]; decide) hsh (Nat.zero_lt_succ 1)]
  simp only [Result.andThen]
  rw [Oper.upon_value]
  go_wp2
  rw [run_callFunc_extern (f := 94) Try.func94 (by kernel_rfl) (by kernel_rfl) (by kernel_rfl) (e := Extern.AbiNoEscape.same) (by kernel_rfl)]
  rw [Lib.run_noEscape]
  simp only [Result.andThen]
  rw [Oper.upon_value]
  go_wp2
  rw [Lib.run_from_unsafe w ⟨b, 0, none⟩ Try.underlying124 Try.underlying63 hj hsh bld_lies]
  simp only [Result.andThen]
  rw [Oper.upon_value]
  go_wp2
  go_end0
  exact ⟨rfl, rfl⟩

/-- The store of one cell, as the world's. -/
theorem store1_run (b off : Nat) (v u0 : Value) (w : World) {t : TypeId} (ht : (Go.sizeOf t).run Try.prog w = .ok 1 w) (h1 : v.cells = #[v]) (h2 : v.oneCell' = true) (hc : w.cell? ⟨b, off, none⟩ = some u0) (hfz : w.frozen? ⟨b, off, none⟩ = false) (o : Oper) (a x : Operand) (ho : o.op = .store t a x) (ρ : Operand → Value) (ha : ρ a = .pointer (some ⟨b, off, none⟩)) (hx : ρ x = v) :
    (execOp ρ o).run Try.prog w = .ok .skip (w.setCell ⟨b, off, none⟩ v) := by
  simp [execOp, ho, ha, hx, Instr.storeAt, Instr.sureAddr, storeVar, ht, h1, storeCells, Addr.add_zero', run_store _ _ _ _ _ h2, stored, hc, hfz]
theorem tab63 : tab 63 = some { desc := .ptr 66, sz := 1, bytes := 8, zero := [.pointer none], eq := false, lv := [none] } := rfl
theorem F72_at (base : Nat) (σ : Store) (id : Nat) (x : AV) (h : σ.ob id = some ⟨2, false, false, [[.slf id, x]]⟩) : CallOK E base 72 [.tptr id 66] σ (.tup []) σ (some id) := by
  refine ⟨StGo.refl σ, (fun h => by cases h), ⟨_, Try.func72, rfl, by decide⟩, fun c us hI hG hus => ⟨fun _ _ _ => rfl, ?_⟩⟩
  obtain ⟨u, rfl⟩ : ∃ u, us = [u] := by
    have := hus.1
    cases us with
    | nil => simp at this
    | cons a l => cases l with
      | nil => exact ⟨a, rfl⟩
      | cons _ _ => simp at this
  have hu := hus.2 0 _ u rfl rfl
  cases hu with
  | tptr L hm ho ht =>
    have hok := hI.core.obj id _ L h hm
    obtain ⟨arr, T, h1, h2, h3⟩ := hok.mem
    have hty := (tyOf_cells h1).symm.trans ht
    simp only [Option.some.injEq, Prod.mk.injEq] at hty
    obtain ⟨rfl, has⟩ := hty
    have hsz : L.sz = 2 := hok.sz
    obtain ⟨u0, hu0, hr0, _⟩ := h3 0 _ 0 _ rfl rfl
    have hc : c.w.cell? ⟨L.b, 0, none⟩ = some u0 := by rw [cell_of h1]; rw [← hu0]; congr 1; omega
    have hsh : c.w.shape? L.b = some (66, 2) := by simp [World.shape?, h1]; omega
    have hfz : c.w.frozen? ⟨L.b, 0, none⟩ = false := by simp [World.frozen?, h1]
    cases hr0 with
    | slf0 =>
      refine (cc_fresh L.b c.w hc hsh hfz).mono ?_
      rintro e w' ⟨rfl, rfl⟩
      have hst : evStore E.T σ 63 (.ptr id 0 0) (.slf id) = some ⟨.junk, σ.put id (some ⟨2, false, false, [[.slf id, x]]⟩), some id, true⟩ := by
        simp [evStore, show E.T = tab from rfl, tab63, h, cells, leaf, putAt, pl]
      have hρ : ∀ y : Operand, Rep c ((fun y => match y with | .tmp 0 => .ptr id 0 0 | .tmp 1 => .slf id | _ => .junk) y) ((fun y => match y with | .tmp 0 => .pointer (some ⟨L.b, L.o + 0 * L.sz + 0, none⟩) | .tmp 1 => .pointer (some ⟨L.b, 0, none⟩) | _ => undef) y) := fun y => by
        dsimp only
        split
        · exact .ptr L hm
        · exact .slf L hm ho
        · exact .junk
      obtain ⟨u, c', hrun, hext, hinv, _, hfr⟩ := simB_store tabOK hI hρ { dst := none, op := .store 63 (.tmp 0) (.tmp 1), type := 0, pos := "", after := #[], guard := none } 63 (.tmp 0) (.tmp 1) rfl hst
      have hrun' := store1_run L.b 0 (.pointer (some ⟨L.b, 0, none⟩)) (.pointer none) c.w (t := 63) (siz tabOK tab63 c.w) rfl rfl hc hfz { dst := none, op := .store 63 (.tmp 0) (.tmp 1), type := 0, pos := "", after := #[], guard := none } (.tmp 0) (.tmp 1) rfl (fun y => match y with | .tmp 0 => .pointer (some ⟨L.b, L.o + 0 * L.sz + 0, none⟩) | .tmp 1 => .pointer (some ⟨L.b, 0, none⟩) | _ => undef) (by simp [ho]) rfl
      rw [hrun'] at hrun
      have hσ : σ.put id (some ⟨2, false, false, [[.slf id, x]]⟩) = σ := by
        cases σ; simp only [Store.put, Store.mk.injEq, true_and]; funext j
        by_cases hj : j = id
        · subst hj; simpa using h.symm
        · simp [hj]
      rw [hσ] at hinv
      rcases hrun with hrun | ⟨hrun, _⟩
      · cases hrun
      · injection hrun with _ hw
        exact .inl ⟨.tuple #[], c', rfl, hw.symm, hext, hinv, .tup rfl (fun j x u h _ => by simp [import2L] at h), hfr⟩
    | slf L' hm' ho' =>
      rw [hm] at hm'; cases hm'
      refine (cc_used L.b c.w hc).mono ?_
      rintro e w' ⟨rfl, rfl⟩
      exact .inl ⟨.tuple #[], c, rfl, rfl, Ext.refl c, hI, .tup rfl (fun j x u h _ => by simp [import2L] at h), Fr.refl _ _ _⟩
end Go.Bx.Dat

/- strings.Builder's String: by hand, for it looks at its buffer's type. (Own text.) -/
namespace Go.Bx.Dat
set_option linter.unusedVariables false
set_option linter.unusedSimpArgs false
set_option linter.unusedSectionVars false
open Go.Proofs Go.RowKit
set_option linter.unusedVariables false
set_option linter.unusedSimpArgs false
theorem byte_cells : Try.prog.cellsOf 5 = 1 := by kernel_rfl
theorem us_none (W : World) (q : Option Addr) : (Builtin.unsafeString_ #[94, 3] 9 #[.pointer q, .int .i64 0]).run Try.prog W = .ok (.string .empty) W :=
  Lib.run_unsafeString_none W _ _ _ q
set_option maxHeartbeats 2000000 in
set_option maxRecDepth 100000 in
theorem str_row (b g : Nat) (s : Str) (cap : Nat) (cur : Array Value) (w : World) (h0 : s ≠ []) (hn : s.length ≤ cap) (hm : s.length ≤ 9223372036854775807) (hcs : cur.size = cap)
    (hb : w.cell? ⟨b, 1, none⟩ = some (.slice (some ⟨g, 0, none⟩) s.length cap)) (hg : w.heap[g]? = some (.cells cur 5 (0, 0))) (hc : ∀ (j : Nat) x, s[j]? = some x → cur[j]? = some (.int .u8 x.toNat)) :
    Calls Try.prog 31 #[.pointer (some ⟨b, 0, none⟩)] w fun e w' => e = .returned (.string (mkS s)) ∧ FzOK w w' g := by
  have hl0 : s.length ≠ 0 := by simpa using h0
  have c1 : w.drew.cell? ⟨b, 1, none⟩ = some (.slice (some ⟨g, 0, none⟩) s.length cap) := hb
  have hSD : (Builtin.unsafeSliceData_ #[64] 94 #[.slice (some ⟨g, 0, none⟩) s.length cap]).run Try.prog w.drew = .ok (.pointer (some ⟨g, 0, none⟩)) w.drew :=
    Lib.run_unsafeSliceData_row _ _ _ _ _ _ (by omega)
  have hg' : w.drew.heap[g]? = some (.cells cur 5 (0, 0)) := hg
  have hUS : (Builtin.unsafeString_ #[94, 3] 9 #[.pointer (some ⟨g, 0, none⟩), .int .i64 s.length]).run Try.prog w.drew = .ok (.string ⟨s.toArray⟩) (w.drew.freeze ⟨g, 0, none⟩ s.length) := by
    refine Lib.run_unsafeString_row w.drew 94 3 9 5 Try.underlying94 byte_cells g cur.size (by simp [World.shape?, hg']) s h0 (by omega) hm ?_
    intro j x hx
    rw [Addr.add_lit, Nat.zero_add, cell_of hg']; exact hc j x hx
  have hF : FzOK w (w.drew.freeze ⟨g, 0, none⟩ s.length) g := by
    have h := FzOK.freeze (w := w.drew) hg' s.length
    exact ⟨h.other, h.cell, h.ty, h.size, h.os, h.tape, h.output⟩
  go_enter Try.func31, Try.ntmps31
  go_wp2
  go_region
  all_goals (go_wp2; go_ret; exact ⟨rfl, hF⟩)
set_option maxHeartbeats 2000000 in
set_option maxRecDepth 100000 in
theorem str_nil (b : Nat) (w : World) (hb : w.cell? ⟨b, 1, none⟩ = some (.slice none 0 0)) :
    Calls Try.prog 31 #[.pointer (some ⟨b, 0, none⟩)] w fun e w' => e = .returned (.string ⟨#[]⟩) ∧ Below w.heap.size w w' := by
  have hUS := us_none
  have c1 : w.drew.cell? ⟨b, 1, none⟩ = some (.slice none 0 0) := hb
  have hSD : (Builtin.unsafeSliceData_ #[64] 94 #[.slice none 0 0]).run Try.prog w.drew = .ok (.pointer none) w.drew := rfl
  go_enter Try.func31, Try.ntmps31
  go_wp2
  go_region
  all_goals (go_wp2; go_ret; exact ⟨rfl, Below.drew (Below.refl _ w)⟩)
set_option maxHeartbeats 2000000 in
set_option maxRecDepth 100000 in
theorem str_room (b g cap : Nat) (w : World) (hc0 : cap ≠ 0) (hb : w.cell? ⟨b, 1, none⟩ = some (.slice (some ⟨g, 0, none⟩) 0 cap)) :
    Calls Try.prog 31 #[.pointer (some ⟨b, 0, none⟩)] w fun e w' => e = .returned (.string ⟨#[]⟩) ∧ Below w.heap.size w w' := by
  have hUS := us_none
  have c1 : w.drew.cell? ⟨b, 1, none⟩ = some (.slice (some ⟨g, 0, none⟩) 0 cap) := hb
  have hSD : (Builtin.unsafeSliceData_ #[64] 94 #[.slice (some ⟨g, 0, none⟩) 0 cap]).run Try.prog w.drew = .ok (.pointer (some ⟨g, 0, none⟩)) w.drew :=
    Lib.run_unsafeSliceData_row _ _ _ _ _ _ hc0
  clear hc0
  go_enter Try.func31, Try.ntmps31
  go_wp2
  go_region
  all_goals (go_wp2; go_ret; exact ⟨rfl, Below.drew (Below.refl _ w)⟩)
set_option maxHeartbeats 2000000 in
set_option maxRecDepth 100000 in
theorem str_noroom (b g : Nat) (cur : Array Value) (w : World) (hlt : b < w.heap.size) (hb : w.cell? ⟨b, 1, none⟩ = some (.slice (some ⟨g, 0, none⟩) 0 0)) (hg : w.heap[g]? = some (.cells cur 5 (0, 0))) :
    Calls Try.prog 31 #[.pointer (some ⟨b, 0, none⟩)] w fun e w' => e = .returned (.string ⟨#[]⟩) ∧ Below w.heap.size w w' := by
  have hUS := us_none
  have c1 : w.drew.cell? ⟨b, 1, none⟩ = some (.slice (some ⟨g, 0, none⟩) 0 0) := hb
  have hSD : (Builtin.unsafeSliceData_ #[64] 94 #[.slice (some ⟨g, 0, none⟩) 0 0]).run Try.prog w.drew = .ok (.pointer (some ⟨w.drew.heap.size, 0, none⟩)) (w.drew.alloc (.view ⟨g, 0, none⟩ 5)) :=
    Lib.run_unsafeSliceData_zero w.drew _ _ 5 Try.underlying94 ⟨g, 0, none⟩ 0 (5, cur.size) (by have hg' : w.drew.heap[g]? = some (.cells cur 5 (0, 0)) := hg; simp [World.shape?, hg'])
  have c2 : (w.drew.alloc (.view ⟨g, 0, none⟩ 5)).cell? ⟨b, 1, none⟩ = some (.slice (some ⟨g, 0, none⟩) 0 0) := (cell_alloc_old (w := w.drew) _ hlt).trans hb
  have c3 : (w.alloc (.view ⟨g, 0, none⟩ 5)).drew.cell? ⟨b, 1, none⟩ = some (.slice (some ⟨g, 0, none⟩) 0 0) := c2
  go_enter Try.func31, Try.ntmps31
  go_wp2
  go_region
  all_goals (go_wp2; go_ret; exact ⟨rfl, (Below.drew (Below.refl _ w)).alloc (Nat.le_refl _) _⟩)

/-- (*strings.Builder).String -/
def F31 (l : List Int) : Option Str := if bts (stb l) = l ∧ l.length ≤ 9223372036854775807 then some (stb l) else none
theorem F31_at (base : Nat) (σ : Store) (id j : Nat) (l : List Int) (r : Str) (h : F31 l = some r) (o1 : σ.ob id = some ⟨2, false, false, [[.slf id, .trow j 5 l.length]]⟩) (o2 : σ.ob j = some ⟨1, false, true, List.map (cInt .u8) l⟩) :
    CallOK E base 31 [.tptr id 66] σ (.v (.string (mkS r))) (σ.put j none) (some j) := by
  have hl : bts r = l ∧ r.length ≤ 9223372036854775807 := by
    unfold F31 at h
    split at h
    · rename_i hc; cases h; exact ⟨hc.1, by rw [← bts_length, hc.1]; exact hc.2⟩
    · cases h
  obtain ⟨rfl, hmax⟩ := hl
  refine ⟨StGo.drop _ _, (fun h => by cases h), ⟨_, Try.func31, rfl, by decide⟩, fun c us hI hG hus => ?_⟩
  obtain ⟨u, rfl⟩ : ∃ u, us = [u] := by
    have := hus.1
    cases us with
    | nil => simp at this
    | cons a l => cases l with
      | nil => exact ⟨a, rfl⟩
      | cons _ _ => simp at this
  have hu := hus.2 0 _ u rfl rfl
  cases hu with
  | tptr L hm ho ht =>
    have hok := hI.core.obj id _ L o1 hm
    obtain ⟨arr, T, q1, q2, q3⟩ := hok.mem
    have hsz : L.sz = 2 := hok.sz
    obtain ⟨u1, hu1, hr1, _⟩ := q3 0 _ 1 _ rfl rfl
    have hc : c.w.cell? ⟨L.b, 1, none⟩ = some u1 := by rw [cell_of q1]; rw [← hu1]; congr 1; omega
    have hlt : L.b < c.w.heap.size := hI.core.b_lt o1 hm
    generalize hn : (bts r).length = n at hr1
    cases hr1 with
    | trow K hmk hk1 hk2 hk3 hk4 hk5 =>
      rename_i cap
      refine ⟨fun i _ hi => ?_, ?_⟩
      · show (σ.put j none).ob i = _
        simp only [Store.put]
        by_cases hij : i = j
        · subst hij; rw [hmk] at hi; cases hi
        · rw [if_neg hij]
      have hok2 := hI.core.obj j _ K o2 hmk
      obtain ⟨arr2, T2, p1, p2, p3⟩ := hok2.mem
      have hty := (tyOf_cells p1).symm.trans hk3
      simp only [Option.some.injEq, Prod.mk.injEq] at hty
      obtain ⟨rfl, has⟩ := hty
      have hrn : r.length = n := by rw [← hn, bts_length]
      have fin : ∀ w', FzOK c.w w' K.b → ∃ v c', Ending.returned (.string (mkS r)) = .returned v ∧ c'.w = w' ∧ Ext c c' ∧ Inv (importAV (σ.put j none) (.v (.string (mkS r)))).2 c' base ∧ Rep c' (importAV (σ.put j none) (.v (.string (mkS r)))).1 v ∧ Fr c σ (some j) c' := fun w' hF => by
        obtain ⟨e1, e2, e3⟩ := hF.inv hI o2 hmk
        exact ⟨_, _, rfl, rfl, e1, e2, .v _, e3⟩
      by_cases h0 : r = []
      · subst h0
        have hn0 : n = 0 := by rw [← hrn]; rfl
        subst hn0
        by_cases hcap : cap = 0
        · subst hcap
          refine (str_noroom L.b K.b arr2 c.w hlt hc p1).mono ?_
          rintro e w' ⟨rfl, hB⟩
          exact .inl (fin w' (.below hB))
        · refine (str_room L.b K.b cap c.w hcap hc).mono ?_
          rintro e w' ⟨rfl, hB⟩
          exact .inl (fin w' (.below hB))
      · refine (str_row L.b K.b r cap arr2 c.w h0 (by omega) hmax (by omega) (by rw [hrn]; exact hc) p1 (fun k x hx => ?_)).mono ?_
        · obtain ⟨v, a1, a2, _⟩ := p3 k [.v (.int .u8 x.toNat)] 0 _ (by simp [bts, hx, cInt]) rfl
          cases a2
          rw [← a1]; congr 1; rw [hk2, hk1]; omega
        · rintro e w' ⟨rfl, hF⟩
          exact .inl (fin w' hF)
    | trow0 hmk =>
      refine ⟨fun i _ hi => ?_, ?_⟩
      · show (σ.put j none).ob i = _
        simp only [Store.put]
        by_cases hij : i = j
        · subst hij; rw [hmk] at hi; cases hi
        · rw [if_neg hij]
      have h0 : r = [] := by
        have : r.length = 0 := by rw [← bts_length]; exact hn
        exact List.eq_nil_of_length_eq_zero this
      subst h0
      refine (str_nil L.b c.w hc).mono ?_
      rintro e w' ⟨rfl, hB⟩
      obtain ⟨e1, e2, e3⟩ := FzOK.inv0 (j := j) hI hB
      exact .inl ⟨_, _, rfl, rfl, e1, e2, .v _, e3⟩
end Go.Bx.Dat

/- strings.Builder's Len: by hand. (Own text.) -/
namespace Go.Bx.Dat
set_option linter.unusedVariables false
set_option linter.unusedSimpArgs false
set_option linter.unusedSectionVars false
open Go.Proofs Go.RowKit
set_option linter.unusedVariables false
set_option maxHeartbeats 1000000 in
set_option maxRecDepth 100000 in
theorem len_row (b : Nat) (p : Option Addr) (n cap : Nat) (w : World) (hb : w.cell? ⟨b, 1, none⟩ = some (.slice p n cap)) :
    Calls Try.prog 52 #[.pointer (some ⟨b, 0, none⟩)] w fun e w' => e = .returned (.int .i64 n) ∧ w' = w := by
  go_enter Try.func52, Try.ntmps52
  go_wp2
  go_ret
  exact ⟨rfl, rfl⟩
theorem F52_at (base : Nat) (σ : Store) (id j n : Nat) (o1 : σ.ob id = some ⟨2, false, false, [[.slf id, .trow j 5 n]]⟩) : CallOK E base 52 [.tptr id 66] σ (.v (.int .i64 n)) σ (some id) := by
  refine ⟨StGo.refl σ, (fun h => by cases h), ⟨_, Try.func52, rfl, by decide⟩, fun c us hI hG hus => ⟨fun _ _ _ => rfl, ?_⟩⟩
  obtain ⟨u, rfl⟩ : ∃ u, us = [u] := by
    have := hus.1
    cases us with
    | nil => simp at this
    | cons a l => cases l with
      | nil => exact ⟨a, rfl⟩
      | cons _ _ => simp at this
  have hu := hus.2 0 _ u rfl rfl
  cases hu with
  | tptr L hm ho ht =>
    have hok := hI.core.obj id _ L o1 hm
    obtain ⟨arr, T, q1, q2, q3⟩ := hok.mem
    have hsz : L.sz = 2 := hok.sz
    obtain ⟨u1, hu1, hr1, _⟩ := q3 0 _ 1 _ rfl rfl
    have hc : c.w.cell? ⟨L.b, 1, none⟩ = some u1 := by rw [cell_of q1]; rw [← hu1]; congr 1; omega
    have fin : ∀ (m : Nat), m = n → ∃ v c', Ending.returned (.int .i64 m) = .returned v ∧ c'.w = c.w ∧ Ext c c' ∧ Inv (importAV σ (.v (.int .i64 n))).2 c' base ∧ Rep c' (importAV σ (.v (.int .i64 n))).1 v ∧ Fr c σ (some id) c' := fun m hm => by
      subst hm; exact ⟨_, c, rfl, rfl, Ext.refl c, hI, .v _, Fr.refl _ _ _⟩
    cases hr1 with
    | trow K hmk hk1 hk2 hk3 hk4 hk5 =>
      refine (len_row L.b _ _ _ c.w hc).mono ?_
      rintro e w' ⟨rfl, rfl⟩
      exact .inl (fin _ rfl)
    | trow0 hmk =>
      refine (len_row L.b _ _ _ c.w hc).mono ?_
      rintro e w' ⟨rfl, rfl⟩
      exact .inl (fin _ rfl)
end Go.Bx.Dat
