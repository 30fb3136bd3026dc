/- What the program's functions compute, shown of their code (Wc). Own text; parts are printed by a program of this claim's author. -/
import Derived.Test.YtbbeidhijbemlaaWb
import Derived.RangeFuncBox
import Derived.RangeFuncNested
import Derived.RangeFuncLeaves
import Derived.Shelf.Abstract
import Derived.WalkKit
import Derived.OwnWalkIn
import Derived.TacticsInMore
import Derived.LoopNIn
import Derived.LoopIn
import Derived.Test.YtbbeidhijbemlaaChecked
/- slices.Backward over frames: its contract. (Own text, turned from the guide's example on slices.All.) -/
namespace Go.Proofs
set_option linter.unusedVariables false
set_option linter.unusedSimpArgs false
set_option linter.unusedSectionVars false
open Go.RowKit Go.Shelf
attribute [local go_sem] Oper.semAt_some

def Nb.upto {α : Type} (f : Nat → α) (k : Nat) : List α := (List.range k).map f
theorem Nb.upto_succ {α : Type} (f : Nat → α) (k : Nat) : Nb.upto f (k + 1) = Nb.upto f k ++ [f k] := by simp [Nb.upto, List.range_succ]
theorem Nb.upto_length {α : Type} (f : Nat → α) (k : Nat) : (Nb.upto f k).length = k := by simp [Nb.upto]

abbrev Nb.El := Int × Int × (Option Addr × Nat × Nat)
def Nb.hs (x : Nb.El) : Value := .slice x.2.2.1 x.2.2.2.1 x.2.2.2.2
def Nb.agg (x : Nb.El) : Value := .agg #[.int .i64 x.1, .int .i64 x.2.1, Nb.hs x]
/-- What may come. -/
abbrev Nb.At (zs : List Nb.El) := { x : Nat × Nb.El // zs[x.1]? = some x.2 }
/-- What comes in round k. -/
def Nb.at (zs : List Nb.El) (k : Nat) : Nat × Nb.El := (zs.length - 1 - k, (zs[zs.length - 1 - k]?).getD (0, 0, none, 0, 0))

set_option maxRecDepth 100000 in
set_option maxHeartbeats 2000000 in
theorem Nb.back1_in (F : Fence) (n : Nat) (h28 : F.fn 28) (hro : F.round = none) (hn : 1 ≤ n) (l Bs n₀ b off cap : Nat) (A : Option Addr) (zs : List Nb.El) (hreach : zs.length * 40 ≤ 140737488355328) (hA : zs ≠ [] → A = some ⟨b, off, none⟩ ∧ b < n₀) (J Jx : List (Nb.At zs) → World → Prop)
    (hY : ∀ pre x W, J pre W → pre.length < zs.length → YieldAt F (n - 1) Try.prog l #[.int .i64 (x.1.1 : Int), Nb.agg x.1.2] W fun e W' =>
      (e = .returned (.bool true) ∧ J (pre ++ [x]) W' ∧ Below n₀ W W') ∨ (e = .returned (.bool false) ∧ Jx (pre ++ [x]) W'))
    (W : World) (hBs : W.cell? ⟨Bs, 0, none⟩ = some (.slice A zs.length cap)) (hBn : Bs < n₀)
    (hc : ∀ (j : Nat) (x : Nb.El), zs[j]? = some x → W.cell? ⟨b, off + j * 3, none⟩ = some (.int .i64 x.1) ∧ W.cell? ⟨b, off + j * 3 + 1, none⟩ = some (.int .i64 x.2.1) ∧ W.cell? ⟨b, off + j * 3 + 2, none⟩ = some (Nb.hs x)) (h0 : J [] W) :
    CallsIn F n Try.prog 28 #[.func (.yield l) #[] #[], .pointer (some ⟨Bs, 0, none⟩)] W fun e W' => (∃ v, e = .returned v) ∧
      ((∃ ys, ys.map (·.1) = Nb.upto (Nb.at zs) zs.length ∧ J ys W') ∨ (∃ pre, (∃ k, k ≤ zs.length ∧ pre.map (·.1) = Nb.upto (Nb.at zs) k) ∧ Jx pre W')) := by
  refine callsIn_of_wp Try.func28 rfl h28 ?_ hro
  simp only [Try.ntmps28, List.size_toArray, List.length_cons, List.length_nil, Nat.reduceAdd, Nat.reduceSub, Array.replicate_succ, Array.replicate_zero, List.push_toArray, List.append_toArray, List.nil_append, List.cons_append]
  gi_wp2
  gi_loopw [3] (fun i wr => ∃ (k : Nat) (pre : List (Nb.At zs)), k ≤ zs.length ∧ i = .int .i64 ((zs.length : Int) - 1 - k) ∧ pre.map (·.1) = Nb.upto (Nb.at zs) k ∧ J pre wr ∧ Below n₀ W wr)
    (fun i _ => (intOf i + 1).toNat)
  case atStart => exact ⟨0, [], Nat.zero_le _, by simp [go_sem], rfl, h0, Below.refl _ _⟩
  case round =>
    obtain ⟨k, pre, hk, rfl, hpre, hJs, hnx⟩ := hrel
    have hpl : pre.length = k := by have := congrArg List.length hpre; simpa [Nb.upto_length] using this
    have hBs' : wr.cell? ⟨Bs, 0, none⟩ = some (.slice A zs.length cap) := (hnx.cell (p := ⟨Bs, 0, none⟩) hBn).trans hBs
    by_cases hlt : k < zs.length
    · have hne : zs ≠ [] := fun h => by rw [h] at hlt; simp at hlt
      obtain ⟨rfl, hbn⟩ := hA hne
      obtain ⟨j, hj⟩ : ∃ j : Nat, j = zs.length - 1 - k := ⟨_, rfl⟩
      have hjl : j < zs.length := by omega
      have hij : (zs.length : Int) - 1 - k = (j : Int) := by omega
      have hx : zs[j]? = some zs[j] := by simp [hjl]
      obtain ⟨hc1, hc2, hc3⟩ := hc j _ hx
      have hc1' := (hnx.cell (p := ⟨b, off + j * 3, none⟩) hbn).trans hc1
      have hc2' := (hnx.cell (p := ⟨b, off + j * 3 + 1, none⟩) hbn).trans hc2
      have hc3' := (hnx.cell (p := ⟨b, off + j * 3 + 2, none⟩) hbn).trans hc3
      have hat : Nb.at zs k = (j, zs[j]) := by simp [Nb.at, ← hj, hx]
      obtain ⟨fn, tmps, assign, body, hy, hR⟩ := hY pre ⟨(j, zs[j]), hx⟩ wr hJs (by rw [hpl]; exact hlt)
      simp only [Nb.agg, Nb.hs] at hy hc3'
      have hjk : k + 1 + j = zs.length := by omega
      rw [hij]
      clear hj hij hc1 hc2 hc3 hBs
      generalize zs[j] = z at *
      gi_wp2
      refine hR.mono ?_
      rintro e W3 (⟨rfl, hJ3, hk3⟩ | ⟨rfl, hJx3⟩)
      · gi_wp2
        go_roundw
        case rel => exact ⟨k + 1, pre ++ [⟨(j, z), hx⟩], by omega, (by simp; try omega), by rw [Nb.upto_succ, hat, List.map_append, hpre]; rfl, hJ3, hnx.trans hk3⟩
        case measure => simp [intOf]; try omega
      · gi_wp2
        refine bodyPost_ret (results_none rfl _ _ _) rfl ?_
        exact ⟨⟨_, rfl⟩, .inr ⟨_, ⟨k + 1, by omega, by rw [Nb.upto_succ, hat, List.map_append, hpre]; rfl⟩, hJx3⟩⟩
    · obtain rfl : k = zs.length := by omega
      gi_wp2
      go_end0
      exact ⟨⟨_, rfl⟩, .inl ⟨_, hpre, hJs⟩⟩

set_option maxHeartbeats 1000000 in
theorem Nb.back_in (F : Fence) (n : Nat) (h27 : F.fn 27) (hro : F.round = none) (a : Option Addr) (len cap : Nat) (w : World) :
    CallsIn F n Try.prog 27 #[.slice a len cap] w fun e w' => e = .returned (.func (.func 28) #[] #[.pointer (some ⟨w.heap.size, 0, none⟩)]) ∧ w' = w.alloc (.cells #[.slice a len cap] 22) := by
  refine callsIn_of_wp Try.func27 rfl h27 ?_ hro
  simp only [Try.ntmps27, List.size_toArray, List.length_cons, List.length_nil, Nat.reduceAdd, Nat.reduceSub, Array.replicate_succ, Array.replicate_zero, List.push_toArray, List.append_toArray, List.nil_append, List.cons_append]
  gi_wp2
  go_ret
  exact ⟨rfl, rfl⟩

/-- The slice value sv holds the elements zs, in a block below n₀. -/
def Nb.Els (n₀ : Nat) (W : World) (sv : Value) (zs : List Nb.El) : Prop :=
  ∃ A b off cap, sv = .slice A zs.length cap ∧ (zs ≠ [] → A = some ⟨b, off, none⟩ ∧ b < n₀) ∧
    ∀ (j : Nat) (x : Nb.El), zs[j]? = some x → W.cell? ⟨b, off + j * 3, none⟩ = some (.int .i64 x.1) ∧ W.cell? ⟨b, off + j * 3 + 1, none⟩ = some (.int .i64 x.2.1) ∧ W.cell? ⟨b, off + j * 3 + 2, none⟩ = some (Nb.hs x)
theorem Nb.Els.below {n₀ : Nat} {A B : World} (h : Below n₀ A B) {sv : Value} {zs : List Nb.El} (k : Nb.Els n₀ A sv zs) : Nb.Els n₀ B sv zs := by
  obtain ⟨D, b, off, cap, e, hb, hc⟩ := k
  refine ⟨D, b, off, cap, e, hb, fun j x hj => ?_⟩
  have hne : zs ≠ [] := fun h => by rw [h] at hj; simp at hj
  obtain ⟨h1, h2, h3⟩ := hc j x hj
  have hlt := (hb hne).2
  exact ⟨(h.cell (p := ⟨b, off + j * 3, none⟩) hlt).trans h1, (h.cell (p := ⟨b, off + j * 3 + 1, none⟩) hlt).trans h2, (h.cell (p := ⟨b, off + j * 3 + 2, none⟩) hlt).trans h3⟩

theorem Nb.back_stops (F : Fence) (n : Nat) (h28 : F.fn 28) (hro : F.round = none) (hn : 1 ≤ n) (Bs n₀ : Nat) (sv : Value) (zs : List Nb.El) (hreach : zs.length * 40 ≤ 140737488355328) (w : World) (hBs : Bs < n₀) (hn₀ : n₀ ≤ w.heap.size)
    (hc : w.cell? ⟨Bs, 0, none⟩ = some sv) (hI : Nb.Els n₀ w sv zs) :
    SeqStopsK F n Try.prog 28 #[.pointer (some ⟨Bs, 0, none⟩)] (fun x : Nb.At zs => #[Value.int .i64 (x.1.1 : Int), Nb.agg x.1.2]) (Below n₀) (fun ys => ys.map (·.1) = Nb.upto (Nb.at zs) zs.length)
      (fun pre => ∃ k, k ≤ zs.length ∧ pre.map (·.1) = Nb.upto (Nb.at zs) k) zs.length w := fun l J Jx W hW _ _ hY h0 => by
  have hc' := (hW.cell (p := ⟨Bs, 0, none⟩) (Nat.lt_of_lt_of_le hBs hn₀)).trans hc
  obtain ⟨D, b, off, cap, rfl, hb, hcs⟩ := hI.below (hW.mono hn₀)
  exact Nb.back1_in F n h28 hro hn l Bs n₀ b off cap D zs hreach hb J Jx hY W hc' hBs hcs h0

end Go.Proofs

/- wind.Nearest, on the machine. (Own text, turned from the guide's example.) -/
namespace Go.Proofs
set_option linter.unusedVariables false
set_option linter.unusedSimpArgs false
set_option linter.unusedSectionVars false
open Go.RowKit Go.Shelf
attribute [local go_sem] Oper.semAt_some

theorem Nb.Els.le {n₀ n₁ : Nat} (h : n₀ ≤ n₁) {W : World} {sv : Value} {zs : List Nb.El} (k : Nb.Els n₀ W sv zs) : Nb.Els n₁ W sv zs := by
  obtain ⟨D, b, off, cap, e, hb, hc⟩ := k
  exact ⟨D, b, off, cap, e, fun hne => ⟨(hb hne).1, Nat.lt_of_lt_of_le (hb hne).2 h⟩, hc⟩
theorem Nb.sizeFrom {β : Type} (B n : Nat) : OwnFrom B (fun (_ : β) W => n ≤ W.heap.size) := fun s A C row hs hg hr => Nat.le_trans hs hg.size
theorem Nb.boxFrom {β : Type} (B b : Nat) (t : TypeId) (f : β → Value) : OwnFrom B (fun s W => Boxed W b t (f s)) := (boxed_own b t f).from B

set_option maxRecDepth 100000 in
set_option maxHeartbeats 4000000 in
theorem Nb.near_in (F : Fence) (hF : ∀ f, F.fn f) (n : Nat) (hro : F.round = none) (hn : 4 ≤ n) (a : Option Addr) (len cap : Nat) (zs : List Nb.El) (hreach : zs.length * 40 ≤ 140737488355328) (w : World) (hI : Nb.Els w.heap.size w (.slice a len cap) zs)
    (R : Value → Value → World → Prop)
    (hR : ∀ hs v W W' row, R hs v W → W.grownBy W' row → (∀ r, row = some r → w.heap.size + 2 ≤ r → ∃ o : Obj, W.heap[r]? = some o ∧ o.isCells = false) → R hs v W')
    (hcl : ∀ (W : World) (m : Nat), 1 ≤ m → Below w.heap.size w W → w.heap.size + 3 ≤ W.heap.size → ∀ x ∈ zs, CallsIn F m Try.prog 25 #[Nb.hs x] W (fun e W' => ∃ A m c, e = .returned (.slice A m c) ∧ R (Nb.hs x) (.slice A m c) W' ∧ Below W.heap.size W W')) :
    CallsIn F n Try.prog 20 #[.slice a len cap] w fun e W' => Below w.heap.size w W' ∧
      ((e = .returned (.tuple #[.slice none 0 0, .int .i64 (-1)]) ∧ ∀ x ∈ zs, x.1 ≠ 3) ∨
        (∃ (k : Nat) (x : Nb.El) (v : Value), zs[k]? = some x ∧ x.1 = 3 ∧ (∀ j y, k < j → zs[j]? = some y → y.1 ≠ 3) ∧ e = .returned (.tuple #[v, .int .i64 k]) ∧ R (Nb.hs x) v W')) := by
  have h1 : 1 ≤ n := by omega
  refine callsIn_of_wp_marks Try.func20 rfl (hF 20) ?_ hro
  simp only [Try.ntmps20, List.size_toArray, List.length_cons, List.length_nil, Nat.reduceAdd, Nat.reduceSub, Array.replicate_succ, Array.replicate_zero, List.push_toArray, List.append_toArray, List.nil_append, List.cons_append]
  gi_wp2_with (gi_at_call 27; refine (Nb.back_in F (n - 1) (hF 27) hro _ _ _ _).mono ?_; rintro e w' ⟨rfl, rfl⟩)
  have bR := Boxed.new w 25 (.slice none 0 0)
  have bK := Boxed.new (w.alloc (.cells #[.slice none 0 0] 25)) 3 (.int .i64 0)
  have bN := Boxed.new ((w.alloc (.cells #[.slice none 0 0] 25)).alloc (.cells #[.int .i64 0] 3)) 22 (.slice a len cap)
  rw [World.size_alloc] at bK
  rw [World.size_alloc, World.size_alloc] at bN
  have bR3 := (bR.alloc (.cells #[.int .i64 0] 3)).alloc (.cells #[.slice a len cap] 22)
  have bK3 := bK.alloc (.cells #[.slice a len cap] 22)
  have hB0 : Below w.heap.size w (((w.alloc (.cells #[.slice none 0 0] 25)).alloc (.cells #[.int .i64 0] 3)).alloc (.cells #[.slice a len cap] 22)) := (((Below.refl _ w).alloc (Nat.le_refl _) _).alloc (by simp) _).alloc (by simp; omega) _
  have hsz : (((w.alloc (.cells #[.slice none 0 0] 25)).alloc (.cells #[.int .i64 0] 3)).alloc (.cells #[.slice a len cap] 22)).heap.size = w.heap.size + 3 := by simp
  generalize (((w.alloc (.cells #[.slice none 0 0] 25)).alloc (.cells #[.int .i64 0] 3)).alloc (.cells #[.slice a len cap] 22)) = w3 at *
  refine wpIn_rangeFunc_ownH (α := Nb.At zs) hro h1 (gf := 28) (lb := #[.pointer (some ⟨w.heap.size + 1 + 1, 0, none⟩)]) rfl (hF 28) (enters_of Try.func28 (by kernel_rfl) rfl)
    (Nb.back_stops F (n - 1) (hF 28) hro (by omega) (w.heap.size + 1 + 1) (w.heap.size + 3) _ zs hreach w3 (by omega) (by omega) bN.cell ((hI.below hB0).le (by omega))) belowK_t (belowK_b (by omega)) (Below.refl _ _) (fun _ => rfl)
    (fun pre W => ((∀ p ∈ pre, p.1.2.1 ≠ 3) ∧ Boxed W w.heap.size 25 (.slice none 0 0) ∧ Boxed W (w.heap.size + 1) 3 (.int .i64 0) ∧ w.heap.size + 3 ≤ W.heap.size) ∧ Below w.heap.size w W)
    (fun c pre W => (c = .ret ∧ ∃ ini last v, pre = ini ++ [last] ∧ (∀ p ∈ ini, p.1.2.1 ≠ 3) ∧ last.1.2.1 = 3 ∧ Boxed W w.heap.size 25 v ∧ Boxed W (w.heap.size + 1) 3 (.int .i64 (last.1.1 : Int)) ∧ R (Nb.hs last.1.2) v W) ∧ Below w.heap.size w W)
    ?hI ?hIx
    ⟨⟨by simp, bR3, bK3, by omega⟩, hB0⟩
    (fun x a' W => ∃ Bx, w.heap.size + 3 ≤ Bx ∧ W.heap[Bx]? = some (.cells #[.int .i64 x.1.2.1, .int .i64 x.1.2.2.1, Nb.hs x.1.2] 44 (0, 0)) ∧ a' = { tmps := #[.slice a len cap, undef, .pointer (some ⟨w.heap.size, 0, none⟩), .pointer (some ⟨w.heap.size + 1, 0, none⟩), .int .i64 (x.1.1 : Int), .pointer (some ⟨Bx, 0, none⟩), .slice a len cap, .func (.func 28) #[] #[.pointer (some ⟨w.heap.size + 1 + 1, 0, none⟩)], .int .i64 (x.1.1 : Int), Nb.agg x.1.2, undef, undef, undef, undef, undef, undef, undef], defers := [] }) ?hAx ?assign ?body ?done ?stop
  case hI => exact OwnFrom.and (fun s A B row hs hg hr => ⟨hs.1, boxed_own _ _ (fun _ => Value.slice none 0 0) s A B row hs.2.1 hg (fun r e => (hr r e).2), boxed_own _ _ (fun _ => Value.int .i64 0) s A B row hs.2.2.1 hg (fun r e => (hr r e).2), Nat.le_trans hs.2.2.2 hg.size⟩) (ownFrom_below (Nat.le_refl _) (by omega))
  case hIx =>
    refine fun c => OwnFrom.and (fun s A B row hs hg hr => ?_) (ownFrom_below (Nat.le_refl _) (by omega))
    obtain ⟨hc, ini, last, v, e1, e2, e3, e4, e5, e6⟩ := hs
    exact ⟨hc, ini, last, v, e1, e2, e3, boxed_own _ _ (fun _ => v) s A B row e4 hg (fun r e => (hr r e).2), boxed_own _ _ (fun _ => Value.int .i64 (last.1.1 : Int)) s A B row e5 hg (fun r e => (hr r e).2), hR _ _ _ _ row e6 hg (fun r e _ => (hr r e).2)⟩
  case hAx =>
    rintro x a' s A B row ⟨Bx, hBx, hb, rfl⟩ hg hr
    refine ⟨Bx, hBx, (hg.block Bx (Array.getElem?_eq_some_iff.1 hb).1 (fun e => ?_)).trans hb, rfl⟩
    obtain ⟨_, o, ho, hcells⟩ := hr Bx e.symm
    rw [hb] at ho; cases ho; cases hcells
  case assign =>
    rintro l pre x W K ⟨⟨hp, hr, hk, hs⟩, hB⟩ hK
    simp only [Nb.agg, Nb.hs] at hK ⊢
    gi_wp2
    exact hK _ _ ((KeepsOthers.alloc _ _).from _) ((Below.refl _ W).alloc (by omega) _) ⟨⟨hp, hr.alloc _, hk.alloc _, by simp; omega⟩, hB.alloc (by omega) _⟩ ⟨W.heap.size, hs, World.alloc_heap_new W _, rfl⟩
  case body =>
    rintro l pre x a' W hl ⟨r, hlr⟩ ⟨⟨hp, hr, hk, hs⟩, hB⟩ ⟨Bx, hBx, hb, rfl⟩ hlt
    have hc0 : W.cell? ⟨Bx, 0, none⟩ = some (.int .i64 x.1.2.1) := by simp [World.cell?, hb]
    have hc2 : W.cell? ⟨Bx, 2, none⟩ = some (Nb.hs x.1.2) := by simp [World.cell?, hb]
    have hxm : x.1.2 ∈ zs := List.mem_of_getElem? x.2
    gi_wp2_with (refine ⟨fun _ => by omega, ?_⟩; refine (CallsIn.inRound l (hcl W (n - 1 - 1 - 1) (by omega) hB hs _ hxm)).mono ?_; rintro e w' ⟨A, m, cc, rfl, hRv, hBv⟩; have hr' : Boxed w' w.heap.size 25 (.slice none 0 0) := (hBv.block _ (by omega)).trans hr; have hk' : Boxed w' (w.heap.size + 1) 3 (.int .i64 0) := (hBv.block _ (by omega)).trans hk; have hrc := hr'.cell; have hrf := hr'.frozen; have hkc := (hk'.other (B' := w.heap.size) (by omega) (.slice A m cc)).cell; have hkf := (hk'.other (B' := w.heap.size) (by omega) (.slice A m cc)).frozen)
    · have hx : x.1.2.1 = 3 := by simp_all
      have hkf0 : KeepsFrom w3.heap.size W w' := ⟨hBv.size, fun k o _ h0 _ => (hBv.block k (Array.getElem?_eq_some_iff.1 h0).1).trans h0⟩
      refine ⟨hkf0.trans (((KeepsOthers.setCell _ _ _).trans (KeepsOthers.setCell _ _ _)).from _), ⟨rfl, pre, x, .slice A m cc, rfl, hp, hx, (hr'.set _).other (by omega) _, (hk'.other (by omega) _).set _, ?_⟩, ?_⟩
      · refine hR _ _ _ _ _ (hR _ _ _ _ _ hRv (grownBy_setCell' _ _ _) (fun r e hr => ?_)) (grownBy_setCell' _ _ _) (fun r e hr => ?_)
        · cases e; omega
        · cases e; omega
      · exact ((hB.trans (hBv.mono hB.size)).setCell (p := ⟨w.heap.size, 0, none⟩) (Nat.le_refl _) _).setCell (p := ⟨w.heap.size + 1, 0, none⟩) (Nat.le_succ _) _
    · have hx : x.1.2.1 ≠ 3 := by simp_all
      exact ⟨KeepsFrom.refl _ _, Below.refl _ _, ⟨fun p hp' => (List.mem_append.1 hp').elim (hp p) (fun e => by simp at e; subst e; exact hx), hr, hk, hs⟩, hB⟩
  case done =>
    rintro D ys W hD hys ⟨⟨hp, hr, hk, hs⟩, hB⟩ hK
    have hrc := hr.cell; have hrf := hr.frozen
    have hkc := (hk.other (B' := w.heap.size) (by omega) (.slice none 0 0)).cell; have hkf := (hk.other (B' := w.heap.size) (by omega) (.slice none 0 0)).frozen
    gi_wp2
    have bA := (hr.set (.slice none 0 0)).other (B' := w.heap.size + 1) (by omega) (.int .i64 (-1))
    have bB := (hk.other (B' := w.heap.size) (by omega) (.slice none 0 0)).set (.int .i64 (-1))
    have hBW := ((hB.setCell (p := ⟨w.heap.size, 0, none⟩) (Nat.le_refl _) (.slice none 0 0)).setCell (p := ⟨w.heap.size + 1, 0, none⟩) (Nat.le_succ _) (.int .i64 (-1)))
    have hK' := ((KeepsOthers.setCell W ⟨w.heap.size, 0, none⟩ (.slice none 0 0)).trans (KeepsOthers.setCell _ ⟨w.heap.size + 1, 0, none⟩ (.int .i64 (-1)))).same D _ hK rfl
    generalize (W.setCell ⟨w.heap.size, 0, none⟩ (.slice none 0 0)).setCell ⟨w.heap.size + 1, 0, none⟩ (.int .i64 (-1)) = W2 at *
    have cA := (bA.kept (grownBy_putObj' _ D (.deferred none)) (by simp; omega)).cell
    have cB := (bB.kept (grownBy_putObj' _ D (.deferred none)) (by simp; omega)).cell
    refine ⟨by simp, .inl ⟨_, _, rfl, run_takeDeferred hK', ?_⟩⟩
    refine ⟨.tuple #[.slice none 0 0, .int .i64 (-1)], ?_, hBW.trans (belowK_b (w := w) (Nat.le_refl _) W2 D _ _ (by omega) hK' rfl rfl), .inl ⟨rfl, fun x hx => ?_⟩⟩
    · simp [results, Try.f20, go_sem, cA, cB]
    · obtain ⟨j, hj⟩ := List.mem_iff_getElem?.1 hx
      have hjl := (List.getElem?_eq_some_iff.1 hj).1
      have hin : (j, x) ∈ ys.map (·.1) := by
        rw [hys]
        refine List.mem_map.2 ⟨zs.length - 1 - j, List.mem_range.2 (by omega), ?_⟩
        have e : zs.length - 1 - (zs.length - 1 - j) = j := by omega
        simp [Nb.at, e, hj]
      obtain ⟨p, hp1, hp2⟩ := List.mem_map.1 hin
      have := hp p hp1
      rw [hp2] at this; exact this
  case stop =>
    rintro D c pre W hD ⟨k, hk, hpre⟩ ⟨⟨rfl, ini, last, v, e1, e2, e3, e4, e5, e6⟩, hB⟩ hK
    gi_wp2
    have cA := (e4.kept (grownBy_putObj' _ D (.deferred none)) (by simp; omega)).cell
    have cB := (e5.kept (grownBy_putObj' _ D (.deferred none)) (by simp; omega)).cell
    obtain ⟨k', rfl⟩ : ∃ k', k = k' + 1 := by
      cases k with
      | zero => rw [e1] at hpre; simp [Nb.upto] at hpre
      | succ k' => exact ⟨k', rfl⟩
    rw [e1, Nb.upto_succ, List.map_append] at hpre
    obtain ⟨h5, h6⟩ := List.append_inj' hpre rfl
    simp only [List.map_cons, List.map_nil, List.cons.injEq, and_true] at h6
    have hl := last.2
    refine ⟨by simp, .inl ⟨_, _, rfl, run_takeDeferred hK, ?_⟩⟩
    refine ⟨.tuple #[v, .int .i64 (last.1.1 : Int)], ?_, hB.trans (belowK_b (w := w) (Nat.le_refl _) W D _ _ (by omega) hK rfl rfl), .inr ⟨last.1.1, last.1.2, v, hl, e3, fun j y hj hy => ?_, rfl, ?_⟩⟩
    · simp [results, Try.f20, go_sem, cA, cB]
    · have hjl := (List.getElem?_eq_some_iff.1 hy).1
      have hl1 : last.1.1 = zs.length - 1 - k' := by rw [h6]; rfl
      have hin : (j, y) ∈ ini.map (·.1) := by
        rw [h5]
        refine List.mem_map.2 ⟨zs.length - 1 - j, List.mem_range.2 (by omega), ?_⟩
        have e : zs.length - 1 - (zs.length - 1 - j) = j := by omega
        simp [Nb.at, e, hy]
      obtain ⟨p, hp1, hp2⟩ := List.mem_map.1 hin
      have := e2 p hp1
      rw [hp2] at this; exact this
    · exact hR _ _ _ _ _ e6 (grownBy_putObj' _ D _) (fun r e _ => by cases e; exact ⟨_, hK, rfl⟩)
end Go.Proofs

/- slices.Clone of numbers: the printed form over the hand proof. (Own text.) -/
namespace Go.Bx.Wind
set_option linter.unusedVariables false
set_option linter.unusedSimpArgs false
set_option linter.unusedSectionVars false
open Go.Proofs
set_option linter.unusedVariables false

/-- slices.Clone -/
def f25 (s : List Int) : Option (List Int) := if s.length * 8 ≤ 140737488355328 then some s else none
theorem f25_ok (s : List Int) (r : List Int) (h : f25 s = some r) : PureOK E 25 [.sl (List.map (cInt .i64) s)] (.own false 1 (List.map (cInt .i64) r)) := by
  unfold f25 at h
  split at h
  · rename_i hc
    obtain rfl := Option.some.inj h
    intro base σ
    exact WindW.clone_ok base _ (len_cInt _ _) (by simpa using hc) σ
  · cases h
end Go.Bx.Wind

/- slices.Clone[[]int,int], printed by pf.py. (Own text.) -/
namespace Go.Bx.Wind
set_option linter.unusedVariables false
set_option linter.unusedSimpArgs false
set_option linter.unusedSectionVars false
open Go.Proofs
set_option linter.unusedSimpArgs false
set_option linter.unusedVariables false
set_option maxRecDepth 10000
-- theorem f25_ok (s : List Int) (r : List Int) (h : f25 s = some r) : PureOK E 25 [.sl (List.map (cInt .i64) s)] (.own false 1 (List.map (cInt .i64) r))
noncomputable def f25_tbl : CI := tbl 25 (fun p : (List Int) => [.sl (List.map (cInt .i64) p)]) (fun p => (f25 p).map fun r => .own false 1 (List.map (cInt .i64) r))
theorem f25_tbl_ok {base : Nat} : CIOK E base f25_tbl := tbl_ok fun p r h => by obtain ⟨q, hq, rfl⟩ := Option.map_eq_some_iff.1 h; exact f25_ok p q hq
theorem f25_call {s : List Int} {r : List Int} (h : f25 s = some r) (σ : Store) : f25_tbl 25 [.sl (List.map (cInt .i64) s)] σ = some (.own false 1 (List.map (cInt .i64) r), σ, none) :=
  tbl_eq (x := (s)) (fun x y e => by
    exact av_sl inj_int (List.cons.inj e).1) (by simp [h]) σ
end Go.Bx.Wind

/- sibyl/wind.Ride, printed by pf.py. (Own text.) -/
namespace Go.Bx.Wind
set_option linter.unusedVariables false
set_option linter.unusedSimpArgs false
set_option linter.unusedSectionVars false
open Go.Proofs
set_option linter.unusedSimpArgs false
set_option linter.unusedVariables false
set_option maxRecDepth 10000
def f18_l0 (t : Trip) (out : List Int) (v : Int) : Option (Ou ((List Int) × Int) ((List Int))) :=
  if (decide (v < (t.Out.length : Int))) = true then
    (rd t.Out v >>= fun e4 =>
    if (decide ((IntKind.i64.wrap ((out.length : Int) - 1)) < 0)) = true then
      (some (.ret ([], 150)))
    else
      rd out (IntKind.i64.wrap ((out.length : Int) - 1)) >>= fun e5 =>
      if (e5 != e4) = true then
        (some (.ret ([], 150)))
      else
        cutL out 0 (IntKind.i64.wrap ((out.length : Int) - 1)) >>= fun p7 =>
        f18_l0 t p7 (IntKind.i64.wrap (v + 1)))
  else
    some (.nxt out)
  partial_fixpoint

/-- sibyl/wind.Ride -/
def f18 (at_ : List Int) (t : Trip) : Option ((List Int) × Int) :=
  f25 at_ >>= fun r1 =>
  f18_l0 t r1 0 >>= fun o2 => match o2 with
  | .ret r0 => some r0
  | .nxt wo2 =>
    if ((wo2.length : Int) != t.Common) = true then
      (some ([], 150))
    else
      ap 8 wo2 t.In >>= fun a9 =>
      some (a9, 0)

noncomputable def f18_ci : CI := (CI.or 25 f25_tbl (fun _ _ _ => none))
theorem f18_ci_ok (base : Nat) : CIOK E base f18_ci := (or_ok f25_tbl_ok no_ok)
theorem f18_res : Try.f18.results = #[.tmp 4, .tmp 5] := rfl
theorem f18_rt : Try.f18.resultTypes = #[25, 34] := rfl

set_option maxHeartbeats 4000000 in
theorem f18_l0_ok {base : Nat} {c00 : Ctx} (hU : Under E base c00 nilStore) (t : Trip) : ∀ (out : List Int) (v : Int) (o2 : Ou ((List Int) × Int) ((List Int))), f18_l0 t out v = some o2 →
    WpL E base c00 nilStore (lb Try.f18 0) ⟨jj 3 (.ptr 0 0 0 :: jj 2 (.row 1 1 0 ((out).length) :: jj 6 (.sl (List.map (cInt .i64) t.Out) :: .v (.int .i64 (t.Out.length : Int)) :: .v (.int .i64 v) :: jj 29 []))), St [some ⟨3, false, false, [[.v (.int .i64 t.Common), .sl (List.map (cInt .i64) t.Out), .sl (List.map (cInt .i64) t.In)]]⟩, some ⟨1, false, true, List.map (cInt .i64) out⟩], none, 0⟩ (fun ex s1 => match o2 with | .ret r0 => ex = .ret ∧ Rt E base c00 Try.f18 (.tup [.own false 1 (List.map (cInt .i64) r0.1), .v (.int .i64 r0.2)]) s1 | .nxt wo2 => ex = .exit 0 ∧ Wk base c00 nilStore s1 ⟨jj 3 (.ptr 0 0 0 :: jj 2 (.row 1 1 0 ((wo2).length) :: jj 38 [])), St [some ⟨3, false, false, [[.v (.int .i64 t.Common), .sl (List.map (cInt .i64) t.Out), .sl (List.map (cInt .i64) t.In)]]⟩, some ⟨1, false, true, List.map (cInt .i64) wo2⟩], none, 0⟩) := by
  refine f18_l0.partial_correctness t (fun out v o2 => WpL E base c00 nilStore (lb Try.f18 0) ⟨jj 3 (.ptr 0 0 0 :: jj 2 (.row 1 1 0 ((out).length) :: jj 6 (.sl (List.map (cInt .i64) t.Out) :: .v (.int .i64 (t.Out.length : Int)) :: .v (.int .i64 v) :: jj 29 []))), St [some ⟨3, false, false, [[.v (.int .i64 t.Common), .sl (List.map (cInt .i64) t.Out), .sl (List.map (cInt .i64) t.In)]]⟩, some ⟨1, false, true, List.map (cInt .i64) out⟩], none, 0⟩ (fun ex s1 => match o2 with | .ret r0 => ex = .ret ∧ Rt E base c00 Try.f18 (.tup [.own false 1 (List.map (cInt .i64) r0.1), .v (.int .i64 r0.2)]) s1 | .nxt wo2 => ex = .exit 0 ∧ Wk base c00 nilStore s1 ⟨jj 3 (.ptr 0 0 0 :: jj 2 (.row 1 1 0 ((wo2).length) :: jj 38 [])), St [some ⟨3, false, false, [[.v (.int .i64 t.Common), .sl (List.map (cInt .i64) t.Out), .sl (List.map (cInt .i64) t.In)]]⟩, some ⟨1, false, true, List.map (cInt .i64) wo2⟩], none, 0⟩)) ?_
  intro lp__ ih out v o2 h
  refine WpL.stepE (by simp only [Try.f18, lb, Option.getD_some, loopsOf, List.nil_append, List.append_nil, List.cons_append, List.getElem?_cons_zero, List.getElem?_cons_succ]; rfl) ?_
  try simp only [jjs]
  refine Wp.seq ?_
  refine Wp.region hU (f18_ci_ok _) (by simp (decide := true) (disch := (first | omega | (simp only [List.length_append, List.length_map, List.length_cons, List.length_nil]; omega))) only [evOp, putTm, E_T, E_gl, E_br, tdesc, reduceIte, reduceCtorEq, Nat.reduceAdd, Nat.reduceSub, Nat.reduceLT, Nat.reduceLeDiff, Nat.reduceEqDiff, bxm, tabs, evBin, intBin, strBin, bothNil, constOp, eqCells, tys]; rfl) ?_
  refine thenN ?_
  refine Wp.seq ?_
  refine Wp.cond hU (t := decide (v < (t.Out.length : Int))) rfl (fun hc3 => ?_) (fun hc3 => ?_)
  · rw [if_t hc3] at h
    refine Wp.skip ?_
    refine thenN ?_
    refine Wp.seq ?_
    refine Wp.block ?_
    refine Wp.seq ?_
    obtain ⟨e4, he4, h⟩ := bind_some h
    obtain ⟨he4a, he4b, he4c⟩ := rd_some he4
    refine Wp.region hU (f18_ci_ok _) (by simp (decide := true) (disch := (first | omega | (simp only [List.length_append, List.length_map, List.length_cons, List.length_nil]; omega))) only [evOp, putTm, E_T, E_gl, E_br, tdesc, reduceIte, reduceCtorEq, Nat.reduceAdd, Nat.reduceSub, Nat.reduceLT, Nat.reduceLeDiff, Nat.reduceEqDiff, bxm, tabs, indexAddrAV, evLoad, ldV, ofCells, TD.isAgg, he4a, he4b, he4c, hc3, tys]; rfl) ?_
    refine thenN ?_
    refine Wp.seq ?_
    refine Wp.region hU (f18_ci_ok _) (by simp (decide := true) (disch := (first | omega | (simp only [List.length_append, List.length_map, List.length_cons, List.length_nil]; omega))) only [evOp, putTm, E_T, E_gl, E_br, tdesc, reduceIte, reduceCtorEq, Nat.reduceAdd, Nat.reduceSub, Nat.reduceLT, Nat.reduceLeDiff, Nat.reduceEqDiff, bxm, tabs, evA, lenAV, evBin, intBin, strBin, bothNil, constOp, eqCells, hc3, tys]; rfl) ?_
    refine thenN ?_
    refine Wp.seq ?_
    refine Wp.seq ?_
    rcases Bool.eq_false_or_eq_true (decide ((IntKind.i64.wrap ((out.length : Int) - 1)) < 0)) with hg20 | hg20
    · rw [if_t hg20] at h
      refine Wp.region hU (f18_ci_ok _) (by simp (decide := true) (disch := (first | omega | (simp only [List.length_append, List.length_map, List.length_cons, List.length_nil]; omega))) only [evOp, putTm, E_T, E_gl, E_br, tdesc, reduceIte, reduceCtorEq, Nat.reduceAdd, Nat.reduceSub, Nat.reduceLT, Nat.reduceLeDiff, Nat.reduceEqDiff, bxm, tabs, evBin, intBin, strBin, bothNil, constOp, eqCells, indexAddrAV, evLoad, ldV, ofCells, TD.isAgg, hc3, hg20, tys]; rfl) ?_
      refine thenN ?_
      refine Wp.cond hU (t := true) rfl (fun _ => ?_) (fun hc => by cases hc)
      refine Wp.seq ?_
      refine Wp.region hU (f18_ci_ok _) (by simp (decide := true) (disch := (first | omega | (simp only [List.length_append, List.length_map, List.length_cons, List.length_nil]; omega))) only [evOp, putTm, E_T, E_gl, E_br, tdesc, reduceIte, reduceCtorEq, Nat.reduceAdd, Nat.reduceSub, Nat.reduceLT, Nat.reduceLeDiff, Nat.reduceEqDiff, bxm, tabs, hc3, hg20, tys]; rfl) ?_
      refine thenN ?_
      refine Wp.ret ?_
      refine thenR ?_
      refine blkR ?_
      refine thenR ?_
      refine againR ?_
      obtain rfl := Option.some.inj h
      refine ⟨rfl, ?_⟩
      refine Rt.of ?_
      simp (decide := true) only [evReturn, retShare, evReturn0, resAV, evLoad, ofCells, TD.isAgg, mapO, exportVs, exportV, exportL, export1, rowsOf, rowOf, innerIds, rowIds, one, closed, share, fresh1, E_T, reduceIte, reduceCtorEq, Nat.reduceAdd, Nat.reduceSub, Nat.reduceLT, Nat.reduceLeDiff, Nat.reduceEqDiff, bxm, tabs, List.map_append, f18_res, f18_rt, tys]
    · rw [if_f hg20] at h
      obtain ⟨e5, he5, h⟩ := bind_some h
      obtain ⟨he5a, he5b, he5c⟩ := rd_some he5
      refine Wp.region hU (f18_ci_ok _) (by simp (decide := true) (disch := (first | omega | (simp only [List.length_append, List.length_map, List.length_cons, List.length_nil]; omega))) only [evOp, putTm, E_T, E_gl, E_br, tdesc, reduceIte, reduceCtorEq, Nat.reduceAdd, Nat.reduceSub, Nat.reduceLT, Nat.reduceLeDiff, Nat.reduceEqDiff, bxm, tabs, evBin, intBin, strBin, bothNil, constOp, eqCells, indexAddrAV, evLoad, ldV, ofCells, TD.isAgg, he5a, he5b, he5c, hc3, hg20, tys]; rfl) ?_
      refine thenN ?_
      refine Wp.cond hU (t := e5 != e4) rfl (fun hc6 => ?_) (fun hc6 => ?_)
      · rw [if_t hc6] at h
        refine Wp.seq ?_
        refine Wp.region hU (f18_ci_ok _) (by simp (decide := true) (disch := (first | omega | (simp only [List.length_append, List.length_map, List.length_cons, List.length_nil]; omega))) only [evOp, putTm, E_T, E_gl, E_br, tdesc, reduceIte, reduceCtorEq, Nat.reduceAdd, Nat.reduceSub, Nat.reduceLT, Nat.reduceLeDiff, Nat.reduceEqDiff, bxm, tabs, hc3, hg20, hc6, tys]; rfl) ?_
        refine thenN ?_
        refine Wp.ret ?_
        refine thenR ?_
        refine blkR ?_
        refine thenR ?_
        refine againR ?_
        obtain rfl := Option.some.inj h
        refine ⟨rfl, ?_⟩
        refine Rt.of ?_
        simp (decide := true) only [evReturn, retShare, evReturn0, resAV, evLoad, ofCells, TD.isAgg, mapO, exportVs, exportV, exportL, export1, rowsOf, rowOf, innerIds, rowIds, one, closed, share, fresh1, E_T, reduceIte, reduceCtorEq, Nat.reduceAdd, Nat.reduceSub, Nat.reduceLT, Nat.reduceLeDiff, Nat.reduceEqDiff, bxm, tabs, List.map_append, f18_res, f18_rt, tys]
      · rw [if_f hc6] at h
        refine Wp.skip ?_
        refine thenN ?_
        obtain ⟨p7, hp7, h⟩ := bind_some h
        obtain ⟨hp7a, hp7b, hp7c, hp7d, hp7e, hp7f⟩ := cutL_some hp7
        refine Wp.region hU (f18_ci_ok _) (by simp (decide := true) (disch := (first | omega | (simp only [List.length_append, List.length_map, List.length_cons, List.length_nil]; omega))) only [evOp, putTm, E_T, E_gl, E_br, tdesc, reduceIte, reduceCtorEq, Nat.reduceAdd, Nat.reduceSub, Nat.reduceLT, Nat.reduceLeDiff, Nat.reduceEqDiff, bxm, tabs, evA, sliceAV, boundAV, hp7a, hp7b, hp7c, hp7d, slice_take, hc3, hg20, hc6, tys]; rfl) ?_
        refine blkN ?_
        refine thenN ?_
        refine Wp.region hU (f18_ci_ok _) (by simp (decide := true) (disch := (first | omega | (simp only [List.length_append, List.length_map, List.length_cons, List.length_nil]; omega))) only [evOp, putTm, E_T, E_gl, E_br, tdesc, reduceIte, reduceCtorEq, Nat.reduceAdd, Nat.reduceSub, Nat.reduceLT, Nat.reduceLeDiff, Nat.reduceEqDiff, bxm, tabs, evBin, intBin, strBin, bothNil, constOp, eqCells, slice_take, hp7a, hp7b, hp7c, hp7d, hc3, hg20, hc6, tys]; rfl) ?_
        refine againN ?_
        refine Wk.wpL ?_ (ih p7 (IntKind.i64.wrap (v + 1)) _ h)
        try simp only [jjs]
        refine Wk.weak hU [some 0, some 1] _ (by decide) ?_ ?_
        · refine .obj rfl ?_ ?_
          · refine .mk ?_ (by simp only [bxm, leaf_ptr]) nofun
            refine .cons ?_ .nil
            (repeat' (first | exact WVs.nil | refine WVs.cons ?_ ?_ | (refine WVs.aggW ?_) | (refine WVs.fnW ?_ ?_))) <;> (first | exact WV.junk _ | exact WV.keep rfl | exact WV.row rfl | exact WV.nil rfl | exact WV.nilsl | exact WV.emp rfl | exact WV.empsl | exact WV.ptr rfl | (refine WV.row_eq rfl ?_; simp only [bxw, hp7f, tys]) | (refine WV.view (k := 3) ?_; simp (decide := true) only [reify, share, fresh1, reduceIte, reduceCtorEq, Nat.reduceAdd, bxm, hp7e, tys, slice_take, Int.toNat_zero, List.drop_zero, true_and, and_true, hp7c, hp7d]) | (refine WV.eq ?_ rfl; simp only [bxw, hp7e, tys]))
          refine .obj rfl ?_ ?_
          · refine WO.trunc_eq ⟨(IntKind.i64.wrap ((out.length : Int) - 1)).toNat, ?_⟩; simp only [bxw, hp7e, tys]
          exact .nil
        · (repeat' (first | exact WVs.nil | refine WVs.cons ?_ ?_ | (refine WVs.aggW ?_) | (refine WVs.fnW ?_ ?_))) <;> (first | exact WV.junk _ | exact WV.keep rfl | exact WV.row rfl | exact WV.nil rfl | exact WV.nilsl | exact WV.emp rfl | exact WV.empsl | exact WV.ptr rfl | (refine WV.row_eq rfl ?_; simp only [bxw, hp7f, tys]) | (refine WV.view (k := 3) ?_; simp (decide := true) only [reify, share, fresh1, reduceIte, reduceCtorEq, Nat.reduceAdd, bxm, hp7e, tys, slice_take, Int.toNat_zero, List.drop_zero, true_and, and_true, hp7c, hp7d]) | (refine WV.eq ?_ rfl; simp only [bxw, hp7e, tys]))
  · rw [if_f hc3] at h
    refine Wp.exit ?_
    refine thenE ?_
    refine againE ?_
    obtain rfl := Option.some.inj h
    refine ⟨rfl, ?_⟩
    try simp only [jjs]
    refine Wk.weak hU [some 0, some 1] _ (by decide) ?_ ?_
    · refine .obj rfl ?_ ?_
      · refine .mk ?_ (by simp only [bxm, leaf_ptr]) nofun
        refine .cons ?_ .nil
        (repeat' (first | exact WVs.nil | refine WVs.cons ?_ ?_ | (refine WVs.aggW ?_) | (refine WVs.fnW ?_ ?_))) <;> (first | exact WV.junk _ | exact WV.keep rfl | exact WV.row rfl | exact WV.nil rfl | exact WV.nilsl | exact WV.emp rfl | exact WV.empsl | exact WV.ptr rfl | (refine WV.row_eq rfl ?_; simp only [bxw, tys]) | (refine WV.view (k := 3) ?_; simp (decide := true) only [reify, share, fresh1, reduceIte, reduceCtorEq, Nat.reduceAdd, bxm, tys]) | (refine WV.eq ?_ rfl; simp only [bxw, tys]))
      refine .obj rfl ?_ ?_
      · first | exact .same _ _ _ | (refine WO.same_eq ?_; simp only [bxw, tys]; done)
      exact .nil
    · (repeat' (first | exact WVs.nil | refine WVs.cons ?_ ?_ | (refine WVs.aggW ?_) | (refine WVs.fnW ?_ ?_))) <;> (first | exact WV.junk _ | exact WV.keep rfl | exact WV.row rfl | exact WV.nil rfl | exact WV.nilsl | exact WV.emp rfl | exact WV.empsl | exact WV.ptr rfl | (refine WV.row_eq rfl ?_; simp only [bxw, tys]) | (refine WV.view (k := 3) ?_; simp (decide := true) only [reify, share, fresh1, reduceIte, reduceCtorEq, Nat.reduceAdd, bxm, tys]) | (refine WV.eq ?_ rfl; simp only [bxw, tys]))

set_option maxHeartbeats 4000000 in
theorem f18_ok (at_ : List Int) (t : Trip) (r : (List Int) × Int) (h : f18 at_ t = some r) : PureOK E 18 [.sl (List.map (cInt .i64) at_), .agg [.v (.int .i64 t.Common), .sl (List.map (cInt .i64) t.Out), .sl (List.map (cInt .i64) t.In)]] (.tup [.own false 1 (List.map (cInt .i64) r.1), .v (.int .i64 r.2)]) := by
  unfold f18 at h
  refine pure_of_wp tabOK mixed (fn := Try.f18) (nt := 45) Try.func18 rfl rfl (names _ _ Try.func18) rfl rfl (fun _ => rfl) (fun base c00 hU => ?_)
  refine Wk.wp (s2 := ⟨.sl (List.map (cInt .i64) at_) :: .agg [.v (.int .i64 t.Common), .sl (List.map (cInt .i64) t.Out), .sl (List.map (cInt .i64) t.In)] :: jj 43 [], St [], none, 0⟩) ?_ ?_
  · refine Wk.weak hU [] _ (by decide) .nil ?_
    simp only [jjs, List.length_cons, List.length_nil, Nat.reduceAdd, Nat.reduceSub, List.replicate, List.cons_append, List.nil_append]
    repeat' (first | exact WVs.nil | refine WVs.cons ?_ ?_)
    all_goals first | exact WV.junk _ | exact WV.keep rfl | exact .agg rfl (aggKeep rfl)
  try simp only [jjs]
  refine Wp.seq ?_
  refine Wp.region hU (f18_ci_ok _) (by simp (decide := true) (disch := (first | omega | (simp only [List.length_append, List.length_map, List.length_cons, List.length_nil]; omega))) only [evOp, putTm, E_T, E_gl, E_br, tdesc, reduceIte, reduceCtorEq, Nat.reduceAdd, Nat.reduceSub, Nat.reduceLT, Nat.reduceLeDiff, Nat.reduceEqDiff, bxm, tabs, tys]; rfl) ?_
  refine thenN ?_
  refine Wp.seq ?_
  obtain ⟨r1, hr1, h⟩ := bind_some h
  have hr1c : ∀ σ, f18_ci 25 [.sl (List.map (cInt .i64) at_)] σ = some (.own false 1 (List.map (cInt .i64) r1), σ, none) := fun σ => f25_call hr1 σ
  refine Wp.region hU (f18_ci_ok _) (by simp (decide := true) (disch := (first | omega | (simp only [List.length_append, List.length_map, List.length_cons, List.length_nil]; omega))) only [evOp, putTm, E_T, E_gl, E_br, tdesc, reduceIte, reduceCtorEq, Nat.reduceAdd, Nat.reduceSub, Nat.reduceLT, Nat.reduceLeDiff, Nat.reduceEqDiff, bxm, tabs, evCall, mapO, importL, import2L, import1, import2, share, fresh1, freshL, hr1c, tys]; rfl) ?_
  refine thenN ?_
  refine Wp.seq ?_
  refine Wp.seq ?_
  refine Wp.region hU (f18_ci_ok _) (by simp (decide := true) (disch := (first | omega | (simp only [List.length_append, List.length_map, List.length_cons, List.length_nil]; omega))) only [evOp, putTm, E_T, E_gl, E_br, tdesc, reduceIte, reduceCtorEq, Nat.reduceAdd, Nat.reduceSub, Nat.reduceLT, Nat.reduceLeDiff, Nat.reduceEqDiff, bxm, tabs, fieldPlaceT, evLoad, ldV, ofCells, TD.isAgg, evA, lenAV, tys]; rfl) ?_
  refine thenN ?_
  refine Wp.block ?_
  obtain ⟨o2, ho2, h⟩ := bind_some h
  refine Wp.loop ?_
  refine Tw.mono (Wk.wpL (s2 := ⟨jj 3 (.ptr 0 0 0 :: jj 2 (.row 1 1 0 ((r1).length) :: jj 6 (.sl (List.map (cInt .i64) t.Out) :: .v (.int .i64 (t.Out.length : Int)) :: .v (.int .i64 0) :: jj 29 []))), St [some ⟨3, false, false, [[.v (.int .i64 t.Common), .sl (List.map (cInt .i64) t.Out), .sl (List.map (cInt .i64) t.In)]]⟩, some ⟨1, false, true, List.map (cInt .i64) r1⟩], none, 0⟩) ?_ (f18_l0_ok hU t r1 0 o2 ho2)) (fun ex s1 hp => ?_)
  · try simp only [jjs]
    refine Wk.weak hU [some 0, some 1] _ (by decide) ?_ ?_
    · refine .obj rfl ?_ ?_
      · refine .mk ?_ (by simp only [bxm, leaf_ptr]) nofun
        refine .cons ?_ .nil
        (repeat' (first | exact WVs.nil | refine WVs.cons ?_ ?_ | (refine WVs.aggW ?_) | (refine WVs.fnW ?_ ?_))) <;> (first | exact WV.junk _ | exact WV.keep rfl | exact WV.row rfl | exact WV.nil rfl | exact WV.nilsl | exact WV.emp rfl | exact WV.empsl | exact WV.ptr rfl | (refine WV.row_eq rfl ?_; simp only [bxw, tys]) | (refine WV.view (k := 3) ?_; simp (decide := true) only [reify, share, fresh1, reduceIte, reduceCtorEq, Nat.reduceAdd, bxm, tys]) | (refine WV.eq ?_ rfl; simp only [bxw, tys]))
      refine .obj rfl ?_ ?_
      · first | exact .same _ _ _ | (refine WO.same_eq ?_; simp only [bxw, tys]; done)
      exact .nil
    · (repeat' (first | exact WVs.nil | refine WVs.cons ?_ ?_ | (refine WVs.aggW ?_) | (refine WVs.fnW ?_ ?_))) <;> (first | exact WV.junk _ | exact WV.keep rfl | exact WV.row rfl | exact WV.nil rfl | exact WV.nilsl | exact WV.emp rfl | exact WV.empsl | exact WV.ptr rfl | (refine WV.row_eq rfl ?_; simp only [bxw, tys]) | (refine WV.view (k := 3) ?_; simp (decide := true) only [reify, share, fresh1, reduceIte, reduceCtorEq, Nat.reduceAdd, bxm, tys]) | (refine WV.eq ?_ rfl; simp only [bxw, tys]))
  · cases o2 with
    | ret r0 =>
      obtain ⟨rfl, hp⟩ := hp
      obtain rfl := Option.some.inj h
      refine blkR ?_
      refine thenR ?_
      exact ⟨.inl rfl, hp⟩
    | nxt wo2 =>
      obtain ⟨rfl, hp⟩ := hp
      dsimp only at h
      refine blkE ?_
      refine thenN ?_
      refine hp.wp ?_
      try simp only [jjs]
      refine Wp.seq ?_
      refine Wp.seq ?_
      refine Wp.region hU (f18_ci_ok _) (by simp (decide := true) (disch := (first | omega | (simp only [List.length_append, List.length_map, List.length_cons, List.length_nil]; omega))) only [evOp, putTm, E_T, E_gl, E_br, tdesc, reduceIte, reduceCtorEq, Nat.reduceAdd, Nat.reduceSub, Nat.reduceLT, Nat.reduceLeDiff, Nat.reduceEqDiff, bxm, tabs, evA, lenAV, fieldPlaceT, evLoad, ldV, ofCells, TD.isAgg, evBin, intBin, strBin, bothNil, constOp, eqCells, tys]; rfl) ?_
      refine thenN ?_
      refine Wp.cond hU (t := (wo2.length : Int) != t.Common) rfl (fun hc8 => ?_) (fun hc8 => ?_)
      · rw [if_t hc8] at h
        refine Wp.seq ?_
        refine Wp.region hU (f18_ci_ok _) (by simp (decide := true) (disch := (first | omega | (simp only [List.length_append, List.length_map, List.length_cons, List.length_nil]; omega))) only [evOp, putTm, E_T, E_gl, E_br, tdesc, reduceIte, reduceCtorEq, Nat.reduceAdd, Nat.reduceSub, Nat.reduceLT, Nat.reduceLeDiff, Nat.reduceEqDiff, bxm, tabs, hc8, tys]; rfl) ?_
        refine thenN ?_
        refine Wp.ret ?_
        refine thenR ?_
        obtain rfl := Option.some.inj h
        refine ⟨.inl rfl, ?_⟩
        refine Rt.of ?_
        simp (decide := true) only [evReturn, retShare, evReturn0, resAV, evLoad, ofCells, TD.isAgg, mapO, exportVs, exportV, exportL, export1, rowsOf, rowOf, innerIds, rowIds, one, closed, share, fresh1, E_T, reduceIte, reduceCtorEq, Nat.reduceAdd, Nat.reduceSub, Nat.reduceLT, Nat.reduceLeDiff, Nat.reduceEqDiff, bxm, tabs, List.map_append, f18_res, f18_rt, tys]
      · rw [if_f hc8] at h
        refine Wp.skip ?_
        refine thenN ?_
        refine Wp.seq ?_
        obtain ⟨a9, ha9, h⟩ := bind_some h
        obtain ⟨ha9a, ha9b⟩ := ap_some ha9
        try simp only [List.length_cons, List.length_nil, Nat.zero_add, Nat.add_zero, Nat.reduceAdd] at ha9a
        refine Wp.region hU (f18_ci_ok _) (by simp (decide := true) (disch := (first | omega | (simp only [List.length_append, List.length_map, List.length_cons, List.length_nil]; omega))) only [evOp, putTm, E_T, E_gl, E_br, tdesc, reduceIte, reduceCtorEq, Nat.reduceAdd, Nat.reduceSub, Nat.reduceLT, Nat.reduceLeDiff, Nat.reduceEqDiff, bxm, tabs, fieldPlaceT, evLoad, ldV, ofCells, TD.isAgg, evAppend, elems, flatOf, ha9a, hc8, tys]; rfl) ?_
        refine thenN ?_
        refine Wp.ret ?_
        obtain rfl := Option.some.inj h
        refine ⟨.inl rfl, ?_⟩
        refine Rt.of ?_
        simp (decide := true) only [evReturn, retShare, evReturn0, resAV, evLoad, ofCells, TD.isAgg, mapO, exportVs, exportV, exportL, export1, rowsOf, rowOf, innerIds, rowIds, one, closed, share, fresh1, E_T, reduceIte, reduceCtorEq, Nat.reduceAdd, Nat.reduceSub, Nat.reduceLT, Nat.reduceLeDiff, Nat.reduceEqDiff, bxm, tabs, List.map_append, f18_res, f18_rt, tys, ha9b]

noncomputable def f18_tbl : CI := tbl 18 (fun p : (List Int) × Trip => [.sl (List.map (cInt .i64) p.1), .agg [.v (.int .i64 p.2.Common), .sl (List.map (cInt .i64) p.2.Out), .sl (List.map (cInt .i64) p.2.In)]]) (fun p => (f18 p.1 p.2).map fun r => .tup [.own false 1 (List.map (cInt .i64) r.1), .v (.int .i64 r.2)])
theorem f18_tbl_ok {base : Nat} : CIOK E base f18_tbl := tbl_ok fun p r h => by obtain ⟨q, hq, rfl⟩ := Option.map_eq_some_iff.1 h; exact f18_ok p.1 p.2 q hq
theorem f18_call {at_ : List Int} {t : Trip} {r : (List Int) × Int} (h : f18 at_ t = some r) (σ : Store) : f18_tbl 18 [.sl (List.map (cInt .i64) at_), .agg [.v (.int .i64 t.Common), .sl (List.map (cInt .i64) t.Out), .sl (List.map (cInt .i64) t.In)]] σ = some (.tup [.own false 1 (List.map (cInt .i64) r.1), .v (.int .i64 r.2)], σ, none) :=
  tbl_eq (x := (at_, t)) (fun x y e => by
    obtain ⟨x0, x1⟩ := x; obtain ⟨y0, y1⟩ := y
    have e0 := av_sl inj_int (List.cons.inj e).1
    have e1 := av_agg injTrip (List.cons.inj (List.cons.inj e).2).1
    subst e0 e1; rfl) (by simp [h]) σ
end Go.Bx.Wind

/- wind.Plan: the printed form over the hand proof. (Own text.) -/
namespace Go.Bx.Wind
set_option linter.unusedVariables false
set_option linter.unusedSimpArgs false
set_option linter.unusedSectionVars false
open Go.Proofs
set_option linter.unusedVariables false

def windsOf (l : List Frame) : List Int := (l.filter fun f => f.Kind == 2).map (·.Id)
/-- wind.Plan -/
def f16 (from_ to : List Frame) : Option Trip := if from_.length * 40 ≤ 140737488355328 ∧ to.length * 40 ≤ 140737488355328 then
  some ⟨WindW.lcp (windsOf from_) (windsOf to), ((windsOf from_).drop (WindW.lcp (windsOf from_) (windsOf to))).reverse, (windsOf to).drop (WindW.lcp (windsOf from_) (windsOf to))⟩ else none
def fr (f : Frame) : WindW.Fr := ⟨f.Kind, f.Id, .sl (List.map (cInt .i64) f.Hs)⟩
theorem fr_c (l : List Frame) : WindW.frames (l.map fr) = .sl (List.map cFrame l) := by
  simp only [WindW.frames, List.map_map]; rfl
theorem fr_winds (l : List Frame) : WindW.winds (l.map fr) = windsOf l := by
  simp only [WindW.winds, windsOf, List.filter_map, List.map_map]; rfl
theorem f16_ok (from_ : List Frame) (to : List Frame) (r : Trip) (h : f16 from_ to = some r) : PureOK E 16 [.sl (List.map cFrame from_), .sl (List.map cFrame to)] (.agg [.v (.int .i64 r.Common), .own false 1 (List.map (cInt .i64) r.Out), .own false 1 (List.map (cInt .i64) r.In)]) := by
  unfold f16 at h
  split at h
  · rename_i hc
    obtain rfl := Option.some.inj h
    intro base σ
    have hl : ∀ l : List Frame, ∀ f ∈ l.map fr, leaf f.h = true := fun l f hf => by
      obtain ⟨g, _, rfl⟩ := List.mem_map.1 hf; rfl
    have h16 := WindW.f16_ok (from_.map fr) (to.map fr) (hl _) (hl _) (by simpa using hc.1) (by simpa using hc.2) σ
    rw [fr_c, fr_c, fr_winds, fr_winds] at h16
    have := callL_ok WindW.tabOK WindW.mixed (WindW.extOK base) WindW.names _ _ _ _ _ _ h16
    exact this
  · cases h
end Go.Bx.Wind

/- sibyl/wind.Plan, printed by pf.py. (Own text.) -/
namespace Go.Bx.Wind
set_option linter.unusedVariables false
set_option linter.unusedSimpArgs false
set_option linter.unusedSectionVars false
open Go.Proofs
set_option linter.unusedSimpArgs false
set_option linter.unusedVariables false
set_option maxRecDepth 10000
-- theorem f16_ok (from_ : List Frame) (to : List Frame) (r : Trip) (h : f16 from_ to = some r) : PureOK E 16 [.sl (List.map cFrame from_), .sl (List.map cFrame to)] (.agg [.v (.int .i64 r.Common), .own false 1 (List.map (cInt .i64) r.Out), .own false 1 (List.map (cInt .i64) r.In)])
noncomputable def f16_tbl : CI := tbl 16 (fun p : (List Frame) × (List Frame) => [.sl (List.map cFrame p.1), .sl (List.map cFrame p.2)]) (fun p => (f16 p.1 p.2).map fun r => .agg [.v (.int .i64 r.Common), .own false 1 (List.map (cInt .i64) r.Out), .own false 1 (List.map (cInt .i64) r.In)])
theorem f16_tbl_ok {base : Nat} : CIOK E base f16_tbl := tbl_ok fun p r h => by obtain ⟨q, hq, rfl⟩ := Option.map_eq_some_iff.1 h; exact f16_ok p.1 p.2 q hq
theorem f16_call {from_ : List Frame} {to : List Frame} {r : Trip} (h : f16 from_ to = some r) (σ : Store) : f16_tbl 16 [.sl (List.map cFrame from_), .sl (List.map cFrame to)] σ = some (.agg [.v (.int .i64 r.Common), .own false 1 (List.map (cInt .i64) r.Out), .own false 1 (List.map (cInt .i64) r.In)], σ, none) :=
  tbl_eq (x := (from_, to)) (fun x y e => by
    obtain ⟨x0, x1⟩ := x; obtain ⟨y0, y1⟩ := y
    have e0 := av_sl injFrame (List.cons.inj e).1
    have e1 := av_sl injFrame (List.cons.inj (List.cons.inj e).2).1
    subst e0 e1; rfl) (by simp [h]) σ
end Go.Bx.Wind

/- wind.Nearest: the printed form over the hand proof. (Own text.) -/
namespace Go.Bx.Wind
set_option linter.unusedVariables false
set_option linter.unusedSimpArgs false
set_option linter.unusedSectionVars false
open Go.Proofs Go.RowKit
set_option linter.unusedVariables false
set_option linter.unusedSimpArgs false

/-- The last of the first i frames that bears handlers. -/
def nearFrom (fs : List Frame) : Nat → List Int × Int
  | 0 => ([], -1)
  | i + 1 => match fs[i]? with
    | some f => if f.Kind = 3 then (f.Hs, (i : Int)) else nearFrom fs i
    | none => nearFrom fs i
/-- wind.Nearest -/
def f20 (fs : List Frame) : Option (List Int × Int) :=
  if fs.length * 40 ≤ 140737488355328 ∧ (∀ f ∈ fs, f.Hs.length * 8 ≤ 140737488355328) then some (nearFrom fs fs.length) else none

theorem nearFrom_none {fs : List Frame} (h : ∀ f ∈ fs, f.Kind ≠ 3) : ∀ i, nearFrom fs i = ([], -1)
  | 0 => rfl
  | i + 1 => by
    unfold nearFrom
    split
    · rename_i f hf; rw [if_neg (h f (List.mem_of_getElem? hf))]; exact nearFrom_none h i
    · exact nearFrom_none h i
theorem nearFrom_at {fs : List Frame} {k : Nat} {f : Frame} (hf : fs[k]? = some f) (h3 : f.Kind = 3) (h : ∀ j g, k < j → fs[j]? = some g → g.Kind ≠ 3) : ∀ i, k < i → nearFrom fs i = (f.Hs, (k : Int))
  | 0, hi => by omega
  | i + 1, hi => by
    unfold nearFrom
    by_cases hk : k = i
    · subst hk; rw [hf]; simp only; rw [if_pos h3]
    · split
      · rename_i g hg; rw [if_neg (h i g (by omega) hg)]; exact nearFrom_at hf h3 h i (by omega)
      · exact nearFrom_at hf h3 h i (by omega)

/-- v is a row with these numbers, in a block from n₀ on (or it is empty). -/
def RowIn (n₀ : Nat) (W : World) (v : Value) (l : List Int) : Prop :=
  (∃ A, v = .slice A 0 0 ∧ l = []) ∨ ∃ (A : Option Addr) (L : Loc) (arr : Array Value) (T : TypeId), v = .slice A l.length L.tot ∧ l.length ≤ L.tot ∧ (L.tot ≠ 0 → A = some ⟨L.b, L.o, none⟩) ∧ L.sz = 1 ∧ n₀ ≤ L.b ∧
    W.heap[L.b]? = some (.cells arr T (0, 0)) ∧ L.o + L.tot ≤ arr.size ∧ ∀ (i : Nat) x, l[i]? = some x → arr[L.o + i]? = some (.int .i64 x)

theorem RowIn.kept {n₀ m : Nat} {W W' : World} {v : Value} {l : List Int} {row : Option Nat} (h : RowIn n₀ W v l) (hm : m ≤ n₀) (hg : W.grownBy W' row) (hr : ∀ r, row = some r → m ≤ r → ∃ o : Go.Obj, W.heap[r]? = some o ∧ o.isCells = false) : RowIn n₀ W' v l := by
  rcases h with h | ⟨A, L, arr, T, h1, h2, h3, h4, h5, h6, h7, h8⟩
  · exact .inl h
  · refine .inr ⟨A, L, arr, T, h1, h2, h3, h4, h5, (hg.block L.b (Array.getElem?_eq_some_iff.1 h6).1 (fun e => ?_)).trans h6, h7, h8⟩
    obtain ⟨o, ho, hc⟩ := hr L.b e.symm (by omega)
    rw [h6] at ho; cases ho; cases hc

theorem rep_ints {c : Ctx} {u : Value} {l : List Int} (h : Rep c (.sl (l.map (cInt .i64))) u) : ∃ A cap, u = .slice A l.length cap ∧ l.length ≤ cap ∧ ∀ i x, l[i]? = some x → ∃ b o, A = some ⟨b, o, none⟩ ∧ c.w.cell? ⟨b, o + i, none⟩ = some (.int .i64 x) := by
  cases h with
  | @sl _ A n cap sz b o u hn hc hA hsz hcell hrep =>
    refine ⟨A, cap, by rw [hn]; simp, by simpa [hn] using hc, fun i x hx => ?_⟩
    have h1 : (l.map (cInt .i64))[i]? = some [.v (.int .i64 x)] := by simp [hx, cInt]
    have hs : sz = 1 := (hsz _ (List.mem_of_getElem? h1)).symm
    have h2 := hcell i _ 0 _ h1 rfl
    have h3 := hrep i _ 0 _ h1 rfl
    have hne : l.map (cInt .i64) ≠ [] := fun e => by rw [e] at h1; simp at h1
    refine ⟨b, o, hA hne, ?_⟩
    generalize u i 0 = v0 at h2 h3
    cases h3
    subst hs
    simpa using h2.1

theorem rep_ints_eq {c : Ctx} {u : Value} {l m : List Int} (h : Rep c (.sl (l.map (cInt .i64))) u) (k : Rep c (.sl (m.map (cInt .i64))) u) : l = m := by
  obtain ⟨A, cap, rfl, h1, h2⟩ := rep_ints h
  obtain ⟨A', cap', e, h3, h4⟩ := rep_ints k
  simp only [Value.slice.injEq] at e
  obtain ⟨rfl, hl, rfl⟩ := e
  apply List.ext_getElem hl
  intro i hi hj
  obtain ⟨b, o, e1, e2⟩ := h2 i l[i] (by simp)
  obtain ⟨b', o', e3, e4⟩ := h4 i m[i] (by simp)
  rw [e1] at e3; simp only [Option.some.injEq, Addr.mk.injEq, and_true] at e3
  obtain ⟨rfl, rfl⟩ := e3
  rw [e2] at e4; simpa using e4

/-- slices.Clone, in a world that has grown. -/
theorem clone_calls {base : Nat} {c : Ctx} (hI : Inv nilStore c base) (hm : c.m = fun _ => none) {W : World} (hB : Below c.w.heap.size c.w W) {l : List Int} {u : Value} (hu : Rep c (.sl (l.map (cInt .i64))) u) (hlen : l.length * 8 ≤ 140737488355328) :
    Calls Try.prog 25 #[u] W fun e W' => ∃ A m cc, e = .returned (.slice A m cc) ∧ RowIn W.heap.size W' (.slice A m cc) l ∧ Below W.heap.size W W' := by
  have hS : ∀ a, c.S a → a.block < c.w.heap.size := fun a ha => hI.core.S_lt ha
  have hcell : ∀ a, c.S a → W.cell? a = c.w.cell? a := fun a ha => hB.cell (hS a ha)
  have hI' : Inv nilStore { w := W, S := c.S, m := fun _ => none } base := by
    refine ⟨⟨fun _ _ _ h => (by cases h), fun _ _ h => (by cases h), fun _ _ _ _ _ _ h => (by cases h), fun a ha => ?_, fun _ _ _ h => (by cases h), Nat.le_trans hI.core.base_le hB.size⟩, fun _ _ h => (by cases h), fun _ _ h => (by cases h)⟩
    obtain ⟨h1, v, h2⟩ := hI.core.inn a ha
    exact ⟨h1, v, (hcell a ha).trans h2⟩
  have he : Ext c { w := W, S := c.S, m := fun _ => none } := ⟨fun _ h => h, hcell, fun id l h => (by rw [hm] at h; cases h), hB.size, hB.os, hB.tape, hB.output⟩
  obtain ⟨_, _, _, hc⟩ := f25_ok l l (if_pos hlen) base nilStore
  refine (hc { w := W, S := c.S, m := fun _ => none } [u] hI' (fun _ => .junk) (Reps.cons (hu.mono he) (Reps.nil _))).2.mono ?_
  rintro e w' ⟨v, c', rfl, rfl, he', hi', hr', hf'⟩
  have hb : Below W.heap.size W c'.w := ⟨he'.os, he'.tape, he'.output, he'.size, fun k hk => hf'.block k hk (fun id o L ho => by cases ho)⟩
  have hr2 : Rep c' (.row 0 1 0 (l.map (cInt .i64)).length) v := hr'
  have ho2 : (importAV nilStore (.own false 1 (l.map (cInt .i64)))).2.ob 0 = some ⟨1, false, true, l.map (cInt .i64)⟩ := rfl
  generalize hnn : (l.map (cInt .i64)).length = nn at hr2
  have hln : l.length = nn := by rw [← hnn]; simp
  cases hr2 with
  | @row _ _ _ _ A cap L hm' hs hn ht hA =>
    have hs1 : L.sz = 1 := hs
    have htot : L.tot = cap := by omega
    refine ⟨A, _, cap, rfl, .inr ?_, hb⟩
    have hok := hi'.core.obj 0 _ L ho2 hm'
    obtain ⟨arr, T, q1, q2, q3⟩ := hok.mem
    have hnew : W.heap.size ≤ L.b := by
      rcases hf'.bnew 0 L hm' (by simp) with h | ⟨_, _, _, h, _⟩
      · exact h
      · cases h
    refine ⟨A, L, arr, T, by rw [htot, hln], by omega, fun hne => ?_, hs1, hnew, q1, by rw [hs1] at q2; omega, fun i x hx => ?_⟩
    · have := hA (by omega); simpa using this
    · obtain ⟨w, h1, h2, _⟩ := q3 i [.v (.int .i64 x)] 0 (.v (.int .i64 x)) (by simp [hx, cInt]) rfl
      cases h2
      rw [hs1] at h1; simpa using h1
  | @row0 _ _ _ A hm' =>
    exact ⟨A, 0, 0, rfl, .inl ⟨A, rfl, List.eq_nil_of_length_eq_zero hln⟩, hb⟩

/-- A row's memory as the evaluator's object. -/
theorem row_ctx {base : Nat} {c : Ctx} (hI : Inv nilStore c base) (hm : c.m = fun _ => none) {W : World} (hB : Below c.w.heap.size c.w W) {v : Value} {l : List Int} (h : RowIn c.w.heap.size W v l) (k : Int) :
    ∃ c', c'.w = W ∧ Ext c c' ∧ Inv (nilStore.new ⟨1, false, true, l.map (cInt .i64)⟩) c' base ∧ Rep c' (.row 0 1 0 l.length) v ∧ Fr c nilStore none c' := by
  have hS : ∀ a, c.S a → a.block < c.w.heap.size := fun a ha => hI.core.S_lt ha
  have hcell : ∀ a, c.S a → W.cell? a = c.w.cell? a := fun a ha => hB.cell (hS a ha)
  have hinn : ∀ a, c.S a → a.spot = none ∧ ∃ u, W.cell? a = some u := fun a ha => by
    obtain ⟨h1, v, h2⟩ := hI.core.inn a ha
    exact ⟨h1, v, (hcell a ha).trans h2⟩
  have hob : ∀ id o, (nilStore.new ⟨1, false, true, l.map (cInt .i64)⟩).ob id = some o → id = 0 ∧ o = ⟨1, false, true, l.map (cInt .i64)⟩ := fun id o ho => by
    by_cases e : id = 0
    · subst e; cases ho; exact ⟨rfl, rfl⟩
    · have : (nilStore.new ⟨1, false, true, l.map (cInt .i64)⟩).ob id = none := by
        show (if id = 0 then _ else _) = _
        rw [if_neg e]; rfl
      rw [this] at ho; cases ho
  have hext : ∀ m', Ext c { w := W, S := c.S, m := m' } := fun m' => ⟨fun _ h => h, hcell, fun id l h => (by rw [hm] at h; cases h), hB.size, hB.os, hB.tape, hB.output⟩
  rcases h with ⟨A, rfl, rfl⟩ | ⟨A, L, arr, T, rfl, h2, h3, h4, h5, h6, h7, h8⟩
  · refine ⟨{ w := W, S := c.S, m := fun id => if id = 0 then some .virt else none }, rfl, hext _, ⟨⟨fun id o L ho hl => ?_, fun id o ho hl => ?_, fun id id' o o' L L' _ _ hl => ?_, hinn, fun id o L ho hl => ?_, Nat.le_trans hI.core.base_le hB.size⟩, fun id l hl => ?_, fun id o ho => ?_⟩, .row0 (by simp), ⟨fun b hb _ => hB.block b hb, fun id l hl => .inr (Nat.zero_le _), fun id L hl _ => ?_, fun a ha => .inl ha⟩⟩
    · simp only at hl; split at hl <;> cases hl
    · rw [(hob id o ho).2]; rfl
    · simp only at hl; split at hl <;> cases hl
    · simp only at hl; split at hl <;> cases hl
    · simp only at hl; split at hl
      · rename_i e; subst e; simp [Store.new, nilStore]
      · cases hl
    · rw [(hob id o ho).1]; simp [Store.new, nilStore]
    · simp only at hl; split at hl <;> cases hl
  · have hL : ∀ {id L'}, (if id = 0 then some (ML.at L) else none) = some (ML.at L') → id = 0 ∧ L' = L := fun {id L'} h => by
      split at h
      · rename_i e; cases h; exact ⟨e, rfl⟩
      · cases h
    refine ⟨{ w := W, S := c.S, m := fun id => if id = 0 then some (.at L) else none }, rfl, hext _, ⟨⟨fun id o L' ho hl => ?_, fun id o ho hl => ?_, fun id id' o o' L' L'' _ _ hl hl' hne => ?_, hinn, fun id o L' ho hl a ha hb => ?_, Nat.le_trans hI.core.base_le hB.size⟩, fun id l hl => ?_, fun id o ho => ?_⟩, .row L (by simp) h4 h2 (by simp) (fun hne => by simpa using h3 hne), ⟨fun b hb _ => hB.block b hb, fun id l hl => .inr (Nat.zero_le _), fun id L' hl _ => ?_, fun a ha => .inl ha⟩⟩
    · obtain ⟨rfl, rfl⟩ := hL hl
      obtain ⟨_, rfl⟩ := hob _ _ ho
      refine ⟨h4, Nat.le_trans hI.core.base_le h5, by simpa using h2, fun e he => ?_, fun e he x hx => ?_, fun _ e he x hx => ?_, arr, T, h6, by rw [h4]; omega, fun i e j x hi hj => ?_⟩
      · obtain ⟨y, _, rfl⟩ := List.mem_map.1 he; rfl
      · obtain ⟨y, _, rfl⟩ := List.mem_map.1 he; simp [cInt] at hx; subst hx; rfl
      · obtain ⟨y, _, rfl⟩ := List.mem_map.1 he; simp [cInt] at hx; subst hx; rfl
      · simp only [List.getElem?_map, Option.map_eq_some_iff] at hi
        obtain ⟨y, hy, rfl⟩ := hi
        cases j with
        | zero =>
          simp [cInt] at hj; subst hj
          exact ⟨_, by rw [h4]; simpa using h8 i y hy, .v _, fun h => by cases h⟩
        | succ j => simp [cInt] at hj
    · simp only at hl; split at hl <;> cases hl
    · exact absurd ((hL hl).1.trans (hL hl').1.symm) hne
    · obtain ⟨rfl, rfl⟩ := hL hl
      have := hS a ha; omega
    · simp only at hl; split at hl
      · rename_i e; subst e; simp [Store.new, nilStore]
      · cases hl
    · rw [(hob id o ho).1]; simp [Store.new, nilStore]
    · obtain ⟨rfl, rfl⟩ := hL hl
      exact .inl h5

/-- The frames of a view, as the machine's cells. -/
theorem rep_frames {c : Ctx} {base : Nat} {σ : Store} (hI : Inv σ c base) {u : Value} {fs : List Frame} (h : Rep c (.sl (fs.map cFrame)) u) :
    ∃ zs : List Nb.El, Nb.Els c.w.heap.size c.w u zs ∧ zs.length = fs.length ∧ ∀ (j : Nat) (x : Nb.El), zs[j]? = some x → ∃ f : Frame, fs[j]? = some f ∧ x.1 = f.Kind ∧ Rep c (.sl (f.Hs.map (cInt .i64))) (Nb.hs x) := by
  cases h with
  | @sl _ A n cap sz b o u hn hc hA hsz hcell hrep =>
    have hval : ∀ (j : Nat) (f : Frame), fs[j]? = some f → sz = 3 ∧ u j 0 = .int .i64 f.Kind ∧ u j 1 = .int .i64 f.Id ∧ ∃ A m k, u j 2 = .slice A m k ∧ Rep c (.sl (f.Hs.map (cInt .i64))) (.slice A m k) := fun j f hf => by
      have h1 : (fs.map cFrame)[j]? = some (cFrame f) := by simp [hf]
      have hs : sz = 3 := (hsz _ (List.mem_of_getElem? h1)).symm
      have r0 := hrep j _ 0 _ h1 rfl
      have r1 := hrep j _ 1 _ h1 rfl
      have r2 := hrep j _ 2 _ h1 rfl
      generalize u j 0 = v0 at r0
      generalize u j 1 = v1 at r1
      generalize hv2 : u j 2 = v2 at r2
      cases r0; cases r1
      have r2' := r2
      cases r2 with
      | sl sz' b' o' u' hn' hc' hA' hsz' hcell' hrep' => exact ⟨hs, by first | rfl | trivial, by first | rfl | trivial, _, _, _, by first | rfl | trivial, r2'⟩
    have hlen : n = fs.length := by rw [hn]; simp
    let z : Nat → Nb.El := fun j => match fs[j]?, u j 2 with
      | some f, .slice A m k => (f.Kind, f.Id, A, m, k)
      | _, _ => (0, 0, none, 0, 0)
    have hz : ∀ (j : Nat) (f : Frame), fs[j]? = some f → (z j).1 = f.Kind ∧ (z j).2.1 = f.Id ∧ Nb.hs (z j) = u j 2 := fun j f hf => by
      obtain ⟨_, _, _, A, m, k, e, _⟩ := hval j f hf
      simp only [z, hf, e]; exact ⟨trivial, trivial, rfl⟩
    have hget : ∀ (j : Nat) (x : Nb.El), ((List.range fs.length).map z)[j]? = some x → ∃ f, fs[j]? = some f ∧ x = z j := fun j x hx => by
      simp only [List.getElem?_map, Option.map_eq_some_iff] at hx
      obtain ⟨q, hq, rfl⟩ := hx
      obtain ⟨h1, h2⟩ := List.getElem?_eq_some_iff.1 hq
      simp at h1 h2; subst h2
      exact ⟨fs[j], by simp [h1], rfl⟩
    refine ⟨(List.range fs.length).map z, ⟨A, b, o, cap, by simp [hlen], fun hne => ⟨hA (fun e => hne (by simp at e; simp [e])), ?_⟩, fun j x hx => ?_⟩, by simp, fun j x hx => ?_⟩
    · have : fs ≠ [] := fun e => hne (by simp [e])
      obtain ⟨f, rest, e⟩ := List.exists_cons_of_ne_nil this
      have h1 : (fs.map cFrame)[0]? = some (cFrame f) := by simp [e]
      exact hI.core.S_lt (hcell 0 _ 0 _ h1 rfl).2.1
    · obtain ⟨f, hf, rfl⟩ := hget j x hx
      obtain ⟨hs, v0, v1, A', m, k, e, _⟩ := hval j f hf
      obtain ⟨z1, z2, z3⟩ := hz j f hf
      have h1 : (fs.map cFrame)[j]? = some (cFrame f) := by simp [hf]
      subst hs
      have c0 := (hcell j _ 0 _ h1 rfl).1
      have c1 := (hcell j _ 1 _ h1 rfl).1
      have c2 := (hcell j _ 2 _ h1 rfl).1
      rw [v0] at c0; rw [v1] at c1
      rw [z1, z2, z3]
      exact ⟨by simpa using c0, c1, c2⟩
    · obtain ⟨f, hf, rfl⟩ := hget j x hx
      obtain ⟨hs, v0, v1, A', m, k, e, hr⟩ := hval j f hf
      obtain ⟨z1, z2, z3⟩ := hz j f hf
      exact ⟨f, hf, z1, by rw [z3, e]; exact hr⟩

theorem f20_ok (fs : List Frame) (r : List Int × Int) (h : f20 fs = some r) : PureOK E 20 [.sl (List.map cFrame fs)] (.tup [.own false 1 (List.map (cInt .i64) r.1), .v (.int .i64 r.2)]) := by
  unfold f20 at h
  split at h
  case isFalse => cases h
  case isTrue hc =>
  obtain rfl := Option.some.inj h
  intro base σ
  refine ⟨StGo.importAV _ _, fun _ id hid => importAV_keeps _ _ hid, ⟨_, Try.func20, rfl, names _ _ Try.func20⟩, fun c us hI hG hus => ⟨fun id hid _ => importAV_keeps _ _ hid, ?_⟩⟩
  obtain ⟨u, rfl⟩ : ∃ u, us = [u] := by
    have := hus.1
    match us, this with
    | [u], _ => exact ⟨u, rfl⟩
  have hu0 : Rep c (.sl (fs.map cFrame)) u := hus.2 0 _ _ rfl rfl
  have hu : Rep c.none (.sl (fs.map cFrame)) u := Rep.moveC (c := c) (c' := c.none) rfl rfl hu0 rfl
  have hIn := none_inv hI
  obtain ⟨zs, hEls, hzl, hz⟩ := rep_frames hIn hu
  have key := Nb.near_in Fence.wide (fun _ => trivial) 4 rfl (Nat.le_refl _)
  obtain ⟨A, b, off, cap, rfl, hA, hcs⟩ := hEls
  have hEls' : Nb.Els c.w.heap.size c.w (.slice A zs.length cap) zs := ⟨A, b, off, cap, rfl, hA, hcs⟩
  have := callsIn_wide.1 (key A zs.length cap zs (by rw [hzl]; exact hc.1) c.w hEls' (fun hs v W => ∃ l : List Int, Rep c.none (.sl (l.map (cInt .i64))) hs ∧ RowIn (c.w.heap.size + 3) W v l) (fun hs v W W' row ⟨l, h1, h2⟩ hg hr => ⟨l, h1, h2.kept (Nat.le_succ _) hg hr⟩)
    (fun W m hm hB hsz x hx => by
      obtain ⟨j, hj⟩ := List.mem_iff_getElem?.1 hx
      obtain ⟨f, hf, _, hr⟩ := hz j x hj
      refine callsIn_wide.2 ((clone_calls hIn rfl hB hr (hc.2 f (List.mem_of_getElem? hf))).mono ?_)
      rintro e W' ⟨A, m, cc, rfl, h1, h2⟩
      refine ⟨A, m, cc, rfl, ⟨f.Hs, hr, ?_⟩, h2⟩
      rcases h1 with h1 | ⟨A, L, arr, T, q1, q2, q3, q4, q5, q6⟩
      · exact .inl h1
      · exact .inr ⟨A, L, arr, T, q1, q2, q3, q4, by omega, q6⟩))
  refine this.mono ?_
  rintro e W' ⟨hB, h⟩
  refine pure_end hI rfl ?_
  have fin : ∀ (v : Value) (l : List Int) (k : Int), RowIn c.none.w.heap.size W' v l → EndOf base c.none nilStore (.tup [.own false 1 (List.map (cInt .i64) l), .v (.int .i64 k)]) nilStore none (.returned (.tuple #[v, .int .i64 k])) W' := fun v l k hrow => by
    obtain ⟨c', h1, h2, h3, h4, h5⟩ := row_ctx hIn rfl hB hrow k
    refine ⟨_, c', rfl, h1, h2, h3, ?_, h5⟩
    show Rep c' (.tup [.row 0 1 0 (List.map (cInt .i64) l).length, .v (.int .i64 k)]) _
    refine .tup rfl fun j x u q1 q2 => ?_
    match j with
    | 0 => simp at q1 q2; subst q1; subst q2; simpa using h4
    | 1 => simp at q1 q2; subst q1; subst q2; exact .v _
    | j + 2 => simp at q1
  rcases h with ⟨rfl, hno⟩ | ⟨k, x, v, hx, h3, hlast, rfl, l, hl, hrow⟩
  · have hn : nearFrom fs fs.length = ([], -1) := nearFrom_none (fun f hf => by
      obtain ⟨j, hj⟩ := List.mem_iff_getElem?.1 hf
      have hjl := (List.getElem?_eq_some_iff.1 hj).1
      have hxj : zs[j]? = some (zs[j]'(by omega)) := by simp
      obtain ⟨g, hg, e, _⟩ := hz j _ hxj
      rw [hj] at hg; cases hg
      rw [← e]; exact hno _ (List.mem_of_getElem? hxj)) _
    rw [hn]
    exact fin _ [] (-1) (.inl ⟨none, rfl, rfl⟩)
  · obtain ⟨f, hf, e, hr⟩ := hz k x hx
    obtain rfl := rep_ints_eq hl hr
    have hk := (List.getElem?_eq_some_iff.1 hf).1
    have hn : nearFrom fs fs.length = (f.Hs, (k : Int)) := nearFrom_at hf (by rw [← e]; exact h3) (fun j g hj hg => by
      have hjl := (List.getElem?_eq_some_iff.1 hg).1
      have hxj : zs[j]? = some (zs[j]'(by omega)) := by simp
      obtain ⟨g', hg', e', _⟩ := hz j _ hxj
      rw [hg] at hg'; cases hg'
      rw [← e']; exact hlast j _ hj hxj) _ hk
    rw [hn]
    refine fin _ _ _ ?_
    rcases hrow with h1 | ⟨A, L, arr, T, q1, q2, q3, q4, q5, q6⟩
    · exact .inl h1
    · exact .inr ⟨A, L, arr, T, q1, q2, q3, q4, by show c.w.heap.size ≤ _; omega, q6⟩
end Go.Bx.Wind

/- sibyl/wind.Nearest, printed by pf.py. (Own text.) -/
namespace Go.Bx.Wind
set_option linter.unusedVariables false
set_option linter.unusedSimpArgs false
set_option linter.unusedSectionVars false
open Go.Proofs
set_option linter.unusedSimpArgs false
set_option linter.unusedVariables false
set_option maxRecDepth 10000
-- theorem f20_ok (fs : List Frame) (r : (List Int) × Int) (h : f20 fs = some r) : PureOK E 20 [.sl (List.map cFrame fs)] (.tup [.own false 1 (List.map (cInt .i64) r.1), .v (.int .i64 r.2)])
noncomputable def f20_tbl : CI := tbl 20 (fun p : (List Frame) => [.sl (List.map cFrame p)]) (fun p => (f20 p).map fun r => .tup [.own false 1 (List.map (cInt .i64) r.1), .v (.int .i64 r.2)])
theorem f20_tbl_ok {base : Nat} : CIOK E base f20_tbl := tbl_ok fun p r h => by obtain ⟨q, hq, rfl⟩ := Option.map_eq_some_iff.1 h; exact f20_ok p q hq
theorem f20_call {fs : List Frame} {r : (List Int) × Int} (h : f20 fs = some r) (σ : Store) : f20_tbl 20 [.sl (List.map cFrame fs)] σ = some (.tup [.own false 1 (List.map (cInt .i64) r.1), .v (.int .i64 r.2)], σ, none) :=
  tbl_eq (x := (fs)) (fun x y e => by
    exact av_sl injFrame (List.cons.inj e).1) (by simp [h]) σ
end Go.Bx.Wind

/- sibyl/sibyllaw15.wakes, printed by pf.py. (Own text.) -/
namespace Go.Bx.Wind
set_option linter.unusedVariables false
set_option linter.unusedSimpArgs false
set_option linter.unusedSectionVars false
open Go.Proofs
set_option linter.unusedSimpArgs false
set_option linter.unusedVariables false
set_option maxRecDepth 10000
/-- sibyl/sibyllaw15.wakes -/
def f8  : Option (Bool) :=
  f22 [1, 2, 3] >>= fun r1 =>
  f22 [1, 4, 3] >>= fun r2 =>
  f16 r1 r2 >>= fun r3 =>
  f18 [1, 2, 3] r3 >>= fun r4 =>
  f18 [1, 3, 2] r3 >>= fun r5 =>
  f20 [(⟨1, 0, []⟩ : Frame), (⟨3, 0, [7, 8]⟩ : Frame), (⟨2, 4, []⟩ : Frame)] >>= fun r6 =>
  (f15 r3 (⟨1, [3, 2], [4, 3]⟩ : Trip) >>= fun r8 =>
  if r8 = true then
    (if (r4.2 == 0) = true then
      (f9 r4.1 [1, 4, 3] >>= fun r9 =>
      if r9 = true then
        (if (r5.2 == 150) = true then
          (if (r6.2 == 1) = true then
            (f9 r6.1 [7, 8] >>= fun r10 =>
            some r10)
          else
            some false)
        else
          some false)
      else
        some false)
    else
      some false)
  else
    some false : Option (Bool)) >>= fun o7 =>
  some o7

noncomputable def f8_ci : CI := (CI.or 22 f22_tbl (CI.or 16 f16_tbl (CI.or 18 f18_tbl (CI.or 20 f20_tbl (CI.or 15 f15_tbl (CI.or 9 f9_tbl (fun _ _ _ => none)))))))
theorem f8_ci_ok (base : Nat) : CIOK E base f8_ci := (or_ok f22_tbl_ok (or_ok f16_tbl_ok (or_ok f18_tbl_ok (or_ok f20_tbl_ok (or_ok f15_tbl_ok (or_ok f9_tbl_ok no_ok))))))
theorem f8_res : Try.f8.results = #[.tmp 0] := rfl
theorem f8_rt : Try.f8.resultTypes = #[4] := rfl

set_option maxHeartbeats 4000000 in
theorem f8_ok  (r : Bool) (h : f8  = some r) : PureOK E 8 [] (.v (.bool r)) := by
  unfold f8 at h
  refine pure_of_wp tabOK mixed (fn := Try.f8) (nt := 61) Try.func8 rfl rfl (names _ _ Try.func8) rfl rfl (fun _ => rfl) (fun base c00 hU => ?_)
  refine Wk.wp (s2 := ⟨jj 61 [], St [], none, 0⟩) ?_ ?_
  · refine Wk.weak hU [] _ (by decide) .nil ?_
    simp only [jjs, List.length_cons, List.length_nil, Nat.reduceAdd, Nat.reduceSub, List.replicate, List.cons_append, List.nil_append]
    repeat' (first | exact WVs.nil | refine WVs.cons ?_ ?_)
    all_goals first | exact WV.junk _ | exact WV.keep rfl | exact .agg rfl (aggKeep rfl)
  try simp only [jjs]
  refine Wp.seq ?_
  refine Wp.region hU (f8_ci_ok _) (by simp (decide := true) (disch := (first | omega | (simp only [List.length_append, List.length_map, List.length_cons, List.length_nil]; omega))) only [evOp, putTm, E_T, E_gl, E_br, tdesc, reduceIte, reduceCtorEq, Nat.reduceAdd, Nat.reduceSub, Nat.reduceLT, Nat.reduceLeDiff, Nat.reduceEqDiff, bxm, tabs, tys]; rfl) ?_
  refine thenN ?_
  refine Wp.seq ?_
  obtain ⟨r1, hr1, h⟩ := bind_some h
  have hr1c : ∀ σ, f8_ci 22 [.sl (List.map (cInt .i64) [1, 2, 3])] σ = some (.own false 3 (List.map cFrame r1), σ, none) := fun σ => f22_call hr1 σ
  try simp only [List.map_cons, List.map_nil, cInt_eq, cBool_eq, cStr_eq, cSl_eq, tys] at hr1c
  obtain ⟨r2, hr2, h⟩ := bind_some h
  have hr2c : ∀ σ, f8_ci 22 [.sl (List.map (cInt .i64) [1, 4, 3])] σ = some (.own false 3 (List.map cFrame r2), σ, none) := fun σ => f22_call hr2 σ
  try simp only [List.map_cons, List.map_nil, cInt_eq, cBool_eq, cStr_eq, cSl_eq, tys] at hr2c
  obtain ⟨r3, hr3, h⟩ := bind_some h
  have hr3c : ∀ σ, f8_ci 16 [.sl (List.map cFrame r1), .sl (List.map cFrame r2)] σ = some (.agg [.v (.int .i64 r3.Common), .own false 1 (List.map (cInt .i64) r3.Out), .own false 1 (List.map (cInt .i64) r3.In)], σ, none) := fun σ => f16_call hr3 σ
  refine Wp.region hU (f8_ci_ok _) (by simp (decide := true) (disch := (first | omega | (simp only [List.length_append, List.length_map, List.length_cons, List.length_nil]; omega))) only [evOp, putTm, E_T, E_gl, E_br, tdesc, reduceIte, reduceCtorEq, Nat.reduceAdd, Nat.reduceSub, Nat.reduceLT, Nat.reduceLeDiff, Nat.reduceEqDiff, bxm, tabs, evA, evCall, mapO, importL, import2L, import1, import2, share, fresh1, freshL, evStore, putAt, hr1c, hr2c, hr3c, tys]; rfl) ?_
  refine thenN ?_
  refine Wp.seq ?_
  obtain ⟨r4, hr4, h⟩ := bind_some h
  have hr4c : ∀ σ, f8_ci 18 [.sl (List.map (cInt .i64) [1, 2, 3]), .agg [.v (.int .i64 r3.Common), .sl (List.map (cInt .i64) r3.Out), .sl (List.map (cInt .i64) r3.In)]] σ = some (.tup [.own false 1 (List.map (cInt .i64) r4.1), .v (.int .i64 r4.2)], σ, none) := fun σ => f18_call hr4 σ
  try simp only [List.map_cons, List.map_nil, cInt_eq, cBool_eq, cStr_eq, cSl_eq, tys] at hr4c
  refine Wp.region hU (f8_ci_ok _) (by simp (decide := true) (disch := (first | omega | (simp only [List.length_append, List.length_map, List.length_cons, List.length_nil]; omega))) only [evOp, putTm, E_T, E_gl, E_br, tdesc, reduceIte, reduceCtorEq, Nat.reduceAdd, Nat.reduceSub, Nat.reduceLT, Nat.reduceLeDiff, Nat.reduceEqDiff, bxm, tabs, evA, evLoad, ldV, ofCells, TD.isAgg, evCall, mapO, importL, import2L, import1, import2, share, fresh1, freshL, hr4c, tys]; rfl) ?_
  refine thenN ?_
  refine Wp.seq ?_
  obtain ⟨r5, hr5, h⟩ := bind_some h
  have hr5c : ∀ σ, f8_ci 18 [.sl (List.map (cInt .i64) [1, 3, 2]), .agg [.v (.int .i64 r3.Common), .sl (List.map (cInt .i64) r3.Out), .sl (List.map (cInt .i64) r3.In)]] σ = some (.tup [.own false 1 (List.map (cInt .i64) r5.1), .v (.int .i64 r5.2)], σ, none) := fun σ => f18_call hr5 σ
  try simp only [List.map_cons, List.map_nil, cInt_eq, cBool_eq, cStr_eq, cSl_eq, tys] at hr5c
  refine Wp.region hU (f8_ci_ok _) (by simp (decide := true) (disch := (first | omega | (simp only [List.length_append, List.length_map, List.length_cons, List.length_nil]; omega))) only [evOp, putTm, E_T, E_gl, E_br, tdesc, reduceIte, reduceCtorEq, Nat.reduceAdd, Nat.reduceSub, Nat.reduceLT, Nat.reduceLeDiff, Nat.reduceEqDiff, bxm, tabs, evA, evLoad, ldV, ofCells, TD.isAgg, evCall, mapO, importL, import2L, import1, import2, share, fresh1, freshL, hr5c, tys]; rfl) ?_
  refine thenN ?_
  refine Wp.seq ?_
  obtain ⟨r6, hr6, h⟩ := bind_some h
  have hr6c : ∀ σ, f8_ci 20 [.sl (List.map cFrame [(⟨1, 0, []⟩ : Frame), (⟨3, 0, [7, 8]⟩ : Frame), (⟨2, 4, []⟩ : Frame)])] σ = some (.tup [.own false 1 (List.map (cInt .i64) r6.1), .v (.int .i64 r6.2)], σ, none) := fun σ => f20_call hr6 σ
  try simp only [List.map_cons, List.map_nil, cInt_eq, cBool_eq, cStr_eq, cSl_eq, tys] at hr6c
  refine Wp.region hU (f8_ci_ok _) (by simp (decide := true) (disch := (first | omega | (simp only [List.length_append, List.length_map, List.length_cons, List.length_nil]; omega))) only [evOp, putTm, E_T, E_gl, E_br, tdesc, reduceIte, reduceCtorEq, Nat.reduceAdd, Nat.reduceSub, Nat.reduceLT, Nat.reduceLeDiff, Nat.reduceEqDiff, bxm, tabs, evA, fillL, putAt, evCall, mapO, importL, import2L, import1, import2, share, fresh1, freshL, hr6c, tys]; rfl) ?_
  refine thenN ?_
  obtain ⟨o7, ho7, h⟩ := bind_some h
  refine Wp.seq1 (JP := (fun ex s1 => ex = .nrm ∧ Wk base c00 nilStore s1 ⟨.v (.bool o7) :: jj 60 [], St [], none, 0⟩)) ?_ (fun ex s1 hp => ?_)
  · replace h := ho7
    obtain ⟨r8, hr8, h⟩ := bind_some h
    have hr8c : ∀ σ, f8_ci 15 [.agg [.v (.int .i64 r3.Common), .sl (List.map (cInt .i64) r3.Out), .sl (List.map (cInt .i64) r3.In)], .agg [.v (.int .i64 (((⟨1, [3, 2], [4, 3]⟩ : Trip)).Common)), .sl (List.map (cInt .i64) (((⟨1, [3, 2], [4, 3]⟩ : Trip)).Out)), .sl (List.map (cInt .i64) (((⟨1, [3, 2], [4, 3]⟩ : Trip)).In))]] σ = some (.v (.bool r8), σ, none) := fun σ => f15_call hr8 σ
    try simp only [List.map_cons, List.map_nil, cInt_eq, cBool_eq, cStr_eq, cSl_eq, tys] at hr8c
    rcases Bool.eq_false_or_eq_true (r8) with hg11 | hg11
    · rw [if_t hg11] at h
      rcases Bool.eq_false_or_eq_true (r4.2 == 0) with hg12 | hg12
      · rw [if_t hg12] at h
        obtain ⟨r9, hr9, h⟩ := bind_some h
        have hr9c : ∀ σ, f8_ci 9 [.sl (List.map (cInt .i64) r4.1), .sl (List.map (cInt .i64) [1, 4, 3])] σ = some (.v (.bool r9), σ, none) := fun σ => f9_call hr9 σ
        try simp only [List.map_cons, List.map_nil, cInt_eq, cBool_eq, cStr_eq, cSl_eq, tys] at hr9c
        rcases Bool.eq_false_or_eq_true (r9) with hg13 | hg13
        · rw [if_t hg13] at h
          rcases Bool.eq_false_or_eq_true (r5.2 == 150) with hg14 | hg14
          · rw [if_t hg14] at h
            rcases Bool.eq_false_or_eq_true (r6.2 == 1) with hg15 | hg15
            · rw [if_t hg15] at h
              obtain ⟨r10, hr10, h⟩ := bind_some h
              have hr10c : ∀ σ, f8_ci 9 [.sl (List.map (cInt .i64) r6.1), .sl (List.map (cInt .i64) [7, 8])] σ = some (.v (.bool r10), σ, none) := fun σ => f9_call hr10 σ
              try simp only [List.map_cons, List.map_nil, cInt_eq, cBool_eq, cStr_eq, cSl_eq, tys] at hr10c
              refine Wp.region hU (f8_ci_ok _) (by simp (decide := true) (disch := (first | omega | (simp only [List.length_append, List.length_map, List.length_cons, List.length_nil]; omega))) only [evOp, putTm, E_T, E_gl, E_br, tdesc, reduceIte, reduceCtorEq, Nat.reduceAdd, Nat.reduceSub, Nat.reduceLT, Nat.reduceLeDiff, Nat.reduceEqDiff, bxm, tabs, evLoad, ldV, ofCells, TD.isAgg, evA, fillL, putAt, evCall, mapO, importL, import2L, import1, import2, share, fresh1, freshL, evBin, intBin, strBin, bothNil, constOp, eqCells, hr8c, hr9c, hr10c, hg11, hg12, hg13, hg14, hg15, tys]; rfl) ?_
              obtain rfl := Option.some.inj h
              refine ⟨rfl, ?_⟩
              try simp only [jjs]
              refine Wk.weak hU [] _ (by decide) ?_ ?_
              · exact .nil
              · (repeat' (first | exact WVs.nil | refine WVs.cons ?_ ?_ | (refine WVs.aggW ?_) | (refine WVs.fnW ?_ ?_))) <;> (first | exact WV.junk _ | exact WV.keep rfl | exact WV.row rfl | exact WV.nil rfl | exact WV.nilsl | exact WV.emp rfl | exact WV.empsl | exact WV.ptr rfl | (refine WV.row_eq rfl ?_; simp only [bxw, tys]) | (refine WV.view (k := 3) ?_; simp (decide := true) only [reify, share, fresh1, reduceIte, reduceCtorEq, Nat.reduceAdd, bxm, tys]) | (refine WV.eq ?_ rfl; simp only [bxw, tys]))
            · rw [if_f hg15] at h
              refine Wp.region hU (f8_ci_ok _) (by simp (decide := true) (disch := (first | omega | (simp only [List.length_append, List.length_map, List.length_cons, List.length_nil]; omega))) only [evOp, putTm, E_T, E_gl, E_br, tdesc, reduceIte, reduceCtorEq, Nat.reduceAdd, Nat.reduceSub, Nat.reduceLT, Nat.reduceLeDiff, Nat.reduceEqDiff, bxm, tabs, evLoad, ldV, ofCells, TD.isAgg, evA, fillL, putAt, evCall, mapO, importL, import2L, import1, import2, share, fresh1, freshL, evBin, intBin, strBin, bothNil, constOp, eqCells, hr8c, hr9c, hg11, hg12, hg13, hg14, hg15, tys]; rfl) ?_
              obtain rfl := Option.some.inj h
              refine ⟨rfl, ?_⟩
              try simp only [jjs]
              refine Wk.weak hU [] _ (by decide) ?_ ?_
              · exact .nil
              · (repeat' (first | exact WVs.nil | refine WVs.cons ?_ ?_ | (refine WVs.aggW ?_) | (refine WVs.fnW ?_ ?_))) <;> (first | exact WV.junk _ | exact WV.keep rfl | exact WV.row rfl | exact WV.nil rfl | exact WV.nilsl | exact WV.emp rfl | exact WV.empsl | exact WV.ptr rfl | (refine WV.row_eq rfl ?_; simp only [bxw, tys]) | (refine WV.view (k := 3) ?_; simp (decide := true) only [reify, share, fresh1, reduceIte, reduceCtorEq, Nat.reduceAdd, bxm, tys]) | (refine WV.eq ?_ rfl; simp only [bxw, tys]))
          · rw [if_f hg14] at h
            refine Wp.region hU (f8_ci_ok _) (by simp (decide := true) (disch := (first | omega | (simp only [List.length_append, List.length_map, List.length_cons, List.length_nil]; omega))) only [evOp, putTm, E_T, E_gl, E_br, tdesc, reduceIte, reduceCtorEq, Nat.reduceAdd, Nat.reduceSub, Nat.reduceLT, Nat.reduceLeDiff, Nat.reduceEqDiff, bxm, tabs, evLoad, ldV, ofCells, TD.isAgg, evA, fillL, putAt, evCall, mapO, importL, import2L, import1, import2, share, fresh1, freshL, evBin, intBin, strBin, bothNil, constOp, eqCells, hr8c, hr9c, hg11, hg12, hg13, hg14, tys]; rfl) ?_
            obtain rfl := Option.some.inj h
            refine ⟨rfl, ?_⟩
            try simp only [jjs]
            refine Wk.weak hU [] _ (by decide) ?_ ?_
            · exact .nil
            · (repeat' (first | exact WVs.nil | refine WVs.cons ?_ ?_ | (refine WVs.aggW ?_) | (refine WVs.fnW ?_ ?_))) <;> (first | exact WV.junk _ | exact WV.keep rfl | exact WV.row rfl | exact WV.nil rfl | exact WV.nilsl | exact WV.emp rfl | exact WV.empsl | exact WV.ptr rfl | (refine WV.row_eq rfl ?_; simp only [bxw, tys]) | (refine WV.view (k := 3) ?_; simp (decide := true) only [reify, share, fresh1, reduceIte, reduceCtorEq, Nat.reduceAdd, bxm, tys]) | (refine WV.eq ?_ rfl; simp only [bxw, tys]))
        · rw [if_f hg13] at h
          refine Wp.region hU (f8_ci_ok _) (by simp (decide := true) (disch := (first | omega | (simp only [List.length_append, List.length_map, List.length_cons, List.length_nil]; omega))) only [evOp, putTm, E_T, E_gl, E_br, tdesc, reduceIte, reduceCtorEq, Nat.reduceAdd, Nat.reduceSub, Nat.reduceLT, Nat.reduceLeDiff, Nat.reduceEqDiff, bxm, tabs, evLoad, ldV, ofCells, TD.isAgg, evA, fillL, putAt, evCall, mapO, importL, import2L, import1, import2, share, fresh1, freshL, evBin, intBin, strBin, bothNil, constOp, eqCells, hr8c, hr9c, hg11, hg12, hg13, tys]; rfl) ?_
          obtain rfl := Option.some.inj h
          refine ⟨rfl, ?_⟩
          try simp only [jjs]
          refine Wk.weak hU [] _ (by decide) ?_ ?_
          · exact .nil
          · (repeat' (first | exact WVs.nil | refine WVs.cons ?_ ?_ | (refine WVs.aggW ?_) | (refine WVs.fnW ?_ ?_))) <;> (first | exact WV.junk _ | exact WV.keep rfl | exact WV.row rfl | exact WV.nil rfl | exact WV.nilsl | exact WV.emp rfl | exact WV.empsl | exact WV.ptr rfl | (refine WV.row_eq rfl ?_; simp only [bxw, tys]) | (refine WV.view (k := 3) ?_; simp (decide := true) only [reify, share, fresh1, reduceIte, reduceCtorEq, Nat.reduceAdd, bxm, tys]) | (refine WV.eq ?_ rfl; simp only [bxw, tys]))
      · rw [if_f hg12] at h
        refine Wp.region hU (f8_ci_ok _) (by simp (decide := true) (disch := (first | omega | (simp only [List.length_append, List.length_map, List.length_cons, List.length_nil]; omega))) only [evOp, putTm, E_T, E_gl, E_br, tdesc, reduceIte, reduceCtorEq, Nat.reduceAdd, Nat.reduceSub, Nat.reduceLT, Nat.reduceLeDiff, Nat.reduceEqDiff, bxm, tabs, evLoad, ldV, ofCells, TD.isAgg, evA, fillL, putAt, evCall, mapO, importL, import2L, import1, import2, share, fresh1, freshL, evBin, intBin, strBin, bothNil, constOp, eqCells, hr8c, hg11, hg12, tys]; rfl) ?_
        obtain rfl := Option.some.inj h
        refine ⟨rfl, ?_⟩
        try simp only [jjs]
        refine Wk.weak hU [] _ (by decide) ?_ ?_
        · exact .nil
        · (repeat' (first | exact WVs.nil | refine WVs.cons ?_ ?_ | (refine WVs.aggW ?_) | (refine WVs.fnW ?_ ?_))) <;> (first | exact WV.junk _ | exact WV.keep rfl | exact WV.row rfl | exact WV.nil rfl | exact WV.nilsl | exact WV.emp rfl | exact WV.empsl | exact WV.ptr rfl | (refine WV.row_eq rfl ?_; simp only [bxw, tys]) | (refine WV.view (k := 3) ?_; simp (decide := true) only [reify, share, fresh1, reduceIte, reduceCtorEq, Nat.reduceAdd, bxm, tys]) | (refine WV.eq ?_ rfl; simp only [bxw, tys]))
    · rw [if_f hg11] at h
      refine Wp.region hU (f8_ci_ok _) (by simp (decide := true) (disch := (first | omega | (simp only [List.length_append, List.length_map, List.length_cons, List.length_nil]; omega))) only [evOp, putTm, E_T, E_gl, E_br, tdesc, reduceIte, reduceCtorEq, Nat.reduceAdd, Nat.reduceSub, Nat.reduceLT, Nat.reduceLeDiff, Nat.reduceEqDiff, bxm, tabs, evLoad, ldV, ofCells, TD.isAgg, evA, fillL, putAt, evCall, mapO, importL, import2L, import1, import2, share, fresh1, freshL, evBin, intBin, strBin, bothNil, constOp, eqCells, hr8c, hg11, tys]; rfl) ?_
      obtain rfl := Option.some.inj h
      refine ⟨rfl, ?_⟩
      try simp only [jjs]
      refine Wk.weak hU [] _ (by decide) ?_ ?_
      · exact .nil
      · (repeat' (first | exact WVs.nil | refine WVs.cons ?_ ?_ | (refine WVs.aggW ?_) | (refine WVs.fnW ?_ ?_))) <;> (first | exact WV.junk _ | exact WV.keep rfl | exact WV.row rfl | exact WV.nil rfl | exact WV.nilsl | exact WV.emp rfl | exact WV.empsl | exact WV.ptr rfl | (refine WV.row_eq rfl ?_; simp only [bxw, tys]) | (refine WV.view (k := 3) ?_; simp (decide := true) only [reify, share, fresh1, reduceIte, reduceCtorEq, Nat.reduceAdd, bxm, tys]) | (refine WV.eq ?_ rfl; simp only [bxw, tys]))
  · obtain ⟨rfl, hp⟩ := hp
    refine thenN (hp.wp ?_)
    try simp only [jjs]
    refine Wp.ret ?_
    obtain rfl := Option.some.inj h
    refine ⟨.inl rfl, ?_⟩
    refine Rt.of ?_
    simp (decide := true) only [evReturn, retShare, evReturn0, resAV, evLoad, ofCells, TD.isAgg, mapO, exportVs, exportV, exportL, export1, rowsOf, rowOf, innerIds, rowIds, one, closed, share, fresh1, E_T, reduceIte, reduceCtorEq, Nat.reduceAdd, Nat.reduceSub, Nat.reduceLT, Nat.reduceLeDiff, Nat.reduceEqDiff, bxm, tabs, List.map_append, f8_res, f8_rt, tys]

noncomputable def f8_tbl : CI := tbl 8 (fun p : Unit => []) (fun p => (f8 ).map fun r => .v (.bool r))
theorem f8_tbl_ok {base : Nat} : CIOK E base f8_tbl := tbl_ok fun p r h => by obtain ⟨q, hq, rfl⟩ := Option.map_eq_some_iff.1 h; exact f8_ok  q hq
theorem f8_call  {r : Bool} (h : f8  = some r) (σ : Store) : f8_tbl 8 [] σ = some (.v (.bool r), σ, none) :=
  tbl_eq (x := ()) (fun x y e => by
    rfl) (by simp [h]) σ
end Go.Bx.Wind

/- sibyl/sibyllaw15.WindPlans, printed by pf.py. (Own text.) -/
namespace Go.Bx.Wind
set_option linter.unusedVariables false
set_option linter.unusedSimpArgs false
set_option linter.unusedSectionVars false
open Go.Proofs
set_option linter.unusedSimpArgs false
set_option linter.unusedVariables false
set_option maxRecDepth 10000
/-- sibyl/sibyllaw15.WindPlans -/
def f3 (from_ : List Frame) (to : List Frame) : Option (Bool) :=
  f8 >>= fun r1 =>
  if (!r1) = true then
    (some false)
  else
    (f11 from_ >>= fun r4 =>
    f10 r4 >>= fun r5 =>
    f12 from_ >>= fun r6 =>
    f9 r5 r6 >>= fun r7 =>
    if r7 = true then
      (f11 to >>= fun r8 =>
      f13 r4 r8 >>= fun r9 =>
      f14 from_ to >>= fun r10 =>
      if (r9 == r10) = true then
        (f16 r4 r8 >>= fun r11 =>
        f17 from_ to >>= fun r12 =>
        f15 r11 r12 >>= fun r13 =>
        some r13)
      else
        some false)
    else
      some false : Option (Bool)) >>= fun o3 =>
    some o3

noncomputable def f3_ci : CI := (CI.or 8 f8_tbl (CI.or 11 f11_tbl (CI.or 10 f10_tbl (CI.or 12 f12_tbl (CI.or 9 f9_tbl (CI.or 13 f13_tbl (CI.or 14 f14_tbl (CI.or 16 f16_tbl (CI.or 17 f17_tbl (CI.or 15 f15_tbl (fun _ _ _ => none)))))))))))
theorem f3_ci_ok (base : Nat) : CIOK E base f3_ci := (or_ok f8_tbl_ok (or_ok f11_tbl_ok (or_ok f10_tbl_ok (or_ok f12_tbl_ok (or_ok f9_tbl_ok (or_ok f13_tbl_ok (or_ok f14_tbl_ok (or_ok f16_tbl_ok (or_ok f17_tbl_ok (or_ok f15_tbl_ok no_ok))))))))))
theorem f3_res : Try.f3.results = #[.tmp 4] := rfl
theorem f3_rt : Try.f3.resultTypes = #[4] := rfl

set_option maxHeartbeats 4000000 in
theorem f3_ok (from_ : List Frame) (to : List Frame) (r : Bool) (h : f3 from_ to = some r) : PureOK E 3 [.sl (List.map cFrame from_), .sl (List.map cFrame to)] (.v (.bool r)) := by
  unfold f3 at h
  refine pure_of_wp tabOK mixed (fn := Try.f3) (nt := 35) Try.func3 rfl rfl (names _ _ Try.func3) rfl rfl (fun _ => rfl) (fun base c00 hU => ?_)
  refine Wk.wp (s2 := ⟨.sl (List.map cFrame from_) :: .sl (List.map cFrame to) :: jj 33 [], St [], none, 0⟩) ?_ ?_
  · refine Wk.weak hU [] _ (by decide) .nil ?_
    simp only [jjs, List.length_cons, List.length_nil, Nat.reduceAdd, Nat.reduceSub, List.replicate, List.cons_append, List.nil_append]
    repeat' (first | exact WVs.nil | refine WVs.cons ?_ ?_)
    all_goals first | exact WV.junk _ | exact WV.keep rfl | exact .agg rfl (aggKeep rfl)
  try simp only [jjs]
  refine Wp.seq ?_
  refine Wp.region hU (f3_ci_ok _) (by simp (decide := true) (disch := (first | omega | (simp only [List.length_append, List.length_map, List.length_cons, List.length_nil]; omega))) only [evOp, putTm, E_T, E_gl, E_br, tdesc, reduceIte, reduceCtorEq, Nat.reduceAdd, Nat.reduceSub, Nat.reduceLT, Nat.reduceLeDiff, Nat.reduceEqDiff, bxm, tabs, tys]; rfl) ?_
  refine thenN ?_
  refine Wp.seq ?_
  refine Wp.seq ?_
  obtain ⟨r1, hr1, h⟩ := bind_some h
  have hr1c : ∀ σ, f3_ci 8 [] σ = some (.v (.bool r1), σ, none) := fun σ => f8_call hr1 σ
  refine Wp.region hU (f3_ci_ok _) (by simp (decide := true) (disch := (first | omega | (simp only [List.length_append, List.length_map, List.length_cons, List.length_nil]; omega))) only [evOp, putTm, E_T, E_gl, E_br, tdesc, reduceIte, reduceCtorEq, Nat.reduceAdd, Nat.reduceSub, Nat.reduceLT, Nat.reduceLeDiff, Nat.reduceEqDiff, bxm, tabs, evCall, mapO, importL, import2L, import1, import2, share, fresh1, freshL, evUn, hr1c, tys]; rfl) ?_
  refine thenN ?_
  refine Wp.cond hU (t := !r1) rfl (fun hc2 => ?_) (fun hc2 => ?_)
  · rw [if_t hc2] at h
    refine Wp.seq ?_
    refine Wp.region hU (f3_ci_ok _) (by simp (decide := true) (disch := (first | omega | (simp only [List.length_append, List.length_map, List.length_cons, List.length_nil]; omega))) only [evOp, putTm, E_T, E_gl, E_br, tdesc, reduceIte, reduceCtorEq, Nat.reduceAdd, Nat.reduceSub, Nat.reduceLT, Nat.reduceLeDiff, Nat.reduceEqDiff, bxm, tabs, hc2, tys]; rfl) ?_
    refine thenN ?_
    refine Wp.ret ?_
    refine thenR ?_
    obtain rfl := Option.some.inj h
    refine ⟨.inl rfl, ?_⟩
    refine Rt.of ?_
    simp (decide := true) only [evReturn, retShare, evReturn0, resAV, evLoad, ofCells, TD.isAgg, mapO, exportVs, exportV, exportL, export1, rowsOf, rowOf, innerIds, rowIds, one, closed, share, fresh1, E_T, reduceIte, reduceCtorEq, Nat.reduceAdd, Nat.reduceSub, Nat.reduceLT, Nat.reduceLeDiff, Nat.reduceEqDiff, bxm, tabs, List.map_append, f3_res, f3_rt, tys]
  · rw [if_f hc2] at h
    refine Wp.skip ?_
    refine thenN ?_
    obtain ⟨o3, ho3, h⟩ := bind_some h
    refine Wp.seq1 (JP := (fun ex s1 => ex = .nrm ∧ Wk base c00 nilStore s1 ⟨jj 4 (.v (.bool o3) :: jj 30 []), St [], none, 0⟩)) ?_ (fun ex s1 hp => ?_)
    · replace h := ho3
      obtain ⟨r4, hr4, h⟩ := bind_some h
      have hr4c : ∀ σ, f3_ci 11 [.sl (List.map cFrame from_)] σ = some (.own false 3 (List.map cFrame r4), σ, none) := fun σ => f11_call hr4 σ
      obtain ⟨r5, hr5, h⟩ := bind_some h
      have hr5c : ∀ σ, f3_ci 10 [.sl (List.map cFrame r4)] σ = some (.own false 1 (List.map (cInt .i64) r5), σ, none) := fun σ => f10_call hr5 σ
      obtain ⟨r6, hr6, h⟩ := bind_some h
      have hr6c : ∀ σ, f3_ci 12 [.sl (List.map cFrame from_)] σ = some (.own false 1 (List.map (cInt .i64) r6), σ, none) := fun σ => f12_call hr6 σ
      obtain ⟨r7, hr7, h⟩ := bind_some h
      have hr7c : ∀ σ, f3_ci 9 [.sl (List.map (cInt .i64) r5), .sl (List.map (cInt .i64) r6)] σ = some (.v (.bool r7), σ, none) := fun σ => f9_call hr7 σ
      rcases Bool.eq_false_or_eq_true (r7) with hg5 | hg5
      · rw [if_t hg5] at h
        obtain ⟨r8, hr8, h⟩ := bind_some h
        have hr8c : ∀ σ, f3_ci 11 [.sl (List.map cFrame to)] σ = some (.own false 3 (List.map cFrame r8), σ, none) := fun σ => f11_call hr8 σ
        obtain ⟨r9, hr9, h⟩ := bind_some h
        have hr9c : ∀ σ, f3_ci 13 [.sl (List.map cFrame r4), .sl (List.map cFrame r8)] σ = some (.v (.int .i64 r9), σ, none) := fun σ => f13_call hr9 σ
        obtain ⟨r10, hr10, h⟩ := bind_some h
        have hr10c : ∀ σ, f3_ci 14 [.sl (List.map cFrame from_), .sl (List.map cFrame to)] σ = some (.v (.int .i64 r10), σ, none) := fun σ => f14_call hr10 σ
        rcases Bool.eq_false_or_eq_true (r9 == r10) with hg6 | hg6
        · rw [if_t hg6] at h
          obtain ⟨r11, hr11, h⟩ := bind_some h
          have hr11c : ∀ σ, f3_ci 16 [.sl (List.map cFrame r4), .sl (List.map cFrame r8)] σ = some (.agg [.v (.int .i64 r11.Common), .own false 1 (List.map (cInt .i64) r11.Out), .own false 1 (List.map (cInt .i64) r11.In)], σ, none) := fun σ => f16_call hr11 σ
          obtain ⟨r12, hr12, h⟩ := bind_some h
          have hr12c : ∀ σ, f3_ci 17 [.sl (List.map cFrame from_), .sl (List.map cFrame to)] σ = some (.agg [.v (.int .i64 r12.Common), .own false 1 (List.map (cInt .i64) r12.Out), .own false 1 (List.map (cInt .i64) r12.In)], σ, none) := fun σ => f17_call hr12 σ
          obtain ⟨r13, hr13, h⟩ := bind_some h
          have hr13c : ∀ σ, f3_ci 15 [.agg [.v (.int .i64 r11.Common), .sl (List.map (cInt .i64) r11.Out), .sl (List.map (cInt .i64) r11.In)], .agg [.v (.int .i64 r12.Common), .sl (List.map (cInt .i64) r12.Out), .sl (List.map (cInt .i64) r12.In)]] σ = some (.v (.bool r13), σ, none) := fun σ => f15_call hr13 σ
          refine Wp.region hU (f3_ci_ok _) (by simp (decide := true) (disch := (first | omega | (simp only [List.length_append, List.length_map, List.length_cons, List.length_nil]; omega))) only [evOp, putTm, E_T, E_gl, E_br, tdesc, reduceIte, reduceCtorEq, Nat.reduceAdd, Nat.reduceSub, Nat.reduceLT, Nat.reduceLeDiff, Nat.reduceEqDiff, bxm, tabs, evCall, mapO, importL, import2L, import1, import2, share, fresh1, freshL, evBin, intBin, strBin, bothNil, constOp, eqCells, hr4c, hr5c, hr6c, hr7c, hr8c, hr9c, hr10c, hr11c, hr12c, hr13c, hc2, hg5, hg6, tys]; rfl) ?_
          obtain rfl := Option.some.inj h
          refine ⟨rfl, ?_⟩
          try simp only [jjs]
          refine Wk.weak hU [] _ (by decide) ?_ ?_
          · exact .nil
          · (repeat' (first | exact WVs.nil | refine WVs.cons ?_ ?_ | (refine WVs.aggW ?_) | (refine WVs.fnW ?_ ?_))) <;> (first | exact WV.junk _ | exact WV.keep rfl | exact WV.row rfl | exact WV.nil rfl | exact WV.nilsl | exact WV.emp rfl | exact WV.empsl | exact WV.ptr rfl | (refine WV.row_eq rfl ?_; simp only [bxw, tys]) | (refine WV.view (k := 3) ?_; simp (decide := true) only [reify, share, fresh1, reduceIte, reduceCtorEq, Nat.reduceAdd, bxm, tys]) | (refine WV.eq ?_ rfl; simp only [bxw, tys]))
        · rw [if_f hg6] at h
          refine Wp.region hU (f3_ci_ok _) (by simp (decide := true) (disch := (first | omega | (simp only [List.length_append, List.length_map, List.length_cons, List.length_nil]; omega))) only [evOp, putTm, E_T, E_gl, E_br, tdesc, reduceIte, reduceCtorEq, Nat.reduceAdd, Nat.reduceSub, Nat.reduceLT, Nat.reduceLeDiff, Nat.reduceEqDiff, bxm, tabs, evCall, mapO, importL, import2L, import1, import2, share, fresh1, freshL, evBin, intBin, strBin, bothNil, constOp, eqCells, hr4c, hr5c, hr6c, hr7c, hr8c, hr9c, hr10c, hc2, hg5, hg6, tys]; rfl) ?_
          obtain rfl := Option.some.inj h
          refine ⟨rfl, ?_⟩
          try simp only [jjs]
          refine Wk.weak hU [] _ (by decide) ?_ ?_
          · exact .nil
          · (repeat' (first | exact WVs.nil | refine WVs.cons ?_ ?_ | (refine WVs.aggW ?_) | (refine WVs.fnW ?_ ?_))) <;> (first | exact WV.junk _ | exact WV.keep rfl | exact WV.row rfl | exact WV.nil rfl | exact WV.nilsl | exact WV.emp rfl | exact WV.empsl | exact WV.ptr rfl | (refine WV.row_eq rfl ?_; simp only [bxw, tys]) | (refine WV.view (k := 3) ?_; simp (decide := true) only [reify, share, fresh1, reduceIte, reduceCtorEq, Nat.reduceAdd, bxm, tys]) | (refine WV.eq ?_ rfl; simp only [bxw, tys]))
      · rw [if_f hg5] at h
        refine Wp.region hU (f3_ci_ok _) (by simp (decide := true) (disch := (first | omega | (simp only [List.length_append, List.length_map, List.length_cons, List.length_nil]; omega))) only [evOp, putTm, E_T, E_gl, E_br, tdesc, reduceIte, reduceCtorEq, Nat.reduceAdd, Nat.reduceSub, Nat.reduceLT, Nat.reduceLeDiff, Nat.reduceEqDiff, bxm, tabs, evCall, mapO, importL, import2L, import1, import2, share, fresh1, freshL, evBin, intBin, strBin, bothNil, constOp, eqCells, hr4c, hr5c, hr6c, hr7c, hc2, hg5, tys]; rfl) ?_
        obtain rfl := Option.some.inj h
        refine ⟨rfl, ?_⟩
        try simp only [jjs]
        refine Wk.weak hU [] _ (by decide) ?_ ?_
        · exact .nil
        · (repeat' (first | exact WVs.nil | refine WVs.cons ?_ ?_ | (refine WVs.aggW ?_) | (refine WVs.fnW ?_ ?_))) <;> (first | exact WV.junk _ | exact WV.keep rfl | exact WV.row rfl | exact WV.nil rfl | exact WV.nilsl | exact WV.emp rfl | exact WV.empsl | exact WV.ptr rfl | (refine WV.row_eq rfl ?_; simp only [bxw, tys]) | (refine WV.view (k := 3) ?_; simp (decide := true) only [reify, share, fresh1, reduceIte, reduceCtorEq, Nat.reduceAdd, bxm, tys]) | (refine WV.eq ?_ rfl; simp only [bxw, tys]))
    · obtain ⟨rfl, hp⟩ := hp
      refine thenN (hp.wp ?_)
      try simp only [jjs]
      refine Wp.ret ?_
      obtain rfl := Option.some.inj h
      refine ⟨.inl rfl, ?_⟩
      refine Rt.of ?_
      simp (decide := true) only [evReturn, retShare, evReturn0, resAV, evLoad, ofCells, TD.isAgg, mapO, exportVs, exportV, exportL, export1, rowsOf, rowOf, innerIds, rowIds, one, closed, share, fresh1, E_T, reduceIte, reduceCtorEq, Nat.reduceAdd, Nat.reduceSub, Nat.reduceLT, Nat.reduceLeDiff, Nat.reduceEqDiff, bxm, tabs, List.map_append, f3_res, f3_rt, tys]

noncomputable def f3_tbl : CI := tbl 3 (fun p : (List Frame) × (List Frame) => [.sl (List.map cFrame p.1), .sl (List.map cFrame p.2)]) (fun p => (f3 p.1 p.2).map fun r => .v (.bool r))
theorem f3_tbl_ok {base : Nat} : CIOK E base f3_tbl := tbl_ok fun p r h => by obtain ⟨q, hq, rfl⟩ := Option.map_eq_some_iff.1 h; exact f3_ok p.1 p.2 q hq
theorem f3_call {from_ : List Frame} {to : List Frame} {r : Bool} (h : f3 from_ to = some r) (σ : Store) : f3_tbl 3 [.sl (List.map cFrame from_), .sl (List.map cFrame to)] σ = some (.v (.bool r), σ, none) :=
  tbl_eq (x := (from_, to)) (fun x y e => by
    obtain ⟨x0, x1⟩ := x; obtain ⟨y0, y1⟩ := y
    have e0 := av_sl injFrame (List.cons.inj e).1
    have e1 := av_sl injFrame (List.cons.inj (List.cons.inj e).2).1
    subst e0 e1; rfl) (by simp [h]) σ
end Go.Bx.Wind

/- sibyl/sibyllaw15.WindRides, printed by pf.py. (Own text.) -/
namespace Go.Bx.Wind
set_option linter.unusedVariables false
set_option linter.unusedSimpArgs false
set_option linter.unusedSectionVars false
open Go.Proofs
set_option linter.unusedSimpArgs false
set_option linter.unusedVariables false
set_option maxRecDepth 10000
/-- sibyl/sibyllaw15.WindRides -/
def f4 (at_ : List Int) (t : Trip) : Option (Bool) :=
  f8 >>= fun r1 =>
  if (!r1) = true then
    (some false)
  else
    ap 8 [] at_ >>= fun a3 =>
    ap 8 [] t.Out >>= fun a4 =>
    ap 8 [] t.In >>= fun a5 =>
    f18 a3 (⟨t.Common, a4, a5⟩ : Trip) >>= fun r6 =>
    f19 at_ t >>= fun r7 =>
    (f9 r6.1 r7.1 >>= fun r9 =>
    if r9 = true then
      (some (r6.2 == r7.2))
    else
      some false : Option (Bool)) >>= fun o8 =>
    some o8

noncomputable def f4_ci : CI := (CI.or 8 f8_tbl (CI.or 18 f18_tbl (CI.or 19 f19_tbl (CI.or 9 f9_tbl (fun _ _ _ => none)))))
theorem f4_ci_ok (base : Nat) : CIOK E base f4_ci := (or_ok f8_tbl_ok (or_ok f18_tbl_ok (or_ok f19_tbl_ok (or_ok f9_tbl_ok no_ok))))
theorem f4_res : Try.f4.results = #[.tmp 4] := rfl
theorem f4_rt : Try.f4.resultTypes = #[4] := rfl

set_option maxHeartbeats 4000000 in
theorem f4_ok (at_ : List Int) (t : Trip) (r : Bool) (h : f4 at_ t = some r) : PureOK E 4 [.sl (List.map (cInt .i64) at_), .agg [.v (.int .i64 t.Common), .sl (List.map (cInt .i64) t.Out), .sl (List.map (cInt .i64) t.In)]] (.v (.bool r)) := by
  unfold f4 at h
  refine pure_of_wp tabOK mixed (fn := Try.f4) (nt := 43) Try.func4 rfl rfl (names _ _ Try.func4) rfl rfl (fun _ => rfl) (fun base c00 hU => ?_)
  refine Wk.wp (s2 := ⟨.sl (List.map (cInt .i64) at_) :: .agg [.v (.int .i64 t.Common), .sl (List.map (cInt .i64) t.Out), .sl (List.map (cInt .i64) t.In)] :: jj 41 [], St [], none, 0⟩) ?_ ?_
  · refine Wk.weak hU [] _ (by decide) .nil ?_
    simp only [jjs, List.length_cons, List.length_nil, Nat.reduceAdd, Nat.reduceSub, List.replicate, List.cons_append, List.nil_append]
    repeat' (first | exact WVs.nil | refine WVs.cons ?_ ?_)
    all_goals first | exact WV.junk _ | exact WV.keep rfl | exact .agg rfl (aggKeep rfl)
  try simp only [jjs]
  refine Wp.seq ?_
  refine Wp.region hU (f4_ci_ok _) (by simp (decide := true) (disch := (first | omega | (simp only [List.length_append, List.length_map, List.length_cons, List.length_nil]; omega))) only [evOp, putTm, E_T, E_gl, E_br, tdesc, reduceIte, reduceCtorEq, Nat.reduceAdd, Nat.reduceSub, Nat.reduceLT, Nat.reduceLeDiff, Nat.reduceEqDiff, bxm, tabs, tys]; rfl) ?_
  refine thenN ?_
  refine Wp.seq ?_
  refine Wp.seq ?_
  obtain ⟨r1, hr1, h⟩ := bind_some h
  have hr1c : ∀ σ, f4_ci 8 [] σ = some (.v (.bool r1), σ, none) := fun σ => f8_call hr1 σ
  refine Wp.region hU (f4_ci_ok _) (by simp (decide := true) (disch := (first | omega | (simp only [List.length_append, List.length_map, List.length_cons, List.length_nil]; omega))) only [evOp, putTm, E_T, E_gl, E_br, tdesc, reduceIte, reduceCtorEq, Nat.reduceAdd, Nat.reduceSub, Nat.reduceLT, Nat.reduceLeDiff, Nat.reduceEqDiff, bxm, tabs, evCall, mapO, importL, import2L, import1, import2, share, fresh1, freshL, evUn, hr1c, tys]; rfl) ?_
  refine thenN ?_
  refine Wp.cond hU (t := !r1) rfl (fun hc2 => ?_) (fun hc2 => ?_)
  · rw [if_t hc2] at h
    refine Wp.seq ?_
    refine Wp.region hU (f4_ci_ok _) (by simp (decide := true) (disch := (first | omega | (simp only [List.length_append, List.length_map, List.length_cons, List.length_nil]; omega))) only [evOp, putTm, E_T, E_gl, E_br, tdesc, reduceIte, reduceCtorEq, Nat.reduceAdd, Nat.reduceSub, Nat.reduceLT, Nat.reduceLeDiff, Nat.reduceEqDiff, bxm, tabs, hc2, tys]; rfl) ?_
    refine thenN ?_
    refine Wp.ret ?_
    refine thenR ?_
    obtain rfl := Option.some.inj h
    refine ⟨.inl rfl, ?_⟩
    refine Rt.of ?_
    simp (decide := true) only [evReturn, retShare, evReturn0, resAV, evLoad, ofCells, TD.isAgg, mapO, exportVs, exportV, exportL, export1, rowsOf, rowOf, innerIds, rowIds, one, closed, share, fresh1, E_T, reduceIte, reduceCtorEq, Nat.reduceAdd, Nat.reduceSub, Nat.reduceLT, Nat.reduceLeDiff, Nat.reduceEqDiff, bxm, tabs, List.map_append, f4_res, f4_rt, tys]
  · rw [if_f hc2] at h
    refine Wp.skip ?_
    refine thenN ?_
    refine Wp.seq ?_
    obtain ⟨a3, ha3, h⟩ := bind_some h
    obtain ⟨ha3a, ha3b⟩ := ap_some ha3
    try simp only [List.length_cons, List.length_nil, Nat.zero_add, Nat.add_zero, Nat.reduceAdd] at ha3a
    obtain ⟨a4, ha4, h⟩ := bind_some h
    obtain ⟨ha4a, ha4b⟩ := ap_some ha4
    try simp only [List.length_cons, List.length_nil, Nat.zero_add, Nat.add_zero, Nat.reduceAdd] at ha4a
    obtain ⟨a5, ha5, h⟩ := bind_some h
    obtain ⟨ha5a, ha5b⟩ := ap_some ha5
    try simp only [List.length_cons, List.length_nil, Nat.zero_add, Nat.add_zero, Nat.reduceAdd] at ha5a
    obtain ⟨r6, hr6, h⟩ := bind_some h
    have hr6c : ∀ σ, f4_ci 18 [.sl (List.map (cInt .i64) a3), .agg [.v (.int .i64 (((⟨t.Common, a4, a5⟩ : Trip)).Common)), .sl (List.map (cInt .i64) (((⟨t.Common, a4, a5⟩ : Trip)).Out)), .sl (List.map (cInt .i64) (((⟨t.Common, a4, a5⟩ : Trip)).In))]] σ = some (.tup [.own false 1 (List.map (cInt .i64) r6.1), .v (.int .i64 r6.2)], σ, none) := fun σ => f18_call hr6 σ
    have hr6p := hr6c
    try simp only [ha3b, ha4b, ha5b, List.map_append, List.nil_append, Int.toNat_zero, List.drop_zero, List.map_cons, List.map_nil, cInt_eq, cBool_eq, cStr_eq, cSl_eq, tys] at hr6p
    refine Wp.region hU (f4_ci_ok _) (by simp (decide := true) (disch := (first | omega | (simp only [List.length_append, List.length_map, List.length_cons, List.length_nil]; omega))) only [evOp, putTm, E_T, E_gl, E_br, tdesc, reduceIte, reduceCtorEq, Nat.reduceAdd, Nat.reduceSub, Nat.reduceLT, Nat.reduceLeDiff, Nat.reduceEqDiff, bxm, tabs, evA, evAppend, elems, flatOf, fieldPlaceT, evLoad, ldV, ofCells, TD.isAgg, fillL, putAt, evCall, mapO, importL, import2L, import1, import2, share, fresh1, freshL, ha3a, ha4a, ha5a, hr6c, hr6p, hc2, tys]; rfl) ?_
    refine thenN ?_
    refine Wk.wp (s2 := ⟨.sl (List.map (cInt .i64) at_) :: jj 2 (.ptr 0 0 0 :: jj 1 (.row 1 1 0 ((r6.1).length) :: .v (.int .i64 r6.2) :: jj 36 [])), St [some ⟨3, false, false, [[.v (.int .i64 t.Common), .sl (List.map (cInt .i64) t.Out), .sl (List.map (cInt .i64) t.In)]]⟩, some ⟨1, false, true, List.map (cInt .i64) r6.1⟩], none, 0⟩) ?_ ?_
    · try simp only [jjs]
      refine Wk.weak hU [some 0, some 7] _ (by decide) ?_ ?_
      · refine .obj rfl ?_ ?_
        · refine .mk ?_ (by simp only [bxm, leaf_ptr]) nofun
          refine .cons ?_ .nil
          (repeat' (first | exact WVs.nil | refine WVs.cons ?_ ?_ | (refine WVs.aggW ?_) | (refine WVs.fnW ?_ ?_))) <;> (first | exact WV.junk _ | exact WV.keep rfl | exact WV.row rfl | exact WV.nil rfl | exact WV.nilsl | exact WV.emp rfl | exact WV.empsl | exact WV.ptr rfl | (refine WV.row_eq rfl ?_; simp only [bxw, ha3b, ha4b, ha5b, tys]) | (refine WV.view (k := 3) ?_; simp (decide := true) only [reify, share, fresh1, reduceIte, reduceCtorEq, Nat.reduceAdd, bxm, tys]) | (refine WV.eq ?_ rfl; simp only [bxw, ha3b, ha4b, ha5b, tys]))
        refine .obj rfl ?_ ?_
        · first | exact .same _ _ _ | (refine WO.same_eq ?_; simp only [bxw, ha3b, ha4b, ha5b, tys]; done)
        exact .nil
      · (repeat' (first | exact WVs.nil | refine WVs.cons ?_ ?_ | (refine WVs.aggW ?_) | (refine WVs.fnW ?_ ?_))) <;> (first | exact WV.junk _ | exact WV.keep rfl | exact WV.row rfl | exact WV.nil rfl | exact WV.nilsl | exact WV.emp rfl | exact WV.empsl | exact WV.ptr rfl | (refine WV.row_eq rfl ?_; simp only [bxw, ha3b, ha4b, ha5b, tys]) | (refine WV.view (k := 3) ?_; simp (decide := true) only [reify, share, fresh1, reduceIte, reduceCtorEq, Nat.reduceAdd, bxm, tys]) | (refine WV.eq ?_ rfl; simp only [bxw, ha3b, ha4b, ha5b, tys]))
    try simp only [jjs]
    refine Wp.seq ?_
    obtain ⟨r7, hr7, h⟩ := bind_some h
    have hr7c : ∀ σ, f4_ci 19 [.sl (List.map (cInt .i64) at_), .agg [.v (.int .i64 t.Common), .sl (List.map (cInt .i64) t.Out), .sl (List.map (cInt .i64) t.In)]] σ = some (.tup [.own false 1 (List.map (cInt .i64) r7.1), .v (.int .i64 r7.2)], σ, none) := fun σ => f19_call hr7 σ
    refine Wp.region hU (f4_ci_ok _) (by simp (decide := true) (disch := (first | omega | (simp only [List.length_append, List.length_map, List.length_cons, List.length_nil]; omega))) only [evOp, putTm, E_T, E_gl, E_br, tdesc, reduceIte, reduceCtorEq, Nat.reduceAdd, Nat.reduceSub, Nat.reduceLT, Nat.reduceLeDiff, Nat.reduceEqDiff, bxm, tabs, evLoad, ldV, ofCells, TD.isAgg, evCall, mapO, importL, import2L, import1, import2, share, fresh1, freshL, hr7c, hc2, tys]; rfl) ?_
    refine thenN ?_
    obtain ⟨o8, ho8, h⟩ := bind_some h
    refine Wp.seq1 (JP := (fun ex s1 => ex = .nrm ∧ Wk base c00 nilStore s1 ⟨jj 4 (.v (.bool o8) :: jj 38 []), St [], none, 0⟩)) ?_ (fun ex s1 hp => ?_)
    · replace h := ho8
      obtain ⟨r9, hr9, h⟩ := bind_some h
      have hr9c : ∀ σ, f4_ci 9 [.sl (List.map (cInt .i64) r6.1), .sl (List.map (cInt .i64) r7.1)] σ = some (.v (.bool r9), σ, none) := fun σ => f9_call hr9 σ
      rcases Bool.eq_false_or_eq_true (r9) with hg3 | hg3
      · rw [if_t hg3] at h
        refine Wp.region hU (f4_ci_ok _) (by simp (decide := true) (disch := (first | omega | (simp only [List.length_append, List.length_map, List.length_cons, List.length_nil]; omega))) only [evOp, putTm, E_T, E_gl, E_br, tdesc, reduceIte, reduceCtorEq, Nat.reduceAdd, Nat.reduceSub, Nat.reduceLT, Nat.reduceLeDiff, Nat.reduceEqDiff, bxm, tabs, evCall, mapO, importL, import2L, import1, import2, share, fresh1, freshL, evBin, intBin, strBin, bothNil, constOp, eqCells, hr9c, hc2, hg3, tys]; rfl) ?_
        obtain rfl := Option.some.inj h
        refine ⟨rfl, ?_⟩
        try simp only [jjs]
        refine Wk.weak hU [] _ (by decide) ?_ ?_
        · exact .nil
        · (repeat' (first | exact WVs.nil | refine WVs.cons ?_ ?_ | (refine WVs.aggW ?_) | (refine WVs.fnW ?_ ?_))) <;> (first | exact WV.junk _ | exact WV.keep rfl | exact WV.row rfl | exact WV.nil rfl | exact WV.nilsl | exact WV.emp rfl | exact WV.empsl | exact WV.ptr rfl | (refine WV.row_eq rfl ?_; simp only [bxw, ha3b, ha4b, ha5b, tys]) | (refine WV.view (k := 3) ?_; simp (decide := true) only [reify, share, fresh1, reduceIte, reduceCtorEq, Nat.reduceAdd, bxm, tys]) | (refine WV.eq ?_ rfl; simp only [bxw, ha3b, ha4b, ha5b, tys]))
      · rw [if_f hg3] at h
        refine Wp.region hU (f4_ci_ok _) (by simp (decide := true) (disch := (first | omega | (simp only [List.length_append, List.length_map, List.length_cons, List.length_nil]; omega))) only [evOp, putTm, E_T, E_gl, E_br, tdesc, reduceIte, reduceCtorEq, Nat.reduceAdd, Nat.reduceSub, Nat.reduceLT, Nat.reduceLeDiff, Nat.reduceEqDiff, bxm, tabs, evCall, mapO, importL, import2L, import1, import2, share, fresh1, freshL, evBin, intBin, strBin, bothNil, constOp, eqCells, hr9c, hc2, hg3, tys]; rfl) ?_
        obtain rfl := Option.some.inj h
        refine ⟨rfl, ?_⟩
        try simp only [jjs]
        refine Wk.weak hU [] _ (by decide) ?_ ?_
        · exact .nil
        · (repeat' (first | exact WVs.nil | refine WVs.cons ?_ ?_ | (refine WVs.aggW ?_) | (refine WVs.fnW ?_ ?_))) <;> (first | exact WV.junk _ | exact WV.keep rfl | exact WV.row rfl | exact WV.nil rfl | exact WV.nilsl | exact WV.emp rfl | exact WV.empsl | exact WV.ptr rfl | (refine WV.row_eq rfl ?_; simp only [bxw, ha3b, ha4b, ha5b, tys]) | (refine WV.view (k := 3) ?_; simp (decide := true) only [reify, share, fresh1, reduceIte, reduceCtorEq, Nat.reduceAdd, bxm, tys]) | (refine WV.eq ?_ rfl; simp only [bxw, ha3b, ha4b, ha5b, tys]))
    · obtain ⟨rfl, hp⟩ := hp
      refine thenN (hp.wp ?_)
      try simp only [jjs]
      refine Wp.ret ?_
      obtain rfl := Option.some.inj h
      refine ⟨.inl rfl, ?_⟩
      refine Rt.of ?_
      simp (decide := true) only [evReturn, retShare, evReturn0, resAV, evLoad, ofCells, TD.isAgg, mapO, exportVs, exportV, exportL, export1, rowsOf, rowOf, innerIds, rowIds, one, closed, share, fresh1, E_T, reduceIte, reduceCtorEq, Nat.reduceAdd, Nat.reduceSub, Nat.reduceLT, Nat.reduceLeDiff, Nat.reduceEqDiff, bxm, tabs, List.map_append, f4_res, f4_rt, tys, ha3b, ha4b, ha5b]

noncomputable def f4_tbl : CI := tbl 4 (fun p : (List Int) × Trip => [.sl (List.map (cInt .i64) p.1), .agg [.v (.int .i64 p.2.Common), .sl (List.map (cInt .i64) p.2.Out), .sl (List.map (cInt .i64) p.2.In)]]) (fun p => (f4 p.1 p.2).map fun r => .v (.bool r))
theorem f4_tbl_ok {base : Nat} : CIOK E base f4_tbl := tbl_ok fun p r h => by obtain ⟨q, hq, rfl⟩ := Option.map_eq_some_iff.1 h; exact f4_ok p.1 p.2 q hq
theorem f4_call {at_ : List Int} {t : Trip} {r : Bool} (h : f4 at_ t = some r) (σ : Store) : f4_tbl 4 [.sl (List.map (cInt .i64) at_), .agg [.v (.int .i64 t.Common), .sl (List.map (cInt .i64) t.Out), .sl (List.map (cInt .i64) t.In)]] σ = some (.v (.bool r), σ, none) :=
  tbl_eq (x := (at_, t)) (fun x y e => by
    obtain ⟨x0, x1⟩ := x; obtain ⟨y0, y1⟩ := y
    have e0 := av_sl inj_int (List.cons.inj e).1
    have e1 := av_agg injTrip (List.cons.inj (List.cons.inj e).2).1
    subst e0 e1; rfl) (by simp [h]) σ
end Go.Bx.Wind

/- sibyl/sibyllaw15.WindHandlers, printed by pf.py. (Own text.) -/
namespace Go.Bx.Wind
set_option linter.unusedVariables false
set_option linter.unusedSimpArgs false
set_option linter.unusedSectionVars false
open Go.Proofs
set_option linter.unusedSimpArgs false
set_option linter.unusedVariables false
set_option maxRecDepth 10000
/-- sibyl/sibyllaw15.WindHandlers -/
def f5 (fs : List Frame) : Option (Bool) :=
  f8 >>= fun r1 =>
  if (!r1) = true then
    (some false)
  else
    f11 fs >>= fun r3 =>
    f20 r3 >>= fun r4 =>
    f21 fs >>= fun r5 =>
    (f9 r4.1 r5.1 >>= fun r7 =>
    if r7 = true then
      (some (r4.2 == r5.2))
    else
      some false : Option (Bool)) >>= fun o6 =>
    some o6

noncomputable def f5_ci : CI := (CI.or 8 f8_tbl (CI.or 11 f11_tbl (CI.or 20 f20_tbl (CI.or 21 f21_tbl (CI.or 9 f9_tbl (fun _ _ _ => none))))))
theorem f5_ci_ok (base : Nat) : CIOK E base f5_ci := (or_ok f8_tbl_ok (or_ok f11_tbl_ok (or_ok f20_tbl_ok (or_ok f21_tbl_ok (or_ok f9_tbl_ok no_ok)))))
theorem f5_res : Try.f5.results = #[.tmp 2] := rfl
theorem f5_rt : Try.f5.resultTypes = #[4] := rfl

set_option maxHeartbeats 4000000 in
theorem f5_ok (fs : List Frame) (r : Bool) (h : f5 fs = some r) : PureOK E 5 [.sl (List.map cFrame fs)] (.v (.bool r)) := by
  unfold f5 at h
  refine pure_of_wp tabOK mixed (fn := Try.f5) (nt := 28) Try.func5 rfl rfl (names _ _ Try.func5) rfl rfl (fun _ => rfl) (fun base c00 hU => ?_)
  refine Wk.wp (s2 := ⟨.sl (List.map cFrame fs) :: jj 27 [], St [], none, 0⟩) ?_ ?_
  · refine Wk.weak hU [] _ (by decide) .nil ?_
    simp only [jjs, List.length_cons, List.length_nil, Nat.reduceAdd, Nat.reduceSub, List.replicate, List.cons_append, List.nil_append]
    repeat' (first | exact WVs.nil | refine WVs.cons ?_ ?_)
    all_goals first | exact WV.junk _ | exact WV.keep rfl | exact .agg rfl (aggKeep rfl)
  try simp only [jjs]
  refine Wp.seq ?_
  refine Wp.region hU (f5_ci_ok _) (by simp (decide := true) (disch := (first | omega | (simp only [List.length_append, List.length_map, List.length_cons, List.length_nil]; omega))) only [evOp, putTm, E_T, E_gl, E_br, tdesc, reduceIte, reduceCtorEq, Nat.reduceAdd, Nat.reduceSub, Nat.reduceLT, Nat.reduceLeDiff, Nat.reduceEqDiff, bxm, tabs, tys]; rfl) ?_
  refine thenN ?_
  refine Wp.seq ?_
  refine Wp.seq ?_
  obtain ⟨r1, hr1, h⟩ := bind_some h
  have hr1c : ∀ σ, f5_ci 8 [] σ = some (.v (.bool r1), σ, none) := fun σ => f8_call hr1 σ
  refine Wp.region hU (f5_ci_ok _) (by simp (decide := true) (disch := (first | omega | (simp only [List.length_append, List.length_map, List.length_cons, List.length_nil]; omega))) only [evOp, putTm, E_T, E_gl, E_br, tdesc, reduceIte, reduceCtorEq, Nat.reduceAdd, Nat.reduceSub, Nat.reduceLT, Nat.reduceLeDiff, Nat.reduceEqDiff, bxm, tabs, evCall, mapO, importL, import2L, import1, import2, share, fresh1, freshL, evUn, hr1c, tys]; rfl) ?_
  refine thenN ?_
  refine Wp.cond hU (t := !r1) rfl (fun hc2 => ?_) (fun hc2 => ?_)
  · rw [if_t hc2] at h
    refine Wp.seq ?_
    refine Wp.region hU (f5_ci_ok _) (by simp (decide := true) (disch := (first | omega | (simp only [List.length_append, List.length_map, List.length_cons, List.length_nil]; omega))) only [evOp, putTm, E_T, E_gl, E_br, tdesc, reduceIte, reduceCtorEq, Nat.reduceAdd, Nat.reduceSub, Nat.reduceLT, Nat.reduceLeDiff, Nat.reduceEqDiff, bxm, tabs, hc2, tys]; rfl) ?_
    refine thenN ?_
    refine Wp.ret ?_
    refine thenR ?_
    obtain rfl := Option.some.inj h
    refine ⟨.inl rfl, ?_⟩
    refine Rt.of ?_
    simp (decide := true) only [evReturn, retShare, evReturn0, resAV, evLoad, ofCells, TD.isAgg, mapO, exportVs, exportV, exportL, export1, rowsOf, rowOf, innerIds, rowIds, one, closed, share, fresh1, E_T, reduceIte, reduceCtorEq, Nat.reduceAdd, Nat.reduceSub, Nat.reduceLT, Nat.reduceLeDiff, Nat.reduceEqDiff, bxm, tabs, List.map_append, f5_res, f5_rt, tys]
  · rw [if_f hc2] at h
    refine Wp.skip ?_
    refine thenN ?_
    refine Wp.seq ?_
    obtain ⟨r3, hr3, h⟩ := bind_some h
    have hr3c : ∀ σ, f5_ci 11 [.sl (List.map cFrame fs)] σ = some (.own false 3 (List.map cFrame r3), σ, none) := fun σ => f11_call hr3 σ
    obtain ⟨r4, hr4, h⟩ := bind_some h
    have hr4c : ∀ σ, f5_ci 20 [.sl (List.map cFrame r3)] σ = some (.tup [.own false 1 (List.map (cInt .i64) r4.1), .v (.int .i64 r4.2)], σ, none) := fun σ => f20_call hr4 σ
    refine Wp.region hU (f5_ci_ok _) (by simp (decide := true) (disch := (first | omega | (simp only [List.length_append, List.length_map, List.length_cons, List.length_nil]; omega))) only [evOp, putTm, E_T, E_gl, E_br, tdesc, reduceIte, reduceCtorEq, Nat.reduceAdd, Nat.reduceSub, Nat.reduceLT, Nat.reduceLeDiff, Nat.reduceEqDiff, bxm, tabs, evCall, mapO, importL, import2L, import1, import2, share, fresh1, freshL, hr3c, hr4c, hc2, tys]; rfl) ?_
    refine thenN ?_
    refine Wp.seq ?_
    obtain ⟨r5, hr5, h⟩ := bind_some h
    have hr5c : ∀ σ, f5_ci 21 [.sl (List.map cFrame fs)] σ = some (.tup [.sl (List.map (cInt .i64) r5.1), .v (.int .i64 r5.2)], σ, none) := fun σ => f21_call hr5 σ
    refine Wp.region hU (f5_ci_ok _) (by simp (decide := true) (disch := (first | omega | (simp only [List.length_append, List.length_map, List.length_cons, List.length_nil]; omega))) only [evOp, putTm, E_T, E_gl, E_br, tdesc, reduceIte, reduceCtorEq, Nat.reduceAdd, Nat.reduceSub, Nat.reduceLT, Nat.reduceLeDiff, Nat.reduceEqDiff, bxm, tabs, evCall, mapO, importL, import2L, import1, import2, share, fresh1, freshL, hr5c, hc2, tys]; rfl) ?_
    refine thenN ?_
    obtain ⟨o6, ho6, h⟩ := bind_some h
    refine Wp.seq1 (JP := (fun ex s1 => ex = .nrm ∧ Wk base c00 nilStore s1 ⟨jj 2 (.v (.bool o6) :: jj 25 []), St [], none, 0⟩)) ?_ (fun ex s1 hp => ?_)
    · replace h := ho6
      obtain ⟨r7, hr7, h⟩ := bind_some h
      have hr7c : ∀ σ, f5_ci 9 [.sl (List.map (cInt .i64) r4.1), .sl (List.map (cInt .i64) r5.1)] σ = some (.v (.bool r7), σ, none) := fun σ => f9_call hr7 σ
      rcases Bool.eq_false_or_eq_true (r7) with hg3 | hg3
      · rw [if_t hg3] at h
        refine Wp.region hU (f5_ci_ok _) (by simp (decide := true) (disch := (first | omega | (simp only [List.length_append, List.length_map, List.length_cons, List.length_nil]; omega))) only [evOp, putTm, E_T, E_gl, E_br, tdesc, reduceIte, reduceCtorEq, Nat.reduceAdd, Nat.reduceSub, Nat.reduceLT, Nat.reduceLeDiff, Nat.reduceEqDiff, bxm, tabs, evCall, mapO, importL, import2L, import1, import2, share, fresh1, freshL, evBin, intBin, strBin, bothNil, constOp, eqCells, hr7c, hc2, hg3, tys]; rfl) ?_
        obtain rfl := Option.some.inj h
        refine ⟨rfl, ?_⟩
        try simp only [jjs]
        refine Wk.weak hU [] _ (by decide) ?_ ?_
        · exact .nil
        · (repeat' (first | exact WVs.nil | refine WVs.cons ?_ ?_ | (refine WVs.aggW ?_) | (refine WVs.fnW ?_ ?_))) <;> (first | exact WV.junk _ | exact WV.keep rfl | exact WV.row rfl | exact WV.nil rfl | exact WV.nilsl | exact WV.emp rfl | exact WV.empsl | exact WV.ptr rfl | (refine WV.row_eq rfl ?_; simp only [bxw, tys]) | (refine WV.view (k := 3) ?_; simp (decide := true) only [reify, share, fresh1, reduceIte, reduceCtorEq, Nat.reduceAdd, bxm, tys]) | (refine WV.eq ?_ rfl; simp only [bxw, tys]))
      · rw [if_f hg3] at h
        refine Wp.region hU (f5_ci_ok _) (by simp (decide := true) (disch := (first | omega | (simp only [List.length_append, List.length_map, List.length_cons, List.length_nil]; omega))) only [evOp, putTm, E_T, E_gl, E_br, tdesc, reduceIte, reduceCtorEq, Nat.reduceAdd, Nat.reduceSub, Nat.reduceLT, Nat.reduceLeDiff, Nat.reduceEqDiff, bxm, tabs, evCall, mapO, importL, import2L, import1, import2, share, fresh1, freshL, evBin, intBin, strBin, bothNil, constOp, eqCells, hr7c, hc2, hg3, tys]; rfl) ?_
        obtain rfl := Option.some.inj h
        refine ⟨rfl, ?_⟩
        try simp only [jjs]
        refine Wk.weak hU [] _ (by decide) ?_ ?_
        · exact .nil
        · (repeat' (first | exact WVs.nil | refine WVs.cons ?_ ?_ | (refine WVs.aggW ?_) | (refine WVs.fnW ?_ ?_))) <;> (first | exact WV.junk _ | exact WV.keep rfl | exact WV.row rfl | exact WV.nil rfl | exact WV.nilsl | exact WV.emp rfl | exact WV.empsl | exact WV.ptr rfl | (refine WV.row_eq rfl ?_; simp only [bxw, tys]) | (refine WV.view (k := 3) ?_; simp (decide := true) only [reify, share, fresh1, reduceIte, reduceCtorEq, Nat.reduceAdd, bxm, tys]) | (refine WV.eq ?_ rfl; simp only [bxw, tys]))
    · obtain ⟨rfl, hp⟩ := hp
      refine thenN (hp.wp ?_)
      try simp only [jjs]
      refine Wp.ret ?_
      obtain rfl := Option.some.inj h
      refine ⟨.inl rfl, ?_⟩
      refine Rt.of ?_
      simp (decide := true) only [evReturn, retShare, evReturn0, resAV, evLoad, ofCells, TD.isAgg, mapO, exportVs, exportV, exportL, export1, rowsOf, rowOf, innerIds, rowIds, one, closed, share, fresh1, E_T, reduceIte, reduceCtorEq, Nat.reduceAdd, Nat.reduceSub, Nat.reduceLT, Nat.reduceLeDiff, Nat.reduceEqDiff, bxm, tabs, List.map_append, f5_res, f5_rt, tys]

noncomputable def f5_tbl : CI := tbl 5 (fun p : (List Frame) => [.sl (List.map cFrame p)]) (fun p => (f5 p).map fun r => .v (.bool r))
theorem f5_tbl_ok {base : Nat} : CIOK E base f5_tbl := tbl_ok fun p r h => by obtain ⟨q, hq, rfl⟩ := Option.map_eq_some_iff.1 h; exact f5_ok p q hq
theorem f5_call {fs : List Frame} {r : Bool} (h : f5 fs = some r) (σ : Store) : f5_tbl 5 [.sl (List.map cFrame fs)] σ = some (.v (.bool r), σ, none) :=
  tbl_eq (x := (fs)) (fun x y e => by
    exact av_sl injFrame (List.cons.inj e).1) (by simp [h]) σ
end Go.Bx.Wind
