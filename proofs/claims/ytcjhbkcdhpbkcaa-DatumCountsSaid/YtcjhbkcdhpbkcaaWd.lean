/- What the program's functions compute, shown of their code (Wd). Own text; parts are printed by a program of this claim's author. -/
import Derived.Test.YtcjhbkcdhpbkcaaWc
import Derived.IntWalk
/- Plain laws of layer 05: loops over a list; sizes. (Own text.) -/
namespace Go.Bx.Dat
set_option linter.unusedVariables false
set_option linter.unusedSimpArgs false
set_option linter.unusedSectionVars false
set_option linter.unusedVariables false
theorem iter_eq {α γ : Type} (f : α → Option (Ou γ α)) (x : α) : iter f x = (f x >>= fun o => match o with
    | .ret g => some g
    | .nxt y => iter f y) := by
  rw [iter]
  congr 1
/-- A loop over a list's places. -/
theorem iter_list {α β γ σ : Type} (l : List α) (step : β → α → Option β) (f : σ → Option (Ou γ σ)) (mk : β → Nat → σ) (fin : β → γ)
    (h1 : ∀ b i x, l[i]? = some x → f (mk b i) = (step b x).map fun b' => .nxt (mk b' (i + 1))) (h2 : ∀ b, f (mk b l.length) = some (.ret (fin b))) :
    ∀ (n : Nat) b i, i + n = l.length → iter f (mk b i) = ((l.drop i).foldlM step b).map fin
  | 0, b, i, h => by
    have : i = l.length := by omega
    subst this
    rw [iter_eq, h2, List.drop_length]; rfl
  | n + 1, b, i, h => by
    have hi : i < l.length := by omega
    rw [iter_eq, h1 b i l[i] (List.getElem?_eq_getElem hi), List.drop_eq_getElem_cons hi, List.foldlM_cons]
    cases hs : step b l[i] with
    | none => rfl
    | some b' =>
      simp only [Option.map_some, Option.bind_eq_bind, Option.bind_some]
      exact iter_list l step f mk fin h1 h2 n b' (i + 1) (by omega)
/-! ### data by induction -/
theorem dep_mem : ∀ {l : List TDatum} {x : TDatum}, x ∈ l → encTDatum_dep x ≤ encTDatum_deps l
  | y :: l, x, h => by
    rcases List.mem_cons.1 h with rfl | h
    · simp only [encTDatum_deps]; omega
    · have := dep_mem h
      simp only [encTDatum_deps]; omega
theorem dep_item {d x : TDatum} (h : x ∈ d.x6) : encTDatum_dep x < encTDatum_dep d := by
  obtain ⟨a, b, c, e, f, g, l, k⟩ := d
  have : encTDatum_dep x ≤ encTDatum_deps l := dep_mem h
  simp only [encTDatum_dep]; omega
theorem dep_pos (d : TDatum) : 0 < encTDatum_dep d := by
  obtain ⟨a, b, c, e, f, g, l, k⟩ := d
  simp only [encTDatum_dep]; omega
/-- What holds of a datum if it holds of its items. -/
theorem datum_ind {P : TDatum → Prop} (h : ∀ d, (∀ x ∈ d.x6, P x) → P d) (d : TDatum) : P d := by
  have key : ∀ n d, encTDatum_dep d ≤ n → P d := fun n => by
    induction n with
    | zero => intro d hd; have := dep_pos d; omega
    | succ n ih => intro d hd; exact h d fun x hx => ih x (by have := dep_item hx; omega)
  exact key _ d (Nat.le_refl _)
/-- No list in it is longer than the machine's words count. -/
def Fits (d : TDatum) : Prop := ∀ n : Nat, FitsN n d
  where FitsN : Nat → TDatum → Prop
  | 0, _ => True
  | n + 1, d => d.x6.length * 120 ≤ 140737488351232 ∧ d.x2.length * 4 ≤ 140737488351232 ∧ d.x3.length * 4 ≤ 140737488351232 ∧ ∀ x ∈ d.x6, FitsN n x
theorem Fits.lenB {d : TDatum} (h : Fits d) : d.x6.length * 120 ≤ 140737488351232 := (h 1).1
theorem Fits.len {d : TDatum} (h : Fits d) : d.x6.length < 2 ^ 62 := by have := h.lenB; omega
theorem Fits.num {d : TDatum} (h : Fits d) : d.x2.length < 2 ^ 45 ∧ d.x3.length < 2 ^ 45 := by
  have h1 := (h 1).2.1
  have h2 := (h 1).2.2.1
  constructor <;> omega
theorem Fits.mk {d : TDatum} (h1 : d.x6.length * 120 ≤ 140737488351232) (h2 : d.x2.length * 4 ≤ 140737488351232) (h3 : d.x3.length * 4 ≤ 140737488351232) (h4 : ∀ x ∈ d.x6, Fits x) : Fits d
  | 0 => trivial
  | n + 1 => ⟨h1, h2, h3, fun x hx => h4 x hx n⟩
theorem Fits.item {d x : TDatum} (h : Fits d) (hx : x ∈ d.x6) : Fits x := fun n => (h (n + 1)).2.2.2 x hx
theorem mk_eta (d : TDatum) : TDatum.mk d.x0 d.x1 d.x2 d.x3 d.x4 d.x5 d.x6 d.x7 = d := by cases d; rfl
theorem wrap_small {n : Int} (h0 : 0 ≤ n) (h1 : n < 2 ^ 62) : IntKind.i64.wrap n = n := by rw [IntKind.wrap_i64]; omega
/-- The number of data, as the machine counts. -/
def sizeN : Nat → TDatum → Int
  | 0, _ => 0
  | n + 1, d => d.x6.foldl (fun a x => IntKind.i64.wrap (a + sizeN n x)) 1
theorem foldlM_some {α β : Type} {step : β → α → Option β} {g : β → α → β} : ∀ {l : List α} {b : β}, (∀ x ∈ l, ∀ b, step b x = some (g b x)) → l.foldlM step b = some (l.foldl g b)
  | [], b, h => rfl
  | x :: l, b, h => by
    rw [List.foldlM_cons, h x (by simp)]
    exact foldlM_some fun y hy => h y (List.mem_cons_of_mem _ hy)
/-- One call of a recursive count. -/
def callI (c : TDatum → Option (Pn Int)) (g : Int → Int → Int) (b : Int) (x : TDatum) : Option Int := match c x with
  | some (.ok y) => some (g b y)
  | _ => none
theorem fn19_eq : ∀ (n : Nat) (d : TDatum), Fits d → encTDatum_dep d ≤ n → fn19 Iter.all n d = some (.ok (sizeN n d))
  | 0, d, _, h => by have := dep_pos d; omega
  | n + 1, d, hf, h => by
    have hlen := hf.len
    rw [fs19]
    unfold b19
    have hl := iter_list d.x6 (callI (fn19 Iter.all n) fun b y => IntKind.i64.wrap (b + y)) (fun (x0 : (Int × ((List TDatum) × (Int × Int)))) => (if ((decide ((x0.2.2.2 < x0.2.2.1))) = Bool.true) then ((if ((0 : Int) ≤ x0.2.2.2) then x0.2.1[(Int.toNat x0.2.2.2)]? else Option.none) >>= fun x1 => ((fn19 Iter.all n (TDatum.mk (TDatum.x0 x1) (TDatum.x1 x1) (TDatum.x2 x1) (TDatum.x3 x1) (TDatum.x4 x1) (TDatum.x5 x1) (TDatum.x6 x1) (TDatum.x7 x1))) >>= fun x2 => (match x2 with | .ok x3 => (Option.some (Ou.nxt ((IntKind.wrap IntKind.i64 (x0.1 + x3)), (x0.2.1, (x0.2.2.1, (IntKind.wrap IntKind.i64 (x0.2.2.2 + (1 : Int)))))))) | .pan _ => Option.none))) else (Option.some (Ou.ret x0.1))))
      (fun b i => (b, d.x6, (d.x6.length : Int), (i : Int))) id (fun b i x hx => by
        have hi : i < d.x6.length := (List.getElem?_eq_some_iff.1 hx).1
        have h1 : ((i : Int) < (d.x6.length : Int)) := by omega
        have h2 : (0 : Int) ≤ (i : Int) := by omega
        simp only [h1, decide_true, if_true, h2, Int.toNat_natCast, hx, Option.bind_eq_bind, Option.bind_some, mk_eta, callI]
        rw [show IntKind.i64.wrap ((i : Int) + 1) = ((i + 1 : Nat) : Int) from by rw [wrap_small (by omega) (by omega)]; rfl]
        cases hc : fn19 Iter.all n x with
        | none => rfl
        | some r => cases r <;> rfl)
      (fun b => by simp) d.x6.length 1 0 (by omega)
    simp only [Iter.all]
    refine (congrArg (· >>= _) hl).trans ?_
    rw [List.drop_zero, foldlM_some (g := fun b x => IntKind.i64.wrap (b + sizeN n x)) (fun x hx b => by
      have := dep_item hx
      simp only [callI, fn19_eq n x (hf.item hx) (by omega)])]
    rfl
end Go.Bx.Dat

/- Plain laws of layer 05: sizes of the reference, pairs. (Own text.) -/
namespace Go.Bx.Dat
set_option linter.unusedVariables false
set_option linter.unusedSimpArgs false
set_option linter.unusedSectionVars false
set_option linter.unusedVariables false
theorem fn20_eq : ∀ (n : Nat) (d : TDatum), Fits d → encTDatum_dep d ≤ n → fn20 Iter.all n d = some (.ok (sizeN n d))
  | 0, d, _, h => by have := dep_pos d; omega
  | n + 1, d, hf, h => by
    have hlen := hf.len
    rw [fs20]
    unfold b20
    have hl := iter_list d.x6 (callI (fn20 Iter.all n) fun b y => IntKind.i64.wrap (b + y)) (fun (x0 : (Int × (Int × (Int × (Bool × ((List Int) × ((List Int) × (Bool × ((List UInt8) × ((List TDatum) × Bool)))))))))) => (if ((decide ((x0.2.1 < (((List.length x0.2.2.2.2.2.2.2.2.1) : Nat) : Int)))) = Bool.true) then ((if ((0 : Int) ≤ x0.2.1) then x0.2.2.2.2.2.2.2.2.1[(Int.toNat x0.2.1)]? else Option.none) >>= fun x1 => ((fn20 Iter.all n (TDatum.mk (TDatum.x0 x1) (TDatum.x1 x1) (TDatum.x2 x1) (TDatum.x3 x1) (TDatum.x4 x1) (TDatum.x5 x1) (TDatum.x6 x1) (TDatum.x7 x1))) >>= fun x2 => (match x2 with | .ok x3 => (Option.some (Ou.nxt ((IntKind.wrap IntKind.i64 (x0.1 + x3)), ((IntKind.wrap IntKind.i64 (x0.2.1 + (1 : Int))), (x0.2.2.1, (x0.2.2.2.1, (x0.2.2.2.2.1, (x0.2.2.2.2.2.1, (x0.2.2.2.2.2.2.1, (x0.2.2.2.2.2.2.2.1, (x0.2.2.2.2.2.2.2.2.1, x0.2.2.2.2.2.2.2.2.2))))))))))) | .pan _ => Option.none))) else (Option.some (Ou.ret x0.1))))
      (fun b i => (b, (i : Int), d.x0, d.x1, d.x2, d.x3, d.x4, d.x5, d.x6, d.x7)) id (fun b i x hx => by
        have hi : i < d.x6.length := (List.getElem?_eq_some_iff.1 hx).1
        have h1 : ((i : Int) < (d.x6.length : Int)) := by omega
        have h2 : (0 : Int) ≤ (i : Int) := by omega
        simp only [h1, decide_true, if_true, h2, Int.toNat_natCast, hx, Option.bind_eq_bind, Option.bind_some, mk_eta, callI]
        rw [show IntKind.i64.wrap ((i : Int) + 1) = ((i + 1 : Nat) : Int) from by rw [wrap_small (by omega) (by omega)]; rfl]
        cases hc : fn20 Iter.all n x with
        | none => rfl
        | some r => cases r <;> rfl)
      (fun b => by simp) d.x6.length 1 0 (by omega)
    simp only [Iter.all]
    refine (congrArg (· >>= _) hl).trans ?_
    rw [List.drop_zero, foldlM_some (g := fun b x => IntKind.i64.wrap (b + sizeN n x)) (fun x hx b => by
      have := dep_item hx
      simp only [callI, fn20_eq n x (hf.item hx) (by omega)])]
    rfl
theorem f19_eq (d : TDatum) (h : Fits d) : f19 Iter.all d = some (.ok (sizeN (encTDatum_dep d) d)) := fn19_eq _ d h (Nat.le_refl _)
theorem f20_eq (d : TDatum) (h : Fits d) : f20 Iter.all d = some (.ok (sizeN (encTDatum_dep d) d)) := fn20_eq _ d h (Nat.le_refl _)
/-! ### pairs -/
theorem wrap_add (a b : Int) : IntKind.i64.wrap (IntKind.i64.wrap a + IntKind.i64.wrap b) = IntKind.i64.wrap (a + b) := by
  rw [IntKind.wrap_i64, IntKind.wrap_i64 a, IntKind.wrap_i64 b, IntKind.wrap_i64 (a + b)]; omega
theorem wrap_addl (a b : Int) : IntKind.i64.wrap (IntKind.i64.wrap a + b) = IntKind.i64.wrap (a + b) := by
  rw [IntKind.wrap_i64, IntKind.wrap_i64 a, IntKind.wrap_i64 (a + b)]; omega
/-- The number of pairs. -/
def pairZ : Nat → TDatum → Int
  | 0, _ => 0
  | n + 1, d => if d.x0 = 4 then (d.x6.length : Int) - (if d.x7 = true ∧ 0 < d.x6.length then 1 else 0) + d.x6.foldl (fun a x => a + pairZ n x) 0 else 0
theorem foldl_add {α : Type} (g : α → Int) : ∀ (l : List α) (a b : Int), l.foldl (fun a x => a + g x) (a + b) = a + l.foldl (fun a x => a + g x) b
  | [], a, b => rfl
  | x :: l, a, b => by
    rw [List.foldl_cons, List.foldl_cons, ← foldl_add g l a (b + g x)]; congr 1; omega
theorem foldl_wrap {α : Type} (g : α → Int) : ∀ (l : List α) (a : Int), l.foldl (fun a x => IntKind.i64.wrap (a + IntKind.i64.wrap (g x))) (IntKind.i64.wrap a) = IntKind.i64.wrap (a + l.foldl (fun a x => a + g x) 0)
  | [], a => by simp
  | x :: l, a => by
    rw [List.foldl_cons, List.foldl_cons, wrap_add, foldl_wrap g l (a + g x)]
    have := foldl_add g l (g x) 0
    rw [Int.add_zero] at this
    rw [Int.zero_add, this]; congr 1; omega
end Go.Bx.Dat

/- Plain laws of layer 05: pairs. (Own text.) -/
namespace Go.Bx.Dat
set_option linter.unusedVariables false
set_option linter.unusedSimpArgs false
set_option linter.unusedSectionVars false
set_option linter.unusedVariables false
theorem len_wrap {n : Nat} (h : n < 2 ^ 62) : IntKind.i64.wrap (n : Int) = n := wrap_small (by omega) (by omega)
theorem fn21_eq : ∀ (n : Nat) (d : TDatum), Fits d → encTDatum_dep d ≤ n → fn21 Iter.all n d = some (.ok (IntKind.i64.wrap (pairZ n d)))
  | 0, d, _, h => by have := dep_pos d; omega
  | n + 1, d, hf, h => by
    have hlen := hf.len
    rw [fs21]
    unfold b21
    by_cases hk : d.x0 = 4
    · rw [if_neg (by simp [hk])]
      have hl := fun a0 : Int => iter_list d.x6 (callI (fn21 Iter.all n) fun b y => IntKind.i64.wrap (b + y)) (fun (x2 : (Int × ((List TDatum) × (Int × Int)))) => (if ((decide ((x2.2.2.2 < x2.2.2.1))) = Bool.true) then ((if ((0 : Int) ≤ x2.2.2.2) then x2.2.1[(Int.toNat x2.2.2.2)]? else Option.none) >>= fun x3 => ((fn21 Iter.all n (TDatum.mk (TDatum.x0 x3) (TDatum.x1 x3) (TDatum.x2 x3) (TDatum.x3 x3) (TDatum.x4 x3) (TDatum.x5 x3) (TDatum.x6 x3) (TDatum.x7 x3))) >>= fun x4 => (match x4 with | .ok x5 => (Option.some (Ou.nxt ((IntKind.wrap IntKind.i64 (x2.1 + x5)), (x2.2.1, (x2.2.2.1, (IntKind.wrap IntKind.i64 (x2.2.2.2 + (1 : Int)))))))) | .pan _ => Option.none))) else (Option.some (Ou.ret x2.1))))
        (fun b i => (b, d.x6, (d.x6.length : Int), (i : Int))) id (fun b i x hx => by
          have hi : i < d.x6.length := (List.getElem?_eq_some_iff.1 hx).1
          have h1 : ((i : Int) < (d.x6.length : Int)) := by omega
          have h2 : (0 : Int) ≤ (i : Int) := by omega
          simp only [h1, decide_true, if_true, h2, Int.toNat_natCast, hx, Option.bind_eq_bind, Option.bind_some, mk_eta, callI]
          rw [show IntKind.i64.wrap ((i : Int) + 1) = ((i + 1 : Nat) : Int) from by rw [wrap_small (by omega) (by omega)]; rfl]
          cases hc : fn21 Iter.all n x with
          | none => rfl
          | some r => cases r <;> rfl)
        (fun b => by simp) d.x6.length a0 0 (by omega)
      have hfin : ∀ a0 : Int, Option.map id ((d.x6.drop 0).foldlM (callI (fn21 Iter.all n) fun b y => IntKind.i64.wrap (b + y)) (IntKind.i64.wrap a0)) = some (IntKind.i64.wrap (a0 + d.x6.foldl (fun a x => a + pairZ n x) 0)) := fun a0 => by
        rw [List.drop_zero, foldlM_some (g := fun b x => IntKind.i64.wrap (b + IntKind.i64.wrap (pairZ n x))) (fun x hx b => by
          have := dep_item hx
          simp only [callI, fn21_eq n x (hf.item hx) (by omega)]), foldl_wrap]
        rfl
      simp only [pairZ, if_pos hk]
      by_cases h7 : d.x7 = true
      · by_cases h0 : 0 < d.x6.length
        · have hg : ((d.x6.length : Int) > 0) := by omega
          simp only [h7, if_true, hg, decide_true, Option.bind_eq_bind, Option.bind_some, Iter.all, h0, and_self]
          have := (hl (IntKind.i64.wrap ((d.x6.length : Int) - 1))).trans (hfin _)
          rw [show ((0 : Nat) : Int) = 0 from rfl] at this
          exact (congrArg (· >>= _) this).trans rfl
        · have hg : ¬ ((d.x6.length : Int) > 0) := by omega
          simp only [h7, if_true, hg, decide_false, Option.bind_eq_bind, Option.bind_some, Iter.all, h0, and_false, if_false, Bool.false_eq_true]
          have := (hl (IntKind.i64.wrap (d.x6.length : Int))).trans (hfin _)
          rw [len_wrap hlen, show ((0 : Nat) : Int) = 0 from rfl] at this
          rw [Int.sub_zero]
          exact (congrArg (· >>= _) this).trans rfl
      · simp only [h7, if_false, Option.bind_eq_bind, Option.bind_some, Iter.all, false_and, Bool.false_eq_true]
        have := (hl (IntKind.i64.wrap (d.x6.length : Int))).trans (hfin _)
        rw [len_wrap hlen, show ((0 : Nat) : Int) = 0 from rfl] at this
        rw [Int.sub_zero]
        exact (congrArg (· >>= _) this).trans rfl
    · rw [if_pos (by simpa using hk)]
      simp only [pairZ, if_neg hk]
      rfl
end Go.Bx.Dat

/- Plain laws of layer 05: pairs of the reference. (Own text.) -/
namespace Go.Bx.Dat
set_option linter.unusedVariables false
set_option linter.unusedSimpArgs false
set_option linter.unusedSectionVars false
set_option linter.unusedVariables false
/-- How many from a place on are counted. -/
def cnt (d : TDatum) (i : Nat) : Int := if d.x7 = true then (if (i : Int) < (d.x6.length : Int) - 1 then (d.x6.length : Int) - 1 - i else 0) else (d.x6.length : Int) - i
theorem loop22 (n : Nat) (d : TDatum) (hlen : d.x6.length < 2 ^ 62) (ih : ∀ x ∈ d.x6, fn22 Iter.all n x = some (.ok (IntKind.i64.wrap (pairZ n x)))) (f : (Int × (Int × (Int × (Bool × ((List Int) × ((List Int) × (Bool × ((List UInt8) × ((List TDatum) × Bool))))))))) → Option (Ou Int (Int × (Int × (Int × (Bool × ((List Int) × ((List Int) × (Bool × ((List UInt8) × ((List TDatum) × Bool)))))))))))
    (hf : f = fun x0 => (if ((decide ((x0.2.1 < (((List.length x0.2.2.2.2.2.2.2.2.1) : Nat) : Int)))) = Bool.true) then (((if ((Bool.not x0.2.2.2.2.2.2.2.2.2) = Bool.true) then (Option.some (x0.1, (x0.2.1, (Bool.true, (x0.2.2.1, (x0.2.2.2.1, (x0.2.2.2.2.1, (x0.2.2.2.2.2.1, (x0.2.2.2.2.2.2.1, (x0.2.2.2.2.2.2.2.1, (x0.2.2.2.2.2.2.2.2.1, x0.2.2.2.2.2.2.2.2.2))))))))))) else (Option.some (x0.1, (x0.2.1, ((decide ((x0.2.1 < (IntKind.wrap IntKind.i64 ((((List.length x0.2.2.2.2.2.2.2.2.1) : Nat) : Int) - (1 : Int)))))), (x0.2.2.1, (x0.2.2.2.1, (x0.2.2.2.2.1, (x0.2.2.2.2.2.1, (x0.2.2.2.2.2.2.1, (x0.2.2.2.2.2.2.2.1, (x0.2.2.2.2.2.2.2.2.1, x0.2.2.2.2.2.2.2.2.2)))))))))))) >>= fun x1 => (if (x1.2.2.1 = Bool.true) then (Option.some ((IntKind.wrap IntKind.i64 (x1.1 + (1 : Int))), (x1.2.1, (x1.2.2.2.1, (x1.2.2.2.2.1, (x1.2.2.2.2.2.1, (x1.2.2.2.2.2.2.1, (x1.2.2.2.2.2.2.2.1, (x1.2.2.2.2.2.2.2.2.1, (x1.2.2.2.2.2.2.2.2.2.1, x1.2.2.2.2.2.2.2.2.2.2)))))))))) else (Option.some (x1.1, (x1.2.1, (x1.2.2.2.1, (x1.2.2.2.2.1, (x1.2.2.2.2.2.1, (x1.2.2.2.2.2.2.1, (x1.2.2.2.2.2.2.2.1, (x1.2.2.2.2.2.2.2.2.1, (x1.2.2.2.2.2.2.2.2.2.1, x1.2.2.2.2.2.2.2.2.2.2)))))))))))) >>= fun x2 => ((if ((0 : Int) ≤ x2.2.1) then x2.2.2.2.2.2.2.2.2.1[(Int.toNat x2.2.1)]? else Option.none) >>= fun x3 => ((fn22 Iter.all n (TDatum.mk (TDatum.x0 x3) (TDatum.x1 x3) (TDatum.x2 x3) (TDatum.x3 x3) (TDatum.x4 x3) (TDatum.x5 x3) (TDatum.x6 x3) (TDatum.x7 x3))) >>= fun x4 => (match x4 with | .ok x5 => (Option.some (Ou.nxt ((IntKind.wrap IntKind.i64 (x2.1 + x5)), ((IntKind.wrap IntKind.i64 (x2.2.1 + (1 : Int))), (x2.2.2.1, (x2.2.2.2.1, (x2.2.2.2.2.1, (x2.2.2.2.2.2.1, (x2.2.2.2.2.2.2.1, (x2.2.2.2.2.2.2.2.1, (x2.2.2.2.2.2.2.2.2.1, x2.2.2.2.2.2.2.2.2.2))))))))))) | .pan _ => Option.none)))) else (Option.some (Ou.ret x0.1)))) :
    ∀ (m i : Nat) (a : Int), i + m = d.x6.length → iter f (IntKind.i64.wrap a, (i : Int), d.x0, d.x1, d.x2, d.x3, d.x4, d.x5, d.x6, d.x7) = some (IntKind.i64.wrap (a + (d.x6.drop i).foldl (fun a x => a + pairZ n x) 0 + cnt d i))
  | 0, i, a, h => by
    have hi : i = d.x6.length := by omega
    subst hi
    rw [iter_eq, hf]
    simp only [cnt, List.drop_length, List.foldl_nil, Int.lt_irrefl, decide_false, Bool.false_eq_true, if_false, Option.bind_eq_bind, Option.bind_some]
    congr 2
    split <;> (try split) <;> omega
  | m + 1, i, a, h => by
    have hi : i < d.x6.length := by omega
    have h1 : ((i : Int) < (d.x6.length : Int)) := by omega
    have h2 : (0 : Int) ≤ (i : Int) := by omega
    have hx : d.x6[i]? = some d.x6[i] := List.getElem?_eq_getElem hi
    have hw : IntKind.i64.wrap ((d.x6.length : Int) - 1) = (d.x6.length : Int) - 1 := wrap_small (by omega) (by omega)
    have hw1 : IntKind.i64.wrap ((i : Int) + 1) = ((i + 1 : Nat) : Int) := by rw [wrap_small (by omega) (by omega)]; rfl
    have key : ∀ c : Int, (cnt d i = c + cnt d (i + 1)) → iter f (IntKind.i64.wrap (IntKind.i64.wrap (a + c) + IntKind.i64.wrap (pairZ n d.x6[i])), ((i + 1 : Nat) : Int), d.x0, d.x1, d.x2, d.x3, d.x4, d.x5, d.x6, d.x7) = some (IntKind.i64.wrap (a + (d.x6.drop i).foldl (fun a x => a + pairZ n x) 0 + cnt d i)) := fun c hc => by
      rw [wrap_add, loop22 n d hlen ih f hf m (i + 1) _ (by omega), List.drop_eq_getElem_cons hi, List.foldl_cons, hc]
      have := foldl_add (fun x => pairZ n x) (d.x6.drop (i + 1)) (pairZ n d.x6[i]) 0
      rw [Int.add_zero] at this
      rw [Int.zero_add, this]; congr 2; omega
    by_cases h7 : d.x7 = true
    · by_cases hl : (i : Int) < (d.x6.length : Int) - 1
      · have hs : f (IntKind.i64.wrap a, (i : Int), d.x0, d.x1, d.x2, d.x3, d.x4, d.x5, d.x6, d.x7) = some (.nxt (IntKind.i64.wrap (IntKind.i64.wrap (a + 1) + IntKind.i64.wrap (pairZ n d.x6[i])), ((i + 1 : Nat) : Int), d.x0, d.x1, d.x2, d.x3, d.x4, d.x5, d.x6, d.x7)) := by
          rw [hf]
          simp only [h1, decide_true, if_true, h7, Bool.not_true, Bool.false_eq_true, if_false, hw, hl, Option.bind_eq_bind, Option.bind_some, h2, Int.toNat_natCast, hx, mk_eta, ih _ (List.getElem_mem hi), hw1, wrap_addl]
        rw [iter_eq, hs]
        exact key 1 (by simp only [cnt, h7, if_true, hl]; split <;> omega)
      · have hs : f (IntKind.i64.wrap a, (i : Int), d.x0, d.x1, d.x2, d.x3, d.x4, d.x5, d.x6, d.x7) = some (.nxt (IntKind.i64.wrap (IntKind.i64.wrap (a + 0) + IntKind.i64.wrap (pairZ n d.x6[i])), ((i + 1 : Nat) : Int), d.x0, d.x1, d.x2, d.x3, d.x4, d.x5, d.x6, d.x7)) := by
          rw [hf]
          simp only [h1, decide_true, if_true, h7, Bool.not_true, Bool.false_eq_true, if_false, hw, hl, decide_false, Option.bind_eq_bind, Option.bind_some, h2, Int.toNat_natCast, hx, mk_eta, ih _ (List.getElem_mem hi), hw1, Int.add_zero]
        rw [iter_eq, hs]
        exact key 0 (by simp only [cnt, h7, if_true, hl, if_false]; split <;> omega)
    · have h7' : d.x7 = false := by simpa using h7
      have hs : f (IntKind.i64.wrap a, (i : Int), d.x0, d.x1, d.x2, d.x3, d.x4, d.x5, d.x6, d.x7) = some (.nxt (IntKind.i64.wrap (IntKind.i64.wrap (a + 1) + IntKind.i64.wrap (pairZ n d.x6[i])), ((i + 1 : Nat) : Int), d.x0, d.x1, d.x2, d.x3, d.x4, d.x5, d.x6, d.x7)) := by
        rw [hf]
        simp only [h1, decide_true, if_true, h7', Bool.not_false, Option.bind_eq_bind, Option.bind_some, h2, Int.toNat_natCast, hx, mk_eta, ih _ (List.getElem_mem hi), hw1, wrap_addl]
      rw [iter_eq, hs]
      exact key 1 (by simp only [cnt, h7', Bool.false_eq_true, if_false]; omega)
theorem fn22_eq : ∀ (n : Nat) (d : TDatum), Fits d → encTDatum_dep d ≤ n → fn22 Iter.all n d = some (.ok (IntKind.i64.wrap (pairZ n d)))
  | 0, d, _, h => by have := dep_pos d; omega
  | n + 1, d, hf, h => by
    have hlen := hf.len
    rw [fs22]
    unfold b22
    by_cases hk : d.x0 = 4
    · rw [if_neg (by simp [hk])]
      have := loop22 n d hlen (fun x hx => by
        have := dep_item hx
        exact fn22_eq n x (hf.item hx) (by omega)) _ rfl d.x6.length 0 0 (by omega)
      simp only [Iter.all]
      rw [show IntKind.i64.wrap 0 = 0 from rfl, show ((0 : Nat) : Int) = 0 from rfl] at this
      refine (congrArg (· >>= _) this).trans ?_
      simp only [pairZ, if_pos hk, Option.bind_eq_bind, Option.bind_some, List.drop_zero, cnt]
      congr 3
      split <;> (try split) <;> simp_all <;> omega
    · rw [if_pos (by simpa using hk)]
      simp only [pairZ, if_neg hk]
      rfl
end Go.Bx.Dat

/- Plain laws of layer 05: copies. (Own text.) -/
namespace Go.Bx.Dat
set_option linter.unusedVariables false
set_option linter.unusedSimpArgs false
set_option linter.unusedSectionVars false
set_option linter.unusedVariables false
theorem bs {α β : Type} (a : α) (f : α → Option β) : (some a >>= f) = f a := rfl
theorem whN_self (n : Nat) : whN n n = some () := by simp [whN]
theorem capN_ok {b n m : Nat} (h : (n + m) * b ≤ 140737488355328) : capN b n n m = some () := by simp [capN, h]
abbrev Flat := (Int × (Bool × (Bool × ((List UInt8) × (Bool × ((List Int) × ((List Int) × (List TDatum))))))))
def flat (d : TDatum) : Flat := (d.x0, d.x1, d.x4, d.x5, d.x7, d.x2, d.x3, d.x6)
def unflat (t : Flat) : TDatum := TDatum.mk t.1 t.2.1 t.2.2.2.2.2.1 t.2.2.2.2.2.2.1 t.2.2.1 t.2.2.2.1 t.2.2.2.2.2.2.2 t.2.2.2.2.1
theorem unflat_flat (d : TDatum) : unflat (flat d) = d := by cases d; rfl
theorem f32_eq (r : TRatio) (h1 : r.x1.length < 2 ^ 45) (h2 : r.x2.length < 2 ^ 45) : f32 Iter.all r = some (.ok (r.x0, r.x1, r.x2)) := by
  have e1 : capN 4 0 0 r.x1.length = some () := capN_ok (by omega)
  have e2 : capN 4 0 0 r.x2.length = some () := capN_ok (by omega)
  unfold f32 b32
  rw [e1, e2, whN_self, whN_self]; rfl
def callC (c : TDatum → Option (Pn Flat)) (b : List TDatum) (x : TDatum) : Option (List TDatum) := match c x with
  | some (.ok t) => (capN 120 b.length b.length 1) >>= fun _ => some (b ++ [unflat t])
  | _ => none
theorem foldC (c : TDatum → Option (Pn Flat)) : ∀ (l b : List TDatum), (∀ x ∈ l, c x = some (.ok (flat x))) → (b.length + l.length) * 120 ≤ 140737488351232 → l.foldlM (callC c) b = some (b ++ l)
  | [], b, _, _ => by simp
  | x :: l, b, h, hl => by
    have e : callC c b x = some (b ++ [x]) := by
      simp only [callC, h x (by simp), unflat_flat]
      rw [capN_ok (by simp at hl; omega)]; rfl
    rw [List.foldlM_cons, e]
    show l.foldlM (callC c) (b ++ [x]) = _
    rw [foldC c l (b ++ [x]) (fun y hy => h y (List.mem_cons_of_mem _ hy)) (by simp at hl ⊢; omega)]
    simp
theorem fn14_eq : ∀ (n : Nat) (d : TDatum), Fits d → encTDatum_dep d ≤ n → fn14 Iter.all n d = some (.ok (flat d))
  | 0, d, _, h => by have := dep_pos d; omega
  | n + 1, d, hf, h => by
    have hlen := hf.len
    have hlenB := hf.lenB
    rw [fs14]
    unfold b14
    rw [f32_eq _ hf.num.1 hf.num.2]
    have hl := iter_list d.x6 (callC (fn14 Iter.all n)) (fun (x5 : (Int × (Int × (Bool × (Bool × ((List UInt8) × ((List TDatum) × (Bool × (Int × (Bool × (Bool × ((List UInt8) × (Bool × ((List TDatum) × ((List Int) × (List Int)))))))))))))))) => (if ((decide ((x5.1 < (((List.length x5.2.2.2.2.2.1) : Nat) : Int)))) = Bool.true) then ((if ((0 : Int) ≤ x5.1) then x5.2.2.2.2.2.1[(Int.toNat x5.1)]? else Option.none) >>= fun x6 => ((fn14 Iter.all n (TDatum.mk (TDatum.x0 x6) (TDatum.x1 x6) (TDatum.x2 x6) (TDatum.x3 x6) (TDatum.x4 x6) (TDatum.x5 x6) (TDatum.x6 x6) (TDatum.x7 x6))) >>= fun x7 => (match x7 with | .ok x8 => ((whN 1 1) >>= fun _ => ((capN 120 (List.length x5.2.2.2.2.2.2.2.2.2.2.2.2.1) (List.length x5.2.2.2.2.2.2.2.2.2.2.2.2.1) 1) >>= fun _ => ((pieceN 0 (List.length x8.2.2.2.2.2.1) x8.2.2.2.2.2.1) >>= fun x11 => ((pieceN 0 (List.length x8.2.2.2.2.2.2.1) x8.2.2.2.2.2.2.1) >>= fun x12 => ((pieceN 0 (List.length x8.2.2.2.2.2.2.2) x8.2.2.2.2.2.2.2) >>= fun x13 => ((whN (List.length x5.2.2.2.2.2.2.2.2.2.2.2.2.2.1) (List.length x5.2.2.2.2.2.2.2.2.2.2.2.2.2.1)) >>= fun _ => ((whN (List.length x5.2.2.2.2.2.2.2.2.2.2.2.2.2.2) (List.length x5.2.2.2.2.2.2.2.2.2.2.2.2.2.2)) >>= fun _ => ((whN ((List.length x5.2.2.2.2.2.2.2.2.2.2.2.2.1) + 1) (List.length (x5.2.2.2.2.2.2.2.2.2.2.2.2.1 ++ ([(TDatum.mk x8.1 x8.2.1 x11 x12 x8.2.2.1 x8.2.2.2.1 x13 x8.2.2.2.2.1)] : List TDatum)))) >>= fun _ => (Option.some (Ou.nxt ((IntKind.wrap IntKind.i64 (x5.1 + (1 : Int))), (x5.2.1, (x5.2.2.1, (x5.2.2.2.1, (x5.2.2.2.2.1, (x5.2.2.2.2.2.1, (x5.2.2.2.2.2.2.1, (x5.2.2.2.2.2.2.2.1, (x5.2.2.2.2.2.2.2.2.1, (x5.2.2.2.2.2.2.2.2.2.1, (x5.2.2.2.2.2.2.2.2.2.2.1, (x5.2.2.2.2.2.2.2.2.2.2.2.1, ((x5.2.2.2.2.2.2.2.2.2.2.2.2.1 ++ ([(TDatum.mk x8.1 x8.2.1 x11 x12 x8.2.2.1 x8.2.2.2.1 x13 x8.2.2.2.2.1)] : List TDatum)), (x5.2.2.2.2.2.2.2.2.2.2.2.2.2.1, x5.2.2.2.2.2.2.2.2.2.2.2.2.2.2)))))))))))))))))))))))) | .pan _ => Option.none))) else ((whN (List.length x5.2.2.2.2.2.2.2.2.2.2.2.2.2.1) (List.length x5.2.2.2.2.2.2.2.2.2.2.2.2.2.1)) >>= fun _ => ((whN (List.length x5.2.2.2.2.2.2.2.2.2.2.2.2.2.2) (List.length x5.2.2.2.2.2.2.2.2.2.2.2.2.2.2)) >>= fun _ => ((whN (List.length x5.2.2.2.2.2.2.2.2.2.2.2.2.1) (List.length x5.2.2.2.2.2.2.2.2.2.2.2.2.1)) >>= fun _ => (Option.some (Ou.ret (x5.2.1, (x5.2.2.1, (x5.2.2.2.1, (x5.2.2.2.2.1, (x5.2.2.2.2.2.1, (x5.2.2.2.2.2.2.1, (x5.2.2.2.2.2.2.2.1, (x5.2.2.2.2.2.2.2.2.1, (x5.2.2.2.2.2.2.2.2.2.1, (x5.2.2.2.2.2.2.2.2.2.2.1, (x5.2.2.2.2.2.2.2.2.2.2.2.1, (x5.2.2.2.2.2.2.2.2.2.2.2.2.1, (x5.2.2.2.2.2.2.2.2.2.2.2.2.2.1, x5.2.2.2.2.2.2.2.2.2.2.2.2.2.2))))))))))))))))))))
      (fun b i => ((i : Int), d.x0, d.x1, d.x4, d.x5, d.x6, d.x7, (0 : Int), false, false, ([] : List UInt8), false, b, d.x2, d.x3))
      (fun b => (d.x0, d.x1, d.x4, d.x5, d.x6, d.x7, (0 : Int), false, false, ([] : List UInt8), false, b, d.x2, d.x3)) (fun b i x hx => by
        have hi : i < d.x6.length := (List.getElem?_eq_some_iff.1 hx).1
        have h1 : ((i : Int) < (d.x6.length : Int)) := by omega
        have h2 : (0 : Int) ≤ (i : Int) := by omega
        simp only [h1, decide_true, if_true, h2, Int.toNat_natCast, hx, Option.bind_eq_bind, Option.bind_some, mk_eta, callC]
        rw [show IntKind.i64.wrap ((i : Int) + 1) = ((i + 1 : Nat) : Int) from by rw [wrap_small (by omega) (by omega)]; rfl]
        cases hc : fn14 Iter.all n x with
        | none => rfl
        | some r =>
          cases r with
          | pan V => rfl
          | ok t =>
            simp only [Option.bind_some, whN_self, pieceN_all]
            cases hcap : capN 120 b.length b.length 1 with
            | none => rfl
            | some u =>
              simp only [Option.bind_some]
              rw [show (b ++ [TDatum.mk t.1 t.2.1 t.2.2.2.2.2.1 t.2.2.2.2.2.2.1 t.2.2.1 t.2.2.2.1 t.2.2.2.2.2.2.2 t.2.2.2.2.1]).length = b.length + 1 from by simp, whN_self]
              rfl)
      (fun b => by simp [whN_self]) d.x6.length [] 0 (by omega)
    rw [List.drop_zero, foldC _ _ _ (fun x hx => by
      have := dep_item hx
      exact fn14_eq n x (hf.item hx) (by omega)) (by simp; omega)] at hl
    rw [bs]
    dsimp only
    rw [whN_self, bs, whN_self, bs, whN_self, bs]
    simp only [Iter.all]
    refine (congrArg (· >>= _) hl).trans ?_
    simp only [Option.map_some, Option.bind_eq_bind, Option.bind_some, whN_self, List.nil_append]
    rfl
theorem f14_eq (d : TDatum) (h : Fits d) : f14 Iter.all d = some (.ok (flat d)) := fn14_eq _ d h (Nat.le_refl _)
end Go.Bx.Dat

/- Plain laws of layer 05: likeness of numbers. (Own text.) -/
namespace Go.Bx.Dat
set_option linter.unusedVariables false
set_option linter.unusedSimpArgs false
set_option linter.unusedSectionVars false
set_option linter.unusedVariables false
/-- A loop that holds two lists against each other. -/
theorem iter_cmp {α β γ σ : Type} (l : List α) (l' : List β) (q : α → β → Bool) (f : σ → Option (Ou γ σ)) (mk : Nat → σ) (R E : γ) (hl : l.length = l'.length)
    (h1 : ∀ i x y, l[i]? = some x → l'[i]? = some y → f (mk i) = if q x y = true then some (.nxt (mk (i + 1))) else some (.ret R)) (h2 : f (mk l.length) = some (.ret E)) :
    ∀ (n i : Nat), i + n = l.length → iter f (mk i) = some (if ((l.drop i).zip (l'.drop i)).all (fun p => q p.1 p.2) = true then E else R)
  | 0, i, h => by
    have : i = l.length := by omega
    subst this
    rw [iter_eq, h2, List.drop_length]; rfl
  | n + 1, i, h => by
    have hi : i < l.length := by omega
    have hi' : i < l'.length := by omega
    rw [iter_eq, h1 i l[i] l'[i] (List.getElem?_eq_getElem hi) (List.getElem?_eq_getElem hi'), List.drop_eq_getElem_cons hi, List.drop_eq_getElem_cons hi', List.zip_cons_cons, List.all_cons]
    by_cases hq : q l[i] l'[i] = true
    · rw [if_pos hq]
      simp only [hq, Bool.true_and]
      exact iter_cmp l l' q f mk R E hl h1 h2 n (i + 1) (by omega)
    · rw [if_neg hq]
      have hq' : q l[i] l'[i] = false := by simpa using hq
      simp only [hq', Bool.false_and, Bool.false_eq_true, if_false]
      rfl
def cmpL (a b : List Int) : Bool := a.length == b.length && (a.zip b).all fun p => p.1 == p.2
theorem f48_eq (a b : List Int) (ha : a.length < 2 ^ 45) : f48 Iter.all (a, b) = some (.ok (cmpL a b)) := by
  unfold f48 b48
  by_cases hl : a.length = b.length
  · rw [if_neg (by simp [hl])]
    have := iter_cmp a b (fun x y => x == y) (fun (x0 : ((List Int) × ((List Int) × Int))) => (if ((decide ((x0.2.2 < (((List.length x0.1) : Nat) : Int)))) = Bool.true) then ((if ((0 : Int) ≤ x0.2.2) then x0.1[(Int.toNat x0.2.2)]? else Option.none) >>= fun x1 => ((if ((0 : Int) ≤ x0.2.2) then x0.2.1[(Int.toNat x0.2.2)]? else Option.none) >>= fun x2 => (if ((x1 != x2) = Bool.true) then (Option.some (Ou.ret (Ou.ret (Pn.ok Bool.false)))) else (Option.some (Ou.nxt (x0.1, (x0.2.1, (IntKind.wrap IntKind.i64 (x0.2.2 + (1 : Int)))))))))) else (Option.some (Ou.ret (Ou.nxt ()))))) (fun i => (a, b, (i : Int))) (.ret (.ok false)) (.nxt ()) hl (fun i x y hx hy => by
        have hi : i < a.length := (List.getElem?_eq_some_iff.1 hx).1
        have h1 : ((i : Int) < (a.length : Int)) := by omega
        have h2 : (0 : Int) ≤ (i : Int) := by omega
        simp only [h1, decide_true, if_true, h2, Int.toNat_natCast, hx, hy, Option.bind_eq_bind, Option.bind_some]
        rw [show IntKind.i64.wrap ((i : Int) + 1) = ((i + 1 : Nat) : Int) from by rw [wrap_small (by omega) (by omega)]; rfl]
        by_cases e : x = y
        · simp [e]
        · simp [e]) (by simp) a.length 0 (by omega)
    simp only [Iter.all]
    refine (congrArg (· >>= _) this).trans ?_
    simp only [List.drop_zero, cmpL, hl, beq_self_eq_true, Bool.true_and]
    cases (a.zip b).all fun p => p.1 == p.2 <;> rfl
  · rw [if_pos (by simpa using by omega)]
    have : cmpL a b = false := by simp [cmpL, hl]
    rw [this]
theorem f80_eq (a b : List Int) (ha : a.length < 2 ^ 45) : f80 Iter.all (a, b) = some (.ok (cmpL a b)) := by
  unfold f80 b80
  by_cases hl : a.length = b.length
  · rw [if_neg (by simp [hl])]
    have := iter_cmp a b (fun x y => x == y) (fun (x0 : ((List Int) × ((List Int) × (Int × Int)))) => (if ((decide ((x0.2.2.2 < x0.2.2.1))) = Bool.true) then ((if ((0 : Int) ≤ x0.2.2.2) then x0.1[(Int.toNat x0.2.2.2)]? else Option.none) >>= fun x1 => ((if ((0 : Int) ≤ x0.2.2.2) then x0.2.1[(Int.toNat x0.2.2.2)]? else Option.none) >>= fun x2 => (if ((x1 != x2) = Bool.true) then (Option.some (Ou.ret (Ou.ret (Pn.ok Bool.false)))) else (Option.some (Ou.nxt (x0.1, (x0.2.1, (x0.2.2.1, (IntKind.wrap IntKind.i64 (x0.2.2.2 + (1 : Int))))))))))) else (Option.some (Ou.ret (Ou.nxt ()))))) (fun i => (a, b, (a.length : Int), (i : Int))) (.ret (.ok false)) (.nxt ()) hl (fun i x y hx hy => by
        have hi : i < a.length := (List.getElem?_eq_some_iff.1 hx).1
        have h1 : ((i : Int) < (a.length : Int)) := by omega
        have h2 : (0 : Int) ≤ (i : Int) := by omega
        simp only [h1, decide_true, if_true, h2, Int.toNat_natCast, hx, hy, Option.bind_eq_bind, Option.bind_some]
        rw [show IntKind.i64.wrap ((i : Int) + 1) = ((i + 1 : Nat) : Int) from by rw [wrap_small (by omega) (by omega)]; rfl]
        by_cases e : x = y
        · simp [e]
        · simp [e]) (by simp) a.length 0 (by omega)
    simp only [Iter.all]
    refine (congrArg (· >>= _) this).trans ?_
    simp only [List.drop_zero, cmpL, hl, beq_self_eq_true, Bool.true_and]
    cases (a.zip b).all fun p => p.1 == p.2 <;> rfl
  · rw [if_pos (by simpa using by omega)]
    have : cmpL a b = false := by simp [cmpL, hl]
    rw [this]
def ratS (a b : TRatio) : Bool := a.x0 == b.x0 && (cmpL a.x1 b.x1 && cmpL a.x2 b.x2)
theorem f28_eq (a b : TRatio) (h1 : a.x1.length < 2 ^ 45) (h2 : a.x2.length < 2 ^ 45) : f28 Iter.all (a, b) = some (.ok (ratS a b)) := by
  unfold f28 b28
  simp only [f48_eq _ _ h1, f48_eq _ _ h2, Option.bind_eq_bind, Option.bind_some, ratS]
  by_cases e : a.x0 = b.x0
  · by_cases c : cmpL a.x1 b.x1 = true
    · simp [e, c]
    · simp [e, c]
  · simp [e]
theorem f61_eq (a b : TRatio) (h1 : a.x1.length < 2 ^ 45) (h2 : a.x2.length < 2 ^ 45) : f61 Iter.all (a, b) = some (.ok (ratS a b)) := by
  unfold f61 b61
  simp only [f80_eq _ _ h1, f80_eq _ _ h2, Option.bind_eq_bind, Option.bind_some, ratS]
  by_cases e : a.x0 = b.x0
  · by_cases c : cmpL a.x1 b.x1 = true
    · simp [e, c]
    · simp [e, c]
  · simp [e]
theorem zip_self {α : Type} (q : α → α → Bool) : ∀ (l : List α), (∀ x ∈ l, q x x = true) → ((l.zip l).all fun p => q p.1 p.2) = true
  | [], _ => rfl
  | x :: l, h => by
    rw [List.zip_cons_cons, List.all_cons, h x (by simp), zip_self q l fun y hy => h y (List.mem_cons_of_mem _ hy)]; rfl
theorem cmpL_self (a : List Int) : cmpL a a = true := by
  unfold cmpL
  rw [zip_self (fun x y => x == y) a (fun x _ => by simp)]
  simp
theorem ratS_self (a : TRatio) : ratS a a = true := by simp [ratS, cmpL_self]
end Go.Bx.Dat

/- Plain laws of layer 05: likeness of data. (Own text.) -/
namespace Go.Bx.Dat
set_option linter.unusedVariables false
set_option linter.unusedSimpArgs false
set_option linter.unusedSectionVars false
set_option linter.unusedVariables false
/-- Likeness but for the items. -/
def headS (a b : TDatum) : Bool := a.x0 == b.x0 && (ratS ⟨a.x1, a.x2, a.x3⟩ ⟨b.x1, b.x2, b.x3⟩ && (a.x4 == b.x4 && (a.x5 == b.x5 && (a.x7 == b.x7 && a.x6.length == b.x6.length))))
def sameD : Nat → TDatum → TDatum → Bool
  | 0, _, _ => true
  | n + 1, a, b => headS a b && (a.x6.zip b.x6).all fun p => sameD n p.1 p.2
theorem f36_eq (a b : TDatum) (ha : Fits a) : f36 Iter.all (a, b) = some (.ok (a.x4 == b.x4 && (a.x5 == b.x5 && (a.x7 == b.x7 && (ratS ⟨a.x1, a.x2, a.x3⟩ ⟨b.x1, b.x2, b.x3⟩ && a.x6.length == b.x6.length))))) := by
  unfold f36 b36
  rw [f61_eq ⟨a.x1, a.x2, a.x3⟩ ⟨b.x1, b.x2, b.x3⟩ ha.num.1 ha.num.2]
  simp only [Option.bind_eq_bind, Option.bind_some]
  by_cases e4 : a.x4 = b.x4
  · by_cases e5 : a.x5 = b.x5
    · by_cases e7 : a.x7 = b.x7
      · cases ratS ⟨a.x1, a.x2, a.x3⟩ ⟨b.x1, b.x2, b.x3⟩
        · simp [e4, e5, e7]
        · have hc : ((a.x6.length : Int) == (b.x6.length : Int)) = (a.x6.length == b.x6.length) := by
            by_cases el : a.x6.length = b.x6.length
            · simp [el]
            · rw [beq_eq_false_iff_ne.2 (by omega), beq_eq_false_iff_ne.2 el]
          simp only [hc]
          simp [e4, e5, e7]
      · simp [e4, e5, e7]
    · simp [e4, e5]
  · simp [e4]
theorem fn18_eq : ∀ (n : Nat) (a b : TDatum), Fits a → encTDatum_dep a ≤ n → fn18 Iter.all n (a, b) = some (.ok (sameD n a b))
  | 0, d, _, _, h => by have := dep_pos d; omega
  | n + 1, a, b, hf, h => by
    have hlen := hf.len
    rw [fs18]
    unfold b18
    rw [mk_eta a, mk_eta b, f36_eq a b hf]
    by_cases e0 : a.x0 = b.x0
    · rw [if_neg (by simp [e0])]
      rw [bs]
      dsimp only
      rw [bs]
      dsimp only
      have hX : ∀ X : Bool, X = (a.x4 == b.x4 && (a.x5 == b.x5 && (a.x7 == b.x7 && (ratS ⟨a.x1, a.x2, a.x3⟩ ⟨b.x1, b.x2, b.x3⟩ && a.x6.length == b.x6.length)))) → headS a b = X := fun X hX => by
        subst hX
        simp only [headS, e0, beq_self_eq_true, Bool.true_and]
        cases ratS ⟨a.x1, a.x2, a.x3⟩ ⟨b.x1, b.x2, b.x3⟩ <;> simp
      generalize hXd : (a.x4 == b.x4 && (a.x5 == b.x5 && (a.x7 == b.x7 && (ratS ⟨a.x1, a.x2, a.x3⟩ ⟨b.x1, b.x2, b.x3⟩ && a.x6.length == b.x6.length)))) = X
      have hh := hX X hXd.symm
      cases X with
      | false =>
        rw [if_pos (show (!false) = true from rfl)]
        simp [sameD, hh]
      | true =>
        have hl : a.x6.length = b.x6.length := by
          simp only [Bool.and_eq_true, beq_iff_eq] at hXd
          exact hXd.2.2.2.2
        rw [if_neg (by simp)]
        have := iter_cmp a.x6 b.x6 (sameD n) (fun (x4 : (Int × (Int × (Int × (Bool × ((List Int) × ((List Int) × (Bool × ((List UInt8) × ((List TDatum) × (Bool × (Int × (Bool × ((List Int) × ((List Int) × (Bool × ((List UInt8) × ((List TDatum) × Bool)))))))))))))))))) => (if ((decide ((x4.2.1 < x4.1))) = Bool.true) then ((if ((0 : Int) ≤ x4.2.1) then x4.2.2.2.2.2.2.2.2.1[(Int.toNat x4.2.1)]? else Option.none) >>= fun x5 => ((if ((0 : Int) ≤ x4.2.1) then x4.2.2.2.2.2.2.2.2.2.2.2.2.2.2.2.2.1[(Int.toNat x4.2.1)]? else Option.none) >>= fun x6 => ((fn18 Iter.all n ((TDatum.mk (TDatum.x0 x5) (TDatum.x1 x5) (TDatum.x2 x5) (TDatum.x3 x5) (TDatum.x4 x5) (TDatum.x5 x5) (TDatum.x6 x5) (TDatum.x7 x5)), (TDatum.mk (TDatum.x0 x6) (TDatum.x1 x6) (TDatum.x2 x6) (TDatum.x3 x6) (TDatum.x4 x6) (TDatum.x5 x6) (TDatum.x6 x6) (TDatum.x7 x6)))) >>= fun x7 => (match x7 with | .ok x8 => (if ((Bool.not x8) = Bool.true) then (Option.some (Ou.ret (Ou.ret (Pn.ok Bool.false)))) else (Option.some (Ou.nxt (x4.1, ((IntKind.wrap IntKind.i64 (x4.2.1 + (1 : Int))), (x4.2.2.1, (x4.2.2.2.1, (x4.2.2.2.2.1, (x4.2.2.2.2.2.1, (x4.2.2.2.2.2.2.1, (x4.2.2.2.2.2.2.2.1, (x4.2.2.2.2.2.2.2.2.1, (x4.2.2.2.2.2.2.2.2.2.1, (x4.2.2.2.2.2.2.2.2.2.2.1, (x4.2.2.2.2.2.2.2.2.2.2.2.1, (x4.2.2.2.2.2.2.2.2.2.2.2.2.1, (x4.2.2.2.2.2.2.2.2.2.2.2.2.2.1, (x4.2.2.2.2.2.2.2.2.2.2.2.2.2.2.1, (x4.2.2.2.2.2.2.2.2.2.2.2.2.2.2.2.1, (x4.2.2.2.2.2.2.2.2.2.2.2.2.2.2.2.2.1, x4.2.2.2.2.2.2.2.2.2.2.2.2.2.2.2.2.2)))))))))))))))))))) | .pan x9 => (Option.some (Ou.ret (Ou.ret (Pn.pan x9)))))))) else (Option.some (Ou.ret (Ou.nxt ()))))) (fun i => ((a.x6.length : Int), (i : Int), a.x0, a.x1, a.x2, a.x3, a.x4, a.x5, a.x6, a.x7, b.x0, b.x1, b.x2, b.x3, b.x4, b.x5, b.x6, b.x7)) (.ret (.ok false)) (.nxt ()) hl (fun i x y hx hy => by
          have hi : i < a.x6.length := (List.getElem?_eq_some_iff.1 hx).1
          have h1 : ((i : Int) < (a.x6.length : Int)) := by omega
          have h2 : (0 : Int) ≤ (i : Int) := by omega
          have hm := List.mem_of_getElem? hx
          have hd := dep_item hm
          simp only [h1, decide_true, if_true, h2, Int.toNat_natCast, hx, hy, Option.bind_eq_bind, Option.bind_some, mk_eta, fn18_eq n x y (hf.item hm) (by omega)]
          rw [show IntKind.i64.wrap ((i : Int) + 1) = ((i + 1 : Nat) : Int) from by rw [wrap_small (by omega) (by omega)]; rfl]
          cases sameD n x y <;> rfl) (by simp) a.x6.length 0 (by omega)
        simp only [Iter.all]
        refine (congrArg (· >>= _) this).trans ?_
        simp only [List.drop_zero, sameD, hh, Bool.true_and]
        cases (a.x6.zip b.x6).all fun p => sameD n p.1 p.2 <;> rfl
    · rw [if_pos (by simpa using e0)]
      simp [sameD, headS, e0]
end Go.Bx.Dat

/- Plain laws of layer 05: likeness, of the reference. (Own text.) -/
namespace Go.Bx.Dat
set_option linter.unusedVariables false
set_option linter.unusedSimpArgs false
set_option linter.unusedSectionVars false
set_option linter.unusedVariables false
theorem sameD_stab : ∀ (n m : Nat) (a b : TDatum), encTDatum_dep a ≤ n → encTDatum_dep a ≤ m → sameD n a b = sameD m a b
  | 0, m, a, b, h, _ => by have := dep_pos a; omega
  | n + 1, 0, a, b, _, h => by have := dep_pos a; omega
  | n + 1, m + 1, a, b, h1, h2 => by
    simp only [sameD]
    congr 1
    have : ∀ (l l' : List TDatum), (∀ x ∈ l, x ∈ a.x6) → ((l.zip l').all fun p => sameD n p.1 p.2) = ((l.zip l').all fun p => sameD m p.1 p.2) := by
      intro l
      induction l with
      | nil => intro l' _; rfl
      | cons x l ih =>
        intro l' hx
        cases l' with
        | nil => rfl
        | cons y l' =>
          have := dep_item (hx x (by simp))
          simp only [List.zip_cons_cons, List.all_cons]
          rw [sameD_stab n m x y (by omega) (by omega), ih l' fun z hz => hx z (List.mem_cons_of_mem _ hz)]
    exact this _ _ fun x hx => hx
def same (a b : TDatum) : Bool := sameD (encTDatum_dep a) a b
theorem same_of {n : Nat} {a b : TDatum} (h : encTDatum_dep a ≤ n) : sameD n a b = same a b := sameD_stab n _ a b h (Nat.le_refl _)
theorem same_eq (a b : TDatum) : same a b = (headS a b && (a.x6.zip b.x6).all fun p => same p.1 p.2) := by
  have h1 : same a b = sameD (encTDatum_dep a + 1) a b := (same_of (Nat.le_succ _)).symm
  rw [h1]
  simp only [sameD]
  congr 1
  have : ∀ (l l' : List TDatum), (∀ x ∈ l, x ∈ a.x6) → ((l.zip l').all fun p => sameD (encTDatum_dep a) p.1 p.2) = ((l.zip l').all fun p => same p.1 p.2) := by
    intro l
    induction l with
    | nil => intro l' _; rfl
    | cons x l ih =>
      intro l' hx
      cases l' with
      | nil => rfl
      | cons y l' =>
        have := dep_item (hx x (by simp))
        simp only [List.zip_cons_cons, List.all_cons]
        rw [same_of (by omega), ih l' fun z hz => hx z (List.mem_cons_of_mem _ hz)]
  exact this _ _ fun x hx => hx
theorem same_self : ∀ (d : TDatum), same d d = true := by
  refine datum_ind fun d ih => ?_
  rw [same_eq, zip_self _ _ ih]
  simp [headS, ratS_self]
theorem f18_eq (a b : TDatum) (ha : Fits a) : f18 Iter.all (a, b) = some (.ok (same a b)) := fn18_eq _ a b ha (Nat.le_refl _)
def sameL (l l' : List TDatum) : Bool := l.length == l'.length && (l.zip l').all fun p => same p.1 p.2
theorem fn12_eq : ∀ (n : Nat), (∀ a b, Fits a → 2 * encTDatum_dep a ≤ n → (fn12 Iter.all n).1 (a, b) = some (.ok (same a b))) ∧
    (∀ l l', l.length < 2 ^ 62 → (∀ x ∈ l, Fits x ∧ 2 * encTDatum_dep x + 1 ≤ n) → 1 ≤ n → (fn12 Iter.all n).2 (l, l') = some (.ok (sameL l l')))
  | 0 => ⟨fun a b _ h => by have := dep_pos a; omega, fun l l' _ _ h => by omega⟩
  | n + 1 => by
    rw [fs12]
    refine ⟨fun a b hf h => ?_, fun l l' hlen hx _ => ?_⟩
    · show b12 (f28 Iter.all) (fn12 Iter.all n).2 (a, b) = _
      have hL : (fn12 Iter.all n).2 (a.x6, b.x6) = some (.ok (sameL a.x6 b.x6)) := (fn12_eq n).2 _ _ hf.len (fun x hx => ⟨hf.item hx, by have := dep_item hx; omega⟩) (by have := dep_pos a; omega)
      have hh : same a b = (a.x0 == b.x0 && (ratS ⟨a.x1, a.x2, a.x3⟩ ⟨b.x1, b.x2, b.x3⟩ && (a.x4 == b.x4 && (a.x5 == b.x5 && (a.x7 == b.x7 && sameL a.x6 b.x6))))) := by
        rw [same_eq]; simp only [headS, sameL, Bool.and_assoc]
      rw [hh]
      unfold b12
      rw [f28_eq ⟨a.x1, a.x2, a.x3⟩ ⟨b.x1, b.x2, b.x3⟩ hf.num.1 hf.num.2]
      simp only [Option.bind_eq_bind, Option.bind_some]
      by_cases e0 : a.x0 = b.x0
      · cases ratS ⟨a.x1, a.x2, a.x3⟩ ⟨b.x1, b.x2, b.x3⟩
        · simp [e0]
        · by_cases e4 : a.x4 = b.x4
          · by_cases e5 : a.x5 = b.x5
            · by_cases e7 : a.x7 = b.x7
              · simp [e0, e4, e5, e7, hL]
              · simp [e0, e4, e5, e7]
            · simp [e0, e4, e5]
          · simp [e0, e4]
      · simp [e0]
    · show b29 (fn12 Iter.all n).1 Iter.all (l, l') = _
      unfold b29
      by_cases hl : l.length = l'.length
      · rw [if_neg (by simp [hl])]
        have := iter_cmp l l' same (fun (x0 : ((List TDatum) × ((List TDatum) × Int))) => (if ((decide ((x0.2.2 < (((List.length x0.1) : Nat) : Int)))) = Bool.true) then ((if ((0 : Int) ≤ x0.2.2) then x0.1[(Int.toNat x0.2.2)]? else Option.none) >>= fun x1 => ((if ((0 : Int) ≤ x0.2.2) then x0.2.1[(Int.toNat x0.2.2)]? else Option.none) >>= fun x2 => (((fn12 Iter.all n).1 ((TDatum.mk (TDatum.x0 x1) (TDatum.x1 x1) (TDatum.x2 x1) (TDatum.x3 x1) (TDatum.x4 x1) (TDatum.x5 x1) (TDatum.x6 x1) (TDatum.x7 x1)), (TDatum.mk (TDatum.x0 x2) (TDatum.x1 x2) (TDatum.x2 x2) (TDatum.x3 x2) (TDatum.x4 x2) (TDatum.x5 x2) (TDatum.x6 x2) (TDatum.x7 x2)))) >>= fun x3 => (match x3 with | .ok x4 => (if ((Bool.not x4) = Bool.true) then (Option.some (Ou.ret (Ou.ret (Pn.ok Bool.false)))) else (Option.some (Ou.nxt (x0.1, (x0.2.1, (IntKind.wrap IntKind.i64 (x0.2.2 + (1 : Int)))))))) | .pan x5 => (Option.some (Ou.ret (Ou.ret (Pn.pan x5)))))))) else (Option.some (Ou.ret (Ou.nxt ()))))) (fun i => (l, l', (i : Int))) (.ret (.ok false)) (.nxt ()) hl (fun i x y hx' hy => by
          have hi : i < l.length := (List.getElem?_eq_some_iff.1 hx').1
          have h1 : ((i : Int) < (l.length : Int)) := by omega
          have h2 : (0 : Int) ≤ (i : Int) := by omega
          have hm := List.mem_of_getElem? hx'
          have hd := hx x hm
          simp only [h1, decide_true, if_true, h2, Int.toNat_natCast, hx', hy, Option.bind_eq_bind, Option.bind_some, mk_eta, (fn12_eq n).1 x y hd.1 (by omega)]
          rw [show IntKind.i64.wrap ((i : Int) + 1) = ((i + 1 : Nat) : Int) from by rw [wrap_small (by omega) (by omega)]; rfl]
          cases same x y <;> rfl) (by simp) l.length 0 (by omega)
        simp only [Iter.all]
        refine (congrArg (· >>= _) this).trans ?_
        simp only [List.drop_zero, sameL, hl, beq_self_eq_true, Bool.true_and]
        cases (l.zip l').all fun p => same p.1 p.2 <;> rfl
      · rw [if_pos (by simpa using by omega)]
        have : sameL l l' = false := by simp [sameL, hl]
        rw [this]
theorem f12_eq (a b : TDatum) (ha : Fits a) : f12 Iter.all (a, b) = some (.ok (same a b)) := (fn12_eq _).1 a b ha (by simp)
end Go.Bx.Dat

/- Plain laws of layer 05: law 5 (DatumCounts). (Own text.) -/
namespace Go.Bx.Dat
set_option linter.unusedVariables false
set_option linter.unusedSimpArgs false
set_option linter.unusedSectionVars false
set_option linter.unusedVariables false
theorem f21_eq (d : TDatum) (h : Fits d) : f21 Iter.all d = some (.ok (IntKind.i64.wrap (pairZ (encTDatum_dep d) d))) := fn21_eq _ d h (Nat.le_refl _)
theorem f22_eq (d : TDatum) (h : Fits d) : f22 Iter.all d = some (.ok (IntKind.i64.wrap (pairZ (encTDatum_dep d) d))) := fn22_eq _ d h (Nat.le_refl _)
theorem law5 (c9 : PUnit → Option (Pn Bool)) (h9 : c9 PUnit.unit = some (.ok true)) (a b : TDatum) (ha : Fits a) (hb : Fits b) :
    b5 c9 (f12 Iter.all) (f14 Iter.all) (f18 Iter.all) (f19 Iter.all) (f20 Iter.all) (f21 Iter.all) (f22 Iter.all) (a, b) = some (.ok true) := by
  unfold b5
  rw [show c9 () = some (.ok true) from h9, bs]
  dsimp only
  simp only [Bool.not_true, Bool.false_eq_true, if_false, mk_eta, f14_eq a ha, f14_eq b hb, flat, Option.bind_eq_bind, Option.bind_some, pieceN_all, f18_eq a b ha, f18_eq a a ha, f12_eq a b ha, same_self, beq_self_eq_true, if_true, f19_eq a ha, f20_eq a ha, f21_eq a ha, f22_eq a ha]
end Go.Bx.Dat

/- What a reading tells of a datum. (Own text.) -/
namespace Go.Bx.Dat
set_option linter.unusedVariables false
set_option linter.unusedSimpArgs false
set_option linter.unusedSectionVars false
set_option linter.unusedVariables false
theorem shape_u32s {H : Type} {n : Nat} {xs : Cs} {d : DataW H} (h : Shape tab n 23 xs d) : ∃ l : List Int, xs = [.sl (l.map fun z => [.v (.int .u32 z)])] ∧ l.length * 4 ≤ reachBytes := by
  cases n with
  | zero => exact absurd h (by simp [Shape])
  | succ n =>
    obtain ⟨l, h1, h2, _⟩ := shape_slice (T := tab) (t := 23) (e := 106) rfl rfl (fun z : Int => [.v (.int .u32 z)]) (fun _ => True) (fun ys y hy => by
      cases n with
      | zero => exact absurd hy (by simp [Shape])
      | succ n =>
        obtain ⟨z, h1, _⟩ := shape_int (T := tab) (t := 106) (k := .u32) rfl hy
        exact ⟨z, h1, trivial⟩) h
    exact ⟨l, h1, h2⟩
theorem shape_datum {H : Type} : ∀ (n : Nat) (xs : Cs) (d : DataW H), Shape tab n 28 xs d → ∃ D : TDatum, xs = encTDatum D ∧ Fits D := by
  intro n
  induction n using Nat.strongRecOn with
  | _ n ih =>
    intro xs d h
    cases n with
    | zero => exact absurd h (by simp [Shape])
    | succ n =>
      obtain ⟨ds, h⟩ := shape_struct (T := tab) (t := 28) rfl h
      obtain ⟨p0, q, d0, r, rfl, s0, h⟩ := shapeF_cons h
      obtain ⟨p1, q, d1, r, rfl, s1, h⟩ := shapeF_cons h
      obtain ⟨p2, q, d2, r, rfl, s2, h⟩ := shapeF_cons h
      obtain ⟨p3, q, d3, r, rfl, s3, h⟩ := shapeF_cons h
      obtain ⟨p4, q, d4, r, rfl, s4, h⟩ := shapeF_cons h
      obtain ⟨p5, q, d5, r, rfl, s5, h⟩ := shapeF_cons h
      obtain rfl := shapeF_nil h
      cases n with
      | zero => exact absurd s0 (by simp [Shape])
      | succ n =>
        obtain ⟨k, rfl, _⟩ := shape_int (T := tab) (t := 3) (k := .i64) rfl s0
        obtain ⟨ds1, s1⟩ := shape_struct (T := tab) (t := 25) rfl s1
        obtain ⟨a0, q, _, _, rfl, u0, s1⟩ := shapeF_cons s1
        obtain ⟨a1, q, _, _, rfl, u1, s1⟩ := shapeF_cons s1
        obtain ⟨a2, q, _, _, rfl, u2, s1⟩ := shapeF_cons s1
        obtain rfl := shapeF_nil s1
        obtain ⟨l1, rfl, b1⟩ := shape_u32s u1
        obtain ⟨l2, rfl, b2⟩ := shape_u32s u2
        obtain ⟨ng, rfl⟩ : ∃ b, a0 = cBool b := by
          cases n with
          | zero => exact absurd u0 (by simp [Shape])
          | succ n => exact shape_bool (T := tab) (t := 4) rfl u0
        obtain ⟨fl, rfl⟩ := shape_bool (T := tab) (t := 4) rfl s2
        obtain ⟨nm, rfl, _⟩ := shape_str (T := tab) (t := 9) rfl s3
        obtain ⟨its, rfl, bi, hi⟩ := shape_slice (T := tab) (t := 26) (e := 28) rfl rfl encTDatum Fits (fun ys y hy => ih n (by omega) ys y hy) s4
        obtain ⟨dt, rfl⟩ := shape_bool (T := tab) (t := 4) rfl s5
        refine ⟨⟨k, ng, l1, l2, fl, nm, its, dt⟩, ?_, Fits.mk ?_ ?_ ?_ hi⟩
        · simp only [encTDatum, encTDatums_map]; rfl
        · exact bi
        · exact b1
        · exact b2
end Go.Bx.Dat

/- Law 5 (DatumCounts) as a call. (Own text.) -/
namespace Go.Bx.Dat
set_option linter.unusedVariables false
set_option linter.unusedSimpArgs false
set_option linter.unusedSectionVars false
open Go.Proofs
set_option maxRecDepth 100000
set_option linter.unusedVariables false
noncomputable def G5w : Snd S fm5 5 Try.f5 := Snd.run SOK (fun f => match f with
    | 9 => .pure (Snd.row SOK (G9 (Iter.upto 300)) res9)
    | 12 => .pure (Snd.row SOK (G12 Iter.all) res12)
    | 14 => .pure (Snd.row SOK (G14 Iter.all) res14)
    | 18 => .pure (Snd.row SOK (G18 Iter.all) res18)
    | 19 => .pure (Snd.row SOK (G19 Iter.all) res19)
    | 20 => .pure (Snd.row SOK (G20 Iter.all) res20)
    | 21 => .pure (Snd.row SOK (G21 Iter.all) res21)
    | 22 => .pure (Snd.row SOK (G22 Iter.all) res22)
    | _ => .none) Iter.all fm5 5 Try.func5 (names _ _ Try.func5)
theorem w9 : f9 (Iter.upto 300) PUnit.unit = some (.ok true) := by kernel_rfl
theorem G5w_eq : G5w.1 = b5 (f9 (Iter.upto 300)) (f12 Iter.all) (f14 Iter.all) (f18 Iter.all) (f19 Iter.all) (f20 Iter.all) (f21 Iter.all) (f22 Iter.all) :=
  (show G5w.1 = b5 (G9 (Iter.upto 300)).1 (G12 Iter.all).1 (G14 Iter.all).1 (G18 Iter.all).1 (G19 Iter.all).1 (G20 Iter.all).1 (G21 Iter.all).1 (G22 Iter.all).1 from by kernel_rfl).trans (by rw [e9, e12, e14, e18, e19, e20, e21, e22])
theorem f5_ok (a b : TDatum) (ha : Fits a) (hb : Fits b) : PureOK E 5 [.agg (encTDatum a), .agg (encTDatum b)] (.v (.bool true)) := by
  have h : G5w.1 (a, b) = some (.ok true) := by rw [G5w_eq]; exact law5 _ w9 a b ha hb
  obtain ⟨a0, a1, a2, a3, a4, a5, a6, a7⟩ := a
  obtain ⟨b0, b1, b2, b3, b4, b5, b6, b7⟩ := b
  have hA : argS S fm5 [.agg [.i .i64 a0, .b a1, .l 106 a2, .l 106 a3, .b a4, .s a5, .l 28 a6, .b a7], .agg [.i .i64 b0, .b b1, .l 106 b2, .l 106 b3, .b b4, .s b5, .l 28 b6, .b b7]] = some (⟨a0, a1, a2, a3, a4, a5, a6, a7⟩, ⟨b0, b1, b2, b3, b4, b5, b6, b7⟩) := by kernel_rfl
  have hv : resP S Try.f5 fm5.fin true = some [([.sv (.b true)], false)] := by kernel_rfl
  have := G5w.2 _ _ _ hA h _ hv
  have e1 : rsAV S ([([.sv (.b true)], false)] : List (RV S.I)) = .v (.bool true) := by kernel_rfl
  rw [e1] at this
  have e2 : avs S [.agg [.i .i64 a0, .b a1, .l 106 a2, .l 106 a3, .b a4, .s a5, .l 28 a6, .b a7], .agg [.i .i64 b0, .b b1, .l 106 b2, .l 106 b3, .b b4, .s b5, .l 28 b6, .b b7]] = [.agg (encTDatum ⟨a0, a1, a2, a3, a4, a5, a6, a7⟩), .agg (encTDatum ⟨b0, b1, b2, b3, b4, b5, b6, b7⟩)] := by
    simp only [encTDatum, encTDatums_map]
    kernel_rfl
  rw [e2] at this
  exact this
def okD (t : TypeId) : Bool := t == 28 || t == 3 || t == 25 || t == 23 || t == 106 || t == 4 || t == 9 || t == 26
theorem okD_ok : ∀ t, okD t = true → okT tab okD t = true := by
  intro t h
  simp only [okD, Bool.or_eq_true, beq_iff_eq] at h
  rcases h with ((((((rfl | rfl) | rfl) | rfl) | rfl) | rfl) | rfl) | rfl <;> rfl
end Go.Bx.Dat
