/- An evaluator of the model's code over plain values, and the proof that what it answers the machine does (Bb). Own text; parts are printed by a program of this claim's author. -/
import Derived.Test.YtcjhbkcdhpbkcaaBa
import Derived.Orders
import Derived.Scope
import Derived.KernelRfl
import Derived.ChangeArms
import Derived.SizedLaws
import Derived.ChangeSlices
import Derived.Carry
/- The end of a call. (Own text.) -/
namespace Go.Bx
set_option linter.unusedVariables false
set_option linter.unusedSimpArgs false
set_option linter.unusedSectionVars false
set_option linter.unusedVariables false
set_option linter.unusedSectionVars false

/-- Data alone is told of memory alone. -/
theorem Rep.move {c c' : Ctx} (hw : c'.w = c.w) (hS : c'.S = c.S) {x : AV} {u : Value} (h : Rep c x u) (hp : pl x = true) : Rep c' x u := by
  induction h with
  | v x => exact .v x
  | sl sz b o u hn hc hA hsz hcell _ ih =>
    exact .sl sz b o u hn hc hA hsz (fun i e j x h1 h2 => by rw [hw, hS]; exact hcell i e j x h1 h2) (fun i e j x h1 h2 => ih i e j x h1 h2 (hcell i e j x h1 h2).2.2)
  | emp => exact .emp
  | _ => simp [pl] at hp

theorem Rep.moveC {c c' : Ctx} (hw : c'.w = c.w) (hS : c'.S = c.S) {x : AV} {u : Value} (h : Rep c x u) (hp : closed x = true) : Rep c' x u := by
  cases h with
  | v => exact .v _
  | sl sz b o u hn hc hA hsz hcell hrep => exact (Rep.sl sz b o u hn hc hA hsz hcell hrep).move hw hS rfl
  | vp b o u hcell hrep => exact .vp b o u (fun j x h1 => by rw [hw, hS]; exact hcell j x h1) (fun j x h1 => (hrep j x h1).move hw hS (hcell j x h1).2.2)
  | fn hl hl' h h' =>
    rename_i f first caps fv cv
    cases first with
    | nil =>
      cases caps with
      | nil => exact .fn hl hl' (fun j x u h1 => by simp at h1) (fun j x u h1 => by simp at h1)
      | cons a l => simp [closed] at hp
    | cons a l => simp [closed] at hp
  | ifc h => exact .ifc (h.move hw hS (by simpa [closed] using hp))
  | emp => exact .emp
  | junk => exact .junk
  | _ => simp [closed] at hp

section
variable {P : Program} {T : Tab} (hT : TabOK P T) {base : Nat}


def ResOK (P : Program) (w : World) (tmps : Array Value) (v : Value) : ResultVar → Prop
  | .tmp t => v = tmps.getD t undef
  | .cell a t => ∃ ad, tmps.getD a undef = .pointer (some ad) ∧ (loadVar t ad).run P w = .ok v w

def resF (tmps : Array Value) : ResultVar → Sem Value
  | .tmp t => pure (tmps.getD t undef)
  | .cell a t => do loadVar t (← asAddr (tmps.getD a undef))

theorem results_eq (fn : Func) (tmps : Array Value) : results fn tmps = (do
    let vs ← fn.results.mapM (resF tmps)
    pure (if h : vs.size = 1 then vs[0] else .tuple vs)) := by
  unfold results
  congr 1

/-- Results, one by one. -/
theorem run_results {fn : Func} {tmps : Array Value} {w : World} {vs : List Value}
    (h : ∀ (i : Nat) (r : ResultVar) (v : Value), fn.results.toList[i]? = some r → vs[i]? = some v → ResOK P w tmps v r) (hl : vs.length = fn.results.size) :
    (results fn tmps).run P w = .ok (oneV vs) w := by
  have key : ∀ (rs : List ResultVar) (vs : List Value), rs.length = vs.length → (∀ (i : Nat) (r : ResultVar) (v : Value), rs[i]? = some r → vs[i]? = some v → ResOK P w tmps v r) →
      (rs.mapM (resF tmps)).run P w = .ok vs w := by
    intro rs
    induction rs with
    | nil => intro vs hl _; have : vs = [] := List.eq_nil_of_length_eq_zero hl.symm; subst this; simp
    | cons r rs ih =>
      intro vs hl hh
      cases vs with
      | nil => simp at hl
      | cons v vs =>
        have h0 := hh 0 r v rfl rfl
        have h1 := ih vs (by simpa using hl) (fun i r v h1 h2 => hh (i + 1) r v (by simpa using h1) (by simpa using h2))
        rw [List.mapM_cons]
        cases r with
        | tmp t => simp only [ResOK] at h0; subst h0; simp only [resF, Sem.run_bind, Sem.run_pure, Result.andThen_ok, h1]
        | cell a t =>
          obtain ⟨ad, h2, h3⟩ := h0
          have h4 : (asAddr (tmps.getD a undef)).run P w = .ok ad w := by rw [h2]; rfl
          simp only [resF, Sem.run_bind, Sem.run_pure, Result.andThen_ok, h4, h3, h1]
  have hk := key fn.results.toList vs (by simp [hl]) h
  rw [results_eq, Array.mapM_eq_mapM_toList]
  simp only [Sem.run_bind, Sem.run_map, hk, Result.andThen_ok, Sem.run_pure]
  match vs with
  | [] => simp [oneV]
  | [v] => simp [oneV]
  | a :: b :: l => simp [oneV]

/-- A leaf on its way out: what it was. -/
def Src1 (c : Ctx) (σ : Store) (k : Nat) (x : AV) (b : Option Nat) : Prop := ∀ B, b = some B → ∃ id sz lo n o L, x = .row id sz lo n ∧ σ.ob id = some o ∧ c.m id = some (.at L) ∧ L.b = B ∧ k ≤ id

theorem export1_ok {c cx : Ctx} {σ : Store} (hI : Inv σ c base) (hw : cx.w = c.w) (hS : cx.S = c.S) {k0 : Nat} {k : Option Nat} {x y : AV} {u : Value} (h : export1 σ k0 k x = some y) (hx : Rep c x u)
    (htr : closed y = true ∨ cx = c) : ∃ b, PendX cx base y u b ∧ Src1 c σ k0 x b := by
  have hpl : ∀ {x u}, Rep c x u → pl x = true → Rep cx x u := fun h hp => h.move hw hS hp
  unfold export1 at h
  split at h
  · cases h; cases hx; exact ⟨none, .virt, fun B hB => by cases hB⟩
  · cases h; cases hx; exact ⟨none, .virt, fun B hB => by cases hB⟩
  · rename_i id sz lo n
    split at h
    · rename_i o hob
      split at h
      · rename_i hc
        obtain ⟨hge, hle, hsh⟩ := hc
        have hlen : (slice o.es lo n).length = n := by simp [slice]; omega
        -- the elements as they are told
        have key : ∀ es : List Cs, es.length = n → (∀ (i : Nat) e', es[i]? = some e' → ∃ e, (slice o.es lo n)[i]? = some e ∧ e'.length = e.length ∧ ∀ (j : Nat) y', e'[j]? = some y' → ∃ x', e[j]? = some x' ∧ pl y' = true ∧ ∀ v, Rep c x' v → Rep c y' v) →
            ∃ b, PendX cx base (.own o.sh sz es) u b ∧ Src1 c σ k0 (.row id sz lo n) b := by
          intro es hel hes
          cases hx with
          | row L hm hs hn ht hA =>
            rename_i A cap
            have hok := hI.core.obj id o L hob hm
            obtain ⟨arr, T0, h1, h2, h3⟩ := hok.mem
            have e1 : ∀ i j, L.o + lo * sz + i * sz + j = L.o + (lo + i) * L.sz + j := by intro i j; rw [Nat.add_mul, hs]; omega
            refine ⟨some L.b, ?_, fun B hB => by cases hB; exact ⟨id, sz, lo, n, o, L, rfl, hob, hm, rfl, hge⟩⟩
            have hokx : ObjOK cx base ⟨sz, o.sh, true, es⟩ ⟨L.b, L.o + lo * sz, sz, cap⟩ := by
              refine ⟨rfl, hok.base, by rw [hel]; exact hn, ?_, ?_, ?_, arr, T0, by rw [hw]; exact h1, ?_, ?_⟩
              · intro e' he'
                obtain ⟨i, hi⟩ := List.mem_iff_getElem?.1 he'
                obtain ⟨e, he, hl, _⟩ := hes i e' hi
                rw [hl, hok.wid e (List.mem_of_getElem? (slice_get he).1), ← hok.sz, hs]
              · intro e' he' z hz
                obtain ⟨i, hi⟩ := List.mem_iff_getElem?.1 he'
                obtain ⟨j, hj⟩ := List.mem_iff_getElem?.1 hz
                obtain ⟨e, he, hl, hj'⟩ := hes i e' hi
                obtain ⟨x', hx', hp, _⟩ := hj' j z hj
                exact leaf_of_pl hp
              · intro _ e' he' z hz
                obtain ⟨i, hi⟩ := List.mem_iff_getElem?.1 he'
                obtain ⟨j, hj⟩ := List.mem_iff_getElem?.1 hz
                obtain ⟨e, he, hl, hj'⟩ := hes i e' hi
                obtain ⟨x', hx', hp, _⟩ := hj' j z hj
                exact hp
              · have h4 : (lo + cap) * L.sz = L.tot * L.sz := by rw [ht]
                rw [Nat.add_mul, hs] at h4; rw [hs] at h2
                show L.o + lo * sz + cap * sz ≤ arr.size
                omega
              · intro i e' j z hi hj
                obtain ⟨e, he, hl, hj'⟩ := hes i e' hi
                obtain ⟨x', hx', hp, hv⟩ := hj' j z hj
                obtain ⟨v, a1, a2, a3⟩ := h3 (lo + i) e j x' (slice_get he).1 hx'
                refine ⟨v, ?_, hpl (hv v a2) hp, fun hsh' => ?_⟩
                · show arr[L.o + lo * sz + i * sz + j]? = some v
                  rw [e1]; exact a1
                · rw [hS]
                  show c.S ⟨L.b, L.o + lo * sz + i * sz + j, none⟩
                  rw [e1]; exact a3 hsh'
            have := PendX.at (sh := o.sh) (A := A) (cap := cap) ⟨L.b, L.o + lo * sz, sz, cap⟩ hokx (by rw [hel]; exact hn) rfl hA (by
              intro a ha hab
              rw [hS] at ha
              show a.off < L.o + lo * sz ∨ (o.sh = true ∧ a.off < L.o + lo * sz + es.length * sz)
              rcases hI.core.free id o L hob hm a ha hab with h | ⟨h, h'⟩
              · left; omega
              · by_cases hlow : a.off < L.o + lo * sz
                · exact .inl hlow
                · right
                  refine ⟨h, ?_⟩
                  have h4 := hsh h
                  rw [← h4, hs, Nat.add_mul] at h'
                  rw [hel]; omega)
            rw [hel] at this
            exact this
          | row0 hm =>
            have : es = [] := List.eq_nil_of_length_eq_zero hel
            subst this
            exact ⟨none, .virt, fun B hB => by cases hB⟩
        split at h
        · rename_i hfl; cases h
          refine key _ hlen (fun i e' hi => ⟨e', hi, rfl, fun j y' hj => ⟨y', hj, ?_, fun v hv => hv⟩⟩)
          have hmem := List.mem_of_getElem? (slice_get hi).1
          cases hx with
          | row L hm _ _ _ _ => exact (hI.core.obj id o L hob hm).flat hfl e' hmem y' (List.mem_of_getElem? hj)
          | row0 hm => have := hI.core.virt id o hob hm; rw [this] at hmem; cases hmem
        · split at h
          · rename_i es hes
            split at h
            · rename_i hp; cases h
              obtain ⟨h4, h5⟩ := mapO_some hes
              refine key es (by rw [h4, hlen]) (fun i e' hi => ?_)
              obtain ⟨e, he, hee⟩ := h5 i e' hi
              obtain ⟨h6, h7⟩ := mapO_some hee
              refine ⟨e, he, h6, fun j y' hj => ?_⟩
              obtain ⟨x', hx', hxx⟩ := h7 j y' hj
              exact ⟨x', hx', List.all_eq_true.1 (List.all_eq_true.1 hp e' (List.mem_of_getElem? hi)) y' (List.mem_of_getElem? hj), fun v hv => reify_rep hI 8 x' y' v hxx hv⟩
            · cases h
          · cases h
      · cases h
    · cases h
  · cases h
  · cases h
    refine ⟨none, .rep ?_, fun B hB => by cases hB⟩
    rcases htr with hcl | rfl
    · exact hx.moveC hw hS hcl
    · exact hx

theorem exportL_ok {c cx : Ctx} {σ : Store} (hI : Inv σ c base) (hw : cx.w = c.w) (hS : cx.S = c.S) {k0 : Nat} : ∀ {ks : List (Option Nat)} {xs ys : Cs} {us : List Value}, exportL σ k0 ks xs = some ys → Reps c xs us →
    (ys.all closed = true ∨ cx = c) → ∃ bs, PendL cx base ys us bs ∧ xs.length = bs.length ∧ ∀ (i : Nat) x b, xs[i]? = some x → bs[i]? = some b → Src1 c σ k0 x b
  | [], [], ys, us, h, hr, _ => by
    simp [exportL] at h; subst h
    have : us = [] := List.eq_nil_of_length_eq_zero hr.1.symm
    subst this
    exact ⟨[], .nil, rfl, fun i x b h => by simp at h⟩
  | [], x :: xs, ys, us, h, hr, _ => by simp [exportL] at h
  | k :: ks, [], ys, us, h, hr, _ => by simp [exportL] at h
  | k :: ks, x :: xs, ys, us, h, hr, hc => by
    simp only [exportL] at h
    split at h
    · rename_i y ys' hy hys; cases h
      cases us with
      | nil => have := hr.1; simp at this
      | cons u us =>
        have hr1 : Rep c x u := hr.2 0 x u rfl rfl
        have hr2 : Reps c xs us := ⟨by have := hr.1; simpa using this, fun j z v h1 h2 => hr.2 (j + 1) z v (by simpa using h1) (by simpa using h2)⟩
        obtain ⟨b, h1, h2⟩ := export1_ok hI hw hS hy hr1 (hc.imp (fun h => by simp at h; exact h.1) id)
        obtain ⟨bs, h3, h4, h5⟩ := exportL_ok hI hw hS hys hr2 (hc.imp (fun h => by simp at h ⊢; exact h.2) id)
        refine ⟨b :: bs, .cons h1 h3, by simp [h4], fun i z b' hi hb => ?_⟩
        cases i with
        | zero => simp at hi hb; subst hi; subst hb; exact h2
        | succ i => exact h5 i z b' (by simpa using hi) (by simpa using hb)
    · cases h

theorem exportV_ok {c cx : Ctx} {σ : Store} (hI : Inv σ c base) (hw : cx.w = c.w) (hS : cx.S = c.S) {k0 : Nat} {t : TypeId} {x y : AV} {u : Value} (h : exportV T σ k0 t x = some y) (hx : Rep c x u)
    (hc : (cells y).all closed = true ∨ cx = c) : (∀ vs, y ≠ .tup vs) ∧ ∃ bs, PendV cx base y u bs ∧ (cells x).length = bs.length ∧ ∀ (i : Nat) z b, (cells x)[i]? = some z → bs[i]? = some b → Src1 c σ k0 z b := by
  unfold exportV at h
  split at h
  · rename_i r cs hr
    rw [Option.map_eq_some_iff] at h; obtain ⟨ys, hys, rfl⟩ := h
    obtain ⟨vs, rfl, hvs⟩ := hx.of_agg
    obtain ⟨bs, h1, h2, h3⟩ := exportL_ok hI hw hS hys hvs hc
    exact ⟨nofun, bs, .agg h1, h2, h3⟩
  · cases h
  · rename_i x _ _ r hr hna hnt
    split at h
    · rename_i k hk
      have hcx : cells x = [x] := by
        cases x <;> first | rfl | exact absurd rfl (hna _)
      have hy : ∀ xs, y ≠ .agg xs ∧ y ≠ .tup xs := by
        intro xs
        unfold export1 at h
        split at h
        · cases h; exact ⟨nofun, nofun⟩
        · cases h; exact ⟨nofun, nofun⟩
        · split at h
          · split at h
            · split at h
              · cases h; exact ⟨nofun, nofun⟩
              · split at h
                · split at h
                  · cases h; exact ⟨nofun, nofun⟩
                  · cases h
                · cases h
            · cases h
          · cases h
        · cases h
        · cases h
          exact ⟨fun h => hna xs h, fun h => hnt xs h⟩
      have hcy : cells y = [y] := by cases y <;> first | rfl | exact absurd rfl (hy _).1
      obtain ⟨b, h1, h2⟩ := export1_ok hI hw hS h hx (hc.imp (fun h => by rw [hcy] at h; simpa using h) id)
      refine ⟨fun vs => (hy vs).2, [b], .leaf (fun xs => (hy xs).1) h1, by rw [hcx]; rfl, fun i z b' hi hb => ?_⟩
      rw [hcx] at hi
      cases i with
      | zero => simp at hi hb; subst hi; subst hb; exact h2
      | succ i => simp at hi
    · cases h
  · cases h

theorem exportVs_ok {c cx : Ctx} {σ : Store} (hI : Inv σ c base) (hw : cx.w = c.w) (hS : cx.S = c.S) {k0 : Nat} : ∀ {ts : List TypeId} {xs ys : Cs} {us : List Value}, exportVs T σ k0 ts xs = some ys → Reps c xs us →
    ((ys.all fun y => (cells y).all closed) = true ∨ cx = c) → (∀ y ∈ ys, ∀ vs, y ≠ .tup vs) ∧ ∃ bs, PendVs cx base ys us bs ∧ (xs.flatMap cells).length = bs.length ∧ ∀ (i : Nat) x b, (xs.flatMap cells)[i]? = some x → bs[i]? = some b → Src1 c σ k0 x b
  | [], [], ys, us, h, hr, _ => by
    simp [exportVs] at h; subst h
    have : us = [] := List.eq_nil_of_length_eq_zero hr.1.symm
    subst this
    exact ⟨nofun, [], .nil, rfl, fun i x b h => by simp at h⟩
  | [], x :: xs, ys, us, h, hr, _ => by simp [exportVs] at h
  | k :: ks, [], ys, us, h, hr, _ => by simp [exportVs] at h
  | k :: ks, x :: xs, ys, us, h, hr, hc => by
    simp only [exportVs] at h
    split at h
    · rename_i y ys' hy hys; cases h
      cases us with
      | nil => have := hr.1; simp at this
      | cons u us =>
        have hr1 : Rep c x u := hr.2 0 x u rfl rfl
        have hr2 : Reps c xs us := ⟨by have := hr.1; simpa using this, fun j z v h1 h2 => hr.2 (j + 1) z v (by simpa using h1) (by simpa using h2)⟩
        obtain ⟨hnt, bs1, h1, h2, h3⟩ := exportV_ok (T := T) hI hw hS hy hr1 (hc.imp (fun h => by simp only [List.all_cons, Bool.and_eq_true] at h; exact h.1) id)
        obtain ⟨hnt2, bs2, h4, h5, h6⟩ := exportVs_ok hI hw hS hys hr2 (hc.imp (fun h => by simp only [List.all_cons, Bool.and_eq_true] at h; exact h.2) id)
        refine ⟨fun z hz => ?_, bs1 ++ bs2, .cons h1 h4, ?_, fun i z b' hi hb => ?_⟩
        · rcases List.mem_cons.1 hz with rfl | hz
          · exact hnt
          · exact hnt2 z hz
        · simp only [List.flatMap_cons, List.length_append, h2, h5]
        · rw [List.flatMap_cons] at hi
          by_cases hlt : i < (cells x).length
          · rw [List.getElem?_append_left hlt] at hi
            rw [List.getElem?_append_left (by omega)] at hb
            exact h3 i z b' hi hb
          · rw [List.getElem?_append_right (by omega)] at hi
            rw [List.getElem?_append_right (by omega), ← h2] at hb
            exact h6 _ z b' hi hb
    · cases h

/-- Rows that are different lie in different blocks. -/
theorem noDup_of {c : Ctx} {σ : Store} (hI : Inv σ c base) {k0 : Nat} : ∀ {xs : Cs} {bs : List (Option Nat)}, xs.length = bs.length → (∀ (i : Nat) x b, xs[i]? = some x → bs[i]? = some b → Src1 c σ k0 x b) → (xs.flatMap rowOf).Nodup → NoDup bs
  | [], bs, hl, _, _ => by have : bs = [] := List.eq_nil_of_length_eq_zero hl.symm; subst this; exact .nil
  | x :: xs, [], hl, _, _ => by simp at hl
  | x :: xs, b :: bs, hl, hs, hn => by
    rw [List.flatMap_cons] at hn
    obtain ⟨hn1, hn2, hn3⟩ := List.nodup_append.1 hn
    refine .cons (fun b2 hb2 B hB hB2 => ?_) (noDup_of hI (by simpa using hl) (fun i z b' h1 h2 => hs (i + 1) z b' (by simpa using h1) (by simpa using h2)) hn2)
    obtain ⟨id, sz, lo, n, o, L, rfl, ho, hm, hLb, _⟩ := hs 0 x b rfl rfl B hB
    obtain ⟨i, hi⟩ := List.mem_iff_getElem?.1 hb2
    have hlt : i < xs.length := by have := (List.getElem?_eq_some_iff.1 hi).1; simp at hl; omega
    obtain ⟨id2, sz2, lo2, n2, o2, L2, hx2, ho2, hm2, hLb2, _⟩ := hs (i + 1) xs[i] b2 (by simp [hlt]) (by simpa using hi) B hB2
    have hne : id ≠ id2 := by
      intro e
      refine hn3 id (by simp [rowOf]) id2 ?_ e
      rw [List.mem_flatMap]
      exact ⟨xs[i], List.getElem_mem hlt, by rw [hx2]; simp [rowOf]⟩
    exact hI.core.apart id id2 o o2 L L2 ho ho2 hm hm2 hne (by rw [hLb, hLb2])

end

end Go.Bx

/- The end of a call, joined. (Own text.) -/
namespace Go.Bx
set_option linter.unusedVariables false
set_option linter.unusedSimpArgs false
set_option linter.unusedSectionVars false
set_option linter.unusedVariables false
set_option linter.unusedSectionVars false

section
variable {P : Program} {T : Tab} (hT : TabOK P T) {base : Nat}

include hT in
theorem resAV_ok {c : Ctx} {σ : Store} (hI : Inv σ c base) {tm : Cs} {tmps : Array Value} (hts : ∀ t, Rep c (tm.getD t .junk) (tmps.getD t undef)) : ∀ {rs : List ResultVar} {xs : Cs}, mapO (resAV T tm σ) rs = some xs →
    ∃ vs : List Value, Reps c xs vs ∧ vs.length = rs.length ∧ ∀ (i : Nat) (r : ResultVar) (v : Value), rs[i]? = some r → vs[i]? = some v → ResOK P c.w tmps v r
  | [], xs, h => by simp [mapO] at h; subst h; exact ⟨[], Reps.nil _, rfl, fun i r v h => by simp at h⟩
  | r :: rs, xs, h => by
    simp only [mapO] at h
    split at h
    · rename_i y ys hy hys; cases h
      obtain ⟨vs, h1, h2, h3⟩ := resAV_ok hI hts hys
      have h0 : ∃ v, Rep c y v ∧ ResOK P c.w tmps v r := by
        cases r with
        | tmp t => simp only [resAV] at hy; cases hy; exact ⟨_, hts t, rfl⟩
        | cell a t =>
          simp only [resAV] at hy
          rw [Option.map_eq_some_iff] at hy; obtain ⟨q, hq, rfl⟩ := hy
          obtain ⟨ad, v, h4, h5, h6, _⟩ := load_ptr hT hI (hts a) hq
          exact ⟨v, h6, ad, h4, h5⟩
      obtain ⟨v, h4, h5⟩ := h0
      refine ⟨v :: vs, Reps.cons h4 h1, by simp [h2], fun i q z hi hz => ?_⟩
      cases i with
      | zero => simp at hi hz; subst hi; subst hz; exact h5
      | succ i => exact h3 i q z (by simpa using hi) (by simpa using hz)
    · cases h

theorem Inv.killAll {c : Ctx} : ∀ (ids : List Nat) {σ : Store}, Inv σ c base → Inv (killAll σ ids) c base ∧ (Bx.killAll σ ids).clock = σ.clock ∧ ∀ id o, (Bx.killAll σ ids).ob id = some o → id ∉ ids ∧ σ.ob id = some o
  | [], σ, h => ⟨h, rfl, fun id o h => ⟨nofun, h⟩⟩
  | i :: ids, σ, h => by
    obtain ⟨h1, h2, h3⟩ := Inv.killAll ids (h.kill i)
    refine ⟨h1, h2, fun id o ho => ?_⟩
    obtain ⟨h4, h5⟩ := h3 id o ho
    simp only [Store.put] at h5
    by_cases hid : id = i
    · rw [if_pos hid] at h5; cases h5
    · rw [if_neg hid] at h5
      exact ⟨by simp [hid, h4], h5⟩

/-- The world behind a call that touched no elder object. -/
def midC (c0 c : Ctx) : Ctx := { w := c.w, S := c.S, m := c0.m }

theorem mid_ok {c0 c : Ctx} {σ0 σ : Store} (hI0 : Inv σ0 c0 base) (hI : Inv σ c base) (e : Ext c0 c) (hf : Fr c0 σ0 none c) : Ext c0 (midC c0 c) ∧ Inv σ0 (midC c0 c) base := by
  have e' : Ext c0 (midC c0 c) := ⟨e.S, e.cell, fun _ _ h => h, e.size, e.os, e.tape, e.output, e.ty⟩
  have hb : ∀ b, b < c0.w.heap.size → c.w.heap[b]? = c0.w.heap[b]? := fun b hb => hf.block b hb (fun _ _ _ _ _ _ hl => by cases hl)
  refine ⟨e', ⟨⟨?_, hI0.core.virt, hI0.core.apart, hI.core.inn, ?_, Nat.le_trans hI0.core.base_le e.size⟩, hI0.dom, hI0.old⟩⟩
  · intro id o L h1 h2
    exact (hI0.core.obj id o L h1 h2).mono e' (hb _ (hI0.core.b_lt h1 h2))
  · intro id o L h1 h2 a ha hab
    rcases hf.snew a ha with h | h | ⟨_, _, _, _, _, _, _, hl, _⟩
    · exact hI0.core.free id o L h1 h2 a h hab
    · have := hI0.core.b_lt h1 h2; omega
    · cases hl

include hT in
theorem return_ok0 {c0 c : Ctx} {σ0 : Store} {s : FS} {fn : Func} {tmps : Array Value} (hI0 : Inv σ0 c0 base) (hI : Inv s.σ c base) (e : Ext c0 c) (hf : Fr c0 σ0 s.low c) (hclk : σ0.clock ≤ s.σ.clock)
    (hts : ∀ t, Rep c (s.tm.getD t .junk) (tmps.getD t undef)) {r : AV} {σr : Store} {tl : Option Nat} (h : evReturn0 T σ0 fn s = some (r, σr, tl)) :
    ∃ v c', (results fn tmps).run P c.w = .ok v c.w ∧ c'.w = c.w ∧ Ext c0 c' ∧ Inv (importAV σr r).2 c' base ∧ Rep c' (importAV σr r).1 v ∧ Fr c0 σ0 tl c' := by
  unfold evReturn0 at h
  split at h
  · rename_i xs hxs
    split at h
    · rename_i ys hys
      split at h
      · rename_i hc; cases h
        obtain ⟨hnd, hcl⟩ := hc
        obtain ⟨vs, h1, h2, h3⟩ := resAV_ok hT hI hts hxs
        have hrun := run_results (P := P) (fn := fn) (tmps := tmps) (w := c.w) h3 (by simpa using h2)
        have hnd' : ((xs.flatMap cells).flatMap rowOf).Nodup := by rw [List.flatMap_assoc]; exact hnd
        cases hlow : s.low with
        | none =>
          rw [hlow] at hf hcl
          have hcl' : (ys.all fun y => (cells y).all closed) = true := by simpa using hcl
          obtain ⟨hnt, bs, h4, h5, h6⟩ := exportVs_ok (cx := midC c0 c) hI rfl rfl hys h1 (.inl hcl')
          have hn := noDup_of hI h5 h6 hnd'
          obtain ⟨em, him⟩ := mid_ok hI0 hI e hf
          have hbs : ∀ b ∈ bs, ∀ B, b = some B → c0.w.heap.size ≤ B := by
            intro b hb B hB
            obtain ⟨i, hi⟩ := List.mem_iff_getElem?.1 hb
            have hlt : i < (xs.flatMap cells).length := by have := (List.getElem?_eq_some_iff.1 hi).1; omega
            obtain ⟨id, sz, lo, n, o, L, _, ho, hm, hLb, hge⟩ := h6 i (xs.flatMap cells)[i] b (by simp [hlt]) hi B hB
            have hm0 : c0.m id ≠ some (.at L) := by
              intro hcon; have := hI0.dom id _ hcon; omega
            rcases hf.bnew id L hm hm0 with h | ⟨_, _, _, _, _, _, _, hl, _⟩
            · omega
            · cases hl
          obtain ⟨c', h7, h8⟩ := importAV_ok him h4 hn (fun b hb B hB => by
            intro id o L ho hm hcon
            have := hbs b hb L.b hcon.symm
            have := hI0.core.b_lt ho hm
            omega) hnt
          refine ⟨_, c', hrun, h7.w, em.trans h7.ext, h7.inv, h8, ?_⟩
          refine ⟨fun b hb hne => ?_, fun id l hl => h7.mnew id l hl, fun id L hl hn' => ?_, fun a ha => ?_⟩
          · rw [h7.w]; exact hf.block b hb (fun _ _ _ _ _ _ hl => by cases hl)
          · rcases h7.bnew id L hl with h | h
            · exact absurd h hn'
            · exact .inl (hbs _ h _ rfl)
          · rw [h7.S] at ha
            rcases hf.snew a ha with h | h | ⟨_, _, _, _, _, _, _, hl, _⟩
            · exact .inl h
            · exact .inr (.inl h)
            · cases hl
        | some l =>
          rw [hlow] at hf
          obtain ⟨hnt, bs, h4, h5, h6⟩ := exportVs_ok (cx := c) hI rfl rfl hys h1 (.inr rfl)
          have hn := noDup_of hI h5 h6 hnd'
          obtain ⟨hk1, hk2, hk3⟩ := Inv.killAll (rowsOf xs) hI
          have hsrc : ∀ b ∈ bs, ∀ B, b = some B → ∃ id o L, id ∈ rowsOf xs ∧ s.σ.ob id = some o ∧ c.m id = some (.at L) ∧ L.b = B ∧ σ0.clock ≤ id := by
            intro b hb B hB
            obtain ⟨i, hi⟩ := List.mem_iff_getElem?.1 hb
            have hlt : i < (xs.flatMap cells).length := by have := (List.getElem?_eq_some_iff.1 hi).1; omega
            obtain ⟨id, sz, lo, n, o, L, hx, ho, hm, hLb, hge⟩ := h6 i (xs.flatMap cells)[i] b (by simp [hlt]) hi B hB
            refine ⟨id, o, L, ?_, ho, hm, hLb, hge⟩
            show id ∈ xs.flatMap fun x => (cells x).flatMap rowOf
            rw [← List.flatMap_assoc, List.mem_flatMap]
            exact ⟨(xs.flatMap cells)[i], List.getElem_mem hlt, by rw [hx]; simp [rowOf]⟩
          obtain ⟨c', h7, h8⟩ := importAV_ok hk1 h4 hn (fun b hb B hB => by
            intro id o L ho hm hcon
            obtain ⟨id2, o2, L2, hmem, ho2, hm2, hLb, _⟩ := hsrc b hb L.b hcon.symm
            obtain ⟨hnm, ho'⟩ := hk3 id o ho
            exact hI.core.apart id id2 o o2 L L2 ho' ho2 hm hm2 (by intro h; subst h; exact hnm hmem) hLb.symm) hnt
          refine ⟨_, c', hrun, h7.w, e.trans h7.ext, h7.inv, h8, ?_⟩
          refine ⟨fun b hb hne => ?_, fun id l' hl => ?_, fun id L hl hn' => ?_, fun a ha => ?_⟩
          · rw [h7.w]; exact hf.block b hb hne
          · rcases h7.mnew id l' hl with h | h
            · exact hf.mnew id l' h
            · right
              rw [hk2] at h
              omega
          · rcases h7.bnew id L hl with h | h
            · exact hf.bnew id L h hn'
            · obtain ⟨id2, o2, L2, _, ho2, hm2, hLb, hge⟩ := hsrc _ h _ rfl
              have hm0 : c0.m id2 ≠ some (.at L2) := by
                intro hcon; have := hI0.dom id2 _ hcon; omega
              rcases hf.bnew id2 L2 hm2 hm0 with h | ⟨id', o, L', h9, h10, h11, h12⟩
              · exact .inl (by omega)
              · exact .inr ⟨id', o, L', h9, h10, by omega, h12⟩
          · rw [h7.S] at ha; exact hf.snew a ha
      · cases h
    · cases h
  · cases h
end

end Go.Bx

/- The evaluator of code and calls, and its limit. (Own text.) -/
namespace Go.Bx
set_option linter.unusedVariables false
set_option linter.unusedSimpArgs false
set_option linter.unusedSectionVars false
set_option linter.unusedVariables false

inductive Ex where
  | nrm
  | exit (id : Nat)
  | goto (l : Nat)
  | ret
  | pan (V : Value)

/-- What the evaluator is given: the types, the global places, functions told by contracts of their own. -/
structure Env where
  P : Program
  T : Tab
  gl : Nat → AV
  ext : CI
  /-- Functions whose arguments are handed over as they are, not lent. -/
  br : FuncId → Nat → Bool
  /-- The values with which a call may panic. -/
  pan : Value → Prop := fun _ => False

inductive Task where
  | run (c : Code)
  | resume (body rest : Code)

abbrev TI := Task → FS → Option (Ex × FS)

def putTm (tm : Cs) (d : Option Tmp) (y : AV) : Cs := match d with
  | some d => tm.set d y
  | none => tm

/-- Is a guarded operation wanted; none: not told. -/
def wantedAV (ops : Array Oper) (tm : Cs) (o : Oper) : Option Bool :=
  match o.guard with
  | none => some true
  | some (j, want) => match (ops[j]?).bind (·.dst) with
    | some d => match tm[d]? with
      | some (.v (.bool b)) => some (b == want)
      | some .junk => none
      | _ => some false
    | none => some false

structure Fl where
  eff : Bool
  rd : Bool

def stepO (E : Env) (ci : CI) (o : Oper) (s : FS) : Option (FS × Fl) :=
  match evO E.T E.br ci (evOp E.gl s.tm) s.σ o.op with
  | some r => some (⟨putTm s.tm o.dst r.y, r.σ, omin s.low (cut s.c0 r.md), s.c0⟩, ⟨r.md.isSome, r.rd⟩)
  | none => none

def stepG (E : Env) (ci : CI) (ops : Array Oper) (o : Oper) (s : FS) : Option (FS × Fl) :=
  match wantedAV ops s.tm o with
  | some true => stepO E ci o s
  | some false => some ({ s with tm := putTm s.tm o.dst (.v undef) }, ⟨false, false⟩)
  | none => none

def evOps (E : Env) (ci : CI) (ops : Array Oper) : List Oper → FS → Option (FS × List Fl)
  | [], s => some (s, [])
  | o :: rest, s => match stepG E ci ops o s with
    | some (s1, f) => match evOps E ci ops rest s1 with
      | some (s2, fs) => some (s2, f :: fs)
      | none => none
    | none => none

/-- No two operations without an order meet at an object that one of them changes. -/
def calm (b : Array Nat) (fs : List Fl) : Bool :=
  (List.range fs.length).all fun j => match fs[j]? with
    | some fj => (List.range j).all fun i => match fs[i]? with
      | some fi => (b.getD j 0).testBit i || !((fi.eff && (fj.eff || fj.rd)) || (fj.eff && fi.rd))
      | none => true
    | none => true

/-- Every edge leads back, and two operations without an order do not meet at a slot. -/
def regOK (ops : Array Oper) : Bool :=
  (List.range ops.size).all fun j => match ops[j]? with
    | some oj => oj.after.toList.all (fun e => !Region.binds .any e || decide (e.on < j)) &&
        (List.range j).all fun i => ((Region.before ops).getD j 0).testBit i || (match ops[i]? with
          | some oi => oi.apart ops oj
          | none => true)
    | none => true

def evRegion (E : Env) (ci : CI) (ops : Array Oper) (draw : Bool) (s : FS) : Option FS :=
  match evOps E ci ops ops.toList s with
  | some (s', fs) => if draw then (if (regOK ops && calm (Region.before ops) fs) = true then some s' else none) else some s'
  | none => none

def ev1 (E : Env) (ci : CI) (ag : TI) : Code → FS → Option (Ex × FS)
  | .skip, s => some (.nrm, s)
  | .label _, s => some (.nrm, s)
  | .region _ ops draw, s => (evRegion E ci ops draw s).map fun s' => (.nrm, s')
  | .seq a b, s => match ev1 E ci ag a s with
    | some (.nrm, s1) => ev1 E ci ag b s1
    | r => r
  | .cond c a b, s => match evOp E.gl s.tm c with
    | .v (.bool t) => if t then ev1 E ci ag a s else ev1 E ci ag b s
    | _ => none
  | .block id b, s => match ev1 E ci ag b s with
    | some (.exit id', s1) => if id' = id then some (.nrm, s1) else some (.exit id', s1)
    | r => r
  | .loop b, s => match ev1 E ci ag b s with
    | some (.nrm, s1) => ag (.run (.loop b)) s1
    | r => r
  | .exit id, s => some (.exit id, s)
  | .goto l, s => some (.goto l, s)
  | .ret, s => some (.ret, s)
  | .scope b, s => match ev1 E ci ag b s with
    | some (.goto l, s1) => match findLabel b l with
      | some rest => ag (.resume b rest) s1
      | none => some (.goto l, s1)
    | r => r
  | _, _ => none

def evTask (E : Env) (ci : CI) (ag : TI) : TI
  | .run c, s => ev1 E ci ag c s
  | .resume b rest, s => match ev1 E ci ag rest s with
    | some (.goto l, s1) => match findLabel b l with
      | some rest' => ag (.resume b rest') s1
      | none => some (.goto l, s1)
    | r => r

/-- A call. -/
def evFn (E : Env) (ci : CI) (ag : TI) : CI := fun f args σ =>
  match E.ext f args σ with
  | some r => some r
  | none => match E.P.funcs[f]? with
    | some fn => match fn.body with
      | some c => match ev1 E ci ag c ⟨args ++ List.replicate (fn.ntmps - args.length) (.v undef), σ, none, σ.clock⟩ with
        | some (.ret, s) => evReturn E.T σ fn s
        | some (.nrm, s) => evReturn E.T σ fn s
        | _ => none
      | none => none
    | none => none

/-- With a number of rounds. -/
def run (E : Env) : Nat → CI × TI
  | 0 => (fun _ _ _ => none, fun _ _ => none)
  | k + 1 => (evFn E (run E k).1 (run E k).2, evTask E (run E k).1 (run E k).2)

/-! ### more rounds, the same answers -/

section
variable {E : Env} {ci ci' : CI} {ag ag' : TI}

end

/-! ### what comes to an answer in the limit does so with some number of rounds -/
section
variable {E : Env}

end

end Go.Bx

/- What the evaluator answers, the machine does: operations. (Own text.) -/
namespace Go.Bx
set_option linter.unusedVariables false
set_option linter.unusedSimpArgs false
set_option linter.unusedSectionVars false
set_option linter.unusedVariables false
set_option linter.unusedSectionVars false

/-- A store has gone on: what lives in it is elder, or new. -/
structure StGo (σ σ' : Store) : Prop where
  clock : σ.clock ≤ σ'.clock
  live : ∀ id o, σ'.ob id = some o → (∃ q, σ.ob id = some q) ∨ (σ.clock ≤ id ∧ id < σ'.clock)

theorem StGo.refl (σ : Store) : StGo σ σ := ⟨Nat.le_refl _, fun _ o h => .inl ⟨o, h⟩⟩
theorem StGo.trans {a b c : Store} (h : StGo a b) (k : StGo b c) : StGo a c :=
  ⟨Nat.le_trans h.clock k.clock, fun id o ho => by
    rcases k.live id o ho with ⟨q, hq⟩ | ⟨h1, h2⟩
    · rcases h.live id q hq with h3 | ⟨h3, h4⟩
      · exact .inl h3
      · exact .inr ⟨h3, Nat.lt_of_lt_of_le h4 k.clock⟩
    · exact .inr ⟨Nat.le_trans h.clock h1, h2⟩⟩
theorem StGo.old {a b : Store} (h : StGo a b) (k : ∀ id o, a.ob id = some o → id < a.clock) : ∀ id o, b.ob id = some o → id < b.clock := fun id o ho => by
  rcases h.live id o ho with ⟨q, hq⟩ | ⟨_, h1⟩
  · exact Nat.lt_of_lt_of_le (k id q hq) h.clock
  · exact h1
theorem StGo.live' {a b : Store} (h : StGo a b) : ∀ id o, b.ob id = some o → (∃ q, a.ob id = some q) ∨ a.clock ≤ id := fun id o ho => by
  rcases h.live id o ho with h1 | ⟨h1, _⟩
  · exact .inl h1
  · exact .inr h1
theorem StGo.new (σ : Store) (o : Obj) : StGo σ (σ.new o) := ⟨by simp [Store.new], fun id q h => by
  simp only [Store.new] at h ⊢; split at h
  · right; omega
  · exact .inl ⟨q, h⟩⟩
theorem StGo.drop (σ : Store) (id : Nat) : StGo σ (σ.put id none) := ⟨Nat.le_refl _, fun j q h => by
  simp only [Store.put] at h; split at h
  · cases h
  · exact .inl ⟨q, h⟩⟩
theorem StGo.set {σ : Store} {id : Nat} {o q : Obj} (h : σ.ob id = some o) : StGo σ (σ.put id (some q)) := ⟨Nat.le_refl _, fun j r hj => by
  simp only [Store.put] at hj; split at hj
  · rename_i e; subst e; exact .inl ⟨o, h⟩
  · exact .inl ⟨r, hj⟩⟩
theorem StGo.share (σ : Store) (id : Nat) : StGo σ (share σ id) := by
  unfold Bx.share
  split
  · rename_i o ho
    split
    · exact StGo.refl σ
    · exact StGo.set ho
  · exact StGo.refl σ
theorem StGo.shareAll : ∀ (ids : List Nat) (σ : Store), StGo σ (shareAll σ ids)
  | [], σ => StGo.refl σ
  | i :: ids, σ => (StGo.share σ i).trans (StGo.shareAll ids (Bx.share σ i))
theorem StGo.killAll : ∀ (ids : List Nat) (σ : Store), StGo σ (killAll σ ids)
  | [], σ => StGo.refl σ
  | i :: ids, σ => (StGo.drop σ i).trans (StGo.killAll ids (σ.put i none))
theorem StGo.import1 (σ : Store) (x : AV) : StGo σ (import1 σ x).2 := by
  unfold Bx.import1
  split
  · exact StGo.new _ _
  · exact StGo.refl σ
theorem StGo.importL : ∀ (xs : Cs) (σ : Store), StGo σ (importL σ xs).2
  | [], σ => StGo.refl σ
  | x :: xs, σ => (StGo.import1 σ x).trans (StGo.importL xs _)
theorem StGo.import2 (σ : Store) (x : AV) : StGo σ (import2 σ x).2 := by
  unfold Bx.import2
  split
  · exact StGo.importL _ _
  · exact StGo.import1 _ _
theorem StGo.import2L : ∀ (xs : Cs) (σ : Store), StGo σ (import2L σ xs).2
  | [], σ => StGo.refl σ
  | x :: xs, σ => (StGo.import2 σ x).trans (StGo.import2L xs _)
theorem StGo.importAV (σ : Store) (x : AV) : StGo σ (importAV σ x).2 := by
  unfold Bx.importAV
  split
  · exact StGo.import2L _ _
  · exact StGo.import2 _ _

def GlOK (E : Env) (c : Ctx) : Prop := ∀ g, Rep c (E.gl g) (.pointer (some ⟨g, 0, none⟩))
theorem GlOK.mono {E : Env} {c c' : Ctx} (h : GlOK E c) (e : Ext c c') : GlOK E c' := fun g => (h g).mono e

/-- A panic as it begins. -/
def panOf (V : Value) : List PanicEntry := [{ v := V, recovered := false }]
/-- A call's end in a panic. -/
def PanEnd (E : Env) (c : Ctx) (σ : Store) (tl : Option Nat) (e : Ending) (w' : World) : Prop := ∃ V c', E.pan V ∧ e = .panicked (panOf V) ∧ c'.w = w' ∧ Ext c c' ∧ Fr c σ tl c'

/-- What a call promises. -/
def CallOK (E : Env) (base : Nat) (f : FuncId) (args : Cs) (σ : Store) (r : AV) (σr : Store) (tl : Option Nat) : Prop :=
  StGo σ (importAV σr r).2 ∧ (tl = none → ∀ id, id < σ.clock → (importAV σr r).2.ob id = σ.ob id) ∧ (∃ fn, E.P.funcs[f]? = some fn ∧ fn.body.isSome = true ∧ fn.name ≠ "runtime.NumGoroutine") ∧
  ∀ (c : Ctx) (us : List Value), Inv σ c base → GlOK E c → Reps c args us →
    (∀ id, id < σ.clock → c.m id = none → (importAV σr r).2.ob id = σ.ob id) ∧ Calls E.P f us.toArray c.w fun e w' => (∃ v c', e = .returned v ∧ c'.w = w' ∧ Ext c c' ∧ Inv (importAV σr r).2 c' base ∧ Rep c' (importAV σr r).1 v ∧ Fr c σ tl c') ∨ PanEnd E c σ tl e w'

def CIOK (E : Env) (base : Nat) (ci : CI) : Prop := ∀ f args σ r σr tl, ci f args σ = some (r, σr, tl) → CallOK E base f args σ r σr tl

section
variable {E : Env} (hT : TabOK E.P E.T) {base : Nat} {ci : CI} (hci : CIOK E base ci)

include hci in
theorem evO_go {ρ : Operand → AV} {σ : Store} {o : Op} {r : OR} (h : evO E.T E.br ci ρ σ o = some r) : StGo σ r.σ := by
  unfold evO at h
  split at h
  · cases h; exact StGo.refl σ
  · cases h; exact StGo.new _ _
  · unfold evB at h
    split at h
    · unfold evLoad at h
      split at h
      · split at h
        · split at h
          · split at h
            · rw [Option.map_eq_some_iff] at h; obtain ⟨y, _, rfl⟩ := h; exact StGo.refl σ
            · cases h
          · cases h
        · cases h
      · cases h
    · unfold evStore at h
      split at h
      · split at h
        · rename_i ob hob
          split at h
          · split at h
            · cases h; exact StGo.set hob
            · cases h
          · cases h
        · cases h
      · cases h
    · split at h
      · unfold evAppend at h
        split at h
        · split at h
          · split at h
            · split at h
              · split at h
                · split at h
                  · cases h; exact StGo.new _ _
                  · cases h
                · split at h
                  · cases h; exact StGo.new _ _
                  · cases h
                · split at h
                  · split at h
                    · cases h; exact (StGo.drop _ _).trans (StGo.new _ _)
                    · cases h
                  · cases h
                · split at h
                  · split at h
                    · cases h; exact (StGo.drop _ _).trans (StGo.new _ _)
                    · cases h
                  · cases h
                · cases h
              · cases h
            · cases h
          · cases h
        · cases h
      · cases h
    · split at h
      · obtain ⟨id, n, es, new, _, ho, _, rfl⟩ := evCopy_inv h; exact StGo.set ho
      · cases h
    · obtain ⟨z, rfl⟩ := evConv_inv h; exact StGo.refl _
    · unfold evCall at h
      split at h
      · simp only at h
        split at h
        · split at h
          · rename_i hc; cases h
            exact (StGo.shareAll _ _).trans (hci _ _ _ _ _ _ hc).1
          · cases h
        · cases h
      · cases h
    · cases h

/-- An operation, and what stands behind it. -/
def OpWp (E : Env) (base : Nat) (σ : Store) (c : Ctx) (r : OR) (a : Act) (o : Oper) : Prop :=
  ∀ (K : Act → World → Prop) (Q : Exit → Act → World → Prop), (∀ u c', Ext c c' → Inv r.σ c' base → Rep c' r.y u → Fr c σ r.md c' → K (a.put o.dst u) c'.w) → (∀ V c', E.pan V → Ext c c' → Fr c σ r.md c' → Q (.panic (panOf V)) a c'.w) → o.wp E.P a c.w K Q

theorem OpWp.ofB {σ : Store} {c : Ctx} {r : OR} {a : Act} {o : Oper} (h : SimB E.P base σ c ((execOp a.eval o).run E.P c.w) r) : OpWp E base σ c r a o := by
  intro K Q hK _
  obtain ⟨u, c', h1, h2, h3, h4, h5⟩ := h
  have hk := hK u c' h2 h3 h4 h5
  unfold Oper.wp
  rcases h1 with h1 | ⟨h1, rfl⟩
  · rw [h1]; exact hk
  · rw [h1]; exact hk

theorem lendL_rep {σ : Store} {c : Ctx} (hI : Inv σ c base) {b : Nat → Bool} : ∀ {xs ys : Cs} {n : Nat} {us : List Value}, lendL b σ n xs = some ys → Reps c xs us → Reps c ys us
  | [], ys, n, us, h, hr => by simp only [lendL] at h; cases h; exact hr
  | x :: xs, ys, n, us, h, hr => by
    simp only [lendL] at h
    split at h
    · rename_i y ys' hy hys; cases h
      cases us with
      | nil => have := hr.1; simp at this
      | cons u us =>
        have h0 := hr.2 0 x u rfl rfl
        refine Reps.cons ?_ (lendL_rep hI hys ⟨by simpa using hr.1, fun j x u h1 h2 => hr.2 (j + 1) x u (by simpa using h1) (by simpa using h2)⟩)
        split at hy
        · cases hy; exact h0
        · exact reify_rep hI 8 x y u hy h0
    · cases h
theorem mem_lendIds {σ : Store} {b : Nat → Bool} {id : Nat} : ∀ {xs : Cs} {n : Nat}, id ∈ lendIds b σ n xs → ∃ x ∈ xs, id ∈ rowIds σ 8 x
  | [], n, h => by simp [lendIds] at h
  | x :: xs, n, h => by
    simp only [lendIds, List.mem_append] at h
    rcases h with h | h
    · split at h
      · cases h
      · exact ⟨x, by simp, h⟩
    · obtain ⟨y, hy, hid⟩ := mem_lendIds h
      exact ⟨y, by simp [hy], hid⟩

include hT hci in
theorem evO_ok {σ : Store} {c : Ctx} {a : Act} {ρa : Operand → AV} (hI : Inv σ c base) (hG : GlOK E c) (hρ : ∀ x, Rep c (ρa x) (a.eval x)) {o : Oper} {r : OR} (h : evO E.T E.br ci ρa σ o.op = some r) : OpWp E base σ c r a o := by
  unfold evO at h
  split at h
  · rename_i y hA; cases h
    obtain ⟨u, h1, h2⟩ : ∃ u, (execOp a.eval o).run E.P c.w = .ok (.value u) c.w ∧ Rep c y u := simA hT hρ o hA
    exact OpWp.ofB ⟨u, c, .inl h1, Ext.refl c, hI, h2, Fr.refl _ _ _⟩
  · rename_i y ob hA; cases h
    have hs := simA hT hρ o hA
    obtain ⟨u, arr, T0, h1, h2, h3, h4, h5, h6, h7⟩ := hs
    obtain ⟨e, hi, hf⟩ := hI.newAt (o := ob) (T0 := T0) (tot := ob.es.length) (n := 0) h2 (Nat.le_refl _) (by rw [h3]; rfl) h4 h5 h6
    exact OpWp.ofB ⟨u, _, .inl h1, e, hi, h7 _ (by simp [Ctx.placeS]) (tyOf_cells (heap_alloc_new _ _)), hf⟩
  · rename_i hA
    unfold evB at h
    split at h
    · rename_i t ad ho; exact OpWp.ofB (simB_load hT hI hρ o t ad ho h)
    · rename_i t ad x ho; exact OpWp.ofB (simB_store hT hI hρ o t ad x ho h)
    · rename_i args ts ho
      split at h
      · rename_i s x t t' hargs hts
        have ha : args = #[s, x] := by apply Array.ext'; simpa using hargs
        have ht : ts = #[t, t'] := by apply Array.ext'; simpa using hts
        subst ha; subst ht
        exact OpWp.ofB (simB_append hT hI hρ o t t' s x ho h)
      · cases h
    · rename_i args ts ho
      split at h
      · rename_i d x t t' hargs hts
        have ha : args = #[d, x] := by apply Array.ext'; simpa using hargs
        have ht : ts = #[t, t'] := by apply Array.ext'; simpa using hts
        subst ha; subst ht
        exact OpWp.ofB (simB_copy hT hI hρ o ho h)
      · cases h
    · rename_i s d x ho; exact OpWp.ofB (simB_conv hT hI hρ o ho h)
    · rename_i f args ts ho
      unfold evCall at h
      split at h
      · rename_i g first caps hf
        simp only at h
        have hff := hρ f; rw [hf] at hff
        generalize hu : a.eval f = uf at hff
        cases hff with
        | fn hl hl' hh hh' =>
          rename_i fv cv
          have hreps : Reps c (first ++ List.map ρa args.toList ++ caps) (fv.toList ++ (args.toList.map a.eval) ++ cv.toList) :=
            (Reps.append (Reps.append ⟨by simp [hl], fun j x u h1 h2 => hh j x u h1 (by simpa using h2)⟩ (map_reps hρ args.toList)) ⟨by simp [hl'], fun j x u h1 h2 => hh' j x u h1 (by simpa using h2)⟩)
          have hargs : (fv.toList ++ (args.toList.map a.eval) ++ cv.toList).toArray = fv ++ args.map a.eval ++ cv := by
            apply Array.ext'; simp
          have hexec : ∀ fn, E.P.funcs[g]? = some fn → fn.body.isSome = true → fn.name ≠ "runtime.NumGoroutine" → (execOp a.eval o).run E.P c.w = .ok (.enter g (fv ++ args.map a.eval ++ cv)) c.w := by
            intro fn hfn hbody hname
            obtain ⟨bd, hbd⟩ := Option.isSome_iff_exists.1 hbody
            simp [execOp, ho, resolve, hu, Deferred.ofValue, invoke, callFunc, hfn, hname, hbd]
          split at h
          · rename_i as' has
            split at h
            · rename_i r' σ' tl hc; cases h
              obtain ⟨hgo, _, ⟨fn, hfn, hbody, hname⟩, hcall⟩ := hci _ _ _ _ _ _ hc
              obtain ⟨c1, hw, hm, he, hi, hfr, hck⟩ := shareAll_ok hI (lendIds (E.br g) σ 0 (first ++ List.map ρa args.toList ++ caps))
              have hreps1 := lendL_rep hi has (hreps.mono he)
              have hcalls := (hcall c1 _ hi (hG.mono he) hreps1).2
              rw [hargs, hw] at hcalls
              intro K Q hK hP
              unfold Oper.wp
              rw [hexec fn hfn hbody hname]
              refine Calls.mono hcalls ?_
              rintro e w' (⟨v, c', rfl, rfl, h1, h2, h3, h4⟩ | ⟨V, c', hV, rfl, rfl, h1, h4⟩)
              · refine hK v c' (he.trans h1) h2 h3 ?_
                exact Fr.trans hfr h4 (Nat.le_of_eq hck.symm) he hi.core (StGo.shareAll _ σ).live' hI.dom
              · exact hP V c' hV (he.trans h1) (Fr.trans hfr h4 (Nat.le_of_eq hck.symm) he hi.core (StGo.shareAll _ σ).live' hI.dom)
            · cases h
          · cases h
      · cases h
    · cases h

/-! ### what an operation does not reach it leaves -/

theorem share_other {σ : Store} {i id : Nat} (h : id ≠ i) : (share σ i).ob id = σ.ob id := by
  unfold Bx.share
  split
  · split
    · rfl
    · simp [Store.put, h]
  · rfl
theorem shareAll_other : ∀ {ids : List Nat} {σ : Store} {id : Nat}, id ∉ ids → (shareAll σ ids).ob id = σ.ob id
  | [], σ, id, h => rfl
  | i :: ids, σ, id, h => by
    show (shareAll (share σ i) ids).ob id = _
    rw [shareAll_other (fun hm => h (by simp [hm])), share_other (fun e => h (by simp [e]))]
theorem rowIds_m {c : Ctx} {σ : Store} (hI : Inv σ c base) : ∀ (n : Nat) (x : AV) (u : Value), Rep c x u → ∀ id ∈ rowIds σ n x, c.m id ≠ none := by
  intro n
  induction n with
  | zero => intro x u h id hid; simp [rowIds] at hid
  | succ n ih =>
    intro x u h id hid
    cases h with
    | @row i sz lo k A cap L hm hs hn ht hA =>
      simp only [rowIds, List.mem_cons] at hid
      rcases hid with rfl | hid
      · rw [hm]; nofun
      · split at hid
        · rename_i o ho
          split at hid
          · simp at hid
          · obtain ⟨e, he, hid⟩ := List.mem_flatMap.1 hid
            obtain ⟨y, hy, hid⟩ := List.mem_flatMap.1 hid
            obtain ⟨arr, T, _, _, h3⟩ := (hI.core.obj i o L ho hm).mem
            obtain ⟨p, hp⟩ := List.mem_iff_getElem?.1 he
            obtain ⟨q, hq⟩ := List.mem_iff_getElem?.1 hy
            obtain ⟨v, _, hv, _⟩ := h3 p e q y hp hq
            exact ih y v hv id hid
        · simp at hid
    | @row0 i sz lo A hm =>
      simp only [rowIds, List.mem_cons] at hid
      rcases hid with rfl | hid
      · rw [hm]; nofun
      · split at hid
        · rename_i o ho
          split at hid
          · simp at hid
          · rw [hI.core.virt i o ho hm] at hid; simp at hid
        · simp at hid
    | @agg cs vs hl hh =>
      simp only [rowIds] at hid
      obtain ⟨y, hy, hid⟩ := List.mem_flatMap.1 hid
      obtain ⟨q, hq⟩ := List.mem_iff_getElem?.1 hy
      have hlt : q < cs.length := (List.getElem?_eq_some_iff.1 hq).1
      exact ih y _ (hh q y vs[q] hq (by simp [hl, hlt])) id hid
    | _ => simp [rowIds] at hid

include hci in
theorem evO_foot {σ : Store} {c : Ctx} {a : Act} {ρa : Operand → AV} (hI : Inv σ c base) (hG : GlOK E c) (hρ : ∀ x, Rep c (ρa x) (a.eval x)) {o : Op} {r : OR} (h : evO E.T E.br ci ρa σ o = some r) :
    ∀ id, id < σ.clock → c.m id = none → r.σ.ob id = σ.ob id := by
  intro id hid hm
  have hnew : ∀ (σ' : Store) ob, id < σ'.clock → (σ'.new ob).ob id = σ'.ob id := fun σ' ob h => by
    simp only [Store.new]; rw [if_neg (by omega)]
  unfold evO at h
  split at h
  · cases h; rfl
  · cases h; exact hnew _ _ hid
  · unfold evB at h
    split at h
    · unfold evLoad at h
      split at h
      · split at h
        · split at h
          · split at h
            · rw [Option.map_eq_some_iff] at h; obtain ⟨y, _, rfl⟩ := h; rfl
            · cases h
          · cases h
        · cases h
      · cases h
    · rename_i t ad x _
      unfold evStore at h
      split at h
      · rename_i r0 i j off hT0 hpt
        split at h
        · split at h
          · split at h
            · cases h
              have hr := hρ ad; rw [hpt] at hr
              generalize a.eval ad = uu at hr
              have hne : id ≠ i := by
                intro e; subst e
                cases hr with
                | ptr L hm' => rw [hm] at hm'; cases hm'
              simp [Store.put, hne]
            · cases h
          · cases h
        · cases h
      · cases h
    · split at h
      · rename_i s x t t' _ _
        · unfold evAppend at h
          split at h
          · split at h
            · split at h
              · split at h
                · split at h
                  · split at h
                    · cases h; exact hnew _ _ hid
                    · cases h
                  · split at h
                    · cases h; exact hnew _ _ hid
                    · cases h
                  · rename_i i sz lo k hrow
                    split at h
                    · split at h
                      · cases h
                        have hr := hρ s; rw [hrow] at hr
                        generalize a.eval s = uu at hr
                        have hne : id ≠ i := by
                          intro e; subst e
                          cases hr with
                          | row L hm' => rw [hm] at hm'; cases hm'
                          | row0 hm' => rw [hm] at hm'; cases hm'
                        show ((σ.put i none).new _).ob id = _
                        rw [hnew _ _ (by simpa [Store.put] using hid)]
                        simp [Store.put, hne]
                      · cases h
                    · cases h
                  · rename_i i t0 k hrow
                    split at h
                    · split at h
                      · cases h
                        have hr := hρ s; rw [hrow] at hr
                        generalize a.eval s = uu at hr
                        have hne : id ≠ i := by
                          intro e; subst e
                          cases hr with
                          | trow L hm' => rw [hm] at hm'; cases hm'
                          | trow0 hm' => rw [hm] at hm'; cases hm'
                        show ((σ.put i none).new _).ob id = _
                        rw [hnew _ _ (by simpa [Store.put] using hid)]
                        simp [Store.put, hne]
                      · cases h
                    · cases h
                  · cases h
                · cases h
              · cases h
            · cases h
          · cases h
      · cases h
    · split at h
      · rename_i d x t t' _ _
        obtain ⟨i, n, es, new, hrow, _, _, rfl⟩ := evCopy_inv h
        have hr := hρ d; rw [hrow] at hr
        generalize a.eval d = uu at hr
        have hne : id ≠ i := by
          intro e; subst e
          cases hr with
          | row L hm' => rw [hm] at hm'; cases hm'
          | row0 hm' => rw [hm] at hm'; cases hm'
        simp [Store.put, hne]
      · cases h
    · obtain ⟨z, rfl⟩ := evConv_inv h; rfl
    · rename_i f args ts _
      unfold evCall at h
      split at h
      · rename_i g first caps hf
        simp only at h
        have hff := hρ f; rw [hf] at hff
        generalize hu : a.eval f = uf at hff
        cases hff with
        | fn hl hl' hh hh' =>
          rename_i fv cv
          have hreps : Reps c (first ++ List.map ρa args.toList ++ caps) (fv.toList ++ (args.toList.map a.eval) ++ cv.toList) :=
            (Reps.append (Reps.append ⟨by simp [hl], fun j x u h1 h2 => hh j x u h1 (by simpa using h2)⟩ (map_reps hρ args.toList)) ⟨by simp [hl'], fun j x u h1 h2 => hh' j x u h1 (by simpa using h2)⟩)
          split at h
          · rename_i as' has
            · split at h
              · rename_i r' σ' tl hc; cases h
                obtain ⟨c1, hw, hmm, he, hi, hfr, hck⟩ := shareAll_ok hI (lendIds (E.br g) σ 0 (first ++ List.map ρa args.toList ++ caps))
                have hreps1 := lendL_rep hi has (hreps.mono he)
                have h1 := ((hci _ _ _ _ _ _ hc).2.2.2 c1 _ hi (hG.mono he) hreps1).1 id (by rw [hck]; exact hid) (by rw [hmm]; exact hm)
                refine h1.trans (shareAll_other (fun hin => ?_))
                obtain ⟨x, hx, hin⟩ := mem_lendIds hin
                obtain ⟨q, hq⟩ := List.mem_iff_getElem?.1 hx
                have hlt := (List.getElem?_eq_some_iff.1 hq).1
                rw [hreps.1] at hlt
                exact rowIds_m hI 8 x _ (hreps.2 q x _ hq (List.getElem?_eq_getElem hlt)) id hin hm
              · cases h
          · cases h
      · cases h
    · cases h
end

end Go.Bx

/- Regions, first part: congruence, what quiet operations keep, contexts cut at a number, and how a step is glued in. (Own text.) -/
namespace Go.Bx
set_option linter.unusedVariables false
set_option linter.unusedSimpArgs false
set_option linter.unusedSectionVars false
set_option linter.unusedVariables false
set_option linter.unusedSectionVars false
set_option linter.unusedSimpArgs false

theorem evA_congr {T : Tab} {ρ ρ' : Operand → AV} {c : Nat} : ∀ {o : Op}, (∀ x ∈ o.operands, ρ x = ρ' x) → evA T ρ c o = evA T ρ' c o := by
  intro o h
  have pairs : ∀ (ps : Array (Nat × Operand)), (∀ x ∈ ps.toList.map (·.2), ρ x = ρ' x) → ∀ p ∈ ps.toList, ρ p.2 = ρ' p.2 :=
    fun ps hp p hm => hp _ (List.mem_map.2 ⟨p, hm, rfl⟩)
  cases o with
  | build t parts =>
    simp only [Op.operands, List.mem_toArray] at h
    have := pairs parts h
    simp only [evA]
    rw [List.map_congr_left (l := parts.toList) (f := fun p => (p.1, ρ p.2)) (g := fun p => (p.1, ρ' p.2)) (fun p hp => by simp only [this p hp])]
  | buildSlice t n parts =>
    simp only [Op.operands, List.mem_toArray] at h
    have := pairs parts h
    simp only [evA]
    rw [List.map_congr_left (l := parts.toList) (f := fun p => cells (ρ p.2)) (g := fun p => cells (ρ' p.2)) (fun p hp => by simp only [this p hp])]
  | makeFunc fn first caps =>
    simp only [Op.operands, Array.mem_append] at h
    cases fn with
    | func f =>
      simp only [evA]
      rw [List.map_congr_left (l := first.toList) (f := ρ) (g := ρ') (fun p hp => h p (.inl (by simpa using hp))),
        List.map_congr_left (l := caps.toList) (f := ρ) (g := ρ') (fun p hp => h p (.inr (by simpa using hp)))]
    | _ => rfl
  | slice t x lo hi mx =>
    simp only [Op.operands] at h
    cases mx with
    | some m => rfl
    | none =>
      have hx : ρ x = ρ' x := h x (by simp)
      have hlo : lo.map ρ = lo.map ρ' := by cases lo with
        | none => rfl
        | some l => simp [h l (by simp)]
      have hhi : hi.map ρ = hi.map ρ' := by cases hi with
        | none => rfl
        | some l => simp [h l (by simp)]
      simp only [evA, hx, hlo, hhi]
  | call c =>
    obtain ⟨callee, args, ts⟩ := c
    cases callee with
    | builtin b =>
      have ha : ∀ x ∈ args.toList, ρ x = ρ' x := fun x hx => h x (by simp [Op.operands, Call.operands]; simpa using hx)
      cases hl : args.toList with
      | nil => cases b <;> simp [evA, hl]
      | cons x l =>
        cases l with
        | nil => have hx := ha x (by simp [hl]); cases b <;> first | rfl | (simp only [evA, hl]; rw [hx]; done) | (simp only [evA, hl]; done) | (simp only [evA, hl]; cases (ts[0]?).bind T <;> first | rfl | (simp only [hx]; done))
        | cons y l =>
          cases l with
          | nil =>
            have hx := ha x (by simp [hl])
            have hy := ha y (by simp [hl])
            cases b <;> first | rfl | (simp only [evA, hl]; rw [hx, hy]; done) | (simp only [evA, hl]; done) | (simp only [evA, hl]; cases (ts[0]?).bind T <;> first | rfl | (simp only [hx]; done))
          | cons z l => cases b <;> simp [evA, hl]
    | value f => rfl
    | invoke r m => rfl
  | _ => first
    | rfl
    | (simp only [Op.operands] at h; simp_all [evA]; done)

theorem evO_congr {T : Tab} {br : FuncId → Nat → Bool} {ci : CI} {ρ ρ' : Operand → AV} {σ : Store} {o : Op} (h : ∀ x ∈ o.operands, ρ x = ρ' x) : evO T br ci ρ σ o = evO T br ci ρ' σ o := by
  unfold evO
  rw [evA_congr h]
  have hB : evB T br ci ρ σ o = evB T br ci ρ' σ o := by
    cases o with
    | load t a => simp [evB, h a (by simp [Op.operands])]
    | store t a x => simp [evB, h a (by simp [Op.operands]), h x (by simp [Op.operands])]
    | convert s d x => simp [evB, h x (by simp [Op.operands])]
    | call c =>
      obtain ⟨callee, args, ts⟩ := c
      cases callee with
      | builtin b =>
        have ha : ∀ x ∈ args.toList, ρ x = ρ' x := fun x hx => h x (by simp [Op.operands, Call.operands]; simpa using hx)
        cases b <;> try rfl
        all_goals
          simp only [evB]
          split
          · rename_i s x t t' h1 h2
            rw [ha s (by simp [h1]), ha x (by simp [h1])]
          · rfl
      | value f =>
        simp only [evB]
        rw [h f (by simp [Op.operands, Call.operands]), List.map_congr_left (l := args.toList) (f := ρ) (g := ρ') (fun p hp => h p (by simp [Op.operands, Call.operands]; exact .inr (by simpa using hp)))]
      | invoke r m => rfl
    | _ => rfl
  rw [hB]

/-! ### quiet -/

theorem freshL_none : ∀ {ids : List Nat} {σ : Store}, freshL σ ids = none → shareAll σ ids = σ := by
  have key : ∀ (ids : List Nat) (σ : Store) (a : Option Nat), ids.foldl (fun a id => omin a (fresh1 σ id)) a = none → a = none ∧ ∀ id ∈ ids, fresh1 σ id = none := by
    intro ids σ
    induction ids with
    | nil => intro a h; exact ⟨h, nofun⟩
    | cons i ids ih =>
      intro a h
      obtain ⟨h1, h2⟩ := ih _ h
      have h3 : a = none ∧ fresh1 σ i = none := by
        cases a <;> cases hf : fresh1 σ i <;> simp [omin, hf] at h1 ⊢
      exact ⟨h3.1, fun id hid => by
        rcases List.mem_cons.1 hid with rfl | h
        · exact h3.2
        · exact h2 id h⟩
  intro ids σ h
  have h2 := (key ids σ none h).2
  clear h
  induction ids with
  | nil => rfl
  | cons i ids ih =>
    have h3 := h2 i (by simp)
    have h4 : share σ i = σ := by
      unfold fresh1 at h3
      unfold share
      split at h3
      · rename_i o ho
        split at h3
        · rename_i hs; simp [hs]
        · cases h3
      · rename_i ho; rfl
    show shareAll (share σ i) ids = σ
    rw [h4]; exact ih (fun id hid => h2 id (by simp [hid]))

theorem new_old {σ : Store} {o : Obj} {id : Nat} (h : id < σ.clock) : (σ.new o).ob id = σ.ob id := by
  simp only [Store.new]; rw [if_neg (by omega)]

theorem omin_none {a b : Option Nat} (h : omin a b = none) : a = none ∧ b = none := by
  cases a <;> cases b <;> simp [omin] at h ⊢

section
variable {E : Env} {base : Nat} {ci : CI} (hci : CIOK E base ci)

include hci in
theorem evO_quiet {ρ : Operand → AV} {σ : Store} {o : Op} {r : OR} (h : evO E.T E.br ci ρ σ o = some r) (hm : r.md = none) : ∀ id, id < σ.clock → r.σ.ob id = σ.ob id := by
  intro id hid
  unfold evO at h
  split at h
  · cases h; rfl
  · cases h; exact new_old hid
  · unfold evB at h
    split at h
    · unfold evLoad at h
      split at h
      · split at h
        · split at h
          · split at h
            · rw [Option.map_eq_some_iff] at h; obtain ⟨y, _, rfl⟩ := h; rfl
            · cases h
          · cases h
        · cases h
      · cases h
    · unfold evStore at h
      split at h
      · split at h
        · split at h
          · split at h
            · cases h; cases hm
            · cases h
          · cases h
        · cases h
      · cases h
    · split at h
      · unfold evAppend at h
        split at h
        · split at h
          · split at h
            · split at h
              · split at h
                · split at h
                  · cases h; exact new_old hid
                  · cases h
                · split at h
                  · cases h; exact new_old hid
                  · cases h
                · split at h
                  · split at h
                    · cases h; cases hm
                    · cases h
                  · cases h
                · split at h
                  · split at h
                    · cases h; cases hm
                    · cases h
                  · cases h
                · cases h
              · cases h
            · cases h
          · cases h
        · cases h
      · cases h
    · split at h
      · obtain ⟨_, _, _, _, _, _, _, rfl⟩ := evCopy_inv h; cases hm
      · cases h
    · obtain ⟨z, rfl⟩ := evConv_inv h; rfl
    · unfold evCall at h
      split at h
      · simp only at h
        split at h
        · split at h
          · rename_i hc; cases h
            obtain ⟨h1, h2⟩ := omin_none hm
            rw [freshL_none h1] at hc
            exact (hci _ _ _ _ _ _ hc).2.1 h2 id hid
          · cases h
        · cases h
      · cases h
    · cases h

/-- An operation that neither reads nor changes objects. -/
theorem evO_pure {T : Tab} {br : FuncId → Nat → Bool} {ρ : Operand → AV} {σ : Store} {o : Op} {r : OR} (h : evO T br ci ρ σ o = some r) (hr : r.rd = false) : r.md = none ∧ ((evA T ρ σ.clock o = some (r.y, none) ∧ r.σ = σ) ∨ ∃ ob, evA T ρ σ.clock o = some (r.y, some ob) ∧ r.σ = σ.new ob) := by
  unfold evO at h
  split at h
  · rename_i hA; cases h; exact ⟨rfl, .inl ⟨hA, rfl⟩⟩
  · rename_i ob hA; cases h; exact ⟨rfl, .inr ⟨ob, hA, rfl⟩⟩
  · unfold evB at h
    split at h
    · unfold evLoad at h
      split at h
      · split at h
        · split at h
          · split at h
            · rw [Option.map_eq_some_iff] at h; obtain ⟨y, _, rfl⟩ := h; cases hr
            · cases h
          · cases h
        · cases h
      · cases h
    · unfold evStore at h
      split at h
      · split at h
        · split at h
          · split at h
            · cases h; cases hr
            · cases h
          · cases h
        · cases h
      · cases h
    · split at h
      · unfold evAppend at h
        split at h
        · split at h
          · split at h
            · split at h
              · split at h
                · split at h
                  · cases h; cases hr
                  · cases h
                · split at h
                  · cases h; cases hr
                  · cases h
                · split at h
                  · split at h
                    · cases h; cases hr
                    · cases h
                  · cases h
                · split at h
                  · split at h
                    · cases h; cases hr
                    · cases h
                  · cases h
                · cases h
              · cases h
            · cases h
          · cases h
        · cases h
      · cases h
    · split at h
      · obtain ⟨_, _, _, _, _, _, _, rfl⟩ := evCopy_inv h; cases hr
      · cases h
    · obtain ⟨z, rfl⟩ := evConv_inv h; cases hr
    · unfold evCall at h
      split at h
      · simp only at h
        split at h
        · split at h
          · cases h; cases hr
          · cases h
        · cases h
      · cases h
    · cases h
end

end Go.Bx

/- Regions, second part: contexts cut at a number; how a step is glued in; slots, guards. (Own text.) -/
namespace Go.Bx
set_option linter.unusedVariables false
set_option linter.unusedSimpArgs false
set_option linter.unusedSectionVars false
set_option linter.unusedVariables false
set_option linter.unusedSectionVars false
set_option linter.unusedSimpArgs false

/-- Of the places, those of the objects below a number. -/
def Ctx.upto (c : Ctx) (κ : Nat) : Ctx := { w := c.w, S := c.S, m := fun id => if id < κ then c.m id else none }

theorem upto_some {c : Ctx} {κ id : Nat} {l : ML} : (c.upto κ).m id = some l ↔ id < κ ∧ c.m id = some l := by
  by_cases h : id < κ <;> simp [Ctx.upto, h]

theorem Ext.upto_le (c : Ctx) {κ κ' : Nat} (h : κ ≤ κ') : Ext (c.upto κ) (c.upto κ') :=
  ⟨fun _ h => h, fun _ _ => rfl, fun id l hl => by rw [upto_some] at hl ⊢; exact ⟨by omega, hl.2⟩, Nat.le_refl _, rfl, rfl, rfl, fun _ _ h => h⟩
theorem Ext.upto_of (c : Ctx) (κ : Nat) : Ext (c.upto κ) c :=
  ⟨fun _ h => h, fun _ _ => rfl, fun id l hl => (upto_some.1 hl).2, Nat.le_refl _, rfl, rfl, rfl, fun _ _ h => h⟩
theorem Ext.of_upto {c : Ctx} {κ : Nat} (h : ∀ id l, c.m id = some l → id < κ) : Ext c (c.upto κ) :=
  ⟨fun _ h => h, fun _ _ => rfl, fun id l hl => upto_some.2 ⟨h id l hl, hl⟩, Nat.le_refl _, rfl, rfl, rfl, fun _ _ h => h⟩
theorem Ext.upto {c c' : Ctx} (e : Ext c c') (κ : Nat) : Ext (c.upto κ) (c'.upto κ) :=
  ⟨e.S, e.cell, fun id l hl => by rw [upto_some] at hl ⊢; exact ⟨hl.1, e.m _ _ hl.2⟩, e.size, e.os, e.tape, e.output, e.ty⟩

/-- The world behind a step at the objects below κ, with the places of those that others have made. -/
def Ctx.glue (c c' : Ctx) (κ' : Nat) : Ctx := { w := c'.w, S := c'.S, m := fun id => if id < κ' then c'.m id else c.m id }

section
variable {base : Nat} {c c' : Ctx} {τ : Nat → Option Obj} {σ σ' : Store} {md : Option Nat}

theorem glue_ext (hcl : σ.clock ≤ σ'.clock) (hgap : ∀ id l, c.m id = some l → id < σ.clock ∨ σ'.clock ≤ id) (e : Ext (c.upto σ.clock) c') : Ext c (c.glue c' σ'.clock) :=
  ⟨e.S, e.cell, fun id l hl => by
    simp only [Ctx.glue]
    rcases hgap id l hl with h | h
    · rw [if_pos (by omega)]; exact e.m id l (upto_some.2 ⟨h, hl⟩)
    · rw [if_neg (by omega)]; exact hl, e.size, e.os, e.tape, e.output, e.ty⟩

theorem glue_ext' (hI' : Inv σ' c' base) : Ext c' (c.glue c' σ'.clock) :=
  ⟨fun _ h => h, fun _ _ => rfl, fun id l hl => by
    simp only [Ctx.glue]; rw [if_pos (hI'.dom id l hl)]; exact hl, Nat.le_refl _, rfl, rfl, rfl, fun _ _ h => h⟩

theorem glue_block (hcore : Core τ c base) (hag : ∀ id l, id < σ.clock → c.m id = some l → τ id = σ.ob id) (hf : Fr (c.upto σ.clock) σ md c') {id : Nat} {o : Obj} {L : Loc} (ho : τ id = some o) (hm : c.m id = some (.at L)) (hge : σ.clock ≤ id ∨ md = none) :
    c'.w.heap[L.b]? = c.w.heap[L.b]? :=
  hf.block L.b (hcore.b_lt ho hm) (fun id2 o2 L2 ho2 hm2 l hl hle => by
    rcases hge with hge | hn
    · obtain ⟨h1, h2⟩ := upto_some.1 hm2
      exact hcore.apart id2 id o2 o L2 L (by rw [hag id2 _ h1 h2]; exact ho2) ho h2 hm (by omega)
    · rw [hn] at hl; cases hl)

theorem glue_core (hcl : σ.clock ≤ σ'.clock) (hcore : Core τ c base) (hgap : ∀ id l, c.m id = some l → id < σ.clock ∨ σ'.clock ≤ id)
    (hag : ∀ id l, id < σ.clock → c.m id = some l → τ id = σ.ob id) (hlive : ∀ id o, σ'.ob id = some o → (∃ q, σ.ob id = some q) ∨ σ.clock ≤ id)
    (hI' : Inv σ' c' base) (e : Ext (c.upto σ.clock) c') (hf : Fr (c.upto σ.clock) σ md c') :
    Core (fun id => if id < σ'.clock then σ'.ob id else τ id) (c.glue c' σ'.clock) base := by
  have he := glue_ext hcl hgap e
  have he' : Ext c' (c.glue c' σ'.clock) := glue_ext' hI'
  have hmix : ∀ id id' o o' L L', id < σ'.clock → ¬ id' < σ'.clock → σ'.ob id = some o → τ id' = some o' → c'.m id = some (.at L) → c.m id' = some (.at L') → L.b ≠ L'.b := by
    intro id id' o o' L L' h1 h2 ho ho' hm hm'
    have hlt := hcore.b_lt ho' hm'
    have key : ∀ id2 o2 L2, σ.ob id2 = some o2 → (c.upto σ.clock).m id2 = some (.at L2) → L2.b ≠ L'.b := by
      intro id2 o2 L2 h3 h4
      obtain ⟨h5, h6⟩ := upto_some.1 h4
      exact hcore.apart id2 id' o2 o' L2 L' (by rw [hag id2 _ h5 h6]; exact h3) ho' h6 hm' (by omega)
    by_cases hold : (c.upto σ.clock).m id = some (.at L)
    · have hlt2 := (upto_some.1 hold).1
      rcases hlive id o ho with ⟨q, hq⟩ | h3
      · exact key id q L hq hold
      · omega
    · rcases hf.bnew id L hm hold with h3 | ⟨id2, o2, L2, h3, h4, h5, _⟩
      · have : c.w.heap.size ≤ L.b := h3
        omega
      · rw [h5]; exact key id2 o2 L2 h3 h4
  refine ⟨?_, ?_, ?_, ?_, ?_, ?_⟩
  · intro id o L ho hm
    simp only [Ctx.glue] at ho hm
    split at ho
    · rename_i h1; rw [if_pos h1] at hm
      exact (hI'.core.obj id o L ho hm).mono he' rfl
    · rename_i h1; rw [if_neg h1] at hm
      exact (hcore.obj id o L ho hm).mono he (glue_block hcore hag hf ho hm (.inl (by omega)))
  · intro id o ho hm
    simp only [Ctx.glue] at ho hm
    split at ho
    · rename_i h1; rw [if_pos h1] at hm; exact hI'.core.virt id o ho hm
    · rename_i h1; rw [if_neg h1] at hm; exact hcore.virt id o ho hm
  · intro id id' o o' L L' ho ho' hm hm' hne
    simp only [Ctx.glue] at ho hm ho' hm'
    split at ho <;> split at ho'
    · rename_i h1 h2; rw [if_pos h1] at hm; rw [if_pos h2] at hm'
      exact hI'.core.apart id id' o o' L L' ho ho' hm hm' hne
    · rename_i h1 h2; rw [if_pos h1] at hm; rw [if_neg h2] at hm'
      exact hmix id id' o o' L L' h1 h2 ho ho' hm hm'
    · rename_i h1 h2; rw [if_neg h1] at hm; rw [if_pos h2] at hm'
      exact fun hh => hmix id' id o' o L' L h2 h1 ho' ho hm' hm hh.symm
    · rename_i h1 h2; rw [if_neg h1] at hm; rw [if_neg h2] at hm'
      exact hcore.apart id id' o o' L L' ho ho' hm hm' hne
  · exact hI'.core.inn
  · intro id o L ho hm a ha hab
    simp only [Ctx.glue] at ho hm ha
    split at ho
    · rename_i h1; rw [if_pos h1] at hm; exact hI'.core.free id o L ho hm a ha hab
    · rename_i h1; rw [if_neg h1] at hm
      rcases hf.snew a ha with h2 | h2 | ⟨id2, o2, L2, h3, h4, h5, _⟩
      · exact hcore.free id o L ho hm a h2 hab
      · have := hcore.b_lt ho hm
        have : c.w.heap.size ≤ a.block := h2
        omega
      · obtain ⟨h6, h7⟩ := upto_some.1 h4
        exact absurd (h5.symm.trans hab) (hcore.apart id2 id o2 o L2 L (by rw [hag id2 _ h6 h7]; exact h3) ho h7 hm (by omega))
  · exact hI'.core.base_le

theorem Fr.upto {c0 : Ctx} {σ0 : Store} {m0 : Option Nat} (h : Fr c0 σ0 m0 c) (κ : Nat) : Fr c0 σ0 m0 (c.upto κ) :=
  ⟨h.block, fun id l hl => h.mnew id l (upto_some.1 hl).2, fun id L hl hn => h.bnew id L (upto_some.1 hl).2 hn, h.snew⟩

theorem glue_fr {c0 : Ctx} {σ0 : Store} {m0 : Option Nat} (h0 : Fr c0 σ0 m0 c) (hk : Fr c0 σ0 m0 c') : Fr c0 σ0 m0 (c.glue c' σ'.clock) where
  block := hk.block
  mnew := fun id l hl => by
    simp only [Ctx.glue] at hl; split at hl
    · exact hk.mnew id l hl
    · exact h0.mnew id l hl
  bnew := fun id L hl hn => by
    simp only [Ctx.glue] at hl; split at hl
    · exact hk.bnew id L hl hn
    · exact h0.bnew id L hl hn
  snew := hk.snew

/-- A frame told of fewer objects, as far as it goes. -/
theorem Fr.low {c0 : Ctx} {σ0 : Store} {m m' : Option Nat} (h : Fr c0 σ0 m c) (hdom : ∀ id l, c0.m id = some l → id < σ0.clock) (hle : ∀ id l, id < σ0.clock → m = some l → l ≤ id → ∃ k, m' = some k ∧ k ≤ id) : Fr c0 σ0 m' c where
  block := fun b hb hne => h.block b hb (fun id o L ho hm l hl hll => by
    obtain ⟨k, hk, hkl⟩ := hle id l (hdom id _ hm) hl hll
    exact hne id o L ho hm k hk hkl)
  mnew := h.mnew
  bnew := fun id L hl hn => by
    rcases h.bnew id L hl hn with h1 | ⟨id', o, L', h1, h2, h3, l, h4, h5⟩
    · exact .inl h1
    · exact .inr ⟨id', o, L', h1, h2, h3, hle id' l (hdom id' _ h2) h4 h5⟩
  snew := fun a ha => by
    rcases h.snew a ha with h1 | h1 | ⟨id', o, L', h1, h2, h3, l, h4, h5⟩
    · exact .inl h1
    · exact .inr (.inl h1)
    · exact .inr (.inr ⟨id', o, L', h1, h2, h3, hle id' l (hdom id' _ h2) h4 h5⟩)
end

/-! ### slots -/

theorem putTm_length (tm : Cs) (d : Option Tmp) (y : AV) : (putTm tm d y).length = tm.length := by
  cases d <;> simp [putTm]

theorem putTm_get (tm : Cs) (d t : Tmp) (y : AV) : (putTm tm (some d) y).getD t .junk = if d = t then (if d < tm.length then y else .junk) else tm.getD t .junk := by
  simp only [putTm, List.getD_eq_getElem?_getD, List.getElem?_set]
  by_cases h : d = t
  · subst h; by_cases h2 : d < tm.length <;> simp [h2]
  · simp [h]

theorem put_get (a : Act) (d t : Tmp) (u : Value) : (a.put (some d) u).tmps.getD t undef = if d = t then (if d < a.tmps.size then u else undef) else a.tmps.getD t undef := by
  simp only [Act.put, Array.getD_eq_getD_getElem?, Array.getElem?_setIfInBounds]
  by_cases h : d = t
  · subst h; by_cases h2 : d < a.tmps.size <;> simp [h2]
  · simp [h]

theorem put_size (a : Act) (d : Option Tmp) (u : Value) : (a.put d u).tmps.size = a.tmps.size := by
  cases d <;> simp [Act.put]

theorem put_defers' (a : Act) (d : Option Tmp) (u : Value) : (a.put d u).defers = a.defers := by
  cases d <;> simp [Act.put]

theorem put_reps {c : Ctx} {tm : Cs} {a : Act} (hs : a.tmps.size = tm.length) (h : ∀ t, Rep c (tm.getD t .junk) (a.tmps.getD t undef)) (d : Option Tmp) {y : AV} {u : Value} (hu : Rep c y u) :
    ∀ t, Rep c ((putTm tm d y).getD t .junk) ((a.put d u).tmps.getD t undef) := by
  intro t
  cases d with
  | none => exact h t
  | some d =>
    rw [putTm_get, put_get]
    split
    · rw [hs]; split
      · exact hu
      · exact .junk
    · exact h t

theorem wanted_ok {c : Ctx} {ops : Array Oper} {tm : Cs} {a : Act} {o : Oper} {b : Bool} (hs : a.tmps.size = tm.length)
    (h : ∀ j want d, o.guard = some (j, want) → (ops[j]?).bind (·.dst) = some d → Rep c (tm.getD d .junk) (a.tmps.getD d undef)) (hw : wantedAV ops tm o = some b) : Region.wanted o (yielded ops a.tmps) = b := by
  unfold wantedAV at hw
  unfold Region.wanted
  split at hw
  · rename_i hg; cases hw; simp [hg]
  · rename_i j want hg
    simp only [hg]
    split at hw
    · rename_i d hd
      have hr := h j want d hg hd
      unfold yielded
      rw [hd]
      simp only [Option.bind_some]
      by_cases hlt : d < tm.length
      · have h1 : tm[d]? = some (tm.getD d .junk) := by simp [List.getD_eq_getElem?_getD, hlt]
        have h2 : a.tmps[d]? = some (a.tmps.getD d undef) := by simp [Array.getD_eq_getD_getElem?, hs, hlt]
        rw [h1] at hw; rw [h2]
        generalize tm.getD d .junk = x at hr hw
        generalize a.tmps.getD d undef = u at hr
        cases hr with
        | v =>
          cases u with
          | bool b1 => simp only [Option.some.injEq] at hw; rw [← hw]; cases b1 <;> cases want <;> rfl
          | _ => simp only [Option.some.injEq] at hw; rw [← hw]; rfl
        | junk => cases hw
        | _ => simp only [Option.some.injEq] at hw; rw [← hw]; rfl
      · have h1 : tm[d]? = none := List.getElem?_eq_none (Nat.le_of_not_lt hlt)
        have h2 : a.tmps[d]? = none := Array.getElem?_eq_none (by rw [hs]; exact Nat.le_of_not_lt hlt)
        rw [h1] at hw; rw [h2]; simpa using hw
    · rename_i hd
      unfold yielded
      rw [hd]; simpa using hw

theorem evOp_reps {E : Env} {c : Ctx} (hG : GlOK E c) {tm : Cs} {a : Act} {x : Operand} (h : ∀ t, x = .tmp t → Rep c (tm.getD t .junk) (a.tmps.getD t undef)) : Rep c (evOp E.gl tm x) (a.eval x) := by
  cases x with
  | tmp t => exact h t rfl
  | const v => exact .v v
  | global g => exact hG g
  | func f => exact .fn (by rfl) (by rfl) (fun j x u h => by simp at h) (fun j x u h => by simp at h)

end Go.Bx

/- Regions, third part: a state and what stands behind it; a region in its text's order. (Own text.) -/
namespace Go.Bx
set_option linter.unusedVariables false
set_option linter.unusedSimpArgs false
set_option linter.unusedSectionVars false
set_option linter.unusedVariables false
set_option linter.unusedSectionVars false
set_option linter.unusedSimpArgs false

/-- A call under way (begun at c00, σ00) and the machine. -/
structure SR (base : Nat) (c00 : Ctx) (σ00 : Store) (s : FS) (c : Ctx) (a : Act) : Prop where
  inv : Inv s.σ c base
  ext : Ext c00 c
  fr : Fr c00 σ00 s.low c
  go : StGo σ00 s.σ
  c0 : s.c0 = σ00.clock
  tm : ∀ t, Rep c (s.tm.getD t .junk) (a.tmps.getD t undef)
  sz : a.tmps.size = s.tm.length
  dfr : a.defers = c00.dfr
  foot : ∀ id, id < σ00.clock → c00.m id = none → s.σ.ob id = σ00.ob id

/-- What had no place at the begin, and is elder, has none. -/
theorem Fr.none_of {c0 c : Ctx} {σ0 : Store} {m : Option Nat} (h : Fr c0 σ0 m c) {id : Nat} (h1 : id < σ0.clock) (h2 : c0.m id = none) : c.m id = none := by
  cases hm : c.m id with
  | none => rfl
  | some l =>
    rcases h.mnew id l hm with h3 | h3
    · rw [h2] at h3; cases h3
    · omega

theorem omin_cut {m md : Option Nat} {κ : Nat} : ∀ id l, id < κ → omin m md = some l → l ≤ id → ∃ k, omin m (cut κ md) = some k ∧ k ≤ id := by
  intro id l hid hl hle
  cases m with
  | none =>
    simp only [omin] at hl; subst hl
    simp only [cut]; rw [if_pos (by omega)]; exact ⟨l, rfl, hle⟩
  | some a =>
    cases md with
    | none => simp only [omin] at hl; cases hl; exact ⟨_, rfl, hle⟩
    | some b =>
      simp only [omin] at hl; cases hl
      simp only [cut]
      by_cases hb : b < κ
      · rw [if_pos hb]; exact ⟨_, rfl, hle⟩
      · rw [if_neg hb]; refine ⟨a, rfl, ?_⟩
        split at hle <;> omega

def lowLe (a b : Option Nat) : Prop := ∀ l, a = some l → ∃ k, b = some k ∧ k ≤ l
/-- What is to be shown where an operation panics. -/
def PanQ (E : Env) (c00 : Ctx) (σ00 : Store) (low : Option Nat) (Q : Exit → Act → World → Prop) : Prop :=
  ∀ V (a : Act) c', E.pan V → a.defers = c00.dfr → Ext c00 c' → Fr c00 σ00 low c' → Q (.panic (panOf V)) a c'.w
theorem PanQ.mono {E : Env} {c00 : Ctx} {σ00 : Store} {low low' : Option Nat} {Q : Exit → Act → World → Prop} (hI : ∀ id l, c00.m id = some l → id < σ00.clock) (h : PanQ E c00 σ00 low' Q) (hl : lowLe low low') : PanQ E c00 σ00 low Q :=
  fun V a c' h1 h2 h3 h4 => h V a c' h1 h2 h3 (h4.low hI (fun id l _ h5 h6 => by
    obtain ⟨k, h7, h8⟩ := hl l h5
    exact ⟨k, h7, Nat.le_trans h8 h6⟩))

section
variable {E : Env} (hT : TabOK E.P E.T) {base : Nat} {ci : CI} (hci : CIOK E base ci) {c00 : Ctx} {σ00 : Store} (hI00 : Inv σ00 c00 base) (hG00 : GlOK E c00)

theorem stepG_low {ops : Array Oper} {o : Oper} {s s1 : FS} {f : Fl} (h : stepG E ci ops o s = some (s1, f)) : lowLe s.low s1.low := by
  unfold stepG at h
  split at h
  · unfold stepO at h
    split at h
    · cases h
      exact fun l hl => omin_le (.inl hl)
    · cases h
  · cases h; exact fun l hl => ⟨l, hl, Nat.le_refl _⟩
  · cases h
theorem evOps_low {ops : Array Oper} : ∀ (l : List Oper) {s s1 : FS} {fs : List Fl}, evOps E ci ops l s = some (s1, fs) → lowLe s.low s1.low
  | [], s, s1, fs, h => by cases h; exact fun l hl => ⟨l, hl, Nat.le_refl _⟩
  | o :: l, s, s1, fs, h => by
    simp only [evOps] at h
    split at h
    · rename_i s2 f h1
      split at h
      · rename_i s3 fs' h2; cases h
        intro l hl
        obtain ⟨k, h3, h4⟩ := stepG_low h1 l hl
        obtain ⟨k2, h5, h6⟩ := evOps_low _ h2 k h3
        exact ⟨k2, h5, Nat.le_trans h6 h4⟩
      · cases h
    · cases h

include hT hci hI00 hG00 in
theorem step_ok {ops : Array Oper} {o : Oper} {s s1 : FS} {f : Fl} {c : Ctx} {a : Act} (hS : SR base c00 σ00 s c a) (h : stepG E ci ops o s = some (s1, f)) (K : Act → World → Prop) (Q : Exit → Act → World → Prop)
    (hK : ∀ u c', SR base c00 σ00 s1 c' (a.put o.dst u) → K (a.put o.dst u) c'.w) (hP : PanQ E c00 σ00 s1.low Q) :
    if Region.wanted o (yielded ops a.tmps) then o.wp E.P a c.w K Q else K (a.put o.dst undef) c.w := by
  unfold stepG at h
  split at h
  · rename_i hw
    rw [wanted_ok hS.sz (fun j want d _ _ => hS.tm d) hw]
    simp only [if_true]
    unfold stepO at h
    split at h
    · rename_i r hr; cases h
      have hρ : ∀ x, Rep c (evOp E.gl s.tm x) (a.eval x) := fun x => evOp_reps (hG00.mono hS.ext) (fun t _ => hS.tm t)
      have hdom : ∀ id l, c00.m id = some l → id < σ00.clock := hI00.dom
      have hfr' : ∀ c', Fr c s.σ r.md c' → Fr c00 σ00 (omin s.low (cut s.c0 r.md)) c' := fun c' hfr => by
        have h1 := Fr.trans hS.fr hfr hS.go.clock hS.ext hS.inv.core hS.go.live' hdom
        rw [hS.c0]
        exact Fr.low h1 hdom (fun id l => omin_cut id l)
      refine evO_ok hT hci hS.inv (hG00.mono hS.ext) hρ hr K Q (fun u c' e hi hu hfr => hK u c' ?_) (fun V c' hV e hfr => hP V a c' hV hS.dfr (hS.ext.trans e) (hfr' c' hfr))
      have hgo := evO_go hci hr
      refine ⟨hi, hS.ext.trans e, hfr' c' hfr, hS.go.trans hgo, hS.c0, ?_, ?_, ?_, fun id h1 h2 => ?_⟩
      · exact put_reps hS.sz (fun t => (hS.tm t).mono e) o.dst hu
      · simp only [put_size, putTm_length]; exact hS.sz
      · rw [put_defers']; exact hS.dfr
      · exact (evO_foot hci hS.inv (hG00.mono hS.ext) hρ hr id (Nat.lt_of_lt_of_le h1 hS.go.clock) (hS.fr.none_of h1 h2)).trans (hS.foot id h1 h2)
    · cases h
  · rename_i hw; cases h
    rw [wanted_ok hS.sz (fun j want d _ _ => hS.tm d) hw]
    simp only [Bool.false_eq_true, if_false]
    refine hK undef c ⟨hS.inv, hS.ext, hS.fr, hS.go, hS.c0, ?_, ?_, ?_, hS.foot⟩
    · exact put_reps hS.sz hS.tm o.dst (.v _)
    · simp only [put_size, putTm_length]; exact hS.sz
    · rw [put_defers']; exact hS.dfr
  · cases h

include hT hci hI00 hG00 in
theorem list_ok {ops : Array Oper} {Q : Exit → Act → World → Prop} : ∀ (l : List Oper) {s s1 : FS} {fs : List Fl} {c : Ctx} {a : Act}, SR base c00 σ00 s c a → evOps E ci ops l s = some (s1, fs) →
    (∀ c' a', SR base c00 σ00 s1 c' a' → Q .normal a' c'.w) → PanQ E c00 σ00 s1.low Q → wpList E.P ops Q l a c.w
  | [], s, s1, fs, c, a, hS, h, hQ, hP => by cases h; exact hQ c a hS
  | o :: l, s, s1, fs, c, a, hS, h, hQ, hP => by
    simp only [evOps] at h
    split at h
    · rename_i s2 f h1
      split at h
      · rename_i s3 fs' h2; cases h
        exact wpList_step fun K hK => step_ok hT hci hI00 hG00 hS h1 K Q (fun u c' hS' => hK _ _ (list_ok l hS' h2 hQ hP)) (hP.mono hI00.dom (evOps_low _ h2))
      · cases h
    · cases h

/-- This operation panics. -/
def PanAt (E : Env) (base : Nat) (tm : Cs) (σ : Store) (o : Oper) (V : Value) (md : Option Nat) : Prop :=
  (∀ t a, o.op ≠ .load t a) ∧ ∀ (c : Ctx) (a : Act), Inv σ c base → GlOK E c → (∀ x ∈ o.op.operands, Rep c (evOp E.gl tm x) (a.eval x)) →
    ∀ (K : Act → World → Prop) (Q : Exit → Act → World → Prop), (∀ c', Ext c c' → Fr c σ md c' → Q (.panic (panOf V)) a c'.w) → o.wp E.P a c.w K Q
def NoRep (y : AV) : Prop := ∀ c u, ¬ Rep c y u


theorem CIOK.withPan {E : Env} {base : Nat} {ci : CI} (hci : CIOK E base ci) (hnp : ∀ V, ¬ E.pan V) (P : Value → Prop) : CIOK { E with pan := P } base ci := fun f args σ r σr tl h => by
  obtain ⟨h1, h2, h3, h4⟩ := hci f args σ r σr tl h
  refine ⟨h1, h2, h3, fun c us hI hG hus => ?_⟩
  obtain ⟨h5, h6⟩ := h4 c us hI hG hus
  exact ⟨h5, h6.mono fun e w' h => h.elim .inl (fun ⟨V, c', h, _⟩ => absurd h (hnp V))⟩

include hT in
theorem PanAt.call {V : Value} {ci' : CI} (hci' : CIOK { E with pan := fun v => v = V } base ci') {tm : Cs} {σ : Store} {o : Oper} {r : OR} (hl : ∀ t a, o.op ≠ .load t a) (h : evO E.T E.br ci' (evOp E.gl tm) σ o.op = some r) (hn : NoRep r.y) : PanAt E base tm σ o V r.md :=
  ⟨hl, fun c a hI hG hρ K Q hQ => by
    classical
    let ρ : Operand → AV := fun x => if x ∈ o.op.operands then evOp E.gl tm x else .junk
    have hr' : evO E.T E.br ci' ρ σ o.op = some r := by
      rw [← h]; exact evO_congr (fun x hx => by simp [ρ, hx])
    have hρ' : ∀ x, Rep c (ρ x) (a.eval x) := by
      intro x
      by_cases hx : x ∈ o.op.operands
      · have h1 : ρ x = evOp E.gl tm x := by simp [ρ, hx]
        rw [h1]; exact hρ x hx
      · have h1 : ρ x = .junk := by simp [ρ, hx]
        rw [h1]; exact .junk
    exact evO_ok (E := { E with pan := fun v => v = V }) hT hci' hI hG hρ' hr' K Q (fun u c' _ _ hu _ => absurd hu (hn c' u)) (fun V' c' hV e hfr => by
      have : V' = V := hV
      subst this; exact hQ c' e hfr)⟩

theorem PanAt.panic {V : Value} {tm : Cs} {σ : Store} {o : Oper} {x : Operand} (ho : o.op = .panic x) (hv : ∀ c u, Rep c (evOp E.gl tm x) u → u = V) (hV : ∃ t u, V = .iface t u) : PanAt E base tm σ o V none :=
  ⟨(fun t a h => by rw [ho] at h; cases h), fun c a hI hG hρ K Q hQ => by
    have hu := hv c _ (hρ x (by rw [ho]; simp [Op.operands]))
    obtain ⟨t, u, rfl⟩ := hV
    have hrun : (execOp a.eval o).run E.P c.w = .halt (.panic (.iface t u)) c.w := by
      simp [execOp, ho, hu, Instr.panic, goPanic]
    unfold Oper.wp
    rw [hrun, Oper.upon_panic]
    exact hQ c (Ext.refl c) (Fr.refl _ _ _)⟩

include hI00 hG00 in
/-- An operation in its place that panics. -/
theorem step_pan {ops : Array Oper} {o : Oper} {s : FS} {V : Value} {md : Option Nat} {c : Ctx} {a : Act} (hS : SR base c00 σ00 s c a) (hw : wantedAV ops s.tm o = some true) (hp : PanAt E base s.tm s.σ o V md) (K : Act → World → Prop) (Q : Exit → Act → World → Prop)
    (hQ : ∀ c', a.defers = c00.dfr → Ext c00 c' → Fr c00 σ00 (omin s.low (cut s.c0 md)) c' → Q (.panic (panOf V)) a c'.w) :
    if Region.wanted o (yielded ops a.tmps) then o.wp E.P a c.w K Q else K (a.put o.dst undef) c.w := by
  rw [wanted_ok hS.sz (fun j want d _ _ => hS.tm d) hw]
  simp only [if_true]
  refine hp.2 c a hS.inv (hG00.mono hS.ext) (fun x _ => evOp_reps (hG00.mono hS.ext) (fun t _ => hS.tm t)) K Q (fun c' e hfr => hQ c' hS.dfr (hS.ext.trans e) ?_)
  have h1 := Fr.trans hS.fr hfr hS.go.clock hS.ext hS.inv.core hS.go.live' hI00.dom
  rw [hS.c0]
  exact Fr.low h1 hI00.dom (fun id l => omin_cut id l)

include hT hci hI00 hG00 in
/-- A list of operations, of which one panics. -/
theorem list_pan {ops : Array Oper} {Q : Exit → Act → World → Prop} {V : Value} {md : Option Nat} {p : Oper} {post : List Oper} (hnp : ∀ V, ¬ E.pan V) : ∀ (l : List Oper) {s s1 : FS} {fs : List Fl} {c : Ctx} {a : Act}, SR base c00 σ00 s c a → evOps E ci ops l s = some (s1, fs) →
    wantedAV ops s1.tm p = some true → PanAt E base s1.tm s1.σ p V md →
    (∀ a' c', a'.defers = c00.dfr → Ext c00 c' → Fr c00 σ00 (omin s1.low (cut s1.c0 md)) c' → Q (.panic (panOf V)) a' c'.w) → wpList E.P ops Q (l ++ p :: post) a c.w
  | [], s, s1, fs, c, a, hS, h, hw, hp, hQ => by
    cases h
    exact wpList_step fun K hK => step_pan hI00 hG00 hS hw hp K Q (fun c' => hQ a c')
  | o :: l, s, s1, fs, c, a, hS, h, hw, hp, hQ => by
    simp only [evOps] at h
    split at h
    · rename_i s2 f h1
      split at h
      · rename_i s3 fs' h2; cases h
        exact wpList_step fun K hK => step_ok hT hci hI00 hG00 hS h1 K Q (fun u c' hS' => hK _ _ (list_pan hnp l hS' h2 hw hp hQ)) (fun V _ _ hV => absurd hV (hnp V))
      · cases h
    · cases h
end

end Go.Bx

/- Regions, fourth part: the run of a region in its text's order, step by step; its orders. (Own text.) -/
namespace Go.Bx
set_option linter.unusedVariables false
set_option linter.unusedSimpArgs false
set_option linter.unusedSectionVars false
set_option linter.unusedVariables false
set_option linter.unusedSectionVars false
set_option linter.unusedSimpArgs false

theorem evOps_trace {E : Env} {ci : CI} {ops : Array Oper} : ∀ (l : List Oper) {s s' : FS} {fs : List Fl}, evOps E ci ops l s = some (s', fs) →
    ∃ st : Nat → FS, st 0 = s ∧ st l.length = s' ∧ ∀ i o, l[i]? = some o → ∃ f, fs[i]? = some f ∧ stepG E ci ops o (st i) = some (st (i + 1), f)
  | [], s, s', fs, h => by cases h; exact ⟨fun _ => s, rfl, rfl, fun i o h => by simp at h⟩
  | o :: l, s, s', fs, h => by
    simp only [evOps] at h
    split at h
    · rename_i s1 f h1
      split at h
      · rename_i s2 fs' h2; cases h
        obtain ⟨st, h3, h4, h5⟩ := evOps_trace l h2
        refine ⟨fun i => match i with
          | 0 => s
          | i + 1 => st i, rfl, by simpa using h4, fun i o' hi => ?_⟩
        cases i with
        | zero => simp at hi; subst hi; exact ⟨f, rfl, by simp only; rw [h3]; exact h1⟩
        | succ i => exact h5 i o' (by simpa using hi)
      · cases h
    · cases h

/-! ### orders -/

def bits (acc : Array Nat) (es : List Edge) (s : Nat) : Nat := es.foldl (fun s e => if Region.binds .any e then s ||| 2 ^ e.on ||| acc.getD e.on 0 else s) s

theorem bits_spec (acc : Array Nat) : ∀ (es : List Edge) (s i : Nat), (bits acc es s).testBit i = true → s.testBit i = true ∨ ∃ e ∈ es, Region.binds .any e = true ∧ (i = e.on ∨ (acc.getD e.on 0).testBit i = true)
  | [], s, i, h => .inl h
  | e :: es, s, i, h => by
    have h' : (bits acc es (if Region.binds .any e then s ||| 2 ^ e.on ||| acc.getD e.on 0 else s)).testBit i = true := h
    rcases bits_spec acc es _ i h' with h1 | ⟨e', h1, h2, h3⟩
    · split at h1
      · rename_i hb
        simp only [Nat.testBit_or, Nat.testBit_two_pow, Bool.or_eq_true, decide_eq_true_eq] at h1
        rcases h1 with (h1 | h1) | h1
        · exact .inl h1
        · exact .inr ⟨e, by simp, hb, .inl h1.symm⟩
        · exact .inr ⟨e, by simp, hb, .inr h1⟩
      · exact .inl h1
    · exact .inr ⟨e', by simp [h1], h2, h3⟩

theorem before_spec {ops : Array Oper} (X : Nat → Prop) (hX : ∀ (j : Nat) o e, X j → ops[j]? = some o → e ∈ o.after → Region.binds .any e = true → X e.on) {j i : Nat}
    (h : ((Region.before ops).getD j 0).testBit i = true) (hj : ∀ o e, ops[j]? = some o → e ∈ o.after → Region.binds .any e = true → X e.on) : X i := by
  have key : ∀ (l : List Oper) (acc : Array Nat), (∀ i o, l[i]? = some o → ops[acc.size + i]? = some o) →
      (∀ j, j < acc.size → ∀ i, (acc.getD j 0).testBit i = true → (∀ o e, ops[j]? = some o → e ∈ o.after → Region.binds .any e = true → X e.on) → X i) →
      ∀ j i, ((l.foldl (fun acc o => acc.push (bits acc o.after.toList 0)) acc).getD j 0).testBit i = true → (∀ o e, ops[j]? = some o → e ∈ o.after → Region.binds .any e = true → X e.on) → X i := by
    intro l
    induction l with
    | nil =>
      intro acc _ hg j i h1 h2
      by_cases hlt : j < acc.size
      · exact hg j hlt i h1 h2
      · simp only [List.foldl_nil] at h1
        rw [Array.getD_eq_getD_getElem?, Array.getElem?_eq_none (by omega)] at h1
        simp at h1
    | cons o l ih =>
      intro acc hl hg j i h1 h2
      refine ih (acc.push (bits acc o.after.toList 0)) (fun i' o' h => ?_) (fun j' hj' i' h3 h4 => ?_) j i h1 h2
      · have := hl (i' + 1) o' (by simpa using h)
        rw [Array.size_push]
        have he : acc.size + 1 + i' = acc.size + (i' + 1) := by omega
        rw [he]; exact this
      · rw [Array.size_push] at hj'
        by_cases hlt : j' < acc.size
        · rw [Array.getD_eq_getD_getElem?, Array.getElem?_push_lt hlt] at h3
          refine hg j' hlt i' ?_ h4
          rw [Array.getD_eq_getD_getElem?, Array.getElem?_eq_getElem hlt]; exact h3
        · have : j' = acc.size := by omega
          subst this
          simp only [Array.getD_eq_getD_getElem?, Array.getElem?_push_size, Option.getD_some] at h3
          have ho : ops[acc.size]? = some o := by simpa using hl 0 o (by simp)
          rcases bits_spec acc _ _ _ h3 with h5 | ⟨e, h5, h6, h7⟩
          · simp at h5
          · have hXe := h4 o e ho (by simpa using h5) h6
            rcases h7 with rfl | h7
            · exact hXe
            · by_cases hlt2 : e.on < acc.size
              · exact hg e.on hlt2 i' h7 (fun o2 e2 h8 h9 h10 => hX e.on o2 e2 hXe h8 h9 h10)
              · rw [Array.getD_eq_getD_getElem?, Array.getElem?_eq_none (by omega)] at h7
                simp at h7
  refine key ops.toList #[] (fun i o h => by simpa using h) (fun j hj => by simp at hj) j i ?_ hj
  have hbe : Region.before ops = ops.toList.foldl (fun acc o => acc.push (bits acc o.after.toList 0)) #[] := by
    unfold Region.before
    rw [← Array.foldl_toList]
    congr 1
    funext acc o
    congr 1
    unfold bits
    rw [← Array.foldl_toList]
  rw [← hbe]; exact h

theorem regOK_back {ops : Array Oper} (h : regOK ops = true) {j : Nat} {o : Oper} {e : Edge} (ho : ops[j]? = some o) (he : e ∈ o.after) (hb : Region.binds .any e = true) : e.on < j := by
  have hlt : j < ops.size := (Array.getElem?_eq_some_iff.1 ho).1
  have h1 := List.all_eq_true.1 h j (List.mem_range.2 hlt)
  simp only [ho, Bool.and_eq_true] at h1
  have h2 := List.all_eq_true.1 h1.1 e (by simpa using he)
  simpa [hb] using h2

theorem regOK_apart {ops : Array Oper} (h : regOK ops = true) {i j : Nat} {oi oj : Oper} (hij : i < j) (hi : ops[i]? = some oi) (hj : ops[j]? = some oj) : ((Region.before ops).getD j 0).testBit i = true ∨ oi.apart ops oj = true := by
  have hlt : j < ops.size := (Array.getElem?_eq_some_iff.1 hj).1
  have h1 := List.all_eq_true.1 h j (List.mem_range.2 hlt)
  simp only [hj, Bool.and_eq_true] at h1
  have h2 := List.all_eq_true.1 h1.2 i (List.mem_range.2 hij)
  simpa [hi] using h2

theorem calm_spec {b : Array Nat} {fs : List Fl} (h : calm b fs = true) {i j : Nat} {fi fj : Fl} (hij : i < j) (hi : fs[i]? = some fi) (hj : fs[j]? = some fj) :
    (b.getD j 0).testBit i = true ∨ ¬ ((fi.eff = true ∧ (fj.eff = true ∨ fj.rd = true)) ∨ (fj.eff = true ∧ fi.rd = true)) := by
  have hlt : j < fs.length := (List.getElem?_eq_some_iff.1 hj).1
  have h1 := List.all_eq_true.1 h j (List.mem_range.2 hlt)
  simp only [hj] at h1
  have h2 := List.all_eq_true.1 h1 i (List.mem_range.2 hij)
  simp only [hi, Bool.or_eq_true, Bool.not_eq_true', Bool.or_eq_false_iff, Bool.and_eq_false_iff] at h2
  rcases h2 with h2 | h2
  · exact .inl h2
  · right
    cases h3 : fi.eff <;> cases h4 : fj.eff <;> cases h5 : fi.rd <;> cases h6 : fj.rd <;> simp_all

/-! ### what a step in the text's order keeps -/

def EffAt (fs : List Fl) (i : Nat) : Prop := ∃ f, fs[i]? = some f ∧ f.eff = true
def LoudAt (fs : List Fl) (i : Nat) : Prop := ∃ f, fs[i]? = some f ∧ (f.eff = true ∨ f.rd = true)
def Wr (ops : Array Oper) (i : Nat) (t : Tmp) : Prop := ∃ o, ops[i]? = some o ∧ o.dst = some t
def nslf : Nat → AV → Bool
  | 0, _ => false
  | _ + 1, .slf _ => false
  | n + 1, .agg cs => cs.all (nslf n)
  | n + 1, .tup cs => cs.all (nslf n)
  | n + 1, .fn _ as bs => as.all (nslf n) && bs.all (nslf n)
  | n + 1, .ifc _ x => nslf n x
  | _, _ => true
def nslfO (o : Option Obj) : Prop := ∀ q, o = some q → (q.es.all fun e => e.all (nslf 4)) = true
/-- From one state to the next this object stays. -/
def Stays (σ σ' : Store) (id : Nat) : Prop := σ'.ob id = σ.ob id ∧ nslfO (σ.ob id)
/-- Operation e changes this object. -/
def EffOn (st : Nat → FS) (fs : List Fl) (e id : Nat) : Prop := EffAt fs e ∧ ¬ Stays (st e).σ (st (e + 1)).σ id
/-- Operation i only looks at this object, by a pointer. -/
def Ld (E : Env) (ops : Array Oper) (st : Nat → FS) (i id : Nat) : Prop := ∃ o t a p off, ops[i]? = some o ∧ o.op = .load t a ∧ evOp E.gl (st i).tm a = .ptr id p off
/-- Operation i looks at one object, and j leaves that. -/
def Exm (E : Env) (ops : Array Oper) (st : Nat → FS) (i j : Nat) : Prop := ∃ id, Ld E ops st i id ∧ Stays (st j).σ (st (j + 1)).σ id
def Calm (E : Env) (ops : Array Oper) (st : Nat → FS) (fs : List Fl) : Prop := ∀ (i j : Nat) fi fj, i < j → fs[i]? = some fi → fs[j]? = some fj →
  ((Region.before ops).getD j 0).testBit i = true ∨ ¬ ((fi.eff = true ∧ (fj.eff = true ∨ fj.rd = true)) ∨ (fj.eff = true ∧ fi.rd = true)) ∨ (fi.eff = false ∧ Exm E ops st i j) ∨ (fj.eff = false ∧ Exm E ops st j i)
theorem Calm.of {E : Env} {ops : Array Oper} {st : Nat → FS} {fs : List Fl} (h : calm (Region.before ops) fs = true) : Calm E ops st fs := fun i j fi fj h1 h2 h3 => (calm_spec h h1 h2 h3).imp_right .inl

theorem putTm_ne {tm : Cs} {d : Option Tmp} {y : AV} {t : Tmp} (h : d ≠ some t) : (putTm tm d y).getD t .junk = tm.getD t .junk := by
  cases d with
  | none => rfl
  | some d => rw [putTm_get, if_neg (fun e => h (by rw [e]))]

section
variable {E : Env} {base : Nat} {ci : CI} (hci : CIOK E base ci)

include hci in
theorem stepG_facts {ops : Array Oper} {o : Oper} {s s1 : FS} {f : Fl} (h : stepG E ci ops o s = some (s1, f)) :
    StGo s.σ s1.σ ∧ s1.c0 = s.c0 ∧ s1.tm.length = s.tm.length ∧ (∀ t, o.dst ≠ some t → s1.tm.getD t .junk = s.tm.getD t .junk) ∧
    (f.eff = false → ∀ id, id < s.σ.clock → s1.σ.ob id = s.σ.ob id) ∧ lowLe s.low s1.low := by
  unfold stepG at h
  split at h
  · unfold stepO at h
    split at h
    · rename_i r hr; cases h
      refine ⟨evO_go hci hr, rfl, putTm_length _ _ _, fun t ht => putTm_ne ht, fun hf => evO_quiet hci hr (by cases hm : r.md <;> simp_all), fun l hl => ?_⟩
      exact omin_le (.inl hl)
    · cases h
  · cases h
    exact ⟨StGo.refl _, rfl, putTm_length _ _ _, fun t ht => putTm_ne ht, fun _ _ _ => rfl, fun l hl => ⟨l, hl, Nat.le_refl _⟩⟩
  · cases h

/-- The run in the text's order: the operations that are told by A; the others are passed over. -/
def Tr (E : Env) (base : Nat) (ops : Array Oper) (st : Nat → FS) (fs : List Fl) (A : Nat → Bool) : Prop :=
  ∀ i o, ops[i]? = some o → ∃ f, fs[i]? = some f ∧ ((A i = true ∧ ∃ ci, CIOK E base ci ∧ stepG E ci ops o (st i) = some (st (i + 1), f)) ∨ (A i = false ∧ st (i + 1) = st i))
theorem Tr.all {ops : Array Oper} {st : Nat → FS} {fs : List Fl} (hci : CIOK E base ci) (h : ∀ i o, ops[i]? = some o → ∃ f, fs[i]? = some f ∧ stepG E ci ops o (st i) = some (st (i + 1), f)) : Tr E base ops st fs (fun _ => true) := fun i o ho => by
  obtain ⟨f, h1, h2⟩ := h i o ho; exact ⟨f, h1, .inl ⟨rfl, ci, hci, h2⟩⟩
variable {ops : Array Oper} {st : Nat → FS} {fs : List Fl} {A : Nat → Bool} (hst : Tr E base ops st fs A)

include hst in
theorem Tr.facts {i : Nat} {o : Oper} (ho : ops[i]? = some o) : ∃ f, fs[i]? = some f ∧ StGo (st i).σ (st (i + 1)).σ ∧ (st (i + 1)).c0 = (st i).c0 ∧ (st (i + 1)).tm.length = (st i).tm.length ∧ (∀ t, o.dst ≠ some t → (st (i + 1)).tm.getD t .junk = (st i).tm.getD t .junk) ∧
    (f.eff = false → ∀ id, id < (st i).σ.clock → (st (i + 1)).σ.ob id = (st i).σ.ob id) ∧ lowLe (st i).low (st (i + 1)).low := by
  obtain ⟨f, hf, ⟨_, ci, hci, h⟩ | ⟨_, h⟩⟩ := hst i o ho
  · exact ⟨f, hf, stepG_facts hci h⟩
  · rw [h]; exact ⟨f, hf, StGo.refl _, rfl, rfl, fun _ _ => rfl, fun _ _ _ => rfl, fun l hl => ⟨l, hl, Nat.le_refl _⟩⟩

include hst in
theorem chain {i j : Nat} (hij : i ≤ j) (hj : j ≤ ops.size) : StGo (st i).σ (st j).σ ∧ (st j).c0 = (st i).c0 ∧ (st j).tm.length = (st i).tm.length ∧ lowLe (st i).low (st j).low ∧
    (∀ t, (∀ e, i ≤ e → e < j → ¬ Wr ops e t) → (st j).tm.getD t .junk = (st i).tm.getD t .junk) ∧
    (∀ id, (∀ e, i ≤ e → e < j → ¬ EffOn st fs e id) → id < (st i).σ.clock → (st j).σ.ob id = (st i).σ.ob id) := by
  induction hij with
  | refl => exact ⟨StGo.refl _, rfl, rfl, fun l hl => ⟨l, hl, Nat.le_refl _⟩, fun _ _ => rfl, fun _ _ _ => rfl⟩
  | @step m hm ih =>
    obtain ⟨h1, h2, h3, h4, h5, h6⟩ := ih (by omega)
    have ho : ops[m]? = some ops[m] := Array.getElem?_eq_getElem (by omega)
    obtain ⟨f, hf, g1, g2, g3, g4, g5, g6⟩ := Tr.facts hst ho
    refine ⟨h1.trans g1, g2.trans h2, g3.trans h3, fun l hl => ?_, fun t ht => ?_, fun id he hid => ?_⟩
    · obtain ⟨k, hk, hle⟩ := h4 l hl
      obtain ⟨k2, hk2, hle2⟩ := g6 k hk
      exact ⟨k2, hk2, by omega⟩
    · rw [g4 t (fun hd => ht m hm (by simp) ⟨_, ho, hd⟩)]
      exact h5 t (fun e h7 h8 => ht e h7 (by simp; omega))
    · have hs : (st (m + 1)).σ.ob id = (st m).σ.ob id := by
        cases hq : f.eff with
        | false => exact g5 hq id (Nat.lt_of_lt_of_le hid h1.clock)
        | true => exact Classical.byContradiction fun hn => he m hm (by simp) ⟨⟨f, hf, hq⟩, fun hs => hn hs.1⟩
      rw [hs]
      exact h6 id (fun e h7 h8 => he e h7 (by simp; omega)) hid
end

end Go.Bx

/- Regions, fifth part: a region in any order. (Own text.) -/
namespace Go.Bx
set_option linter.unusedVariables false
set_option linter.unusedSimpArgs false
set_option linter.unusedSectionVars false
set_option linter.unusedVariables false
set_option linter.unusedSectionVars false
set_option linter.unusedSimpArgs false

def Lsd (ls : Array Bool) (i : Nat) : Prop := ls.getD i false = true
/-- Where an object comes from: 0, it was there; i + 1, by operation i. -/
def Born (ops : Array Oper) (st : Nat → FS) (ls : Array Bool) (id b : Nat) : Prop :=
  (b = 0 ∧ id < (st 0).σ.clock) ∨ ∃ i, b = i + 1 ∧ Lsd ls i ∧ i < ops.size ∧ (st i).σ.clock ≤ id ∧ id < (st (i + 1)).σ.clock

def Track (base : Nat) (ops : Array Oper) (st : Nat → FS) (fs : List Fl) (ls : Array Bool) (c : Ctx) (τ : Nat → Option Obj) : Prop :=
  ∀ id l b, c.m id = some l → Born ops st ls id b → ∀ j, b ≤ j → j ≤ ops.size → (∀ e, b ≤ e → e < j → EffOn st fs e id → Lsd ls e) → (∀ e, b ≤ e → Lsd ls e → EffOn st fs e id → e < j) →
    τ id = (st j).σ.ob id ∧ ∀ o L, l = .at L → τ id = some o → ObjOK (c.upto (st j).σ.clock) base o L

structure J (base : Nat) (c00 : Ctx) (σ00 : Store) (ops : Array Oper) (st : Nat → FS) (fs : List Fl) (A : Nat → Bool) (ls : Array Bool) (a : Act) (c : Ctx) : Prop where
  okA : ∀ i, Lsd ls i → A i = true
  size : ls.size = ops.size
  closed : ∀ j o e, Lsd ls j → ops[j]? = some o → e ∈ o.after → Region.binds .any e = true → Lsd ls e.on
  ext : Ext c00 c
  fr : Fr c00 σ00 (st ops.size).low c
  dfr : a.defers = c00.dfr
  asz : a.tmps.size = (st 0).tm.length
  tm : ∀ t j, j ≤ ops.size → (∀ i, i < j → Wr ops i t → Lsd ls i) → (∀ i, Lsd ls i → Wr ops i t → i < j) → Rep (c.upto (st j).σ.clock) ((st j).tm.getD t .junk) (a.tmps.getD t undef)
  mem : ∃ τ, Core τ c base ∧ (∀ id l, c.m id = some l → ∃ b, Born ops st ls id b) ∧ Track base ops st fs ls c τ
  foot : ∀ e, Lsd ls e → ∀ id, id < (st e).σ.clock → c.m id = none → (st (e + 1)).σ.ob id = (st e).σ.ob id

theorem Ext.none_of {c c' : Ctx} (e : Ext c c') {id : Nat} (h : c'.m id = none) : c.m id = none := by
  cases hm : c.m id with
  | none => rfl
  | some l => rw [e.m id l hm] at h; cases h

theorem lsd_set {ls : Array Bool} {k i : Nat} : Lsd (ls.setIfInBounds k true) i ↔ Lsd ls i ∨ (i = k ∧ k < ls.size) := by
  unfold Lsd
  rw [Array.getD_eq_getD_getElem?, Array.getD_eq_getD_getElem?, Array.getElem?_setIfInBounds]
  by_cases h : k = i
  · subst h
    by_cases h2 : k < ls.size <;> simp [h2]
  · have : ¬ i = k := fun e => h e.symm
    simp [h, this]

theorem Core.cut {ob τ : Nat → Option Obj} {c : Ctx} {base κ : Nat} (h : Core τ c base)
    (hag : ∀ id l, id < κ → c.m id = some l → τ id = ob id ∧ ∀ o L, l = .at L → τ id = some o → ObjOK (c.upto κ) base o L) : Core ob (c.upto κ) base := by
  have g : ∀ {id o l}, ob id = some o → (c.upto κ).m id = some l → τ id = some o ∧ c.m id = some l := fun {id o l} ho hm => by
    obtain ⟨h1, h2⟩ := upto_some.1 hm
    exact ⟨by rw [(hag id l h1 h2).1]; exact ho, h2⟩
  refine ⟨fun id o L ho hm => ?_, fun id o ho hm => ?_, fun id id' o o' L L' ho ho' hm hm' hne => ?_, h.inn, fun id o L ho hm a ha hab => ?_, h.base_le⟩
  · obtain ⟨h1, h2⟩ := g ho hm
    exact (hag id _ (upto_some.1 hm).1 h2).2 o L rfl h1
  · exact h.virt id o (g ho hm).1 (g ho hm).2
  · exact h.apart id id' o o' L L' (g ho hm).1 (g ho' hm').1 (g ho hm).2 (g ho' hm').2 hne
  · exact h.free id o L (g ho hm).1 (g ho hm).2 a ha hab

/-- What leads to elder objects alone does so later too. -/
theorem Rep.scoped {c c' : Ctx} {κ : Nat} {x : AV} {u0 : Value} (h : Rep (c.upto κ) x u0) : ∀ {n : Nat} {u : Value}, nslf n x = true → Rep c' x u → Rep (c'.upto κ) x u := by
  induction h with
  | v x => intro n u _ h'; cases h'; exact .v _
  | sl sz b o w hn hc hA hsz hcell _ ih =>
    intro n u _ h'
    cases h' with
    | sl sz b o u hn hc hA hsz hcell' hrep =>
      refine .sl sz b o u hn hc hA hsz hcell' (fun i e j x h1 h2 => ih i e j x h1 h2 (n := 1) ?_ (hrep i e j x h1 h2))
      have := (hcell i e j x h1 h2).2.2
      cases x <;> simp_all [pl, nslf]
  | row L hm hs hn ht hA =>
    intro n u _ h'
    cases h' with
    | row L' hm' hs' hn' ht' hA' => exact .row L' (upto_some.2 ⟨(upto_some.1 hm).1, hm'⟩) hs' hn' ht' hA'
    | row0 hm' => exact .row0 (upto_some.2 ⟨(upto_some.1 hm).1, hm'⟩)
  | row0 hm =>
    intro n u _ h'
    cases h' with
    | row L' hm' hs' hn' ht' hA' => exact .row L' (upto_some.2 ⟨(upto_some.1 hm).1, hm'⟩) hs' hn' ht' hA'
    | row0 hm' => exact .row0 (upto_some.2 ⟨(upto_some.1 hm).1, hm'⟩)
  | @agg cs vs hl _ ih =>
    intro n u hn h'
    cases n with
    | zero => cases hn
    | succ n =>
    cases h' with
    | agg hl' h => exact .agg hl' (fun j x u h1 h2 => by
        have hlt : j < cs.length := (List.getElem?_eq_some_iff.1 h1).1
        exact ih j x vs[j] h1 (by simp [hl, hlt]) (List.all_eq_true.1 hn x (List.mem_of_getElem? h1)) (h j x u h1 h2))
  | @tup cs vs hl _ ih =>
    intro n u hn h'
    cases n with
    | zero => cases hn
    | succ n =>
    cases h' with
    | tup hl' h => exact .tup hl' (fun j x u h1 h2 => by
        have hlt : j < cs.length := (List.getElem?_eq_some_iff.1 h1).1
        exact ih j x vs[j] h1 (by simp [hl, hlt]) (List.all_eq_true.1 hn x (List.mem_of_getElem? h1)) (h j x u h1 h2))
  | vp b o w hcell _ ih =>
    intro n u _ h'
    cases h' with
    | vp b o u hcell' hrep =>
      refine .vp b o u hcell' (fun j x h1 => ih j x h1 (n := 1) ?_ (hrep j x h1))
      have := (hcell j x h1).2.2
      cases x <;> simp_all [pl, nslf]
  | ptr L hm =>
    intro n u _ h'
    cases h' with
    | ptr L' hm' => exact .ptr L' (upto_some.2 ⟨(upto_some.1 hm).1, hm'⟩)
  | tptr L hm ho ht =>
    intro n u _ h'
    cases h' with
    | tptr L' hm' ho' ht' => exact .tptr L' (upto_some.2 ⟨(upto_some.1 hm).1, hm'⟩) ho' ht'
  | slf0 => intro n u hn _; cases n <;> cases hn
  | slf L hm ho => intro n u hn _; cases n <;> cases hn
  | trow L hm hs ho ht hn hc =>
    intro n u _ h'
    cases h' with
    | trow L' hm' hs' ho' ht' hn' hc' => exact .trow L' (upto_some.2 ⟨(upto_some.1 hm).1, hm'⟩) hs' ho' ht' hn' hc'
    | trow0 hm' => exact .trow0 (upto_some.2 ⟨(upto_some.1 hm).1, hm'⟩)
  | trow0 hm =>
    intro n u _ h'
    cases h' with
    | trow L' hm' hs' ho' ht' hn' hc' => exact .trow L' (upto_some.2 ⟨(upto_some.1 hm).1, hm'⟩) hs' ho' ht' hn' hc'
    | trow0 hm' => exact .trow0 (upto_some.2 ⟨(upto_some.1 hm).1, hm'⟩)
  | @fn f first caps fv cv hl hl' _ _ ih ih' =>
    intro n u hn h'
    cases n with
    | zero => cases hn
    | succ n =>
    have hn' : (first.all (nslf n) && caps.all (nslf n)) = true := hn
    rw [Bool.and_eq_true] at hn'
    cases h' with
    | fn kl kl' h h2 => exact .fn kl kl' (fun j x u h1 h3 => by
        have hlt : j < first.length := (List.getElem?_eq_some_iff.1 h1).1
        exact ih j x fv[j] h1 (by simp [hl, hlt]) (List.all_eq_true.1 hn'.1 x (List.mem_of_getElem? h1)) (h j x u h1 h3)) (fun j x u h1 h3 => by
        have hlt : j < caps.length := (List.getElem?_eq_some_iff.1 h1).1
        exact ih' j x cv[j] h1 (by simp [hl', hlt]) (List.all_eq_true.1 hn'.2 x (List.mem_of_getElem? h1)) (h2 j x u h1 h3))
  | ifc _ ih =>
    intro n u hn h'
    cases n with
    | zero => cases hn
    | succ n =>
    cases h' with
    | ifc h => exact .ifc (ih hn h)
  | emp => intro n u _ h'; cases h'; exact .emp
  | junk => intro n u _ _; exact .junk

theorem ObjOK.scoped {c c' : Ctx} {κ base : Nat} {o : Obj} {L : Loc} (h : ObjOK (c.upto κ) base o L) (hn : (o.es.all fun e => e.all (nslf 4)) = true) (h' : ObjOK c' base o L) : ObjOK (c'.upto κ) base o L := by
  refine ⟨h'.sz, h'.base, h'.tot, h'.wid, h'.leafs, h'.flat, ?_⟩
  obtain ⟨arr0, T0, g1, g2, g3⟩ := h.mem
  obtain ⟨arr, T, h1, h2, h3⟩ := h'.mem
  refine ⟨arr, T, h1, h2, fun i e j x he hx => ?_⟩
  obtain ⟨u0, _, k1, _⟩ := g3 i e j x he hx
  obtain ⟨u, k2, k3, k4⟩ := h3 i e j x he hx
  exact ⟨u, k2, k1.scoped (List.all_eq_true.1 (List.all_eq_true.1 hn e (List.mem_of_getElem? he)) x (List.mem_of_getElem? hx)) k3, k4⟩

section
variable {E : Env} (hT : TabOK E.P E.T) {base : Nat} {ci : CI} (hci : CIOK E base ci) {c00 : Ctx} {σ00 : Store} (hI00 : Inv σ00 c00 base) (hG00 : GlOK E c00)
variable {ops : Array Oper} {st : Nat → FS} {fs : List Fl} {A : Nat → Bool} (hst : Tr E base ops st fs A)
variable (hreg : regOK ops = true) (hcalm : Calm E ops st fs) (hgo : StGo σ00 (st 0).σ) (hc0 : (st 0).c0 = σ00.clock)
variable {ls : Array Bool} {a : Act} {c : Ctx} (hJ : J base c00 σ00 ops st fs A ls a c) {k : Nat} {o : Oper} (hk : ops[k]? = some o) (hnk : ¬ Lsd ls k)
  (hed : ∀ e ∈ o.after, Region.binds .any e = true → Lsd ls e.on)

include hcalm hJ hk hed in
theorem ord1 {e : Nat} (he : e < k) (h1 : EffAt fs e) (h2 : LoudAt fs k) (hx : ¬ Exm E ops st k e) : Lsd ls e := by
  obtain ⟨f1, h3, h4⟩ := h1
  obtain ⟨f2, h5, h6⟩ := h2
  rcases hcalm e k f1 f2 he h3 h5 with h | h | h | h
  · exact before_spec (Lsd ls) hJ.closed h (fun o' e' h7 h8 h9 => by rw [hk] at h7; cases h7; exact hed e' h8 h9)
  · exact absurd (.inl ⟨h4, h6⟩) h
  · rw [h4] at h; cases h.1
  · exact absurd h.2 hx

include hcalm hJ hnk in
theorem ord2 {e : Nat} (he : Lsd ls e) (h1 : EffAt fs e) (h2 : LoudAt fs k) (hx : ¬ Exm E ops st k e) : e < k := by
  obtain ⟨f1, h3, h4⟩ := h1
  obtain ⟨f2, h5, h6⟩ := h2
  rcases Nat.lt_trichotomy e k with h | h | h
  · exact h
  · subst h; exact absurd he hnk
  · rcases hcalm k e f2 f1 h h5 h3 with h7 | h7 | h7 | h7
    · exact absurd (before_spec (Lsd ls) hJ.closed h7 (fun o' e' h8 h9 h10 => hJ.closed e o' e' he h8 h9 h10)) hnk
    · refine absurd ?_ h7
      rcases h6 with h6 | h6
      · exact .inl ⟨h6, .inl h4⟩
      · exact .inr ⟨h4, h6⟩
    · exact absurd h7.2 hx
    · rw [h4] at h7; cases h7.1

include hreg hJ hk hed in
theorem ord4 {i : Nat} {t : Tmp} (hi : i < k) (hw : Wr ops i t) (h : t ∈ o.looksAt ops ∨ o.dst = some t) : Lsd ls i := by
  obtain ⟨oi, h1, h2⟩ := hw
  rcases regOK_apart hreg hi h1 hk with h3 | h3
  · exact before_spec (Lsd ls) hJ.closed h3 (fun o' e' h7 h8 h9 => by rw [hk] at h7; cases h7; exact hed e' h8 h9)
  · obtain ⟨h4, h5, _⟩ := Oper.apart_spec h3
    rcases h with h | h
    · exact absurd h (h4 t h2)
    · exact absurd h (h5 t h2)

include hreg hJ hk hnk in
theorem ord5 {i : Nat} {t : Tmp} (hl : Lsd ls i) (hw : Wr ops i t) (h : t ∈ o.looksAt ops ∨ o.dst = some t) : i < k := by
  obtain ⟨oi, h1, h2⟩ := hw
  rcases Nat.lt_trichotomy i k with h3 | h3 | h3
  · exact h3
  · subst h3; exact absurd hl hnk
  · rcases regOK_apart hreg h3 hk h1 with h4 | h4
    · exact absurd (before_spec (Lsd ls) hJ.closed h4 (fun o' e' h8 h9 h10 => hJ.closed i o' e' hl h8 h9 h10)) hnk
    · obtain ⟨_, h5, h6⟩ := Oper.apart_spec h4
      rcases h with h | h
      · exact absurd h (h6 t h2)
      · exact absurd h2 (h5 t h)

include hk in
theorem lt_size : k < ops.size := (Array.getElem?_eq_some_iff.1 hk).1

include hst hreg hJ hk hnk hed in
/-- The step is done: what is left to show is the memory. -/
theorem finish (hAk : A k = true) {y : AV} {u : Value} {c2 : Ctx} (htm : (st (k + 1)).tm = putTm (st k).tm o.dst y) (hE : Ext c c2) (hF : Fr c00 σ00 (st ops.size).low c2)
    (hu : Rep (c2.upto (st (k + 1)).σ.clock) y u)
    (hft : ∀ id, id < (st k).σ.clock → c.m id = none → (st (k + 1)).σ.ob id = (st k).σ.ob id)
    (hm : ∃ τ, Core τ c2 base ∧ (∀ id l, c2.m id = some l → ∃ b, Born ops st (ls.setIfInBounds k true) id b) ∧ Track base ops st fs (ls.setIfInBounds k true) c2 τ) :
    J base c00 σ00 ops st fs A (ls.setIfInBounds k true) (a.put o.dst u) c2 := by
  have hks : k < ops.size := lt_size hk
  have hkl : k < ls.size := by rw [hJ.size]; exact hks
  refine ⟨fun i hi => by
    rcases lsd_set.1 hi with h | ⟨rfl, _⟩
    · exact hJ.okA i h
    · exact hAk, by simp [hJ.size], ?_, hJ.ext.trans hE, hF, by rw [put_defers']; exact hJ.dfr, by rw [put_size]; exact hJ.asz, ?_, hm, fun e he id h1 h2 => ?_⟩
  · intro j oj e hj ho he hb
    rw [lsd_set] at hj ⊢
    rcases hj with hj | ⟨rfl, _⟩
    · exact .inl (hJ.closed j oj e hj ho he hb)
    · rw [hk] at ho; cases ho; exact .inl (hed e he hb)
  · intro t j hj h1 h2
    by_cases hw : o.dst = some t
    · have hkj : k < j := h2 k (lsd_set.2 (.inr ⟨rfl, hkl⟩)) ⟨o, hk, hw⟩
      have hch := chain hst (i := k + 1) (j := j) hkj hj
      have hno : ∀ e, k + 1 ≤ e → e < j → ¬ Wr ops e t := by
        intro e h3 h4 h5
        rcases lsd_set.1 (h1 e h4 h5) with h6 | ⟨h6, _⟩
        · have := ord5 hreg hJ hk hnk h6 h5 (.inr hw); omega
        · omega
      rw [hch.2.2.2.2.1 t hno, htm, hw, putTm_get, put_get, if_pos rfl, if_pos rfl]
      have hl : a.tmps.size = (st k).tm.length := by
        rw [hJ.asz, (chain hst (i := 0) (j := k) (by omega) (by omega)).2.2.1]
      rw [hl]
      split
      · exact hu.mono (Ext.upto_le c2 hch.1.clock)
      · exact .junk
    · have h3 : (a.put o.dst u).tmps.getD t undef = a.tmps.getD t undef := by
        cases hd : o.dst with
        | none => rfl
        | some d => rw [put_get, if_neg (fun e => hw (by rw [hd, e]))]
      rw [h3]
      refine (hJ.tm t j hj (fun i h4 h5 => ?_) (fun i h4 h5 => h2 i (lsd_set.2 (.inl h4)) h5)).mono (hE.upto _)
      rcases lsd_set.1 (h1 i h4 h5) with h6 | ⟨rfl, _⟩
      · exact h6
      · obtain ⟨o', h7, h8⟩ := h5; rw [hk] at h7; cases h7; exact absurd h8 hw
  · rcases lsd_set.1 he with h3 | ⟨rfl, _⟩
    · exact hJ.foot e h3 id h1 (hE.none_of h2)
    · exact hft id h1 (hE.none_of h2)

theorem Born.mono {ls ls' : Array Bool} {id b : Nat} (h : ∀ i, Lsd ls i → Lsd ls' i) (hb : Born ops st ls id b) : Born ops st ls' id b := by
  rcases hb with h1 | ⟨i, h1, h2, h3⟩
  · exact .inl h1
  · exact .inr ⟨i, h1, h i h2, h3⟩

include hJ hk in
/-- Where the store stays as it is. -/
theorem mem_same (hσ : (st (k + 1)).σ = (st k).σ) (hq : ¬ EffAt fs k) : ∃ τ, Core τ c base ∧ (∀ id l, c.m id = some l → ∃ b, Born ops st (ls.setIfInBounds k true) id b) ∧ Track base ops st fs (ls.setIfInBounds k true) c τ := by
  obtain ⟨τ, h1, h2, h3⟩ := hJ.mem
  refine ⟨τ, h1, fun id l hl => ?_, fun id l b hl hb j h4 h5 h6 h7 => ?_⟩
  · obtain ⟨b, hb⟩ := h2 id l hl
    exact ⟨b, hb.mono (fun i h => lsd_set.2 (.inl h))⟩
  · have hb' : Born ops st ls id b := by
      rcases hb with h8 | ⟨i, h8, h9, h10, h11, h12⟩
      · exact .inl h8
      · rcases lsd_set.1 h9 with h13 | ⟨rfl, _⟩
        · exact .inr ⟨i, h8, h13, h10, h11, h12⟩
        · rw [hσ] at h12; omega
    refine h3 id l b hl hb' j h4 h5 (fun e h8 h9 h10 => ?_) (fun e h8 h9 h10 => h7 e h8 (lsd_set.2 (.inl h9)) h10)
    rcases lsd_set.1 (h6 e h8 h9 h10) with h11 | ⟨rfl, _⟩
    · exact h11
    · exact absurd h10.1 hq

include hst hI00 hgo hcalm hJ hk hnk hed in
/-- What is there for a loud operation. -/
theorem inv_at (hl : LoudAt fs k) (hx : ∀ e, ¬ Exm E ops st k e) : Inv (st k).σ (c.upto (st k).σ.clock) base := by
  have hks : k < ops.size := lt_size hk
  obtain ⟨τ, h1, h2, h3⟩ := hJ.mem
  have h0k := chain hst (i := 0) (j := k) (by omega) (by omega)
  refine ⟨h1.cut (fun id l hid hm => ?_), fun id l h => (upto_some.1 h).1, ?_⟩
  · obtain ⟨b, hb⟩ := h2 id l hm
    have hbk : b ≤ k := by
      rcases hb with ⟨rfl, _⟩ | ⟨i, rfl, _, h4, h5, _⟩
      · omega
      · rcases Nat.lt_or_ge i k with h6 | h6
        · omega
        · have := (chain hst (i := k) (j := i) h6 (by omega)).1.clock; omega
    exact h3 id l b hm hb k hbk (by omega) (fun e _ h5 h6 => ord1 hcalm hJ hk hed h5 h6.1 hl (hx e)) (fun e _ h5 h6 => ord2 hcalm hJ hnk h5 h6.1 hl (hx e))
  · exact (hgo.trans h0k.1).old hI00.old

include hst hI00 hgo hcalm hJ hk hnk hed in
/-- The memory behind a loud step. -/
theorem mem_loud {f : Fl} (hf : fs[k]? = some f) (hl : f.eff = true ∨ f.rd = true) (hx : ∀ e, ¬ Exm E ops st k e) {md : Option Nat} (hmd : f.eff = false → md = none) {c' : Ctx}
    (hs : StGo (st k).σ (st (k + 1)).σ) (hsq : f.eff = false → ∀ id, id < (st k).σ.clock → (st (k + 1)).σ.ob id = (st k).σ.ob id)
    (hI' : Inv (st (k + 1)).σ c' base) (e : Ext (c.upto (st k).σ.clock) c') (hfr : Fr (c.upto (st k).σ.clock) (st k).σ md c') :
    Ext c (c.glue c' (st (k + 1)).σ.clock) ∧
    ∃ τ, Core τ (c.glue c' (st (k + 1)).σ.clock) base ∧ (∀ id l, (c.glue c' (st (k + 1)).σ.clock).m id = some l → ∃ b, Born ops st (ls.setIfInBounds k true) id b) ∧
      Track base ops st fs (ls.setIfInBounds k true) (c.glue c' (st (k + 1)).σ.clock) τ := by
  have hks : k < ops.size := lt_size hk
  have hkl : k < ls.size := by rw [hJ.size]; exact hks
  have hloud : LoudAt fs k := ⟨f, hf, hl⟩
  obtain ⟨τ, h1, h2, h3⟩ := hJ.mem
  have hkk : Lsd (ls.setIfInBounds k true) k := lsd_set.2 (.inr ⟨rfl, hkl⟩)
  have hup : ∀ i, Lsd ls i → Lsd (ls.setIfInBounds k true) i := fun i h => lsd_set.2 (.inl h)
  have hmk : ∀ i j, i ≤ j → j ≤ ops.size → (st i).σ.clock ≤ (st j).σ.clock := fun i j h4 h5 => (chain hst h4 h5).1.clock
  -- where a born object lies
  have hwhere : ∀ id b, Born ops st ls id b → (b ≤ k ∧ id < (st k).σ.clock) ∨ (k < b ∧ (st (k + 1)).σ.clock ≤ id) := by
    intro id b hb
    rcases hb with ⟨rfl, h4⟩ | ⟨i, rfl, h4, h5, h6, h7⟩
    · left; exact ⟨by omega, Nat.lt_of_lt_of_le h4 (hmk 0 k (by omega) (by omega))⟩
    · rcases Nat.lt_trichotomy i k with h8 | h8 | h8
      · left; exact ⟨by omega, Nat.lt_of_lt_of_le h7 (hmk (i + 1) k (by omega) (by omega))⟩
      · subst h8; exact absurd h4 hnk
      · right; exact ⟨by omega, Nat.le_trans (hmk (k + 1) i (by omega) (by omega)) h6⟩
  have hgap : ∀ id l, c.m id = some l → id < (st k).σ.clock ∨ (st (k + 1)).σ.clock ≤ id := by
    intro id l hm
    obtain ⟨b, hb⟩ := h2 id l hm
    rcases hwhere id b hb with h4 | h4
    · exact .inl h4.2
    · exact .inr h4.2
  have hat : ∀ id l b, c.m id = some l → Born ops st ls id b → id < (st k).σ.clock → b ≤ k := by
    intro id l b _ hb hid
    rcases hwhere id b hb with h4 | h4
    · exact h4.1
    · have := hs.clock; omega
  have hag' : ∀ id l, id < (st k).σ.clock → c.m id = some l → τ id = (st k).σ.ob id := by
    intro id l hid hm
    obtain ⟨b, hb⟩ := h2 id l hm
    exact (h3 id l b hm hb k (hat id l b hm hb hid) (by omega) (fun e _ h5 h6 => ord1 hcalm hJ hk hed h5 h6.1 hloud (hx e)) (fun e _ h5 h6 => ord2 hcalm hJ hnk h5 h6.1 hloud (hx e))).1
  have hE := glue_ext hs.clock hgap e
  have hE' : Ext c' (c.glue c' (st (k + 1)).σ.clock) := glue_ext' hI'
  have hmnew : ∀ id l, id < (st (k + 1)).σ.clock → (c.glue c' (st (k + 1)).σ.clock).m id = some l → c'.m id = some l := by
    intro id l hid hm; simp only [Ctx.glue] at hm; rw [if_pos hid] at hm; exact hm
  -- an object of the step's own store
  have hobj : ∀ j, k + 1 ≤ j → j ≤ ops.size → ∀ id o L, c'.m id = some (.at L) → (st (k + 1)).σ.ob id = some o → ObjOK ((c.glue c' (st (k + 1)).σ.clock).upto (st j).σ.clock) base o L := by
    intro j h4 h5 id o L hm ho
    have h6 : Ext c' ((c.glue c' (st (k + 1)).σ.clock).upto (st j).σ.clock) :=
      ((Ext.of_upto hI'.dom).trans (hE'.upto _)).trans (Ext.upto_le _ (hmk (k + 1) j h4 h5))
    exact (hI'.core.obj id o L ho hm).mono h6 rfl
  have hnoeff : ∀ id b j, b ≤ k + 1 → (∀ e, b ≤ e → e < j → EffOn st fs e id → Lsd (ls.setIfInBounds k true) e) → ∀ e, k + 1 ≤ e → e < j → ¬ EffOn st fs e id := by
    intro id b j hb h4 e h5 h6 h7
    rcases lsd_set.1 (h4 e (by omega) h6 h7) with h8 | ⟨h8, _⟩
    · have := ord2 hcalm hJ hnk h8 h7.1 hloud (hx e); omega
    · omega
  refine ⟨hE, _, glue_core hs.clock h1 hgap hag' hs.live' hI' e hfr, fun id l hm => ?_, fun id l b hm hb j hbj hjn H1 H2 => ?_⟩
  · by_cases hid : id < (st (k + 1)).σ.clock
    · rcases hfr.mnew id l (hmnew id l hid hm) with h4 | h4
      · obtain ⟨b, hb⟩ := h2 id l (upto_some.1 h4).2
        exact ⟨b, hb.mono hup⟩
      · exact ⟨k + 1, .inr ⟨k, rfl, hkk, hks, h4, hid⟩⟩
    · simp only [Ctx.glue] at hm; rw [if_neg hid] at hm
      obtain ⟨b, hb⟩ := h2 id l hm
      exact ⟨b, hb.mono hup⟩
  · have hcase : (b = k + 1 ∧ (st k).σ.clock ≤ id ∧ id < (st (k + 1)).σ.clock) ∨ Born ops st ls id b := by
      rcases hb with h4 | ⟨i, h4, h5, h6, h7, h8⟩
      · exact .inr (.inl h4)
      · rcases lsd_set.1 h5 with h9 | ⟨rfl, _⟩
        · exact .inr (.inr ⟨i, h4, h9, h6, h7, h8⟩)
        · exact .inl ⟨h4, h7, h8⟩
    rcases hcase with ⟨rfl, h4, h5⟩ | hb'
    · have hq := (chain hst (i := k + 1) (j := j) hbj hjn).2.2.2.2.2 id (hnoeff id (k + 1) j (Nat.le_refl _) H1) h5
      refine ⟨by simp only [if_pos h5]; exact hq.symm, fun o L hL ho => ?_⟩
      simp only [if_pos h5] at ho
      subst hL
      exact hobj j hbj hjn id o L (hmnew id _ h5 hm) ho
    · rcases hwhere id b hb' with ⟨hbk, hid⟩ | ⟨hbk, hid⟩
      · have hid' : id < (st (k + 1)).σ.clock := Nat.lt_of_lt_of_le hid hs.clock
        have hm' := hmnew id l hid' hm
        have hcm0 : ∀ (hn : id < (st k).σ.clock), c.m id = some l := fun hn => by
          rcases hfr.mnew id l hm' with h4 | h4
          · exact (upto_some.1 h4).2
          · have : (st k).σ.clock ≤ id := h4; omega
        have hcm : c.m id = some l := hcm0 hid
        by_cases hef : EffOn st fs k id
        · have hkj : k < j := H2 k hbk hkk hef
          have hq := (chain hst (i := k + 1) (j := j) hkj hjn).2.2.2.2.2 id (hnoeff id b j (by omega) H1) hid'
          refine ⟨by simp only [if_pos hid']; exact hq.symm, fun o L hL ho => ?_⟩
          simp only [if_pos hid'] at ho
          subst hL
          exact hobj j hkj hjn id o L hm' ho
        · obtain ⟨t1, t2⟩ := h3 id l b hcm hb' j hbj hjn (fun e h4 h5 h6 => by
            rcases lsd_set.1 (H1 e h4 h5 h6) with h7 | ⟨rfl, _⟩
            · exact h7
            · exact absurd h6 hef) (fun e h4 h5 h6 => H2 e h4 (hup e h5) h6)
          by_cases hq : f.eff = true
          · have hst' : Stays (st k).σ (st (k + 1)).σ id := Classical.byContradiction fun hn => hef ⟨⟨f, hf, hq⟩, hn⟩
            have hτ : (st (k + 1)).σ.ob id = τ id := by rw [hst'.1, hag' id l hid hcm]
            refine ⟨by simp only [if_pos hid']; rw [hτ]; exact t1, fun o L hL ho => ?_⟩
            simp only [if_pos hid'] at ho
            have ho' := ho
            rw [hτ] at ho'
            subst hL
            exact (t2 o L rfl ho').scoped (hst'.2 o (by rw [← hst'.1]; exact ho)) ((hI'.core.obj id o L ho hm').mono hE' rfl)
          · have hq : f.eff = false := by simpa using hq
            have hτ : (st (k + 1)).σ.ob id = τ id := by rw [hsq hq id hid, hag' id l hid hcm]
            refine ⟨by simp only [if_pos hid']; rw [hτ]; exact t1, fun o L hL ho => ?_⟩
            simp only [if_pos hid'] at ho
            rw [hτ] at ho
            subst hL
            exact (t2 o L rfl ho).mono (hE.upto _) (glue_block h1 hag' hfr ho hcm (.inr (hmd hq)))
      · have hid' : ¬ id < (st (k + 1)).σ.clock := by omega
        have hcm : c.m id = some l := by simp only [Ctx.glue] at hm; rw [if_neg hid'] at hm; exact hm
        obtain ⟨t1, t2⟩ := h3 id l b hcm hb' j hbj hjn (fun e h4 h5 h6 => by
          rcases lsd_set.1 (H1 e h4 h5 h6) with h7 | ⟨rfl, _⟩
          · exact h7
          · omega) (fun e h4 h5 h6 => H2 e h4 (hup e h5) h6)
        refine ⟨by simp only [if_neg hid']; exact t1, fun o L hL ho => ?_⟩
        simp only [if_neg hid'] at ho
        subst hL
        exact (t2 o L rfl ho).mono (hE.upto _) (glue_block h1 hag' hfr ho hcm (.inl (by have := hs.clock; omega)))

include hst hI00 hgo hcalm hJ hk hnk hed in
/-- The memory for an operation that only looks at one object, by a pointer. -/
theorem inv_ld {id : Nat} (hl : LoudAt fs k) (hld : Ld E ops st k id) : Inv ⟨(st k).σ.clock, fun i => if i = id then (st k).σ.ob id else none⟩ (c.upto (st k).σ.clock) base := by
  have hks : k < ops.size := lt_size hk
  obtain ⟨τ, h1, h2, h3⟩ := hJ.mem
  have h0k := chain hst (i := 0) (j := k) (by omega) (by omega)
  have hx : ∀ e, EffOn st fs e id → ¬ Exm E ops st k e := by
    rintro e ⟨_, he⟩ ⟨id', ⟨o1, t1, a1, p1, q1, g1, g2, g3⟩, hs⟩
    obtain ⟨o2, t2, a2, p2, q2, g4, g5, g6⟩ := hld
    rw [g1] at g4; cases g4
    rw [g2] at g5; cases g5
    rw [g3] at g6; cases g6
    exact he hs
  refine ⟨Core.cut (τ := fun i => if i = id then τ id else none) (h1.swap (fun i => ?_)) (fun i l hid hm => ?_), fun i l h => (upto_some.1 h).1, fun i o h => ?_⟩
  · by_cases h : i = id
    · subst h; exact .inl (by simp)
    · exact .inr (.inl (by simp [h]))
  · by_cases h : i = id
    · subst h
      obtain ⟨b, hb⟩ := h2 i l hm
      have hbk : b ≤ k := by
        rcases hb with ⟨rfl, _⟩ | ⟨i', rfl, _, h4, h5, _⟩
        · omega
        · rcases Nat.lt_or_ge i' k with h6 | h6
          · omega
          · have := (chain hst (i := k) (j := i') h6 (by omega)).1.clock; omega
      have := h3 i l b hm hb k hbk (by omega) (fun e _ h5 h6 => ord1 hcalm hJ hk hed h5 h6.1 hl (hx e h6)) (fun e _ h5 h6 => ord2 hcalm hJ hnk h5 h6.1 hl (hx e h6))
      simpa using this
    · simp [h]
  · by_cases h5 : i = id
    · subst h5; simp at h; exact (hgo.trans h0k.1).old hI00.old i o h
    · simp [h5] at h

theorem chain_ob {i j id : Nat} (hij : i ≤ j) (h : ∀ e, i ≤ e → e < j → (st (e + 1)).σ.ob id = (st e).σ.ob id) : (st j).σ.ob id = (st i).σ.ob id := by
  induction hij with
  | refl => rfl
  | @step m hm ih => exact (h m hm (by simp)).trans (ih (fun e h1 h2 => h e h1 (by simp; omega)))

include hst hI00 hgo hJ hk hnk in
/-- The memory behind an operation that makes an object. -/
theorem mem_new {f : Fl} (hf : fs[k]? = some f) (hef : f.eff = false) {ob : Obj} (hσ : (st (k + 1)).σ = (st k).σ.new ob) {arr : Array Value} {T0 : TypeId} (hs : arr.size = ob.es.length * ob.sz) (hsh : ob.sh = false)
    (hw : ∀ e ∈ ob.es, e.length = ob.sz ∧ ∀ x ∈ e, leaf x = true) (hfl : ob.flat = true → ∀ e ∈ ob.es, ∀ x ∈ e, pl x = true)
    (hr : ∀ i e j x, ob.es[i]? = some e → e[j]? = some x → ∃ u, arr[i * ob.sz + j]? = some u ∧ Rep (c.upto (st k).σ.clock) x u) :
    ∃ c2, c2.w = c.w.alloc (.cells arr T0) ∧ Ext c c2 ∧ c2.m (st k).σ.clock = some (.at ⟨c.w.heap.size, 0, ob.sz, ob.es.length⟩) ∧ Fr c00 σ00 (st ops.size).low c2 ∧
    ∃ τ, Core τ c2 base ∧ (∀ id l, c2.m id = some l → ∃ b, Born ops st (ls.setIfInBounds k true) id b) ∧ Track base ops st fs (ls.setIfInBounds k true) c2 τ := by
  have hks : k < ops.size := lt_size hk
  have hkl : k < ls.size := by rw [hJ.size]; exact hks
  obtain ⟨τ, h1, h2, h3⟩ := hJ.mem
  have hkk : Lsd (ls.setIfInBounds k true) k := lsd_set.2 (.inr ⟨rfl, hkl⟩)
  have hup : ∀ i, Lsd ls i → Lsd (ls.setIfInBounds k true) i := fun i h => lsd_set.2 (.inl h)
  have hmk : ∀ i j, i ≤ j → j ≤ ops.size → (st i).σ.clock ≤ (st j).σ.clock := fun i j h4 h5 => (chain hst h4 h5).1.clock
  have hck : (st (k + 1)).σ.clock = (st k).σ.clock + 1 := by rw [hσ]; rfl
  have hne : ¬ EffAt fs k := by rintro ⟨f', h4, h5⟩; rw [hf] at h4; cases h4; rw [hef] at h5; cases h5
  generalize hκ : (st k).σ.clock = κ at *
  have hwhere : ∀ id b, Born ops st ls id b → id < κ ∨ κ + 1 ≤ id := by
    intro id b hb
    rcases hb with ⟨rfl, h4⟩ | ⟨i, rfl, h4, h5, h6, h7⟩
    · left; have := hmk 0 k (by omega) (by omega); omega
    · rcases Nat.lt_trichotomy i k with h8 | h8 | h8
      · left; have := hmk (i + 1) k (by omega) (by omega); omega
      · subst h8; exact absurd h4 hnk
      · right; have := hmk (k + 1) i (by omega) (by omega); omega
  have hcm : c.m κ = none := by
    cases hm : c.m κ with
    | none => rfl
    | some l =>
      obtain ⟨b, hb⟩ := h2 κ l hm
      have := hwhere κ b hb; omega
  have hcore1 : Core (fun j => if j = κ then some ob else τ j) c base := h1.swap (fun id => by
    by_cases h : id = κ
    · subst h; exact .inr (.inr hcm)
    · exact .inl (by simp [h]))
  have hcore2 := hcore1.placeS (T := T0) (id := κ) (n := 0) (by simp) hcm hs (Nat.le_refl _) (by rw [hsh]; rfl) hw hfl (fun i e j x h4 h5 => by
    obtain ⟨u, h6, h7⟩ := hr i e j x h4 h5
    exact ⟨u, h6, h7.mono (Ext.upto_of c κ)⟩)
  have hE := Ext.placeS h1 (.cells arr T0) (id := κ) ⟨c.w.heap.size, 0, ob.sz, ob.es.length⟩ 0 hcm
  have hml : ∀ j, (c.placeS (.cells arr T0) κ ⟨c.w.heap.size, 0, ob.sz, ob.es.length⟩ 0).m j = if j = κ then some (.at ⟨c.w.heap.size, 0, ob.sz, ob.es.length⟩) else c.m j := fun _ => rfl
  -- the object alone, in what lies below it
  have hcu : (c.upto κ).m κ = none := by simp [Ctx.upto]
  have hcore3 : Core (fun j => if j = κ then some ob else none) (c.upto κ) base :=
    ⟨fun id o L h4 h5 => by
        by_cases h : id = κ
        · subst h; rw [hcu] at h5; cases h5
        · simp [h] at h4, fun id o h4 h5 => by
        by_cases h : id = κ
        · subst h; rw [hcu] at h5; cases h5
        · simp [h] at h4, fun id id' o o' L L' h4 h5 h6 h7 h8 => by
        by_cases h : id = κ
        · subst h; rw [hcu] at h6; cases h6
        · simp [h] at h4, h1.inn, fun id o L h4 h5 => by
        by_cases h : id = κ
        · subst h; rw [hcu] at h5; cases h5
        · simp [h] at h4, h1.base_le⟩
  have hcore4 := hcore3.placeS (T := T0) (id := κ) (n := 0) (by simp) hcu hs (Nat.le_refl _) (by rw [hsh]; rfl) hw hfl hr
  have hobj := hcore4.obj κ ob ⟨c.w.heap.size, 0, ob.sz, ob.es.length⟩ (by simp) (by simp [Ctx.placeS]; rfl)
  have hge : σ00.clock ≤ κ := by
    have := hmk 0 k (by omega) (by omega)
    have := hgo.clock
    omega
  refine ⟨_, rfl, hE, by rw [hml, if_pos rfl], ?_, _, hcore2, fun id l hm => ?_, fun id l b hm hb j hbj hjn H1 H2 => ?_⟩
  · refine ⟨fun b hb hn => ?_, fun id l hl => ?_, fun id L hl hn => ?_, fun a ha => ?_⟩
    · have hb' : b < c.w.heap.size := Nat.lt_of_lt_of_le hb hJ.ext.size
      exact (heap_alloc_old _ hb').trans (hJ.fr.block b hb hn)
    · rw [hml] at hl; split at hl
      · rename_i h; subst h; exact .inr hge
      · exact hJ.fr.mnew id l hl
    · rw [hml] at hl; split at hl
      · cases hl; exact .inl hJ.ext.size
      · exact hJ.fr.bnew id L hl hn
    · rcases ha with ha | ⟨_, _, h⟩
      · exact hJ.fr.snew a ha
      · omega
  · rw [hml] at hm; split at hm
    · rename_i h; subst h; exact ⟨k + 1, .inr ⟨k, rfl, hkk, hks, by omega, by omega⟩⟩
    · obtain ⟨b, hb⟩ := h2 id l hm; exact ⟨b, hb.mono hup⟩
  · have hcase : (b = k + 1 ∧ id = κ) ∨ Born ops st ls id b := by
      rcases hb with h4 | ⟨i, h4, h5, h6, h7, h8⟩
      · exact .inr (.inl h4)
      · rcases lsd_set.1 h5 with h9 | ⟨rfl, _⟩
        · exact .inr (.inr ⟨i, h4, h9, h6, h7, h8⟩)
        · exact .inl ⟨h4, by omega⟩
    rcases hcase with ⟨rfl, rfl⟩ | hb'
    · rw [hml, if_pos rfl] at hm; cases hm
      have hq : (st j).σ.ob id = (st (k + 1)).σ.ob id := by
        refine chain_ob (st := st) hbj (fun e h4 h5 => ?_)
        have hidc : id < (st e).σ.clock := by have := hmk (k + 1) e h4 (by omega); omega
        obtain ⟨f', hf', _, _, _, _, hq5, _⟩ := Tr.facts hst (Array.getElem?_eq_getElem (by omega : e < ops.size))
        cases hq : f'.eff with
        | false => exact hq5 hq id hidc
        | true =>
          refine Classical.byContradiction fun hn => ?_
          rcases lsd_set.1 (H1 e h4 h5 ⟨⟨f', hf', hq⟩, fun hs => hn hs.1⟩) with h6 | ⟨h6, _⟩
          · exact hn (hJ.foot e h6 id hidc hcm)
          · omega
      have hob : (st (k + 1)).σ.ob id = some ob := by rw [hσ]; simp [Store.new, hκ]
      refine ⟨by simp only [if_true]; rw [hq, hob], fun o L hL ho => ?_⟩
      simp only [if_true] at ho; cases ho; cases hL
      have hlt : id < (st j).σ.clock := by have := hmk (k + 1) j hbj hjn; omega
      have e5 : Ext ((c.upto id).placeS (.cells arr T0) id ⟨c.w.heap.size, 0, ob.sz, ob.es.length⟩ 0) ((c.placeS (.cells arr T0) id ⟨c.w.heap.size, 0, ob.sz, ob.es.length⟩ 0).upto (st j).σ.clock) := by
        refine ⟨fun _ h => h, fun _ _ => rfl, fun q l hl => ?_, Nat.le_refl _, rfl, rfl, rfl, fun _ _ h => h⟩
        have hl' : (if q = id then some (.at ⟨c.w.heap.size, 0, ob.sz, ob.es.length⟩) else (c.upto id).m q) = some l := hl
        rw [upto_some, hml]
        split at hl'
        · rename_i h; subst h; rw [if_pos rfl]; exact ⟨hlt, hl'⟩
        · rename_i h; rw [if_neg h]
          obtain ⟨h4, h5⟩ := upto_some.1 hl'
          exact ⟨by omega, h5⟩
      exact hobj.mono e5 rfl
    · have hidne : id ≠ κ := by have := hwhere id b hb'; omega
      have hcm' : c.m id = some l := by rw [hml, if_neg hidne] at hm; exact hm
      obtain ⟨t1, t2⟩ := h3 id l b hcm' hb' j hbj hjn (fun e h4 h5 h6 => by
        rcases lsd_set.1 (H1 e h4 h5 h6) with h7 | ⟨rfl, _⟩
        · exact h7
        · exact absurd h6.1 hne) (fun e h4 h5 h6 => H2 e h4 (hup e h5) h6)
      refine ⟨by simp only [if_neg hidne]; exact t1, fun o L hL ho => ?_⟩
      simp only [if_neg hidne] at ho
      subst hL
      exact (t2 o L rfl ho).mono (hE.upto _) (heap_alloc_old _ (h1.b_lt ho hcm'))
end

end Go.Bx

/- Regions, last part: any order; the region. (Own text.) -/
namespace Go.Bx
set_option linter.unusedVariables false
set_option linter.unusedSimpArgs false
set_option linter.unusedSectionVars false
set_option linter.unusedVariables false
set_option linter.unusedSectionVars false
set_option linter.unusedSimpArgs false

theorem count_set : ∀ (l : List Bool) (i : Nat), l[i]? = some false → (l.set i true).count false + 1 = l.count false
  | [], i, h => by simp at h
  | b :: l, 0, h => by simp at h; subst h; simp
  | b :: l, i + 1, h => by
    have := count_set l i (by simpa using h)
    simp only [List.set_cons_succ, List.count_cons]
    omega

section
variable {E : Env} (hT : TabOK E.P E.T) {base : Nat} {ci : CI} (hci : CIOK E base ci) {c00 : Ctx} {σ00 : Store} (hI00 : Inv σ00 c00 base) (hG00 : GlOK E c00)
variable {ops : Array Oper} {st : Nat → FS} {fs : List Fl} {A : Nat → Bool} (hst : Tr E base ops st fs A)
variable (hreg : regOK ops = true) (hcalm : Calm E ops st fs) (hgo : StGo σ00 (st 0).σ) (hc0 : (st 0).c0 = σ00.clock)

include hT hI00 hG00 hst hreg hcalm hgo hc0 in
theorem any_step {ls : Array Bool} {a : Act} {c : Ctx} (hJ : J base c00 σ00 ops st fs A ls a c) {k : Nat} {o : Oper} (hk : ops[k]? = some o) (hAk : A k = true) (hnk : ¬ Lsd ls k)
    (hed : ∀ e ∈ o.after, Region.binds .any e = true → Lsd ls e.on) (K : Act → World → Prop) (Q : Exit → Act → World → Prop)
    (hK : ∀ a' c', J base c00 σ00 ops st fs A (ls.setIfInBounds k true) a' c' → K a' c'.w) (hP : PanQ E c00 σ00 (st ops.size).low Q) : wpOp E.P ops Q k K a c.w := by
  have hks : k < ops.size := lt_size hk
  obtain ⟨f, hf, ⟨_, ci, hci, hstep⟩ | ⟨hA0, _⟩⟩ := hst k o hk
  rotate_left
  · rw [hAk] at hA0; cases hA0
  have h0k := chain hst (i := 0) (j := k) (by omega) (by omega)
  have hkn := chain hst (i := k + 1) (j := ops.size) (by omega) (by omega)
  have hsz : a.tmps.size = (st k).tm.length := by rw [hJ.asz, h0k.2.2.1]
  have hlook : ∀ t, t ∈ o.looksAt ops → Rep (c.upto (st k).σ.clock) ((st k).tm.getD t .junk) (a.tmps.getD t undef) := fun t ht =>
    hJ.tm t k (by omega) (fun i h1 h2 => ord4 hreg hJ hk hed h1 h2 (.inl ht)) (fun i h1 h2 => ord5 hreg hJ hk hnk h1 h2 (.inl ht))
  have hguard : ∀ j want d, o.guard = some (j, want) → (ops[j]?).bind (·.dst) = some d → Rep (c.upto (st k).σ.clock) ((st k).tm.getD d .junk) (a.tmps.getD d undef) := fun j want d h1 h2 =>
    hlook d (by simp [Oper.looksAt, h1, h2])
  have heU : Ext c00 (c.upto (st k).σ.clock) :=
    (Ext.of_upto (κ := (st k).σ.clock) (fun id l h => Nat.lt_of_lt_of_le (hI00.dom id l h) (Nat.le_trans hgo.clock h0k.1.clock))).trans (hJ.ext.upto _)
  unfold wpOp
  simp only [hk]
  unfold stepG at hstep
  split at hstep
  · rename_i hw
    rw [wanted_ok (c := c.upto (st k).σ.clock) hsz hguard hw]
    simp only [if_true]
    left
    unfold stepO at hstep
    split at hstep
    · rename_i r hr
      injection hstep with hstep
      injection hstep with hs1 hf1
      have hσ' : (st (k + 1)).σ = r.σ := by rw [← hs1]
      have htm' : (st (k + 1)).tm = putTm (st k).tm o.dst r.y := by rw [← hs1]
      have hlow' : (st (k + 1)).low = omin (st k).low (cut (st k).c0 r.md) := by rw [← hs1]
      classical
      let ρ : Operand → AV := fun x => if x ∈ o.op.operands then evOp E.gl (st k).tm x else .junk
      have hr' : evO E.T E.br ci ρ (st k).σ o.op = some r := by
        rw [← hr]; exact evO_congr (fun x hx => by simp [ρ, hx])
      have hρ : ∀ x, Rep (c.upto (st k).σ.clock) (ρ x) (a.eval x) := by
        intro x
        by_cases hx : x ∈ o.op.operands
        · have h1 : ρ x = evOp E.gl (st k).tm x := by simp [ρ, hx]
          rw [h1]
          refine evOp_reps (hG00.mono heU) (fun t ht => hlook t ?_)
          subst ht
          exact List.mem_append_left _ (List.mem_filterMap.2 ⟨.tmp t, by simpa using hx, rfl⟩)
        · have h1 : ρ x = .junk := by simp [ρ, hx]
          rw [h1]; exact .junk
      by_cases hld : ∃ id, Ld E ops st k id
      · obtain ⟨id, hld⟩ := hld
        have hld' := hld
        obtain ⟨o1, t, ad, p, off, g1, g2, g3⟩ := hld
        rw [hk] at g1; cases g1
        have hev : evLoad E.T (st k).σ t (evOp E.gl (st k).tm ad) = some r ∧ r.rd = true := by
          rw [g2] at hr
          have hA : evA E.T (evOp E.gl (st k).tm) (st k).σ.clock (.load t ad) = none := by
            simp only [evA, g3]; cases E.T t <;> rfl
          unfold evO at hr
          rw [hA] at hr
          have hr2 : evLoad E.T (st k).σ t (evOp E.gl (st k).tm ad) = some r := hr
          refine ⟨hr2, ?_⟩
          rw [g3] at hr2
          unfold evLoad at hr2
          split at hr2
          · split at hr2
            · split at hr2
              · split at hr2
                · rw [Option.map_eq_some_iff] at hr2; obtain ⟨y, _, rfl⟩ := hr2; rfl
                · cases hr2
              · cases hr2
            · cases hr2
          · cases hr2
        have hl : LoudAt fs k := ⟨f, hf, .inr (by rw [← hf1]; exact hev.2)⟩
        have hI := inv_ld hI00 hst hcalm hgo hJ hk hnk hed hl hld'
        have hev2 : evLoad E.T ⟨(st k).σ.clock, fun i => if i = id then (st k).σ.ob id else none⟩ t (evOp E.gl (st k).tm ad) = some ⟨r.y, ⟨(st k).σ.clock, fun i => if i = id then (st k).σ.ob id else none⟩, none, true⟩ ∧ r.md = none ∧ r.σ = (st k).σ := by
          have h1 := hev.1
          rw [g3] at h1 ⊢
          unfold evLoad at h1 ⊢
          split at h1
          · rename_i R id' i' off' hR heq
            cases heq
            split at h1
            · rename_i ob hob
              split at h1
              · rename_i el hel
                split at h1
                · rename_i hle
                  rw [Option.map_eq_some_iff] at h1; obtain ⟨y, hy, rfl⟩ := h1
                  simp [hR, hob, hel, hle, hy]
                · cases h1
              · cases h1
            · cases h1
          · cases h1
        obtain ⟨addr, u, h1, h2, h3, _⟩ := load_ptr (P := E.P) hT hI (u := a.eval ad) (by rw [← show ρ ad = evOp E.gl (st k).tm ad by simp [ρ, g2, Op.operands]]; exact hρ ad) hev2.1
        have hrun : (execOp a.eval o).run E.P c.w = .ok (.value u) c.w := by
          have h2' : Sem.run E.P (loadVar t addr) c.w = .ok u c.w := h2
          simp [execOp, g2, h1, Instr.loadAt, Instr.sureAddr, h2', Result.andThen]
        have hef : f.eff = false := by rw [← hf1]; simp [hev2.2.1]
        have hsame : (st (k + 1)).σ = (st k).σ := by rw [hσ', hev2.2.2]
        unfold Oper.wp
        rw [hrun]
        show K (a.put o.dst u) c.w
        exact hK _ c (finish hst hreg hJ hk hnk hed hAk htm' (Ext.refl c) hJ.fr (by rw [hsame]; exact h3) (fun id _ _ => by rw [hsame]) (mem_same hJ hk hsame (by
          rintro ⟨f', h3, h4⟩; rw [hf] at h3; cases h3; rw [hef] at h4; cases h4)))
      have hxm : ∀ e, ¬ Exm E ops st k e := fun e ⟨id, h1, _⟩ => hld ⟨id, h1⟩
      by_cases hloud : f.eff = true ∨ f.rd = true
      · have hl : LoudAt fs k := ⟨f, hf, hloud⟩
        have hIk := inv_at hI00 hst hcalm hgo hJ hk hnk hed hl hxm
        have hgok := evO_go hci hr
        have hefm : f.eff = false → r.md = none := fun h => by
          rw [← hf1] at h; cases hm : r.md <;> simp_all
        have hdom : ∀ id l, c00.m id = some l → id < σ00.clock := hI00.dom
        have hFr' : ∀ c', Fr (c.upto (st k).σ.clock) (st k).σ r.md c' → Fr c00 σ00 (st ops.size).low c' := fun c' hfr => by
          have h1 := Fr.trans (hJ.fr.upto (st k).σ.clock) hfr (Nat.le_trans hgo.clock h0k.1.clock) heU hIk.core (hgo.trans h0k.1).live' hdom
          refine Fr.low h1 hdom (fun id l hid hl2 hle => ?_)
          have hm : ∀ m, r.md = some m → m < σ00.clock → ∃ x, (st ops.size).low = some x ∧ x ≤ m := by
            intro m h2 h3
            have h4 : cut (st k).c0 r.md = some m := by rw [h2, h0k.2.1, hc0]; simp [cut, h3]
            obtain ⟨x, h5, h6⟩ := omin_le (a := (st k).low) (.inr h4)
            rw [← hlow'] at h5
            obtain ⟨y, h7, h8⟩ := hkn.2.2.2.1 x h5
            exact ⟨y, h7, by omega⟩
          cases hn : (st ops.size).low with
          | none =>
            rw [hn] at hl2; simp only [omin] at hl2
            obtain ⟨x, h2, h3⟩ := hm l hl2 (by omega)
            rw [hn] at h2; cases h2
          | some z =>
            refine ⟨z, rfl, ?_⟩
            rw [hn] at hl2
            cases hmd : r.md with
            | none => rw [hmd] at hl2; simp only [omin] at hl2; cases hl2; exact hle
            | some m =>
              rw [hmd] at hl2; simp only [omin] at hl2; cases hl2
              split at hle
              · exact hle
              · obtain ⟨x, h2, h3⟩ := hm m hmd (by omega)
                rw [hn] at h2; cases h2; omega
        refine evO_ok hT hci hIk (hG00.mono heU) hρ hr' K Q (fun u c' e hi hu hfr => ?_) (fun V c' hV e hfr => hP V a c' hV hJ.dfr (heU.trans e) (hFr' c' hfr))
        rw [← hσ'] at hi
        obtain ⟨hE, hmem⟩ := mem_loud hI00 hst hcalm hgo hJ hk hnk hed hf hloud hxm hefm (by rw [hσ']; exact hgok) (fun h => by rw [hσ']; exact evO_quiet hci hr (hefm h)) hi e hfr
        have hft : ∀ id, id < (st k).σ.clock → c.m id = none → (st (k + 1)).σ.ob id = (st k).σ.ob id := fun id h1 h2 => by
          rw [hσ']; exact evO_foot hci hIk (hG00.mono heU) hρ hr' id h1 (by simp [Ctx.upto, h2])
        refine hK _ (c.glue c' (st (k + 1)).σ.clock) (finish hst hreg hJ hk hnk hed hAk htm' hE (glue_fr hJ.fr (hFr' c' hfr)) ?_ hft hmem)
        exact hu.mono ((Ext.of_upto hi.dom).trans ((glue_ext' hi).upto _))
      · have hrd : r.rd = false := by
          rw [← hf1] at hloud
          cases hq : r.rd with
          | false => rfl
          | true => exact absurd (.inr hq) hloud
        have hnoeff : ¬ EffAt fs k := by
          rintro ⟨f', h3, h4⟩
          rw [hf] at h3; cases h3
          exact hloud (.inl h4)
        have hef : f.eff = false := by
          cases hq : f.eff with
          | false => rfl
          | true => exact absurd (.inl hq) hloud
        obtain ⟨hmd, ⟨hA, hσr⟩ | ⟨ob, hA, hσr⟩⟩ := evO_pure hr' hrd
        · obtain ⟨u, h1, h2⟩ : ∃ u, (execOp a.eval o).run E.P c.w = .ok (.value u) c.w ∧ Rep (c.upto (st k).σ.clock) r.y u := simA (c := c.upto (st k).σ.clock) hT hρ o hA
          unfold Oper.wp
          rw [h1]
          show K (a.put o.dst u) c.w
          have hsame : (st (k + 1)).σ = (st k).σ := by rw [hσ', hσr]
          exact hK _ c (finish hst hreg hJ hk hnk hed hAk htm' (Ext.refl c) hJ.fr (by rw [hsame]; exact h2) (fun id _ _ => by rw [hsame]) (mem_same hJ hk hsame hnoeff))
        · obtain ⟨u, arr, T0, h1, h2, h3, h4, h5, h6, h7⟩ := simA (c := c.upto (st k).σ.clock) hT hρ o hA
          have hnew : (st (k + 1)).σ = (st k).σ.new ob := by rw [hσ', hσr]
          obtain ⟨c2, g1, g2, g3, g4, g5⟩ := mem_new hI00 hst hgo hJ hk hnk hf hef hnew h2 h3 h4 h5 h6 (T0 := T0)
          have h1' : (execOp a.eval o).run E.P c.w = .ok (.value u) (c.w.alloc (.cells arr T0)) := h1
          unfold Oper.wp
          rw [h1']
          show K (a.put o.dst u) (c.w.alloc (.cells arr T0))
          rw [← g1]
          have hcl : (st k).σ.clock < (st (k + 1)).σ.clock := by rw [hnew]; simp [Store.new]
          refine hK _ c2 (finish hst hreg hJ hk hnk hed hAk htm' g2 g4 (h7 _ (upto_some.2 ⟨hcl, g3⟩) (by show tyOf c2.w _ = _; rw [g1]; exact tyOf_cells (heap_alloc_new _ _))) (fun id h8 _ => by rw [hnew]; exact new_old h8) g5)
    · cases hstep
  · rename_i hw
    injection hstep with hstep
    injection hstep with hs1 hf1
    rw [wanted_ok (c := c.upto (st k).σ.clock) hsz hguard hw]
    simp only [Bool.false_eq_true, if_false]
    have hsame : (st (k + 1)).σ = (st k).σ := by rw [← hs1]
    refine hK _ c (finish hst hreg hJ hk hnk hed hAk (y := .v undef) (by rw [← hs1]) (Ext.refl c) hJ.fr (.v _) (fun id _ _ => by rw [hsame]) (mem_same hJ hk hsame ?_))
    rintro ⟨f', h3, h4⟩
    rw [hf] at h3; cases h3
    rw [← hf1] at h4; cases h4
  · cases hstep

include hT hI00 hG00 hst hreg hcalm hgo hc0 in
theorem any_ok (hf0 : ∀ id, id < σ00.clock → c00.m id = none → (st 0).σ.ob id = σ00.ob id) {Q : Exit → Act → World → Prop} (hQ : (∀ i, i < ops.size → A i = true) → ∀ a' c', SR base c00 σ00 (st ops.size) c' a' → Q .normal a' c'.w) (hP : PanQ E c00 σ00 (st ops.size).low Q)
    (hN : ∀ {ls : Array Bool} {a : Act} {c : Ctx} {k : Nat} {o : Oper} (K : Act → World → Prop), J base c00 σ00 ops st fs A ls a c → ops[k]? = some o → A k = false → ¬ Lsd ls k → (∀ e ∈ o.after, Region.binds .any e = true → Lsd ls e.on) → wpOp E.P ops Q k K a c.w) :
    ∀ (fuel : Nat) {ls : Array Bool} {a : Act} {c : Ctx}, J base c00 σ00 ops st fs A ls a c → ls.toList.count false = fuel → wpAny E.P .any ops Q fuel ls a c.w := by
  have hend : ∀ {ls : Array Bool} {a : Act} {c : Ctx}, J base c00 σ00 ops st fs A ls a c → Region.ready .any ops ls = [] → Q .normal a c.w := by
    intro ls a c hJ hr
    have hall : ∀ i, i < ops.size → Lsd ls i := by
      intro i
      induction i using Nat.strongRecOn with
      | _ i ih =>
        intro hi
        refine Classical.byContradiction fun hn => ?_
        have ho : ops[i]? = some ops[i] := Array.getElem?_eq_getElem hi
        have hlt : i < ls.size := by rw [hJ.size]; exact hi
        have : i ∈ Region.ready .any ops ls := mem_ready.2 ⟨by
          unfold Lsd at hn
          rw [Array.getD_eq_getD_getElem?, Array.getElem?_eq_getElem hlt] at hn ⊢
          simpa using hn, _, ho, fun e he hb => by
            have h1 := regOK_back hreg ho he hb
            exact ih e.on h1 (by omega)⟩
        rw [hr] at this; cases this
    have hch := chain hst (i := 0) (j := ops.size) (by omega) (by omega)
    obtain ⟨τ, h1, h2, h3⟩ := hJ.mem
    have hdomn : ∀ id l, c.m id = some l → id < (st ops.size).σ.clock := by
      intro id l hl
      obtain ⟨b, hb⟩ := h2 id l hl
      rcases hb with ⟨_, h4⟩ | ⟨i, _, _, h5, _, h6⟩
      · exact Nat.lt_of_lt_of_le h4 hch.1.clock
      · exact Nat.lt_of_lt_of_le h6 (chain hst (i := i + 1) (j := ops.size) (by omega) (by omega)).1.clock
    have hle : ∀ e, Lsd ls e → e < ops.size := by
      intro e he
      unfold Lsd at he
      rw [Array.getD_eq_getD_getElem?] at he
      rw [← hJ.size]
      rcases Nat.lt_or_ge e ls.size with h | h
      · exact h
      · rw [Array.getElem?_eq_none h] at he; simp at he
    have hag : ∀ id l, c.m id = some l → τ id = (st ops.size).σ.ob id := by
      intro id l hl
      obtain ⟨b, hb⟩ := h2 id l hl
      have hbn : b ≤ ops.size := by
        rcases hb with ⟨rfl, _⟩ | ⟨i, rfl, _, h5, _⟩ <;> omega
      exact (h3 id l b hl hb ops.size hbn (Nat.le_refl _) (fun e _ h4 _ => hall e h4) (fun e _ h4 _ => hle e h4)).1
    refine hQ (fun i hi => hJ.okA i (hall i hi)) a c ⟨⟨?_, hdomn, (hgo.trans hch.1).old hI00.old⟩, hJ.ext, hJ.fr, hgo.trans hch.1, hch.2.1.trans hc0, fun t => ?_, hJ.asz.trans hch.2.2.1.symm, hJ.dfr, fun id h4 h5 => ?_⟩
    · refine h1.swap (fun id => ?_)
      cases hm : c.m id with
      | none => exact .inr (.inr rfl)
      | some l => exact .inl (hag id l hm).symm
    · exact (hJ.tm t ops.size (Nat.le_refl _) (fun i h4 _ => hall i h4) (fun i h4 _ => hle i h4)).mono (Ext.upto_of _ _)
    · refine (chain_ob (st := st) (Nat.zero_le ops.size) (fun e _ h6 => hJ.foot e (hall e h6) id ?_ (hJ.fr.none_of h4 h5))).trans (hf0 id h4 h5)
      exact Nat.lt_of_lt_of_le h4 (Nat.le_trans hgo.clock (chain hst (i := 0) (j := e) (by omega) (by omega)).1.clock)
  intro fuel
  induction fuel with
  | zero =>
    intro ls a c hJ hcnt
    have hr : Region.ready .any ops ls = [] := by
      refine List.eq_nil_iff_forall_not_mem.2 fun i hi => ?_
      obtain ⟨h1, o, ho, _⟩ := mem_ready.1 hi
      have hlt : i < ls.size := by rw [hJ.size]; exact (Array.getElem?_eq_some_iff.1 ho).1
      rw [Array.getD_eq_getD_getElem?, Array.getElem?_eq_getElem hlt] at h1
      simp at h1
      have : false ∈ ls.toList := by
        rw [← h1]; simp
      exact List.count_eq_zero.1 hcnt this
    exact ⟨hr, hend hJ hr⟩
  | succ fuel ih =>
    intro ls a c hJ hcnt
    refine ⟨hend hJ, fun k hk => ?_⟩
    obtain ⟨h1, o, ho, hed⟩ := mem_ready.1 hk
    have hlt : k < ls.size := by rw [hJ.size]; exact (Array.getElem?_eq_some_iff.1 ho).1
    have hfl : ls[k] = false := by
      rw [Array.getD_eq_getD_getElem?, Array.getElem?_eq_getElem hlt] at h1
      simpa using h1
    have hnk : ¬ Lsd ls k := by
      unfold Lsd
      rw [Array.getD_eq_getD_getElem?, Array.getElem?_eq_getElem hlt]
      simp [hfl]
    cases hAk : A k with
    | false => exact hN _ hJ ho hAk hnk hed
    | true =>
    refine any_step hT hI00 hG00 hst hreg hcalm hgo hc0 hJ ho hAk hnk hed _ Q (fun a' c' hJ' => ih hJ' ?_) hP
    have := count_set ls.toList k (by simp [hlt, hfl])
    rw [Array.toList_setIfInBounds]
    omega
end

section
variable {E : Env} (hT : TabOK E.P E.T) {base : Nat} {ci : CI} (hci : CIOK E base ci) {c00 : Ctx} {σ00 : Store} (hI00 : Inv σ00 c00 base) (hG00 : GlOK E c00) (hmix : E.P.follows .mixedOrders = true)

theorem SR.drew {s : FS} {c : Ctx} {a : Act} (h : SR base c00 σ00 s c a) : SR base c00 σ00 s { c with w := c.w.drew } a :=
  ⟨h.inv.drew, h.ext.trans (Ext.drew c), ⟨h.fr.block, h.fr.mnew, h.fr.bnew, h.fr.snew⟩, h.go, h.c0, fun t => (h.tm t).mono (Ext.drew c), h.sz, h.dfr, h.foot⟩

include hT hI00 hG00 hmix in
theorem region_any {ops : Array Oper} {id : Nat} {s s1 : FS} {c : Ctx} {a : Act} (hS : SR base c00 σ00 s c a) {fs : List Fl} {st : Nat → FS} (hreg : regOK ops = true) (h0 : st 0 = s) (hn' : st ops.size = s1)
    {A : Nat → Bool} (hst' : Tr E base ops st fs A) (hcalm : Calm E ops st fs) {Q : Exit → Act → World → Prop}
    (hQ : (∀ i, i < ops.size → A i = true) → ∀ a' c', SR base c00 σ00 s1 c' a' → Q .normal a' c'.w) (hP : PanQ E c00 σ00 s1.low Q)
    (hN : ∀ {ls : Array Bool} {a : Act} {c : Ctx} {k : Nat} {o : Oper} (K : Act → World → Prop), J base c00 σ00 ops st fs A ls a c → ops[k]? = some o → A k = false → ¬ Lsd ls k → (∀ e ∈ o.after, Region.binds .any e = true → Lsd ls e.on) → wpOp E.P ops Q k K a c.w) :
    (Code.region id ops true).wp E.P Q a c.w := by
  refine wp_region_any hmix ?_
  have hSd := hS.drew
  have hJ : J base c00 σ00 ops st fs A (Array.replicate ops.size false) a { c with w := c.w.drew } := by
    have hno : ∀ i, ¬ Lsd (Array.replicate ops.size false) i := by
      intro i hi
      unfold Lsd at hi
      rw [Array.getD_eq_getD_getElem?] at hi
      by_cases hlt : i < ops.size
      · rw [Array.getElem?_eq_getElem (by simpa using hlt)] at hi; simp at hi
      · rw [Array.getElem?_eq_none (by simp; omega)] at hi; simp at hi
    refine ⟨fun i hi => absurd hi (hno i), by simp, fun j o e hj => absurd hj (hno j), hSd.ext, ?_, hSd.dfr, by rw [h0]; exact hSd.sz, fun t j hj h1 h2 => ?_, ?_, fun e he => absurd he (hno e)⟩
    · refine Fr.low hSd.fr hI00.dom (fun id l _ hl hle => ?_)
      rw [← h0] at hl
      obtain ⟨k, hk, hk2⟩ := (chain hst' (i := 0) (j := ops.size) (by omega) (by omega)).2.2.2.1 l hl
      exact ⟨k, hk, by omega⟩
    · have hch := chain hst' (i := 0) (j := j) (by omega) hj
      rw [hch.2.2.2.2.1 t (fun e _ h3 h4 => hno e (h1 e h3 h4)), h0]
      have h5 : ∀ id l, ({ c with w := c.w.drew } : Ctx).m id = some l → id < (st j).σ.clock := fun id l hl => Nat.lt_of_lt_of_le (hSd.inv.dom id l hl) (by rw [← h0]; exact hch.1.clock)
      exact (hSd.tm t).mono (Ext.of_upto h5)
    · refine ⟨s.σ.ob, hSd.inv.core, fun id l hl => ⟨0, .inl ⟨rfl, by rw [h0]; exact hSd.inv.dom id l hl⟩⟩, fun id l b hl hb j hbj hj H1 H2 => ?_⟩
      have hid : id < (st 0).σ.clock := by rw [h0]; exact hSd.inv.dom id l hl
      have hb0 : b = 0 := by
        rcases hb with h | ⟨i, _, h, _⟩
        · exact h.1
        · exact absurd h (hno i)
      subst hb0
      have hch := chain hst' (i := 0) (j := j) (by omega) hj
      have hq := hch.2.2.2.2.2 id (fun e h3 h4 h5 => hno e (H1 e h3 h4 h5)) hid
      refine ⟨by rw [hq, h0], fun o L hL ho => ?_⟩
      subst hL
      have h5 : ∀ id l, ({ c with w := c.w.drew } : Ctx).m id = some l → id < (st j).σ.clock := fun id l hl => Nat.lt_of_lt_of_le (hSd.inv.dom id l hl) (by rw [← h0]; exact hch.1.clock)
      exact (hSd.inv.core.obj id o L ho hl).mono (Ext.of_upto h5) rfl
  refine any_ok hT hI00 hG00 hst' hreg hcalm (by rw [h0]; exact hS.go) (by rw [h0]; exact hS.c0) (by rw [h0]; exact hS.foot) (fun hall a' c' h => hQ hall a' c' (by rw [← hn']; exact h)) (by rw [hn']; exact hP) hN ops.size hJ ?_
  simp

include hT hci hI00 hG00 hmix in
/-- A REGION. -/
theorem region_ok {ops : Array Oper} {d : Bool} {id : Nat} {s s1 : FS} {c : Ctx} {a : Act} (hS : SR base c00 σ00 s c a) (h : evRegion E ci ops d s = some s1) {Q : Exit → Act → World → Prop}
    (hQ : ∀ a' c', SR base c00 σ00 s1 c' a' → Q .normal a' c'.w) (hP : PanQ E c00 σ00 s1.low Q) : (Code.region id ops d).wp E.P Q a c.w := by
  unfold evRegion at h
  split at h
  · rename_i s' fs hops
    cases d with
    | false =>
      simp only [Bool.false_eq_true, if_false] at h; cases h
      exact wp_region_list (list_ok hT hci hI00 hG00 ops.toList hS hops (fun c' a' h => hQ a' c' h) hP)
    | true =>
      simp only [if_true] at h
      split at h
      · rename_i hc; cases h
        rw [Bool.and_eq_true] at hc
        obtain ⟨hreg, hcalm⟩ := hc
        obtain ⟨st, h0, hn, hst⟩ := evOps_trace ops.toList hops
        have hst' : ∀ i o, ops[i]? = some o → ∃ f, fs[i]? = some f ∧ stepG E ci ops o (st i) = some (st (i + 1), f) := fun i o ho => hst i o (by simpa using ho)
        have hn' : st ops.size = s1 := by simpa using hn
        exact region_any hT hI00 hG00 hmix hS hreg h0 hn' (Tr.all hci hst') (Calm.of hcalm) (fun _ => hQ) hP (fun _ _ _ h => by cases h)
      · cases h
  · cases h

/-- As 'calm'; but the pairs (a look at one object, a change elsewhere) that are named need no order. -/
def calmX (xs : List (Nat × Nat)) (b : Array Nat) (fs : List Fl) : Bool :=
  (List.range fs.length).all fun j => match fs[j]? with
    | some fj => (List.range j).all fun i => match fs[i]? with
      | some fi => (b.getD j 0).testBit i || !((fi.eff && (fj.eff || fj.rd)) || (fj.eff && fi.rd)) || (!fi.eff && xs.contains (i, j)) || (!fj.eff && xs.contains (j, i))
      | none => true
    | none => true
/-- Operation i looks at one object by a pointer, and j leaves that. -/
def XOK (E : Env) (ci : CI) (ops : Array Oper) (s : FS) (x : Nat × Nat) : Prop := ∃ o t a id p off oo, ops.toList[x.1]? = some o ∧ o.op = .load t a ∧ (evOps E ci ops (ops.toList.take x.1) s).map (fun q => evOp E.gl q.1.tm a) = some (.ptr id p off) ∧
  (evOps E ci ops (ops.toList.take x.2) s).map (fun q => q.1.σ.ob id) = some oo ∧ (evOps E ci ops (ops.toList.take (x.2 + 1)) s).map (fun q => q.1.σ.ob id) = some oo ∧ nslfO oo

theorem evOps_take {ops : Array Oper} {st : Nat → FS} {fs : List Fl} : ∀ (l : List Oper) (n : Nat), (∀ i o, l[i]? = some o → ∃ f, fs[n + i]? = some f ∧ stepG E ci ops o (st (n + i)) = some (st (n + i + 1), f)) →
    ∃ fs', evOps E ci ops l (st n) = some (st (n + l.length), fs')
  | [], n, _ => ⟨[], rfl⟩
  | o :: l, n, h => by
    obtain ⟨f, _, h2⟩ := h 0 o rfl
    obtain ⟨fs', h3⟩ := evOps_take (st := st) (fs := fs) l (n + 1) (fun i o' hi => by
      have := h (i + 1) o' (by simpa using hi)
      rw [show n + (i + 1) = n + 1 + i by omega] at this
      exact this)
    refine ⟨f :: fs', ?_⟩
    have h2' : stepG E ci ops o (st n) = some (st (n + 1), f) := h2
    simp only [evOps, h2', h3, List.length_cons]
    rw [show n + 1 + l.length = n + (l.length + 1) by omega]

theorem Calm.ofX' {ops : Array Oper} {st : Nat → FS} {fs : List Fl} {xs : List (Nat × Nat)} (h : calmX xs (Region.before ops) fs = true) (hex : ∀ i j, j < fs.length → xs.contains (i, j) = true → Exm E ops st i j) : Calm E ops st fs := by
  intro i j fi fj hij hi hj
  have hlt : j < fs.length := (List.getElem?_eq_some_iff.1 hj).1
  have h1 := List.all_eq_true.1 h j (List.mem_range.2 hlt)
  simp only [hj] at h1
  have h2 := List.all_eq_true.1 h1 i (List.mem_range.2 hij)
  simp only [hi, Bool.or_eq_true, Bool.not_eq_true', Bool.and_eq_true] at h2
  rcases h2 with ((h2 | h2) | h2) | h2
  · exact .inl h2
  · refine .inr (.inl ?_)
    cases h3 : fi.eff <;> cases h4 : fj.eff <;> cases h5 : fi.rd <;> cases h6 : fj.rd <;> simp_all
  · exact .inr (.inr (.inl ⟨h2.1, hex i j hlt h2.2⟩))
  · exact .inr (.inr (.inr ⟨h2.1, hex j i (by omega) h2.2⟩))

theorem Calm.ofX {ops : Array Oper} {st : Nat → FS} {fs : List Fl} {s : FS} {xs : List (Nat × Nat)} (h0 : st 0 = s) (hst : ∀ i o, ops[i]? = some o → ∃ f, fs[i]? = some f ∧ stepG E ci ops o (st i) = some (st (i + 1), f))
    (hlen : fs.length ≤ ops.size) (h : calmX xs (Region.before ops) fs = true) (hx : ∀ x ∈ xs, XOK E ci ops s x) : Calm E ops st fs := by
  have hex : ∀ i j, j < fs.length → xs.contains (i, j) = true → Exm E ops st i j := by
    intro i j hjl hc
    obtain ⟨o, t, a, id, p, off, oo, h1, h2, h3, h4, h5, h6⟩ := hx (i, j) (by simpa using hc)
    have hpre : ∀ k, k ≤ ops.size → ∃ fs', evOps E ci ops (ops.toList.take k) s = some (st k, fs') := by
      intro k hk
      obtain ⟨fs', hf⟩ := evOps_take (E := E) (ci := ci) (ops := ops) (st := st) (fs := fs) (ops.toList.take k) 0 (fun m o' hm => by
        rw [List.getElem?_take] at hm
        split at hm
        · have := hst m o' (by simpa using hm)
          simpa using this
        · cases hm)
      refine ⟨fs', ?_⟩
      rw [h0] at hf
      rw [hf]
      simp [Nat.min_eq_left hk]
    have hi : i < ops.size := by
      have := (List.getElem?_eq_some_iff.1 h1).1; simpa using this
    obtain ⟨f1, e1⟩ := hpre i (by omega)
    obtain ⟨f2, e2⟩ := hpre j (by omega)
    obtain ⟨f3, e3⟩ := hpre (j + 1) (by omega)
    simp only [e1, e2, e3, Option.map_some, Option.some.injEq] at h3 h4 h5
    refine ⟨id, ⟨o, t, a, p, off, by simpa using h1, h2, h3⟩, ?_, ?_⟩
    · rw [h4, h5]
    · rw [h4]; exact h6
  exact Calm.ofX' h hex

theorem evOps_len {ops : Array Oper} : ∀ (l : List Oper) {s s' : FS} {fs : List Fl}, evOps E ci ops l s = some (s', fs) → fs.length = l.length
  | [], s, s', fs, h => by cases h; rfl
  | o :: l, s, s', fs, h => by
    simp only [evOps] at h
    split at h
    · split at h
      · rename_i h2; cases h; simp [evOps_len l h2]
      · cases h
    · cases h

include hT hci hI00 hG00 hmix in
/-- A region that draws its order, where some looks need no order. -/
theorem region_okX {ops : Array Oper} {id : Nat} {s s1 : FS} {c : Ctx} {a : Act} (hS : SR base c00 σ00 s c a) {fs : List Fl} (xs : List (Nat × Nat)) (h : evOps E ci ops ops.toList s = some (s1, fs)) (hq : (regOK ops && calmX xs (Region.before ops) fs) = true)
    (hx : ∀ x ∈ xs, XOK E ci ops s x) {Q : Exit → Act → World → Prop}
    (hQ : ∀ a' c', SR base c00 σ00 s1 c' a' → Q .normal a' c'.w) (hP : PanQ E c00 σ00 s1.low Q) : (Code.region id ops true).wp E.P Q a c.w := by
  rw [Bool.and_eq_true] at hq
  obtain ⟨st, h0, hn, hst⟩ := evOps_trace ops.toList h
  have hst' : ∀ i o, ops[i]? = some o → ∃ f, fs[i]? = some f ∧ stepG E ci ops o (st i) = some (st (i + 1), f) := fun i o ho => hst i o (by simpa using ho)
  exact region_any hT hI00 hG00 hmix hS hq.1 h0 (by simpa using hn) (Tr.all hci hst') (Calm.ofX h0 hst' (by have := evOps_len _ h; simp at this; omega) hq.2 hx) (fun _ => hQ) hP (fun _ _ _ h => by cases h)

/-! ### a region that draws its order, of which one operation panics -/
/-- The run in the text's order without the operations N. -/
def evOpsM (E : Env) (ci : CI) (ops : Array Oper) (N : List Nat) (p : Nat) : Nat → List Oper → FS → Option (FS × List Fl)
  | _, [], s => some (s, [])
  | i, o :: rest, s => if N.contains i = true then match evOpsM E ci ops N p (i + 1) rest s with
      | some (s2, fs) => some (s2, ⟨i == p, i == p⟩ :: fs)
      | none => none
    else match stepG E ci ops o s with
      | some (s1, f) => match evOpsM E ci ops N p (i + 1) rest s1 with
        | some (s2, fs) => some (s2, f :: fs)
        | none => none
      | none => none

theorem evOpsM_trace {ops : Array Oper} {N : List Nat} {p : Nat} : ∀ (l : List Oper) (n : Nat) {s s' : FS} {fs : List Fl}, evOpsM E ci ops N p n l s = some (s', fs) →
    fs.length = l.length ∧ ∃ st : Nat → FS, st 0 = s ∧ st l.length = s' ∧ (∀ i o, l[i]? = some o → ∃ f, fs[i]? = some f ∧ ((N.contains (n + i) = false ∧ stepG E ci ops o (st i) = some (st (i + 1), f)) ∨ (N.contains (n + i) = true ∧ st (i + 1) = st i ∧ f = ⟨n + i == p, n + i == p⟩))) ∧
      ∀ k, k ≤ l.length → ∃ fs', evOpsM E ci ops N p n (l.take k) s = some (st k, fs')
  | [], n, s, s', fs, h => by cases h; exact ⟨rfl, fun _ => s, rfl, rfl, fun i o h => by simp at h, fun k _ => ⟨[], by cases k <;> rfl⟩⟩
  | o :: l, n, s, s', fs, h => by
    simp only [evOpsM] at h
    split at h
    · rename_i hn
      split at h
      · rename_i s2 fs' h2; cases h
        obtain ⟨hl, st, h3, h4, h5, h6⟩ := evOpsM_trace l (n + 1) h2
        refine ⟨by simp [hl], fun i => match i with
          | 0 => s
          | i + 1 => st i, rfl, by simpa using h4, fun i o' hi => ?_, fun k hk => ?_⟩
        · cases i with
          | zero => exact ⟨_, rfl, .inr ⟨hn, h3, rfl⟩⟩
          | succ i =>
            have := h5 i o' (by simpa using hi)
            rw [show n + 1 + i = n + (i + 1) by omega] at this
            exact this
        · cases k with
          | zero => exact ⟨[], rfl⟩
          | succ k =>
            obtain ⟨fs'', h7⟩ := h6 k (by simpa using hk)
            exact ⟨_, by simp only [List.take_succ_cons, evOpsM, hn, if_true, h7]; rfl⟩
      · cases h
    · rename_i hn
      split at h
      · rename_i s1 f h1
        split at h
        · rename_i s2 fs' h2; cases h
          obtain ⟨hl, st, h3, h4, h5, h6⟩ := evOpsM_trace l (n + 1) h2
          refine ⟨by simp [hl], fun i => match i with
            | 0 => s
            | i + 1 => st i, rfl, by simpa using h4, fun i o' hi => ?_, fun k hk => ?_⟩
          · cases i with
            | zero => simp at hi; subst hi; exact ⟨f, rfl, .inl ⟨by simpa using hn, by simp only; rw [h3]; exact h1⟩⟩
            | succ i =>
              have := h5 i o' (by simpa using hi)
              rw [show n + 1 + i = n + (i + 1) by omega] at this
              exact this
          · cases k with
            | zero => exact ⟨[], rfl⟩
            | succ k =>
              obtain ⟨fs'', h7⟩ := h6 k (by simpa using hk)
              exact ⟨_, by simp only [List.take_succ_cons, evOpsM, if_neg hn, h1, h7]; rfl⟩
        · cases h
      · cases h

/-- Operation i looks at one object by a pointer, and j leaves that. -/
def XOKM (E : Env) (ci : CI) (ops : Array Oper) (N : List Nat) (p : Nat) (s : FS) (x : Nat × Nat) : Prop := ∃ o t a id q off oo, ops.toList[x.1]? = some o ∧ o.op = .load t a ∧ (evOpsM E ci ops N p 0 (ops.toList.take x.1) s).map (fun z => evOp E.gl z.1.tm a) = some (.ptr id q off) ∧
  (evOpsM E ci ops N p 0 (ops.toList.take x.2) s).map (fun z => z.1.σ.ob id) = some oo ∧ (evOpsM E ci ops N p 0 (ops.toList.take (x.2 + 1)) s).map (fun z => z.1.σ.ob id) = some oo ∧ nslfO oo

include hT hci hI00 hG00 hmix in
theorem region_panX {ops : Array Oper} {id : Nat} {s sp s1 : FS} {c : Ctx} {a : Act} (hS : SR base c00 σ00 s c a) {fs fsp : List Fl} (N : List Nat) (p : Nat) (xs : List (Nat × Nat)) {o : Oper} {V : Value} {md : Option Nat} (hnp : ∀ V, ¬ E.pan V)
    (h : evOpsM E ci ops N p 0 ops.toList s = some (s1, fs)) (hop : ops.toList[p]? = some o) (hsp : evOpsM E ci ops N p 0 (ops.toList.take p) s = some (sp, fsp))
    (hq : (regOK ops && calmX xs (Region.before ops) fs && N.contains p && N.all fun k => k == p || ((Region.before ops).getD k 0).testBit p) = true)
    (hx : ∀ x ∈ xs, XOKM E ci ops N p s x) (hw : wantedAV ops sp.tm o = some true) (hpan : PanAt E base sp.tm sp.σ o V md) {Q : Exit → Act → World → Prop}
    (hQ : ∀ a' c', a'.defers = c00.dfr → Ext c00 c' → Fr c00 σ00 (omin s1.low (cut s1.c0 md)) c' → Q (.panic (panOf V)) a' c'.w) : (Code.region id ops true).wp E.P Q a c.w := by
  simp only [Bool.and_eq_true] at hq
  obtain ⟨⟨⟨hreg, hcalm⟩, hNp⟩, hNb⟩ := hq
  obtain ⟨hlen, st, h0, hn, hst, hpre⟩ := evOpsM_trace ops.toList 0 h
  have hps : p < ops.size := by have := (List.getElem?_eq_some_iff.1 hop).1; simpa using this
  have htr : Tr E base ops st fs (fun i => !N.contains i) := fun i o ho => by
    obtain ⟨f, h1, h2⟩ := hst i o (by simpa using ho)
    rw [Nat.zero_add] at h2
    rcases h2 with ⟨h2, h3⟩ | ⟨h2, h3, _⟩
    · exact ⟨f, h1, .inl ⟨by simp only [h2]; rfl, ci, hci, h3⟩⟩
    · exact ⟨f, h1, .inr ⟨by simp only [h2]; rfl, h3⟩⟩
  have hstp : st p = sp := by
    obtain ⟨fs', h1⟩ := hpre p (by simp; omega)
    rw [hsp] at h1; cases h1; rfl
  have hfp : fs[p]? = some ⟨true, true⟩ := by
    obtain ⟨f, h1, h2⟩ := hst p o hop
    rw [Nat.zero_add] at h2
    rcases h2 with ⟨h2, _⟩ | ⟨_, _, h3⟩
    · rw [hNp] at h2; cases h2
    · rw [h1, h3]; simp
  have hex : ∀ i j, j < fs.length → xs.contains (i, j) = true → Exm E ops st i j := by
    intro i j hjl hc
    obtain ⟨o, t, a, id, q, off, oo, h1, h2, h3, h4, h5, h6⟩ := hx (i, j) (by simpa using hc)
    have hi : i < ops.size := by have := (List.getElem?_eq_some_iff.1 h1).1; simpa using this
    obtain ⟨f1, e1⟩ := hpre i (by simp; omega)
    obtain ⟨f2, e2⟩ := hpre j (by omega)
    obtain ⟨f3, e3⟩ := hpre (j + 1) (by omega)
    simp only [e1, e2, e3, Option.map_some, Option.some.injEq] at h3 h4 h5
    exact ⟨id, ⟨o, t, a, q, off, by simpa using h1, h2, h3⟩, by rw [h4, h5], by rw [h4]; exact h6⟩
  have hC : Calm E ops st fs := Calm.ofX' hcalm hex
  refine region_any hT hI00 hG00 hmix hS hreg h0 (by simpa using hn) htr hC (fun hall => ?_) (fun V _ _ hV => absurd hV (hnp V)) (fun {ls a c k o'} K hJ hk hAk hnk hed => ?_)
  · have := hall p hps; rw [hNp] at this; cases this
  · have hNk : N.contains k = true := by simpa using hAk
    have hkp : k = p := by
      have := List.all_eq_true.1 hNb k (by simpa using hNk)
      simp only [Bool.or_eq_true, beq_iff_eq] at this
      rcases this with h | h
      · exact h
      · have h1 := before_spec (Lsd ls) hJ.closed h (fun o2 e2 h7 h8 h9 => by rw [hk] at h7; cases h7; exact hed e2 h8 h9)
        have := hJ.okA p h1
        rw [hNp] at this; cases this
    subst hkp
    have ho : o' = o := by have h1 : ops.toList[k]? = some o' := by simpa using hk
                           rw [hop] at h1; cases h1; rfl
    subst ho
    have h0k := chain htr (i := 0) (j := k) (by omega) (by omega)
    have hkn := chain htr (i := k) (j := ops.size) (by omega) (by omega)
    have hgo : StGo σ00 (st 0).σ := by rw [h0]; exact hS.go
    have hsz : a.tmps.size = (st k).tm.length := by rw [hJ.asz, h0k.2.2.1]
    have hlook : ∀ t, t ∈ o'.looksAt ops → Rep (c.upto (st k).σ.clock) ((st k).tm.getD t .junk) (a.tmps.getD t undef) := fun t ht =>
      hJ.tm t k (by omega) (fun i h1 h2 => ord4 hreg hJ hk hed h1 h2 (.inl ht)) (fun i h1 h2 => ord5 hreg hJ hk hnk h1 h2 (.inl ht))
    have hguard : ∀ j want d, o'.guard = some (j, want) → (ops[j]?).bind (·.dst) = some d → Rep (c.upto (st k).σ.clock) ((st k).tm.getD d .junk) (a.tmps.getD d undef) := fun j want d h1 h2 =>
      hlook d (by simp [Oper.looksAt, h1, h2])
    have heU : Ext c00 (c.upto (st k).σ.clock) :=
      (Ext.of_upto (κ := (st k).σ.clock) (fun id l h => Nat.lt_of_lt_of_le (hI00.dom id l h) (Nat.le_trans hgo.clock h0k.1.clock))).trans (hJ.ext.upto _)
    have hl : LoudAt fs k := ⟨_, hfp, .inl rfl⟩
    have hxm : ∀ e, ¬ Exm E ops st k e := by
      rintro e ⟨_, ⟨o2, t, a2, _, _, g1, g2, _⟩, _⟩
      rw [hk] at g1; cases g1
      exact hpan.1 t a2 g2
    have hIk := inv_at hI00 htr hC hgo hJ hk hnk hed hl hxm
    unfold wpOp
    simp only [hk]
    rw [wanted_ok (c := c.upto (st k).σ.clock) hsz hguard (by rw [hstp]; exact hw)]
    simp only [if_true]
    left
    rw [← hstp] at hpan
    refine hpan.2 (c.upto (st k).σ.clock) a hIk (hG00.mono heU) (fun x hx => evOp_reps (hG00.mono heU) (fun t ht => hlook t ?_)) K Q (fun c' e hfr => hQ a c' hJ.dfr (heU.trans e) ?_)
    · subst ht
      exact List.mem_append_left _ (List.mem_filterMap.2 ⟨.tmp t, by simpa using hx, rfl⟩)
    · have h1 := Fr.trans (hJ.fr.upto (st k).σ.clock) hfr (Nat.le_trans hgo.clock h0k.1.clock) heU hIk.core (hgo.trans h0k.1).live' hI00.dom
      have hs1 : s1 = st ops.size := by simpa using hn.symm
      have hc0 : s1.c0 = σ00.clock := by
        rw [hs1, hkn.2.1, h0k.2.1, h0]; exact hS.c0
      rw [hc0, hs1]
      exact Fr.low h1 hI00.dom (fun id l => omin_cut id l)
end

end Go.Bx

/- Code and calls: what the evaluator answers, the machine does. (Own text.) -/
namespace Go.Bx
set_option linter.unusedVariables false
set_option linter.unusedSimpArgs false
set_option linter.unusedSectionVars false
set_option linter.unusedVariables false
set_option linter.unusedSectionVars false
set_option linter.unusedSimpArgs false

def exq : Ex → Exit
  | .nrm => .normal
  | .exit id => .exit id
  | .goto l => .goto l
  | .ret => .ret
  | .pan V => .panic (panOf V)

/-- From a place within a loop or a scope. -/
def From (P : Program) (item : Item) (c : Code) (Q : Exit → Act → World → Prop) (a : Act) (w : World) : Prop :=
  ∀ (b : Frame) (k : List Item) (cs : List Frame), ∃ e a' w', Q e a' w' ∧ Arrives P (lone (b.at a (.code c :: item :: k)) cs w) b k cs e a' w'

def TaskPost (P : Program) (t : Task) (Q : Exit → Act → World → Prop) (a : Act) (w : World) : Prop :=
  match t with
  | .run (.loop b) => From P (.inLoop b) b Q a w
  | .run c => c.wp P Q a w
  | .resume b rest => From P (.inScope b) rest Q a w

def TIOK (E : Env) (base : Nat) (ag : TI) : Prop := ∀ t s ex s1, ag t s = some (ex, s1) → StGo s.σ s1.σ ∧
  ∀ (c00 : Ctx) (σ00 : Store), Inv σ00 c00 base → GlOK E c00 → ∀ (c : Ctx) (a : Act), SR base c00 σ00 s c a → ∀ Q : Exit → Act → World → Prop,
    (∀ a' c', SR base c00 σ00 s1 c' a' → Q (exq ex) a' c'.w) → TaskPost E.P t Q a c.w

theorem wp_of_loop {P : Program} {b : Code} {Q : Exit → Act → World → Prop} {a : Act} {w : World} (h : From P (.inLoop b) b Q a w) : (Code.loop b).wp P Q a w := by
  intro fr k cs
  obtain ⟨e, a', w', hq, harr⟩ := h fr k cs
  exact ⟨e, a', w', hq, .of_steps (.one step_loop) harr⟩

section
variable {E : Env} (hT : TabOK E.P E.T) {base : Nat} {ci : CI} (hci : CIOK E base ci) {ag : TI} (hag : TIOK E base ag) (hmix : E.P.follows .mixedOrders = true)

variable {c00 : Ctx} {σ00 : Store} (hI00 : Inv σ00 c00 base) (hG00 : GlOK E c00)

/-- Behind a goto within a scope. -/
def Exit.jumps (P : Program) (b : Code) (Q : Exit → Act → World → Prop) : Exit → Act → World → Prop
  | .goto l, a, w => match findLabel b l with
    | some rest => From P (.inScope b) rest Q a w
    | none => Q (.goto l) a w
  | e, a, w => Q e a w

theorem scope_from {P : Program} {b rest : Code} {Q : Exit → Act → World → Prop} {a : Act} {w : World} (h : rest.wp P (Exit.jumps P b Q) a w) : From P (.inScope b) rest Q a w := by
  intro fr k cs
  obtain ⟨e, a₁, w₁, hq, harr⟩ := h fr (.inScope b :: k) cs
  cases e with
  | normal => exact ⟨.normal, a₁, w₁, hq, Steps.trans harr (.one step_inScope)⟩
  | exit id => exact ⟨.exit id, a₁, w₁, hq, fun k' hk => harr k' (by simp [exitTo, hk])⟩
  | goto l =>
    simp only [Exit.jumps] at hq
    cases hl : findLabel b l with
    | none =>
      rw [hl] at hq
      exact ⟨.goto l, a₁, w₁, hq, fun k' hk => harr k' (by simp [gotoIn, hl, hk])⟩
    | some rest' =>
      rw [hl] at hq
      obtain ⟨e₂, a₂, w₂, hq₂, harr₂⟩ := hq fr k cs
      exact ⟨e₂, a₂, w₂, hq₂, .of_steps (harr _ (by simp [gotoIn, hl])) harr₂⟩
  | ret => exact ⟨_, a₁, w₁, hq, harr⟩
  | panic ch => exact ⟨_, a₁, w₁, hq, harr⟩
  | outgrown => exact ⟨_, a₁, w₁, hq, harr⟩

theorem wp_of_scope {P : Program} {b : Code} {Q : Exit → Act → World → Prop} {a : Act} {w : World} (h : From P (.inScope b) b Q a w) : (Code.scope b).wp P Q a w := by
  intro fr k cs
  obtain ⟨e, a', w', hq, harr⟩ := h fr k cs
  exact ⟨e, a', w', hq, .of_steps (.one step_scope) harr⟩

end

section
variable {E : Env} (hT : TabOK E.P E.T) {base : Nat} (hmix : E.P.follows .mixedOrders = true)

/-! ### calls -/

theorem retShare_go {T : Tab} {fn : Func} {s : FS} : StGo s.σ (retShare T fn s).σ := by
  unfold retShare
  split
  · exact StGo.shareAll _ _
  · exact StGo.refl _

include hT in
theorem return_ok {c0 c : Ctx} {σ0 : Store} {s : FS} {fn : Func} {a : Act} (hI0 : Inv σ0 c0 base) (hS : SR base c0 σ0 s c a) {r : AV} {σr : Store} {tl : Option Nat} (h : evReturn E.T σ0 fn s = some (r, σr, tl)) :
    ∃ v c', (results fn a.tmps).run E.P c.w = .ok v c.w ∧ c'.w = c.w ∧ Ext c0 c' ∧ Inv (importAV σr r).2 c' base ∧ Rep c' (importAV σr r).1 v ∧ Fr c0 σ0 tl c' := by
  unfold evReturn at h
  have key : ∃ c1, c1.w = c.w ∧ Ext c c1 ∧ Inv (retShare E.T fn s).σ c1 base ∧ Fr c0 σ0 (retShare E.T fn s).low c1 ∧ (retShare E.T fn s).tm = s.tm := by
    unfold retShare
    split
    · rename_i xs hxs
      obtain ⟨c1, hw, hm, he, hi, hfr, hck⟩ := shareAll_ok hS.inv ((xs.flatMap cells).flatMap (innerIds s.σ))
      refine ⟨c1, hw, he, hi, ?_, rfl⟩
      have h1 := Fr.trans hS.fr hfr hS.go.clock hS.ext hS.inv.core hS.go.live' hI0.dom
      show Fr c0 σ0 (omin s.low (cut s.c0 _)) c1
      rw [hS.c0]
      exact Fr.low h1 hI0.dom (fun id l => omin_cut id l)
    · exact ⟨c, rfl, Ext.refl c, hS.inv, hS.fr, rfl⟩
  obtain ⟨c1, hw, he, hi, hfr, htm⟩ := key
  obtain ⟨v, c', h1, h2, h3, h4, h5, h6⟩ := return_ok0 hT hI0 hi (hS.ext.trans he) hfr (hS.go.trans retShare_go).clock (tmps := a.tmps) (fun t => by rw [htm]; exact (hS.tm t).mono he) h
  rw [hw] at h1 h2
  exact ⟨v, c', h1, h2, h3, h4, h5, h6⟩

theorem import1_keeps (σ : Store) (x : AV) {id : Nat} (h : id < σ.clock) : (import1 σ x).2.ob id = σ.ob id ∧ σ.clock ≤ (import1 σ x).2.clock := by
  unfold import1
  split
  · exact ⟨new_old h, by simp [Store.new]⟩
  · exact ⟨rfl, Nat.le_refl _⟩
theorem importL_keeps : ∀ (xs : Cs) (σ : Store) {id : Nat}, id < σ.clock → (importL σ xs).2.ob id = σ.ob id ∧ σ.clock ≤ (importL σ xs).2.clock
  | [], σ, id, h => ⟨rfl, Nat.le_refl _⟩
  | x :: xs, σ, id, h => by
    have h1 := import1_keeps σ x h
    have h2 := importL_keeps xs (import1 σ x).2 (id := id) (by omega)
    exact ⟨h2.1.trans h1.1, Nat.le_trans h1.2 h2.2⟩
theorem import2_keeps (σ : Store) (x : AV) {id : Nat} (h : id < σ.clock) : (import2 σ x).2.ob id = σ.ob id ∧ σ.clock ≤ (import2 σ x).2.clock := by
  unfold import2
  split
  · exact importL_keeps _ _ h
  · exact import1_keeps _ _ h
theorem import2L_keeps : ∀ (xs : Cs) (σ : Store) {id : Nat}, id < σ.clock → (import2L σ xs).2.ob id = σ.ob id ∧ σ.clock ≤ (import2L σ xs).2.clock
  | [], σ, id, h => ⟨rfl, Nat.le_refl _⟩
  | x :: xs, σ, id, h => by
    have h1 := import2_keeps σ x h
    have h2 := import2L_keeps xs (import2 σ x).2 (id := id) (by omega)
    exact ⟨h2.1.trans h1.1, Nat.le_trans h1.2 h2.2⟩
theorem importAV_keeps (σ : Store) (x : AV) {id : Nat} (h : id < σ.clock) : (importAV σ x).2.ob id = σ.ob id := by
  unfold importAV
  split
  · exact (import2L_keeps _ _ h).1
  · exact (import2_keeps _ _ h).1

variable (hext : CIOK E base E.ext) (hname : ∀ (f : Nat) fn, E.P.funcs[f]? = some fn → fn.name ≠ "runtime.NumGoroutine")

end

end Go.Bx

/- For a program's own table. (Own text.) -/
namespace Go.Bx
set_option linter.unusedVariables false
set_option linter.unusedSimpArgs false
set_option linter.unusedSectionVars false

theorem RowOK.of {P : Program} {t : TypeId} {r : TRow} {d : TypeDesc} {z : Value} (hu : P.underlying t = some d) (hd : descOK d r.desc)
    (hi : (P.info? t).map (fun i => (i.zero, i.size, i.bytes)) = some (some z, r.sz, r.bytes)) (hz : z.cells.toList = r.zero) (hone : r.zero.all (fun x => x.oneCell') = true)
    (he : r.eq = true → P.eqGuardType P.depth t = false ∧ P.stoodInHeld t = false ∧ ∃ fields, P.underlying t = some (.struct fields) ∧ (∀ f ∈ fields.toList, f.name ≠ "_")) : RowOK P t r := by
  refine ⟨⟨d, hu, hd⟩, ?_, he⟩
  cases h : P.info? t with
  | none => rw [h] at hi; cases hi
  | some i =>
    rw [h] at hi
    simp only [Option.map_some, Option.some.injEq, Prod.mk.injEq] at hi
    exact ⟨i, rfl, hi.2.1, hi.2.2, fun _ => ⟨z, hi.1, hz, fun x hx => List.all_eq_true.1 hone x hx⟩⟩

end Go.Bx

/- A law's arguments, as they are read, as the evaluator's values. (Own text.) -/
namespace Go.Bx
set_option linter.unusedVariables false
set_option linter.unusedSimpArgs false
set_option linter.unusedSectionVars false
set_option linter.unusedVariables false
set_option linter.unusedSimpArgs false

/-- All that is there, as it is. -/
def rdCtx (w : World) : Ctx := { w := w, S := fun a => a.spot = none ∧ ∃ u, w.cell? a = some u, m := fun _ => none }

def nilStore : Store := ⟨0, fun _ => none⟩

theorem rdInv (w : World) : Inv nilStore (rdCtx w) w.heap.size where
  core := {
    obj := fun _ _ _ h => (by cases h)
    virt := fun _ _ h => (by cases h)
    apart := fun _ _ _ _ _ _ h => (by cases h)
    inn := fun a h => h
    free := fun _ _ _ h => (by cases h)
    base_le := Nat.le_refl _ }
  dom := fun _ _ h => (by cases h)
  old := fun _ _ h => (by cases h)

def layoutOK (T : Tab) : List (Nat × TypeId) → Nat → Nat → Bool
  | [], off, tot => off == tot
  | (o, t) :: rest, off, tot => o == off && match T t with
    | some r => layoutOK T rest (off + r.sz) tot
    | none => false

/-- Types of plain data. -/
def dataT (T : Tab) : Nat → TypeId → Bool
  | 0, _ => false
  | n + 1, t => match T t with
    | some r => match r.desc with
      | .int _ => true
      | .bool => true
      | .str => true
      | .slice e => (match T e with
        | some re => re.sz != 0
        | none => false) && dataT T n e
      | .struct fs => layoutOK T fs 0 r.sz && fs.all fun f => dataT T n f.2
      | _ => false
    | none => false

def ShapeF {H : Type} (S : TypeId → Cs → DataW H → Prop) : List (Nat × TypeId) → Cs → List (DataW H) → Prop
  | [], xs, ds => xs = [] ∧ ds = []
  | (_, t) :: fs, xs, ds => ∃ p q d r, xs = p ++ q ∧ ds = d :: r ∧ S t p d ∧ ShapeF S fs q r

/-- What a reading says of the evaluator's cells. -/
def Shape {H : Type} (T : Tab) : Nat → TypeId → Cs → DataW H → Prop
  | 0, _, _, _ => False
  | n + 1, t, xs, d => match tdesc T t with
    | some (.int k) => ∃ z, xs = [.v (.int k z)] ∧ d = .lit (.int k z) ∧ (Lit.int k z).wf = true
    | some .bool => ∃ b, xs = [.v (.bool b)] ∧ d = .lit (.bool b)
    | some .str => ∃ s : ByteArray, xs = [.v (.string s)] ∧ d = .lit (.string s.data.toList) ∧ s.size ≤ reachBytes
    | some (.slice e) => ∃ es, xs = [.sl es] ∧ (∀ r, T e = some r → es.length * r.bytes ≤ reachBytes) ∧ ((es = [] ∧ d = .nil) ∨ ∃ ds rest, d = .slice ds rest ∧ ds.length = es.length ∧ ∀ (i : Nat) c y, es[i]? = some c → ds[i]? = some y → Shape T n e c y)
    | some (.struct fs) => ∃ ds, d = .agg ds ∧ ShapeF (fun t p d => Shape T n t p d) fs xs ds
    | _ => False

theorem weightsAll_in {H : Type} {P : Program} {e : TypeId} : ∀ {l : List (DataW H)} {d : DataW H}, d ∈ l → ∀ n ∈ d.weights P e, n ∈ DataW.weightsAll P e l
  | x :: l, d, hd, n, hn => by
    simp only [DataW.weightsAll, List.mem_append]
    rcases List.mem_cons.1 hd with rfl | h
    · exact .inl hn
    · exact .inr (weightsAll_in h n hn)

section
variable {P : Program} {T : Tab} (hT : TabOK P T) {H : Type} {enc : TypeId × Value → H} {w : World} {held : Bool}

include hT in
theorem cellsOf_tab {t : TypeId} {r : TRow} (h : T t = some r) : P.cellsOf t = r.sz := by
  obtain ⟨i, h1, h2, _⟩ := (hT t r h).info
  simp [Program.cellsOf, h1, h2]
include hT in
theorem bytesOf_tab {t : TypeId} {r : TRow} (h : T t = some r) : P.bytesOf t = r.bytes := by
  obtain ⟨i, h1, _, h2, _⟩ := (hT t r h).info
  simp [Program.bytesOf, h1, h2]

include hT in
theorem fields_rep {n : Nat} {cs : List Value} {fields : Array Field} {xs : List (DataW H × List MemPlace)} {tot : Nat} (hcs : cs.length = tot)
    (hone : ∀ (i : Nat) (f : Field), fields[i]? = some f → ∀ y, xs[i]? = some y → ∃ ps, Reps (rdCtx w) ps ((cs.drop f.offset).take (P.cellsOf f.type)) ∧ (∀ z ∈ ps, pl z = true) ∧ Shape T n f.type ps y.1)
    (hlen : xs.length = fields.size) : ∀ (fs : List (Nat × TypeId)) (k off : Nat), (∀ i o t, fs[i]? = some (o, t) → ∃ f, fields[k + i]? = some f ∧ f.offset = o ∧ f.type = t) → fields.size = k + fs.length → layoutOK T fs off tot = true →
      ∃ ps, Reps (rdCtx w) ps (cs.drop off) ∧ (∀ z ∈ ps, pl z = true) ∧ ShapeF (fun t p d => Shape T n t p d) fs ps ((xs.drop k).map (·.1))
  | [], k, off, hf, hsz, hl => by
    simp only [layoutOK, beq_iff_eq] at hl
    simp only [List.length_nil, Nat.add_zero] at hsz
    refine ⟨[], ?_, nofun, ?_⟩
    · rw [List.drop_of_length_le (by omega)]; exact Reps.nil _
    · rw [List.drop_of_length_le (by omega)]; exact ⟨rfl, rfl⟩
  | (o, t) :: fs, k, off, hf, hsz, hl => by
    simp only [layoutOK, Bool.and_eq_true, beq_iff_eq] at hl
    obtain ⟨rfl, hl⟩ := hl
    cases hr : T t with
    | none => rw [hr] at hl; cases hl
    | some r =>
      rw [hr] at hl
      obtain ⟨f, hf1, hf2, hf3⟩ := hf 0 o t rfl
      simp only [Nat.add_zero] at hf1
      have hk : k < xs.length := by rw [hlen]; exact (Array.getElem?_eq_some_iff.1 hf1).1
      obtain ⟨ps, h1, h2, h3⟩ := hone k f hf1 xs[k] (by simp [hk])
      obtain ⟨qs, h4, h5, h6⟩ := fields_rep hcs hone hlen fs (k + 1) (o + r.sz) (fun i o' t' h => by
        obtain ⟨f', h7, h8⟩ := hf (i + 1) o' t' (by simpa using h)
        exact ⟨f', by rw [← h7]; congr 1; omega, h8⟩) (by simp only [List.length_cons] at hsz; omega) hl
      rw [hf2, hf3, cellsOf_tab hT hr] at h1
      rw [hf3] at h3
      refine ⟨ps ++ qs, ?_, fun z hz => ?_, ?_⟩
      · have h7 := h1.append h4
        have h8 : (cs.drop o).take r.sz ++ cs.drop (o + r.sz) = cs.drop o := by
          rw [← List.drop_drop]; exact List.take_append_drop _ _
        rw [h8] at h7; exact h7
      · rcases List.mem_append.1 hz with h | h
        · exact h2 z h
        · exact h5 z h
      · refine ⟨ps, qs, xs[k].1, (xs.drop (k + 1)).map (·.1), rfl, ?_, h3, h6⟩
        rw [List.drop_eq_getElem_cons hk]; rfl

include hT in
theorem read_rep : ∀ (n : Nat) (t : TypeId), dataT T n t = true → ∀ (fuel : Nat) (cs : List Value) (x : DataW H × List MemPlace), DataW.trod enc P w 0 (fun _ => true) held fuel t cs = some x →
    (∀ z ∈ x.1.weights P t, z ≤ reachBytes) → ∃ xs, Reps (rdCtx w) xs cs ∧ (∀ z ∈ xs, pl z = true) ∧ Shape T n t xs x.1 := by
  intro n
  induction n with
  | zero => intro t h; simp [dataT] at h
  | succ n ih =>
    intro t h fuel cs x hx hw
    unfold dataT at h
    cases hr : T t with
    | none => rw [hr] at h; cases h
    | some r =>
      rw [hr] at h
      obtain ⟨d, hu, hd⟩ := (hT t r hr).und
      have htd : tdesc T t = some r.desc := by simp [tdesc, hr]
      simp only at h
      split at h
      · rename_i k hk
        rw [hk] at hd htd; simp only [descOK] at hd; subst hd
        obtain ⟨z, rfl, rfl, h3⟩ := DataW.trod_int hu hx
        refine ⟨[.v (.int k z)], Reps.cons (.v _) (Reps.nil _), by simp [pl, Value.oneCell'], ?_⟩
        unfold Shape; rw [htd]; exact ⟨z, rfl, rfl, h3⟩
      · rename_i hk
        rw [hk] at hd htd; simp only [descOK] at hd; subst hd
        obtain ⟨b, rfl, rfl⟩ := DataW.trod_bool hu hx
        refine ⟨[.v (.bool b)], Reps.cons (.v _) (Reps.nil _), by simp [pl, Value.oneCell'], ?_⟩
        unfold Shape; rw [htd]; exact ⟨b, rfl, rfl⟩
      · rename_i hk
        rw [hk] at hd htd; simp only [descOK] at hd; subst hd
        obtain ⟨s, rfl, rfl, h3⟩ := DataW.trod_string hu hx
        refine ⟨[.v (.string s)], Reps.cons (.v _) (Reps.nil _), by simp [pl, Value.oneCell'], ?_⟩
        unfold Shape; rw [htd]
        refine ⟨s, rfl, rfl, ?_⟩
        have := hw s.data.toList.length (by simp [DataW.weights])
        simpa using this
      · rename_i e hk
        rw [hk] at hd htd; simp only [descOK] at hd; subst hd
        rw [Bool.and_eq_true] at h
        obtain ⟨h1, h2⟩ := h
        cases hre : T e with
        | none => rw [hre] at h1; cases h1
        | some re =>
          rw [hre] at h1
          have hsz : re.sz ≠ 0 := by simpa using h1
          have hce := cellsOf_tab hT hre
          rcases DataW.trod_slice hu hx with ⟨rfl, rfl⟩ | ⟨a, len, cap, elems, rest, m, _, rfl, rfl, _, hlc, hcm, hel, hev, _, _⟩
          · refine ⟨[.sl []], Reps.cons (.sl 0 0 0 (fun _ _ => undef) rfl (Nat.le_refl _) (fun h => absurd rfl h) nofun (fun i e j x h => by simp at h) (fun i e j x h => by simp at h)) (Reps.nil _), by simp [pl], ?_⟩
            unfold Shape; rw [htd]
            exact ⟨[], rfl, fun r _ => by simp, .inl ⟨rfl, rfl⟩⟩
          · have hwe : ∀ y ∈ elems, ∀ z ∈ y.1.weights P e, z ≤ reachBytes := by
              intro y hy z hz
              refine hw z ?_
              simp only [DataW.weights, hu, List.mem_cons, List.mem_append]
              exact .inr (.inl (weightsAll_in (List.mem_map.2 ⟨y, hy, rfl⟩) z hz))
            have hone : ∀ i, i < len → ∃ ps : Cs, ∃ vs : List Value, ∃ y, elems[i]? = some y ∧ w.cells? 0 (a.add (i * re.sz)) re.sz = some vs ∧ Reps (rdCtx w) ps vs ∧ (∀ z ∈ ps, pl z = true) ∧ Shape T n e ps y.1 := by
              intro i hi
              have h3 := hev i hi
              have hlt : i < elems.length := by omega
              rw [hce, List.getElem?_eq_getElem hlt, Option.bind_eq_some_iff] at h3
              obtain ⟨vs, h4, h5⟩ := h3
              obtain ⟨ps, h6, h7, h8⟩ := ih e h2 _ vs _ h5 (hwe _ (List.getElem_mem hlt))
              exact ⟨ps, vs, elems[i], by simp [hlt], h4, h6, h7, h8⟩
            classical
            let ps : Nat → Cs := fun i => if h : i < len then (hone i h).choose else []
            let vs : Nat → List Value := fun i => if h : i < len then (hone i h).choose_spec.choose else []
            have hps : ∀ i, i < len → ∃ y, elems[i]? = some y ∧ w.cells? 0 (a.add (i * re.sz)) re.sz = some (vs i) ∧ Reps (rdCtx w) (ps i) (vs i) ∧ (∀ z ∈ ps i, pl z = true) ∧ Shape T n e (ps i) y.1 := by
              intro i hi
              have := (hone i hi).choose_spec.choose_spec
              simpa [ps, vs, hi] using this
            have hlen : ∀ i, i < len → (ps i).length = re.sz := by
              intro i hi
              obtain ⟨y, _, h4, h5, _⟩ := hps i hi
              rw [h5.1, (World.cells?_some h4).2.1]
            have hcell : ∀ i, i < len → ∀ j, j < re.sz → w.cell? ((a.add (i * re.sz)).add j) = (vs i)[j]? := by
              intro i hi j hj
              obtain ⟨y, _, h4, _⟩ := hps i hi
              exact (World.cells?_some h4).2.2 j hj
            have hspot : len ≠ 0 → a = ⟨a.block, a.off, none⟩ := by
              intro h0
              have h4 := hcell 0 (by omega) 0 (by omega)
              obtain ⟨y, _, h5, _⟩ := hps 0 (by omega)
              have h6 : 0 < (vs 0).length := by rw [(World.cells?_some h5).2.1]; omega
              rw [List.getElem?_eq_getElem h6] at h4
              simp only [Nat.zero_mul, Addr.add, if_true] at h4
              have : a.spot = none := by
                unfold World.cell? at h4
                split at h4
                · split at h4
                  · cases h4
                  · rename_i hs; simpa using hs
                · cases h4
              cases a; simp at this ⊢; exact this
            have haddr : ∀ i, i < len → ∀ j, j < re.sz → (a.add (i * re.sz)).add j = ⟨a.block, a.off + i * re.sz + j, none⟩ := by
              intro i hi j hj
              rw [hspot (by omega)]
              unfold Addr.add
              by_cases h1 : i * re.sz = 0 <;> by_cases h2 : j = 0 <;> simp [h1, h2]
            have hes : ∀ i c, ((List.range len).map ps)[i]? = some c → i < len ∧ c = ps i := by
              intro i c hi
              have hlt : i < len := by have := (List.getElem?_eq_some_iff.1 hi).1; simpa using this
              simp [hlt] at hi
              exact ⟨hlt, hi.symm⟩
            refine ⟨[.sl ((List.range len).map ps)], Reps.cons (.sl re.sz a.block a.off (fun i j => (vs i).getD j undef) (by simp) hlc (fun hne => ?_) (fun c hc => ?_) (fun i c j x hi hj => ?_) (fun i c j x hi hj => ?_)) (Reps.nil _), by simp [pl], ?_⟩
            · have : len ≠ 0 := by intro h0; subst h0; simp at hne
              rw [← hspot this]
            · obtain ⟨i, hi, rfl⟩ := List.mem_map.1 hc
              exact hlen i (by simpa using hi)
            · obtain ⟨hlt, rfl⟩ := hes i c hi
              have hj' : j < re.sz := by rw [← hlen i hlt]; exact (List.getElem?_eq_some_iff.1 hj).1
              have hvl : (vs i).length = re.sz := by obtain ⟨y, _, h4, _⟩ := hps i hlt; exact (World.cells?_some h4).2.1
              have h4 := hcell i hlt j hj'
              rw [haddr i hlt j hj', List.getElem?_eq_getElem (by omega)] at h4
              obtain ⟨y, _, _, _, h5, _⟩ := hps i hlt
              refine ⟨by rw [List.getD_eq_getElem?_getD, List.getElem?_eq_getElem (by omega)]; exact h4, ⟨rfl, _, h4⟩, h5 x (List.mem_of_getElem? hj)⟩
            · obtain ⟨hlt, rfl⟩ := hes i c hi
              have hj' : j < re.sz := by rw [← hlen i hlt]; exact (List.getElem?_eq_some_iff.1 hj).1
              have hvl : (vs i).length = re.sz := by obtain ⟨y, _, h4, _⟩ := hps i hlt; exact (World.cells?_some h4).2.1
              obtain ⟨y, _, _, h5, _⟩ := hps i hlt
              refine h5.2 j x _ hj ?_
              show (vs i)[j]? = some ((vs i).getD j undef)
              rw [List.getD_eq_getElem?_getD, List.getElem?_eq_getElem (by omega)]; rfl
            · unfold Shape; rw [htd]
              refine ⟨_, rfl, fun r' hr' => ?_, .inr ⟨elems.map (·.1), rest.map (·.1), rfl, by simp [hel], fun i c y hi hy => ?_⟩⟩
              · rw [hre] at hr'; cases hr'
                have h4 := hw ((elems.length + rest.length) * re.bytes) (by simp [DataW.weights, hu, bytesOf_tab hT hre])
                have h5 : len * re.bytes ≤ (elems.length + rest.length) * re.bytes := Nat.mul_le_mul_right _ (by omega)
                simp; omega
              · obtain ⟨hlt, rfl⟩ := hes i c hi
                obtain ⟨y', h4, _, _, _, h5⟩ := hps i hlt
                rw [List.getElem?_map, h4] at hy
                simp at hy; subst hy; exact h5
      · rename_i fs hk
        rw [hk] at hd htd; simp only [descOK] at hd
        obtain ⟨fields, rfl, hfs⟩ := hd
        rw [Bool.and_eq_true] at h
        obtain ⟨h1, h2⟩ := h
        obtain ⟨xs, m, _, rfl, hcs, hxl, hxe⟩ := DataW.trod_struct hu hx
        rw [cellsOf_tab hT hr] at hcs
        have hone : ∀ (i : Nat) (f : Field), fields[i]? = some f → ∀ y, xs[i]? = some y → ∃ ps, Reps (rdCtx w) ps ((cs.drop f.offset).take (P.cellsOf f.type)) ∧ (∀ z ∈ ps, pl z = true) ∧ Shape T n f.type ps y.1 := by
          intro i f hf y hy
          have h3 := hxe i f hf
          rw [hy] at h3
          have hin : (f.offset, f.type) ∈ fs := by
            rw [← hfs]; exact List.mem_map.2 ⟨f, by have := Array.mem_of_getElem? hf; simpa using this, rfl⟩
          refine ih f.type (by simpa using List.all_eq_true.1 h2 _ hin) m _ y h3 (fun z hz => hw z ?_)
          simp only [DataW.weights, hu]
          exact DataW.weights_mem_each (j := i) (t := f.type) (d := y.1) (by simp [hf]) (by simp [hy]) z hz
        obtain ⟨ps, h3, h4, h5⟩ := fields_rep hT hcs hone hxl fs 0 0 (fun i o t' hi => by
          rw [← hfs, List.getElem?_map] at hi
          cases hf : fields.toList[i]? with
          | none => rw [hf] at hi; cases hi
          | some f => rw [hf] at hi; simp at hi; exact ⟨f, by simpa using hf, hi.1, hi.2⟩) (by rw [← hfs]; simp) h1
        refine ⟨ps, by simpa using h3, h4, ?_⟩
        unfold Shape; rw [htd]
        exact ⟨xs.map (·.1), rfl, by simpa using h5⟩
      · cases h
end

end Go.Bx

/- A law, from the evaluator's answer. (Own text.) -/
namespace Go.Bx
set_option linter.unusedVariables false
set_option linter.unusedSimpArgs false
set_option linter.unusedSectionVars false
open Go.RowKit
set_option linter.unusedVariables false

end Go.Bx

/- For running code by rewriting. (Own text.) -/
namespace Go.Bx
set_option linter.unusedVariables false
set_option linter.unusedSimpArgs false
set_option linter.unusedSectionVars false
set_option linter.unusedVariables false

theorem omin_right (a : Option Nat) : omin a none = a := by cases a <;> rfl
theorem omin_left (a : Option Nat) : omin none a = a := by cases a <;> rfl
theorem cut_none (c0 : Nat) : cut c0 none = none := rfl
/-- The bodies of a code's loops, in the text's order. -/
def loopsOf : Code → List Code
  | .seq a b => loopsOf a ++ loopsOf b
  | .cond _ a b => loopsOf a ++ loopsOf b
  | .block _ b => loopsOf b
  | .loop b => b :: loopsOf b
  | .scope b => loopsOf b
  | _ => []

def lb (f : Func) (i : Nat) : Code := ((loopsOf (f.body.getD .skip))[i]?).getD .skip

section
variable {E : Env} {ci : CI} {ag : TI} {s : FS}
/-- What comes behind. -/
def andThen (r : Option (Ex × FS)) (f : FS → Option (Ex × FS)) : Option (Ex × FS) := match r with
  | some (.nrm, s1) => f s1
  | r => r
theorem andThen_nrm (s1 : FS) (f : FS → Option (Ex × FS)) : andThen (some (.nrm, s1)) f = f s1 := rfl
def pick (x : AV) (a b : Option (Ex × FS)) : Option (Ex × FS) := match x with
  | .v (.bool t) => if t then a else b
  | _ => none
theorem pick_bool (t : Bool) (a b : Option (Ex × FS)) : pick (.v (.bool t)) a b = if t = true then a else b := rfl
end

section
variable {E : Env} {R : Option (Ex × FS) → Prop} {b : Code} {s s1 : FS}
end

/-- The run of a body ends with this result. -/
def Ends (E : Env) (σ : Store) (fn : Func) (res : CR) (r : Option (Ex × FS)) : Prop := ∃ ex s, r = some (ex, s) ∧ (ex = Ex.ret ∨ ex = Ex.nrm) ∧ evReturn E.T σ fn s = some res

theorem Ends.ret {E : Env} {σ : Store} {fn : Func} {res : CR} {s : FS} (h : evReturn E.T σ fn s = some res) : Ends E σ fn res (some (.ret, s)) := ⟨_, _, rfl, .inl rfl, h⟩
theorem Ends.nrm {E : Env} {σ : Store} {fn : Func} {res : CR} {s : FS} (h : evReturn E.T σ fn s = some res) : Ends E σ fn res (some (.nrm, s)) := ⟨_, _, rfl, .inr rfl, h⟩

/-! ### stores -/
theorem ob_new_ne {σ : Store} {o : Obj} {j : Nat} (h : j ≠ σ.clock) : (σ.new o).ob j = σ.ob j := by simp [Store.new, h]
theorem ob_put_ne {σ : Store} {o : Option Obj} {i j : Nat} (h : j ≠ i) : (σ.put i o).ob j = σ.ob j := by simp [Store.put, h]

theorem leaf_int (k : IntKind) (n : Int) : leaf (.v (.int k n)) = true := rfl
theorem leaf_bool (b : Bool) : leaf (.v (.bool b)) = true := rfl
theorem leaf_str (s : ByteArray) : leaf (.v (.string s)) = true := rfl
theorem leaf_nil : leaf (.v (.slice none 0 0)) = true := rfl
theorem leaf_nilp : leaf (.v (.pointer none)) = true := rfl
theorem leaf_sl (es : List Cs) : leaf (.sl es) = true := rfl
theorem leaf_row (id sz lo n : Nat) : leaf (.row id sz lo n) = true := rfl
theorem pl_int (k : IntKind) (n : Int) : pl (.v (.int k n)) = true := rfl
theorem pl_bool (b : Bool) : pl (.v (.bool b)) = true := rfl
theorem pl_str (s : ByteArray) : pl (.v (.string s)) = true := rfl
theorem pl_nil : pl (.v (.slice none 0 0)) = true := rfl
theorem pl_nilp : pl (.v (.pointer none)) = true := rfl
theorem pl_sl (es : List Cs) : pl (.sl es) = true := rfl
theorem pl_row (id sz lo n : Nat) : pl (.row id sz lo n) = false := rfl
theorem cells_agg (cs : Cs) : cells (.agg cs) = cs := rfl
theorem cells_int (k : IntKind) (n : Int) : cells (.v (.int k n)) = [.v (.int k n)] := rfl
theorem cells_bool (b : Bool) : cells (.v (.bool b)) = [.v (.bool b)] := rfl
theorem cells_str (s : ByteArray) : cells (.v (.string s)) = [.v (.string s)] := rfl
theorem cells_nil : cells (.v (.slice none 0 0)) = [.v (.slice none 0 0)] := rfl
theorem cells_nilp : cells (.v (.pointer none)) = [.v (.pointer none)] := rfl
theorem cells_sl (es : List Cs) : cells (.sl es) = [.sl es] := rfl
theorem cells_row (id sz lo n : Nat) : cells (.row id sz lo n) = [.row id sz lo n] := rfl
theorem cells_ptr (id i o : Nat) : cells (.ptr id i o) = [.ptr id i o] := rfl

/-- What was there below a number is there, as it was. -/
structure Keeps (κ : Nat) (σ σ' : Store) : Prop where
  clock : σ.clock ≤ σ'.clock
  ob : ∀ j, j < κ → σ'.ob j = σ.ob j
theorem Keeps.refl (κ : Nat) (σ : Store) : Keeps κ σ σ := ⟨Nat.le_refl _, fun _ _ => rfl⟩
theorem Keeps.trans {κ : Nat} {a b c : Store} (h : Keeps κ a b) (k : Keeps κ b c) : Keeps κ a c := ⟨Nat.le_trans h.clock k.clock, fun j hj => (k.ob j hj).trans (h.ob j hj)⟩
theorem Keeps.new {κ : Nat} {a b : Store} (h : Keeps κ a b) (hk : κ ≤ b.clock) (o : Obj) : Keeps κ a (b.new o) :=
  ⟨Nat.le_trans h.clock (by simp [Store.new]), fun j hj => by rw [ob_new_ne (by omega)]; exact h.ob j hj⟩
theorem Keeps.put {κ : Nat} {a b : Store} (h : Keeps κ a b) {i : Nat} (hi : κ ≤ i) (o : Option Obj) : Keeps κ a (b.put i o) :=
  ⟨h.clock, fun j hj => by rw [ob_put_ne (by omega)]; exact h.ob j hj⟩

/-- A row of the call's own (or none yet), with these elements. -/
def RowAt (κ : Nat) (σ : Store) (x : AV) (sz : Nat) (es : List Cs) : Prop :=
  (x = .v (.slice none 0 0) ∧ es = []) ∨ ∃ id, x = .row id sz 0 es.length ∧ κ ≤ id ∧ id < σ.clock ∧ σ.ob id = some ⟨sz, false, true, es⟩

theorem RowAt.mono {κ : Nat} {σ σ' : Store} {x : AV} {sz : Nat} {es : List Cs} (h : RowAt κ σ x sz es) (k : Keeps σ.clock σ σ') : RowAt κ σ' x sz es := by
  rcases h with h | ⟨id, h1, h2, h3, h4⟩
  · exact .inl h
  · exact .inr ⟨id, h1, h2, Nat.lt_of_lt_of_le h3 k.clock, by rw [k.ob id h3]; exact h4⟩
theorem slice_one (x : Cs) (es : List Cs) : slice (x :: es) 0 1 = [x] := rfl
theorem slice_nil (n : Nat) : slice [] 0 n = [] := by simp [slice]
theorem slice_map {α : Type} (f : α → Cs) (l : List α) : slice (l.map f) 0 l.length = l.map f := by simp only [slice, List.drop_zero]; exact List.take_of_length_le (by simp)
theorem slice_drop {α : Type} (f : α → Cs) (l : List α) (n : Nat) : slice (l.map f) n (l.length - n) = (l.drop n).map f := by
  simp only [slice]
  rw [← List.map_drop, List.take_of_length_le (by simp)]
theorem bb_true (b : Bool) : (b == true) = b := by cases b <;> rfl
theorem bb_false (b : Bool) : (b == false) = !b := by cases b <;> rfl
theorem slice_all (es : List Cs) : slice es 0 es.length = es := by simp [slice]

/-! ### calls -/
theorem rowIds_v (σ : Store) (n : Nat) (x : Value) : rowIds σ n (.v x) = [] := by cases n <;> rfl
theorem rowIds_sl (σ : Store) (n : Nat) (es : List Cs) : rowIds σ n (.sl es) = [] := by cases n <;> rfl
theorem rowIds_row (σ : Store) (n id sz lo k : Nat) : rowIds σ (n + 1) (.row id sz lo k) = id :: (match σ.ob id with
    | some o => if o.flat then [] else o.es.flatMap fun e => e.flatMap (rowIds σ n)
    | none => []) := rfl
theorem rowIds_agg (σ : Store) (n : Nat) (cs : Cs) : rowIds σ (n + 1) (.agg cs) = cs.flatMap (rowIds σ n) := rfl
theorem reify_int (σ : Store) (n : Nat) (k : IntKind) (z : Int) : reify σ n (.v (.int k z)) = some (.v (.int k z)) := by cases n <;> rfl
theorem reify_bool (σ : Store) (n : Nat) (b : Bool) : reify σ n (.v (.bool b)) = some (.v (.bool b)) := by cases n <;> rfl
theorem reify_str (σ : Store) (n : Nat) (b : ByteArray) : reify σ n (.v (.string b)) = some (.v (.string b)) := by cases n <;> rfl
theorem reify_nil (σ : Store) (n : Nat) : reify σ n (.v (.slice none 0 0)) = some (.sl []) := by cases n <;> rfl
theorem reify_sl (σ : Store) (n : Nat) (es : List Cs) : reify σ n (.sl es) = some (.sl es) := by cases n <;> rfl
theorem reify_agg (σ : Store) (n : Nat) (cs : Cs) : reify σ (n + 1) (.agg cs) = (mapO (reify σ n) cs).map .agg := rfl
theorem reify_row (σ : Store) (n id sz lo k : Nat) : reify σ (n + 1) (.row id sz lo k) = (match σ.ob id with
    | some o => if o.sh = true ∧ lo + k ≤ o.es.length then (if o.flat then some (.sl (slice o.es lo k)) else match mapO (fun e => mapO (reify σ n) e) (slice o.es lo k) with
          | some es => if (es.all fun e => e.all pl) = true then some (.sl es) else none
          | none => none) else none
    | none => none) := rfl
theorem shareAll_nil (σ : Store) : shareAll σ [] = σ := rfl
theorem shareAll_cons (σ : Store) (i : Nat) (l : List Nat) : shareAll σ (i :: l) = shareAll (share σ i) l := rfl
theorem freshL_nil (σ : Store) : freshL σ [] = none := rfl
theorem importAV_v (σ : Store) (x : Value) : importAV σ (.v x) = (.v x, σ) := rfl
theorem importAV_sl (σ : Store) (es : List Cs) : importAV σ (.sl es) = (.sl es, σ) := rfl
theorem importAV_own (σ : Store) (sh : Bool) (sz : Nat) (es : List Cs) : importAV σ (.own sh sz es) = (.row σ.clock sz 0 es.length, σ.new ⟨sz, sh, true, es⟩) := rfl
theorem importAV_agg (σ : Store) (cs : Cs) : importAV σ (.agg cs) = (.agg (importL σ cs).1, (importL σ cs).2) := rfl
theorem importAV_tup (σ : Store) (vs : Cs) : importAV σ (.tup vs) = (.tup (import2L σ vs).1, (import2L σ vs).2) := rfl

/-! ### numbers as a view -/
end Go.Bx

/- For functions that are shown by hand: a slice against nil; the end of a call. slices.Clone. (Own text.) -/
namespace Go.Bx
set_option linter.unusedVariables false
set_option linter.unusedSimpArgs false
set_option linter.unusedSectionVars false
set_option linter.unusedVariables false
set_option linter.unusedSectionVars false
set_option linter.unusedSimpArgs false

theorem SR.put {base : Nat} {c00 : Ctx} {σ00 : Store} {s : FS} {c : Ctx} {a : Act} (hS : SR base c00 σ00 s c a) (d : Option Tmp) {y : AV} {u : Value} (hu : Rep c y u) :
    SR base c00 σ00 { s with tm := putTm s.tm d y } c (a.put d u) :=
  ⟨hS.inv, hS.ext, hS.fr, hS.go, hS.c0, put_reps hS.sz hS.tm d hu, by simp only [put_size, putTm_length]; exact hS.sz, by rw [put_defers']; exact hS.dfr, hS.foot⟩

/-- What a call promises of its end. -/
def EndOf (base : Nat) (c : Ctx) (σ : Store) (r : AV) (σr : Store) (tl : Option Nat) : Ending → World → Prop := fun e w' =>
  ∃ v c', e = .returned v ∧ c'.w = w' ∧ Ext c c' ∧ Inv (importAV σr r).2 c' base ∧ Rep c' (importAV σr r).1 v ∧ Fr c σ tl c'

theorem ret_post {E : Env} (hT : TabOK E.P E.T) {base : Nat} {c : Ctx} {σ : Store} {fn : Func} {s : FS} {c' : Ctx} {a' : Act} (hI : Inv σ c base) (hd : c.dfr = []) (hS : SR base c σ s c' a') {ex : Ex} (hex : ex = .ret ∨ ex = .nrm) {r : AV} {σr : Store} {tl : Option Nat}
    (hret : evReturn E.T σ fn s = some (r, σr, tl)) : bodyPost E.P fn (EndOf base c σ r σr tl) (exq ex) a' c'.w := by
  obtain ⟨v, c2, h1, h2, h3, h4, h5, h6⟩ := return_ok hT hI hS hret
  have hpost : a'.defers = [] ∧ ∃ v, (results fn a'.tmps).run E.P c'.w = .ok v c'.w ∧ EndOf base c σ r σr tl (.returned v) c'.w := ⟨hS.dfr.trans hd, v, h1, v, c2, rfl, h2, h3, h4, h5, h6⟩
  rcases hex with rfl | rfl
  · exact hpost
  · exact hpost

/-- The state at a call's begin. -/
theorem start_SR {base : Nat} {c : Ctx} {σ : Store} (hI : Inv σ c base) (hd : c.dfr = []) {args : Cs} {us : List Value} (hus : Reps c args us) (nt : Nat) :
    SR base c σ ⟨args ++ List.replicate (nt - args.length) (.v undef), σ, none, σ.clock⟩ c { tmps := us.toArray ++ Array.replicate (nt - us.toArray.size) undef, defers := [] } := by
  have hlen : us.toArray.size = args.length := by simp [hus.1]
  refine ⟨hI, Ext.refl c, Fr.refl _ _ _, StGo.refl _, rfl, fun t => ?_, by simp [hus.1], hd.symm, fun _ _ _ => rfl⟩
  have hre := Reps.append hus (Reps.of_map (c := c) (l := List.replicate (nt - args.length) ()) (f := fun _ => AV.v undef) (g := fun _ => undef) (fun _ _ => Rep.v _))
  simp only [List.map_replicate] at hre
  have hx : (us.toArray ++ Array.replicate (nt - us.toArray.size) undef).getD t undef = (us ++ List.replicate (nt - args.length) undef).getD t undef := by
    rw [hlen, Array.getD_eq_getD_getElem?, List.getD_eq_getElem?_getD, ← Array.getElem?_toList]
    simp
  show Rep c ((args ++ List.replicate (nt - args.length) (AV.v undef)).getD t .junk) ((us.toArray ++ Array.replicate (nt - us.toArray.size) undef).getD t undef)
  rw [hx, List.getD_eq_getElem?_getD, List.getD_eq_getElem?_getD]
  cases h1 : (args ++ List.replicate (nt - args.length) (AV.v undef))[t]? with
  | none => exact .junk
  | some x =>
    cases h2 : (us ++ List.replicate (nt - args.length) undef)[t]? with
    | none =>
      have := (List.getElem?_eq_some_iff.1 h1).1
      have := List.getElem?_eq_none_iff.1 h2
      have := hre.1
      omega
    | some u => exact hre.2 t x u h1 h2

/-- A call that is shown by hand from its body on. -/
theorem call_hand {E : Env} {base : Nat} {f : FuncId} {fn : Func} {body : Code} {args : Cs} {σ : Store} {r : AV} (hf : E.P.funcs[f]? = some fn) (hb : fn.body = some body) (hname : fn.name ≠ "runtime.NumGoroutine")
    (h : ∀ (c : Ctx) (us : List Value), Inv σ c base → GlOK E c → Reps c args us →
      body.wp E.P (bodyPost E.P fn (EndOf base c σ r σ none)) { tmps := us.toArray ++ Array.replicate (fn.ntmps - us.toArray.size) undef, defers := [] } c.w) : CallOK E base f args σ r σ none :=
  ⟨StGo.importAV _ _, fun _ id hid => importAV_keeps _ _ hid, ⟨fn, hf, by simp [hb], hname⟩, fun c us hI hG hus => ⟨fun id hid _ => importAV_keeps _ _ hid, (calls_of_wp hf hb (h c us hI hG hus)).mono fun e w' h => .inl h⟩⟩

end Go.Bx
