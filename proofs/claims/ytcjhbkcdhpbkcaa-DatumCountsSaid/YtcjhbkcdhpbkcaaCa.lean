/- What the program's functions compute, shown of their code (Ca). Own text; parts are printed by a program of this claim's author. -/
import Derived.Test.YtcjhbkcdhpbkcaaBc
/- Runs of operations, each with what it says of itself; regions by such runs. (Own text.) -/
namespace Go.Bx
set_option linter.unusedVariables false
set_option linter.unusedSimpArgs false
set_option linter.unusedSectionVars false
set_option linter.unusedVariables false
set_option linter.unusedSectionVars false
set_option linter.unusedSimpArgs false

/-- What an operation says of itself: does it change objects, look at them; at which one alone; which ones may it have changed. -/
structure XF where
  eff : Bool
  rd : Bool
  ld : Option Nat
  ch : List Nat

def GS (E : Env) (base : Nat) (ops : Array Oper) (o : Oper) (s s1 : FS) (x : XF) : Prop :=
  (∃ ci, CIOK E base ci ∧ stepG E ci ops o s = some (s1, ⟨x.eff, x.rd⟩)) ∧ (∀ id, x.ld = some id → ∃ t a p off, o.op = .load t a ∧ evOp E.gl s.tm a = .ptr id p off) ∧ ∀ id, x.eff = true → id ∉ x.ch → Stays s.σ s1.σ id

/-- A run; the operations N are passed over. -/
inductive RunsM (E : Env) (base : Nat) (ops : Array Oper) (N : List Nat) : Nat → List Oper → FS → FS → List XF → Prop
  | nil (n : Nat) (s : FS) : RunsM E base ops N n [] s s []
  | cons {n : Nat} {o : Oper} {l : List Oper} {s s1 s2 : FS} {x : XF} {xs : List XF} (hn : N.contains n = false) (h : GS E base ops o s s1 x) (t : RunsM E base ops N (n + 1) l s1 s2 xs) : RunsM E base ops N n (o :: l) s s2 (x :: xs)
  | skip {n : Nat} {o : Oper} {l : List Oper} {s s2 : FS} {x : XF} {xs : List XF} (hn : N.contains n = true) (hx : x.ld = none ∧ ∀ id, id ∉ x.ch → nslfO (s.σ.ob id)) (t : RunsM E base ops N (n + 1) l s s2 xs) : RunsM E base ops N n (o :: l) s s2 (x :: xs)

def XF.leaves (a b : XF) : Bool := b.eff && match a.ld with
  | some id => !b.ch.contains id
  | none => false
def calmF (b : Array Nat) (fs : List XF) : Bool :=
  (List.range fs.length).all fun j => match fs[j]? with
    | some fj => (List.range j).all fun i => match fs[i]? with
      | some fi => (b.getD j 0).testBit i || !((fi.eff && (fj.eff || fj.rd)) || (fj.eff && fi.rd)) || (!fi.eff && fi.leaves fj) || (!fj.eff && fj.leaves fi)
      | none => true
    | none => true

section
variable {E : Env} {base : Nat} {ops : Array Oper}
theorem RunsM.trace {N : List Nat} {n : Nat} {l l2 : List Oper} {s sm s' : FS} {xs xs2 : List XF} (h : RunsM E base ops N n l s sm xs) (k : RunsM E base ops N (n + l.length) l2 sm s' xs2) :
    (xs ++ xs2).length = (l ++ l2).length ∧ ∃ st : Nat → FS, st 0 = s ∧ st l.length = sm ∧ st (l.length + l2.length) = s' ∧ ∀ i o, (l ++ l2)[i]? = some o → ∃ x, (xs ++ xs2)[i]? = some x ∧ ((N.contains (n + i) = false ∧ GS E base ops o (st i) (st (i + 1)) x) ∨ (N.contains (n + i) = true ∧ st (i + 1) = st i ∧ x.ld = none ∧ ∀ id, id ∉ x.ch → nslfO ((st i).σ.ob id))) := by
  induction h with
  | nil n s =>
    simp only [List.length_nil, Nat.add_zero] at k
    induction k with
    | nil n s => exact ⟨rfl, fun _ => s, rfl, rfl, rfl, fun i o h => by simp at h⟩
    | @cons n o l s s1 s2 x xs hn h t ih =>
      obtain ⟨hl, st, h3, _, h4, h5⟩ := ih
      refine ⟨by simpa using hl, fun i => match i with
        | 0 => s
        | i + 1 => st i, rfl, rfl, by simp at h4 ⊢; exact h4, fun i o' hi => ?_⟩
      cases i with
      | zero => simp at hi; subst hi; exact ⟨x, rfl, .inl ⟨hn, by simp only; rw [h3]; exact h⟩⟩
      | succ i =>
        have := h5 i o' (by simpa using hi)
        rw [show n + 1 + i = n + (i + 1) by omega] at this
        exact this
    | @skip n o l s s2 x xs hn hx t ih =>
      obtain ⟨hl, st, h3, _, h4, h5⟩ := ih
      refine ⟨by simpa using hl, fun i => match i with
        | 0 => s
        | i + 1 => st i, rfl, rfl, by simp at h4 ⊢; exact h4, fun i o' hi => ?_⟩
      cases i with
      | zero => exact ⟨x, rfl, .inr ⟨hn, h3, hx⟩⟩
      | succ i =>
        have := h5 i o' (by simpa using hi)
        rw [show n + 1 + i = n + (i + 1) by omega] at this
        exact this
  | @cons n o l s s1 s2 x xs hn h t ih =>
    obtain ⟨hl, st, h3, hm, h4, h5⟩ := ih (by rw [show n + 1 + l.length = n + (o :: l).length by simp; omega]; exact k)
    refine ⟨by simp at hl ⊢; omega, fun i => match i with
      | 0 => s
      | i + 1 => st i, rfl, by simpa using hm, by rw [show (o :: l).length + l2.length = (l.length + l2.length) + 1 by simp; omega]; exact h4, fun i o' hi => ?_⟩
    cases i with
    | zero => simp at hi; subst hi; exact ⟨x, rfl, .inl ⟨hn, by simp only; rw [h3]; exact h⟩⟩
    | succ i =>
      have := h5 i o' (by simpa using hi)
      rw [show n + 1 + i = n + (i + 1) by omega] at this
      exact this
  | @skip n o l s s2 x xs hn hx t ih =>
    obtain ⟨hl, st, h3, hm, h4, h5⟩ := ih (by rw [show n + 1 + l.length = n + (o :: l).length by simp; omega]; exact k)
    refine ⟨by simp at hl ⊢; omega, fun i => match i with
      | 0 => s
      | i + 1 => st i, rfl, by simpa using hm, by rw [show (o :: l).length + l2.length = (l.length + l2.length) + 1 by simp; omega]; exact h4, fun i o' hi => ?_⟩
    cases i with
    | zero => exact ⟨x, rfl, .inr ⟨hn, h3, hx⟩⟩
    | succ i =>
      have := h5 i o' (by simpa using hi)
      rw [show n + 1 + i = n + (i + 1) by omega] at this
      exact this

theorem calm_of (base : Nat) {st : Nat → FS} {xs : List XF} (hst : ∀ i o, ops[i]? = some o → ∃ x, xs[i]? = some x ∧ ((∃ f, f = x ∧ GS E base ops o (st i) (st (i + 1)) f) ∨ (st (i + 1) = st i ∧ x.ld = none ∧ ∀ id, id ∉ x.ch → nslfO ((st i).σ.ob id)))) (hlen : xs.length ≤ ops.size)
    (h : calmF (Region.before ops) xs = true) : Calm E ops st (xs.map fun x => ⟨x.eff, x.rd⟩) := by
  have hex : ∀ (i j : Nat) xi xj, xs[i]? = some xi → xs[j]? = some xj → xi.leaves xj = true → Exm E ops st i j := by
    intro i j xi xj hi hj h
    have hil : i < ops.size := Nat.lt_of_lt_of_le (List.getElem?_eq_some_iff.1 hi).1 hlen
    have hjl : j < ops.size := Nat.lt_of_lt_of_le (List.getElem?_eq_some_iff.1 hj).1 hlen
    obtain ⟨x1, h1, h2⟩ := hst i ops[i] (Array.getElem?_eq_getElem hil)
    obtain ⟨x2, h3, h4⟩ := hst j ops[j] (Array.getElem?_eq_getElem hjl)
    rw [hi] at h1; cases h1
    rw [hj] at h3; cases h3
    unfold XF.leaves at h
    rw [Bool.and_eq_true] at h
    obtain ⟨heff, h⟩ := h
    split at h
    · rename_i id hld
      have hnc : id ∉ xj.ch := by simpa using h
      refine ⟨id, ?_, ?_⟩
      · rcases h2 with ⟨_, rfl, h2⟩ | ⟨_, h2, _⟩
        · obtain ⟨t, a, p, off, g1, g2⟩ := h2.2.1 id hld
          exact ⟨ops[i], t, a, p, off, Array.getElem?_eq_getElem hil, g1, g2⟩
        · rw [h2] at hld; cases hld
      · rcases h4 with ⟨_, rfl, h4⟩ | ⟨h4, _, h5⟩
        · exact h4.2.2 id heff hnc
        · exact ⟨by rw [h4], h5 id hnc⟩
    · cases h
  intro i j fi fj hij hi hj
  rw [List.getElem?_map, Option.map_eq_some_iff] at hi hj
  obtain ⟨xi, hi, rfl⟩ := hi
  obtain ⟨xj, hj, rfl⟩ := hj
  have h1 := List.all_eq_true.1 h j (List.mem_range.2 (List.getElem?_eq_some_iff.1 hj).1)
  simp only [hj] at h1
  have h2 := List.all_eq_true.1 h1 i (List.mem_range.2 hij)
  simp only [hi, Bool.or_eq_true, Bool.not_eq_true', Bool.and_eq_true] at h2
  rcases h2 with ((h2 | h2) | h2) | h2
  · exact .inl h2
  · refine .inr (.inl ?_)
    simp only
    cases h3 : xi.eff <;> cases h4 : xj.eff <;> cases h5 : xi.rd <;> cases h6 : xj.rd <;> simp_all
  · exact .inr (.inr (.inl ⟨h2.1, hex i j xi xj hi hj h2.2⟩))
  · exact .inr (.inr (.inr ⟨h2.1, hex j i xj xi hj hi h2.2⟩))
end

section
variable {E : Env} {base : Nat} {c00 : Ctx} {σ00 : Store} {s : FS} {R : Post}

theorem runs_list {ops : Array Oper} {Q : Exit → Act → World → Prop} (hU : Under E base c00 σ00) {n : Nat} {l : List Oper} {s s1 : FS} {xs : List XF} (h : RunsM E base ops [] n l s s1 xs) :
    ∀ {c : Ctx} {a : Act}, SR base c00 σ00 s c a → ∀ {post : List Oper}, (∀ c' a', SR base c00 σ00 s1 c' a' → wpList E.P ops Q post a' c'.w) → wpList E.P ops Q (l ++ post) a c.w := by
  induction h with
  | nil n s => intro c a hS post hQ; exact hQ c a hS
  | @cons n o l s s1 s2 x xs hn h t ih =>
    intro c a hS post hQ
    obtain ⟨ci, hci, h1⟩ := h.1
    exact wpList_step fun K hK => step_ok hU.tab hci hU.inv hU.gl hS h1 K Q (fun u c' hS' => hK _ _ (ih hS' hQ)) (fun V _ _ hV => absurd hV (hU.np V))
  | skip hn t ih => simp at hn

/-- A region by a run. -/
theorem Wp.regionRun (hU : Under E base c00 σ00) {id : Nat} {ops : Array Oper} {d : Bool} {s1 : FS} {xs : List XF} (h : RunsM E base ops [] 0 ops.toList s s1 xs) (hq : d = true → (regOK ops && calmF (Region.before ops) xs) = true) (k : R .nrm s1) :
    Wp E base c00 σ00 (.region id ops d) s R := fun cx a hS Q hQ => by
  cases d with
  | false =>
    refine wp_region_list ?_
    have := runs_list (Q := Q) hU h hS (post := []) (fun c' a' hs => hQ .nrm s1 a' c' k hs)
    simpa using this
  | true =>
    have hq := hq rfl
    rw [Bool.and_eq_true] at hq
    obtain ⟨hlen, st, h0, _, hn, hst⟩ := h.trace (l2 := []) (xs2 := []) (.nil _ _)
    simp only [List.append_nil] at hlen hst
    have hst' : ∀ i o, ops[i]? = some o → ∃ x, xs[i]? = some x ∧ GS E base ops o (st i) (st (i + 1)) x := fun i o ho => by
      obtain ⟨x, h1, h2⟩ := hst i o (by simpa using ho)
      rcases h2 with ⟨_, h2⟩ | ⟨h2, _⟩
      · exact ⟨x, h1, h2⟩
      · simp at h2
    refine region_any hU.tab hU.inv hU.gl hU.mix hS hq.1 h0 (by simpa using hn) (fs := xs.map fun x => ⟨x.eff, x.rd⟩) (A := fun _ => true) (fun i o ho => ?_) (calm_of base (fun i o ho => ?_) (by simp at hlen; omega) hq.2) (fun _ a' c' hs => hQ .nrm s1 a' c' k hs) (fun V _ _ hV => absurd hV (hU.np V)) (fun _ _ _ h => by cases h)
    · obtain ⟨x, h1, h2⟩ := hst' i o ho
      exact ⟨_, by rw [List.getElem?_map, h1]; rfl, .inl ⟨rfl, h2.1⟩⟩
    · obtain ⟨x, h1, h2⟩ := hst' i o ho
      exact ⟨x, h1, .inl ⟨x, rfl, h2⟩⟩

/-- A region of which one operation panics. -/
theorem Wp.regionPan (hU : Under E base c00 σ00) {id : Nat} {ops : Array Oper} {s1 : FS} {xs : List XF} {o : Oper} {V : Value} {md : Option Nat} {pre post : List Oper} (hl : ops.toList = pre ++ o :: post)
    (h : RunsM E base ops [] 0 pre s s1 xs) (hw : wantedAV ops s1.tm o = some true) (hp : PanAt E base s1.tm s1.σ o V md) {s3 : FS} (h3 : s3.low = omin s1.low (cut s1.c0 md)) (k : R (.pan V) s3) :
    Wp E base c00 σ00 (.region id ops false) s R := fun cx a hS Q hQ => by
  refine wp_region_list ?_
  rw [hl]
  refine runs_list hU h hS (fun c' a' hS' => wpList_step fun K hK => step_pan hU.inv hU.gl hS' hw hp K Q (fun c'' h1 h2 h4 => hQ (.pan V) s3 a' c'' k ⟨h1, h2, by rw [h3]; exact h4⟩))

/-- The same, of a region that draws its order; 'N': what is not reached. -/
theorem Wp.regionPanX (hU : Under E base c00 σ00) {id : Nat} {ops : Array Oper} {sp s1 : FS} (N : List Nat) (p : Nat) {o : Oper} {V : Value} {md : Option Nat} {pre post : List Oper} (hl : ops.toList = pre ++ o :: post) (hpl : pre.length = p)
    {xs1 xs2 : List XF} {x : XF} (h1 : RunsM E base ops N 0 pre s sp xs1) (h2 : RunsM E base ops N p (o :: post) sp s1 (x :: xs2)) (hx : x.eff = true)
    (hq : (regOK ops && calmF (Region.before ops) (xs1 ++ x :: xs2) && N.contains p && N.all (fun k => k == p || ((Region.before ops).getD k 0).testBit p)) = true)
    (hw : wantedAV ops sp.tm o = some true) (hpan : PanAt E base sp.tm sp.σ o V md) {s3 : FS} (h3 : s3.low = omin s1.low (cut s1.c0 md)) (k : R (.pan V) s3) :
    Wp E base c00 σ00 (.region id ops true) s R := fun cx a hS Q hQ => by
  subst hpl
  simp only [Bool.and_eq_true] at hq
  obtain ⟨⟨⟨hreg, hcalm⟩, hNp⟩, hNb⟩ := hq
  obtain ⟨hlen, st, h0, hstp, hn, hst⟩ := h1.trace (by rw [Nat.zero_add]; exact h2)
  rw [← hl] at hlen hst
  have hsz : ops.size = pre.length + (post.length + 1) := by rw [← Array.length_toList, hl]; simp
  have hst' : ∀ i o, ops[i]? = some o → ∃ y, (xs1 ++ x :: xs2)[i]? = some y ∧ ((N.contains i = false ∧ GS E base ops o (st i) (st (i + 1)) y) ∨ (N.contains i = true ∧ st (i + 1) = st i ∧ y.ld = none ∧ ∀ id, id ∉ y.ch → nslfO ((st i).σ.ob id))) := fun i o ho => by
    have := hst i o (by simpa using ho)
    rwa [Nat.zero_add] at this
  have htr : Tr E base ops st ((xs1 ++ x :: xs2).map fun x => ⟨x.eff, x.rd⟩) (fun i => !N.contains i) := fun i o ho => by
    obtain ⟨y, g1, g2⟩ := hst' i o ho
    refine ⟨_, by rw [List.getElem?_map, g1]; rfl, ?_⟩
    rcases g2 with ⟨g2, g3⟩ | ⟨g2, g3, _⟩
    · exact .inl ⟨by simp only [g2]; rfl, g3.1⟩
    · exact .inr ⟨by simp only [g2]; rfl, g3⟩
  have hxl : xs1.length = pre.length := by
    have : ∀ {n l s s' xs}, RunsM E base ops N n l s s' xs → xs.length = l.length := fun h => by
      induction h with
      | nil => rfl
      | cons _ _ _ ih => simp [ih]
      | skip _ _ _ ih => simp [ih]
    exact this h1
  have hfp : ((xs1 ++ x :: xs2).map fun x => (⟨x.eff, x.rd⟩ : Fl))[pre.length]? = some ⟨x.eff, x.rd⟩ := by
    rw [List.getElem?_map, List.getElem?_append_right (by omega), hxl]; simp
  have hC : Calm E ops st ((xs1 ++ x :: xs2).map fun x => ⟨x.eff, x.rd⟩) := calm_of base (fun i o ho => by
    obtain ⟨y, g1, g2⟩ := hst' i o ho
    refine ⟨y, g1, ?_⟩
    rcases g2 with ⟨g2, g3⟩ | ⟨g2, g3⟩
    · exact .inl ⟨y, rfl, g3⟩
    · exact .inr g3) (Nat.le_of_eq (hlen.trans (Array.length_toList (xs := ops)))) hcalm
  have hop : ops[pre.length]? = some o := by rw [← Array.getElem?_toList, hl]; simp
  refine region_any hU.tab hU.inv hU.gl hU.mix hS hreg h0 (s1 := s1) (by rw [hsz]; simpa using hn) htr hC (fun hall => ?_) (fun V _ _ hV => absurd hV (hU.np V)) (fun {ls a c k o'} K hJ hk hAk hnk hed => ?_)
  · have := hall pre.length (by omega); rw [hNp] at this; cases this
  · have hNk : N.contains k = true := by simpa using hAk
    have hkp : k = pre.length := by
      have := List.all_eq_true.1 hNb k (by simpa using hNk)
      simp only [Bool.or_eq_true, beq_iff_eq] at this
      rcases this with h | h
      · exact h
      · have h1 := before_spec (Lsd ls) hJ.closed h (fun o2 e2 h7 h8 h9 => by rw [hk] at h7; cases h7; exact hed e2 h8 h9)
        have := hJ.okA pre.length h1
        rw [hNp] at this; cases this
    subst hkp
    have ho : o' = o := by rw [hop] at hk; cases hk; rfl
    subst ho
    have h0k := chain htr (i := 0) (j := pre.length) (by omega) (by omega)
    have hkn := chain htr (i := pre.length) (j := ops.size) (by omega) (by omega)
    have hgo : StGo σ00 (st 0).σ := by rw [h0]; exact hS.go
    have hsz : a.tmps.size = (st pre.length).tm.length := by rw [hJ.asz, h0k.2.2.1]
    have hlook : ∀ t, t ∈ o'.looksAt ops → Rep (c.upto (st pre.length).σ.clock) ((st pre.length).tm.getD t .junk) (a.tmps.getD t undef) := fun t ht =>
      hJ.tm t pre.length (by omega) (fun i h1 h2 => ord4 hreg hJ hk hed h1 h2 (.inl ht)) (fun i h1 h2 => ord5 hreg hJ hk hnk h1 h2 (.inl ht))
    have hguard : ∀ j want d, o'.guard = some (j, want) → (ops[j]?).bind (·.dst) = some d → Rep (c.upto (st pre.length).σ.clock) ((st pre.length).tm.getD d .junk) (a.tmps.getD d undef) := fun j want d h1 h2 =>
      hlook d (by simp [Oper.looksAt, h1, h2])
    have heU : Ext c00 (c.upto (st pre.length).σ.clock) :=
      (Ext.of_upto (κ := (st pre.length).σ.clock) (fun id l h => Nat.lt_of_lt_of_le (hU.inv.dom id l h) (Nat.le_trans hgo.clock h0k.1.clock))).trans (hJ.ext.upto _)
    have hl : LoudAt _ pre.length := ⟨_, hfp, .inl hx⟩
    have hxm : ∀ e, ¬ Exm E ops st pre.length e := by
      rintro e ⟨_, ⟨o2, t, a2, _, _, g1, g2, _⟩, _⟩
      rw [hk] at g1; cases g1
      exact hpan.1 t a2 g2
    have hIk := inv_at hU.inv htr hC hgo hJ hk hnk hed hl hxm
    unfold wpOp
    simp only [hk]
    rw [wanted_ok (c := c.upto (st pre.length).σ.clock) hsz hguard (by rw [hstp]; exact hw)]
    simp only [if_true]
    left
    rw [← hstp] at hpan
    refine hpan.2 (c.upto (st pre.length).σ.clock) a hIk (hU.gl.mono heU) (fun x hx => evOp_reps (hU.gl.mono heU) (fun t ht => hlook t ?_)) K Q (fun c' e hfr => hQ (.pan V) _ a c' k ⟨hJ.dfr, heU.trans e, ?_⟩)
    · subst ht
      exact List.mem_append_left _ (List.mem_filterMap.2 ⟨.tmp t, by simpa using hx, rfl⟩)
    · have h1 := Fr.trans (hJ.fr.upto (st pre.length).σ.clock) hfr (Nat.le_trans hgo.clock h0k.1.clock) heU hIk.core (hgo.trans h0k.1).live' hU.inv.dom
      have hs1 : s1 = st ops.size := by rw [← hn]; congr 1; simp; omega
      have hc0 : s1.c0 = σ00.clock := by
        rw [hs1, hkn.2.1, h0k.2.1, h0]; exact hS.c0
      show Fr c00 σ00 s3.low c'
      rw [h3, hc0, hs1]
      exact Fr.low h1 hU.inv.dom (fun id l => omin_cut id l)
end
end Go.Bx

/- Values with plain payload, and the operations on them that reach no object. (Own text.) -/
namespace Go.Bx
set_option linter.unusedVariables false
set_option linter.unusedSimpArgs false
set_option linter.unusedSectionVars false
set_option linter.unusedVariables false
set_option linter.unusedSectionVars false
set_option linter.unusedSimpArgs false

inductive SV (I : TypeId → Type) where
  | c (v : Value)
  | i (k : IntKind) (n : Int)
  | b (x : Bool)
  | s (x : Str)
  | l (t : TypeId) (xs : List (I t))
  | row (o : Nat) (t : TypeId) (lo n : Nat)
  | rowx (o : Nat) (t : TypeId) (lo n : Nat)
  | ptr (o p off : Nat)
  | tptr (o : Nat) (t : TypeId)
  | slf (o : Nat)
  | trow (o : Nat) (t : TypeId) (n : Nat)
  | vp (cs : List (SV I))
  | agg (cs : List (SV I))
  | tup (vs : List (SV I))
  | fn (f : FuncId) (first caps : List (SV I))
  | ifc (t : TypeId) (x : SV I)
  | emp
  | junk

/-- What is told of a seat: the plain types of the slices' elements, and how they lie in cells. -/
structure Sys where
  E : Env
  I : TypeId → Type
  sz : TypeId → Nat
  enc : (t : TypeId) → I t → Cs
  toC : (t : TypeId) → I t → List (SV I)
  ofC : (t : TypeId) → List (SV I) → Option (I t)
  /-- Of each cell of a type: whose slice it is. -/
  lay : TypeId → List (Option TypeId)
  /-- A text's bytes as elements. -/
  bts : (t : TypeId) → Str → Option (List (I t))
  /-- Elements as a text's bytes. -/
  stb : (t : TypeId) → List (I t) → Option Str

mutual
def av (X : Sys) : SV X.I → AV
  | .c v => .v v
  | .i k n => .v (.int k n)
  | .b x => .v (.bool x)
  | .s x => .v (.string (mkS x))
  | .l t xs => .sl (xs.map (X.enc t))
  | .row o t lo n => .row o (X.sz t) lo n
  | .rowx o t lo n => .row o (X.sz t) lo n
  | .ptr o p off => .ptr o p off
  | .tptr o t => .tptr o t
  | .slf o => .slf o
  | .trow o t n => .trow o t n
  | .vp cs => .vp (avs X cs)
  | .agg cs => .agg (avs X cs)
  | .tup vs => .tup (avs X vs)
  | .fn f a b => .fn f (avs X a) (avs X b)
  | .ifc t x => .ifc t (av X x)
  | .emp => .emp
  | .junk => .junk
def avs (X : Sys) : List (SV X.I) → List AV
  | [] => []
  | x :: xs => av X x :: avs X xs
end

structure SysOK (X : Sys) : Prop where
  tab : TabOK X.E.P X.E.T
  mix : X.E.P.follows .mixedOrders = true
  np : ∀ V, ¬ X.E.pan V
  gl : ∀ g, X.E.gl g = .junk
  encC : ∀ t x, X.enc t x = avs X (X.toC t x)
  encPl : ∀ t x, (X.enc t x).all pl = true
  encLen : ∀ t x, (X.enc t x).length = X.sz t
  of : ∀ t cs x, X.ofC t cs = some x → avs X cs = X.enc t x
  szT : ∀ t r, X.E.T t = some r → X.sz t = r.sz
  stbOK : ∀ t l z, X.stb t l = some z → strOf (l.map (X.enc t)) = some z
  btsOK : ∀ t z l, X.bts t z = some l → l.map (X.enc t) = byteCells (mkS z)

section
variable {X : Sys}
theorem avs_map (l : List (SV X.I)) : avs X l = l.map (av X) := by
  induction l with
  | nil => rfl
  | cons x l ih => simp only [avs, List.map_cons, ih]
theorem avs_get (l : List (SV X.I)) (n : Nat) : (avs X l)[n]? = (l[n]?).map (av X) := by rw [avs_map, List.getElem?_map]
theorem avs_getD (l : List (SV X.I)) (n : Nat) : (avs X l).getD n .junk = av X (l.getD n .junk) := by
  rw [List.getD_eq_getElem?_getD, List.getD_eq_getElem?_getD, avs_get]
  cases l[n]? <;> rfl
theorem avs_length (l : List (SV X.I)) : (avs X l).length = l.length := by rw [avs_map, List.length_map]
theorem avs_append (l m : List (SV X.I)) : avs X (l ++ m) = avs X l ++ avs X m := by simp only [avs_map, List.map_append]
theorem avs_set (l : List (SV X.I)) (n : Nat) (x : SV X.I) : avs X (l.set n x) = (avs X l).set n (av X x) := by simp only [avs_map, List.map_set]
theorem avs_drop (l : List (SV X.I)) (n : Nat) : avs X (l.drop n) = (avs X l).drop n := by simp only [avs_map, List.map_drop]
theorem avs_take (l : List (SV X.I)) (n : Nat) : avs X (l.take n) = (avs X l).take n := by simp only [avs_map, List.map_take]
end

def cst {I : TypeId → Type} : Value → SV I
  | .int k n => .i k n
  | .bool b => .b b
  | .string s => .s s.data.toList
  | v => .c v
theorem av_cst (X : Sys) (v : Value) : av X (cst v) = .v v := by
  cases v <;> rfl
theorem avs_cst (X : Sys) (z : List Value) : avs X (z.map cst) = z.map .v := by
  rw [avs_map, List.map_map]; exact List.map_congr_left fun v _ => av_cst X v

def cellsS {I : TypeId → Type} : SV I → List (SV I)
  | .agg cs => cs
  | x => [x]
theorem avs_cells {X : Sys} (x : SV X.I) : avs X (cellsS x) = cells (av X x) := by cases x <;> simp [cellsS, av, cells, avs]
/-- Fits into one cell. -/
def leafS {I : TypeId → Type} : SV I → Bool
  | .c v => v.oneCell'
  | .agg _ => false
  | .tup _ => false
  | .junk => false
  | _ => true
def plS {I : TypeId → Type} : SV I → Bool
  | .c v => v.oneCell'
  | .i _ _ => true
  | .b _ => true
  | .s _ => true
  | .l _ _ => true
  | .emp => true
  | _ => false
theorem leaf_av {X : Sys} (x : SV X.I) : leaf (av X x) = leafS x := by cases x <;> simp [leafS, av, leaf, Value.oneCell']
theorem pl_av {X : Sys} (x : SV X.I) : pl (av X x) = plS x := by cases x <;> simp [plS, av, pl, Value.oneCell']
theorem all_leaf {X : Sys} (l : List (SV X.I)) : (avs X l).all leaf = l.all leafS := by
  rw [avs_map, List.all_map]; congr 1; funext x; exact leaf_av x
theorem all_plS {X : Sys} (l : List (SV X.I)) : (avs X l).all pl = l.all plS := by
  rw [avs_map, List.all_map]; congr 1; funext x; exact pl_av x
def ofCellsS {I : TypeId → Type} (ag : Bool) (cs : List (SV I)) : Option (SV I) :=
  if ag then some (.agg cs) else match cs with
    | [x] => some x
    | _ => none
theorem ofCells_av {X : Sys} {ag : Bool} {cs : List (SV X.I)} {y : SV X.I} (h : ofCellsS ag cs = some y) : ofCells ag (avs X cs) = some (av X y) := by
  unfold ofCellsS at h
  unfold ofCells
  split at h
  · rename_i ha; cases h; rw [if_pos ha]; rfl
  · rename_i ha
    rw [if_neg ha]
    split at h
    · cases h; rfl
    · cases h

def putAtS {I : TypeId → Type} (cs : List (SV I)) (off : Nat) (new : List (SV I)) : List (SV I) := cs.take off ++ (new ++ cs.drop (off + new.length))
theorem putAt_av {X : Sys} (cs : List (SV X.I)) (off : Nat) (new : List (SV X.I)) : avs X (putAtS cs off new) = putAt (avs X cs) off (avs X new) := by
  simp only [putAtS, putAt, avs_append, avs_take, avs_drop, avs_length, List.append_assoc]
def fillS {I : TypeId → Type} (place : Nat → Option (Nat × Nat)) (cs : List (SV I)) : List (Nat × SV I) → Option (List (SV I))
  | [] => some cs
  | (i, x) :: rest => match place i with
    | none => none
    | some (off, size) => if ((cellsS x).length == size && Nat.ble (off + size) cs.length && (cellsS x).all leafS) = true then fillS place (putAtS cs off (cellsS x)) rest else none
theorem fill_av {X : Sys} (place : Nat → Option (Nat × Nat)) : ∀ (l : List (Nat × SV X.I)) (cs : List (SV X.I)) {y : List (SV X.I)}, fillS place cs l = some y → fillL place (avs X cs) (l.map fun p => (p.1, av X p.2)) = some (avs X y)
  | [], cs, y, h => by cases h; rfl
  | (i, x) :: l, cs, y, h => by
    simp only [fillS] at h
    simp only [List.map_cons, fillL]
    split at h
    · cases h
    · rename_i off size hp
      simp only [hp]
      split at h
      · rename_i hc
        simp only [Bool.and_eq_true, beq_iff_eq, Nat.ble_eq] at hc
        obtain ⟨⟨h1, h2⟩, h3⟩ := hc
        rw [if_pos ⟨by rw [← avs_cells, avs_length]; exact h1, by rw [avs_length]; exact h2, by rw [← avs_cells, all_leaf]; exact h3⟩, ← avs_cells, ← putAt_av]
        exact fill_av place l _ h
      · cases h

/-- An operand. -/
def rho {I : TypeId → Type} (tm : List (SV I)) : Operand → SV I
  | .tmp t => tm.getD t .junk
  | .const v => cst v
  | .global _ => .junk
  | .func f => .fn f [] []
theorem rho_av {X : Sys} (hX : SysOK X) (tm : List (SV X.I)) (x : Operand) : evOp X.E.gl (avs X tm) x = av X (rho tm x) := by
  cases x with
  | tmp t => exact avs_getD tm t
  | const v => exact (av_cst X v).symm
  | global g => exact hX.gl g
  | func f => rfl

/-! ### words -/
/-- A number within a length. -/
def inB (i : Int) (n : Nat) : Option Unit := if 0 ≤ i ∧ i.toNat < n then some () else none
/-- A cut's bounds. -/
def cutB (lo hi : Int) (n : Nat) : Option Unit := if 0 ≤ lo ∧ 0 ≤ hi ∧ lo.toNat ≤ hi.toNat ∧ hi.toNat ≤ n then some () else none
theorem inB_some {i : Int} {n : Nat} {u : Unit} (h : inB i n = some u) : 0 ≤ i ∧ i.toNat < n := by unfold inB at h; split at h <;> simp_all
theorem cutB_some {lo hi : Int} {n : Nat} {u : Unit} (h : cutB lo hi n = some u) : 0 ≤ lo ∧ 0 ≤ hi ∧ lo.toNat ≤ hi.toNat ∧ hi.toNat ≤ n := by
  unfold cutB at h
  split at h
  · assumption
  · cases h

theorem bind_some' {α β : Type} {x : Option α} {f : α → Option β} {r : β} (h : (x >>= f) = some r) : ∃ a, x = some a ∧ f a = some r := by
  cases x with
  | none => cases h
  | some a => exact ⟨a, rfl, h⟩

/-! ### arithmetic and comparisons -/
variable {β : Type}
def xInt {I : TypeId → Type} (op : BinOp) (k : IntKind) (a : Int) (k' : IntKind) (b : Int) (K : SV I → Option β) : Option β :=
  match op with
  | .shl => nn b >>= fun _ => K (.i k (shlI k a b))
  | .shr => nn b >>= fun _ => K (.i k (shrI k a b))
  | op => if k = k' then match op with
    | .add => K (.i k (k.wrap (a + b)))
    | .sub => K (.i k (k.wrap (a - b)))
    | .mul => K (.i k (k.wrap (a * b)))
    | .quo => nz b >>= fun _ => K (.i k (quoI k a b))
    | .rem => nz b >>= fun _ => K (.i k (a.tmod b))
    | .and => K (.i k (andI k a b))
    | .or => K (.i k (orI k a b))
    | .xor => K (.i k (xorI k a b))
    | .eql => K (.b (a == b))
    | .neq => K (.b (a != b))
    | .lss => K (.b (decide (a < b)))
    | .leq => K (.b (decide (a ≤ b)))
    | .gtr => K (.b (decide (a > b)))
    | .geq => K (.b (decide (a ≥ b)))
    | _ => none
    else none
theorem xInt_ok {X : Sys} {op : BinOp} {k k' : IntKind} {a b : Int} {K : SV X.I → Option β} {r : β} (h : xInt op k a k' b K = some r) : ∃ y, K y = some r ∧ (intBin op k a k' b).map AV.v = some (av X y) := by
  unfold xInt at h
  split at h
  · obtain ⟨u, h1, h2⟩ := bind_some' h
    exact ⟨_, h2, by rw [intBin_shl k a b, if_neg (nn_some h1)]; rfl⟩
  · obtain ⟨u, h1, h2⟩ := bind_some' h
    exact ⟨_, h2, by rw [intBin_shr k a b, if_neg (nn_some h1)]; rfl⟩
  · split at h
    · rename_i hk; subst hk
      split at h
      · exact ⟨_, h, by rw [intBin_add]; rfl⟩
      · exact ⟨_, h, by rw [intBin_sub]; rfl⟩
      · exact ⟨_, h, by rw [intBin_mul]; rfl⟩
      · obtain ⟨u, h1, h2⟩ := bind_some' h
        exact ⟨_, h2, by rw [intBin_quo, if_neg (nz_some h1)]; rfl⟩
      · obtain ⟨u, h1, h2⟩ := bind_some' h
        exact ⟨_, h2, by rw [intBin_rem, if_neg (nz_some h1)]; rfl⟩
      · exact ⟨_, h, by rw [intBin_and]; rfl⟩
      · exact ⟨_, h, by rw [intBin_or]; rfl⟩
      · exact ⟨_, h, by rw [intBin_xor]; rfl⟩
      · exact ⟨_, h, by rw [intBin_eql]; rfl⟩
      · exact ⟨_, h, by rw [intBin_neq]; rfl⟩
      · exact ⟨_, h, by rw [intBin_lss]; rfl⟩
      · exact ⟨_, h, by rw [intBin_leq]; rfl⟩
      · exact ⟨_, h, by rw [intBin_gtr]; rfl⟩
      · exact ⟨_, h, by rw [intBin_geq]; rfl⟩
      · cases h
    · cases h

def xStr {I : TypeId → Type} (op : BinOp) (a b : Str) (K : SV I → Option β) : Option β :=
  match op with
  | .add => cat a b >>= fun r => K (.s r)
  | .eql => K (.b (a == b))
  | .neq => K (.b (a != b))
  | .lss => K (.b (Op.bytesLess a b))
  | .leq => K (.b (Op.bytesLess a b || a == b))
  | .gtr => K (.b !(Op.bytesLess a b || a == b))
  | .geq => K (.b !(Op.bytesLess a b))
  | _ => none
theorem mkS_toList (a : Str) : (mkS a).toList = a := by rw [ByteArray.toList_eq]; rfl
theorem xStr_ok {X : Sys} {op : BinOp} {a b : Str} {K : SV X.I → Option β} {r : β} (h : xStr op a b K = some r) : ∃ y, K y = some r ∧ (strBin op (mkS a) (mkS b)).map AV.v = some (av X y) := by
  unfold xStr at h
  split at h
  · obtain ⟨u, h1, h2⟩ := bind_some' h
    obtain ⟨h3, rfl⟩ := cat_some h1
    exact ⟨_, h2, by rw [strBin_add, if_neg h3]; rfl⟩
  · exact ⟨_, h, by rw [strBin_eql]; rfl⟩
  · exact ⟨_, h, by rw [strBin_neq]; rfl⟩
  · exact ⟨_, h, by simp only [strBin, mkS_toList]; rfl⟩
  · exact ⟨_, h, by simp only [strBin, mkS_toList]; rfl⟩
  · exact ⟨_, h, by simp only [strBin, mkS_toList]; rfl⟩
  · exact ⟨_, h, by simp only [strBin, mkS_toList]; rfl⟩
  · cases h

/-- '==' of what is no int and no text. -/
def xEq {I : TypeId → Type} (T : Tab) (t : TypeId) (x y : SV I) : Option Bool :=
  match tdesc T t, x, y with
  | some .bool, .b a, .b b => some (a == b)
  | some (.ptr _), .c (.pointer none), .c (.pointer none) => some true
  | some (.ptr _), .ptr _ _ _, .c (.pointer none) => some false
  | some (.ptr _), .vp _, .c (.pointer none) => some false
  | some (.ptr _), .c (.pointer none), .ptr _ _ _ => some false
  | some .iface, .c .nilIface, .c .nilIface => some true
  | some .iface, .ifc _ _, .c .nilIface => some false
  | some .func, .c .nilFunc, .c .nilFunc => some true
  | some .func, .fn _ _ _, .c .nilFunc => some false
  | _, _, _ => none
theorem xEq_ok {X : Sys} {T : Tab} {t : TypeId} {x y : SV X.I} {b : Bool} (h : xEq T t x y = some b) : eqAV T t (av X x) (av X y) = some b := by
  unfold xEq at h
  unfold eqAV
  split at h <;> first | (cases h; simp_all [av]; done) | cases h

def xEqC {I : TypeId → Type} (T : Tab) : List (Nat × TypeId) → List (SV I) → List (SV I) → Option Bool
  | [], _, _ => some true
  | (o, t) :: rest, xs, ys => match tdesc T t, xs[o]?, ys[o]?, xEqC T rest xs ys with
    | some (.int _), some (.i k a), some (.i k' b), some r => if k = k' then some ((a == b) && r) else none
    | some .bool, some (.b a), some (.b b), some r => some ((a == b) && r)
    | some .str, some (.s a), some (.s b), some r => some ((a == b) && r)
    | _, _, _, _ => none
theorem mkS_beq (a b : Str) : (mkS a == mkS b) = (a == b) := by
  show ((mkS a).data == (mkS b).data) = _
  simp [mkS]
theorem xEqC_ok {X : Sys} {T : Tab} {xs ys : List (SV X.I)} : ∀ {fs : List (Nat × TypeId)} {b : Bool}, xEqC T fs xs ys = some b → eqCells T fs (avs X xs) (avs X ys) = some b
  | [], b, h => by cases h; rfl
  | (o, t) :: rest, b, h => by
    simp only [xEqC] at h
    simp only [eqCells, avs_get]
    split at h
    · rename_i k0 k a k' b' r h1 h2 h3 h4
      split at h
      · rename_i hk; subst hk; cases h
        have := xEqC_ok h4
        simp only [h1, h2, h3, Option.map_some, av, if_true, this]
        cases (a == b') <;> rfl
      · cases h
    · rename_i a b' r h1 h2 h3 h4; cases h
      have := xEqC_ok h4
      simp only [h1, h2, h3, Option.map_some, av, this]
      cases (a == b') <;> rfl
    · rename_i a b' r h1 h2 h3 h4; cases h
      have := xEqC_ok h4
      simp only [h1, h2, h3, Option.map_some, av, this, mkS_beq]
      cases (a == b') <;> rfl
    · cases h

def xBin {I : TypeId → Type} (T : Tab) (op : BinOp) (t : TypeId) (x y : SV I) (K : SV I → Option β) : Option β :=
  match x, y with
  | .i k a, .i k' b => xInt op k a k' b K
  | .s a, .s b => xStr op a b K
  | .agg xs, .agg ys => match T t, op with
    | some ⟨.struct fs, _, _, _, true, _, _⟩, .eql => match xEqC T fs xs ys with
      | some b => K (.b b)
      | none => none
    | some ⟨.struct fs, _, _, _, true, _, _⟩, .neq => match xEqC T fs xs ys with
      | some b => K (.b !b)
      | none => none
    | _, _ => none
  | x, y => match op, xEq T t x y with
    | .eql, some b => K (.b b)
    | .neq, some b => K (.b !b)
    | _, _ => none
theorem xBin_ok {X : Sys} {T : Tab} {op : BinOp} {t : TypeId} {x y : SV X.I} {K : SV X.I → Option β} {r : β} (h : xBin T op t x y K = some r) : ∃ z, K z = some r ∧ evBin T op t (av X x) (av X y) = some (av X z) := by
  unfold xBin at h
  split at h
  · exact xInt_ok h
  · exact xStr_ok h
  · split at h
    · rename_i fs _ _ _ _ _ hT
      split at h
      · rename_i b hb
        exact ⟨_, h, by simp only [av, evBin, hT, xEqC_ok hb]; rfl⟩
      · cases h
    · rename_i fs _ _ _ _ _ hT
      split at h
      · rename_i b hb
        exact ⟨_, h, by simp only [av, evBin, hT, xEqC_ok hb]; rfl⟩
      · cases h
    · cases h
  · rename_i hn1 hn2 hn3
    have key : ∀ b, xEq T t x y = some b → (∀ (P : Option AV → Prop), P ((eqAV T t (av X x) (av X y)).map fun b => .v (.bool b)) → op = .eql → P (evBin T op t (av X x) (av X y))) ∧ (∀ (P : Option AV → Prop), P ((eqAV T t (av X x) (av X y)).map fun b => .v (.bool !b)) → op = .neq → P (evBin T op t (av X x) (av X y))) := by
      intro b hb
      have : (∃ z, x = .b z) ∨ (∃ v, x = .c v) ∨ (∃ a b c, x = .ptr a b c) ∨ (∃ cs, x = .vp cs) ∨ (∃ t z, x = .ifc t z) ∨ ∃ f a b, x = .fn f a b := by
        unfold xEq at hb
        split at hb <;> cases hb <;> simp
      have hc : ∀ v, x = .c v → v = .pointer none ∨ v = .nilIface ∨ v = .nilFunc := by
        intro v hv; subst hv
        unfold xEq at hb
        split at hb <;> cases hb <;> simp_all
      constructor
      · intro P hP ho; subst ho
        rcases this with ⟨z, rfl⟩ | ⟨v, rfl⟩ | ⟨_, _, _, rfl⟩ | ⟨_, rfl⟩ | ⟨_, _, rfl⟩ | ⟨_, _, _, rfl⟩
        · exact hP
        · rcases hc v rfl with rfl | rfl | rfl <;> exact hP
        all_goals exact hP
      · intro P hP ho; subst ho
        rcases this with ⟨z, rfl⟩ | ⟨v, rfl⟩ | ⟨_, _, _, rfl⟩ | ⟨_, rfl⟩ | ⟨_, _, rfl⟩ | ⟨_, _, _, rfl⟩
        · exact hP
        · rcases hc v rfl with rfl | rfl | rfl <;> exact hP
        all_goals exact hP
    split at h
    · rename_i b hb
      exact ⟨_, h, (key b hb).1 (fun z => z = some (av X (.b b))) (by rw [xEq_ok hb]; rfl) rfl⟩
    · rename_i b hb
      exact ⟨_, h, (key b hb).2 (fun z => z = some (av X (.b !b))) (by rw [xEq_ok hb]; rfl) rfl⟩
    · cases h
end Go.Bx

/- The operations that reach no object, on values with plain payload. (Own text.) -/
namespace Go.Bx
set_option linter.unusedVariables false
set_option linter.unusedSimpArgs false
set_option linter.unusedSectionVars false
set_option linter.unusedVariables false
set_option linter.unusedSectionVars false
set_option linter.unusedSimpArgs false
variable {β : Type}

def lenS {I : TypeId → Type} : SV I → Option Int
  | .s x => some (x.length : Int)
  | .c (.slice none 0 0) => some 0
  | .l _ xs => some (xs.length : Int)
  | .row _ _ _ n => some (n : Int)
  | .rowx _ _ _ n => some (n : Int)
  | .emp => some 0
  | _ => none
def isStr {I : TypeId → Type} : SV I → Bool
  | .s _ => true
  | _ => false
/-- A bound of a cut. -/
def bnd {I : TypeId → Type} (d : Int) : Option (SV I) → Option Int
  | none => some d
  | some (.i _ n) => some n
  | _ => none
theorem bnd_av {X : Sys} {d : Nat} {x : Option (SV X.I)} {n : Int} (h : bnd (d : Int) x = some n) (h0 : 0 ≤ n) : boundAV d (x.map (av X)) = some n.toNat := by
  unfold bnd at h
  split at h
  · cases h; simp [boundAV]
  · cases h; simp only [Option.map_some, av, boundAV, if_pos h0]
  · cases h

def xSlice {I : TypeId → Type} (x : SV I) (lo hi : Option (SV I)) (K : SV I → Option β) : Option β :=
  match x with
  | .s a => match bnd 0 lo, bnd (a.length : Int) hi with
    | some l, some h => cutL a l h >>= fun r => K (.s r)
    | _, _ => none
  | .l t xs => match bnd 0 lo, bnd (xs.length : Int) hi with
    | some l, some h => cutL xs l h >>= fun r => K (.l t r)
    | _, _ => none
  | .row o t lo0 n => match bnd 0 lo, bnd (n : Int) hi with
    | some l, some h => cutB l h n >>= fun _ => K (.row o t (lo0 + l.toNat) (h.toNat - l.toNat))
    | _, _ => none
  | .c (.slice none 0 0) => match bnd 0 lo, bnd 0 hi with
    | some l, some h => cutB l h 0 >>= fun _ => K (.c (.slice none 0 0))
    | _, _ => none
  | _ => none
theorem cutL_iff {α : Type} {l r : List α} {lo hi : Int} (h : cutL l lo hi = some r) : 0 ≤ lo ∧ 0 ≤ hi ∧ lo.toNat ≤ hi.toNat ∧ hi.toNat ≤ l.length ∧ r = (l.take hi.toNat).drop lo.toNat := by
  obtain ⟨h1, h2, h3, h4, h5, _⟩ := cutL_some h
  exact ⟨h1, h2, h3, h4, h5⟩
theorem mkS_size (a : Str) : (mkS a).size = a.length := rfl
theorem xSlice_ok {X : Sys} {x : SV X.I} {lo hi : Option (SV X.I)} {K : SV X.I → Option β} {r : β} (h : xSlice x lo hi K = some r) :
    ∃ y, K y = some r ∧ sliceAV (av X x) (lo.map (av X)) (hi.map (av X)) = some (av X y) := by
  unfold xSlice at h
  split at h
  · rename_i a
    split at h
    · rename_i l h' h1 h2
      obtain ⟨q, h3, h4⟩ := bind_some' h
      obtain ⟨g1, g2, g3, g4, rfl⟩ := cutL_iff h3
      refine ⟨_, h4, ?_⟩
      have e1 := bnd_av (d := 0) h1 g1
      have e2 := bnd_av (d := a.length) h2 g2
      simp only [av, sliceAV, mkS_size, e1, e2, if_pos (And.intro g3 g4), mkS_extract]
    · cases h
  · rename_i t xs
    split at h
    · rename_i l h' h1 h2
      obtain ⟨q, h3, h4⟩ := bind_some' h
      obtain ⟨g1, g2, g3, g4, rfl⟩ := cutL_iff h3
      refine ⟨_, h4, ?_⟩
      have e1 := bnd_av (d := 0) h1 g1
      have e2 := bnd_av (d := xs.length) h2 g2
      simp only [av, sliceAV, List.length_map, e1, e2, if_pos (And.intro g3 g4), List.map_drop, List.map_take]
    · cases h
  · rename_i o t lo0 n
    split at h
    · rename_i l h' h1 h2
      obtain ⟨q, h3, h4⟩ := bind_some' h
      obtain ⟨g1, g2, g3, g4⟩ := cutB_some h3
      refine ⟨_, h4, ?_⟩
      have e1 := bnd_av (d := 0) h1 g1
      have e2 := bnd_av (d := n) h2 g2
      simp only [av, sliceAV, e1, e2, if_pos (And.intro g3 g4)]
    · cases h
  · split at h
    · rename_i l h' h1 h2
      obtain ⟨q, h3, h4⟩ := bind_some' h
      obtain ⟨g1, g2, g3, g4⟩ := cutB_some h3
      refine ⟨_, h4, ?_⟩
      have e1 := bnd_av (d := 0) h1 g1
      have e2 := bnd_av (d := 0) h2 g2
      simp only [av, sliceAV, e1, e2, if_pos (And.intro g3 g4)]
    · cases h
  · cases h

def xIndexAddr (X : Sys) (t : TypeId) (x ix : SV X.I) (K : SV X.I → Option β) : Option β :=
  match tdesc X.E.T t, x, ix with
  | some (.slice e), .l t' xs, .i _ i => match X.E.T e with
    | some r => if e = t' then rd xs i >>= fun q => K (.vp (X.toC t' q)) else none
    | none => none
  | some (.slice e), .row o t' lo n, .i _ i => match X.E.T e with
    | some r => if e = t' then inB i n >>= fun _ => K (.ptr o (lo + i.toNat) 0) else none
    | none => none
  | some (.slice e), .rowx o t' lo n, .i _ i => match X.E.T e with
    | some r => if e = t' then inB i n >>= fun _ => K (.ptr o (lo + i.toNat) 0) else none
    | none => none
  | some (.array n e), .vp cs, .i _ i => match X.E.T e with
    | some r => match i with
      | .ofNat m => if m < n then K (.vp (cs.drop (m * r.sz))) else none
      | .negSucc _ => none
    | none => none
  | _, _, _ => none
theorem xIndexAddr_ok {X : Sys} (hX : SysOK X) {t : TypeId} {x ix : SV X.I} {K : SV X.I → Option β} {r : β} (h : xIndexAddr X t x ix K = some r) : ∃ y, K y = some r ∧ indexAddrAV X.E.T t (av X x) (av X ix) = some (av X y) := by
  unfold xIndexAddr at h
  split at h
  · rename_i e t' xs k i hd
    split at h
    · rename_i R hR
      split at h
      · rename_i he; subst he
        obtain ⟨q, h1, h2⟩ := bind_some' h
        obtain ⟨g1, g2, g3⟩ := rd_some h1
        refine ⟨_, h2, ?_⟩
        have hl : (X.enc e q).length = R.sz := by rw [hX.encLen, hX.szT e R hR]
        have hg : (List.map (X.enc e) xs)[i.toNat]? = some (X.enc e q) := by rw [List.getElem?_map, g3]; rfl
        simp only [av, indexAddrAV, hd, hR, if_pos g1, hg, if_pos hl, hX.encC]
        rw [if_pos (by rw [← hX.encC]; exact hl)]
      · cases h
    · cases h
  · rename_i e o t' lo n k i hd
    split at h
    · rename_i R hR
      split at h
      · rename_i he; subst he
        obtain ⟨q, h1, h2⟩ := bind_some' h
        obtain ⟨g1, g2⟩ := inB_some h1
        refine ⟨_, h2, ?_⟩
        simp only [av, indexAddrAV, hd, hR, if_pos (And.intro g1 (And.intro g2 (hX.szT e R hR)))]
      · cases h
    · cases h
  · rename_i e o t' lo n k i hd
    split at h
    · rename_i R hR
      split at h
      · rename_i he; subst he
        obtain ⟨q, h1, h2⟩ := bind_some' h
        obtain ⟨g1, g2⟩ := inB_some h1
        refine ⟨_, h2, ?_⟩
        simp only [av, indexAddrAV, hd, hR, if_pos (And.intro g1 (And.intro g2 (hX.szT e R hR)))]
      · cases h
    · cases h
  · rename_i n e cs k i hd
    split at h
    · rename_i R hR
      split at h
      · rename_i m
        split at h
        · rename_i hm
          refine ⟨_, h, ?_⟩
          simp only [av, indexAddrAV, hd, hR, avs_drop]
          rw [if_pos ⟨by simp, by simpa using hm⟩]; rfl
        · cases h
      · cases h
    · cases h
  · cases h

theorem mkS_get (s : Str) (n : Nat) (h : n < (mkS s).size) : (mkS s)[n] = s[n]'h := rfl
def nilB {I : TypeId → Type} : SV I → SV I → Bool
  | .c .nilIface, .c .nilIface => true
  | _, _ => false
theorem nilB_av {X : Sys} (x y : SV X.I) : bothNil (av X x) (av X y) = nilB x y := by
  have key : ∀ z : SV X.I, av X z = .v .nilIface → z = .c .nilIface := fun z hz => by
    cases z <;> simp only [av, AV.v.injEq, reduceCtorEq] at hz
    subst hz; rfl
  unfold nilB
  split
  · rfl
  · rename_i hn
    unfold bothNil
    split
    · rename_i h1 h2; exact absurd (key _ h2) (fun e => hn (key _ h1) e)
    · rfl
/-- What an operation gives that neither looks at objects nor makes one. -/
def xA (X : Sys) (ρ : Operand → SV X.I) (o : Op) (K : SV X.I → Option β) : Option β :=
  match o with
  | .move x => K (ρ x)
  | .assign x => K (ρ x)
  | .pick q a b => match ρ q with
    | .b z => if z = true then K (ρ a) else K (ρ b)
    | _ => none
  | .build t parts => match X.E.T t with
    | some ⟨.struct fs, sz, _, z, _, _, _⟩ => if (z.length == sz && fs.all fun f => (X.E.T f.2).isSome) = true then match fillS (fun i => match fs[i]? with
        | some (o, ft) => (X.E.T ft).map fun r => (o, r.sz)
        | none => none) (z.map cst) (parts.toList.map fun p => (p.1, ρ p.2)) with
      | some cs => K (.agg cs)
      | none => none else none
    | _ => none
  | .binOp op t x y _ => if (nilB (ρ x) (ρ y) && !(constOp x || constOp y)) = true then none else xBin X.E.T op t (ρ x) (ρ y) K
  | .unOp op _ x => match op, ρ x with
    | .neg, .i k n => K (.i k (k.wrap (0 - n)))
    | .xor, .i k n => K (.i k (k.wrap (BitVec.ofInt k.bits (if k.signed then -1 else k.max) ^^^ BitVec.ofInt k.bits n).toNat))
    | .not, .b z => K (.b !z)
    | _, _ => none
  | .nilCheck x => match ρ x with
    | .ptr id i off => K (.ptr id i off)
    | .tptr id t => K (.tptr id t)
    | .vp cs => K (.vp cs)
    | .fn f a b => K (.fn f a b)
    | _ => none
  | .convert s d x => match tdesc X.E.T s, tdesc X.E.T d, ρ x with
    | some _, some (.int k), .i _ n => K (.i k (k.wrap n))
    | some _, some .str, .s z => K (.s z)
    | _, _, _ => none
  | .makeInterface t x => match tdesc X.E.T t with
    | some .iface => none
    | some _ => K (.ifc t (ρ x))
    | none => none
  | .makeFunc (.func f) first caps => K (.fn f (first.toList.map ρ) (caps.toList.map ρ))
  | .slice t x lo hi none => match tdesc X.E.T t with
    | some .str => if isStr (ρ x) = true then xSlice (ρ x) (lo.map ρ) (hi.map ρ) K else none
    | some (.slice e) => match X.E.T e, ρ x with
      | some _, .row o t' lo0 n => if e = t' then xSlice (.row o t' lo0 n) (lo.map ρ) (hi.map ρ) K else none
      | some _, .l t' xs => if e = t' then xSlice (.l t' xs) (lo.map ρ) (hi.map ρ) K else none
      | some _, .c (.slice none 0 0) => xSlice (.c (.slice none 0 0)) (lo.map ρ) (hi.map ρ) K
      | _, _ => none
    | _ => none
  | .fieldAddr s x f => match fieldPlaceT X.E.T s f, ρ x with
    | some (o, r), .vp cs => if r.sz = 0 then none else K (.vp (cs.drop o))
    | some (o, r), .ptr id i off => if r.sz = 0 then none else K (.ptr id i (off + o))
    | some (o, r), .tptr id _ => if r.sz = 0 then none else K (.ptr id 0 o)
    | _, _ => none
  | .field s x f => match fieldPlaceT X.E.T s f, ρ x with
    | some (o, r), .agg cs => if o + r.sz ≤ cs.length then match ofCellsS r.desc.isAgg ((cs.drop o).take r.sz) with
        | some y => K y
        | none => none else none
    | _, _ => none
  | .indexAddr t x ix => xIndexAddr X t (ρ x) (ρ ix) K
  | .index t x ix => match tdesc X.E.T t, ρ x, ρ ix with
    | some .str, .s z, .i _ i => bt z i >>= fun b => K (.i .u8 b)
    | _, _, _ => none
  | .extract x i => match ρ x with
    | .tup vs => match vs[i]? with
      | some y => K y
      | none => none
    | _ => none
  | .load t a => match X.E.T t, ρ a with
    | some r, .vp cs => if r.sz ≤ cs.length then match ofCellsS r.desc.isAgg (cs.take r.sz) with
        | some y => K y
        | none => none else none
    | _, _ => none
  | .call ⟨.builtin .len, args, ts⟩ => match (ts[0]?).bind X.E.T, args.toList with
    | some r, [x] => match r.desc, lenS (ρ x), isStr (ρ x) with
      | .str, some n, true => K (.i .i64 n)
      | .slice _, some n, false => K (.i .i64 n)
      | _, _, _ => none
    | _, _ => none
  | .call ⟨.builtin .min, args, _⟩ => match args.toList with
    | [x, y] => match ρ x, ρ y with
      | .i k a, .i _ b => K (.i k (if b < a then b else a))
      | _, _ => none
    | _ => none
  | .call ⟨.builtin .max, args, _⟩ => match args.toList with
    | [x, y] => match ρ x, ρ y with
      | .i k a, .i _ b => K (.i k (if b > a then b else a))
      | _, _ => none
    | _ => none
  | _ => none

theorem len_av {X : Sys} {x : SV X.I} {n : Int} (h : lenS x = some n) : ∃ m : Nat, n = (m : Int) ∧ lenAV (av X x) = some m ∧ ((isStr x = true ∧ ∃ s, av X x = .v (.string s)) ∨ (isStr x = false ∧ ∀ s, av X x ≠ .v (.string s))) := by
  unfold lenS at h
  split at h <;> first | (cases h; exact ⟨_, rfl, rfl, .inl ⟨rfl, _, rfl⟩⟩) | (cases h; exact ⟨_, rfl, by simp [av, lenAV], .inr ⟨rfl, fun s hs => by cases hs⟩⟩) | cases h

theorem xA_ok {X : Sys} (hX : SysOK X) {ρ : Operand → SV X.I} {ρ' : Operand → AV} (hρ : ∀ x, ρ' x = av X (ρ x)) {o : Op} {K : SV X.I → Option β} {r : β} (c : Nat) (h : xA X ρ o K = some r) : ∃ y, K y = some r ∧ evA X.E.T ρ' c o = some (av X y, none) := by
  unfold xA at h
  split at h
  · exact ⟨_, h, by simp only [evA, hρ]⟩
  · exact ⟨_, h, by simp only [evA, hρ]⟩
  · split at h
    · rename_i q a b z hq
      split at h
      · rename_i hz; exact ⟨_, h, by simp only [evA, hρ, hq, av, hz, if_true]⟩
      · rename_i hz; exact ⟨_, h, by simp only [evA, hρ, hq, av, if_neg hz]⟩
    · cases h
  · split at h
    · rename_i t parts x0 fs sz by_ z eq lv tp hT
      split at h
      · rename_i hc
        rw [Bool.and_eq_true, beq_iff_eq] at hc
        split at h
        · rename_i cs hcs
          refine ⟨_, h, ?_⟩
          have hf := fill_av _ _ _ hcs
          rw [avs_cst, List.map_map] at hf
          have hm : (parts.toList.map fun p => (p.1, ρ' p.2)) = parts.toList.map ((fun p : Nat × SV X.I => (p.1, av X p.2)) ∘ fun p => (p.1, ρ p.2)) := List.map_congr_left fun p _ => by simp [hρ]
          simp only [evA, hT]
          rw [if_pos ⟨hc.1, hc.2⟩, hm]
          exact congrArg (fun z => Option.map (fun y => (y, none)) (Option.map AV.agg z)) hf
        · cases h
      · cases h
    · cases h
  · split at h
    · cases h
    · rename_i hb
      obtain ⟨z, h1, h2⟩ := xBin_ok h
      refine ⟨z, h1, ?_⟩
      simp only [evA, hρ, nilB_av, if_neg hb, h2]
      rfl
  · split at h
    · rename_i hx; exact ⟨_, h, by simp only [evA, hρ, hx, av, evUn]; rfl⟩
    · rename_i hx; exact ⟨_, h, by simp only [evA, hρ, hx, av, evUn]; rfl⟩
    · rename_i hx; exact ⟨_, h, by simp only [evA, hρ, hx, av, evUn]; rfl⟩
    · cases h
  · split at h
    · rename_i hx; exact ⟨_, h, by simp only [evA, hρ, hx, av]⟩
    · rename_i hx; exact ⟨_, h, by simp only [evA, hρ, hx, av]⟩
    · rename_i hx; exact ⟨_, h, by simp only [evA, hρ, hx, av]⟩
    · rename_i hx; exact ⟨_, h, by simp only [evA, hρ, hx, av]⟩
    · cases h
  · split at h
    · rename_i h1 h2 hx; exact ⟨_, h, by simp only [evA, hρ, hx, h1, h2, av]⟩
    · rename_i h1 h2 hx; exact ⟨_, h, by simp only [evA, hρ, hx, h1, h2, av]⟩
    · cases h
  · split at h
    · cases h
    · rename_i hn hd
      refine ⟨_, h, ?_⟩
      simp only [evA, hρ, hd, av]
    · cases h
  · rename_i f first caps
    refine ⟨_, h, ?_⟩
    have hm : ∀ l : List Operand, l.map ρ' = avs X (l.map ρ) := fun l => by
      rw [avs_map, List.map_map]; exact List.map_congr_left fun x _ => hρ x
    simp only [evA, hm, av]
  · rename_i t x lo hi
    have hmo : ∀ z : Option Operand, z.map ρ' = (z.map ρ).map (av X) := fun z => by cases z <;> simp [hρ]
    split at h
    · rename_i hd
      split at h
      · rename_i hs
        obtain ⟨y, h1, h2⟩ := xSlice_ok h
        refine ⟨y, h1, ?_⟩
        have hx : ∃ z, ρ x = .s z := by
          cases hq : ρ x <;> rw [hq] at hs <;> first | exact ⟨_, rfl⟩ | cases hs
        obtain ⟨z, hz⟩ := hx
        rw [hz] at h2
        simp only [av] at h2
        simp only [evA, hd, hρ, hz, av, hmo, h2]
        rfl
      · cases h
    · rename_i e hd
      split at h
      · rename_i R o t' lo0 n hR hx
        split at h
        · rename_i he; subst he
          obtain ⟨y, h1, h2⟩ := xSlice_ok h
          refine ⟨y, h1, ?_⟩
          simp only [av] at h2
          have h3 := hX.szT _ _ hR
          rw [h3] at h2
          simp only [evA, hd, hR, hρ, hx, av, hmo, h3, if_true]
          rw [h2]; rfl
        · cases h
      · rename_i R t' xs hR hx
        split at h
        · rename_i he; subst he
          obtain ⟨y, h1, h2⟩ := xSlice_ok h
          refine ⟨y, h1, ?_⟩
          simp only [av] at h2
          have hall : ((xs.map (X.enc e)).all fun c => c.length == R.sz) = true := by
            rw [List.all_eq_true]; intro c hc
            obtain ⟨q, _, rfl⟩ := List.mem_map.1 hc
            rw [beq_iff_eq, hX.encLen, hX.szT _ _ hR]
          simp only [evA, hd, hR, hρ, hx, av, hmo, h2, hall, if_true]
          rfl
        · cases h
      · rename_i R hR hx
        obtain ⟨y, h1, h2⟩ := xSlice_ok h
        refine ⟨y, h1, ?_⟩
        simp only [av] at h2
        simp only [evA, hd, hR, hρ, hx, av, hmo, h2]
        rfl
      · cases h
    · cases h
  · split at h
    · rename_i hf hx
      split at h
      · cases h
      · rename_i hz; exact ⟨_, h, by simp only [evA, hρ, hx, hf, av, if_neg hz, avs_drop]⟩
    · rename_i hf hx
      split at h
      · cases h
      · rename_i hz; exact ⟨_, h, by simp only [evA, hρ, hx, hf, av, if_neg hz]⟩
    · rename_i hf hx
      split at h
      · cases h
      · rename_i hz; exact ⟨_, h, by simp only [evA, hρ, hx, hf, av, if_neg hz]⟩
    · cases h
  · split at h
    · rename_i hf hx
      split at h
      · rename_i hz
        split at h
        · rename_i y hy
          refine ⟨_, h, ?_⟩
          have := ofCells_av (X := X) hy
          rw [avs_take, avs_drop] at this
          simp only [evA, hρ, hx, hf, av, avs_length, if_pos hz, this]; rfl
        · cases h
      · cases h
    · cases h
  · obtain ⟨y, h1, h2⟩ := xIndexAddr_ok hX h
    exact ⟨y, h1, by simp only [evA, hρ, h2]; rfl⟩
  · split at h
    · rename_i z k i hd hx hi
      obtain ⟨q, h1, h2⟩ := bind_some' h
      refine ⟨_, h2, ?_⟩
      unfold bt at h1
      rw [Option.map_eq_some_iff] at h1
      obtain ⟨b, h3, rfl⟩ := h1
      obtain ⟨g1, g2, g3⟩ := rd_some h3
      rw [List.getElem?_eq_getElem g2] at g3
      have g4 := Option.some.inj g3
      simp only [evA, hd, hρ, hx, hi, av]
      rw [dif_pos ⟨g1, g2⟩]
      show some (AV.v (Value.int .u8 ((z[i.toNat]'g2).toNat : Int)), none) = _
      rw [g4]
    · cases h
  · split at h
    · rename_i hx
      split at h
      · rename_i hy
        refine ⟨_, h, ?_⟩
        simp only [evA, hρ, hx, av, avs_get, hy]; rfl
      · cases h
    · cases h
  · split at h
    · rename_i hT hx
      split at h
      · rename_i hz
        split at h
        · rename_i y hy
          refine ⟨_, h, ?_⟩
          have := ofCells_av (X := X) hy
          rw [avs_take] at this
          simp only [evA, hT, hρ, hx, av, avs_length, if_pos hz, this]; rfl
        · cases h
      · cases h
    · cases h
  · split at h
    · rename_i args ts R x hT ha
      split at h
      · rename_i hd hl hs
        obtain ⟨m, rfl, h2, h3⟩ := len_av hl
        refine ⟨_, h, ?_⟩
        rcases h3 with ⟨_, s, h3⟩ | ⟨h3, _⟩
        · have h2' := h2; rw [h3] at h2'
          simp only [evA, hT, ha, hd, hρ, h3, h2', av]
        · rw [h3] at hs; cases hs
      · rename_i e hd hl hs
        obtain ⟨m, rfl, h2, h3⟩ := len_av hl
        refine ⟨_, h, ?_⟩
        rcases h3 with ⟨h3, _⟩ | ⟨_, h3⟩
        · rw [h3] at hs; cases hs
        · simp only [evA, hT, ha, hd, hρ, h2, av]
          first
            | done
            | (split <;> first | rfl | (rename_i s hs'; exact absurd hs' (h3 s)))
      · cases h
    · cases h
  · split at h
    · rename_i ha
      split at h
      · rename_i hx hy; exact ⟨_, h, by simp only [evA, ha, hρ, hx, hy, av]⟩
      · cases h
    · cases h
  · split at h
    · rename_i ha
      split at h
      · rename_i hx hy; exact ⟨_, h, by simp only [evA, ha, hρ, hx, hy, av]⟩
      · cases h
    · cases h
  · cases h
end Go.Bx

/- States with plain payload; the operations that reach objects. (Own text.) -/
namespace Go.Bx
set_option linter.unusedVariables false
set_option linter.unusedSimpArgs false
set_option linter.unusedSectionVars false
set_option linter.unusedVariables false
set_option linter.unusedSectionVars false
set_option linter.unusedSimpArgs false
variable {β : Type}

/-- A part of a row. -/
inductive Seg (I : TypeId → Type) (t : TypeId) where
  | xs (l : List (I t))
  | one (cs : List (SV I))
inductive SO (I : TypeId → Type) where
  | box (sz : Nat) (sh : Bool) (cs : List (SV I))
  | row (t : TypeId) (sh fl : Bool) (g : List (Seg I t))
def Seg.es (X : Sys) {t : TypeId} : Seg X.I t → List Cs
  | .xs l => l.map (X.enc t)
  | .one cs => [avs X cs]
def segs (X : Sys) {t : TypeId} (g : List (Seg X.I t)) : List Cs := g.flatMap (Seg.es X)
def segLen {I : TypeId → Type} {t : TypeId} : List (Seg I t) → Nat
  | [] => 0
  | [.xs l] => l.length
  | [.one _] => 1
  | .xs l :: g => l.length + segLen g
  | .one _ :: g => 1 + segLen g
theorem segs_length {X : Sys} {t : TypeId} (g : List (Seg X.I t)) : (segs X g).length = segLen g := by
  induction g with
  | nil => rfl
  | cons x g ih =>
    have : (segs X (x :: g)).length = (Seg.es X x).length + segLen g := by rw [← ih]; simp [segs]
    rw [this]
    cases x with
    | xs l => cases g <;> simp [Seg.es, segLen]
    | one cs => cases g <;> simp [Seg.es, segLen]
theorem segs_append {X : Sys} {t : TypeId} (g h : List (Seg X.I t)) : segs X (g ++ h) = segs X g ++ segs X h := by simp [segs]
def SO.obj (X : Sys) : SO X.I → Obj
  | .box sz sh cs => ⟨sz, sh, false, [avs X cs]⟩
  | .row t sh fl g => ⟨X.sz t, sh, fl, segs X g⟩
abbrev OB (X : Sys) := List (Option (SO X.I))
def obs (X : Sys) (ob : OB X) : List (Option Obj) := ob.map (Option.map (SO.obj X))
theorem obs_len {X : Sys} (ob : OB X) : (obs X ob).length = ob.length := by simp [obs]
theorem obs_get {X : Sys} {ob : OB X} {i : Nat} {o : SO X.I} (h : ob[i]? = some (some o)) : (St (obs X ob)).ob i = some (SO.obj X o) := by simp [St, obs, h]
theorem obs_new {X : Sys} (ob : OB X) (o : SO X.I) : (St (obs X ob)).new (SO.obj X o) = St (obs X (ob ++ [some o])) := by rw [St_new]; simp [obs]
theorem obs_put {X : Sys} {ob : OB X} {i : Nat} (o : Option (SO X.I)) (h : i < ob.length) : (St (obs X ob)).put i (o.map (SO.obj X)) = St (obs X (ob.set i o)) := by rw [St_put _ _ _ (by rw [obs_len]; exact h)]; simp [obs, List.map_set]

/-! ### what stays -/
def nsl {I : TypeId → Type} : Nat → SV I → Bool
  | 0, _ => false
  | _ + 1, .slf _ => false
  | n + 1, .agg cs => cs.all (nsl n)
  | n + 1, .tup cs => cs.all (nsl n)
  | n + 1, .fn _ as bs => as.all (nsl n) && bs.all (nsl n)
  | n + 1, .ifc _ x => nsl n x
  | _, _ => true
theorem nsl_av {X : Sys} : ∀ (n : Nat) (x : SV X.I), nslf n (av X x) = nsl n x
  | 0, x => by cases x <;> rfl
  | n + 1, x => by
    have key : ∀ l : List (SV X.I), (avs X l).all (nslf n) = l.all (nsl n) := fun l => by
      rw [avs_map, List.all_map]; congr 1; funext y; exact nsl_av n y
    cases x <;> simp only [av, nslf, nsl, key, nsl_av n]
def Seg.ns {I : TypeId → Type} {t : TypeId} : Seg I t → Bool
  | .xs _ => true
  | .one cs => cs.all (nsl 4)
def slfO {I : TypeId → Type} : Option (SO I) → Bool
  | some (.box _ _ cs) => !cs.all (nsl 4)
  | some (.row _ _ _ g) => !g.all Seg.ns
  | none => false
/-- The objects that know themselves. -/
def slfs {X : Sys} (ob : OB X) : List Nat := (List.range ob.length).filter fun i => slfO ((ob[i]?).getD none)
theorem pl_nslf {x : AV} (h : pl x = true) : nslf 4 x = true := by cases x <;> simp_all [pl, nslf]
theorem nslfO_of {X : Sys} (hX : SysOK X) {ob : OB X} {i : Nat} (h : i ∉ slfs ob) : nslfO ((St (obs X ob)).ob i) := by
  intro q hq
  have hi : i < ob.length := by
    apply Classical.byContradiction; intro hc
    rw [St_ob, List.getElem?_eq_none (by rw [obs_len]; omega)] at hq; simp at hq
  have hs : slfO ((ob[i]?).getD none) = false := by
    cases hs : slfO ((ob[i]?).getD none) with
    | false => rfl
    | true => exact absurd (List.mem_filter.2 ⟨List.mem_range.2 hi, hs⟩) h
  have key : ∀ cs : List (SV X.I), (avs X cs).all (nslf 4) = cs.all (nsl 4) := fun cs => by
    rw [avs_map, List.all_map]; congr 1; funext y; exact nsl_av 4 y
  simp only [St, obs, List.getElem?_map] at hq
  cases ho : ob[i]? with
  | none => rw [ho] at hq; simp at hq
  | some o =>
    rw [ho] at hq hs
    simp only [Option.map_some, Option.getD_some] at hq hs
    cases o with
    | none => cases hq
    | some o =>
      simp only [Option.map_some, Option.some.injEq] at hq; subst hq
      cases o with
      | box sz sh cs =>
        simp only [slfO, Bool.not_eq_false'] at hs
        simp only [SO.obj, List.all_cons, List.all_nil, Bool.and_true]
        rw [key]; exact hs
      | row t sh fl g =>
        simp only [slfO, Bool.not_eq_false'] at hs
        simp only [SO.obj, List.all_eq_true]
        intro e he x hx
        obtain ⟨s, hsg, hes⟩ := List.mem_flatMap.1 he
        have h1 := List.all_eq_true.1 hs s hsg
        cases s with
        | xs l =>
          obtain ⟨z, _, rfl⟩ := List.mem_map.1 hes
          exact pl_nslf (List.all_eq_true.1 (hX.encPl t z) x hx)
        | one cs =>
          simp only [Seg.es, List.mem_singleton] at hes; subst hes
          exact List.all_eq_true.1 ((key cs).trans h1) x hx
end Go.Bx

/- Operations that make objects, look at them, change them. (Own text.) -/
namespace Go.Bx
set_option linter.unusedVariables false
set_option linter.unusedSimpArgs false
set_option linter.unusedSectionVars false
set_option linter.unusedVariables false
set_option linter.unusedSectionVars false
set_option linter.unusedSimpArgs false
variable {β : Type}

def whN (a b : Nat) : Option Unit := if a = b then some () else none
def capN (by_ n len m : Nat) : Option Unit := if n = len ∧ (n + m) * by_ ≤ 140737488355328 then some () else none
def mkB (by_ : Nat) (a b : Int) : Option Unit := if a = b ∧ 0 ≤ a ∧ a ≤ 9223372036854775807 ∧ by_ * a ≤ 140737488355328 then some () else none
theorem whN_some {a b : Nat} {u : Unit} (h : whN a b = some u) : a = b := by unfold whN at h; split at h <;> simp_all
theorem capN_some {by_ n len m : Nat} {u : Unit} (h : capN by_ n len m = some u) : n = len ∧ (n + m) * by_ ≤ 140737488355328 := by
  unfold capN at h
  split at h
  · assumption
  · cases h
theorem mkB_some {by_ : Nat} {a b : Int} {u : Unit} (h : mkB by_ a b = some u) : a = b ∧ 0 ≤ a ∧ a ≤ 9223372036854775807 ∧ by_ * a ≤ 140737488355328 := by
  unfold mkB at h
  split at h
  · assumption
  · cases h

/-- What is true of an operation. -/
def OpOK (X : Sys) (base : Nat) (ob : OB X) (ρ' : Operand → AV) (o : Op) (y : SV X.I) (ob' : OB X) (x : XF) : Prop :=
  ∃ ci md, CIOK X.E base ci ∧ evO X.E.T X.E.br ci ρ' (St (obs X ob)) o = some ⟨av X y, St (obs X ob'), md, x.rd⟩ ∧ x.eff = md.isSome ∧ (∀ id, x.ld = some id → ∃ t a p off, o = .load t a ∧ ρ' a = .ptr id p off) ∧
    ∀ id, x.eff = true → id ∉ x.ch → Stays (St (obs X ob)) (St (obs X ob')) id

def quiet : XF := ⟨false, false, none, []⟩
theorem OpOK.pure {X : Sys} {base : Nat} {ob : OB X} {ρ' : Operand → AV} {o : Op} {y : SV X.I} (h : evA X.E.T ρ' (St (obs X ob)).clock o = some (av X y, none)) : OpOK X base ob ρ' o y ob quiet :=
  ⟨_, none, no_ok, by simp only [evO, h, quiet], rfl, (fun id h => by cases h), (fun id h => by cases h)⟩
theorem OpOK.new {X : Sys} {base : Nat} {ob : OB X} {ρ' : Operand → AV} {o : Op} {y : SV X.I} {q : SO X.I} (h : evA X.E.T ρ' (St (obs X ob)).clock o = some (av X y, some (SO.obj X q))) : OpOK X base ob ρ' o y (ob ++ [some q]) quiet :=
  ⟨_, none, no_ok, by simp only [evO, h, obs_new, quiet], rfl, (fun id h => by cases h), (fun id h => by cases h)⟩

/-! ### making -/
def isZ : Operand → Bool
  | .const (.int _ n) => n == 0
  | _ => false
def allOf (X : Sys) (e : TypeId) : List (List (SV X.I)) → Option (List (X.I e))
  | [] => some []
  | c :: cs => match X.ofC e c, allOf X e cs with
    | some x, some l => some (x :: l)
    | _, _ => none
/-- A new row of these elements. -/
def rowB (X : Sys) (e : TypeId) (cs : List (List (SV X.I))) : SO X.I := match allOf X e cs with
  | some l => .row e false true [.xs l]
  | none => .row e false (cs.all fun c => c.all plS) (cs.map .one)
theorem allOf_ok {X : Sys} (hX : SysOK X) {e : TypeId} : ∀ {cs : List (List (SV X.I))} {l : List (X.I e)}, allOf X e cs = some l → l.map (X.enc e) = cs.map (avs X) ∧ (cs.all fun c => c.all plS) = true
  | [], l, h => by cases h; exact ⟨rfl, rfl⟩
  | c :: cs, l, h => by
    simp only [allOf] at h
    split at h
    · rename_i x l' h1 h2; cases h
      obtain ⟨g1, g2⟩ := allOf_ok hX h2
      have h3 := hX.of _ _ _ h1
      refine ⟨by simp only [List.map_cons, g1, h3], ?_⟩
      have h4 := hX.encPl e x
      rw [← h3, all_plS] at h4
      simp only [List.all_cons, h4, g2, Bool.and_self]
    · cases h
def xNew (X : Sys) (ρ : Operand → SV X.I) (n : Nat) (o : Op) (K : SV X.I → SO X.I → Option β) : Option β :=
  match o with
  | .buildSlice t len parts => match tdesc X.E.T t with
    | some (.slice e) => match X.E.T e with
      | some r =>
        let cs := parts.toList.map fun p => cellsS (ρ p.2)
        if (!(r.sz == 0) && Nat.ble (len * r.sz) 16777216 && parts.toList.map (·.1) == List.range len && cs.all (fun c => c.length == r.sz && c.all leafS) && r.zero.length == r.sz) = true then
          K (if len = 0 then .emp else .row n e 0 len) (rowB X e cs) else none
      | none => none
    | _ => none
  | .box t x => match X.E.T t with
    | some r => if ((cellsS (ρ x)).length == r.sz && (cellsS (ρ x)).all leafS) = true then K (.ptr n 0 0) (.box r.sz false (cellsS (ρ x))) else none
    | none => none
  | .alloc t => match X.E.T t with
    | some r => if (r.zero.length == r.sz) = true then K (if r.tp = true then .tptr n t else .ptr n 0 0) (.box r.sz false (r.zero.map cst)) else none
    | none => none
  | .makeSlice t l m => match tdesc X.E.T t, ρ l, ρ m with
    | some (.slice e), .i _ a, .i _ b => match X.E.T e with
      | some r => if (r.zero.length == r.sz) = true then match X.ofC e (r.zero.map cst) with
        | some x0 => mkB r.bytes a b >>= fun _ => K (.row n e 0 a.toNat) (.row e false true [.xs (List.replicate a.toNat x0)])
        | none => none else none
      | none => none
    | _, _, _ => none
  | _ => none

theorem segs_one {X : Sys} {t : TypeId} (cs : List (List (SV X.I))) : segs X (t := t) (cs.map .one) = cs.map (avs X) := by
  induction cs with
  | nil => rfl
  | cons c cs ih => simp only [segs, List.map_cons, List.flatMap_cons, Seg.es] at ih ⊢; rw [ih]; rfl
theorem rowB_obj {X : Sys} (hX : SysOK X) {e : TypeId} (cs : List (List (SV X.I))) : SO.obj X (rowB X e cs) = SO.obj X (.row e false (cs.all fun c => c.all plS) (cs.map .one)) := by
  unfold rowB
  split
  · rename_i l hl
    obtain ⟨g1, g2⟩ := allOf_ok hX hl
    simp only [SO.obj, g2, segs_one, ← g1]
    simp [segs, Seg.es]
  · rfl
theorem xNew_ok {X : Sys} (hX : SysOK X) {ρ : Operand → SV X.I} {ρ' : Operand → AV} (hρ : ∀ x, ρ' x = av X (ρ x)) {n : Nat} {o : Op} {K : SV X.I → SO X.I → Option β} {r : β} (h : xNew X ρ n o K = some r) :
    ∃ y q, K y q = some r ∧ evA X.E.T ρ' n o = some (av X y, some (SO.obj X q)) := by
  unfold xNew at h
  split at h
  · rename_i t len parts
    split at h
    · rename_i e hd
      split at h
      · rename_i R hR
        simp only at h
        split at h
        · rename_i hc
          simp only [Bool.and_eq_true, Bool.not_eq_true', beq_eq_false_iff_ne, Nat.ble_eq, beq_iff_eq, List.all_eq_true] at hc
          obtain ⟨⟨⟨⟨h1, h2⟩, h3⟩, h4⟩, h5⟩ := hc
          refine ⟨_, _, h, ?_⟩
          have hm : (parts.toList.map fun p => cells (ρ' p.2)) = (parts.toList.map fun p => cellsS (ρ p.2)).map (avs X) := by
            rw [List.map_map]; exact List.map_congr_left fun p _ => by simp only [Function.comp, hρ, avs_cells]
          have hall : ((parts.toList.map fun p => cells (ρ' p.2)).all fun c => c.length == R.sz && c.all leaf) = true := by
            rw [hm, List.all_map, List.all_eq_true]
            intro c hc
            simp only [Function.comp, avs_length, all_leaf, Bool.and_eq_true, beq_iff_eq, List.all_eq_true]
            exact h4 c hc
          simp only [evA, hd, hR]
          rw [if_pos ⟨h1, h2, h3, hall, h5⟩]
          have hpl : ((parts.toList.map fun p => cells (ρ' p.2)).all fun c => c.all pl) = (parts.toList.map fun p => cellsS (ρ p.2)).all fun c => c.all plS := by
            rw [hm, List.all_map]; congr 1; funext c; simp only [Function.comp, all_plS]
          rw [hpl, hm, rowB_obj hX]
          simp only [SO.obj, segs_one, hX.szT e R hR]
          split
          · rfl
          · simp only [av, hX.szT e R hR]
        · cases h
      · cases h
    · cases h
  · split at h
    · rename_i R hR
      split at h
      · rename_i hc
        rw [Bool.and_eq_true, beq_iff_eq] at hc
        refine ⟨_, _, h, ?_⟩
        simp only [evA, hR, hρ, ← avs_cells, avs_length, all_leaf]
        rw [if_pos ⟨hc.1, hc.2⟩]
        rfl
      · cases h
    · cases h
  · split at h
    · rename_i R hR
      split at h
      · rename_i hc
        refine ⟨_, _, h, ?_⟩
        simp only [evA, hR, if_pos (beq_iff_eq.1 hc), SO.obj, avs_cst]
        split
        · rfl
        · rfl
      · cases h
    · cases h
  · split at h
    · rename_i e k1 a k2 b hd hl hm
      split at h
      · rename_i R hR
        split at h
        · rename_i hz
          split at h
          · rename_i x0 h0
            obtain ⟨u, h1, h2⟩ := bind_some' h
            obtain ⟨g1, g2, g3, g4⟩ := mkB_some h1
            refine ⟨_, _, h2, ?_⟩
            have he := hX.of _ _ _ h0
            rw [avs_cst] at he
            simp only [evA, hd, hρ, hl, hm, av, hR, if_pos (And.intro g2 (And.intro g1 (And.intro g3 (And.intro g4 (beq_iff_eq.1 hz))))), SO.obj, segs, List.flatMap_cons, List.flatMap_nil, Seg.es, List.append_nil, List.map_replicate, he, hX.szT e R hR]
          · cases h
        · cases h
      · cases h
    · cases h
  · cases h

/-! ### looking -/
def xLoad (X : Sys) (ob : OB X) (t : TypeId) (a : SV X.I) (K : SV X.I → XF → Option β) : Option β :=
  match X.E.T t, a with
  | some r, .ptr o p off => match ob[o]? with
    | some (some (.box _ _ cs)) => match p with
      | 0 => if Nat.ble (off + r.sz) cs.length = true then match ofCellsS r.desc.isAgg ((cs.drop off).take r.sz) with
          | some y => K y ⟨false, true, some o, []⟩
          | none => none else none
      | _ + 1 => none
    | some (some (.row t' _ _ [.xs l])) => l[p]? >>= fun e => if Nat.ble (off + r.sz) (X.toC t' e).length = true then match ofCellsS r.desc.isAgg (((X.toC t' e).drop off).take r.sz) with
          | some y => K y ⟨false, true, some o, []⟩
          | none => none else none
    | _ => none
  | _, _ => none
theorem xLoad_ok {X : Sys} (hX : SysOK X) {ob : OB X} {t : TypeId} {a : SV X.I} {K : SV X.I → XF → Option β} {r : β} (h : xLoad X ob t a K = some r) :
    ∃ y x id p off, K y x = some r ∧ a = .ptr id p off ∧ x = ⟨false, true, some id, []⟩ ∧ evLoad X.E.T (St (obs X ob)) t (av X a) = some ⟨av X y, St (obs X ob), none, true⟩ := by
  unfold xLoad at h
  split at h
  · rename_i R o p off hR
    split at h
    · rename_i sz sh cs hob
      split at h
      · split at h
        · rename_i hle
          split at h
          · rename_i y hy
            refine ⟨_, _, _, _, _, h, rfl, rfl, ?_⟩
            have := ofCells_av (X := X) hy
            rw [avs_take, avs_drop] at this
            simp only [evLoad, hR, av, obs_get hob, SO.obj, List.getElem?_cons_zero, avs_length, if_pos (Nat.le_of_ble_eq_true hle), this]; rfl
          · cases h
        · cases h
      · cases h
    · rename_i t' sh fl l hob
      obtain ⟨e, h1, h2⟩ := bind_some' h
      split at h2
      · rename_i hle
        split at h2
        · rename_i y hy
          refine ⟨_, _, _, _, _, h2, rfl, rfl, ?_⟩
          have := ofCells_av (X := X) hy
          rw [avs_take, avs_drop, ← hX.encC] at this
          have hle' := Nat.le_of_ble_eq_true hle
          rw [← avs_length (X := X), ← hX.encC] at hle'
          have hg : (segs X [Seg.xs l])[p]? = some (X.enc t' e) := by simp [segs, Seg.es, h1]
          simp only [evLoad, hR, av, obs_get hob, SO.obj, hg, if_pos hle', this]; rfl
        · cases h2
      · cases h2
    · cases h
  · cases h

/-! ### changing -/
def xStore (X : Sys) (ob : OB X) (t : TypeId) (a x : SV X.I) (K : OB X → XF → Option β) : Option β :=
  match X.E.T t, a with
  | some r, .ptr o p off => match ob[o]? with
    | some (some (.box sz false cs)) => match p with
      | 0 => if ((cellsS x).length == r.sz && (cellsS x).all leafS && Nat.ble (off + r.sz) cs.length) = true then K (ob.set o (some (.box sz false (putAtS cs off (cellsS x))))) ⟨true, true, none, o :: slfs ob⟩ else none
      | _ + 1 => none
    | some (some (.row t' false fl [.xs l])) => if ((cellsS x).length == r.sz && (cellsS x).all plS) = true then l[p]? >>= fun e => if Nat.ble (off + r.sz) (X.toC t' e).length = true then match X.ofC t' (putAtS (X.toC t' e) off (cellsS x)) with
          | some e' => K (ob.set o (some (.row t' false fl [.xs (l.set p e')]))) ⟨true, true, none, o :: slfs ob⟩
          | none => none else none else none
    | _ => none
  | _, _ => none
theorem stays_set {X : Sys} (hX : SysOK X) {ob : OB X} {o : Nat} {q : Option (SO X.I)} {id : Nat} (h : id ∉ o :: slfs ob) : Stays (St (obs X ob)) (St (obs X (ob.set o q))) id := by
  simp only [List.mem_cons, not_or] at h
  refine ⟨?_, nslfO_of hX h.2⟩
  simp only [St, obs, List.getElem?_map, List.getElem?_set_ne (Ne.symm h.1)]
theorem plS_leaf {I : TypeId → Type} {x : SV I} (h : plS x = true) : leafS x = true := by cases x <;> simp_all [plS, leafS]
theorem xStore_ok {X : Sys} (hX : SysOK X) {ob : OB X} {t : TypeId} {a x : SV X.I} {K : OB X → XF → Option β} {r : β} (h : xStore X ob t a x K = some r) :
    ∃ ob' f id, K ob' f = some r ∧ evStore X.E.T (St (obs X ob)) t (av X a) (av X x) = some ⟨.junk, St (obs X ob'), some id, true⟩ ∧ f.eff = true ∧ f.rd = true ∧ f.ld = none ∧ ∀ id, id ∉ f.ch → Stays (St (obs X ob)) (St (obs X ob')) id := by
  unfold xStore at h
  split at h
  · rename_i R o p off hR
    split at h
    · rename_i sz cs hob
      have hlt : o < ob.length := (List.getElem?_eq_some_iff.1 hob).1
      split at h
      · split at h
        · rename_i hc
          simp only [Bool.and_eq_true, beq_iff_eq, Nat.ble_eq] at hc
          obtain ⟨⟨h1, h2⟩, h3⟩ := hc
          refine ⟨_, _, o, h, ?_, rfl, rfl, rfl, fun id hid => stays_set hX hid⟩
          rw [← obs_put _ hlt]
          simp only [evStore, hR, av, obs_get hob, SO.obj, List.getElem?_cons_zero, ← avs_cells, avs_length, all_leaf]
          rw [if_pos ⟨trivial, h1, h2, h3⟩]
          simp only [List.set_cons_zero, putAt_av, Option.map_some, SO.obj, Bool.false_and]
        · cases h
      · cases h
    · rename_i t' fl l hob
      have hlt : o < ob.length := (List.getElem?_eq_some_iff.1 hob).1
      split at h
      · rename_i hc
        simp only [Bool.and_eq_true, beq_iff_eq] at hc
        obtain ⟨e, h1, h2⟩ := bind_some' h
        split at h2
        · rename_i hle
          split at h2
          · rename_i e' he'
            refine ⟨_, _, o, h2, ?_, rfl, rfl, rfl, fun id hid => stays_set hX hid⟩
            rw [← obs_put _ hlt]
            have hle' := Nat.le_of_ble_eq_true hle
            rw [← avs_length (X := X), ← hX.encC] at hle'
            have hg : (segs X [Seg.xs l])[p]? = some (X.enc t' e) := by simp [segs, Seg.es, h1]
            have he := hX.of _ _ _ he'
            rw [putAt_av, ← hX.encC] at he
            have hleaf : (cellsS x).all leafS = true := List.all_eq_true.2 fun z hz => plS_leaf (List.all_eq_true.1 hc.2 z hz)
            simp only [evStore, hR, av, obs_get hob, SO.obj, hg, ← avs_cells, avs_length, all_leaf, all_plS]
            rw [if_pos ⟨trivial, hc.1, hleaf, hle'⟩]
            simp only [he, hc.2, Bool.and_true, Option.map_some, SO.obj, segs, Seg.es, List.flatMap_cons, List.flatMap_nil, List.append_nil, List.map_set]
          · cases h2
        · cases h2
      · cases h
    · cases h
  · cases h

/-- What is put behind a row. -/
def srcS (X : Sys) (ob : OB X) (e : TypeId) (x : SV X.I) (K : List (Seg X.I e) → Nat → Bool → Option β) : Option β :=
  match x with
  | .l t ys => if h : t = e then K [.xs (h ▸ ys)] ys.length true else none
  | .c (.slice none 0 0) => K [] 0 true
  | .emp => K [] 0 true
  | .row o _ lo n => match lo with
    | 0 => match ob[o]? with
      | some (some (.row t _ fl g)) => if h : t = e then whN n (segLen g) >>= fun _ => K (h ▸ g) n fl else none
      | _ => none
    | _ + 1 => none
  | _ => none
theorem srcS_ok {X : Sys} (hX : SysOK X) {ob : OB X} {e : TypeId} {x : SV X.I} {K : List (Seg X.I e) → Nat → Bool → Option β} {r : β} (h : srcS X ob e x K = some r) :
    ∃ g n fl, K g n fl = some r ∧ elems (St (obs X ob)) (av X x) = some (segs X g) ∧ n = segLen g ∧ flatOf (St (obs X ob)) (av X x) = fl := by
  unfold srcS at h
  split at h
  · rename_i t ys
    split at h
    · rename_i he; subst he
      exact ⟨_, _, _, h, by simp [av, elems, segs, Seg.es], rfl, rfl⟩
    · cases h
  · exact ⟨_, _, _, h, rfl, rfl, rfl⟩
  · exact ⟨_, _, _, h, rfl, rfl, rfl⟩
  · rename_i o t0 lo n
    split at h
    · split at h
      · rename_i t sh fl g hob
        split at h
        · rename_i he; subst he
          obtain ⟨u, h1, h2⟩ := bind_some' h
          have hn := whN_some h1
          refine ⟨_, _, _, h2, ?_, hn, ?_⟩
          · simp only [av, elems, obs_get hob, SO.obj, Nat.zero_add]
            rw [if_pos (by rw [segs_length]; omega)]
            rw [hn, ← segs_length (X := X), slice_all]
          · simp only [av, flatOf, obs_get hob, SO.obj]
        · cases h
      · cases h
    · cases h
  · cases h

def segAll {I : TypeId → Type} {t : TypeId} (n : Nat) : List (Seg I t) → Bool
  | [] => true
  | .xs _ :: g => segAll n g
  | .one cs :: g => cs.length == n && segAll n g
theorem segAll_ok {X : Sys} (hX : SysOK X) {t : TypeId} {n : Nat} (hn : X.sz t = n) : ∀ {g : List (Seg X.I t)}, segAll n g = true → ((segs X g).all fun c => c.length == n) = true
  | [], _ => rfl
  | .xs l :: g, h => by
    have := segAll_ok hX hn (g := g) h
    simp only [segs, List.flatMap_cons, List.all_append, Bool.and_eq_true] at this ⊢
    refine ⟨List.all_eq_true.2 fun c hc => ?_, this⟩
    obtain ⟨q, _, rfl⟩ := List.mem_map.1 hc
    rw [beq_iff_eq, hX.encLen, hn]
  | .one cs :: g, h => by
    simp only [segAll, Bool.and_eq_true] at h
    have := segAll_ok hX hn (g := g) h.2
    simp only [segs, List.flatMap_cons, List.all_append, Bool.and_eq_true] at this ⊢
    refine ⟨?_, this⟩
    simp only [Seg.es, List.all_cons, List.all_nil, Bool.and_true, avs_length]; exact h.1

/-- What is put behind a row. -/
def srcT (X : Sys) (ob : OB X) (e t t' : TypeId) (x : SV X.I) (K : List (Seg X.I e) → Nat → Bool → Option β) : Option β :=
  if (t == t') = true then srcS X ob e x K else match tdesc X.E.T t', x with
    | some .str, .s z => match X.bts e z with
      | some l => K [.xs l] l.length true
      | none => none
    | _, _ => none
theorem srcT_ok {X : Sys} (hX : SysOK X) {ob : OB X} {e t t' : TypeId} {x : SV X.I} {K : List (Seg X.I e) → Nat → Bool → Option β} {r : β} (h : srcT X ob e t t' x K = some r) :
    ∃ g n fl, K g n fl = some r ∧ elemsT X.E.T t t' (St (obs X ob)) (av X x) = some (segs X g) ∧ n = segLen g ∧ flatOf (St (obs X ob)) (av X x) = fl := by
  unfold srcT at h
  split at h
  · rename_i he
    rw [beq_iff_eq] at he; subst he
    obtain ⟨g, n, fl, h1, h2, h3, h4⟩ := srcS_ok hX h
    exact ⟨g, n, fl, h1, by simp [elemsT, h2], h3, h4⟩
  · rename_i he
    have he : ¬ t = t' := fun e => he (by rw [e, beq_self_eq_true])
    split at h
    · rename_i z hd
      split at h
      · rename_i l hl
        refine ⟨_, _, _, h, ?_, rfl, rfl⟩
        simp only [elemsT, if_neg he, hd, av, segs, List.flatMap_cons, List.flatMap_nil, Seg.es, List.append_nil, hX.btsOK _ _ _ hl]
      · cases h
    · cases h

/-- One behind another. -/
def mg {I : TypeId → Type} {t : TypeId} : List (Seg I t) → List (Seg I t) → List (Seg I t)
  | [.xs a], [.xs b] => [.xs (a ++ b)]
  | g, new => g ++ new
theorem segs_mg {X : Sys} {t : TypeId} (g new : List (Seg X.I t)) : segs X (mg g new) = segs X g ++ segs X new := by
  unfold mg
  split
  · simp [segs, Seg.es]
  · exact segs_append _ _
def xAppend (X : Sys) (ob : OB X) (t t' : TypeId) (s x : SV X.I) (K : SV X.I → OB X → XF → Option β) : Option β :=
  match tdesc X.E.T t with
  | some (.slice e) => match X.E.T e with
    | some r => if (!(r.sz == 0) && !(r.bytes == 0) && r.zero.length == r.sz) = true then srcT X ob e t t' x fun new m fl => if segAll r.sz new = true then match s with
        | .c (.slice none 0 0) => capN r.bytes 0 0 m >>= fun _ => K (.row ob.length e 0 m) (ob ++ [some (.row e false fl new)]) ⟨false, true, none, []⟩
        | .emp => capN r.bytes 0 0 m >>= fun _ => K (.row ob.length e 0 m) (ob ++ [some (.row e false fl new)]) ⟨false, true, none, []⟩
        | .row o e' lo n => match lo with
          | 0 => match ob[o]? with
            | some (some (.row e2 sh fl0 g)) => if h : e2 = e ∧ e' = e then capN r.bytes n (segLen g) m >>= fun _ => K (.row ob.length e 0 (n + m)) (ob.set o none ++ [some (.row e sh (fl0 && fl) (mg (h.1 ▸ g) new))]) ⟨true, true, none, o :: ob.length :: slfs ob⟩ else none
            | _ => none
          | _ + 1 => none
        | .trow o e' n => match ob[o]? with
            | some (some (.row e2 sh fl0 g)) => if h : (e2 = e ∧ e' = e) ∧ r.sz = 1 ∧ sh = false then capN r.bytes n (segLen g) m >>= fun _ => K (.trow ob.length e (n + m)) (ob.set o none ++ [some (.row e sh (fl0 && fl) (mg (h.1.1 ▸ g) new))]) ⟨true, true, none, o :: ob.length :: slfs ob⟩ else none
            | _ => none
        | _ => none else none else none
    | none => none
  | _ => none
theorem xAppend_ok {X : Sys} (hX : SysOK X) {ob : OB X} {t t' : TypeId} {s x : SV X.I} {K : SV X.I → OB X → XF → Option β} {r : β} (h : xAppend X ob t t' s x K = some r) :
    ∃ y ob' f md, K y ob' f = some r ∧ evAppend X.E.T (St (obs X ob)) t t' (av X s) (av X x) = some ⟨av X y, St (obs X ob'), md, true⟩ ∧ f.eff = md.isSome ∧ f.rd = true ∧ f.ld = none ∧ ∀ id, f.eff = true → id ∉ f.ch → Stays (St (obs X ob)) (St (obs X ob')) id := by
  unfold xAppend at h
  split at h
  · rename_i e hd
    split at h
    · rename_i R hR
      split at h
      · rename_i hc
        simp only [Bool.and_eq_true, Bool.not_eq_true', beq_eq_false_iff_ne, beq_iff_eq] at hc
        obtain ⟨⟨h1, h2⟩, h3⟩ := hc
        obtain ⟨new, m, fl, h4, hT, rfl, h6⟩ := srcT_ok hX h
        split at h4
        · rename_i hsa
          have hnew := segAll_ok hX (hX.szT e R hR) hsa
          split at h4
          · obtain ⟨u, g1, g2⟩ := bind_some' h4
            obtain ⟨_, g3⟩ := capN_some g1
            refine ⟨_, _, _, none, g2, ?_, rfl, rfl, rfl, fun id h => by cases h⟩
            simp only [evAppend, hd, hR, hT]
            rw [if_pos ⟨hnew, h1, h2, h3⟩]
            simp only [av, segs_length]
            rw [if_pos (by rw [Nat.zero_add] at g3; exact g3)]
            rw [← obs_new]
            simp only [SO.obj, hX.szT e R hR, h6, St_clock, obs_len]
          · obtain ⟨u, g1, g2⟩ := bind_some' h4
            obtain ⟨_, g3⟩ := capN_some g1
            refine ⟨_, _, _, none, g2, ?_, rfl, rfl, rfl, fun id h => by cases h⟩
            simp only [evAppend, hd, hR, hT]
            rw [if_pos ⟨hnew, h1, h2, h3⟩]
            simp only [av, segs_length]
            rw [if_pos (by rw [Nat.zero_add] at g3; exact g3)]
            rw [← obs_new]
            simp only [SO.obj, hX.szT e R hR, h6, St_clock, obs_len]
          · rename_i o e' lo n
            split at h4
            · split at h4
              · rename_i e2 sh fl0 g hob
                have hlt : o < ob.length := (List.getElem?_eq_some_iff.1 hob).1
                split at h4
                · rename_i he
                  obtain ⟨he1, he2⟩ := he
                  subst he1; subst he2
                  obtain ⟨u, g1, g2⟩ := bind_some' h4
                  obtain ⟨g3, g4⟩ := capN_some g1
                  refine ⟨_, _, _, some o, g2, ?_, rfl, rfl, rfl, fun id _ hid => ?_⟩
                  · simp only [evAppend, hd, hR, hT]
                    rw [if_pos ⟨hnew, h1, h2, h3⟩]
                    simp only [av, obs_get hob, SO.obj, segs_length, Nat.zero_add]
                    rw [if_pos ⟨hX.szT _ R hR, by omega, g4, fun _ => g3⟩]
                    have hsl : slice (segs X g) 0 n = segs X g := by rw [g3, ← segs_length (X := X), slice_all]
                    have hp : (St (obs X ob)).put o none = St (obs X (ob.set o none)) := obs_put none hlt
                    rw [hp, hsl, ← segs_mg, h6]
                    have hn := obs_new (X := X) (ob.set o none) (SO.row _ sh (fl0 && fl) (mg g new))
                    rw [← hn]
                    simp only [SO.obj, hX.szT _ R hR, St_clock, obs_len]
                  · simp only [List.mem_cons, not_or] at hid
                    refine ⟨?_, nslfO_of hX hid.2.2⟩
                    simp only [St, obs, List.map_append, List.map_cons, List.map_nil]
                    by_cases hl : id < ob.length
                    · rw [List.getElem?_append_left (by simpa using hl), List.getElem?_map, List.getElem?_map, List.getElem?_set_ne (Ne.symm hid.1)]
                    · rw [List.getElem?_eq_none (by simp; omega), List.getElem?_eq_none (by simp; omega)]
                · cases h4
              · cases h4
            · cases h4
          · rename_i o e' n
            split at h4
            · rename_i e2 sh fl0 g hob
              have hlt : o < ob.length := (List.getElem?_eq_some_iff.1 hob).1
              split at h4
              · rename_i he
                obtain ⟨⟨he1, he2⟩, hs1, hs2⟩ := he
                subst he1; subst he2; subst hs2
                obtain ⟨u, g1, g2⟩ := bind_some' h4
                obtain ⟨g3, g4⟩ := capN_some g1
                refine ⟨_, _, _, some o, g2, ?_, rfl, rfl, rfl, fun id _ hid => ?_⟩
                · simp only [evAppend, hd, hR, hT]
                  rw [if_pos ⟨hnew, h1, h2, h3⟩]
                  simp only [av, obs_get hob, SO.obj, segs_length]
                  rw [if_pos ⟨trivial, hs1, by rw [hX.szT _ R hR]; exact hs1, by omega, g4, trivial⟩]
                  have hsl : slice (segs X g) 0 n = segs X g := by rw [g3, ← segs_length (X := X), slice_all]
                  have hp : (St (obs X ob)).put o none = St (obs X (ob.set o none)) := obs_put none hlt
                  rw [hp, hsl, ← segs_mg, h6]
                  have hn := obs_new (X := X) (ob.set o none) (SO.row _ false (fl0 && fl) (mg g new))
                  rw [← hn]
                  simp only [SO.obj, hX.szT _ R hR, St_clock, obs_len]
                · simp only [List.mem_cons, not_or] at hid
                  refine ⟨?_, nslfO_of hX hid.2.2⟩
                  simp only [St, obs, List.map_append, List.map_cons, List.map_nil]
                  by_cases hl : id < ob.length
                  · rw [List.getElem?_append_left (by simpa using hl), List.getElem?_map, List.getElem?_map, List.getElem?_set_ne (Ne.symm hid.1)]
                  · rw [List.getElem?_eq_none (by simp; omega), List.getElem?_eq_none (by simp; omega)]
              · cases h4
            · cases h4
          · cases h4
        · cases h4
      · cases h
    · cases h
  · cases h

/-! ### copy, bytes as a text -/
def leN (a b : Nat) : Option Unit := if a ≤ b then some () else none
def xCopy (X : Sys) (ob : OB X) (t t' : TypeId) (d x : SV X.I) (K : SV X.I → OB X → XF → Option β) : Option β :=
  match tdesc X.E.T t, tdesc X.E.T t', d with
  | some (.slice e), some (.slice e'), .row o te 0 n => match X.E.T e, ob[o]? with
    | some r, some (some (.row t2 false true [.xs l])) => if h : t2 = e then (if (e' == e && r.sz == 1 && te == e) = true then srcS X ob e x fun g _ _ => match g with
        | [.xs m] => whN n l.length >>= fun _ => leN m.length n >>= fun _ => K (.i .i64 m.length) (ob.set o (some (.row e false true [.xs (m ++ (h ▸ l).drop m.length)]))) ⟨true, true, none, o :: slfs ob⟩
        | _ => none else none) else none
    | _, _ => none
  | _, _, _ => none
theorem xCopy_ok {X : Sys} (hX : SysOK X) {ob : OB X} {t t' : TypeId} {d x : SV X.I} {K : SV X.I → OB X → XF → Option β} {r : β} (h : xCopy X ob t t' d x K = some r) :
    ∃ y ob' f id, K y ob' f = some r ∧ evCopy X.E.T (St (obs X ob)) t t' (av X d) (av X x) = some ⟨av X y, St (obs X ob'), some id, true⟩ ∧ f.eff = true ∧ f.rd = true ∧ f.ld = none ∧ ∀ id, id ∉ f.ch → Stays (St (obs X ob)) (St (obs X ob')) id := by
  unfold xCopy at h
  split at h
  · rename_i e e' o te n hk hk'
    split at h
    · rename_i R t2 l hR hob
      have hlt : o < ob.length := (List.getElem?_eq_some_iff.1 hob).1
      split at h
      · rename_i he
        subst he
        split at h
        · rename_i hc
          simp only [Bool.and_eq_true, beq_iff_eq] at hc
          obtain ⟨⟨rfl, hz⟩, rfl⟩ := hc
          obtain ⟨g, n', fl, h1, h2, h3, h4⟩ := srcS_ok hX h
          split at h1
          · rename_i m
            obtain ⟨u, g1, g2⟩ := bind_some' h1
            obtain ⟨u', g3, g4⟩ := bind_some' g2
            have hn := whN_some g1
            have hle : m.length ≤ n := by unfold leN at g3; split at g3; assumption; cases g3
            refine ⟨_, _, _, o, g4, ?_, rfl, rfl, rfl, fun id hid => stays_set hX hid⟩
            have hs : segs X [Seg.xs m] = m.map (X.enc _) := by simp [segs, Seg.es]
            have hsl : ∀ q : List (X.I te), segs X [Seg.xs q] = q.map (X.enc te) := fun q => by simp [segs, Seg.es]
            rw [hs] at h2
            simp only [evCopy, hk, hk', av, hX.szT _ R hR, hz, hR, obs_get hob, SO.obj, hsl, h2]
            rw [if_pos ⟨trivial, trivial, by simp [hn], by simpa using hle, by
              rw [List.all_eq_true]
              intro c hc
              obtain ⟨q, _, rfl⟩ := List.mem_map.1 hc
              simp only [hX.encLen, hX.szT _ R hR, hz, hX.encPl, Bool.and_true, beq_self_eq_true]⟩]
            have hp := obs_put (X := X) (some (SO.row te false true [.xs (m ++ l.drop m.length)])) hlt
            simp only [Option.map_some, SO.obj, hsl, List.map_append, List.map_drop, hX.szT _ R hR, hz] at hp
            simp only [List.length_map]
            rw [hp]
          · cases h1
        · cases h
      · cases h
    · cases h
  · cases h
def xConv (X : Sys) (ob : OB X) (s d : TypeId) (x : SV X.I) (K : SV X.I → XF → Option β) : Option β :=
  match tdesc X.E.T s, tdesc X.E.T d with
  | some (.slice e), some .str => match X.E.T e with
    | some ⟨.int .u8, 1, _, _, _, _, _⟩ => srcS X ob e x fun g _ _ => match g with
      | [.xs m] => match X.stb e m with
        | some z => K (.s z) ⟨false, true, none, []⟩
        | none => none
      | _ => none
    | _ => none
  | _, _ => none
theorem xConv_ok {X : Sys} (hX : SysOK X) {ob : OB X} {s d : TypeId} {x : SV X.I} {K : SV X.I → XF → Option β} {r : β} (h : xConv X ob s d x K = some r) :
    ∃ y, K y ⟨false, true, none, []⟩ = some r ∧ evConv X.E.T (St (obs X ob)) s d (av X x) = some ⟨av X y, St (obs X ob), none, true⟩ := by
  unfold xConv at h
  split at h
  · rename_i e hs hd
    split at h
    · rename_i hR
      obtain ⟨g, n', fl, h1, h2, h3, h4⟩ := srcS_ok hX h
      split at h1
      · rename_i m
        split at h1
        · rename_i z hz
          refine ⟨_, h1, ?_⟩
          have hs' : segs X [Seg.xs m] = m.map (X.enc _) := by simp [segs, Seg.es]
          rw [hs'] at h2
          simp only [evConv, hs, hd, h2, hR, hX.stbOK _ _ _ hz, av]; rfl
        · cases h1
      · cases h1
    · cases h
  · cases h
end Go.Bx

/- Calls of functions of plain values. (Own text.) -/
namespace Go.Bx
set_option linter.unusedVariables false
set_option linter.unusedSimpArgs false
set_option linter.unusedSectionVars false
set_option linter.unusedVariables false
set_option linter.unusedSectionVars false
set_option linter.unusedSimpArgs false
variable {β : Type}

/-- A piece of a list. -/
def pieceN {α : Type} (lo n : Nat) (l : List α) : Option (List α) := if lo + n ≤ l.length then some ((l.drop lo).take n) else none
theorem pieceN_some {α : Type} {lo n : Nat} {l r : List α} (h : pieceN lo n l = some r) : lo + n ≤ l.length ∧ r = (l.drop lo).take n := by
  unfold pieceN at h
  split at h
  · exact ⟨‹_›, (Option.some.inj h).symm⟩
  · cases h
theorem pieceN_all {α : Type} (l : List α) : pieceN 0 l.length l = some l := by simp [pieceN]

/-! ### handing over -/
def rowIdS {I : TypeId → Type} : SV I → List Nat
  | .row o _ _ _ => [o]
  | .rowx o _ _ _ => [o]
  | _ => []
/-- The rows that a value leads to. -/
def lendS {I : TypeId → Type} (br : Bool) (x : SV I) : List Nat := if br = true then [] else match x with
  | .agg cs => cs.flatMap rowIdS
  | x => rowIdS x
/-- Rows come to be shared; of others: no. -/
def shareS {X : Sys} (ob : OB X) : List Nat → Option (OB X)
  | [] => some ob
  | i :: ids => match ob[i]? with
    | some (some (.row t true true g)) => shareS ob ids
    | some (some (.row t false true g)) => shareS (ob.set i (some (.row t true true g))) ids
    | _ => none
def fresh1S {X : Sys} (ob : OB X) (id : Nat) : Option Nat := match ob[id]? with
  | some (some (SO.row _ false _ _)) => some id
  | _ => none
def freshS {X : Sys} (ob : OB X) (ids : List Nat) : Option Nat := ids.foldl (fun a id => omin a (fresh1S ob id)) none

theorem shareS_ok {X : Sys} : ∀ {ids : List Nat} {ob ob' : OB X}, shareS ob ids = some ob' → shareAll (St (obs X ob)) ids = St (obs X ob') ∧ ob'.length = ob.length ∧ (∀ i ∈ ids, ∃ t sh g, ob[i]? = some (some (SO.row (I := X.I) t sh true g))) ∧ (∀ i, i ∉ ids → ob'[i]? = ob[i]?) ∧ (∀ (i : Nat) t g, ob'[i]? = some (some (SO.row (I := X.I) t true true g)) → ∃ sh, ob[i]? = some (some (SO.row (I := X.I) t sh true g)))
  | [], ob, ob', h => by cases h; exact ⟨rfl, rfl, (fun i h => by cases h), (fun _ _ => rfl), fun i t g h => ⟨_, h⟩⟩
  | i :: ids, ob, ob', h => by
    simp only [shareS] at h
    split at h
    · rename_i t g ho
      obtain ⟨h1, h2, h3, h4, h5⟩ := shareS_ok h
      refine ⟨?_, h2, fun j hj => ?_, fun j hj => h4 j (fun hm => hj (by simp [hm])), h5⟩
      · rw [shareAll_cons]
        have : share (St (obs X ob)) i = St (obs X ob) := by simp [share, obs_get ho, SO.obj]
        rw [this]; exact h1
      · rcases List.mem_cons.1 hj with rfl | hj
        · exact ⟨_, _, _, ho⟩
        · exact h3 j hj
    · rename_i t g ho
      have hlt : i < ob.length := (List.getElem?_eq_some_iff.1 ho).1
      obtain ⟨h1, h2, h3, h4, h5⟩ := shareS_ok h
      refine ⟨?_, by rw [h2, List.length_set], fun j hj => ?_, fun j hj => ?_, fun j t' g' hj => ?_⟩
      · rw [shareAll_cons]
        have : share (St (obs X ob)) i = St (obs X (ob.set i (some (.row t true true g)))) := by
          simp only [share, obs_get ho, SO.obj, Bool.false_eq_true, if_false]
          rw [← obs_put _ hlt]; rfl
        rw [this]; exact h1
      · rcases List.mem_cons.1 hj with rfl | hj
        · exact ⟨_, _, _, ho⟩
        · obtain ⟨t', sh', g', h6⟩ := h3 j hj
          by_cases hji : j = i
          · subst hji; exact ⟨_, _, _, ho⟩
          · rw [List.getElem?_set_ne (Ne.symm hji)] at h6; exact ⟨_, _, _, h6⟩
      · simp only [List.mem_cons, not_or] at hj
        rw [h4 j hj.2, List.getElem?_set_ne (Ne.symm hj.1)]
      · obtain ⟨sh, h6⟩ := h5 j t' g' hj
        by_cases hji : j = i
        · subst hji
          rw [List.getElem?_set_self hlt] at h6
          simp only [Option.some.injEq, SO.row.injEq, true_and] at h6
          obtain ⟨rfl, h6, h7⟩ := h6
          rw [eq_of_heq h7] at ho
          exact ⟨_, ho⟩
        · rw [List.getElem?_set_ne (Ne.symm hji)] at h6; exact ⟨_, h6⟩
    · cases h

theorem freshS_ok {X : Sys} {ob : OB X} {ids : List Nat} (h : ∀ i ∈ ids, ∃ t sh g, ob[i]? = some (some (SO.row (I := X.I) t sh true g))) : freshL (St (obs X ob)) ids = freshS ob ids := by
  have key : ∀ (ids : List Nat), (∀ i ∈ ids, ∃ t sh g, ob[i]? = some (some (SO.row (I := X.I) t sh true g))) → ∀ a, ids.foldl (fun a id => omin a (fresh1 (St (obs X ob)) id)) a = ids.foldl (fun a id => omin a (fresh1S ob id)) a := by
    intro ids
    induction ids with
    | nil => intro _ a; rfl
    | cons i ids ih =>
      intro h a
      simp only [List.foldl_cons]
      obtain ⟨t, sh, g, ho⟩ := h i (by simp)
      have : fresh1 (St (obs X ob)) i = fresh1S ob i := by
        simp only [fresh1, fresh1S, obs_get ho, SO.obj, ho]
        cases sh <;> rfl
      rw [this]
      exact ih (fun j hj => h j (by simp [hj])) _
  exact key ids h none

/-! ### values as views -/
def vwC {X : Sys} (ob : OB X) (k : Option TypeId) (x : SV X.I) (K : SV X.I → Option β) : Option β :=
  match x with
  | .row o _ lo n => match ob[o]? with
    | some (some (.row t true true [.xs l])) => pieceN lo n l >>= fun z => K (.l t z)
    | _ => none
  | .c (.slice none 0 0) => match k with
    | some e => K (.l e [])
    | none => none
  | .emp => match k with
    | some e => K (.l e [])
    | none => none
  | .agg _ => none
  | .rowx _ _ _ _ => none
  | x => K x
theorem reify_other (σ : Store) (n : Nat) (x : AV) (h1 : ∀ id sz lo k, x ≠ .row id sz lo k) (h2 : ∀ cs, x ≠ .agg cs) (h3 : x ≠ .v (.slice none 0 0)) (h4 : x ≠ .emp) (h5 : ∀ a b c, x ≠ .own a b c) : reify σ n x = some x := by
  unfold reify
  split <;> first | rfl | exact absurd rfl (h1 _ _ _ _) | exact absurd rfl (h2 _) | exact absurd rfl h3 | exact absurd rfl h4 | exact absurd rfl (h5 _ _ _)
theorem vwC_ok {X : Sys} {ob : OB X} {k : Option TypeId} {x : SV X.I} {K : SV X.I → Option β} {r : β} (n : Nat) (h : vwC ob k x K = some r) : ∃ y, K y = some r ∧ reify (St (obs X ob)) (n + 1) (av X x) = some (av X y) := by
  unfold vwC at h
  split at h
  · rename_i o t0 lo m
    split at h
    · rename_i t l ho
      obtain ⟨z, h1, h2⟩ := bind_some' h
      obtain ⟨h3, rfl⟩ := pieceN_some h1
      refine ⟨_, h2, ?_⟩
      simp only [av, reify, obs_get ho, SO.obj, segs, List.flatMap_cons, List.flatMap_nil, Seg.es, List.append_nil, List.length_map]
      rw [if_pos ⟨trivial, h3⟩]
      simp only [if_true, slice, List.map_take, List.map_drop]
    · cases h
  · split at h
    · exact ⟨_, h, rfl⟩
    · cases h
  · split at h
    · exact ⟨_, h, rfl⟩
    · cases h
  · cases h
  · cases h
  · rename_i hn1 hn2 hn3 hn4 hn5
    refine ⟨_, h, reify_other _ _ _ (fun id sz lo q => ?_) (fun cs => ?_) ?_ ?_ (fun a b c => ?_)⟩
    · cases x <;> simp [av] <;> rename_i o t lo' n' <;> first | exact absurd rfl (hn1 o t lo' n') | exact absurd rfl (hn5 o t lo' n')
    · cases x <;> simp [av]; rename_i cs'; exact absurd rfl (hn4 cs')
    · cases x <;> simp [av]; rename_i v; intro hv; subst hv; exact absurd rfl hn2
    · cases x <;> simp [av]; exact absurd rfl hn3
    · cases x <;> simp [av]

def vwL {X : Sys} (ob : OB X) : List (Option TypeId) → List (SV X.I) → (List (SV X.I) → Option β) → Option β
  | _, [], K => K []
  | ks, x :: xs, K => vwC ob ks.head?.join x fun y => vwL ob ks.tail xs fun ys => K (y :: ys)
theorem vwL_ok {X : Sys} {ob : OB X} (n : Nat) {r : β} : ∀ {xs : List (SV X.I)} {ks : List (Option TypeId)} {K : List (SV X.I) → Option β}, vwL ob ks xs K = some r → ∃ ys, K ys = some r ∧ mapO (reify (St (obs X ob)) (n + 1)) (avs X xs) = some (avs X ys)
  | [], ks, K, h => ⟨[], h, rfl⟩
  | x :: xs, ks, K, h => by
    simp only [vwL] at h
    obtain ⟨y, h1, h2⟩ := vwC_ok n h
    obtain ⟨ys, h3, h4⟩ := vwL_ok n h1
    exact ⟨_, h3, by simp only [avs, mapO, h2, h4]⟩
/-- A value as a view. -/
def vwV {X : Sys} (ob : OB X) (t : TypeId) (x : SV X.I) (K : SV X.I → Option β) : Option β :=
  match x with
  | .agg cs => vwL ob (X.lay t) cs fun ys => K (.agg ys)
  | x => vwC ob (X.lay t).head?.join x K
theorem vwV_ok {X : Sys} {ob : OB X} {t : TypeId} {x : SV X.I} {K : SV X.I → Option β} {r : β} (h : vwV ob t x K = some r) : ∃ y, K y = some r ∧ reify (St (obs X ob)) 8 (av X x) = some (av X y) := by
  unfold vwV at h
  split at h
  · obtain ⟨ys, h1, h2⟩ := vwL_ok 6 h
    exact ⟨_, h1, by simp only [av, reify_agg, h2]; rfl⟩
  · exact vwC_ok 7 h

/-- All arguments: those that are handed over as they are, and views. -/
def vwA {X : Sys} (b : Nat → Bool) (ob : OB X) : Nat → List TypeId → List (SV X.I) → (List (SV X.I) → Option β) → Option β
  | _, _, [], K => K []
  | i, ts, x :: xs, K => if b i = true then vwA b ob (i + 1) ts.tail xs fun ys => K (x :: ys) else vwV ob (ts.head?.getD 0) x fun y => vwA b ob (i + 1) ts.tail xs fun ys => K (y :: ys)
theorem vwA_ok {X : Sys} {b : Nat → Bool} {ob : OB X} {r : β} : ∀ {xs : List (SV X.I)} {i : Nat} {ts : List TypeId} {K : List (SV X.I) → Option β}, vwA b ob i ts xs K = some r → ∃ ys, K ys = some r ∧ lendL b (St (obs X ob)) i (avs X xs) = some (avs X ys)
  | [], i, ts, K, h => ⟨[], h, rfl⟩
  | x :: xs, i, ts, K, h => by
    simp only [vwA] at h
    split at h
    · rename_i hb
      obtain ⟨ys, h1, h2⟩ := vwA_ok h
      exact ⟨_, h1, by simp only [avs, lendL, hb, if_true, h2]⟩
    · rename_i hb
      obtain ⟨y, h1, h2⟩ := vwV_ok h
      obtain ⟨ys, h3, h4⟩ := vwA_ok h1
      exact ⟨_, h3, by simp only [avs, lendL, if_neg hb, h2, h4]⟩

def idsA {I : TypeId → Type} (b : Nat → Bool) : Nat → List (SV I) → List Nat
  | _, [] => []
  | i, x :: xs => lendS (b i) x ++ idsA b (i + 1) xs
theorem rowIds_flat {X : Sys} {ob : OB X} (n : Nat) (x : SV X.I) (h : ∀ i ∈ rowIdS x, ∃ t sh g, ob[i]? = some (some (SO.row (I := X.I) t sh true g))) (ha : ∀ cs, x ≠ .agg cs) : rowIds (St (obs X ob)) (n + 1) (av X x) = rowIdS x := by
  cases x <;> first | (simp only [av, rowIds, rowIdS]; done) | skip
  · rename_i o t lo m
    obtain ⟨t', sh, g, ho⟩ := h o (by simp [rowIdS])
    simp only [av, rowIds_row, obs_get ho, SO.obj, if_true, rowIdS]
  · rename_i o t lo m
    obtain ⟨t', sh, g, ho⟩ := h o (by simp [rowIdS])
    simp only [av, rowIds_row, obs_get ho, SO.obj, if_true, rowIdS]
  · rename_i cs; exact absurd rfl (ha cs)
def noAggC {I : TypeId → Type} : SV I → Bool
  | .agg _ => false
  | _ => true
theorem rowIds_cells {X : Sys} {ob : OB X} (n : Nat) : ∀ (cs : List (SV X.I)), (∀ i ∈ cs.flatMap rowIdS, ∃ t sh g, ob[i]? = some (some (SO.row (I := X.I) t sh true g))) → cs.all noAggC = true → (avs X cs).flatMap (rowIds (St (obs X ob)) (n + 1)) = cs.flatMap rowIdS
  | [], _, _ => rfl
  | c :: cs, h, ha => by
    simp only [List.all_cons, Bool.and_eq_true] at ha
    simp only [avs, List.flatMap_cons]
    rw [rowIds_flat n c (fun i hi => h i (by simp [hi])) (fun q hq => by subst hq; simp [noAggC] at ha), rowIds_cells n cs (fun i hi => h i (by simp at hi ⊢; exact .inr hi)) ha.2]
def noAgg {I : TypeId → Type} : SV I → Bool
  | .agg cs => cs.all noAggC
  | _ => true
theorem idsA_ok {X : Sys} {b : Nat → Bool} {ob : OB X} : ∀ {xs : List (SV X.I)} {i : Nat}, (∀ j ∈ idsA b i xs, ∃ t sh g, ob[j]? = some (some (SO.row (I := X.I) t sh true g))) → xs.all noAgg = true → lendIds b (St (obs X ob)) i (avs X xs) = idsA b i xs
  | [], i, _, _ => rfl
  | x :: xs, i, h, ha => by
    simp only [List.all_cons, Bool.and_eq_true] at ha
    simp only [avs, lendIds, idsA]
    rw [idsA_ok (fun j hj => h j (by simp [idsA, hj])) ha.2]
    congr 1
    unfold lendS
    split
    · rfl
    · rename_i hb
      have h' : ∀ j ∈ lendS (b i) x, ∃ t sh g, ob[j]? = some (some (SO.row (I := X.I) t sh true g)) := fun j hj => h j (by simp [idsA, hj])
      unfold lendS at h'
      rw [if_neg hb] at h'
      split
      · rename_i cs
        simp only [av]
        rw [show (8 : Nat) = 6 + 1 + 1 from rfl]
        simp only [rowIds]
        exact rowIds_cells 6 cs h' ha.1
      · rename_i hn
        exact rowIds_flat 7 x (by
          split at h'
          · rename_i cs; exact absurd rfl (hn cs)
          · exact h') hn

/-! ### results -/
inductive RC (I : TypeId → Type) where
  | sv (x : SV I)
  | own (sh : Bool) (t : TypeId) (xs : List (I t))
/-- A result: its cells, and is it a struct. -/
abbrev RV (I : TypeId → Type) := List (RC I) × Bool
def rcAV (X : Sys) : RC X.I → AV
  | .sv x => av X x
  | .own sh t xs => .own sh (X.sz t) (xs.map (X.enc t))
def rvAV (X : Sys) (v : RV X.I) : AV := if v.2 = true then .agg (v.1.map (rcAV X)) else one (v.1.map (rcAV X))
def rsAV (X : Sys) (l : List (RV X.I)) : AV := one (l.map (rvAV X))
def imp1 {X : Sys} (ob : OB X) : RC X.I → SV X.I × OB X
  | .sv x => (x, ob)
  | .own sh t xs => (.row ob.length t 0 xs.length, ob ++ [some (.row t sh true [.xs xs])])
def impL {X : Sys} : OB X → List (RC X.I) → List (SV X.I) × OB X
  | ob, [] => ([], ob)
  | ob, x :: xs => ((imp1 ob x).1 :: (impL (imp1 ob x).2 xs).1, (impL (imp1 ob x).2 xs).2)
def impV {X : Sys} (ob : OB X) (v : RV X.I) : SV X.I × OB X := if v.2 = true then (.agg (impL ob v.1).1, (impL ob v.1).2) else match v.1 with
  | [x] => imp1 ob x
  | _ => (.junk, ob)
def impVs {X : Sys} : OB X → List (RV X.I) → List (SV X.I) × OB X
  | ob, [] => ([], ob)
  | ob, x :: xs => ((impV ob x).1 :: (impVs (impV ob x).2 xs).1, (impVs (impV ob x).2 xs).2)
def impS {X : Sys} (ob : OB X) (l : List (RV X.I)) : SV X.I × OB X := match l with
  | [x] => impV ob x
  | l => (.tup (impVs ob l).1, (impVs ob l).2)
/-- The forms that are taken. -/
def RC.ok {I : TypeId → Type} : RC I → Bool
  | .sv (.agg _) => false
  | .sv (.tup _) => false
  | _ => true
def rvOK {I : TypeId → Type} (v : RV I) : Bool := v.1.all RC.ok && (v.2 || v.1.length == 1)
def nAgg : AV → Bool
  | .agg _ => false
  | .tup _ => false
  | _ => true

theorem imp1_ok {X : Sys} {ob : OB X} {x : RC X.I} (h : x.ok = true) : import1 (St (obs X ob)) (rcAV X x) = (av X (imp1 ob x).1, St (obs X (imp1 ob x).2)) ∧ nAgg (rcAV X x) = true := by
  cases x with
  | sv x => cases x <;> first | (simp [RC.ok] at h; done) | exact ⟨rfl, rfl⟩
  | own sh t xs =>
    refine ⟨?_, rfl⟩
    simp only [rcAV, import1, imp1, av, List.length_map, St_clock, obs_len]
    rw [← obs_new]
    simp only [SO.obj, segs, List.flatMap_cons, List.flatMap_nil, Seg.es, List.append_nil]
theorem impL_ok {X : Sys} : ∀ {l : List (RC X.I)} {ob : OB X}, l.all RC.ok = true → importL (St (obs X ob)) (l.map (rcAV X)) = (avs X (impL ob l).1, St (obs X (impL ob l).2))
  | [], ob, _ => rfl
  | x :: xs, ob, h => by
    simp only [List.all_cons, Bool.and_eq_true] at h
    have h1 := (imp1_ok (ob := ob) h.1).1
    simp only [List.map_cons, importL, h1, impL, avs]
    rw [impL_ok h.2]
theorem impV_ok {X : Sys} {ob : OB X} {v : RV X.I} (h : rvOK v = true) : import2 (St (obs X ob)) (rvAV X v) = (av X (impV ob v).1, St (obs X (impV ob v).2)) ∧ (∀ vs, rvAV X v ≠ .tup vs) := by
  simp only [rvOK, Bool.and_eq_true, Bool.or_eq_true, beq_iff_eq] at h
  unfold rvAV impV
  split
  · refine ⟨?_, nofun⟩
    simp only [import2, impL_ok h.1, av]
  · rename_i hv
    have hl := h.2.resolve_left hv
    obtain ⟨l, b⟩ := v
    match l, hl with
    | [x], _ =>
      simp only [List.all_cons, List.all_nil, Bool.and_true] at h
      obtain ⟨h1, h2⟩ := imp1_ok (ob := ob) h.1
      simp only [List.map_cons, List.map_nil, one]
      refine ⟨?_, fun vs hvs => by rw [hvs] at h2; cases h2⟩
      rw [← h1]
      unfold import2
      split
      · rename_i heq; rw [heq] at h2; cases h2
      · rfl
theorem impVs_ok {X : Sys} : ∀ {l : List (RV X.I)} {ob : OB X}, l.all rvOK = true → import2L (St (obs X ob)) (l.map (rvAV X)) = (avs X (impVs ob l).1, St (obs X (impVs ob l).2))
  | [], ob, _ => rfl
  | x :: xs, ob, h => by
    simp only [List.all_cons, Bool.and_eq_true] at h
    have h1 := (impV_ok (ob := ob) h.1).1
    simp only [List.map_cons, import2L, h1, impVs, avs]
    rw [impVs_ok h.2]
theorem impS_ok {X : Sys} {ob : OB X} {l : List (RV X.I)} (h : l.all rvOK = true) : importAV (St (obs X ob)) (rsAV X l) = (av X (impS ob l).1, St (obs X (impS ob l).2)) := by
  have key : ∀ l : List (RV X.I), l.all rvOK = true → l.length ≠ 1 → importAV (St (obs X ob)) (rsAV X l) = (.tup (avs X (impVs ob l).1), St (obs X (impVs ob l).2)) := by
    intro l hl hn
    have : rsAV X l = .tup (l.map (rvAV X)) := by
      match l, hn with
      | [], _ => rfl
      | _ :: _ :: _, _ => rfl
    rw [this]
    simp only [importAV, impVs_ok hl]
  match l, h with
  | [], h => exact key [] h (by simp)
  | [x], h =>
    simp only [List.all_cons, List.all_nil, Bool.and_true] at h
    obtain ⟨h1, h2⟩ := impV_ok (ob := ob) h
    simp only [rsAV, List.map_cons, List.map_nil, one, impS]
    rw [← h1]
    unfold importAV
    split
    · rename_i vs heq; exact absurd heq (h2 vs)
    · rfl
  | x :: y :: l, h => exact key _ h (by simp)
theorem imp1_len {X : Sys} (ob : OB X) (x : RC X.I) : ∃ m, (imp1 ob x).2 = ob ++ m := by cases x <;> exact ⟨_, by simp [imp1]; rfl⟩
theorem impL_len {X : Sys} : ∀ (l : List (RC X.I)) (ob : OB X), ∃ m, (impL ob l).2 = ob ++ m
  | [], ob => ⟨[], by simp [impL]⟩
  | x :: l, ob => by
    obtain ⟨m, h⟩ := imp1_len ob x
    obtain ⟨m', h'⟩ := impL_len l (imp1 ob x).2
    exact ⟨m ++ m', by rw [impL, h', h, List.append_assoc]⟩
theorem impV_len {X : Sys} (ob : OB X) (v : RV X.I) : ∃ m, (impV ob v).2 = ob ++ m := by
  unfold impV
  split
  · exact impL_len _ _
  · split
    · exact imp1_len _ _
    · exact ⟨[], by simp⟩
theorem impVs_len {X : Sys} : ∀ (l : List (RV X.I)) (ob : OB X), ∃ m, (impVs ob l).2 = ob ++ m
  | [], ob => ⟨[], by simp [impVs]⟩
  | x :: l, ob => by
    obtain ⟨m, h⟩ := impV_len ob x
    obtain ⟨m', h'⟩ := impVs_len l (impV ob x).2
    exact ⟨m ++ m', by rw [impVs, h', h, List.append_assoc]⟩
theorem impS_len {X : Sys} (ob : OB X) (l : List (RV X.I)) : ∃ m, (impS ob l).2 = ob ++ m := by
  unfold impS
  split
  · exact impV_len _ _
  · exact impVs_len _ _
end Go.Bx

/- Calls: the callees' rows, and all operations. (Own text.) -/
namespace Go.Bx
set_option linter.unusedVariables false
set_option linter.unusedSimpArgs false
set_option linter.unusedSectionVars false
set_option linter.unusedVariables false
set_option linter.unusedSectionVars false
set_option linter.unusedSimpArgs false

/-! ### numbers anew -/
section
variable {I : TypeId → Type}
def ren0 (g : Nat → Nat) : SV I → SV I
  | .row o t lo n => .row (g o) t lo n
  | .rowx o t lo n => .rowx (g o) t lo n
  | .ptr o p off => .ptr (g o) p off
  | .tptr o t => .tptr (g o) t
  | .slf o => .slf (g o)
  | .trow o t n => .trow (g o) t n
  | x => x
def ren1 (g : Nat → Nat) : SV I → SV I
  | .fn f a b => .fn f (a.map (ren0 g)) (b.map (ren0 g))
  | x => ren0 g x
def ren2 (g : Nat → Nat) : SV I → SV I
  | .agg cs => .agg (cs.map (ren1 g))
  | x => ren1 g x
def renG (g : Nat → Nat) {t : TypeId} : Seg I t → Seg I t
  | .one cs => .one (cs.map (ren1 g))
  | x => x
def renO (g : Nat → Nat) : SO I → SO I
  | .box sz sh cs => .box sz sh (cs.map (ren1 g))
  | .row t sh fl s => .row t sh fl (if fl = true then s else s.map (renG g))
def renRC (g : Nat → Nat) : RC I → RC I
  | .sv x => .sv (ren1 g x)
  | x => x
def renRV (g : Nat → Nat) (v : RV I) : RV I := (v.1.map (renRC g), v.2)
def RC.isSv : RC I → Bool
  | .sv _ => true
  | _ => false
def rvSv (v : RV I) : Bool := v.1.all RC.isSv
end
section
variable {X : Sys} (g : Nat → Nat)
theorem ren0_av (x : SV X.I) : av X (ren0 g x) = rn0 g (av X x) := by cases x <;> simp [ren0, av, rn0]
theorem ren0s_av (l : List (SV X.I)) : avs X (l.map (ren0 g)) = (avs X l).map (rn0 g) := by
  simp only [avs_map, List.map_map]; exact List.map_congr_left fun x _ => ren0_av g x
theorem ren1_av (x : SV X.I) : av X (ren1 g x) = rn1 g (av X x) := by cases x <;> simp [ren1, ren0, av, rn1, rn0, ren0s_av]
theorem ren1s_av (l : List (SV X.I)) : avs X (l.map (ren1 g)) = (avs X l).map (rn1 g) := by
  simp only [avs_map, List.map_map]; exact List.map_congr_left fun x _ => ren1_av g x
theorem ren2_av (x : SV X.I) : av X (ren2 g x) = rn2 g (av X x) := by cases x <;> simp [ren2, ren1, ren0, av, rn2, rn1, rn0, ren0s_av, ren1s_av]
theorem ren2s_av (l : List (SV X.I)) : avs X (l.map (ren2 g)) = (avs X l).map (rn2 g) := by
  simp only [avs_map, List.map_map]; exact List.map_congr_left fun x _ => ren2_av g x
theorem rn1_pl {x : AV} (h : pl x = true) : rn1 g x = x := by cases x <;> simp_all [pl, rn1, rn0]
theorem segs_ren (hX : SysOK X) {t : TypeId} (s : List (Seg X.I t)) : segs X (s.map (renG g)) = (segs X s).map fun e => e.map (rn1 g) := by
  induction s with
  | nil => rfl
  | cons x s ih =>
    simp only [segs, List.map_cons, List.flatMap_cons, List.map_append] at ih ⊢
    rw [ih]; congr 1
    cases x with
    | xs l =>
      simp only [renG, Seg.es, List.map_map]
      refine List.map_congr_left fun z _ => ?_
      simp only [Function.comp]
      conv => lhs; rw [← List.map_id (X.enc t z)]
      exact List.map_congr_left fun y hy => (rn1_pl g (List.all_eq_true.1 (hX.encPl t z) y hy)).symm
    | one cs => simp only [renG, Seg.es, List.map_cons, List.map_nil, ren1s_av]
theorem renO_obj (hX : SysOK X) (o : SO X.I) : SO.obj X (renO g o) = rnO g (SO.obj X o) := by
  cases o with
  | box sz sh cs => simp [renO, SO.obj, rnO, ren1s_av]
  | row t sh fl s =>
    cases fl
    · simp [renO, SO.obj, rnO, segs_ren g hX]
    · simp [renO, SO.obj, rnO]
theorem renRC_av {x : RC X.I} (h : x.isSv = true) : rcAV X (renRC g x) = rn1 g (rcAV X x) := by
  cases x with
  | sv x => exact ren1_av g x
  | own => cases h
theorem renRV_av {v : RV X.I} (h : rvSv v = true) (hk : rvOK v = true) : rvAV X (renRV g v) = rn2 g (rvAV X v) ∧ ∀ vs, rvAV X v ≠ .tup vs := by
  have hm : (v.1.map (renRC g)).map (rcAV X) = (v.1.map (rcAV X)).map (rn1 g) := by
    simp only [List.map_map]
    exact List.map_congr_left fun x hx => renRC_av g (List.all_eq_true.1 h x hx)
  unfold rvAV renRV
  simp only
  split
  · exact ⟨by rw [hm]; rfl, nofun⟩
  · rename_i hv
    simp only [rvOK, Bool.and_eq_true, Bool.or_eq_true, beq_iff_eq] at hk
    obtain ⟨l, b⟩ := v
    match l, hk.2.resolve_left hv with
    | [x], _ =>
      simp only [List.map_cons, List.map_nil, one] at hm ⊢
      have hx : x.ok = true := by simpa using hk.1
      have : nAgg (rcAV X x) = true := (imp1_ok (ob := []) hx).2
      have hm' := List.cons.inj hm
      rw [hm'.1]
      refine ⟨?_, fun vs e => by rw [e] at this; cases this⟩
      cases hr : rcAV X x <;> rw [hr] at this <;> first | rfl | cases this
theorem renRS_av {l : List (RV X.I)} (h : l.all rvSv = true) (hk : l.all rvOK = true) : rsAV X (l.map (renRV g)) = rn3 g (rsAV X l) := by
  have hm : (l.map (renRV g)).map (rvAV X) = (l.map (rvAV X)).map (rn2 g) := by
    simp only [List.map_map]
    exact List.map_congr_left fun x hx => (renRV_av g (List.all_eq_true.1 h x hx) (List.all_eq_true.1 hk x hx)).1
  unfold rsAV
  rw [hm]
  match l, h, hk with
  | [], _, _ => rfl
  | [x], h, hk =>
    simp only [List.all_cons, List.all_nil, Bool.and_true] at h hk
    have := (renRV_av g h hk).2
    simp only [List.map_cons, List.map_nil, one]
    cases hr : rvAV X x <;> first | rfl | exact absurd hr (this _)
  | x :: y :: l, _, _ => rfl
theorem renRV_ok {v : RV X.I} (h : rvOK v = true) : rvOK (renRV g v) = true := by
  simp only [rvOK, Bool.and_eq_true, renRV, List.length_map] at h ⊢
  refine ⟨?_, h.2⟩
  rw [List.all_map, List.all_eq_true]
  intro x hx
  have := List.all_eq_true.1 h.1 x hx
  cases x with
  | sv x => cases x <;> first | rfl | cases this
  | own => rfl
end

/-! ### rows of callees -/
structure PCall (X : Sys) (f : FuncId) where
  A : Type
  R : Type
  ps : List TypeId
  arg : List (SV X.I) → Option A
  bind : {β : Type} → A → (R → Option β) → (Value → Option β) → Option β
  res : R → List (RV X.I)
  ok : ∀ {β : Type} (args : List (SV X.I)) (a : A) (K : R → Option β) (Kp : Value → Option β) (r : β), arg args = some a → bind a K Kp = some r →
    (∃ x, K x = some r ∧ PureOK X.E f (avs X args) (rsAV X (res x)) ∧ (res x).all rvOK = true) ∨ ∃ V, Kp V = some r ∧ PureP X.E f (avs X args) V
structure RCall (X : Sys) (f : FuncId) where
  A : Type
  R : Type
  k : Nat
  ps : List TypeId
  arg : {β : Type} → OB X → List (SV X.I) → (A → List Nat → Option β) → Option β
  pre : A → List (SV X.I) × OB X
  bind : {β : Type} → A → (R → Option β) → (Value → Option β) → Option β
  post : A → R → List (RV X.I) × OB X
  arg_ok : ∀ {β : Type} {ob args} {K : A → List Nat → Option β} {r : β}, arg ob args K = some r → ∃ a ι, K a ι = some r ∧ ι.length = k ∧ ι.Nodup ∧ (∀ i ∈ ι, i < ob.length) ∧ (avs X (pre a).1).map (rn2 (ixg ι)) = avs X args ∧ Holds (obs X ob) (ixg ι) 0 (obs X (pre a).2)
  ok : ∀ {β : Type} (a : A) (K : R → Option β) (Kp : Value → Option β) (r : β), bind a K Kp = some r →
    (∃ x, K x = some r ∧ RefC X.E f k (avs X (pre a).1) (obs X (pre a).2) (rsAV X (post a x).1) (obs X (post a x).2) ∧ k ≤ (post a x).2.length ∧ (post a x).1.all rvOK = true ∧ (post a x).1.all rvSv = true) ∨
      ∃ V, Kp V = some r ∧ RefP X.E f k (avs X (pre a).1) (obs X (pre a).2) V
inductive Callee (X : Sys) (f : FuncId) where
  | none
  | pure (P : PCall X f)
  | ref (P : RCall X f)
abbrev Calls_ (X : Sys) := (f : FuncId) → Callee X f

def greatS {X : Sys} (ob : OB X) (ι : List Nat) (k : Nat) (os : OB X) : OB X :=
  setAll ob ι (os.map (Option.map (renO (gx (ixg ι) k ob.length)))) ++ (os.drop k).map (Option.map (renO (gx (ixg ι) k ob.length)))
theorem setAll_map {α γ : Type} (f : α → γ) : ∀ (l : List α) (ι : List Nat) (os : List α), setAll (l.map f) ι (os.map f) = (setAll l ι os).map f
  | l, [], os => by cases os <;> rfl
  | l, i :: ι, [] => rfl
  | l, i :: ι, o :: os => by simp only [List.map_cons, setAll, ← List.map_set]; exact setAll_map f _ ι os
theorem greatS_obs {X : Sys} (hX : SysOK X) (ob : OB X) (ι : List Nat) (k : Nat) (os : OB X) : obs X (greatS ob ι k os) = greatL (obs X ob) ι k (obs X os) := by
  have hm : ∀ (l : OB X), (l.map (Option.map (renO (gx (ixg ι) k ob.length)))).map (Option.map (SO.obj X)) = (l.map (Option.map (SO.obj X))).map (Option.map (rnO (gx (ixg ι) k ob.length))) := fun l => by
    simp only [List.map_map]
    refine List.map_congr_left fun o _ => ?_
    cases o with
    | none => rfl
    | some o => simp [renO_obj _ hX]
  simp only [obs, greatS, greatL, List.map_append, List.length_map, ← setAll_map, hm, List.map_drop]

variable {β : Type}
/-- A call. -/
def xCall (X : Sys) (ob : OB X) {f : FuncId} (P : Callee X f) (as : List (SV X.I)) (K : SV X.I → OB X → XF → Option β) (Kp : Value → Option β) : Option β :=
  match P with
  | .none => none
  | .pure P => if as.all noAgg = true then match shareS ob (idsA (X.E.br f) 0 as) with
    | some ob1 => vwA (X.E.br f) ob1 0 P.ps as fun ys => match P.arg ys with
      | some a => P.bind a (fun x => K (impS ob1 (P.res x)).1 (impS ob1 (P.res x)).2 ⟨(freshS ob (idsA (X.E.br f) 0 as)).isSome, true, none, idsA (X.E.br f) 0 as ++ (List.range' ob.length ((impS ob1 (P.res x)).2.length - ob.length) ++ slfs ob)⟩) Kp
      | none => none
    | none => none else none
  | .ref P => if as.all noAgg = true then match shareS ob (idsA (X.E.br f) 0 as) with
    | some ob1 => vwA (X.E.br f) ob1 0 P.ps as fun ys => P.arg ob1 ys fun a ι => P.bind a (fun x => K (impS (greatS ob1 ι P.k (P.post a x).2) ((P.post a x).1.map (renRV (gx (ixg ι) P.k ob1.length)))).1 (greatS ob1 ι P.k (P.post a x).2)
          ⟨true, true, none, idsA (X.E.br f) 0 as ++ (ι ++ (List.range' ob.length ((greatS ob1 ι P.k (P.post a x).2).length - ob.length) ++ slfs ob))⟩) Kp
    | none => none else none

theorem omin_some {a : Option Nat} {b : Nat} : (omin a (some b)).isSome = true := by cases a <;> rfl
theorem impS_sv {X : Sys} {ob : OB X} {l : List (RV X.I)} (h : l.all rvSv = true) : (impS ob l).2 = ob := by
  have h1 : ∀ (l : List (RC X.I)), l.all RC.isSv = true → (impL ob l).2 = ob := by
    intro l
    induction l with
    | nil => intro _; rfl
    | cons x l ih =>
      intro h
      simp only [List.all_cons, Bool.and_eq_true] at h
      cases x with
      | sv x => simpa [impL, imp1] using ih h.2
      | own => simp [RC.isSv] at h
  have h2 : ∀ v : RV X.I, rvSv v = true → (impV ob v).2 = ob := fun v hv => by
    unfold impV
    split
    · exact h1 _ hv
    · split
      · rename_i x hx
        rw [rvSv, hx] at hv
        cases x with
        | sv x => rfl
        | own => simp [RC.isSv] at hv
      · rfl
  have h3 : ∀ (l : List (RV X.I)), l.all rvSv = true → (impVs ob l).2 = ob := by
    intro l
    induction l with
    | nil => intro _; rfl
    | cons x l ih =>
      intro h
      simp only [List.all_cons, Bool.and_eq_true] at h
      simp only [impVs, h2 x h.1]; exact ih h.2
  unfold impS
  split
  · exact h2 _ (by simpa using h)
  · exact h3 _ h

theorem stays_call {X : Sys} (hX : SysOK X) {ob ob1 ob2 : OB X} {ids ι : List Nat} (h1 : ∀ i, i ∉ ids → ob1[i]? = ob[i]?) (h2 : ∀ i, i < ob.length → i ∉ ι → ob2[i]? = ob1[i]?) (hl : ob.length ≤ ob2.length) {id : Nat}
    (h : id ∉ ids ++ (ι ++ (List.range' ob.length (ob2.length - ob.length) ++ slfs ob))) : Stays (St (obs X ob)) (St (obs X ob2)) id := by
  simp only [List.mem_append, not_or, List.mem_range', Nat.one_mul] at h
  refine ⟨?_, nslfO_of hX h.2.2.2⟩
  simp only [St, obs, List.getElem?_map]
  by_cases hid : id < ob.length
  · rw [h2 id hid h.2.1, h1 id h.1]
  · have h3 : ob2.length ≤ id := by
      apply Classical.byContradiction; intro hc
      exact h.2.2.1 ⟨id - ob.length, by omega, by omega⟩
    rw [List.getElem?_eq_none h3, List.getElem?_eq_none (by omega)]

/-- What is true of an operation that panics. -/
def OpPan (X : Sys) (base : Nat) (ob : OB X) (tm : List (SV X.I)) (o : Op) (V : Value) : Prop := ∀ oo : Oper, oo.op = o → ∃ md, PanAt X.E base (avs X tm) (St (obs X ob)) oo V md

theorem xCall_ok {X : Sys} (hX : SysOK X) {base : Nat} {ob : OB X} {tm : List (SV X.I)} {g : FuncId} {first caps : List (SV X.I)} {fo : Operand} {args : Array Operand} {ts : Array TypeId} {P : Callee X g} (hf : rho tm fo = .fn g first caps)
    {K : SV X.I → OB X → XF → Option β} {Kp : Value → Option β} {r : β} (h : xCall X ob P (first ++ args.toList.map (rho tm) ++ caps) K Kp = some r) :
    (∃ y ob' x, K y ob' x = some r ∧ OpOK X base ob (evOp X.E.gl (avs X tm)) (.call ⟨.value fo, args, ts⟩) y ob' x) ∨ ∃ V, Kp V = some r ∧ OpPan X base ob tm (.call ⟨.value fo, args, ts⟩) V := by
  have hρ : ∀ x, evOp X.E.gl (avs X tm) x = av X (rho tm x) := rho_av hX tm
  have has : avs X first ++ args.toList.map (evOp X.E.gl (avs X tm)) ++ avs X caps = avs X (first ++ args.toList.map (rho tm) ++ caps) := by
    rw [avs_append, avs_append]; congr 2
    rw [avs_map (args.toList.map (rho tm)), List.map_map]; exact List.map_congr_left fun x _ => hρ x
  generalize first ++ args.toList.map (rho tm) ++ caps = as at h has
  have hA : ∀ c, evA X.E.T (evOp X.E.gl (avs X tm)) c (.call ⟨.value fo, args, ts⟩) = none := fun c => rfl
  have hev : ∀ ci, evO X.E.T X.E.br ci (evOp X.E.gl (avs X tm)) (St (obs X ob)) (.call ⟨.value fo, args, ts⟩) = evCall X.E.br ci (St (obs X ob)) (.fn g (avs X first) (avs X caps)) (args.toList.map (evOp X.E.gl (avs X tm))) := fun ci => by
    simp only [evO, hA, evB, hρ, hf, av]
  have hnl : ∀ t a, Op.call ⟨.value fo, args, ts⟩ ≠ .load t a := fun t a h => by cases h
  unfold xCall at h
  split at h
  · cases h
  · rename_i P
    split at h
    · rename_i hag
      split at h
      · rename_i ob1 hsh
        obtain ⟨s1, s2, s3, s4, s5⟩ := shareS_ok hsh
        obtain ⟨ys, h1, h2⟩ := vwA_ok h
        have hids := idsA_ok (X := X) (ob := ob) s3 hag
        split at h1
        · rename_i a ha
          rcases P.ok _ _ _ _ _ ha h1 with ⟨x, h3, h4, h5⟩ | ⟨V, h3, h4⟩
          · left
            obtain ⟨m, hm⟩ := impS_len ob1 (P.res x)
            refine ⟨_, _, _, h3, rone g (avs X ys) (St (obs X ob1)) (rsAV X (P.res x), St (obs X ob1), none) (fun _ _ _ => none), omin (freshS ob (idsA (X.E.br g) 0 as)) none, rone_ok (h4 base _) no_ok, ?_, ?_, (fun id h => by cases h), fun id _ hid => ?_⟩
            · rw [hev]
              simp only [evCall, has]
              rw [hids, s1, h2]
              simp only [rone_eq, impS_ok h5, freshS_ok s3]
            · cases freshS ob (idsA (X.E.br g) 0 as) <;> rfl
            · refine stays_call hX (ι := []) s4 (fun i hi _ => ?_) (by rw [hm, List.length_append]; omega) (by simpa using hid)
              rw [hm, List.getElem?_append_left (by omega)]
          · right
            refine ⟨V, h3, fun oo hoo => ⟨omin (freshL (St (obs X ob)) (idsA (X.E.br g) 0 as)) none, ?_⟩⟩
            refine PanAt.call hX.tab (ci' := rone g (avs X ys) (St (obs X ob1)) (noR, St (obs X ob1), none) (fun _ _ _ => none)) (rone_ok (h4 base _) no_ok) (r := ⟨noR, St (obs X ob1), omin (freshL (St (obs X ob)) (idsA (X.E.br g) 0 as)) none, true⟩) (fun t a => by rw [hoo]; exact hnl t a) ?_ noR_no
            rw [hoo, hev]
            simp only [evCall, has]
            rw [hids, s1, h2]
            simp only [rone_eq]
            rfl
        · cases h1
      · cases h
    · cases h
  · rename_i P
    split at h
    · rename_i hag
      split at h
      · rename_i ob1 hsh
        obtain ⟨s1, s2, s3, s4, s5⟩ := shareS_ok hsh
        obtain ⟨ys, h1, h2⟩ := vwA_ok h
        have hids := idsA_ok (X := X) (ob := ob) s3 hag
        · obtain ⟨a, ι, h1, a1, a2, a3, a4, a5⟩ := P.arg_ok h1
          rcases P.ok _ _ _ _ h1 with ⟨x, h3, h4, h5, h6, h7⟩ | ⟨V, h3, h4⟩
          · left
            have hc := h4.at (base := base) (L := obs X ob1) ι 0 (by
              simp only [Bool.and_eq_true, beq_iff_eq, decide_eq_true_eq, List.all_eq_true]
              exact ⟨⟨⟨a1, a2⟩, fun i hi => ⟨by rw [obs_len]; exact a3 i hi, Nat.zero_le _⟩⟩, by rw [obs_len]; exact h5⟩) a5 a4 rfl rfl
            rw [← greatS_obs hX, obs_len, ← renRS_av _ h7 h6] at hc
            have h6' : ((P.post a x).1.map (renRV (gx (ixg ι) P.k ob1.length))).all rvOK = true := by
              rw [List.all_map, List.all_eq_true]; exact fun v hv => renRV_ok _ (List.all_eq_true.1 h6 v hv)
            have h7' : ((P.post a x).1.map (renRV (gx (ixg ι) P.k ob1.length))).all rvSv = true := by
              rw [List.all_map, List.all_eq_true]; intro v hv
              have := List.all_eq_true.1 h7 v hv
              simp only [rvSv, Function.comp, renRV, List.all_map, List.all_eq_true] at this ⊢
              intro c hc
              have := this c hc
              cases c <;> first | rfl | cases this
            have hlen : ob1.length ≤ (greatS ob1 ι P.k (P.post a x).2).length := by
              simp only [greatS, List.length_append, setAll_len]; omega
            refine ⟨_, _, _, h3, rone g (avs X ys) (St (obs X ob1)) (_, _, some 0) (fun _ _ _ => none), omin (freshS ob (idsA (X.E.br g) 0 as)) (some 0), rone_ok hc no_ok, ?_, omin_some.symm, (fun id h => by cases h), fun id _ hid => ?_⟩
            · rw [hev]
              simp only [evCall, has]
              rw [hids, s1, h2]
              simp only [rone_eq, impS_ok h6', freshS_ok s3, impS_sv h7']
            · refine stays_call hX (ob1 := ob1) (ι := ι) s4 (fun i hi hn => ?_) (by omega) hid
              simp only [greatS]
              rw [List.getElem?_append_left (by rw [setAll_len]; omega), setAll_get _ _ _ _ a2 (by simp; omega) (by omega)]
              have : ι.findIdx? (· == i) = none := by
                rw [List.findIdx?_eq_none_iff]; intro x hx; simp; intro e; subst e; exact hn hx
              rw [this]
          · right
            have hc := h4.at (base := base) (L := obs X ob1) ι 0 (by
              simp only [Bool.and_eq_true, beq_iff_eq, decide_eq_true_eq, List.all_eq_true]
              exact ⟨⟨a1, a2⟩, fun i hi => ⟨by rw [obs_len]; exact a3 i hi, Nat.zero_le _⟩⟩) a5 a4
            refine ⟨V, h3, fun oo hoo => ⟨omin (freshL (St (obs X ob)) (idsA (X.E.br g) 0 as)) (some 0), ?_⟩⟩
            refine PanAt.call hX.tab (ci' := rone g (avs X ys) (St (obs X ob1)) (noR, St (obs X ob1), some 0) (fun _ _ _ => none)) (rone_ok hc no_ok) (r := ⟨noR, St (obs X ob1), omin (freshL (St (obs X ob)) (idsA (X.E.br g) 0 as)) (some 0), true⟩) (fun t a => by rw [hoo]; exact hnl t a) ?_ noR_no
            rw [hoo, hev]
            simp only [evCall, has]
            rw [hids, s1, h2]
            simp only [rone_eq]
            rfl
      · cases h
    · cases h
end Go.Bx

/- All operations, and regions of them. (Own text.) -/
namespace Go.Bx
set_option linter.unusedVariables false
set_option linter.unusedSimpArgs false
set_option linter.unusedSectionVars false
set_option linter.unusedVariables false
set_option linter.unusedSectionVars false
set_option linter.unusedSimpArgs false
variable {β : Type}

def valL {I : TypeId → Type} : SV I → Option Value
  | .i k n => some (.int k n)
  | .b x => some (.bool x)
  | .s x => some (.string (mkS x))
  | .c v => some v
  | _ => none
/-- The machine's value of an interface that is told whole. -/
def valS {I : TypeId → Type} : SV I → Option Value
  | .ifc t (.agg cs) => match mapO valL cs with
    | some vs => some (.iface t (.agg vs.toArray))
    | none => none
  | .ifc t x => (valL x).map (.iface t)
  | _ => none
theorem valL_ok {X : Sys} {x : SV X.I} {v u : Value} {c : Ctx} (h : valL x = some v) (hr : Rep c (av X x) u) : u = v := by
  cases x <;> simp only [valL, Option.some.injEq, reduceCtorEq] at h <;> (subst h; cases hr; rfl)
theorem mapO_get {α γ : Type} {f : α → Option γ} : ∀ {l : List α} {m : List γ}, mapO f l = some m → l.length = m.length ∧ ∀ (i : Nat) x, l[i]? = some x → ∃ y, m[i]? = some y ∧ f x = some y
  | [], m, h => by cases h; exact ⟨rfl, fun i x h => by simp at h⟩
  | a :: l, m, h => by
    simp only [mapO] at h
    split at h
    · rename_i y ys h1 h2; cases h
      obtain ⟨h3, h4⟩ := mapO_get h2
      refine ⟨by simp [h3], fun i x hx => ?_⟩
      cases i with
      | zero => simp at hx; subst hx; exact ⟨y, rfl, h1⟩
      | succ i => simpa using h4 i x (by simpa using hx)
    · cases h
theorem valS_ok {X : Sys} {x : SV X.I} {V u : Value} {c : Ctx} (h : valS x = some V) (hr : Rep c (av X x) u) : u = V ∧ ∃ t w, V = .iface t w := by
  unfold valS at h
  split at h
  · rename_i t cs
    split at h
    · rename_i vs hvs; cases h
      obtain ⟨h1, h2⟩ := mapO_get hvs
      simp only [av] at hr
      cases hr with
      | ifc hr =>
        cases hr with
        | @agg _ us hl hh =>
          refine ⟨?_, _, _, rfl⟩
          have : us = vs.toArray := by
            apply Array.ext
            · simp [hl, avs_length, h1]
            · intro i hi hi'
              have hic : i < cs.length := by rw [hl, avs_length] at hi; exact hi
              obtain ⟨y, h3, h4⟩ := h2 i cs[i] (by simp [hic])
              have h5 := hh i (av X cs[i]) us[i] (by rw [avs_get]; simp [hic]) (by simp [hi])
              rw [valL_ok h4 h5]
              have : vs[i]? = some y := h3
              simp [List.getElem?_eq_some_iff] at this
              simp [this.2]
          rw [this]
    · cases h
  · rename_i t x hn
    rw [Option.map_eq_some_iff] at h
    obtain ⟨v, h1, rfl⟩ := h
    simp only [av] at hr
    cases hr with
    | ifc hr => exact ⟨by rw [valL_ok h1 hr], _, _, rfl⟩
  · cases h

def xOp (X : Sys) (C : Calls_ X) (tm : List (SV X.I)) (ob : OB X) (o : Op) (K : SV X.I → OB X → XF → Option β) (Kp : Value → Option β) : Option β :=
  match o with
  | .load t a => match rho tm a with
    | .ptr i p off => xLoad X ob t (.ptr i p off) fun y x => K y ob x
    | .vp cs => xA X (rho tm) (.load t a) fun y => K y ob quiet
    | _ => none
  | .store t a x => xStore X ob t (rho tm a) (rho tm x) fun ob' f => K .junk ob' f
  | .call ⟨.builtin .append, args, ts⟩ => match args.toList, ts.toList with
    | [s, x], [t, t'] => xAppend X ob t t' (rho tm s) (rho tm x) K
    | _, _ => none
  | .call ⟨.builtin .copy, args, ts⟩ => match args.toList, ts.toList with
    | [s, x], [t, t'] => xCopy X ob t t' (rho tm s) (rho tm x) K
    | _, _ => none
  | .convert s d x => match rho tm x with
    | .l t xs => xConv X ob s d (.l t xs) fun y f => K y ob f
    | .row o t lo n => xConv X ob s d (.row o t lo n) fun y f => K y ob f
    | _ => xA X (rho tm) (.convert s d x) fun y => K y ob quiet
  | .call ⟨.value f, args, ts⟩ => match rho tm f with
    | .fn g first caps => xCall X ob (C g) (first ++ args.toList.map (rho tm) ++ caps) K Kp
    | _ => none
  | .panic x => match valS (rho tm x) with
    | some V => Kp V
    | none => none
  | .buildSlice t n ps => xNew X (rho tm) ob.length (.buildSlice t n ps) fun y q => K y (ob ++ [some q]) quiet
  | .box t x => xNew X (rho tm) ob.length (.box t x) fun y q => K y (ob ++ [some q]) quiet
  | .alloc t => xNew X (rho tm) ob.length (.alloc t) fun y q => K y (ob ++ [some q]) quiet
  | .makeSlice t l m => xNew X (rho tm) ob.length (.makeSlice t l m) fun y q => K y (ob ++ [some q]) quiet
  | o => xA X (rho tm) o fun y => K y ob quiet

theorem xOp_ok {X : Sys} (hX : SysOK X) {base : Nat} {C : Calls_ X} {tm : List (SV X.I)} {ob : OB X} {o : Op} {K : SV X.I → OB X → XF → Option β} {Kp : Value → Option β} {r : β} (h : xOp X C tm ob o K Kp = some r) :
    (∃ y ob' x, K y ob' x = some r ∧ OpOK X base ob (evOp X.E.gl (avs X tm)) o y ob' x) ∨ ∃ V, Kp V = some r ∧ OpPan X base ob tm o V := by
  have hρ : ∀ x, evOp X.E.gl (avs X tm) x = av X (rho tm x) := rho_av hX tm
  have hA : ∀ {o : Op} {K : SV X.I → OB X → XF → Option β}, xA X (rho tm) o (fun y => K y ob quiet) = some r → ∃ y ob' x, K y ob' x = some r ∧ OpOK X base ob (evOp X.E.gl (avs X tm)) o y ob' x := fun {o K} h => by
    obtain ⟨y, h1, h2⟩ := xA_ok hX hρ (St (obs X ob)).clock h
    exact ⟨y, ob, quiet, h1, OpOK.pure h2⟩
  have hN : ∀ {o : Op} {K : SV X.I → OB X → XF → Option β}, xNew X (rho tm) ob.length o (fun y q => K y (ob ++ [some q]) quiet) = some r → ∃ y ob' x, K y ob' x = some r ∧ OpOK X base ob (evOp X.E.gl (avs X tm)) o y ob' x := fun {o K} h => by
    obtain ⟨y, q, h1, h2⟩ := xNew_ok hX hρ h
    exact ⟨y, _, quiet, h1, OpOK.new (by rw [St_clock, obs_len]; exact h2)⟩
  unfold xOp at h
  split at h
  · rename_i t a
    split at h
    · rename_i i p off ha
      obtain ⟨y, x, id, p', off', h1, h2, h3, h4⟩ := xLoad_ok hX h
      left
      refine ⟨y, ob, x, h1, fun _ _ _ => none, none, no_ok, ?_, by rw [h3]; rfl, fun id' hid => ?_, fun id' he => by rw [h3] at he; cases he⟩
      · have hA0 : evA X.E.T (evOp X.E.gl (avs X tm)) (St (obs X ob)).clock (.load t a) = none := by
          simp only [evA, hρ, ha, av]; cases X.E.T t <;> rfl
        simp only [evO, hA0, evB, hρ, ha, h4, h3]
      · rw [h3] at hid; cases hid
        exact ⟨t, a, p', off', rfl, by rw [hρ, ha, h2]; rfl⟩
    · exact .inl (hA h)
    · cases h
  · rename_i t a x
    obtain ⟨ob', f, id, h1, h2, h3, h4, h5, h6⟩ := xStore_ok hX h
    left
    refine ⟨_, ob', f, h1, fun _ _ _ => none, some id, no_ok, ?_, h3, fun id' hid => (by rw [h5] at hid; cases hid), fun id' _ hid => h6 id' hid⟩
    have hA0 : evA X.E.T (evOp X.E.gl (avs X tm)) (St (obs X ob)).clock (.store t a x) = none := rfl
    simp only [evO, hA0, evB, hρ, h2, h4]; rfl
  · rename_i args ts
    split at h
    · rename_i s x t t' h1 h2
      obtain ⟨y, ob', f, md, g1, g2, g3, g4, g5, g6⟩ := xAppend_ok hX h
      left
      refine ⟨y, ob', f, g1, fun _ _ _ => none, md, no_ok, ?_, g3, fun id' hid => (by rw [g5] at hid; cases hid), g6⟩
      have hA0 : evA X.E.T (evOp X.E.gl (avs X tm)) (St (obs X ob)).clock (.call ⟨.builtin .append, args, ts⟩) = none := rfl
      simp only [evO, hA0, evB, h1, h2, hρ, g2, g4]
    · cases h
  · rename_i args ts
    split at h
    · rename_i s x t t' h1 h2
      obtain ⟨y, ob', f, id, g1, g2, g3, g4, g5, g6⟩ := xCopy_ok hX h
      left
      refine ⟨y, ob', f, g1, fun _ _ _ => none, some id, no_ok, ?_, g3, fun id' hid => (by rw [g5] at hid; cases hid), fun id' _ hid => g6 id' hid⟩
      have hA0 : evA X.E.T (evOp X.E.gl (avs X tm)) (St (obs X ob)).clock (.call ⟨.builtin .copy, args, ts⟩) = none := rfl
      simp only [evO, hA0, evB, h1, h2, hρ, g2, g4]
    · cases h
  · rename_i s d x
    split at h
    · rename_i t xs hx
      obtain ⟨y, g1, g2⟩ := xConv_ok hX h
      left
      refine ⟨y, ob, _, g1, fun _ _ _ => none, none, no_ok, ?_, rfl, (fun id' hid => by cases hid), (fun id' he => by cases he)⟩
      have hA0 : evA X.E.T (evOp X.E.gl (avs X tm)) (St (obs X ob)).clock (.convert s d x) = none := by
        simp only [evA, hρ, hx, av]
        split <;> first | rfl | simp_all
      simp only [evO, hA0, evB, hρ, hx, g2]
    · rename_i o t lo n hx
      obtain ⟨y, g1, g2⟩ := xConv_ok hX h
      left
      refine ⟨y, ob, _, g1, fun _ _ _ => none, none, no_ok, ?_, rfl, (fun id' hid => by cases hid), (fun id' he => by cases he)⟩
      have hA0 : evA X.E.T (evOp X.E.gl (avs X tm)) (St (obs X ob)).clock (.convert s d x) = none := by
        simp only [evA, hρ, hx, av]
        split <;> first | rfl | simp_all
      simp only [evO, hA0, evB, hρ, hx, g2]
    · exact .inl (hA h)
  · split at h
    · rename_i hf; exact xCall_ok hX hf h
    · cases h
  · rename_i x
    split at h
    · rename_i V hV
      right
      exact ⟨V, h, fun oo hoo => ⟨none, PanAt.panic hoo (fun c u hr => (valS_ok hV (by rw [← hρ]; exact hr)).1) (by
        have : ∃ t w, V = .iface t w := by
          unfold valS at hV
          split at hV
          · split at hV
            · cases hV; exact ⟨_, _, rfl⟩
            · cases hV
          · rw [Option.map_eq_some_iff] at hV; obtain ⟨v, _, rfl⟩ := hV; exact ⟨_, _, rfl⟩
          · cases hV
        exact this)⟩⟩
    · cases h
  · exact .inl (hN h)
  · exact .inl (hN h)
  · exact .inl (hN h)
  · exact .inl (hN h)
  · exact .inl (hA h)

/-! ### steps -/
def putS {I : TypeId → Type} (tm : List (SV I)) (d : Option Tmp) (y : SV I) : List (SV I) := match d with
  | some d => tm.set d y
  | none => tm
theorem putS_av {X : Sys} (tm : List (SV X.I)) (d : Option Tmp) (y : SV X.I) : avs X (putS tm d y) = putTm (avs X tm) d (av X y) := by
  cases d with
  | none => rfl
  | some d => exact avs_set tm d y
def xStep (X : Sys) (C : Calls_ X) (ops : Array Oper) (tm : List (SV X.I)) (ob : OB X) (o : Oper) (K : List (SV X.I) → OB X → XF → Option β) (Kp : List (SV X.I) → Value → Option β) : Option β :=
  match o.guard with
  | none => xOp X C tm ob o.op (fun y ob' x => K (putS tm o.dst y) ob' x) (Kp tm)
  | some (j, want) => match (ops[j]?).bind (·.dst) with
    | none => K (putS tm o.dst (.c undef)) ob quiet
    | some d => match tm[d]? with
      | some (.b z) => if z = true then (match want with
          | true => xOp X C (tm.set d (.b true)) ob o.op (fun y ob' x => K (putS (tm.set d (.b true)) o.dst y) ob' x) (Kp (tm.set d (.b true)))
          | false => K (putS (tm.set d (.b true)) o.dst (.c undef)) ob quiet) else (match want with
          | false => xOp X C (tm.set d (.b false)) ob o.op (fun y ob' x => K (putS (tm.set d (.b false)) o.dst y) ob' x) (Kp (tm.set d (.b false)))
          | true => K (putS (tm.set d (.b false)) o.dst (.c undef)) ob quiet)
      | some (.c u) => match u with
        | .bool _ => none
        | _ => K (putS tm o.dst (.c undef)) ob quiet
      | none => K (putS tm o.dst (.c undef)) ob quiet
      | _ => none

def fsS (X : Sys) (low : Option Nat) (c0 : Nat) (tm : List (SV X.I)) (ob : OB X) : FS := ⟨avs X tm, St (obs X ob), low, c0⟩
/-- How a call counts what it changes. -/
def Mode (low : Option Nat) (c0 : Nat) : Prop := ∀ md, omin low (cut c0 md) = low

theorem gs_of {X : Sys} {base : Nat} {ops : Array Oper} {tm : List (SV X.I)} {ob ob' : OB X} {o : Oper} {y : SV X.I} {x : XF} {low : Option Nat} {c0 : Nat} (hm : Mode low c0) (hw : wantedAV ops (avs X tm) o = some true)
    (h : OpOK X base ob (evOp X.E.gl (avs X tm)) o.op y ob' x) : GS X.E base ops o (fsS X low c0 tm ob) (fsS X low c0 (putS tm o.dst y) ob') x := by
  obtain ⟨ci, md, h1, h2, h3, h4, h5⟩ := h
  refine ⟨⟨ci, h1, ?_⟩, fun id hid => ?_, fun id he hid => h5 id he hid⟩
  · simp only [stepG, fsS, hw, stepO, h2, putS_av, hm md, h3]
  · obtain ⟨t, a, p, off, g1, g2⟩ := h4 id hid
    exact ⟨t, a, p, off, g1, g2⟩
theorem gs_skip {X : Sys} {base : Nat} {ops : Array Oper} {tm : List (SV X.I)} {ob : OB X} {o : Oper} {low : Option Nat} {c0 : Nat} (hw : wantedAV ops (avs X tm) o = some false) : GS X.E base ops o (fsS X low c0 tm ob) (fsS X low c0 (putS tm o.dst (.c undef)) ob) quiet := by
  refine ⟨⟨fun _ _ _ => none, no_ok, ?_⟩, fun id hid => (by cases hid), fun id he => (by cases he)⟩
  simp only [stepG, fsS, hw, putS_av, av, quiet]

theorem xStep_ok {X : Sys} (hX : SysOK X) {base : Nat} {C : Calls_ X} {ops : Array Oper} {tm : List (SV X.I)} {ob : OB X} {o : Oper} {K : List (SV X.I) → OB X → XF → Option β} {Kp : List (SV X.I) → Value → Option β} {r : β} {low : Option Nat} {c0 : Nat} (hm : Mode low c0)
    (h : xStep X C ops tm ob o K Kp = some r) :
    (∃ tm' ob' x, K tm' ob' x = some r ∧ GS X.E base ops o (fsS X low c0 tm ob) (fsS X low c0 tm' ob') x) ∨ ∃ tm' V, Kp tm' V = some r ∧ avs X tm' = avs X tm ∧ wantedAV ops (avs X tm') o = some true ∧ OpPan X base ob tm' o.op V := by
  have run : ∀ tm', avs X tm' = avs X tm → wantedAV ops (avs X tm') o = some true → xOp X C tm' ob o.op (fun y ob' x => K (putS tm' o.dst y) ob' x) (Kp tm') = some r →
      (∃ tm' ob' x, K tm' ob' x = some r ∧ GS X.E base ops o (fsS X low c0 tm ob) (fsS X low c0 tm' ob') x) ∨ ∃ tm' V, Kp tm' V = some r ∧ avs X tm' = avs X tm ∧ wantedAV ops (avs X tm') o = some true ∧ OpPan X base ob tm' o.op V := by
    intro tm' he hw h
    rcases xOp_ok hX (base := base) h with ⟨y, ob', x, h1, h2⟩ | ⟨V, h1, h2⟩
    · left
      refine ⟨_, ob', x, h1, ?_⟩
      have := gs_of (low := low) (c0 := c0) hm hw h2
      simp only [fsS, he] at this ⊢
      exact this
    · exact .inr ⟨tm', V, h1, he, hw, h2⟩
  have skip : ∀ tm', avs X tm' = avs X tm → wantedAV ops (avs X tm') o = some false → K (putS tm' o.dst (.c undef)) ob quiet = some r →
      (∃ tm' ob' x, K tm' ob' x = some r ∧ GS X.E base ops o (fsS X low c0 tm ob) (fsS X low c0 tm' ob') x) ∨ ∃ tm' V, Kp tm' V = some r ∧ avs X tm' = avs X tm ∧ wantedAV ops (avs X tm') o = some true ∧ OpPan X base ob tm' o.op V := by
    intro tm' he hw h
    left
    refine ⟨_, ob, quiet, h, ?_⟩
    have := gs_skip (X := X) (base := base) (ob := ob) (low := low) (c0 := c0) hw
    simp only [fsS, he] at this ⊢
    exact this
  unfold xStep at h
  split at h
  · rename_i hg; exact run tm rfl (by simp only [wantedAV, hg]) h
  · rename_i j want hg
    split at h
    · rename_i hd; exact skip tm rfl (by simp only [wantedAV, hg, hd]) h
    · rename_i d hd
      split at h
      · rename_i z hz
        have hset : ∀ b, z = b → avs X (tm.set d (.b b)) = avs X tm := fun b hb => by
          subst hb; rw [avs_set]
          apply List.ext_getElem?
          intro n
          rw [List.getElem?_set]
          split
          · rename_i hn; subst hn
            have h1 : (avs X tm)[d]? = some (av X (.b z)) := by rw [avs_get, hz]; rfl
            rw [if_pos (List.getElem?_eq_some_iff.1 h1).1, h1]
          · rfl
        have hwa : ∀ b, z = b → wantedAV ops (avs X (tm.set d (.b b))) o = some (b == want) := fun b hb => by
          simp only [wantedAV, hg, hd, hset b hb, avs_get, hz, Option.map_some, av]; rw [hb]
        split at h
        · rename_i hz'
          split at h
          · exact run _ (hset true hz') (hwa true hz') h
          · exact skip _ (hset true hz') (hwa true hz') h
        · rename_i hz'
          have hz' : z = false := by simpa using hz'
          split at h
          · exact run _ (hset false hz') (hwa false hz') h
          · exact skip _ (hset false hz') (hwa false hz') h
      · rename_i u hu
        split at h
        · cases h
        · rename_i hnb
          refine skip tm rfl ?_ h
          simp only [wantedAV, hg, hd, avs_get, hu, Option.map_some, av]
          cases u <;> first | rfl | exact absurd rfl (hnb _)
      · rename_i hn; exact skip tm rfl (by simp only [wantedAV, hg, hd, avs_get, hn, Option.map_none]) h
      · cases h

/-! ### regions -/
def xOps (X : Sys) (C : Calls_ X) (ops : Array Oper) : Nat → List Oper → List (SV X.I) → OB X → List XF → (List (SV X.I) → OB X → List XF → Option β) → (Nat → List (SV X.I) → OB X → List XF → Oper → List Oper → Value → Option β) → Option β
  | _, [], tm, ob, acc, K, _ => K tm ob acc
  | i, o :: l, tm, ob, acc, K, Kp => xStep X C ops tm ob o (fun tm' ob' x => xOps X C ops (i + 1) l tm' ob' (acc ++ [x]) K Kp) (fun tm' V => Kp i tm' ob acc o l V)
/-- What is not reached behind a panic. -/
def xOpsM (X : Sys) (C : Calls_ X) (ops : Array Oper) (N : List Nat) : Nat → List Oper → List (SV X.I) → OB X → List XF → (List XF → Option β) → Option β
  | _, [], tm, ob, acc, K => K acc
  | i, o :: l, tm, ob, acc, K => if N.contains i = true then xOpsM X C ops N (i + 1) l tm ob (acc ++ [⟨false, false, none, slfs ob⟩]) K
    else xStep X C ops tm ob o (fun tm' ob' x => xOpsM X C ops N (i + 1) l tm' ob' (acc ++ [x]) K) (fun _ _ => none)
def notReached (ops : Array Oper) (p : Nat) : List Nat := (List.range ops.size).filter fun k => k == p || ((Region.before ops).getD k 0).testBit p
def xRegionO (X : Sys) (C : Calls_ X) (ops : Array Oper) (draw : Bool) (tm : List (SV X.I)) (ob : OB X) (K : List (SV X.I) → OB X → Option β) (Kp : Value → Option β) : Option β :=
  match draw with
  | false => xOps X C ops 0 ops.toList tm ob [] (fun tm ob _ => K tm ob) (fun _ _ _ _ _ _ V => Kp V)
  | true => xOps X C ops 0 ops.toList tm ob [] (fun tm ob xs => if (regOK ops && calmF (Region.before ops) xs) = true then K tm ob else none)
      (fun p tm' ob' acc o l V => xOpsM X C ops (notReached ops p) (p + 1) l tm' ob' (acc ++ [⟨true, true, none, slfs ob'⟩]) fun xs =>
        if (regOK ops && calmF (Region.before ops) xs && (notReached ops p).contains p) = true then Kp V else none)

/-! ### the same, the orders' bits once, as numbers that are there -/
def frc {α : Type} (x : Nat) (k : Nat → α) : α := match x with
  | 0 => k 0
  | n + 1 => k (n + 1)
theorem frc_eq {α : Type} (x : Nat) (k : Nat → α) : frc x k = k x := by cases x <;> rfl
/-- The elder entries stand last first. -/
def bitsL (acc : List Nat) (n : Nat) (es : List Edge) (s : Nat) : Nat := es.foldl (fun s e => if Region.binds .any e then s ||| 2 ^ e.on ||| (if Nat.blt e.on n = true then acc.getD (n - 1 - e.on) 0 else 0) else s) s
def bfGo : List Oper → List Nat → Nat → List Nat
  | [], _, _ => []
  | o :: l, acc, n => frc (bitsL acc n o.after.toList 0) fun v => v :: bfGo l (v :: acc) (n + 1)
def bfA (ops : Array Oper) : Array Nat := (bfGo ops.toList [] 0).toArray
theorem bitsL_eq (acc : Array Nat) (es : List Edge) (s : Nat) : bitsL acc.toList.reverse acc.size es s = bits acc es s := by
  unfold bitsL bits
  congr 1
  funext s e
  have : (if Nat.blt e.on acc.size = true then acc.toList.reverse.getD (acc.size - 1 - e.on) 0 else 0) = acc.getD e.on 0 := by
    by_cases h : e.on < acc.size
    · have hb : Nat.blt e.on acc.size = true := Nat.ble_eq_true_of_le h
      rw [if_pos hb, List.getD_eq_getElem?_getD, List.getElem?_reverse (by simp; omega), Array.getD_eq_getD_getElem?]
      simp only [Array.length_toList, Array.getElem?_toList]
      congr 2; omega
    · have hb : ¬ Nat.blt e.on acc.size = true := fun h' => h (Nat.le_of_ble_eq_true h')
      rw [if_neg hb, Array.getD_eq_getD_getElem?, Array.getElem?_eq_none (by omega)]; rfl
  rw [this]
theorem bfGo_eq : ∀ (l : List Oper) (A : Array Nat), (l.foldl (fun acc o => acc.push (bits acc o.after.toList 0)) A).toList = A.toList ++ bfGo l A.toList.reverse A.size
  | [], A => by simp [bfGo]
  | o :: l, A => by
    rw [List.foldl_cons, bfGo_eq l, bfGo, frc_eq, bitsL_eq]
    simp
theorem bfA_eq (ops : Array Oper) : bfA ops = Region.before ops := by
  have hbe : Region.before ops = ops.toList.foldl (fun acc o => acc.push (bits acc o.after.toList 0)) #[] := by
    unfold Region.before
    rw [← Array.foldl_toList]
    congr 1
    funext acc o
    congr 1
    unfold bits
    rw [← Array.foldl_toList]
  rw [hbe]
  apply Array.ext'
  rw [bfGo_eq]
  simp [bfA]
def regB (ops : Array Oper) (b : Array Nat) : Bool :=
  (List.range ops.size).all fun j => match ops[j]? with
    | some oj => oj.after.toList.all (fun e => !Region.binds .any e || decide (e.on < j)) &&
        (List.range j).all fun i => (b.getD j 0).testBit i || (match ops[i]? with
          | some oi => oi.apart ops oj
          | none => true)
    | none => true
theorem regB_eq (ops : Array Oper) : regB ops (Region.before ops) = regOK ops := rfl
def notR (b : Array Nat) (n p : Nat) : List Nat := (List.range n).filter fun k => k == p || (b.getD k 0).testBit p
def xRegion (X : Sys) (C : Calls_ X) (ops : Array Oper) (draw : Bool) (tm : List (SV X.I)) (ob : OB X) (K : List (SV X.I) → OB X → Option β) (Kp : Value → Option β) : Option β :=
  match draw with
  | false => xOps X C ops 0 ops.toList tm ob [] (fun tm ob _ => K tm ob) (fun _ _ _ _ _ _ V => Kp V)
  | true => xOps X C ops 0 ops.toList tm ob [] (fun tm ob xs => if (regB ops (bfA ops) && calmF (bfA ops) xs) = true then K tm ob else none)
      (fun p tm' ob' acc o l V => xOpsM X C ops (notR (bfA ops) ops.size p) (p + 1) l tm' ob' (acc ++ [⟨true, true, none, slfs ob'⟩]) fun xs =>
        if (regB ops (bfA ops) && calmF (bfA ops) xs && (notR (bfA ops) ops.size p).contains p) = true then Kp V else none)
theorem xRegion_eq (X : Sys) (C : Calls_ X) (ops : Array Oper) (draw : Bool) (tm : List (SV X.I)) (ob : OB X) (K : List (SV X.I) → OB X → Option β) (Kp : Value → Option β) : xRegion X C ops draw tm ob K Kp = xRegionO X C ops draw tm ob K Kp := by
  unfold xRegion xRegionO notR notReached
  simp only [bfA_eq, regB_eq]

section
variable {X : Sys} (hX : SysOK X) {base : Nat} {C : Calls_ X} {ops : Array Oper} {low : Option Nat} {c0 : Nat} (hm : Mode low c0)
include hX hm
theorem xOps_ok {r : β} {K : List (SV X.I) → OB X → List XF → Option β} {Kp : Nat → List (SV X.I) → OB X → List XF → Oper → List Oper → Value → Option β} : ∀ {l : List Oper} {i : Nat} {tm : List (SV X.I)} {ob : OB X} {acc : List XF},
    xOps X C ops i l tm ob acc K Kp = some r →
    (∃ tm' ob' xs, K tm' ob' (acc ++ xs) = some r ∧ ∀ N : List Nat, (∀ j, i ≤ j → j < i + l.length → N.contains j = false) → RunsM X.E base ops N i l (fsS X low c0 tm ob) (fsS X low c0 tm' ob') xs) ∨
      ∃ pre o post tm' tmp obp xs V, l = pre ++ o :: post ∧ xs.length = pre.length ∧ Kp (i + pre.length) tmp obp (acc ++ xs) o post V = some r ∧ avs X tmp = avs X tm' ∧ (∀ N : List Nat, (∀ j, i ≤ j → j < i + pre.length → N.contains j = false) → RunsM X.E base ops N i pre (fsS X low c0 tm ob) (fsS X low c0 tm' obp) xs) ∧
        wantedAV ops (avs X tmp) o = some true ∧ OpPan X base obp tmp o.op V
  | [], i, tm, ob, acc, h => .inl ⟨tm, ob, [], by rw [List.append_nil]; exact h, fun N _ => .nil _ _⟩
  | o :: l, i, tm, ob, acc, h => by
    simp only [xOps] at h
    rcases xStep_ok hX (base := base) hm h with ⟨tm1, ob1, x, h1, h2⟩ | ⟨tmp, V, h1, h2, h3, h4⟩
    · rcases xOps_ok h1 with ⟨tm', ob', xs, g1, g2⟩ | ⟨pre, o', post, tm', tmp, obp, xs, V, g1, g2, g3, g4, g5, g6, g7⟩
      · left
        refine ⟨tm', ob', x :: xs, by rw [List.append_assoc] at g1; exact g1, fun N hN => .cons (hN i (Nat.le_refl _) (by simp)) h2 (g2 N fun j hj hj' => hN j (by omega) (by simp only [List.length_cons]; omega))⟩
      · right
        refine ⟨o :: pre, o', post, tm', tmp, obp, x :: xs, V, by rw [g1]; rfl, by simp [g2], ?_, g4, fun N hN => .cons (hN i (Nat.le_refl _) (by simp)) h2 (g5 N fun j hj hj' => hN j (by omega) (by simp only [List.length_cons]; omega)), g6, g7⟩
        rw [List.append_assoc] at g3
        rw [show i + (o :: pre).length = i + 1 + pre.length by simp; omega]; exact g3
    · right
      exact ⟨[], o, l, tm, tmp, ob, [], V, rfl, rfl, by rw [List.append_nil]; exact h1, h2, fun N _ => .nil _ _, h3, h4⟩
theorem xOpsM_ok {r : β} {N : List Nat} {K : List XF → Option β} : ∀ {l : List Oper} {i : Nat} {tm : List (SV X.I)} {ob : OB X} {acc : List XF},
    xOpsM X C ops N i l tm ob acc K = some r → ∃ tm' ob' xs, K (acc ++ xs) = some r ∧ RunsM X.E base ops N i l (fsS X low c0 tm ob) (fsS X low c0 tm' ob') xs
  | [], i, tm, ob, acc, h => ⟨tm, ob, [], by rw [List.append_nil]; exact h, .nil _ _⟩
  | o :: l, i, tm, ob, acc, h => by
    simp only [xOpsM] at h
    split at h
    · rename_i hn
      obtain ⟨tm', ob', xs, g1, g2⟩ := xOpsM_ok h
      exact ⟨tm', ob', _ :: xs, by rw [List.append_assoc] at g1; exact g1, .skip hn ⟨rfl, fun id hid => nslfO_of hX hid⟩ g2⟩
    · rename_i hn
      rcases xStep_ok hX (base := base) hm h with ⟨tm1, ob1, x, h1, h2⟩ | ⟨_, _, h1, _⟩
      · obtain ⟨tm', ob', xs, g1, g2⟩ := xOpsM_ok h1
        exact ⟨tm', ob', x :: xs, by rw [List.append_assoc] at g1; exact g1, .cons (by simpa using hn) h2 g2⟩
      · cases h1

/-- A REGION. -/
theorem xRegionO_ok {c00 : Ctx} {σ00 : Store} (hU : Under X.E base c00 σ00) {id : Nat} {d : Bool} {tm : List (SV X.I)} {ob : OB X} {K : List (SV X.I) → OB X → Option β} {Kp : Value → Option β} {r : β} {R : Post} (h : xRegionO X C ops d tm ob K Kp = some r)
    (hK : ∀ tm' ob', K tm' ob' = some r → R .nrm (fsS X low c0 tm' ob')) (hKp : ∀ V, Kp V = some r → R (.pan V) (fsS X low c0 [] [])) : Wp X.E base c00 σ00 (.region id ops d) (fsS X low c0 tm ob) R := by
  unfold xRegionO at h
  cases d with
  | false =>
    rcases xOps_ok hX (base := base) hm h with ⟨tm', ob', xs, h1, h2⟩ | ⟨pre, o, post, tm', tmp, obp, xs, V, g1, g2, g3, g4, g5, g6, g7⟩
    · exact Wp.regionRun hU (h2 [] fun _ _ _ => rfl) (fun h => by cases h) (hK _ _ h1)
    · obtain ⟨md, hp⟩ := g7 o rfl
      refine Wp.regionPan hU g1 (g5 [] fun _ _ _ => rfl) (by simp only [fsS]; rw [← g4]; exact g6) (md := md) (V := V) (by simp only [fsS]; rw [← g4]; exact hp) (by simp only [fsS, hm md]) (hKp V g3)
  | true =>
    rcases xOps_ok hX (base := base) hm h with ⟨tm', ob', xs, h1, h2⟩ | ⟨pre, o, post, tm', tmp, obp, xs, V, g1, g2, g3, g4, g5, g6, g7⟩
    · simp only [List.nil_append] at h1
      split at h1
      · rename_i hq
        exact Wp.regionRun hU (h2 [] fun _ _ _ => rfl) (fun _ => hq) (hK _ _ h1)
      · cases h1
    · obtain ⟨tm2, ob2, xs2, k1, k2⟩ := xOpsM_ok hX (base := base) (low := low) (c0 := c0) hm g3
      simp only [Nat.zero_add, List.nil_append] at k1 k2
      split at k1
      · rename_i hq
        simp only [Bool.and_eq_true] at hq
        obtain ⟨⟨q1, q2⟩, q3⟩ := hq
        obtain ⟨md, hp⟩ := g7 o rfl
        have hlt : ∀ j, j < pre.length → (notReached ops pre.length).contains j = false := by
          intro j hj
          cases hc : (notReached ops pre.length).contains j with
          | false => rfl
          | true =>
            exfalso
            have hmem : j ∈ notReached ops pre.length := by simpa using hc
            obtain ⟨m1, m2⟩ := List.mem_filter.1 hmem
            have hjs : j < ops.size := List.mem_range.1 m1
            simp only [Bool.or_eq_true, beq_iff_eq] at m2
            rcases m2 with m2 | m2
            · omega
            · have := before_spec (ops := ops) (fun e => e < j) (fun a oa e ha h1 h2 h3 => by
                have := regOK_back q1 h1 h2 h3; omega) m2 (fun o' e' h1 h2 h3 => regOK_back q1 h1 h2 h3)
              omega
        refine Wp.regionPanX hU (s1 := fsS X low c0 tm2 ob2) (notReached ops pre.length) pre.length g1 rfl (g5 _ fun j _ hj => hlt j (by omega)) (x := ⟨true, true, none, slfs obp⟩) (xs2 := xs2) (.skip q3 ⟨rfl, fun id hid => nslfO_of hX hid⟩ ?_) rfl ?_ (by simp only [fsS]; rw [← g4]; exact g6) (md := md) (V := V) (by simp only [fsS]; rw [← g4]; exact hp) (by simp only [fsS, hm md]) (hKp V k1)
        · simp only [fsS] at k2 ⊢; rw [← g4]; exact k2
        · simp only [Bool.and_eq_true]
          refine ⟨⟨⟨q1, by rw [List.append_assoc] at q2; exact q2⟩, q3⟩, ?_⟩
          rw [List.all_eq_true]
          intro k hk
          exact (List.mem_filter.1 hk).2
      · cases k1
theorem xRegion_ok {c00 : Ctx} {σ00 : Store} (hU : Under X.E base c00 σ00) {id : Nat} {d : Bool} {tm : List (SV X.I)} {ob : OB X} {K : List (SV X.I) → OB X → Option β} {Kp : Value → Option β} {r : β} {R : Post} (h : xRegion X C ops d tm ob K Kp = some r)
    (hK : ∀ tm' ob', K tm' ob' = some r → R .nrm (fsS X low c0 tm' ob')) (hKp : ∀ V, Kp V = some r → R (.pan V) (fsS X low c0 [] [])) : Wp X.E base c00 σ00 (.region id ops d) (fsS X low c0 tm ob) R := by
  rw [xRegion_eq] at h; exact xRegionO_ok hX hm hU h hK hKp
end
end Go.Bx

/- Forms of states, and weakening to them. (Own text.) -/
namespace Go.Bx
set_option linter.unusedVariables false
set_option linter.unusedSimpArgs false
set_option linter.unusedSectionVars false
set_option linter.unusedVariables false
set_option linter.unusedSectionVars false
set_option linter.unusedSimpArgs false
variable {β : Type}

inductive SH0 where
  | c (v : Value) | i (k : IntKind) | b | s | l (t : TypeId) | row (o : Nat) (t : TypeId) | ptr (o off : Nat) | tptr (o : Nat) (t : TypeId) | slf (o : Nat) | trow (o : Nat) (t : TypeId) | rowlo (o : Nat) (t : TypeId) | emp | junk
inductive SH1 where
  | lf (x : SH0)
  | fn (f : FuncId) (a b : List SH0)
inductive SH where
  | lf (x : SH1)
  | agg (cs : List SH1)
  | st (t : TypeId)
inductive SOH where
  | dead
  | box (sz : Nat) (sh : Bool) (cs : List SH1)
  | row (t : TypeId) (sh : Bool) (tr : Bool)
structure Shp where
  tm : List SH
  ob : List SOH

/-- A part of the payload. -/
inductive Dy (I : TypeId → Type) where
  | i (n : Int) | b (x : Bool) | s (x : Str) | l (t : TypeId) (xs : List (I t)) | e (t : TypeId) (x : I t)

/-! ### payload as a tuple -/
inductive PK where
  | i | b | s | l (t : TypeId) | e (t : TypeId)
abbrev PK.T (I : TypeId → Type) : PK → Type
  | .i => Int
  | .b => Bool
  | .s => Str
  | .l t => List (I t)
  | .e t => I t
abbrev TT (I : TypeId → Type) : List PK → Type
  | [] => Unit
  | [k] => k.T I
  | k :: k2 :: ks => k.T I × TT I (k2 :: ks)
def PK.dy {I : TypeId → Type} : (k : PK) → k.T I → Dy I
  | .i, x => .i x
  | .b, x => .b x
  | .s, x => .s x
  | .l t, x => .l t x
  | .e t, x => .e t x
def PK.un {I : TypeId → Type} : (k : PK) → Dy I → Option (k.T I)
  | .i, .i x => some x
  | .b, .b x => some x
  | .s, .s x => some x
  | .l t, .l t' x => if h : t' = t then some (h ▸ x) else none
  | .e t, .e t' x => if h : t' = t then some (h ▸ x) else none
  | _, _ => none
theorem PK.un_dy {I : TypeId → Type} {k : PK} {d : Dy I} {x : k.T I} (h : k.un d = some x) : k.dy x = d := by
  cases k <;> cases d <;> simp only [PK.un, Option.some.injEq, reduceCtorEq] at h
  · subst h; rfl
  · subst h; rfl
  · subst h; rfl
  · split at h
    · rename_i e; subst e; cases h; rfl
    · cases h
  · split at h
    · rename_i e; subst e; cases h; rfl
    · cases h
/-- A tuple's parts. -/
def ofT {I : TypeId → Type} : (ks : List PK) → TT I ks → List (Dy I)
  | [], _ => []
  | [k], x => [k.dy x]
  | k :: k2 :: ks, x => k.dy x.1 :: ofT (k2 :: ks) x.2
def toT {I : TypeId → Type} : (ks : List PK) → List (Dy I) → Option (TT I ks)
  | [], [] => some ()
  | [k], [d] => k.un d
  | k :: k2 :: ks, d :: ds => match k.un d, toT (k2 :: ks) ds with
    | some x, some y => some (x, y)
    | _, _ => none
  | _, _ => none
theorem toT_ofT {I : TypeId → Type} : ∀ {ks : List PK} {ds : List (Dy I)} {x : TT I ks}, toT ks ds = some x → ofT ks x = ds
  | [], [], x, h => rfl
  | [k], [d], x, h => by simp only [toT] at h; simp only [ofT, PK.un_dy h]
  | k :: k2 :: ks, d :: ds, x, h => by
    simp only [toT] at h
    split at h
    · rename_i x1 y h1 h2; cases h
      simp only [ofT, PK.un_dy h1, toT_ofT h2]
    · cases h
  | [], d :: ds, x, h => by simp [toT] at h
  | [k], [], x, h => by simp [toT] at h
  | [k], d :: d2 :: ds, x, h => by simp [toT] at h
  | k :: k2 :: ks, [], x, h => by simp [toT] at h
def SH0.ks : SH0 → List PK
  | .i _ => [.i]
  | .b => [.b]
  | .s => [.s]
  | .l t => [.l t]
  | .rowlo _ _ => [.i, .i]
  | _ => []
def SH1.ks : SH1 → List PK
  | .lf x => x.ks
  | .fn _ a b => a.flatMap SH0.ks ++ b.flatMap SH0.ks
def SH.ks : SH → List PK
  | .lf x => x.ks
  | .agg cs => cs.flatMap SH1.ks
  | .st t => [.e t]
def SOH.bks : SOH → List PK
  | .box _ _ cs => cs.flatMap SH1.ks
  | _ => []
def SOH.rks : SOH → List PK
  | .row t _ _ => [.l t]
  | _ => []
def Shp.ks (S : Shp) : List PK := S.tm.flatMap SH.ks ++ (S.ob.flatMap SOH.bks ++ S.ob.flatMap SOH.rks)

/-! ### a state of a form -/
section
variable {I : TypeId → Type}
def b0 (ln : List Nat) : SH0 → List (Dy I) → Option (SV I × List (Dy I))
  | .c v, ds => some (.c v, ds)
  | .i k, .i n :: ds => some (.i k n, ds)
  | .b, .b x :: ds => some (.b x, ds)
  | .s, .s x :: ds => some (.s x, ds)
  | .l t, .l t' xs :: ds => some (.l t' xs, ds)
  | .row o t, ds => some (.row o t 0 (ln.getD o 0), ds)
  | .rowlo o t, .i lo :: .i n :: ds => some (.rowx o t lo.toNat n.toNat, ds)
  | .ptr o off, ds => some (.ptr o 0 off, ds)
  | .tptr o t, ds => some (.tptr o t, ds)
  | .slf o, ds => some (.slf o, ds)
  | .trow o t, ds => some (.trow o t (ln.getD o 0), ds)
  | .emp, ds => some (.emp, ds)
  | .junk, ds => some (.junk, ds)
  | _, _ => none
def bL {α : Type} (f : α → List (Dy I) → Option (SV I × List (Dy I))) : List α → List (Dy I) → Option (List (SV I) × List (Dy I))
  | [], ds => some ([], ds)
  | h :: hs, ds => match f h ds with
    | some (x, ds1) => match bL f hs ds1 with
      | some (xs, ds2) => some (x :: xs, ds2)
      | none => none
    | none => none
def b1 (ln : List Nat) : SH1 → List (Dy I) → Option (SV I × List (Dy I))
  | .lf x, ds => b0 ln x ds
  | .fn f a b, ds => match bL (b0 ln) a ds with
    | some (xs, ds1) => match bL (b0 ln) b ds1 with
      | some (ys, ds2) => some (.fn f xs ys, ds2)
      | none => none
    | none => none
end
def bH (X : Sys) (ln : List Nat) : SH → List (Dy X.I) → Option (SV X.I × List (Dy X.I))
  | .lf x, ds => b1 ln x ds
  | .agg cs, ds => match bL (b1 ln) cs ds with
    | some (xs, ds1) => some (.agg xs, ds1)
    | none => none
  | .st t, .e t' x :: ds => some (.agg (X.toC t' x), ds)
  | _, _ => none
/-- The lengths of the rows. -/
def lens {I : TypeId → Type} : List SOH → List (Dy I) → List Nat
  | .row _ _ _ :: os, .l _ xs :: ds => xs.length :: lens os ds
  | _ :: os, ds => 0 :: lens os ds
  | [], _ => []
def bObs {X : Sys} (ln : List Nat) : List SOH → List (Dy X.I) → List (Dy X.I) → Option (OB X)
  | [], _, _ => some []
  | .dead :: os, bs, rs => (bObs ln os bs rs).map (none :: ·)
  | .box sz sh cs :: os, bs, rs => match bL (b1 ln) cs bs with
    | some (xs, bs1) => (bObs ln os bs1 rs).map (some (.box sz sh xs) :: ·)
    | none => none
  | .row t sh _ :: os, bs, .l t' xs :: rs => (bObs ln os bs rs).map (some (.row t' sh true [.xs xs]) :: ·)
  | .row _ _ _ :: _, _, _ => none
/-- The state of a form. -/
def bState (X : Sys) (S : Shp) (ts bs rs : List (Dy X.I)) : Option (List (SV X.I) × OB X) :=
  match bL (bH X (lens S.ob rs)) S.tm ts, bObs (X := X) (lens S.ob rs) S.ob bs rs with
  | some (tm, _), some ob => some (tm, ob)
  | _, _ => none
def build (X : Sys) (S : Shp) (ds : List (Dy X.I)) : Option (List (SV X.I) × OB X) :=
  bState X S (ds.take (S.tm.flatMap SH.ks).length) ((ds.drop (S.tm.flatMap SH.ks).length).take (S.ob.flatMap SOH.bks).length) (ds.drop ((S.tm.flatMap SH.ks).length + (S.ob.flatMap SOH.bks).length))
end Go.Bx

/- Weakening to a form. (Own text.) -/
namespace Go.Bx
set_option linter.unusedVariables false
set_option linter.unusedSimpArgs false
set_option linter.unusedSectionVars false
set_option linter.unusedVariables false
set_option linter.unusedSectionVars false
set_option linter.unusedSimpArgs false
variable {β : Type}

/-- Constants that are told apart. -/
def eqC : Value → Value → Bool
  | .slice none 0 0, .slice none 0 0 => true
  | .pointer none, .pointer none => true
  | .nilIface, .nilIface => true
  | .nilFunc, .nilFunc => true
  | _, _ => false
theorem eqC_ok {a b : Value} (h : eqC a b = true) : a = b := by
  unfold eqC at h
  split at h <;> first | rfl | cases h

def w0 (X : Sys) (ob : OB X) (L : List (Option Nat)) (ln : List Nat) : SH0 → SV X.I → (List (Dy X.I) → Option β) → Option β
  | .junk, _, K => K []
  | .c v, x, K => match x with
    | .c v' => if eqC v v' = true then K [] else none
    | _ => none
  | .i k, x, K => match x with
    | .i k' n => if k' = k then K [.i n] else none
    | _ => none
  | .b, x, K => match x with
    | .b z => K [.b z]
    | _ => none
  | .s, x, K => match x with
    | .s z => K [.s z]
    | _ => none
  | .l t, x, K => match x with
    | .l t' xs => if t' = t then K [.l t' xs] else none
    | .row o _ lo n => match ob[o]? with
      | some (some (.row t' true true [.xs l])) => if t' = t then pieceN lo n l >>= fun z => K [.l t' z] else none
      | _ => none
    | .c (.slice none 0 0) => K [.l t []]
    | .emp => K [.l t []]
    | _ => none
  | .row a t, x, K => match x with
    | .row o t' lo n => match lo with
      | 0 => if (t == t' && (L[a]?).join == some o) = true then whN n (ln.getD a 0) >>= fun _ => K [] else none
      | _ + 1 => none
    | .c (.slice none 0 0) => if vtOf L a = true then whN 0 (ln.getD a 0) >>= fun _ => K [] else none
    | .emp => if vtOf L a = true then whN 0 (ln.getD a 0) >>= fun _ => K [] else none
    | _ => none
  | .ptr a off, x, K => match x with
    | .ptr o p off' => match p with
      | 0 => if ((L[a]?).join == some o && off == off') = true then K [] else none
      | _ + 1 => none
    | _ => none
  | .tptr a t, x, K => match x with
    | .tptr o t' => if ((L[a]?).join == some o && t == t') = true then K [] else none
    | _ => none
  | .slf a, x, K => match x with
    | .slf o => if ((L[a]?).join == some o) = true then K [] else none
    | .tptr o _ => if ((L[a]?).join == some o) = true then K [] else none
    | .c (.pointer none) => K []
    | _ => none
  | .trow a t, x, K => match x with
    | .trow o t' n => if ((L[a]?).join == some o && t == t') = true then whN n (ln.getD a 0) >>= fun _ => K [] else none
    | .c (.slice none 0 0) => if vtOf L a = true then whN 0 (ln.getD a 0) >>= fun _ => K [] else none
    | _ => none
  | .emp, x, K => match x with
    | .emp => K []
    | .c (.slice none 0 0) => K []
    | _ => none
  | .rowlo a t, x, K => match x with
    | .rowx o t' lo n => if ((L[a]?).join == some o && t == t') = true then K [.i lo, .i n] else none
    | _ => none

def leafH0 : SH0 → Bool
  | .junk => false
  | .c v => v.oneCell'
  | _ => true
theorem rho_of {L : List (Option Nat)} {a o : Nat} (h : ((L[a]?).join == some o) = true) : rhoOf L a = some o := by
  rw [beq_iff_eq] at h
  unfold rhoOf
  cases hL : L[a]? with
  | none => rw [hL] at h; cases h
  | some x => rw [hL] at h; simpa using h

/-- What a cell's weakening says. -/
def W0 (X : Sys) (ob : OB X) (L : List (Option Nat)) (x : SV X.I) (bf : List (Dy X.I) → Option (SV X.I × List (Dy X.I))) (ds : List (Dy X.I)) (lf : Bool) : Prop :=
  ∃ y, (∀ tl, bf (ds ++ tl) = some (y, tl)) ∧ WV (St (obs X ob)) (rhoOf L) (vtOf L) (av X x) (av X y) ∧ (lf = true → leafS y = true)

theorem w0_ok {X : Sys} {ob : OB X} {L : List (Option Nat)} {ln : List Nat} {h : SH0} {x : SV X.I} {K : List (Dy X.I) → Option β} {r : β} (hw : w0 X ob L ln h x K = some r) :
    ∃ ds, K ds = some r ∧ ds.length = h.ks.length ∧ W0 X ob L x (b0 ln h) ds (leafH0 h) := by
  unfold w0 at hw
  split at hw
  · exact ⟨[], hw, rfl, .junk, fun tl => rfl, .junk _, fun h => by cases h⟩
  · split at hw
    · split at hw
      · rename_i he; have := eqC_ok he; subst this
        exact ⟨[], hw, rfl, _, fun tl => rfl, .keep rfl, fun h => h⟩
      · cases hw
    · cases hw
  · split at hw
    · split at hw
      · rename_i he; subst he
        exact ⟨_, hw, rfl, _, fun tl => rfl, .keep rfl, fun _ => rfl⟩
      · cases hw
    · cases hw
  · split at hw
    · exact ⟨_, hw, rfl, _, fun tl => rfl, .keep rfl, fun _ => rfl⟩
    · cases hw
  · split at hw
    · exact ⟨_, hw, rfl, _, fun tl => rfl, .keep rfl, fun _ => rfl⟩
    · cases hw
  · split at hw
    · split at hw
      · rename_i he; subst he
        exact ⟨_, hw, rfl, _, fun tl => rfl, .keep rfl, fun _ => rfl⟩
      · cases hw
    · rename_i o t0 lo n
      split at hw
      · rename_i t' l ho
        split at hw
        · rename_i he; subst he
          obtain ⟨z, h1, h2⟩ := bind_some' hw
          obtain ⟨h3, rfl⟩ := pieceN_some h1
          refine ⟨_, h2, rfl, _, fun tl => rfl, .view (k := 1) ?_, fun _ => rfl⟩
          simp only [av, reify, obs_get ho, SO.obj, segs, List.flatMap_cons, List.flatMap_nil, Seg.es, List.append_nil, List.length_map]
          rw [if_pos ⟨trivial, h3⟩]
          simp only [if_true, slice, List.map_take, List.map_drop]
        · cases hw
      · cases hw
    · exact ⟨_, hw, rfl, _, fun tl => rfl, .nilsl, fun _ => rfl⟩
    · exact ⟨_, hw, rfl, _, fun tl => rfl, .empsl, fun _ => rfl⟩
    · cases hw
  · rename_i a t
    split at hw
    · split at hw
      · split at hw
        · rename_i he
          rw [Bool.and_eq_true, beq_iff_eq] at he
          obtain ⟨rfl, he⟩ := he
          obtain ⟨z, h1, h2⟩ := bind_some' hw
          exact ⟨_, h2, rfl, _, fun tl => rfl, .row_eq (rho_of he) (whN_some h1), fun _ => rfl⟩
        · cases hw
      · cases hw
    · split at hw
      · rename_i he
        obtain ⟨z, h1, h2⟩ := bind_some' hw
        refine ⟨_, h2, rfl, _, fun tl => rfl, ?_, fun _ => rfl⟩
        rw [← whN_some h1]; exact .nil he
      · cases hw
    · split at hw
      · rename_i he
        obtain ⟨z, h1, h2⟩ := bind_some' hw
        refine ⟨_, h2, rfl, _, fun tl => rfl, ?_, fun _ => rfl⟩
        rw [← whN_some h1]; exact .emp he
      · cases hw
    · cases hw
  · split at hw
    · split at hw
      · split at hw
        · rename_i he
          rw [Bool.and_eq_true, beq_iff_eq (a := _) (b := _)] at he
          obtain ⟨he, he2⟩ := he
          rw [beq_iff_eq] at he2; subst he2
          exact ⟨_, hw, rfl, _, fun tl => rfl, .ptr (rho_of (beq_iff_eq.2 he)), fun _ => rfl⟩
        · cases hw
      · cases hw
    · cases hw
  · split at hw
    · split at hw
      · rename_i he
        rw [Bool.and_eq_true] at he
        obtain ⟨he, he2⟩ := he
        rw [beq_iff_eq] at he2; subst he2
        exact ⟨_, hw, rfl, _, fun tl => rfl, .tptr (rho_of he), fun _ => rfl⟩
      · cases hw
    · cases hw
  · split at hw
    · split at hw
      · rename_i he; exact ⟨_, hw, rfl, _, fun tl => rfl, .slf (rho_of he), fun _ => rfl⟩
      · cases hw
    · split at hw
      · rename_i he; exact ⟨_, hw, rfl, _, fun tl => rfl, .slfT (rho_of he), fun _ => rfl⟩
      · cases hw
    · exact ⟨_, hw, rfl, _, fun tl => rfl, .slfN, fun _ => rfl⟩
    · cases hw
  · split at hw
    · split at hw
      · rename_i he
        rw [Bool.and_eq_true] at he
        obtain ⟨he, he2⟩ := he
        rw [beq_iff_eq] at he2; subst he2
        obtain ⟨z, h1, h2⟩ := bind_some' hw
        refine ⟨_, h2, rfl, _, fun tl => rfl, ?_, fun _ => rfl⟩
        rw [← whN_some h1]; exact .trow (rho_of he)
      · cases hw
    · split at hw
      · rename_i he
        obtain ⟨z, h1, h2⟩ := bind_some' hw
        refine ⟨_, h2, rfl, _, fun tl => rfl, ?_, fun _ => rfl⟩
        rw [← whN_some h1]; exact .trowN he
      · cases hw
    · cases hw
  · split at hw
    · exact ⟨_, hw, rfl, _, fun tl => rfl, .keep rfl, fun _ => rfl⟩
    · exact ⟨_, hw, rfl, _, fun tl => rfl, .nilemp, fun _ => rfl⟩
    · cases hw
  · rename_i a t
    split at hw
    · rename_i o t' lo n
      split at hw
      · rename_i he
        rw [Bool.and_eq_true, beq_iff_eq (a := t)] at he
        obtain ⟨he, rfl⟩ := he
        exact ⟨_, hw, rfl, .rowx a t (Int.toNat lo) (Int.toNat n), fun tl => rfl, by
          have := WV.row_eq (σ := St (obs X ob)) (vt := vtOf L) (sz := X.sz t) (lo := lo) (rho_of he) (rfl : n = n)
          simpa only [av, Int.toNat_natCast] using this, fun _ => rfl⟩
      · cases hw
    · cases hw

/-! ### lists -/
def wL {X : Sys} {α : Type} (f : α → SV X.I → (List (Dy X.I) → Option β) → Option β) : List α → List (SV X.I) → (List (Dy X.I) → Option β) → Option β
  | [], [], K => K []
  | h :: hs, x :: xs, K => f h x fun d => wL f hs xs fun ds => K (d ++ ds)
  | _, _, _ => none
theorem wL_ok {X : Sys} {α : Type} {ob : OB X} {L : List (Option Nat)} {f : α → SV X.I → (List (Dy X.I) → Option β) → Option β} {bf : α → List (Dy X.I) → Option (SV X.I × List (Dy X.I))} {ks : α → List PK} {lf : α → Bool} {r : β}
    (hf : ∀ h x K, f h x K = some r → ∃ ds, K ds = some r ∧ ds.length = (ks h).length ∧ W0 X ob L x (bf h) ds (lf h)) : ∀ {hs : List α} {xs : List (SV X.I)} {K : List (Dy X.I) → Option β}, wL f hs xs K = some r →
    ∃ ds ys, K ds = some r ∧ ds.length = (hs.flatMap ks).length ∧ (∀ tl, bL bf hs (ds ++ tl) = some (ys, tl)) ∧ WVs (St (obs X ob)) (rhoOf L) (vtOf L) (avs X xs) (avs X ys) ∧ (hs.all lf = true → ys.all leafS = true)
  | [], [], K, h => ⟨[], [], h, rfl, fun tl => rfl, .nil, fun _ => rfl⟩
  | a :: hs, x :: xs, K, h => by
    simp only [wL] at h
    obtain ⟨d, h1, h2, y, h3, h4, h5⟩ := hf _ _ _ h
    obtain ⟨ds, ys, g1, g2, g3, g4, g5⟩ := wL_ok hf h1
    refine ⟨d ++ ds, y :: ys, g1, by simp [h2, g2], fun tl => ?_, .cons h4 g4, fun ha => ?_⟩
    · simp only [bL, List.append_assoc, h3, g3]
    · simp only [List.all_cons, Bool.and_eq_true] at ha ⊢
      exact ⟨h5 ha.1, g5 ha.2⟩
  | [], x :: xs, K, h => by simp [wL] at h
  | a :: hs, [], K, h => by simp [wL] at h

def w1 (X : Sys) (ob : OB X) (L : List (Option Nat)) (ln : List Nat) : SH1 → SV X.I → (List (Dy X.I) → Option β) → Option β
  | .lf h, x, K => w0 X ob L ln h x K
  | .fn f a b, x, K => match x with
    | .fn g xs ys => if f = g then wL (w0 X ob L ln) a xs fun d => wL (w0 X ob L ln) b ys fun ds => K (d ++ ds) else none
    | _ => none
def leafH1 : SH1 → Bool
  | .lf h => leafH0 h
  | .fn _ _ _ => true
theorem w1_ok {X : Sys} {ob : OB X} {L : List (Option Nat)} {ln : List Nat} {h : SH1} {x : SV X.I} {K : List (Dy X.I) → Option β} {r : β} (hw : w1 X ob L ln h x K = some r) :
    ∃ ds, K ds = some r ∧ ds.length = h.ks.length ∧ W0 X ob L x (b1 ln h) ds (leafH1 h) := by
  unfold w1 at hw
  split at hw
  · exact w0_ok hw
  · split at hw
    · split at hw
      · rename_i _ _ f a b _ g xs ys he; subst he
        obtain ⟨d, ys1, h1, h2, h3, h4, _⟩ := wL_ok (bf := b0 ln) (ks := SH0.ks) (lf := leafH0) (fun _ _ _ h => w0_ok h) hw
        obtain ⟨ds, ys2, g1, g2, g3, g4, _⟩ := wL_ok (bf := b0 ln) (ks := SH0.ks) (lf := leafH0) (fun _ _ _ h => w0_ok h) h1
        refine ⟨d ++ ds, g1, by simp [SH1.ks, h2, g2], .fn f ys1 ys2, fun tl => ?_, ?_, fun _ => rfl⟩
        · simp only [b1, List.append_assoc, h3, g3]
        · exact h4.fnW g4
      · cases hw
    · cases hw

theorem wv_reify {σ : Store} {ρ : Nat → Option Nat} {vt : Nat → Bool} {n : Nat} {x y : AV} (h : reify σ n x = some y) (hp : pl y = true) (hna : ∀ cs, x ≠ .agg cs) : WV σ ρ vt x y := by
  by_cases hy : ∃ es, y = .sl es
  · obtain ⟨es, rfl⟩ := hy
    exact .view h
  · have : x = y := by
      unfold reify at h
      split at h
      · cases h; exact absurd ⟨_, rfl⟩ hy
      · cases h; exact absurd ⟨_, rfl⟩ hy
      · split at h
        · split at h
          · split at h
            · cases h; exact absurd ⟨_, rfl⟩ hy
            · split at h
              · split at h
                · cases h; exact absurd ⟨_, rfl⟩ hy
                · cases h
              · cases h
          · cases h
        · cases h
      · exact absurd rfl (hna _)
      · cases h
      · cases h
      · cases h
      · cases h; rfl
    subst this
    refine .keep ?_
    cases x <;> simp_all [pl, closed]
theorem mapO_wvs {σ : Store} {ρ : Nat → Option Nat} {vt : Nat → Bool} {n : Nat} : ∀ {xs ys : Cs}, mapO (reify σ n) xs = some ys → ys.all pl = true → (∀ x ∈ xs, ∀ cs, x ≠ .agg cs) → WVs σ ρ vt xs ys
  | [], ys, h, _, _ => by cases h; exact .nil
  | x :: xs, ys, h, hp, hn => by
    simp only [mapO] at h
    split at h
    · rename_i y ys' h1 h2; cases h
      simp only [List.all_cons, Bool.and_eq_true] at hp
      exact .cons (wv_reify h1 hp.1 (hn x (by simp))) (mapO_wvs h2 hp.2 fun z hz => hn z (by simp [hz]))
    · cases h
/-- Cells of an element. -/
def elC (X : Sys) (ob : OB X) (t : TypeId) (cs : List (SV X.I)) (K : X.I t → Option β) : Option β :=
  if cs.all noAggC = true then vwL ob (X.lay t) cs fun ys => match X.ofC t ys with
    | some x => K x
    | none => none else none
theorem elC_ok {X : Sys} (hX : SysOK X) {ob : OB X} {t : TypeId} {cs : List (SV X.I)} {K : X.I t → Option β} {r : β} (L : List (Option Nat)) (h : elC X ob t cs K = some r) :
    ∃ x, K x = some r ∧ WVs (St (obs X ob)) (rhoOf L) (vtOf L) (avs X cs) (X.enc t x) := by
  unfold elC at h
  split at h
  · rename_i hna
    obtain ⟨ys, h1, h2⟩ := vwL_ok 6 h
    split at h1
    · rename_i x hx
      have := hX.of _ _ _ hx
      refine ⟨x, h1, ?_⟩
      rw [← this]
      refine mapO_wvs h2 (by rw [this]; exact hX.encPl t x) fun z hz q => ?_
      rw [avs_map] at hz
      obtain ⟨c, hc, rfl⟩ := List.mem_map.1 hz
      have := List.all_eq_true.1 hna c hc
      intro e
      cases c <;> simp only [av, reduceCtorEq] at e <;> cases this
    · cases h1
  · cases h

def wH (X : Sys) (ob : OB X) (L : List (Option Nat)) (ln : List Nat) : SH → SV X.I → (List (Dy X.I) → Option β) → Option β
  | .lf h, x, K => w1 X ob L ln h x K
  | .agg hs, x, K => match x with
    | .agg xs => wL (w1 X ob L ln) hs xs K
    | _ => none
  | .st t, x, K => match x with
    | .agg cs => elC X ob t cs fun z => K [.e t z]
    | _ => none
theorem wH_ok {X : Sys} (hX : SysOK X) {ob : OB X} {L : List (Option Nat)} {ln : List Nat} {h : SH} {x : SV X.I} {K : List (Dy X.I) → Option β} {r : β} (hw : wH X ob L ln h x K = some r) :
    ∃ ds, K ds = some r ∧ ds.length = h.ks.length ∧ W0 X ob L x (bH X ln h) ds false := by
  unfold wH at hw
  split at hw
  · obtain ⟨ds, h1, h2, y, h3, h4, _⟩ := w1_ok hw
    exact ⟨ds, h1, h2, y, h3, h4, fun h => by cases h⟩
  · split at hw
    · obtain ⟨ds, ys, h1, h2, h3, h4, _⟩ := wL_ok (bf := b1 ln) (ks := SH1.ks) (lf := leafH1) (fun _ _ _ h => w1_ok h) hw
      exact ⟨ds, h1, h2, .agg ys, fun tl => by simp only [bH, h3], h4.aggW, fun h => by cases h⟩
    · cases hw
  · split at hw
    · obtain ⟨z, h1, h2⟩ := elC_ok hX L hw
      refine ⟨_, h1, rfl, .agg (X.toC _ z), fun tl => rfl, ?_, fun h => by cases h⟩
      simp only [av, ← hX.encC]
      exact h2.aggW
    · cases hw
end Go.Bx

/- Weakening of whole states to a form. (Own text.) -/
namespace Go.Bx
set_option linter.unusedVariables false
set_option linter.unusedSimpArgs false
set_option linter.unusedSectionVars false
set_option linter.unusedVariables false
set_option linter.unusedSectionVars false
set_option linter.unusedSimpArgs false
variable {β : Type}

/-- A row's parts as one list. -/
def segC (X : Sys) (ob : OB X) (t : TypeId) : List (Seg X.I t) → (List (X.I t) → Option β) → Option β
  | [], K => K []
  | .xs l :: g, K => match g with
    | [] => K l
    | _ :: _ => segC X ob t g fun m => K (l ++ m)
  | .one cs :: g, K => elC X ob t cs fun x => segC X ob t g fun m => K (x :: m)
theorem segC_ok {X : Sys} (hX : SysOK X) {ob : OB X} (L : List (Option Nat)) {t : TypeId} {r : β} : ∀ {g : List (Seg X.I t)} {K : List (X.I t) → Option β}, segC X ob t g K = some r →
    ∃ m, K m = some r ∧ WL (St (obs X ob)) (rhoOf L) (vtOf L) (segs X g) (m.map (X.enc t))
  | [], K, h => ⟨[], h, .nil⟩
  | .xs l :: g, K, h => by
    have hl : WL (St (obs X ob)) (rhoOf L) (vtOf L) (l.map (X.enc t)) (l.map (X.enc t)) := WL.refl (all_pl' (hX.encPl t) l)
    cases g with
    | nil => exact ⟨l, h, by simpa [segs, Seg.es] using hl⟩
    | cons x g =>
      obtain ⟨m, h1, h2⟩ := segC_ok hX L (g := x :: g) h
      refine ⟨l ++ m, h1, ?_⟩
      simp only [segs, List.flatMap_cons, List.map_append] at h2 ⊢
      exact WL.append hl h2
  | .one cs :: g, K, h => by
    obtain ⟨x, h1, h2⟩ := elC_ok hX L h
    obtain ⟨m, h3, h4⟩ := segC_ok hX L h1
    refine ⟨x :: m, h3, ?_⟩
    simp only [segs, List.flatMap_cons, List.map_cons] at h4 ⊢
    exact .cons h2 h4

/-- How long a row is told to be. -/
def lenC {I : TypeId → Type} (o : Nat) : List SH1 → List (SV I) → Nat
  | h :: hs, x :: xs => match h, x with
    | .lf (.row _ _), .row o' _ _ n => if Nat.beq o' o = true then n else lenC o hs xs
    | _, _ => lenC o hs xs
  | _, _ => 0
def lenF {I : TypeId → Type} (o : Nat) : List SH → List (SV I) → Nat
  | h :: hs, x :: xs => match h, x with
    | .lf (.lf (.row _ _)), .row o' _ _ n => if Nat.beq o' o = true then n else lenF o hs xs
    | .agg cs, .agg ys => if (ys.flatMap rowIdS).elem o = true then lenC o cs ys else lenF o hs xs
    | _, _ => lenF o hs xs
  | _, _ => 0
def wRows (X : Sys) (ob : OB X) (nf : Nat → Nat) : List (Option Nat) → List SOH → (List (Dy X.I) → Option β) → Option β
  | l :: L, .row t sh tr :: os, K => match l with
    | some o => match ob[o]? with
      | some (some (.row t' sh' fl g)) => if t' = t ∧ sh' = sh then (match tr with
          | false => segC X ob t' g fun xs => wRows X ob nf L os fun ds => K (.l t' xs :: ds)
          | true => match sh', fl, g with
            | false, true, [.xs l] => wRows X ob nf L os fun ds => K (.l t' (l.take (nf o)) :: ds)
            | _, _, _ => none) else none
      | _ => none
    | none => wRows X ob nf L os fun ds => K (.l t [] :: ds)
  | _ :: L, .dead :: os, K => wRows X ob nf L os K
  | _ :: L, .box _ _ _ :: os, K => wRows X ob nf L os K
  | [], [], K => K []
  | _, _, _ => none
def wBoxes (X : Sys) (ob : OB X) (Lf : List (Option Nat)) (ln : List Nat) : List (Option Nat) → List SOH → (List (Dy X.I) → Option β) → Option β
  | l :: L, .box sz sh cs :: os, K => match l with
    | some o => match ob[o]? with
      | some (some (.box sz' sh' xs)) => if sz' = sz ∧ sh' = sh ∧ cs.all leafH1 = true then wL (w1 X ob Lf ln) cs xs fun d => wBoxes X ob Lf ln L os fun ds => K (d ++ ds) else none
      | _ => none
    | none => none
  | _ :: L, .dead :: os, K => wBoxes X ob Lf ln L os K
  | _ :: L, .row _ _ _ :: os, K => wBoxes X ob Lf ln L os K
  | [], [], K => K []
  | _, _, _ => none

def RowsR (X : Sys) (ob : OB X) (Lf : List (Option Nat)) : List (Option Nat) → List SOH → List (Dy X.I) → Prop
  | l :: L, .row t sh _ :: os, .l t' xs :: rs => t' = t ∧ (match l with
      | some o => ∃ fl g, ob[o]? = some (some (SO.row (I := X.I) t' sh fl g)) ∧ (WL (St (obs X ob)) (rhoOf Lf) (vtOf Lf) (segs X g) (xs.map (X.enc t')) ∨ (sh = false ∧ fl = true ∧ ∃ n, xs.map (X.enc t') = (segs X g).take n))
      | none => xs = []) ∧ RowsR X ob Lf L os rs
  | _ :: L, .dead :: os, rs => RowsR X ob Lf L os rs
  | _ :: L, .box _ _ _ :: os, rs => RowsR X ob Lf L os rs
  | [], [], rs => rs = []
  | _, _, _ => False
def BoxR (X : Sys) (ob : OB X) (Lf : List (Option Nat)) (ln : List Nat) : List (Option Nat) → List SOH → List (Dy X.I) → Prop
  | l :: L, .box sz sh cs :: os, bs => ∃ d bs' ys o xs, bs = d ++ bs' ∧ (∀ tl, bL (b1 ln) cs (d ++ tl) = some (ys, tl)) ∧ l = some o ∧ ob[o]? = some (some (SO.box sz sh xs)) ∧ WVs (St (obs X ob)) (rhoOf Lf) (vtOf Lf) (avs X xs) (avs X ys) ∧ ys.all leafS = true ∧ BoxR X ob Lf ln L os bs'
  | _ :: L, .dead :: os, bs => BoxR X ob Lf ln L os bs
  | _ :: L, .row _ _ _ :: os, bs => BoxR X ob Lf ln L os bs
  | [], [], bs => bs = []
  | _, _, _ => False

section
variable {X : Sys} (hX : SysOK X) {ob : OB X} {Lf : List (Option Nat)}
include hX
theorem wRows_ok {r : β} {nf : Nat → Nat} : ∀ {L : List (Option Nat)} {os : List SOH} {K : List (Dy X.I) → Option β}, wRows X ob nf L os K = some r → ∃ rs, K rs = some r ∧ rs.length = (os.flatMap SOH.rks).length ∧ RowsR X ob Lf L os rs
  | l :: L, .row t sh tr :: os, K, h => by
    simp only [wRows] at h
    split at h
    · rename_i o
      split at h
      · rename_i t' sh' fl g ho
        split at h
        · rename_i he
          obtain ⟨rfl, rfl⟩ := he
          split at h
          · obtain ⟨m, h1, h2⟩ := segC_ok hX Lf h
            obtain ⟨rs, h3, h4, h5⟩ := wRows_ok h1
            exact ⟨_, h3, by simp [SOH.rks, h4], rfl, ⟨fl, g, ho, .inl h2⟩, h5⟩
          · split at h
            · rename_i l _
              obtain ⟨rs, h3, h4, h5⟩ := wRows_ok h
              exact ⟨_, h3, by simp [SOH.rks, h4], rfl, ⟨_, _, ho, .inr ⟨rfl, rfl, nf o, by simp [segs, Seg.es, List.map_take]⟩⟩, h5⟩
            · cases h
        · cases h
      · cases h
    · obtain ⟨rs, h3, h4, h5⟩ := wRows_ok h
      exact ⟨_, h3, by simp [SOH.rks, h4], rfl, rfl, h5⟩
  | l :: L, .dead :: os, K, h => by
    simp only [wRows] at h
    obtain ⟨rs, h3, h4, h5⟩ := wRows_ok h
    exact ⟨rs, h3, by simpa [SOH.rks] using h4, h5⟩
  | l :: L, .box _ _ _ :: os, K, h => by
    simp only [wRows] at h
    obtain ⟨rs, h3, h4, h5⟩ := wRows_ok h
    exact ⟨rs, h3, by simpa [SOH.rks] using h4, h5⟩
  | [], [], K, h => ⟨[], h, rfl, rfl⟩
  | [], .row _ _ _ :: _, K, h => by simp [wRows] at h
  | [], .dead :: _, K, h => by simp [wRows] at h
  | [], .box _ _ _ :: _, K, h => by simp [wRows] at h
  | _ :: _, [], K, h => by simp [wRows] at h
theorem wBoxes_ok {r : β} {ln : List Nat} : ∀ {L : List (Option Nat)} {os : List SOH} {K : List (Dy X.I) → Option β}, wBoxes X ob Lf ln L os K = some r → ∃ bs, K bs = some r ∧ bs.length = (os.flatMap SOH.bks).length ∧ BoxR X ob Lf ln L os bs
  | l :: L, .box sz sh cs :: os, K, h => by
    simp only [wBoxes] at h
    split at h
    · rename_i o
      split at h
      · rename_i sz' sh' xs ho
        split at h
        · rename_i he
          obtain ⟨rfl, rfl, hl⟩ := he
          obtain ⟨d, ys, h1, h2, h3, h4, h5⟩ := wL_ok (bf := b1 ln) (ks := SH1.ks) (lf := leafH1) (fun _ _ _ h => w1_ok h) h
          obtain ⟨bs, g1, g2, g3⟩ := wBoxes_ok h1
          exact ⟨_, g1, by simp [SOH.bks, h2, g2], d, bs, ys, o, xs, rfl, h3, rfl, ho, h4, h5 hl, g3⟩
        · cases h
      · cases h
    · cases h
  | l :: L, .dead :: os, K, h => by
    simp only [wBoxes] at h
    obtain ⟨rs, h3, h4, h5⟩ := wBoxes_ok h
    exact ⟨rs, h3, by simpa [SOH.bks] using h4, h5⟩
  | l :: L, .row _ _ _ :: os, K, h => by
    simp only [wBoxes] at h
    obtain ⟨rs, h3, h4, h5⟩ := wBoxes_ok h
    exact ⟨rs, h3, by simpa [SOH.bks] using h4, h5⟩
  | [], [], K, h => ⟨[], h, rfl, rfl⟩
  | [], .row _ _ _ :: _, K, h => by simp [wBoxes] at h
  | [], .dead :: _, K, h => by simp [wBoxes] at h
  | [], .box _ _ _ :: _, K, h => by simp [wBoxes] at h
  | _ :: _, [], K, h => by simp [wBoxes] at h
theorem obs_of {ln : List Nat} : ∀ {L : List (Option Nat)} {os : List SOH} {bs rs : List (Dy X.I)}, RowsR X ob Lf L os rs → BoxR X ob Lf ln L os bs → ∃ obn : OB X, bObs ln os bs rs = some obn ∧ WSr (St (obs X ob)) (rhoOf Lf) (vtOf Lf) L (obs X obn)
  | l :: L, .row t sh _ :: os, bs, .l t' xs :: rs, h, k => by
    simp only [RowsR] at h
    obtain ⟨rfl, h1, h2⟩ := h
    obtain ⟨obn, g1, g2⟩ := obs_of h2 (by simpa only [BoxR] using k)
    refine ⟨some (.row t' sh true [.xs xs]) :: obn, by simp only [bObs, g1]; rfl, ?_⟩
    have hobj : SO.obj X (.row t' sh true [.xs xs]) = ⟨X.sz t', sh, true, xs.map (X.enc t')⟩ := by simp [SO.obj, segs, Seg.es]
    have hpl : ((xs.map (X.enc t')).all fun e => e.all pl) = true := all_pl' (hX.encPl t') xs
    simp only [obs, List.map_cons, Option.map_some, hobj]
    cases l with
    | none => simp only at h1; subst h1; exact .virt g2
    | some o =>
      obtain ⟨fl, g, ho, hw⟩ := h1
      rcases hw with hw | ⟨rfl, rfl, n, hn⟩
      · refine .obj (obs_get ho) (.mk hw ?_ fun _ => hpl) g2
        rw [List.all_eq_true] at hpl ⊢
        intro e he
        have := hpl e he
        rw [List.all_eq_true] at this ⊢
        exact fun x hx => leaf_of_pl (this x hx)
      · rw [hn]
        exact .obj (obs_get ho) (.trunc n _ _) g2
  | l :: L, .box sz sh cs :: os, bs, rs, h, k => by
    simp only [BoxR] at k
    obtain ⟨d, bs', ys, o, xs, rfl, h3, rfl, ho, h4, h5, k⟩ := k
    obtain ⟨obn, g1, g2⟩ := obs_of (by simpa only [RowsR] using h) k
    refine ⟨some (.box sz sh ys) :: obn, by simp only [bObs, h3, g1]; rfl, ?_⟩
    simp only [obs, List.map_cons, Option.map_some, SO.obj]
    refine .obj (obs_get ho) (.mk (.cons h4 .nil) ?_ nofun) g2
    simp only [List.all_cons, List.all_nil, Bool.and_true]
    rw [all_leaf]; exact h5
  | l :: L, .dead :: os, bs, rs, h, k => by
    obtain ⟨obn, g1, g2⟩ := obs_of (by simpa only [RowsR] using h) (by simpa only [BoxR] using k)
    exact ⟨none :: obn, by simp only [bObs, g1]; rfl, .dead g2⟩
  | [], [], bs, rs, h, k => ⟨[], rfl, .nil⟩
  | [], .row _ _ _ :: _, bs, rs, h, k => by simp [RowsR] at h
  | [], .dead :: _, bs, rs, h, k => by simp [RowsR] at h
  | [], .box _ _ _ :: _, bs, rs, h, k => by simp [RowsR] at h
  | _ :: _, [], bs, rs, h, k => by simp [RowsR] at h
  | _ :: _, .row _ _ _ :: _, bs, [], h, k => by simp [RowsR] at h
  | _ :: _, .row _ _ _ :: _, bs, .i _ :: _, h, k => by simp [RowsR] at h
  | _ :: _, .row _ _ _ :: _, bs, .b _ :: _, h, k => by simp [RowsR] at h
  | _ :: _, .row _ _ _ :: _, bs, .s _ :: _, h, k => by simp [RowsR] at h
  | _ :: _, .row _ _ _ :: _, bs, .e _ _ :: _, h, k => by simp [RowsR] at h
end

/-! ### the numbers, found -/
section
variable {I : TypeId → Type}
def ref0 (a : Nat) : SH0 → SV I → Option (Option Nat)
  | .row a' _, x => if a' = a then some (match x with
      | .row o _ _ _ => some o
      | _ => none) else none
  | .rowlo a' _, x => if a' = a then some (match x with
      | .row o _ _ _ => some o
      | .rowx o _ _ _ => some o
      | _ => none) else none
  | .trow a' _, x => if a' = a then some (match x with
      | .trow o _ _ => some o
      | _ => none) else none
  | .ptr a' _, x => if a' = a then some (match x with
      | .ptr o _ _ => some o
      | _ => none) else none
  | .tptr a' _, x => if a' = a then some (match x with
      | .tptr o _ => some o
      | _ => none) else none
  | _, _ => none
def refL {α : Type} (f : α → SV I → Option (Option Nat)) : List α → List (SV I) → Option (Option Nat)
  | h :: hs, x :: xs => match f h x with
    | some e => some e
    | none => refL f hs xs
  | _, _ => none
def ref1 (a : Nat) : SH1 → SV I → Option (Option Nat)
  | .lf h, x => ref0 a h x
  | .fn _ hs ks, x => match x with
    | .fn _ xs ys => match refL (ref0 a) hs xs with
      | some e => some e
      | none => refL (ref0 a) ks ys
    | _ => none
def refH (a : Nat) : SH → SV I → Option (Option Nat)
  | .lf h, x => ref1 a h x
  | .agg hs, x => match x with
    | .agg xs => refL (ref1 a) hs xs
    | _ => none
  | .st _, _ => none
def refB (ob : List (Option (SO I))) (a : Nat) : List (Option Nat) → List SOH → Option (Option Nat)
  | l :: L, .box _ _ cs :: os => match l with
    | some o => match ob[o]? with
      | some (some (.box _ _ xs)) => match refL (ref1 a) cs xs with
        | some e => some e
        | none => refB ob a L os
      | _ => refB ob a L os
    | none => refB ob a L os
  | _ :: L, _ :: os => refB ob a L os
  | _, _ => none
def mapGo (k : Nat) (S : Shp) (tm : List (SV I)) (ob : List (Option (SO I))) : Nat → Nat → List (Option Nat) → List (Option Nat)
  | 0, _, L => L
  | n + 1, a, L => mapGo k S tm ob n (a + 1) (L ++ [if a < k then some a else match refL (refH a) S.tm tm with
      | some e => e
      | none => (refB ob a L S.ob).join])
def mapL (k : Nat) (S : Shp) (tm : List (SV I)) (ob : List (Option (SO I))) : List (Option Nat) := mapGo k S tm ob S.ob.length 0 []

/-- The rows that come to be shared. -/
def fz0 : SH0 → SV I → List Nat
  | .l _, .row o _ _ _ => [o]
  | _, _ => []
def fzL {α : Type} (f : α → SV I → List Nat) : List α → List (SV I) → List Nat
  | h :: hs, x :: xs => f h x ++ fzL f hs xs
  | _, _ => []
def fz1 : SH1 → SV I → List Nat
  | .lf h, x => fz0 h x
  | .fn _ hs ks, x => match x with
    | .fn _ xs ys => fzL fz0 hs xs ++ fzL fz0 ks ys
    | _ => []
def fzH : SH → SV I → List Nat
  | .lf h, x => fz1 h x
  | .agg hs, x => match x with
    | .agg xs => fzL fz1 hs xs
    | _ => []
  | .st _, x => match x with
    | .agg xs => xs.flatMap rowIdS
    | _ => []
def fzG {t : TypeId} : Seg I t → List Nat
  | .one cs => cs.flatMap rowIdS
  | _ => []
def fzO (ob : List (Option (SO I))) : List (Option Nat) → List SOH → List Nat
  | some o :: L, h :: os => (match h, ob[o]? with
    | .box _ _ cs, some (some (.box _ _ xs)) => fzL fz1 cs xs
    | .row _ true _, some (some (.row _ false true _)) => [o]
    | .row _ _ _, some (some (.row _ _ _ g)) => g.flatMap fzG
    | _, _ => []) ++ fzO ob L os
  | _ :: L, _ :: os => fzO ob L os
  | _, _ => []
end

def nodupB : List Nat → Bool
  | [] => true
  | x :: xs => !xs.contains x && nodupB xs
theorem nodupB_ok : ∀ {l : List Nat}, nodupB l = true → l.Nodup
  | [], _ => List.nodup_nil
  | x :: xs, h => by
    simp only [nodupB, Bool.and_eq_true, Bool.not_eq_true'] at h
    exact List.nodup_cons.2 ⟨by simpa using h.1, nodupB_ok h.2⟩
/-- To a form: its payload. -/
def xWeak (X : Sys) (k : Nat) (S : Shp) (tm : List (SV X.I)) (ob : OB X) (K : List (Dy X.I) → Option β) : Option β :=
  let L := mapL k S tm ob
  match shareS ob (fzL fzH S.tm tm ++ fzO ob L S.ob) with
  | some ob1 => if (nodupB (L.filterMap id) && (List.range k).all fun a => L[a]? == some (some a)) = true then
      wRows X ob1 (fun o => lenF o S.tm tm) L S.ob fun rs => wBoxes X ob1 L (lens S.ob rs) L S.ob fun bs => wL (wH X ob1 L (lens S.ob rs)) S.tm tm fun ts => K (ts ++ (bs ++ rs)) else none
  | none => none

theorem xWeak_ok {X : Sys} (hX : SysOK X) {base : Nat} {c00 : Ctx} {O : List (Option Obj)} (hU : Under X.E base c00 (St O)) {low : Option Nat} {c0 : Nat} (hm : Mode low c0) {S : Shp} {tm : List (SV X.I)} {ob : OB X} {K : List (Dy X.I) → Option β} {r : β} (h : xWeak X O.length S tm ob K = some r) :
    ∃ ds tm' ob', K ds = some r ∧ ds.length = S.ks.length ∧ build X S ds = some (tm', ob') ∧ Wk base c00 (St O) (fsS X low c0 tm ob) (fsS X low c0 tm' ob') := by
  unfold xWeak at h
  simp only at h
  generalize mapL O.length S tm ob = L at h
  split at h
  · rename_i ob1 hsh
    obtain ⟨s1, s2, s3, s4, s5⟩ := shareS_ok hsh
    split at h
    · rename_i hc
      simp only [Bool.and_eq_true, List.all_eq_true, List.mem_range, beq_iff_eq] at hc
      obtain ⟨hd, hk⟩ := hc
      obtain ⟨rs, h1, h2, h3⟩ := wRows_ok hX (Lf := L) h
      obtain ⟨bs, h4, h5, h6⟩ := wBoxes_ok hX h1
      obtain ⟨ts, ys, g1, g2, g3, g4, _⟩ := wL_ok (bf := bH X (lens S.ob rs)) (ks := SH.ks) (lf := fun _ => false) (fun _ _ _ h => wH_ok hX h) h4
      obtain ⟨obn, k1, k2⟩ := obs_of hX h3 h6
      refine ⟨ts ++ (bs ++ rs), ys, obn, g1, by simp [Shp.ks, g2, h5, h2], ?_, ?_⟩
      · unfold build
        rw [← g2, ← h5, List.take_left, List.drop_left, List.take_left, ← List.length_append, ← List.append_assoc, List.drop_left]
        unfold bState
        have := g3 []
        rw [List.append_nil] at this
        rw [this, k1]
      · refine Wk.share (s := fsS X low c0 tm ob) hU (fzL fzH S.tm tm ++ fzO ob L S.ob) ?_
        have e1 : (⟨(fsS X low c0 tm ob).tm, shareAll (fsS X low c0 tm ob).σ (fzL fzH S.tm tm ++ fzO ob L S.ob), omin (fsS X low c0 tm ob).low (cut (fsS X low c0 tm ob).c0 (freshL (fsS X low c0 tm ob).σ (fzL fzH S.tm tm ++ fzO ob L S.ob))), (fsS X low c0 tm ob).c0⟩ : FS) = fsS X low c0 tm ob1 := by
          simp only [fsS, s1, hm _]
        rw [e1]
        exact Wk.weakR (s := fsS X low c0 tm ob1) hU L (obs X obn) (nodupB_ok hd) hk k2 g4
    · cases h
  · cases h
end Go.Bx
