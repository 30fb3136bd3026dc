/- What the program's functions compute, shown of their code (W5). Own text; parts are printed by a program of this claim's author. -/
import Derived.Test.YtgnhnfaojpjieaaW4
/- What a text's tokens are; the program and the reference tell just these. Plain Lean. (Own text.) -/
namespace Go.Bx.Scan
set_option linter.unusedVariables false
set_option linter.unusedSimpArgs false
set_option linter.unusedSectionVars false
open Go.Proofs
set_option linter.unusedVariables false
set_option linter.unusedSimpArgs false

def isDelim (b : UInt8) : Bool := delims.contains b
def notD (b : UInt8) : Bool := !isDelim b
def nl (b : UInt8) : Bool := b != 10
def isSig (b : UInt8) : Bool := b == 40 || b == 41 || b == 39
def sgn (b : UInt8) : Int := if b = 40 then 1 else if b = 41 then 2 else 3
inductive TR where
  | ok (l : List Token)
  | bad (a e : Int)
def TR.cons (t : Token) : TR → TR
  | .ok l => .ok (t :: l)
  | .bad a e => .bad a e
def nil0 : Ratio := ⟨false, [], []⟩
/-- A text's tokens, from a place on. -/
def tokS (l : Str) (i : Int) : TR :=
  match l with
  | [] => .ok []
  | c :: r =>
    if c = 59 then tokS (r.dropWhile nl) (i + 1 + ((r.takeWhile nl).length : Int))
    else if isSig c = true then .cons ⟨sgn c, [c], nil0, i⟩ (tokS r (i + 1))
    else if isDelim c = true then tokS r (i + 1)
    else if (kindS (c :: r.takeWhile notD)).2.2 = 0 then .cons ⟨(kindS (c :: r.takeWhile notD)).1, c :: r.takeWhile notD, (kindS (c :: r.takeWhile notD)).2.1, i⟩ (tokS (r.dropWhile notD) (i + 1 + ((r.takeWhile notD).length : Int)))
    else .bad i (kindS (c :: r.takeWhile notD)).2.2
termination_by l.length
decreasing_by
  all_goals simp_wf
  · have := (List.dropWhile_suffix nl (l := r)).length_le; omega
  · have := (List.dropWhile_suffix notD (l := r)).length_le; omega

theorem tok_nil (i : Int) : tokS [] i = .ok [] := by rw [tokS]
theorem tok_rem {r : Str} (i : Int) : tokS (59 :: r) i = tokS (r.dropWhile nl) (i + 1 + ((r.takeWhile nl).length : Int)) := by rw [tokS]; simp
theorem tok_sig {c : UInt8} {r : Str} (i : Int) (h : isSig c = true) : tokS (c :: r) i = .cons ⟨sgn c, [c], nil0, i⟩ (tokS r (i + 1)) := by
  have h59 : c ≠ 59 := by intro h2; subst h2; cases h
  rw [tokS, if_neg h59, if_pos h]
theorem tok_blank {c : UInt8} {r : Str} (i : Int) (h1 : c ≠ 59) (h : isSig c = false) (h2 : isDelim c = true) : tokS (c :: r) i = tokS r (i + 1) := by
  rw [tokS, if_neg h1, if_neg (by simp [h]), if_pos h2]
theorem delim59 : isDelim 59 = true := by decide
theorem sig_delim {c : UInt8} (h : isSig c = true) : isDelim c = true := by
  unfold isSig at h
  simp only [Bool.or_eq_true, beq_iff_eq] at h
  rcases h with (h | h) | h <;> (subst h; decide)
theorem tok_word {c : UInt8} {r : Str} (i : Int) (h : isDelim c = false) : tokS (c :: r) i = if (kindS (c :: r.takeWhile notD)).2.2 = 0 then .cons ⟨(kindS (c :: r.takeWhile notD)).1, c :: r.takeWhile notD, (kindS (c :: r.takeWhile notD)).2.1, i⟩ (tokS (r.dropWhile notD) (i + 1 + ((r.takeWhile notD).length : Int))) else .bad i (kindS (c :: r.takeWhile notD)).2.2 := by
  have h59 : c ≠ 59 := by intro h2; subst h2; rw [delim59] at h; cases h
  have hs : isSig c = false := by
    cases hc : isSig c with
    | false => rfl
    | true => rw [sig_delim hc] at h; cases h
  rw [tokS, if_neg h59, if_neg (by simp [hs]), if_neg (by simp [h])]

/-! ### parts -/
theorem b59 (b : UInt8) : ((b.toNat : Int) == 59) = (b == 59) := bEq b 59
theorem b10 (b : UInt8) : ((b.toNat : Int) != 10) = nl b := by show (!((b.toNat : Int) == 10)) = !(b == 10); rw [show ((b.toNat : Int) == 10) = (b == 10) from bEq b 10]
theorem f18_eq (b : UInt8) : f18 (b.toNat : Int) = some (if isSig b = true then sgn b else 0) := by
  unfold f18
  rw [f19_eq]
  simp only [bind_ok]
  have h : ∀ b : UInt8, Lib.indexByte [40, 41, 39] b = if b = 40 then 0 else if b = 41 then 1 else if b = 39 then 2 else -1 := by
    intro b
    by_cases h1 : b = 40
    · subst h1; rfl
    by_cases h2 : b = 41
    · subst h2; rfl
    by_cases h3 : b = 39
    · subst h3; rfl
    have e1 : ((40 : UInt8) == b) = false := beq_eq_false_iff_ne.2 (fun h => h1 h.symm)
    have e2 : ((41 : UInt8) == b) = false := beq_eq_false_iff_ne.2 (fun h => h2 h.symm)
    have e3 : ((39 : UInt8) == b) = false := beq_eq_false_iff_ne.2 (fun h => h3 h.symm)
    have f1 : ¬ (b : UInt8) = 40 := h1
    rw [if_neg h1, if_neg h2, if_neg h3]
    have hc : ([40, 41, 39] : List UInt8).contains b = false := by
      simp [h1, h2, h3]
    rw [Lib.contains_iff_indexByte] at hc
    have := of_decide_eq_false hc
    have := Lib.indexByte_ge [40, 41, 39] b
    omega
  rw [h b]
  unfold isSig sgn
  by_cases h1 : b = 40
  · subst h1; rfl
  by_cases h2 : b = 41
  · subst h2; rfl
  by_cases h3 : b = 39
  · subst h3; rfl
  simp [h1, h2, h3]
  rfl
theorem f11_l0_eq (s : Str) (ls : s.length < 10000) : ∀ (k i : Nat), i + k = s.length → f11_l0 s i = some ((i + ((s.drop i).takeWhile nl).length : Nat) : Int)
  | 0, i, hk => by rw [f11_l0, if_neg (by simp <;> omega), List.drop_of_length_le (by omega)]; rfl
  | k + 1, i, hk => by
    have k1 : i < s.length := by omega
    rw [f11_l0, if_pos (by simp <;> omega), bt_nat k1]
    simp only [bind_ok]
    rw [b10, List.drop_eq_getElem_cons k1, List.takeWhile_cons]
    cases h : nl s[i] with
    | true =>
      simp only [if_true]
      rw [w64 (by omega) (by omega), show ((i : Int) + 1) = ((i + 1 : Nat) : Int) by omega, f11_l0_eq s ls k (i + 1) (by omega), List.length_cons]
      congr 2; omega
    | false => simp
theorem f12_l1_eq (s : Str) (ls : s.length < 10000) : ∀ (k i : Nat), i + k = s.length → f12_l1 s i = some ((i + ((s.drop i).takeWhile nl).length : Nat) : Int)
  | 0, i, hk => by rw [f12_l1, if_neg (by simp <;> omega), List.drop_of_length_le (by omega)]; rfl
  | k + 1, i, hk => by
    have k1 : i < s.length := by omega
    rw [f12_l1, if_pos (by simp <;> omega), bt_nat k1]
    simp only [bind_ok]
    rw [b10, List.drop_eq_getElem_cons k1, List.takeWhile_cons]
    cases h : nl s[i] with
    | true =>
      simp only [if_true]
      rw [w64 (by omega) (by omega), show ((i : Int) + 1) = ((i + 1 : Nat) : Int) by omega, f12_l1_eq s ls k (i + 1) (by omega), List.length_cons]
      congr 2; omega
    | false => simp
theorem f12_l2_eq (s : Str) (ls : s.length < 10000) : ∀ (k i : Nat), i + k = s.length → f12_l2 s i = some ((i + ((s.drop i).takeWhile notD).length : Nat) : Int)
  | 0, i, hk => by rw [f12_l2, if_neg (by simp <;> omega), List.drop_of_length_le (by omega)]; rfl
  | k + 1, i, hk => by
    have k1 : i < s.length := by omega
    have hd := f21_eq s[i] delims (by decide)
    unfold delims at hd
    rw [f12_l2, if_pos (by simp <;> omega), bt_nat k1]
    simp only [bind_ok]
    rw [hd, List.drop_eq_getElem_cons k1, List.takeWhile_cons]
    simp only [bind_ok]
    have e : (!List.contains [32, 9, 10, 13, 59, 40, 41, 39] s[i]) = notD s[i] := rfl
    rw [e]
    cases h : notD s[i] with
    | true =>
      simp only [if_true]
      rw [w64 (by omega) (by omega), show ((i : Int) + 1) = ((i + 1 : Nat) : Int) by omega, f12_l2_eq s ls k (i + 1) (by omega), List.length_cons]
      congr 2; omega
    | false => simp
theorem indexAny_eq : ∀ l : Str, Lib.indexAny l delims = if (l.takeWhile notD).length < l.length then ((l.takeWhile notD).length : Int) else -1
  | [] => rfl
  | b :: l => by
    rw [Lib.indexAny, indexAny_eq l, List.takeWhile_cons]
    have e : delims.contains b = isDelim b := rfl
    rw [e]
    have hle := (List.takeWhile_prefix (l := l) notD).length_le
    cases h : isDelim b with
    | true => simp [notD, h]
    | false =>
      have : notD b = true := by simp [notD, h]
      simp only [this, if_true, List.length_cons, Bool.false_eq_true, if_false]
      by_cases hl : (l.takeWhile notD).length < l.length
      · have h2 : (l.takeWhile notD).length + 1 < l.length + 1 := by omega
        simp only [if_pos hl, if_pos h2]
        rw [if_neg (by rw [beq_iff_eq]; omega)]; omega
      · have h2 : ¬ (l.takeWhile notD).length + 1 < l.length + 1 := by omega
        simp only [if_neg hl, if_neg h2]
        rfl
theorem take_tw (p : UInt8 → Bool) (l : Str) : l.take (l.takeWhile p).length = l.takeWhile p := (List.prefix_iff_eq_take.1 (List.takeWhile_prefix _)).symm
theorem drop_tw (p : UInt8 → Bool) : ∀ l : Str, l.drop (l.takeWhile p).length = l.dropWhile p
  | [] => rfl
  | b :: l => by
    rw [List.takeWhile_cons, List.dropWhile_cons]
    cases p b with
    | true => simpa using drop_tw p l
    | false => rfl
/-- scan.word -/
theorem f20_eq (out : List Token) (s : Str) (i : Nat) (ls : s.length ≤ 4096) (hi : i ≤ s.length) (ho : out.length ≤ i) : f20 out s i = some (
    if (kindS ((s.drop i).takeWhile notD)).2.2 = 0 then (0, out ++ [⟨(kindS ((s.drop i).takeWhile notD)).1, (s.drop i).takeWhile notD, (kindS ((s.drop i).takeWhile notD)).2.1, i⟩], ((i + ((s.drop i).takeWhile notD).length : Nat) : Int)) else ((kindS ((s.drop i).takeWhile notD)).2.2, out, (i : Int))) := by
  have hwl := (List.takeWhile_prefix (l := s.drop i) notD).length_le
  rw [List.length_drop] at hwl
  obtain ⟨_, hk⟩ := kind_eq ((s.drop i).takeWhile notD) (by omega)
  unfold f20
  rw [cutN (m := i) (n := s.length) rfl rfl hi (Nat.le_refl _), List.take_length]
  simp only [bind_ok]
  have h32 : f32 (s.drop i) [32, 9, 10, 13, 59, 40, 41, 39] = some (Lib.indexAny (s.drop i) delims) := by unfold f32; rw [if_pos ⟨rfl, by rw [List.length_drop]; omega⟩]; rfl
  rw [h32, indexAny_eq]
  simp only [bind_ok]
  have fin : ∀ (w : Str) (n : Int), w = (s.drop i).takeWhile notD → n = (((s.drop i).takeWhile notD).length : Int) → (f33 w >>= fun r6 => if (r6.2 != 0) = true then some (r6.2, out, (i : Int)) else ap 88 out [(⟨r6.1.Kind, r6.1.Text, (⟨r6.1.N.Neg, r6.1.N.Num, r6.1.N.Den⟩ : Ratio), i⟩ : Token)] >>= fun a8 => some (0, a8, IntKind.i64.wrap ((i : Int) + n))) = some (
    if (kindS ((s.drop i).takeWhile notD)).2.2 = 0 then (0, out ++ [⟨(kindS ((s.drop i).takeWhile notD)).1, (s.drop i).takeWhile notD, (kindS ((s.drop i).takeWhile notD)).2.1, i⟩], ((i + ((s.drop i).takeWhile notD).length : Nat) : Int)) else ((kindS ((s.drop i).takeWhile notD)).2.2, out, (i : Int))) := fun w n hw hn => by
    subst hw; subst hn
    rw [hk]
    simp only [bind_ok]
    by_cases he : (kindS ((s.drop i).takeWhile notD)).2.2 = 0
    · rw [if_neg (by simp [he]), if_pos he, apN (by simp; omega)]
      simp only [bind_ok]
      rw [w64 (by omega) (by omega)]; rfl
    · rw [if_pos (by simpa using he), if_neg he]
  by_cases hlt : ((s.drop i).takeWhile notD).length < (s.drop i).length
  · rw [if_pos hlt, if_neg (by simp <;> omega)]
    rw [List.length_drop] at hlt
    rw [w64 (x := (i : Int) + ((s.drop i).takeWhile notD).length) (by omega) (by omega), cutN (m := i) (n := i + ((s.drop i).takeWhile notD).length) rfl (by omega) (by omega) (by omega)]
    simp only [bind_ok]
    have := fin ((s.take (i + ((s.drop i).takeWhile notD).length)).drop i) (((s.drop i).takeWhile notD).length : Int) (by rw [List.drop_take, show i + ((s.drop i).takeWhile notD).length - i = ((s.drop i).takeWhile notD).length by omega]; exact take_tw notD _) rfl
    rwa [w64 (x := (i : Int) + ((s.drop i).takeWhile notD).length) (by omega) (by omega)] at this
  · rw [if_neg hlt, if_pos (by decide)]
    rw [List.length_drop] at hlt
    rw [w64 (x := (s.length : Int) - i) (by omega) (by omega), w64 (x := (i : Int) + ((s.length : Int) - i)) (by omega) (by omega), cutN (m := i) (n := s.length) rfl (by omega) hi (Nat.le_refl _), List.take_length]
    simp only [bind_ok]
    have := fin (s.drop i) ((s.length : Int) - i) (by rw [← take_tw notD (s.drop i), List.take_of_length_le (by rw [List.length_drop]; omega)]) (by omega)
    rwa [w64 (x := (i : Int) + ((s.length : Int) - i)) (by omega) (by omega)] at this

/-! ### Tokens -/
def finT (out : List Token) : TR → List Token × Int × Int
  | .ok l => (out ++ l, 0, 0)
  | .bad a e => ([], a, e)
theorem finT_cons (out : List Token) (t : Token) (r : TR) : finT (out ++ [t]) r = finT out (r.cons t) := by cases r <;> simp [finT, TR.cons]
theorem f11_g0_eq (s : Str) (ls : s.length ≤ 4096) : ∀ (k i : Nat) (out : List Token), s.length ≤ i + k → i ≤ s.length → out.length ≤ i → f11_g0 s out i = some (finT out (tokS (s.drop i) i))
  | k, i, out, hk, hi, ho => by
    rw [f11_g0]
    by_cases he : i = s.length
    · rw [if_pos (by rw [beq_iff_eq]; omega), List.drop_of_length_le (by omega), tok_nil]; simp [finT]
    · have k1 : i < s.length := by omega
      rw [if_neg (by rw [beq_iff_eq]; omega), bt_nat k1]
      simp only [bind_ok]
      rw [b59, List.drop_eq_getElem_cons k1]
      match k with
      | 0 => omega
      | k + 1 =>
        by_cases h59 : s[i] = 59
        · rw [if_pos (by simpa using h59), f11_l0_eq s (by omega) (s.length - i) i (by omega)]
          simp only [bind_ok]
          have hle := (List.takeWhile_prefix (l := s.drop i) nl).length_le
          rw [List.length_drop] at hle
          have h1 : ((s.drop i).takeWhile nl) = 59 :: (s.drop (i + 1)).takeWhile nl := by rw [List.drop_eq_getElem_cons k1, h59]; rfl
          have h2 : s.drop (i + ((s.drop i).takeWhile nl).length) = (s.drop (i + 1)).dropWhile nl := by
            rw [← List.drop_drop, drop_tw, List.drop_eq_getElem_cons k1, h59]; rfl
          rw [f11_g0_eq s ls k (i + ((s.drop i).takeWhile nl).length) out (by rw [h1, List.length_cons] at hle ⊢; omega) (by omega) (by omega), h2, h59, tok_rem]
          congr 3; rw [h1, List.length_cons]; omega
        · rw [if_neg (by simpa using h59), f18_eq]
          simp only [bind_ok]
          cases hs : isSig s[i] with
          | true =>
            simp only [if_true]
            rw [if_pos (by unfold sgn; split <;> (try split) <;> decide), w64 (by omega) (by omega), cutN (m := i) (n := i + 1) rfl (by omega) (by omega) (by omega)]
            simp only [bind_ok]
            rw [apN (by simp; omega)]
            simp only [bind_ok]
            rw [show ((i : Int) + 1) = ((i + 1 : Nat) : Int) by omega, f11_g0_eq s ls k (i + 1) _ (by omega) (by omega) (by simp; omega), tok_sig _ hs, ← finT_cons]
            have : (s.take (i + 1)).drop i = [s[i]] := by
              rw [List.drop_take, show i + 1 - i = 1 by omega, List.drop_eq_getElem_cons k1]; rfl
            rw [this]; rfl
          | false =>
            simp only [Bool.false_eq_true, if_false]
            have h19 := f19_eq delims s[i]
            have hin := in_byte delims s[i] inferInstance
            unfold delims at h19 hin
            rw [if_neg (by decide), h19]
            simp only [bind_ok]
            rw [hin]
            have e : List.contains [32, 9, 10, 13, 59, 40, 41, 39] s[i] = isDelim s[i] := rfl
            rw [e]
            cases hd : isDelim s[i] with
            | true =>
              simp only [if_true]
              rw [w64 (by omega) (by omega), show ((i : Int) + 1) = ((i + 1 : Nat) : Int) by omega, f11_g0_eq s ls k (i + 1) _ (by omega) (by omega) (by omega), tok_blank _ h59 hs hd]; rfl
            | false =>
              simp only [Bool.false_eq_true, if_false]
              have hnd : notD s[i] = true := by simp [notD, hd]
              have htw : (s.drop i).takeWhile notD = s[i] :: (s.drop (i + 1)).takeWhile notD := by rw [List.drop_eq_getElem_cons k1, List.takeWhile_cons, if_pos hnd]
              have hle := (List.takeWhile_prefix (l := s.drop i) notD).length_le
              rw [List.length_drop] at hle
              rw [f20_eq out s i ls hi ho]
              simp only [bind_ok]
              rw [tok_word _ hd, ← htw]
              by_cases hk0 : (kindS ((s.drop i).takeWhile notD)).2.2 = 0
              · rw [if_pos hk0, if_neg (by simp), if_pos hk0]
                have h2 : s.drop (i + ((s.drop i).takeWhile notD).length) = (s.drop (i + 1)).dropWhile notD := by
                  rw [← List.drop_drop, drop_tw, List.drop_eq_getElem_cons k1, List.dropWhile_cons, if_pos hnd]
                have hlw : ((s.drop i).takeWhile notD).length = ((s.drop (i + 1)).takeWhile notD).length + 1 := by rw [htw, List.length_cons]
                rw [f11_g0_eq s ls k (i + ((s.drop i).takeWhile notD).length) _ (by omega) (by omega) (by simp; omega), h2, finT_cons]
                congr 4; omega
              · rw [if_neg hk0, if_pos (by simpa using hk0), if_neg hk0]; rfl
theorem f11_eq (s : Str) : f11 s = some (if s.length ≤ 4096 then finT [] (tokS s 0) else ([], 0, 3)) := by
  unfold f11
  by_cases h : s.length ≤ 4096
  · rw [if_neg (by simp; omega), if_pos h]
    have := f11_g0_eq s h s.length 0 [] (by omega) (by omega) (by simp)
    rw [show ((0 : Nat) : Int) = 0 from rfl, List.drop_zero] at this; exact this
  · rw [if_pos (by simp; omega), if_neg h]
def ouT (out : List Token) : TR → Ou (List Token × Int × Int) (List Token)
  | .ok l => .nxt (out ++ l)
  | .bad a e => .ret ([], a, e)
theorem ouT_cons (out : List Token) (t : Token) (r : TR) : ouT (out ++ [t]) r = ouT out (r.cons t) := by cases r <;> simp [ouT, TR.cons]
theorem f12_l0_eq (s : Str) (ls : s.length ≤ 4096) : ∀ (k i : Nat) (out : List Token), s.length ≤ i + k → i ≤ s.length → out.length ≤ i → f12_l0 s out i = some (ouT out (tokS (s.drop i) i))
  | k, i, out, hk, hi, ho => by
    rw [f12_l0]
    by_cases he : i = s.length
    · rw [if_neg (by simp; omega), List.drop_of_length_le (by omega), tok_nil]; simp [ouT]
    · have k1 : i < s.length := by omega
      rw [if_pos (by simp; omega), bt_nat k1]
      simp only [bind_ok]
      have h21 := f21_eq s[i] [32, 9, 10, 13] (by decide)
      rw [h21]
      simp only [bind_ok]
      rw [b59, List.drop_eq_getElem_cons k1]
      have e40 : ((s[i].toNat : Int) == 40) = (s[i] == 40) := bEq s[i] 40
      have e41 : ((s[i].toNat : Int) == 41) = (s[i] == 41) := bEq s[i] 41
      have e39 : ((s[i].toNat : Int) == 39) = (s[i] == 39) := bEq s[i] 39
      rw [e40, e41, e39]
      match k with
      | 0 => omega
      | k + 1 =>
        have next : ∀ out2 : List Token, out2.length ≤ i + 1 → f12_l0 s out2 (IntKind.i64.wrap ((i : Int) + 1)) = some (ouT out2 (tokS (s.drop (i + 1)) ((i : Int) + 1))) := fun out2 h2 => by
          rw [w64 (by omega) (by omega), show ((i : Int) + 1) = ((i + 1 : Nat) : Int) by omega]
          exact f12_l0_eq s ls k (i + 1) out2 (by omega) (by omega) h2
        by_cases hb : List.contains [32, 9, 10, 13] s[i] = true
        · have hb' : s[i] = 32 ∨ s[i] = 9 ∨ s[i] = 10 ∨ s[i] = 13 := by simpa using hb
          have hc : s[i] ≠ 59 ∧ isSig s[i] = false ∧ isDelim s[i] = true := by rcases hb' with h | h | h | h <;> (rw [h]; decide)
          rw [if_pos hb, next out (by omega), tok_blank _ hc.1 hc.2.1 hc.2.2]
        · rw [if_neg hb]
          by_cases h59 : s[i] = 59
          · rw [if_pos (by simpa using h59), f12_l1_eq s (by omega) (s.length - i) i (by omega)]
            simp only [bind_ok]
            have hle := (List.takeWhile_prefix (l := s.drop i) nl).length_le
            rw [List.length_drop] at hle
            have h1 : ((s.drop i).takeWhile nl) = 59 :: (s.drop (i + 1)).takeWhile nl := by rw [List.drop_eq_getElem_cons k1, h59]; rfl
            have h2 : s.drop (i + ((s.drop i).takeWhile nl).length) = (s.drop (i + 1)).dropWhile nl := by
              rw [← List.drop_drop, drop_tw, List.drop_eq_getElem_cons k1, h59]; rfl
            rw [f12_l0_eq s ls k (i + ((s.drop i).takeWhile nl).length) out (by rw [h1, List.length_cons] at hle ⊢; omega) (by omega) (by omega), h2, h59, tok_rem]
            congr 3; rw [h1, List.length_cons]; omega
          · rw [if_neg (by simpa using h59)]
            have sig : ∀ (c : UInt8) (z : Int), s[i] = c → isSig c = true → sgn c = z → (ap 88 out [(⟨z, [c], (⟨false, [], []⟩ : Ratio), i⟩ : Token)] >>= fun a10 => f12_l0 s a10 (IntKind.i64.wrap ((i : Int) + 1))) = some (ouT out (tokS (s[i] :: s.drop (i + 1)) i)) := fun c z hc hs hz => by
              rw [apN (by simp; omega)]
              simp only [bind_ok]
              rw [next _ (by simp; omega), hc, tok_sig _ hs, ← ouT_cons, hz]; rfl
            by_cases h40 : s[i] = 40
            · rw [if_pos (by simpa using h40)]; exact sig 40 1 h40 (by decide) rfl
            rw [if_neg (by simpa using h40)]
            by_cases h41 : s[i] = 41
            · rw [if_pos (by simpa using h41)]; exact sig 41 2 h41 (by decide) rfl
            rw [if_neg (by simpa using h41)]
            by_cases h39 : s[i] = 39
            · rw [if_pos (by simpa using h39)]; exact sig 39 3 h39 (by decide) rfl
            rw [if_neg (by simpa using h39)]
            have hd : isDelim s[i] = false := by
              unfold isDelim delims
              simp only [List.contains_eq_mem, List.mem_cons, List.not_mem_nil, or_false, decide_eq_true_eq, not_or] at hb
              simp [hb, h59, h40, h41, h39]
            have hnd : notD s[i] = true := by simp [notD, hd]
            have htw : (s.drop i).takeWhile notD = s[i] :: (s.drop (i + 1)).takeWhile notD := by rw [List.drop_eq_getElem_cons k1, List.takeWhile_cons, if_pos hnd]
            have hle := (List.takeWhile_prefix (l := s.drop i) notD).length_le
            rw [List.length_drop] at hle
            rw [f12_l2_eq s (by omega) (s.length - i) i (by omega)]
            simp only [bind_ok]
            have hcut : (s.take (i + ((s.drop i).takeWhile notD).length)).drop i = (s.drop i).takeWhile notD := by
              rw [List.drop_take, show i + ((s.drop i).takeWhile notD).length - i = ((s.drop i).takeWhile notD).length by omega]; exact take_tw notD _
            rw [cutN (m := i) (n := i + ((s.drop i).takeWhile notD).length) rfl rfl (by omega) (by omega), hcut]
            simp only [bind_ok]
            rw [(kind_eq ((s.drop i).takeWhile notD) (by omega)).1]
            simp only [bind_ok]
            rw [tok_word _ hd, ← htw]
            by_cases hk0 : (kindS ((s.drop i).takeWhile notD)).2.2 = 0
            · rw [if_neg (by simp [hk0]), if_pos hk0, apN (by simp; omega)]
              simp only [bind_ok]
              have h2 : s.drop (i + ((s.drop i).takeWhile notD).length) = (s.drop (i + 1)).dropWhile notD := by
                rw [← List.drop_drop, drop_tw, List.drop_eq_getElem_cons k1, List.dropWhile_cons, if_pos hnd]
              have hlw : ((s.drop i).takeWhile notD).length = ((s.drop (i + 1)).takeWhile notD).length + 1 := by rw [htw, List.length_cons]
              rw [f12_l0_eq s ls k (i + ((s.drop i).takeWhile notD).length) _ (by omega) (by omega) (by simp; omega), h2, ouT_cons]
              congr 4; omega
            · rw [if_pos (by simpa using hk0), if_neg hk0]; rfl
theorem f12_eq (s : Str) : f12 s = some (if s.length ≤ 4096 then finT [] (tokS s 0) else ([], 0, 3)) := by
  unfold f12
  by_cases h : s.length ≤ 4096
  · rw [if_neg (by simp; omega), if_pos h]
    have := f12_l0_eq s h s.length 0 [] (by omega) (by omega) (by simp)
    rw [show ((0 : Nat) : Int) = 0 from rfl, List.drop_zero] at this
    rw [this]
    simp only [bind_ok]
    cases tokS s 0 <;> simp [ouT, finT]
  · rw [if_pos (by simp; omega), if_neg h]
end Go.Bx.Scan

namespace Go.Bx.Scan
set_option linter.unusedVariables false
set_option linter.unusedSimpArgs false
set_option linter.unusedSectionVars false
open Go.Proofs
set_option linter.unusedSimpArgs false
set_option linter.unusedVariables false
set_option maxRecDepth 10000
set_option maxHeartbeats 4000000
/-- sibyl/sibyllaw04.ScanTokens -/
def f3 (text : Str) : Option (Bool) :=
 f10 >>= fun r1 =>
 if (!r1) = true then
  (some false)
 else
  f11 text >>= fun r3 =>
  f12 text >>= fun r4 =>
  (f13 r3.1 r4.1 >>= fun r6 =>
  if r6 = true then
   (if (r3.2.1 == r4.2.1) = true then
    (some (r3.2.2 == r4.2.2))
   else
    some false)
  else
   some false : Option (Bool)) >>= fun o5 =>
  some o5
noncomputable def f3_ci : CI := (CI.or 10 f10_tbl (CI.or 11 f11_tbl (CI.or 12 f12_tbl (CI.or 13 f13_tbl (fun _ _ _ => none)))))
theorem f3_ci_ok (base : Nat) : CIOK E base f3_ci := (or_ok f10_tbl_ok (or_ok f11_tbl_ok (or_ok f12_tbl_ok (or_ok f13_tbl_ok no_ok))))
theorem f3_res : Try.f3.results = #[.tmp 2] := rfl
theorem f3_rt : Try.f3.resultTypes = #[4] := rfl
theorem f3_ok (text : Str) (r : Bool) (h : f3 text = some r) : PureOK E 3 [.v (.string (mkS text))] (.v (.bool r)) := by
 unfold f3 at h
 refine pof (fn := Try.f3) (nt := 36) Try.func3 rfl rfl rfl rfl (fun _ => rfl) (fun base c00 hU => ?_)
 refine Wk.wp (s2 := ⟨.v (.string (mkS text)) :: jj 35 [], St [], none, 0⟩) ?_ ?_
 ·exact Wk.weak hU [] _ (by decide) .nil wvS
 refine rs hU (f3_ci_ok _) rgI <| Wp.seq <| Wp.seq <| ?_
 obtain ⟨r1, hr1, h⟩ := bind_some h
 have hr1c := fun σ => show f3_ci 10 _ σ = _ from f10_call hr1 σ
 have fx := hr1c
 refine rq hU (f3_ci_ok _) rgIF <| thenN <| ?_
 refine Wp.cond hU (t := !r1) rfl (fun hc2 => ?_) (fun hc2 => ?_)
 ·rw [if_t hc2] at h
  refine Wp.seq <| ?_
  have fx := hc2
  refine rq hU (f3_ci_ok _) rgIF <| thenN <| Wp.ret <| thenR <| ?_
  obtain rfl := sj h
  refine ⟨.inl rfl, ?_⟩
  refine Rt.of <| ?_
  have fx := i2 f3_res f3_rt
  exact rtI
 ·rw [if_f hc2] at h
  refine Wp.skip <| thenN <| Wp.seq <| ?_
  obtain ⟨r3, hr3, h⟩ := bind_some h
  have hr3c := fun σ => show f3_ci 11 _ σ = _ from f11_call hr3 σ
  have fx := i2 hr3c hc2
  refine rq hU (f3_ci_ok _) rgIF <| thenN <| Wp.seq <| ?_
  obtain ⟨r4, hr4, h⟩ := bind_some h
  have hr4c := fun σ => show f3_ci 12 _ σ = _ from f12_call hr4 σ
  have fx := i2 hr4c hc2
  refine rq hU (f3_ci_ok _) rgIF <| thenN <| ?_
  obtain ⟨o5, ho5, h⟩ := bind_some h
  refine Wp.seq1 (JP := (fun ex s1 => ex = .nrm ∧ Wk base c00 nilStore s1 ⟨jj 2 (.v (.bool o5) :: jj 33 []), St [], none, 0⟩)) ?_ (fun ex s1 hp => ?_)
  ·replace h := ho5
   obtain ⟨r6, hr6, h⟩ := bind_some h
   have hr6c := fun σ => show f3_ci 13 _ σ = _ from f13_call hr6 σ
   rcases Bool.eq_false_or_eq_true (r6) with hg5 | hg5
   ·rw [if_t hg5] at h
    rcases Bool.eq_false_or_eq_true (r3.2.1 == r4.2.1) with hg6 | hg6
    ·rw [if_t hg6] at h
     have fx := i4 hr6c hc2 hg5 hg6
     refine rq hU (f3_ci_ok _) rgIF <| ?_
     obtain rfl := sj h
     refine ⟨rfl, ?_⟩
     exact Wk.weak hU [] _ (by decide) .nil wvI
    ·rw [if_f hg6] at h
     have fx := i4 hr6c hc2 hg5 hg6
     refine rq hU (f3_ci_ok _) rgIF <| ?_
     obtain rfl := sj h
     refine ⟨rfl, ?_⟩
     exact Wk.weak hU [] _ (by decide) .nil wvI
   ·rw [if_f hg5] at h
    have fx := i3 hr6c hc2 hg5
    refine rq hU (f3_ci_ok _) rgIF <| ?_
    obtain rfl := sj h
    refine ⟨rfl, ?_⟩
    exact Wk.weak hU [] _ (by decide) .nil wvI
  ·obtain ⟨rfl, hp⟩ := hp
   refine thenN (hp.wp ?_)
   refine Wp.ret <| ?_
   obtain rfl := sj h
   refine ⟨.inl rfl, ?_⟩
   refine Rt.of <| ?_
   have fx := i2 f3_res f3_rt
   exact rtI
noncomputable def f3_tbl : CI := tbl 3 (fun p : Str => [.v (.string (mkS p))]) (fun p => (f3 p).map fun r => .v (.bool r))
theorem f3_tbl_ok {base : Nat} : CIOK E base f3_tbl := tbl_okM fun p q h => f3_ok p q h
theorem f3_call {text : Str} {r : Bool} (h : f3 text = some r) (σ : Store) : f3_tbl 3 [.v (.string (mkS text))] σ = some (.v (.bool r), σ, none) :=
 tbl_eq (x := (text)) (fun x y e => by
  exact av_str (List.cons.inj e).1) (by simp [h]) σ
end Go.Bx.Scan

/- Twins that recur on a number. (Own text.) -/
namespace Go.Bx.Scan
set_option linter.unusedVariables false
set_option linter.unusedSimpArgs false
set_option linter.unusedSectionVars false
set_option linter.unusedVariables false
set_option maxRecDepth 10000
def Le {α : Type} (x y : Option α) : Prop := ∀ r, x = some r → y = some r
theorem Le.refl {α : Type} (x : Option α) : Le x x := fun _ h => h
theorem Le.none {α : Type} (y : Option α) : Le none y := fun _ h => by cases h
theorem Le.bind {α β : Type} {x y : Option α} {f g : α → Option β} (h : Le x y) (k : ∀ a, Le (f a) (g a)) : Le (x >>= f) (y >>= g) := fun r hr => by
  cases x with
  | none => cases hr
  | some a => rw [h a rfl]; exact k a r hr
theorem Le.ite {α : Type} {p : Prop} [Decidable p] {a b c d : Option α} (h : Le a c) (k : Le b d) : Le (if p then a else b) (if p then c else d) := by split <;> assumption
theorem Le.ou {α β γ : Type} (o : Ou α β) {f h : α → Option γ} {g k : β → Option γ} (a : ∀ r, Le (f r) (h r)) (b : ∀ r, Le (g r) (k r)) : Le (match o with | .ret r => f r | .nxt w => g w) (match o with | .ret r => h r | .nxt w => k w) := by cases o; exact a _; exact b _
def g80 (n__ : Nat) (x : Int) (y : Int) (carry : Int) : Option (Int × Int) :=
  some (IntKind.u64.wrap ((IntKind.u64.wrap ((IntKind.u64.wrap x) + (IntKind.u64.wrap y))) + (IntKind.u64.wrap carry))) >>= fun x1 =>
  some (IntKind.u32.wrap x1, IntKind.u32.wrap (shrI .u64 x1 32))
theorem g80_le (n__ : Nat) (x : Int) (y : Int) (carry : Int) : Le (g80 n__ x y carry) (f80 x y carry) := by
  unfold f80 g80
  repeat' (first | exact Le.refl _ | refine Le.bind ?_ (fun _ => ?_) | refine Le.ite ?_ ?_ | (rename_i o__; cases o__))
def g72_l0 (fuel__ : Nat) (a : List Int) (n : Int) : Option (Int) := match fuel__ with
  | 0 => none
  | n__ + 1 =>
    if (decide (n > 0)) = true then
      (rd a (IntKind.i64.wrap (n - 1)) >>= fun e2 =>
      if (e2 == 0) = true then
        (g72_l0 n__ a (IntKind.i64.wrap (n - 1)))
      else
        some n)
    else
      some n
theorem g72_l0_le : ∀ (n__ : Nat) (a : List Int) (n : Int), Le (g72_l0 n__ a n) (f72_l0 a n)
  | 0, _, _ => Le.none _
  | n__ + 1, a, n => by
    rw [f72_l0]; unfold g72_l0
    repeat' (first | exact Le.refl _ | exact g72_l0_le _ _ _ | refine Le.bind ?_ (fun _ => ?_) | refine Le.ite ?_ ?_ | (rename_i o__; cases o__))
def g72 (n__ : Nat) (a : List Int) : Option (List Int) :=
  g72_l0 n__ a (a.length : Int) >>= fun o1 =>
  cutL a 0 o1 >>= fun p2 =>
  some p2
theorem g72_le (n__ : Nat) (a : List Int) : Le (g72 n__ a) (f72 a) := by
  unfold f72 g72
  repeat' (first | exact Le.refl _ | exact g72_l0_le _ _ _ | refine Le.bind ?_ (fun _ => ?_) | refine Le.ite ?_ ?_ | (rename_i o__; cases o__))
def g73_l0 (fuel__ : Nat) (r1 : List Int) (r2 : List Int) (i : Int) : Option (Ou Int Unit) := match fuel__ with
  | 0 => none
  | n__ + 1 =>
    if (decide (i ≥ 0)) = true then
      (rd r1 i >>= fun e8 =>
      rd r2 i >>= fun e9 =>
      if (e8 != e9) = true then
        (rd r1 i >>= fun e11 =>
        rd r2 i >>= fun e12 =>
        if (decide (e11 < e12)) = true then
          (some (.ret (-1)))
        else
          some (.ret 1))
      else
        g73_l0 n__ r1 r2 (IntKind.i64.wrap (i - 1)))
    else
      some (.nxt ())
theorem g73_l0_le : ∀ (n__ : Nat) (r1 : List Int) (r2 : List Int) (i : Int), Le (g73_l0 n__ r1 r2 i) (f73_l0 r1 r2 i)
  | 0, _, _, _ => Le.none _
  | n__ + 1, r1, r2, i => by
    rw [f73_l0]; unfold g73_l0
    repeat' (first | exact Le.refl _ | exact g73_l0_le _ _ _ _ | refine Le.bind ?_ (fun _ => ?_) | refine Le.ite ?_ ?_ | (rename_i o__; cases o__))
def g73 (n__ : Nat) (a : List Int) (b : List Int) : Option (Int) :=
  g72 n__ a >>= fun r1 =>
  g72 n__ b >>= fun r2 =>
  if ((r1.length : Int) != (r2.length : Int)) = true then
    (if (decide ((r1.length : Int) < (r2.length : Int))) = true then
      (some (-1))
    else
      some 1)
  else
    some (IntKind.i64.wrap ((r1.length : Int) - 1)) >>= fun x5 =>
    g73_l0 n__ r1 r2 x5 >>= fun o6 => match o6 with
    | .ret r0 => some r0
    | .nxt wo6 =>
      some 0
theorem g73_le (n__ : Nat) (a : List Int) (b : List Int) : Le (g73 n__ a b) (f73 a b) := by
  unfold f73 g73
  repeat' (first | exact Le.refl _ | exact g72_le _ _ | exact g73_l0_le _ _ _ _ | refine Le.bind ?_ (fun _ => ?_) | refine Le.ite ?_ ?_ | (rename_i o__; cases o__))
def g74_l0 (fuel__ : Nat) (a : List Int) (w : Int) (out : List Int) (r_ : Int) (i : Int) : Option ((List Int) × Int) := match fuel__ with
  | 0 => none
  | n__ + 1 =>
    if (decide (i ≥ 0)) = true then
      (rd a i >>= fun e5 =>
      some (orI .u64 (shlI .u64 r_ 32) (IntKind.u64.wrap e5)) >>= fun x6 =>
      nz (IntKind.u64.wrap w) >>= fun u7 =>
      rd out i >>= fun e8 =>
      nz (IntKind.u64.wrap w) >>= fun u9 =>
      g74_l0 n__ a w (setL out i (IntKind.u32.wrap (quoI .u64 x6 (IntKind.u64.wrap w)))) (x6.tmod (IntKind.u64.wrap w)) (IntKind.i64.wrap (i - 1)))
    else
      some (out, r_)
theorem g74_l0_le : ∀ (n__ : Nat) (a : List Int) (w : Int) (out : List Int) (r_ : Int) (i : Int), Le (g74_l0 n__ a w out r_ i) (f74_l0 a w out r_ i)
  | 0, _, _, _, _, _ => Le.none _
  | n__ + 1, a, w, out, r_, i => by
    rw [f74_l0]; unfold g74_l0
    repeat' (first | exact Le.refl _ | exact g74_l0_le _ _ _ _ _ _ | refine Le.bind ?_ (fun _ => ?_) | refine Le.ite ?_ ?_ | (rename_i o__; cases o__))
def g74 (n__ : Nat) (a : List Int) (w : Int) : Option ((List Int) × Int) :=
  mk 4 (a.length : Int) 0 >>= fun m1 =>
  some (IntKind.i64.wrap ((a.length : Int) - 1)) >>= fun x2 =>
  g74_l0 n__ a w m1 0 x2 >>= fun o3 =>
  g72 n__ o3.1 >>= fun r10 =>
  some (r10, IntKind.u32.wrap o3.2)
theorem g74_le (n__ : Nat) (a : List Int) (w : Int) : Le (g74 n__ a w) (f74 a w) := by
  unfold f74 g74
  repeat' (first | exact Le.refl _ | exact g72_le _ _ | exact g74_l0_le _ _ _ _ _ _ | refine Le.bind ?_ (fun _ => ?_) | refine Le.ite ?_ ?_ | (rename_i o__; cases o__))
def g62_l0 (fuel__ : Nat) (a : List Int) (n : Int) : Option (Int) := match fuel__ with
  | 0 => none
  | n__ + 1 =>
    if (decide (n > 0)) = true then
      (rd a (IntKind.i64.wrap (n - 1)) >>= fun e2 =>
      if (e2 == 0) = true then
        (g62_l0 n__ a (IntKind.i64.wrap (n - 1)))
      else
        some n)
    else
      some n
theorem g62_l0_le : ∀ (n__ : Nat) (a : List Int) (n : Int), Le (g62_l0 n__ a n) (f62_l0 a n)
  | 0, _, _ => Le.none _
  | n__ + 1, a, n => by
    rw [f62_l0]; unfold g62_l0
    repeat' (first | exact Le.refl _ | exact g62_l0_le _ _ _ | refine Le.bind ?_ (fun _ => ?_) | refine Le.ite ?_ ?_ | (rename_i o__; cases o__))
def g62 (n__ : Nat) (a : List Int) : Option (List Int) :=
  g62_l0 n__ a (a.length : Int) >>= fun o1 =>
  cutL a 0 o1 >>= fun p2 =>
  ap 4 [] p2 >>= fun a3 =>
  some a3
theorem g62_le (n__ : Nat) (a : List Int) : Le (g62 n__ a) (f62 a) := by
  unfold f62 g62
  repeat' (first | exact Le.refl _ | exact g62_l0_le _ _ _ | refine Le.bind ?_ (fun _ => ?_) | refine Le.ite ?_ ?_ | (rename_i o__; cases o__))
def g64 (n__ : Nat) (a : List Int) : Option (Bool) :=
  (if ((a.length : Int) == 1) = true then
    (rd a 0 >>= fun e2 =>
    some (e2 == 1))
  else
    some false : Option (Bool)) >>= fun o1 =>
  some o1
theorem g64_le (n__ : Nat) (a : List Int) : Le (g64 n__ a) (f64 a) := by
  unfold f64 g64
  repeat' (first | exact Le.refl _ | refine Le.bind ?_ (fun _ => ?_) | refine Le.ite ?_ ?_ | (rename_i o__; cases o__))
def g76_l0 (fuel__ : Nat) (n : Int) (r1 : List Int) (out : List Int) (v : Int) : Option ((List Int)) := match fuel__ with
  | 0 => none
  | n__ + 1 =>
    if (decide (v < (r1.length : Int))) = true then
      (rd r1 v >>= fun e6 =>
      nn (IntKind.u64.wrap (n.tmod 32)) >>= fun u7 =>
      some (shlI .u64 (IntKind.u64.wrap e6) (IntKind.u64.wrap (n.tmod 32))) >>= fun x8 =>
      rd out (IntKind.i64.wrap ((quoI .i64 n 32) + v)) >>= fun e9 =>
      rd (setL out (IntKind.i64.wrap ((quoI .i64 n 32) + v)) (orI .u32 e9 (IntKind.u32.wrap x8))) (IntKind.i64.wrap ((IntKind.i64.wrap ((quoI .i64 n 32) + v)) + 1)) >>= fun e10 =>
      g76_l0 n__ n r1 (setL (setL out (IntKind.i64.wrap ((quoI .i64 n 32) + v)) (orI .u32 e9 (IntKind.u32.wrap x8))) (IntKind.i64.wrap ((IntKind.i64.wrap ((quoI .i64 n 32) + v)) + 1)) (IntKind.u32.wrap (shrI .u64 x8 32))) (IntKind.i64.wrap (v + 1)))
    else
      some out
theorem g76_l0_le : ∀ (n__ : Nat) (n : Int) (r1 : List Int) (out : List Int) (v : Int), Le (g76_l0 n__ n r1 out v) (f76_l0 n r1 out v)
  | 0, _, _, _, _ => Le.none _
  | n__ + 1, n, r1, out, v => by
    rw [f76_l0]; unfold g76_l0
    repeat' (first | exact Le.refl _ | exact g76_l0_le _ _ _ _ _ | refine Le.bind ?_ (fun _ => ?_) | refine Le.ite ?_ ?_ | (rename_i o__; cases o__))
def g76 (n__ : Nat) (a : List Int) (n : Int) : Option (List Int) :=
  g72 n__ a >>= fun r1 =>
  if ((r1.length : Int) == 0) = true then
    (some [])
  else
    mk 4 (IntKind.i64.wrap ((IntKind.i64.wrap ((quoI .i64 n 32) + (r1.length : Int))) + 1)) 0 >>= fun m3 =>
    g76_l0 n__ n r1 m3 0 >>= fun o4 =>
    g72 n__ o4 >>= fun r11 =>
    some r11
theorem g76_le (n__ : Nat) (a : List Int) (n : Int) : Le (g76 n__ a n) (f76 a n) := by
  unfold f76 g76
  repeat' (first | exact Le.refl _ | exact g72_le _ _ | exact g76_l0_le _ _ _ _ _ | refine Le.bind ?_ (fun _ => ?_) | refine Le.ite ?_ ?_ | (rename_i o__; cases o__))
def g78_l0 (fuel__ : Nat) (r1 : List Int) (m3 : List Int) (k_ : Int) (s : Int) (out : List Int) (v : Int) : Option ((List Int)) := match fuel__ with
  | 0 => none
  | n__ + 1 =>
    if (decide (v < (m3.length : Int))) = true then
      ((rd r1 (IntKind.i64.wrap (k_ + v)) >>= fun e7 =>
      if (decide ((IntKind.i64.wrap ((IntKind.i64.wrap (k_ + v)) + 1)) < (r1.length : Int))) = true then
        (rd r1 (IntKind.i64.wrap ((IntKind.i64.wrap (k_ + v)) + 1)) >>= fun e9 =>
        some (orI .u64 (IntKind.u64.wrap e7) (shlI .u64 (IntKind.u64.wrap e9) 32)) >>= fun x10 =>
        nn s >>= fun u11 =>
        rd out v >>= fun e12 =>
        some (setL out v (IntKind.u32.wrap (shrI .u64 x10 s))))
      else
        nn s >>= fun u13 =>
        rd out v >>= fun e14 =>
        some (setL out v (IntKind.u32.wrap (shrI .u64 (IntKind.u64.wrap e7) s))) : Option ((List Int))) >>= fun o6 =>
      g78_l0 n__ r1 m3 k_ s o6 (IntKind.i64.wrap (v + 1)))
    else
      some out
theorem g78_l0_le : ∀ (n__ : Nat) (r1 : List Int) (m3 : List Int) (k_ : Int) (s : Int) (out : List Int) (v : Int), Le (g78_l0 n__ r1 m3 k_ s out v) (f78_l0 r1 m3 k_ s out v)
  | 0, _, _, _, _, _, _ => Le.none _
  | n__ + 1, r1, m3, k_, s, out, v => by
    rw [f78_l0]; unfold g78_l0
    repeat' (first | exact Le.refl _ | exact g78_l0_le _ _ _ _ _ _ _ | refine Le.bind ?_ (fun _ => ?_) | refine Le.ite ?_ ?_ | (rename_i o__; cases o__))
def g78 (n__ : Nat) (a : List Int) (n : Int) : Option (List Int) :=
  g72 n__ a >>= fun r1 =>
  if (decide ((quoI .i64 n 32) ≥ (r1.length : Int))) = true then
    (some [])
  else
    mk 4 (IntKind.i64.wrap ((r1.length : Int) - (quoI .i64 n 32))) 0 >>= fun m3 =>
    g78_l0 n__ r1 m3 (quoI .i64 n 32) (IntKind.u64.wrap (n.tmod 32)) m3 0 >>= fun o4 =>
    g72 n__ o4 >>= fun r15 =>
    some r15
theorem g78_le (n__ : Nat) (a : List Int) (n : Int) : Le (g78 n__ a n) (f78 a n) := by
  unfold f78 g78
  repeat' (first | exact Le.refl _ | exact g72_le _ _ | exact g78_l0_le _ _ _ _ _ _ _ | refine Le.bind ?_ (fun _ => ?_) | refine Le.ite ?_ ?_ | (rename_i o__; cases o__))
def g77_l0 (fuel__ : Nat) (u : List Int) (u_lo : Nat) (u_n : Nat) (v : List Int) (g : Int) (r_ : Int) : Option (Int) := match fuel__ with
  | 0 => none
  | n__ + 1 =>
    if (decide (g ≥ 4294967296)) = true then
      (rd v (IntKind.i64.wrap ((v.length : Int) - 1)) >>= fun e8 =>
      some (IntKind.u64.wrap (r_ + (IntKind.u64.wrap e8))) >>= fun x9 =>
      if (decide (x9 ≥ 4294967296)) = true then
        (some (IntKind.u64.wrap (g - 1)))
      else
        g77_l0 n__ u u_lo u_n v (IntKind.u64.wrap (g - 1)) x9)
    else
      rd v (IntKind.i64.wrap ((v.length : Int) - 2)) >>= fun e8 =>
      rdo u u_lo u_n (IntKind.i64.wrap ((v.length : Int) - 2)) >>= fun e9 =>
      if (decide ((IntKind.u64.wrap (g * (IntKind.u64.wrap e8))) > (orI .u64 (shlI .u64 r_ 32) (IntKind.u64.wrap e9)))) = true then
        (rd v (IntKind.i64.wrap ((v.length : Int) - 1)) >>= fun e11 =>
        some (IntKind.u64.wrap (r_ + (IntKind.u64.wrap e11))) >>= fun x12 =>
        if (decide (x12 ≥ 4294967296)) = true then
          (some (IntKind.u64.wrap (g - 1)))
        else
          g77_l0 n__ u u_lo u_n v (IntKind.u64.wrap (g - 1)) x12)
      else
        some g
theorem g77_l0_le : ∀ (n__ : Nat) (u : List Int) (u_lo : Nat) (u_n : Nat) (v : List Int) (g : Int) (r_ : Int), Le (g77_l0 n__ u u_lo u_n v g r_) (f77_l0 u u_lo u_n v g r_)
  | 0, _, _, _, _, _, _ => Le.none _
  | n__ + 1, u, u_lo, u_n, v, g, r_ => by
    rw [f77_l0]; unfold g77_l0
    repeat' (first | exact Le.refl _ | exact g77_l0_le _ _ _ _ _ _ _ | refine Le.bind ?_ (fun _ => ?_) | refine Le.ite ?_ ?_ | (rename_i o__; cases o__))
def g77_l1 (fuel__ : Nat) (u_lo : Nat) (u_n : Nat) (v : List Int) (o7 : Int) (l0 : List Int) (borrow : Int) (carry : Int) (v_1 : Int) : Option ((List Int) × Int × Int) := match fuel__ with
  | 0 => none
  | n__ + 1 =>
    if (decide (v_1 < (v.length : Int))) = true then
      (rd v v_1 >>= fun e16 =>
      some (IntKind.u64.wrap ((IntKind.u64.wrap (o7 * (IntKind.u64.wrap e16))) + carry)) >>= fun x17 =>
      rdo l0 u_lo u_n v_1 >>= fun e18 =>
      some (IntKind.u64.wrap ((IntKind.u64.wrap ((IntKind.u64.wrap e18) - (IntKind.u64.wrap (IntKind.u32.wrap x17)))) - borrow)) >>= fun x19 =>
      rdo l0 u_lo u_n v_1 >>= fun e20 =>
      g77_l1 n__ u_lo u_n v o7 (setO l0 u_lo v_1 (IntKind.u32.wrap x19)) (shrI .u64 x19 63) (shrI .u64 x17 32) (IntKind.i64.wrap (v_1 + 1)))
    else
      some (l0, borrow, carry)
theorem g77_l1_le : ∀ (n__ : Nat) (u_lo : Nat) (u_n : Nat) (v : List Int) (o7 : Int) (l0 : List Int) (borrow : Int) (carry : Int) (v_1 : Int), Le (g77_l1 n__ u_lo u_n v o7 l0 borrow carry v_1) (f77_l1 u_lo u_n v o7 l0 borrow carry v_1)
  | 0, _, _, _, _, _, _, _, _ => Le.none _
  | n__ + 1, u_lo, u_n, v, o7, l0, borrow, carry, v_1 => by
    rw [f77_l1]; unfold g77_l1
    repeat' (first | exact Le.refl _ | exact g77_l1_le _ _ _ _ _ _ _ _ _ | refine Le.bind ?_ (fun _ => ?_) | refine Le.ite ?_ ?_ | (rename_i o__; cases o__))
def g77_l2 (fuel__ : Nat) (u_lo : Nat) (u_n : Nat) (v : List Int) (l0 : List Int) (c : Int) (v_1 : Int) : Option ((List Int) × Int) := match fuel__ with
  | 0 => none
  | n__ + 1 =>
    if (decide (v_1 < (v.length : Int))) = true then
      (rdo l0 u_lo u_n v_1 >>= fun e27 =>
      rd v v_1 >>= fun e28 =>
      g80 n__ e27 e28 c >>= fun r29 =>
      g77_l2 n__ u_lo u_n v (setO l0 u_lo v_1 r29.1) r29.2 (IntKind.i64.wrap (v_1 + 1)))
    else
      some (l0, c)
theorem g77_l2_le : ∀ (n__ : Nat) (u_lo : Nat) (u_n : Nat) (v : List Int) (l0 : List Int) (c : Int) (v_1 : Int), Le (g77_l2 n__ u_lo u_n v l0 c v_1) (f77_l2 u_lo u_n v l0 c v_1)
  | 0, _, _, _, _, _, _ => Le.none _
  | n__ + 1, u_lo, u_n, v, l0, c, v_1 => by
    rw [f77_l2]; unfold g77_l2
    repeat' (first | exact Le.refl _ | exact g80_le _ _ _ _ | exact g77_l2_le _ _ _ _ _ _ _ | refine Le.bind ?_ (fun _ => ?_) | refine Le.ite ?_ ?_ | (rename_i o__; cases o__))
def g77 (n__ : Nat) (u : List Int) (u_lo : Nat) (u_n : Nat) (v : List Int) : Option (Int × (List Int)) :=
  rdo u u_lo u_n (v.length : Int) >>= fun e1 =>
  rdo u u_lo u_n (IntKind.i64.wrap ((v.length : Int) - 1)) >>= fun e2 =>
  some (orI .u64 (shlI .u64 (IntKind.u64.wrap e1) 32) (IntKind.u64.wrap e2)) >>= fun x3 =>
  rd v (IntKind.i64.wrap ((v.length : Int) - 1)) >>= fun e4 =>
  nz (IntKind.u64.wrap e4) >>= fun u5 =>
  nz (IntKind.u64.wrap e4) >>= fun u6 =>
  g77_l0 n__ u u_lo u_n v (quoI .u64 x3 (IntKind.u64.wrap e4)) (x3.tmod (IntKind.u64.wrap e4)) >>= fun o7 =>
  g77_l1 n__ u_lo u_n v o7 u 0 0 0 >>= fun o14 =>
  rdo o14.1 u_lo u_n (v.length : Int) >>= fun e21 =>
  some (IntKind.u64.wrap ((IntKind.u64.wrap ((IntKind.u64.wrap e21) - o14.2.2)) - o14.2.1)) >>= fun x22 =>
  rdo o14.1 u_lo u_n (v.length : Int) >>= fun e23 =>
  if ((shrI .u64 x22 63) == 0) = true then
    (some (IntKind.u32.wrap o7, setO o14.1 u_lo (v.length : Int) (IntKind.u32.wrap x22)))
  else
    g77_l2 n__ u_lo u_n v (setO o14.1 u_lo (v.length : Int) (IntKind.u32.wrap x22)) 0 0 >>= fun o25 =>
    rdo o25.1 u_lo u_n (v.length : Int) >>= fun e30 =>
    some (IntKind.u32.wrap (IntKind.u64.wrap (o7 - 1))) >>= fun x31 =>
    some (x31, setO o25.1 u_lo (v.length : Int) (IntKind.u32.wrap (e30 + o25.2)))
theorem g77_le (n__ : Nat) (u : List Int) (u_lo : Nat) (u_n : Nat) (v : List Int) : Le (g77 n__ u u_lo u_n v) (f77 u u_lo u_n v) := by
  unfold f77 g77
  repeat' (first | exact Le.refl _ | exact g77_l0_le _ _ _ _ _ _ _ | exact g77_l1_le _ _ _ _ _ _ _ _ _ | exact g77_l2_le _ _ _ _ _ _ _ | refine Le.bind ?_ (fun _ => ?_) | refine Le.ite ?_ ?_ | (rename_i o__; cases o__))
def g65_l0 (fuel__ : Nat) (r12 : List Int) (u : List Int) (q : List Int) (j : Int) : Option ((List Int) × (List Int)) := match fuel__ with
  | 0 => none
  | n__ + 1 =>
    if (decide (j ≥ 0)) = true then
      (cutL u j (IntKind.i64.wrap ((IntKind.i64.wrap (j + (r12.length : Int))) + 1)) >>= fun p20 =>
      g77 n__ u ((j).toNat) ((IntKind.i64.wrap ((IntKind.i64.wrap (j + (r12.length : Int))) + 1)).toNat - (j).toNat) r12 >>= fun r21 =>
      rd q j >>= fun e22 =>
      g65_l0 n__ r12 r21.2 (setL q j r21.1) (IntKind.i64.wrap (j - 1)))
    else
      some (u, q)
theorem g65_l0_le : ∀ (n__ : Nat) (r12 : List Int) (u : List Int) (q : List Int) (j : Int), Le (g65_l0 n__ r12 u q j) (f65_l0 r12 u q j)
  | 0, _, _, _, _ => Le.none _
  | n__ + 1, r12, u, q, j => by
    rw [f65_l0]; unfold g65_l0
    repeat' (first | exact Le.refl _ | exact g77_le _ _ _ _ _ | exact g65_l0_le _ _ _ _ _ | refine Le.bind ?_ (fun _ => ?_) | refine Le.ite ?_ ?_ | (rename_i o__; cases o__))
def g65 (n__ : Nat) (a : List Int) (b : List Int) : Option ((List Int) × (List Int)) :=
  g72 n__ a >>= fun r1 =>
  g72 n__ b >>= fun r2 =>
  g73 n__ r1 r2 >>= fun r3 =>
  if (decide (r3 < 0)) = true then
    (g62 n__ r1 >>= fun r5 =>
    some ([], r5))
  else
    if ((r2.length : Int) == 1) = true then
      (rd r2 0 >>= fun e7 =>
      g74 n__ r1 e7 >>= fun r8 =>
      g72 n__ [r8.2] >>= fun r9 =>
      some (r8.1, r9))
    else
      rd r2 (IntKind.i64.wrap ((r2.length : Int) - 1)) >>= fun e10 =>
      f75 e10 >>= fun r11 =>
      g76 n__ r2 r11 >>= fun r12 =>
      mk 4 (IntKind.i64.wrap ((r1.length : Int) + 1)) 0 >>= fun m13 =>
      g76 n__ r1 r11 >>= fun r14 =>
      cpy m13 r14 >>= fun k15 =>
      mk 4 (IntKind.i64.wrap ((IntKind.i64.wrap ((r1.length : Int) - (r2.length : Int))) + 1)) 0 >>= fun m16 =>
      some (IntKind.i64.wrap ((m16.length : Int) - 1)) >>= fun x17 =>
      g65_l0 n__ r12 k15 m16 x17 >>= fun o18 =>
      g72 n__ o18.2 >>= fun r23 =>
      g78 n__ o18.1 r11 >>= fun r24 =>
      some (r23, r24)
theorem g65_le (n__ : Nat) (a : List Int) (b : List Int) : Le (g65 n__ a b) (f65 a b) := by
  unfold f65 g65
  repeat' (first | exact Le.refl _ | exact g62_le _ _ | exact g65_l0_le _ _ _ _ _ | exact g72_le _ _ | exact g73_le _ _ _ | exact g74_le _ _ _ | exact g76_le _ _ _ | exact g78_le _ _ _ | refine Le.bind ?_ (fun _ => ?_) | refine Le.ite ?_ ?_ | (rename_i o__; cases o__))
def g63_l0 (fuel__ : Nat) (a_1 : List Int) (b_1 : List Int) : Option ((List Int)) := match fuel__ with
  | 0 => none
  | n__ + 1 =>
    if (decide ((b_1.length : Int) > 0)) = true then
      (g65 n__ a_1 b_1 >>= fun r5 =>
      g63_l0 n__  b_1 r5.2)
    else
      some a_1
theorem g63_l0_le : ∀ (n__ : Nat) (a_1 : List Int) (b_1 : List Int), Le (g63_l0 n__ a_1 b_1) (f63_l0 a_1 b_1)
  | 0, _, _ => Le.none _
  | n__ + 1, a_1, b_1 => by
    rw [f63_l0]; unfold g63_l0
    repeat' (first | exact Le.refl _ | exact g65_le _ _ _ | exact g63_l0_le _ _ _ | refine Le.bind ?_ (fun _ => ?_) | refine Le.ite ?_ ?_ | (rename_i o__; cases o__))
def g63 (n__ : Nat) (a : List Int) (b : List Int) : Option (List Int) :=
  g62 n__ a >>= fun r1 =>
  g62 n__ b >>= fun r2 =>
  g63_l0 n__ r1 r2 >>= fun o3 =>
  g62 n__ o3 >>= fun r6 =>
  some r6
theorem g63_le (n__ : Nat) (a : List Int) (b : List Int) : Le (g63 n__ a b) (f63 a b) := by
  unfold f63 g63
  repeat' (first | exact Le.refl _ | exact g62_le _ _ | exact g63_l0_le _ _ _ | refine Le.bind ?_ (fun _ => ?_) | refine Le.ite ?_ ?_ | (rename_i o__; cases o__))
def g61_l0 (fuel__ : Nat) (a : List Int) (l0 : List Int) (c : Int) (v : Int) : Option ((List Int) × Int) := match fuel__ with
  | 0 => none
  | n__ + 1 =>
    if (decide (v < (a.length : Int))) = true then
      (rd l0 v >>= fun e3 =>
      some (IntKind.u64.wrap ((IntKind.u64.wrap ((IntKind.u64.wrap e3) * 10)) + c)) >>= fun x4 =>
      rd l0 v >>= fun e5 =>
      g61_l0 n__ a (setL l0 v (IntKind.u32.wrap x4)) (shrI .u64 x4 32) (IntKind.i64.wrap (v + 1)))
    else
      some (l0, c)
theorem g61_l0_le : ∀ (n__ : Nat) (a : List Int) (l0 : List Int) (c : Int) (v : Int), Le (g61_l0 n__ a l0 c v) (f61_l0 a l0 c v)
  | 0, _, _, _, _ => Le.none _
  | n__ + 1, a, l0, c, v => by
    rw [f61_l0]; unfold g61_l0
    repeat' (first | exact Le.refl _ | exact g61_l0_le _ _ _ _ _ | refine Le.bind ?_ (fun _ => ?_) | refine Le.ite ?_ ?_ | (rename_i o__; cases o__))
def g61 (n__ : Nat) (a : List Int) (d : Int) : Option (List Int) :=
  g61_l0 n__ a a (IntKind.u64.wrap d) 0 >>= fun o1 =>
  if (decide (o1.2 > 0)) = true then
    (ap 4 o1.1 [IntKind.u32.wrap o1.2] >>= fun a7 =>
    some a7)
  else
    some o1.1
theorem g61_le (n__ : Nat) (a : List Int) (d : Int) : Le (g61 n__ a d) (f61 a d) := by
  unfold f61 g61
  repeat' (first | exact Le.refl _ | exact g61_l0_le _ _ _ _ _ | refine Le.bind ?_ (fun _ => ?_) | refine Le.ite ?_ ?_ | (rename_i o__; cases o__))
def g54_l0 (fuel__ : Nat) (s : Str) (out : List Int) (i : Int) : Option ((List Int) × Int) := match fuel__ with
  | 0 => none
  | n__ + 1 =>
    if (decide (i < (s.length : Int))) = true then
      (bt s i >>= fun b2 =>
      f53 b2 >>= fun r3 =>
      if (r3 == 2) = true then
        ((bt s i >>= fun b6 =>
        if (decide ((IntKind.u8.wrap (b6 - 48)) > 0)) = true then
          (g61 n__ out (IntKind.u32.wrap (IntKind.u8.wrap (b6 - 48))) >>= fun r7 =>
          some r7)
        else
          if (decide ((out.length : Int) > 0)) = true then
            (g61 n__ out (IntKind.u32.wrap (IntKind.u8.wrap (b6 - 48))) >>= fun r8 =>
            some r8)
          else
            some out : Option ((List Int))) >>= fun o5 =>
        g54_l0 n__ s o5 (IntKind.i64.wrap (i + 1)))
      else
        some (out, i))
    else
      some (out, i)
theorem g54_l0_le : ∀ (n__ : Nat) (s : Str) (out : List Int) (i : Int), Le (g54_l0 n__ s out i) (f54_l0 s out i)
  | 0, _, _, _ => Le.none _
  | n__ + 1, s, out, i => by
    rw [f54_l0]; unfold g54_l0
    repeat' (first | exact Le.refl _ | exact g61_le _ _ _ | exact g54_l0_le _ _ _ _ | refine Le.bind ?_ (fun _ => ?_) | refine Le.ite ?_ ?_ | (rename_i o__; cases o__))
def g54 (n__ : Nat) (s : Str) (at_ : Int) : Option ((List Int) × Int × Bool) :=
  g54_l0 n__ s [] at_ >>= fun o1 =>
  some (o1.1, o1.2, decide (o1.2 > at_))
theorem g54_le (n__ : Nat) (s : Str) (at_ : Int) : Le (g54 n__ s at_) (f54 s at_) := by
  unfold f54 g54
  repeat' (first | exact Le.refl _ | exact g54_l0_le _ _ _ _ | refine Le.bind ?_ (fun _ => ?_) | refine Le.ite ?_ ?_ | (rename_i o__; cases o__))
def g55 (n__ : Nat) (neg : Bool) (num : List Int) (den : List Int) : Option (Ratio × Int) :=
  g62 n__ num >>= fun r1 =>
  g62 n__ den >>= fun r2 =>
  if ((r2.length : Int) == 0) = true then
    (some ((⟨false, [], []⟩ : Ratio), 10))
  else
    if ((r1.length : Int) == 0) = true then
      (some ((⟨false, [], [1]⟩ : Ratio), 0))
    else
      g63 n__ r1 r2 >>= fun r5 =>
      g64 n__ r5 >>= fun r6 =>
      if (!r6) = true then
        (g65 n__ r1 r5 >>= fun r8 =>
        g65 n__ r2 r5 >>= fun r9 =>
        if (decide ((r8.1.length : Int) > 16)) = true then
          (some ((⟨false, [], []⟩ : Ratio), 4))
        else
          if (decide ((r9.1.length : Int) > 16)) = true then
            (some ((⟨false, [], []⟩ : Ratio), 4))
          else
            some ((⟨neg, r8.1, r9.1⟩ : Ratio), 0))
      else
        if (decide ((r1.length : Int) > 16)) = true then
          (some ((⟨false, [], []⟩ : Ratio), 4))
        else
          if (decide ((r2.length : Int) > 16)) = true then
            (some ((⟨false, [], []⟩ : Ratio), 4))
          else
            some ((⟨neg, r1, r2⟩ : Ratio), 0)
theorem g55_le (n__ : Nat) (neg : Bool) (num : List Int) (den : List Int) : Le (g55 n__ neg num den) (f55 neg num den) := by
  unfold f55 g55
  repeat' (first | exact Le.refl _ | exact g62_le _ _ | exact g63_le _ _ _ | exact g64_le _ _ | exact g65_le _ _ _ | refine Le.bind ?_ (fun _ => ?_) | refine Le.ite ?_ ?_ | (rename_i o__; cases o__))
def g45 (n__ : Nat) (s : Str) : Option (Ratio × Int) :=
  if (decide ((s.length : Int) > 4096)) = true then
    (some ((⟨false, [], []⟩ : Ratio), 3))
  else
    (if (s != []) = true then
      (bt s 0 >>= fun b3 =>
      f53 b3 >>= fun r4 =>
      if (r4 == 1) = true then
        (bt s 0 >>= fun b6 =>
        some (b6 == 45, 1))
      else
        some (false, 0))
    else
      some (false, 0) : Option (Bool × Int)) >>= fun o2 =>
    g54 n__ s o2.2 >>= fun r3 =>
    if (!r3.2.2) = true then
      (some ((⟨false, [], []⟩ : Ratio), 21))
    else
      if (decide (r3.2.1 < (s.length : Int))) = true then
        (bt s r3.2.1 >>= fun b6 =>
        f53 b6 >>= fun r7 =>
        if (r7 != 3) = true then
          (some ((⟨false, [], []⟩ : Ratio), 21))
        else
          g54 n__ s (IntKind.i64.wrap (r3.2.1 + 1)) >>= fun r9 =>
          if (!r9.2.2) = true then
            (some ((⟨false, [], []⟩ : Ratio), 21))
          else
            if (decide (r9.2.1 < (s.length : Int))) = true then
              (some ((⟨false, [], []⟩ : Ratio), 21))
            else
              if ((r9.1.length : Int) == 0) = true then
                (some ((⟨false, [], []⟩ : Ratio), 21))
              else
                g55 n__ o2.1 r3.1 r9.1 >>= fun r11 =>
                some ((⟨r11.1.Neg, r11.1.Num, r11.1.Den⟩ : Ratio), r11.2))
      else
        g55 n__ o2.1 r3.1 [1] >>= fun r12 =>
        some ((⟨r12.1.Neg, r12.1.Num, r12.1.Den⟩ : Ratio), r12.2)
theorem g45_le (n__ : Nat) (s : Str) : Le (g45 n__ s) (f45 s) := by
  unfold f45 g45
  repeat' (first | exact Le.refl _ | exact g54_le _ _ _ | exact g55_le _ _ _ _ | refine Le.bind ?_ (fun _ => ?_) | refine Le.ite ?_ ?_ | (rename_i o__; cases o__))
def g37 (n__ : Nat) (c : Int) : Option (Bool) :=
  (if (decide (c ≥ 97)) = true then
    (if (decide (c ≤ 122)) = true then
      (some true)
    else
      if (decide (c ≥ 65)) = true then
        (if (decide (c ≤ 90)) = true then
          (some true)
        else
          f19 [33, 36, 37, 38, 42, 47, 58, 60, 61, 62, 63, 94, 95, 126] c >>= fun r2 =>
          some (decide (r2 ≥ 0)))
      else
        f19 [33, 36, 37, 38, 42, 47, 58, 60, 61, 62, 63, 94, 95, 126] c >>= fun r2 =>
        some (decide (r2 ≥ 0)))
  else
    if (decide (c ≥ 65)) = true then
      (if (decide (c ≤ 90)) = true then
        (some true)
      else
        f19 [33, 36, 37, 38, 42, 47, 58, 60, 61, 62, 63, 94, 95, 126] c >>= fun r2 =>
        some (decide (r2 ≥ 0)))
    else
      f19 [33, 36, 37, 38, 42, 47, 58, 60, 61, 62, 63, 94, 95, 126] c >>= fun r2 =>
      some (decide (r2 ≥ 0)) : Option (Bool)) >>= fun o1 =>
  some o1
theorem g37_le (n__ : Nat) (c : Int) : Le (g37 n__ c) (f37 c) := by
  unfold f37 g37
  repeat' (first | exact Le.refl _ | refine Le.bind ?_ (fun _ => ?_) | refine Le.ite ?_ ?_ | (rename_i o__; cases o__))
def g18 (n__ : Nat) (c : Int) : Option (Int) :=
  f19 [40, 41, 39] c >>= fun r1 =>
  some (IntKind.i64.wrap (1 + r1))
theorem g18_le (n__ : Nat) (c : Int) : Le (g18 n__ c) (f18 c) := by
  unfold f18 g18
  repeat' (first | exact Le.refl _ | refine Le.bind ?_ (fun _ => ?_) | refine Le.ite ?_ ?_ | (rename_i o__; cases o__))
def g24_l0 (fuel__ : Nat) (s : Str) (i : Int) : Option (Ou Bool Unit) := match fuel__ with
  | 0 => none
  | n__ + 1 =>
    if (decide (i < (s.length : Int))) = true then
      ((bt s i >>= fun b8 =>
      g37 n__ b8 >>= fun r9 =>
      if (!r9) = true then
        (f19 [48, 49, 50, 51, 52, 53, 54, 55, 56, 57, 43, 45, 46, 64] b8 >>= fun r10 =>
        if (decide (r10 < 0)) = true then
          (some (.ret false))
        else
          some (.nxt ()))
      else
        some (.nxt ()) : Option (Ou Bool Unit)) >>= fun o7 => match o7 with
      | .ret r0 => some (.ret r0)
      | .nxt wo7 =>
        g24_l0 n__ s (IntKind.i64.wrap (i + 1)))
    else
      some (.nxt ())
theorem g24_l0_le : ∀ (n__ : Nat) (s : Str) (i : Int), Le (g24_l0 n__ s i) (f24_l0 s i)
  | 0, _, _ => Le.none _
  | n__ + 1, s, i => by
    rw [f24_l0]; unfold g24_l0
    repeat' (first | exact Le.refl _ | exact g37_le _ _ | exact g24_l0_le _ _ _ | refine Le.bind ?_ (fun _ => ?_) | refine Le.ite ?_ ?_ | (rename_i o__; cases o__))
def g24 (n__ : Nat) (s : Str) : Option (Bool) :=
  if (s == [43]) = true then
    (some true)
  else
    if (s == [45]) = true then
      (some true)
    else
      if (s == []) = true then
        (some false)
      else
        bt s 0 >>= fun b2 =>
        g37 n__ b2 >>= fun r3 =>
        if (!r3) = true then
          (some false)
        else
          g24_l0 n__ s 1 >>= fun o5 => match o5 with
          | .ret r0 => some r0
          | .nxt wo5 =>
            some true
theorem g24_le (n__ : Nat) (s : Str) : Le (g24 n__ s) (f24 s) := by
  unfold f24 g24
  repeat' (first | exact Le.refl _ | exact g24_l0_le _ _ _ | exact g37_le _ _ | refine Le.bind ?_ (fun _ => ?_) | refine Le.ite ?_ ?_ | (rename_i o__; cases o__))
def g14 (n__ : Nat) (s : Str) : Option (Bool) :=
  (if (decide ((s.length : Int) ≤ 32)) = true then
    (g24 n__ s >>= fun r2 =>
    some r2)
  else
    some false : Option (Bool)) >>= fun o1 =>
  some o1
theorem g14_le (n__ : Nat) (s : Str) : Le (g14 n__ s) (f14 s) := by
  unfold f14 g14
  repeat' (first | exact Le.refl _ | exact g24_le _ _ | refine Le.bind ?_ (fun _ => ?_) | refine Le.ite ?_ ?_ | (rename_i o__; cases o__))
def g33 (n__ : Nat) (s : Str) : Option (Token × Int) :=
  if (s == [46]) = true then
    (some ((⟨4, s, (⟨false, [], []⟩ : Ratio), 0⟩ : Token), 0))
  else
    if (s == [35, 116]) = true then
      (some ((⟨6, s, (⟨false, [], []⟩ : Ratio), 0⟩ : Token), 0))
    else
      if (s == [35, 102]) = true then
        (some ((⟨6, s, (⟨false, [], []⟩ : Ratio), 0⟩ : Token), 0))
      else
        g45 n__ s >>= fun r3 =>
        if (r3.2 == 0) = true then
          (some ((⟨5, s, (⟨r3.1.Neg, r3.1.Num, r3.1.Den⟩ : Ratio), 0⟩ : Token), r3.2))
        else
          if (r3.2 == 4) = true then
            (some ((⟨5, s, (⟨r3.1.Neg, r3.1.Num, r3.1.Den⟩ : Ratio), 0⟩ : Token), r3.2))
          else
            g24 n__ s >>= fun r5 =>
            if (!r5) = true then
              (some ((⟨0, s, (⟨false, [], []⟩ : Ratio), 0⟩ : Token), 40))
            else
              if (decide ((s.length : Int) > 32)) = true then
                (some ((⟨0, s, (⟨false, [], []⟩ : Ratio), 0⟩ : Token), 3))
              else
                some ((⟨7, s, (⟨false, [], []⟩ : Ratio), 0⟩ : Token), 0)
theorem g33_le (n__ : Nat) (s : Str) : Le (g33 n__ s) (f33 s) := by
  unfold f33 g33
  repeat' (first | exact Le.refl _ | exact g24_le _ _ | exact g45_le _ _ | refine Le.bind ?_ (fun _ => ?_) | refine Le.ite ?_ ?_ | (rename_i o__; cases o__))
def g20 (n__ : Nat) (out : List Token) (text : Str) (i : Int) : Option (Int × (List Token) × Int) :=
  cutL text i (text.length : Int) >>= fun p1 =>
  f32 p1 [32, 9, 10, 13, 59, 40, 41, 39] >>= fun r2 =>
  if (decide (r2 < 0)) = true then
    (some (IntKind.i64.wrap ((text.length : Int) - i)) >>= fun x4 =>
    cutL text i (IntKind.i64.wrap (i + x4)) >>= fun p5 =>
    g33 n__ p5 >>= fun r6 =>
    if (r6.2 != 0) = true then
      (some (r6.2, out, i))
    else
      ap 88 out [(⟨r6.1.Kind, r6.1.Text, (⟨r6.1.N.Neg, r6.1.N.Num, r6.1.N.Den⟩ : Ratio), i⟩ : Token)] >>= fun a8 =>
      some (0, a8, IntKind.i64.wrap (i + x4)))
  else
    cutL text i (IntKind.i64.wrap (i + r2)) >>= fun p9 =>
    g33 n__ p9 >>= fun r10 =>
    if (r10.2 != 0) = true then
      (some (r10.2, out, i))
    else
      ap 88 out [(⟨r10.1.Kind, r10.1.Text, (⟨r10.1.N.Neg, r10.1.N.Num, r10.1.N.Den⟩ : Ratio), i⟩ : Token)] >>= fun a12 =>
      some (0, a12, IntKind.i64.wrap (i + r2))
theorem g20_le (n__ : Nat) (out : List Token) (text : Str) (i : Int) : Le (g20 n__ out text i) (f20 out text i) := by
  unfold f20 g20
  repeat' (first | exact Le.refl _ | exact g33_le _ _ | refine Le.bind ?_ (fun _ => ?_) | refine Le.ite ?_ ?_ | (rename_i o__; cases o__))
def g11_l0 (fuel__ : Nat) (text : Str) (i_0_1 : Int) : Option (Int) := match fuel__ with
  | 0 => none
  | n__ + 1 =>
    if (decide (i_0_1 < (text.length : Int))) = true then
      (bt text i_0_1 >>= fun b6 =>
      if (b6 != 10) = true then
        (g11_l0 n__ text (IntKind.i64.wrap (i_0_1 + 1)))
      else
        some i_0_1)
    else
      some i_0_1
theorem g11_l0_le : ∀ (n__ : Nat) (text : Str) (i_0_1 : Int), Le (g11_l0 n__ text i_0_1) (f11_l0 text i_0_1)
  | 0, _, _ => Le.none _
  | n__ + 1, text, i_0_1 => by
    rw [f11_l0]; unfold g11_l0
    repeat' (first | exact Le.refl _ | exact g11_l0_le _ _ _ | refine Le.bind ?_ (fun _ => ?_) | refine Le.ite ?_ ?_ | (rename_i o__; cases o__))
def g11_g0 (fuel__ : Nat) (text : Str) (out_0 : List Token) (i_0 : Int) : Option ((List Token) × Int × Int) := match fuel__ with
  | 0 => none
  | n__ + 1 =>
    if (i_0 == (text.length : Int)) = true then
      (some (out_0, 0, 0))
    else
      bt text i_0 >>= fun b3 =>
      if (b3 == 59) = true then
        (g11_l0 n__ text i_0 >>= fun o5 =>
        g11_g0 n__ text out_0 o5)
      else
        g18 n__ b3 >>= fun r6 =>
        if (decide (r6 > 0)) = true then
          (cutL text i_0 (IntKind.i64.wrap (i_0 + 1)) >>= fun p8 =>
          ap 88 out_0 [(⟨r6, p8, (⟨false, [], []⟩ : Ratio), i_0⟩ : Token)] >>= fun a9 =>
          g11_g0 n__ text a9 (IntKind.i64.wrap (i_0 + 1)))
        else
          f19 [32, 9, 10, 13, 59, 40, 41, 39] b3 >>= fun r10 =>
          if (decide (r10 ≥ 0)) = true then
            (g11_g0 n__ text out_0 (IntKind.i64.wrap (i_0 + 1)))
          else
            g20 n__ out_0 text i_0 >>= fun r12 =>
            if (r12.1 != 0) = true then
              (some ([], r12.2.2, r12.1))
            else
              g11_g0 n__ text r12.2.1 r12.2.2
theorem g11_g0_le : ∀ (n__ : Nat) (text : Str) (out_0 : List Token) (i_0 : Int), Le (g11_g0 n__ text out_0 i_0) (f11_g0 text out_0 i_0)
  | 0, _, _, _ => Le.none _
  | n__ + 1, text, out_0, i_0 => by
    rw [f11_g0]; unfold g11_g0
    repeat' (first | exact Le.refl _ | exact g11_l0_le _ _ _ | exact g18_le _ _ | exact g20_le _ _ _ _ | exact g11_g0_le _ _ _ _ | refine Le.bind ?_ (fun _ => ?_) | refine Le.ite ?_ ?_ | (rename_i o__; cases o__))
def g11 (n__ : Nat) (text : Str) : Option ((List Token) × Int × Int) :=
  if (decide ((text.length : Int) > 4096)) = true then
    (some ([], 0, 3))
  else
    g11_g0 n__ text [] 0
theorem g11_le (n__ : Nat) (text : Str) : Le (g11 n__ text) (f11 text) := by
  unfold f11 g11
  repeat' (first | exact Le.refl _ | exact g11_g0_le _ _ _ _ | refine Le.bind ?_ (fun _ => ?_) | refine Le.ite ?_ ?_ | (rename_i o__; cases o__))
def g26 (n__ : Nat) (t : Token) : Option (Bool) :=
  g11 n__ t.Text >>= fun r1 =>
  (if (r1.2.2 == 0) = true then
    (if ((r1.1.length : Int) == 1) = true then
      (rd r1.1 0 >>= fun e3 =>
      if (e3.Kind == t.Kind) = true then
        (some (e3.Text == t.Text))
      else
        some false)
    else
      some false)
  else
    some false : Option (Bool)) >>= fun o2 =>
  some o2
theorem g26_le (n__ : Nat) (t : Token) : Le (g26 n__ t) (f26 t) := by
  unfold f26 g26
  repeat' (first | exact Le.refl _ | exact g11_le _ _ | refine Le.bind ?_ (fun _ => ?_) | refine Le.ite ?_ ?_ | (rename_i o__; cases o__))
def g27 (n__ : Nat) (b : List Int) (c : Int) : Option (List Int) :=
  ap 1 b [c] >>= fun a1 =>
  some a1
theorem g27_le (n__ : Nat) (b : List Int) (c : Int) : Le (g27 n__ b c) (f27 b c) := by
  unfold f27 g27
  repeat' (first | exact Le.refl _ | refine Le.bind ?_ (fun _ => ?_) | refine Le.ite ?_ ?_ | (rename_i o__; cases o__))
def g28 (n__ : Nat) (b : List Int) (s : Str) : Option (Int × (List Int)) :=
  ap 1 b (bts s) >>= fun a1 =>
  some ((s.length : Int), a1)
theorem g28_le (n__ : Nat) (b : List Int) (s : Str) : Le (g28 n__ b s) (f28 b s) := by
  unfold f28 g28
  repeat' (first | exact Le.refl _ | refine Le.bind ?_ (fun _ => ?_) | refine Le.ite ?_ ?_ | (rename_i o__; cases o__))
def g16_l0 (fuel__ : Nat) (ts : List Token) (v : Int) : Option (Ou (Str × Int) Unit) := match fuel__ with
  | 0 => none
  | n__ + 1 =>
    if (decide (v < (ts.length : Int))) = true then
      (rd ts v >>= fun e3 =>
      g26 n__ (⟨e3.Kind, e3.Text, (⟨e3.N.Neg, e3.N.Num, e3.N.Den⟩ : Ratio), e3.At⟩ : Token) >>= fun r4 =>
      if (!r4) = true then
        (some (.ret ([], 40)))
      else
        g16_l0 n__ ts (IntKind.i64.wrap (v + 1)))
    else
      some (.nxt ())
theorem g16_l0_le : ∀ (n__ : Nat) (ts : List Token) (v : Int), Le (g16_l0 n__ ts v) (f16_l0 ts v)
  | 0, _, _ => Le.none _
  | n__ + 1, ts, v => by
    rw [f16_l0]; unfold g16_l0
    repeat' (first | exact Le.refl _ | exact g26_le _ _ | exact g16_l0_le _ _ _ | refine Le.bind ?_ (fun _ => ?_) | refine Le.ite ?_ ?_ | (rename_i o__; cases o__))
def g16_l1 (fuel__ : Nat) (ts : List Token) (n : Int) (b_b : List Int) (v : Int) : Option (Ou (Str × Int) ((List Int))) := match fuel__ with
  | 0 => none
  | n__ + 1 =>
    if (decide (v < (ts.length : Int))) = true then
      ((rd ts v >>= fun e9 =>
      if (decide (v > 0)) = true then
        (g27 n__ b_b 32 >>= fun r11 =>
        some (IntKind.i64.wrap ((IntKind.i64.wrap (n + 1)) + (e9.Text.length : Int))) >>= fun x12 =>
        if (decide (x12 > 4096)) = true then
          (some (.ret ([], 3)))
        else
          g28 n__ r11 e9.Text >>= fun r14 =>
          some (.nxt (x12, r14.2)))
      else
        some (IntKind.i64.wrap (n + (e9.Text.length : Int))) >>= fun x15 =>
        if (decide (x15 > 4096)) = true then
          (some (.ret ([], 3)))
        else
          g28 n__ b_b e9.Text >>= fun r17 =>
          some (.nxt (x15, r17.2)) : Option (Ou (Str × Int) (Int × (List Int)))) >>= fun o8 => match o8 with
      | .ret r0 => some (.ret r0)
      | .nxt wo8 =>
        g16_l1 n__ ts wo8.1 wo8.2 (IntKind.i64.wrap (v + 1)))
    else
      some (.nxt b_b)
theorem g16_l1_le : ∀ (n__ : Nat) (ts : List Token) (n : Int) (b_b : List Int) (v : Int), Le (g16_l1 n__ ts n b_b v) (f16_l1 ts n b_b v)
  | 0, _, _, _, _ => Le.none _
  | n__ + 1, ts, n, b_b, v => by
    rw [f16_l1]; unfold g16_l1
    repeat' (first | exact Le.refl _ | exact g27_le _ _ _ | exact g28_le _ _ _ | exact g16_l1_le _ _ _ _ _ | refine Le.bind ?_ (fun _ => ?_) | refine Le.ite ?_ ?_ | (rename_i o__; cases o__))
def g16 (n__ : Nat) (ts : List Token) : Option (Str × Int) :=
  g16_l0 n__ ts 0 >>= fun o1 => match o1 with
  | .ret r0 => some r0
  | .nxt wo1 =>
    g16_l1 n__ ts 0 [] 0 >>= fun o6 => match o6 with
    | .ret r0 => some r0
    | .nxt wo6 =>
      f29 wo6 >>= fun r18 =>
      some (r18, 0)
theorem g16_le (n__ : Nat) (ts : List Token) : Le (g16 n__ ts) (f16 ts) := by
  unfold f16 g16
  repeat' (first | exact Le.refl _ | exact g16_l0_le _ _ _ | exact g16_l1_le _ _ _ _ _ | refine Le.bind ?_ (fun _ => ?_) | refine Le.ite ?_ ?_ | (rename_i o__; cases o__))
def g10 (n__ : Nat)  : Option (Bool) :=
  g11 n__ [40, 97, 32, 46, 32, 39, 98, 41, 32, 59, 32, 120, 10, 45, 49, 47, 50] >>= fun r1 =>
  g11 n__ [97, 32, 53, 120] >>= fun r2 =>
  if (r1.2.2 != 0) = true then
    (some false)
  else
    if (r1.2.1 != 0) = true then
      (some false)
    else
      if ((r1.1.length : Int) != 7) = true then
        (some false)
      else
        if (r2.2.2 != 40) = true then
          (some false)
        else
          if (r2.2.1 != 2) = true then
            (some false)
          else
            g16 n__ r1.1 >>= fun r4 =>
            (if (r4.2 == 0) = true then
              (if (r4.1 == [40, 32, 97, 32, 46, 32, 39, 32, 98, 32, 41, 32, 45, 49, 47, 50]) = true then
                (rd r1.1 6 >>= fun e6 =>
                if (e6.Kind == 5) = true then
                  (if (e6.At == 13) = true then
                    (g14 n__ [115, 101, 116, 45, 99, 97, 114, 33] >>= fun r7 =>
                    if r7 = true then
                      (g14 n__ [49, 97] >>= fun r8 =>
                      some (!r8))
                    else
                      some false)
                  else
                    some false)
                else
                  some false)
              else
                some false)
            else
              some false : Option (Bool)) >>= fun o5 =>
            some o5
theorem g10_le (n__ : Nat)  : Le (g10 n__ ) (f10 ) := by
  unfold f10 g10
  repeat' (first | exact Le.refl _ | exact g11_le _ _ | exact g14_le _ _ | exact g16_le _ _ | refine Le.bind ?_ (fun _ => ?_) | refine Le.ite ?_ ?_ | (rename_i o__; cases o__))
end Go.Bx.Scan

/- Layer 04: the scanner wakes. (Own text.) -/
namespace Go.Bx.Scan
set_option linter.unusedVariables false
set_option linter.unusedSimpArgs false
set_option linter.unusedSectionVars false
open Go.Proofs
set_option maxRecDepth 100000 in
theorem g10_ok : g10 60 = some true := by decide
theorem f10_eq : f10 = some true := g10_le _ _ g10_ok
end Go.Bx.Scan

/- ScanTokens in plain Lean. (Own text.) -/
namespace Go.Bx.Scan
set_option linter.unusedVariables false
set_option linter.unusedSimpArgs false
set_option linter.unusedSectionVars false
open Go.Proofs
set_option linter.unusedVariables false
set_option linter.unusedSimpArgs false

/-! ### like itself -/
theorem f36_l0_self (a : List Int) (la : a.length < 1000000) : ∀ (k i : Nat), i + k = a.length → f36_l0 a a i = some (.nxt ())
  | 0, i, hk => by rw [f36_l0, if_neg (by simp <;> omega)]
  | k + 1, i, hk => by
    have k1 : i < a.length := by omega
    rw [f36_l0, if_pos (by simp <;> omega), rd_nat k1]
    simp only [bind_ok]
    rw [if_neg (by simp), w64 (by omega) (by omega), show ((i : Int) + 1) = ((i + 1 : Nat) : Int) by omega]
    exact f36_l0_self a la k (i + 1) (by omega)
theorem f36_self (a : List Int) (la : a.length < 1000000) : f36 a a = some true := by
  unfold f36
  have := f36_l0_self a la a.length 0 (by omega)
  rw [show ((0 : Nat) : Int) = 0 from rfl] at this
  rw [if_neg (by simp), this]; rfl
theorem f23_self (a : Ratio) (h : small a) : f23 a a = some true := by
  unfold f23
  rw [if_pos (by simp), f36_self _ (by have := h.1; omega)]
  simp only [bind_ok, if_true]
  rw [f36_self _ (by have := h.2; omega)]; rfl
theorem f13_l0_self (a : List Token) (la : a.length < 1000000) (h : ∀ t ∈ a, small t.N) : ∀ (k i : Nat), i + k = a.length → f13_l0 a a i = some (.nxt ())
  | 0, i, hk => by rw [f13_l0, if_neg (by simp <;> omega)]
  | k + 1, i, hk => by
    have k1 : i < a.length := by omega
    rw [f13_l0, if_pos (by simp <;> omega), rd_nat k1]
    simp only [bind_ok]
    have := f23_self a[i].N (h _ (List.getElem_mem k1))
    rw [if_neg (by simp), if_neg (by simp), if_neg (by simp)]
    show (f23 a[i].N a[i].N >>= _) = _
    rw [this]
    simp only [bind_ok, Bool.not_true, Bool.false_eq_true, if_false]
    rw [w64 (by omega) (by omega), show ((i : Int) + 1) = ((i + 1 : Nat) : Int) by omega]
    exact f13_l0_self a la h k (i + 1) (by omega)
theorem f13_self (a : List Token) (la : a.length < 1000000) (h : ∀ t ∈ a, small t.N) : f13 a a = some true := by
  unfold f13
  have := f13_l0_self a la h a.length 0 (by omega)
  rw [show ((0 : Nat) : Int) = 0 from rfl] at this
  rw [if_neg (by simp), this]; rfl

/-! ### what a text's tokens are like -/
theorem tok_all {P : Token → Prop} (h1 : ∀ c i, isSig c = true → P ⟨sgn c, [c], nil0, i⟩) (h2 : ∀ w i, w ≠ [] → w.all notD = true → w.length ≤ 4096 → (kindS w).2.2 = 0 → P ⟨(kindS w).1, w, (kindS w).2.1, i⟩) : ∀ (n : Nat) (l : Str) (i : Int), l.length ≤ n → n ≤ 4096 → ∀ ts, tokS l i = .ok ts → (∀ t ∈ ts, P t) ∧ ts.length ≤ l.length
  | n, [], i, hl, hn, ts, h => by rw [tok_nil] at h; cases h; exact ⟨fun t ht => by simp at ht, by simp⟩
  | 0, c :: r, i, hl, hn, ts, h => by simp at hl
  | n + 1, c :: r, i, hl, hn, ts, h => by
    rw [List.length_cons] at hl
    have hcons : ∀ (t : Token) (l : Str) (j : Int) (ts : List Token), P t → l.length ≤ n → (TR.cons t (tokS l j)) = .ok ts → l.length ≤ r.length → (∀ t ∈ ts, P t) ∧ ts.length ≤ r.length + 1 := fun t l j ts ht hln hc hlr => by
      cases hr : tokS l j with
      | bad a e => rw [hr] at hc; cases hc
      | ok us =>
        rw [hr] at hc; cases hc
        have := tok_all h1 h2 n l j hln (by omega) us hr
        refine ⟨fun x hx => ?_, by rw [List.length_cons]; omega⟩
        rcases List.mem_cons.1 hx with rfl | hx
        · exact ht
        · exact this.1 x hx
    by_cases h59 : c = 59
    · subst h59
      rw [tok_rem] at h
      have hle := (List.dropWhile_suffix nl (l := r)).length_le
      have := tok_all h1 h2 n _ _ (by omega) (by omega) ts h
      exact ⟨this.1, by rw [List.length_cons]; omega⟩
    · cases hs : isSig c with
      | true =>
        rw [tok_sig _ hs] at h
        exact hcons _ r _ ts (h1 c i hs) (by omega) h (Nat.le_refl _)
      | false =>
        cases hd : isDelim c with
        | true =>
          rw [tok_blank _ h59 hs hd] at h
          have := tok_all h1 h2 n _ _ (by omega) (by omega) ts h
          exact ⟨this.1, by rw [List.length_cons]; omega⟩
        | false =>
          rw [tok_word _ hd] at h
          split at h
          · rename_i hk
            have hle := (List.dropWhile_suffix notD (l := r)).length_le
            have htl := (List.takeWhile_prefix (l := r) notD).length_le
            have hall : (c :: r.takeWhile notD).all notD = true := by
              rw [List.all_cons, show notD c = true by simp [notD, hd]]
              rw [tw_ok]; rfl
            exact hcons _ _ _ ts (h2 _ i (by simp) hall (by rw [List.length_cons]; omega) hk) (by omega) h hle
          · cases h
theorem tok_small (l : Str) (i : Int) (hl : l.length ≤ 4096) (ts : List Token) (h : tokS l i = .ok ts) : (∀ t ∈ ts, small t.N) ∧ ts.length ≤ l.length :=
  tok_all (P := fun t => small t.N) (fun c i _ => small0) (fun w i _ _ hw _ => kind_small w hw) l.length l i (Nat.le_refl _) hl ts h
theorem f3_eq (s : Str) : f3 s = some true := by
  unfold f3
  rw [f10_eq, f11_eq, f12_eq]
  simp only [bind_ok, Bool.not_true, Bool.false_eq_true, if_false]
  have key : f13 (if s.length ≤ 4096 then finT [] (tokS s 0) else ([], 0, 3)).1 (if s.length ≤ 4096 then finT [] (tokS s 0) else ([], 0, 3)).1 = some true := by
    by_cases h : s.length ≤ 4096
    · rw [if_pos h]
      cases hr : tokS s 0 with
      | bad a e => exact f13_self [] (by simp) (fun t ht => by simp at ht)
      | ok ts =>
        have := tok_small s 0 h ts hr
        exact f13_self _ (by simp [finT]; omega) (fun t ht => this.1 t (by simpa [finT] using ht))
    · rw [if_neg h]; exact f13_self [] (by simp) (fun t ht => by simp at ht)
  rw [key]
  simp only [bind_ok, if_true, beq_self_eq_true]
end Go.Bx.Scan

/- Texts put together, and their tokens. Plain Lean. (Own text.) -/
namespace Go.Bx.Scan
set_option linter.unusedVariables false
set_option linter.unusedSimpArgs false
set_option linter.unusedSectionVars false
open Go.Proofs
set_option linter.unusedVariables false
set_option linter.unusedSimpArgs false

def Token.at_ (t : Token) (d : Int) : Token := ⟨t.Kind, t.Text, t.N, t.At + d⟩
def TR.shift (d : Int) : TR → TR
  | .ok l => .ok (l.map fun t => t.at_ d)
  | .bad a e => .bad (a + d) e
theorem TR.shift_cons (d : Int) (t : Token) (r : TR) : (r.cons t).shift d = (r.shift d).cons (t.at_ d) := by cases r <;> rfl
def TR.cat : TR → TR → TR
  | .ok a, .ok b => .ok (a ++ b)
  | .ok _, .bad x e => .bad x e
  | .bad x e, _ => .bad x e
theorem TR.cons_cat (t : Token) (a b : TR) : (a.cons t).cat b = (a.cat b).cons t := by cases a <;> cases b <;> rfl
theorem TR.nil_cat (b : TR) : (TR.ok []).cat b = b := by cases b <;> rfl

theorem tok_shift (d : Int) : ∀ (n : Nat) (l : Str) (i : Int), l.length ≤ n → tokS l (i + d) = (tokS l i).shift d
  | n, [], i, hl => by rw [tok_nil, tok_nil]; rfl
  | 0, c :: r, i, hl => by simp at hl
  | n + 1, c :: r, i, hl => by
    rw [List.length_cons] at hl
    by_cases h59 : c = 59
    · subst h59
      have hle := (List.dropWhile_suffix nl (l := r)).length_le
      rw [tok_rem, tok_rem, ← tok_shift d n _ _ (by omega)]
      congr 1; omega
    · cases hs : isSig c with
      | true =>
        rw [tok_sig _ hs, tok_sig _ hs, TR.shift_cons, ← tok_shift d n _ _ (by omega), show i + d + 1 = i + 1 + d by omega]; rfl
      | false =>
        cases hd : isDelim c with
        | true => rw [tok_blank _ h59 hs hd, tok_blank _ h59 hs hd, ← tok_shift d n _ _ (by omega), show i + d + 1 = i + 1 + d by omega]
        | false =>
          have hle := (List.dropWhile_suffix notD (l := r)).length_le
          rw [tok_word _ hd, tok_word _ hd]
          split
          · rw [TR.shift_cons, ← tok_shift d n _ _ (by omega), show i + d + 1 + ((r.takeWhile notD).length : Int) = i + 1 + ((r.takeWhile notD).length : Int) + d by omega]; rfl
          · rfl
theorem tw_app {p : UInt8 → Bool} {c : UInt8} (hc : p c = false) : ∀ (r m : Str), (r ++ c :: m).takeWhile p = r.takeWhile p ∧ (r ++ c :: m).dropWhile p = r.dropWhile p ++ c :: m
  | [], m => by rw [List.nil_append, List.takeWhile_cons, List.dropWhile_cons, hc]; exact ⟨rfl, rfl⟩
  | b :: r, m => by
    rw [List.cons_append, List.takeWhile_cons, List.takeWhile_cons, List.dropWhile_cons, List.dropWhile_cons]
    have := tw_app hc r m
    cases p b with
    | true => exact ⟨by simp [this.1], by simp [this.2]⟩
    | false => exact ⟨rfl, rfl⟩
/-- A text ahead of a sign that parts. -/
theorem tok_app {c : UInt8} (hd : isDelim c = true) (m : Str) : ∀ (n : Nat) (l : Str) (i : Int), l.length ≤ n → (nl c = false ∨ 59 ∉ l) → tokS (l ++ c :: m) i = (tokS l i).cat (tokS (c :: m) (i + (l.length : Int)))
  | n, [], i, hl, h => by rw [tok_nil, TR.nil_cat]; simp
  | 0, b :: r, i, hl, h => by simp at hl
  | n + 1, b :: r, i, hl, h => by
    rw [List.length_cons] at hl
    have hn : notD c = false := by simp [notD, hd]
    have hr : nl c = false ∨ 59 ∉ r := by
      rcases h with h | h
      · exact .inl h
      · exact .inr fun hm => h (by simp [hm])
    rw [List.cons_append]
    by_cases h59 : b = 59
    · subst h59
      have hnl : nl c = false := by
        rcases h with h | h
        · exact h
        · exact absurd (by simp) h
      have hle := (List.dropWhile_suffix nl (l := r)).length_le
      have htd : (r.takeWhile nl).length + (r.dropWhile nl).length = r.length := by rw [← List.length_append, List.takeWhile_append_dropWhile]
      obtain ⟨e1, e2⟩ := tw_app hnl r m
      rw [tok_rem, tok_rem, e1, e2, tok_app hd m n _ _ (by omega) (.inl hnl)]
      congr 2; rw [List.length_cons]; omega
    · cases hs : isSig b with
      | true =>
        rw [tok_sig _ hs, tok_sig _ hs, tok_app hd m n _ _ (by omega) hr, TR.cons_cat]
        congr 3; rw [List.length_cons]; omega
      | false =>
        cases hb : isDelim b with
        | true =>
          rw [tok_blank _ h59 hs hb, tok_blank _ h59 hs hb, tok_app hd m n _ _ (by omega) hr]
          congr 2; rw [List.length_cons]; omega
        | false =>
          have hle := (List.dropWhile_suffix notD (l := r)).length_le
          have htd : (r.takeWhile notD).length + (r.dropWhile notD).length = r.length := by rw [← List.length_append, List.takeWhile_append_dropWhile]
          obtain ⟨e1, e2⟩ := tw_app hn r m
          have hr2 : nl c = false ∨ 59 ∉ r.dropWhile notD := by
            rcases hr with h | h
            · exact .inl h
            · exact .inr fun hm => h ((List.dropWhile_suffix notD).subset hm)
          rw [tok_word _ hb, tok_word _ hb, e1, e2]
          split
          · rw [tok_app hd m n _ _ (by omega) hr2, TR.cons_cat]
            congr 3; rw [List.length_cons]; omega
          · rfl
theorem dw_all {p : UInt8 → Bool} : ∀ {l : Str}, l.all p = true → l.dropWhile p = []
  | [], _ => rfl
  | b :: l, h => by
    simp only [List.all_cons, Bool.and_eq_true] at h
    rw [List.dropWhile_cons, if_pos h.1, dw_all h.2]
/-- Blanks and a remark ahead. -/
theorem tok_ahead {r : Str} (hr : r.all nl = true) (l : Str) (i : Int) : tokS (32 :: 9 :: 59 :: (r ++ 10 :: 13 :: l)) i = tokS l (i + ((r.length : Int) + 5)) := by
  obtain ⟨e1, e2⟩ := tw_app (p := nl) (c := 10) rfl r (13 :: l)
  rw [tok_blank _ (by decide) (by decide) (by decide), tok_blank _ (by decide) (by decide) (by decide), tok_rem, e1, e2, dw_all hr, List.nil_append, tw_all hr,
    tok_blank _ (by decide) (by decide) (by decide), tok_blank _ (by decide) (by decide) (by decide)]
  congr 1; omega
/-- .. and behind. -/
theorem tok_behind {r : Str} (hr : r.all nl = true) (l : Str) (i : Int) : tokS (l ++ 10 :: 59 :: r) i = tokS l i := by
  rw [tok_app (c := 10) (by decide) (59 :: r) l.length l i (Nat.le_refl _) (.inl rfl), tok_blank _ (by decide) (by decide) (by decide), tok_rem, dw_all hr, tok_nil]
  cases tokS l i with
  | ok a => simp [TR.cat]
  | bad a e => rfl
theorem f11_le {s : Str} (h : s.length ≤ 4096) : f11 s = some (finT [] (tokS s 0)) := by rw [f11_eq, if_pos h]
theorem catN {a b : Str} (h : a.length + b.length ≤ 9223372036854775807) : Bx.cat a b = some (a ++ b) := by
  unfold Bx.cat; rw [if_neg]
  have : IntKind.i64.max = 9223372036854775807 := rfl
  omega

/-- Where tokens stand. -/
def Pl (T : Str) : Int → List Token → Prop
  | _, [] => True
  | lo, t :: ts => lo ≤ t.At ∧ t.At + (t.Text.length : Int) ≤ T.length ∧ (T.drop t.At.toNat).take t.Text.length = t.Text ∧ Pl T (t.At + 1) ts
theorem Pl.mono {T : Str} {a b : Int} (h : a ≤ b) : ∀ {ts : List Token}, Pl T b ts → Pl T a ts
  | [], _ => trivial
  | t :: ts, ⟨h1, h2, h3, h4⟩ => ⟨by omega, h2, h3, h4⟩
theorem tok_place (T : Str) : ∀ (n i : Nat), T.length ≤ i + n → i ≤ T.length → (∀ ts, tokS (T.drop i) i = .ok ts → Pl T i ts) ∧ (∀ a e, tokS (T.drop i) i = .bad a e → 0 ≤ a ∧ a ≤ T.length)
  | n, i, hn, hi => by
    by_cases he : i = T.length
    · rw [List.drop_of_length_le (by omega), tok_nil]
      exact ⟨fun ts h => by cases h; trivial, fun a e h => by cases h⟩
    · have k1 : i < T.length := by omega
      match n with
      | 0 => omega
      | n + 1 =>
        rw [List.drop_eq_getElem_cons k1]
        have step : ∀ (j : Nat), i < j → j ≤ T.length → (∀ ts, tokS (T.drop j) j = .ok ts → Pl T (i + 1) ts) ∧ (∀ a e, tokS (T.drop j) j = .bad a e → 0 ≤ a ∧ a ≤ T.length) := fun j h1 h2 => by
          have := tok_place T n j (by omega) h2
          exact ⟨fun ts h => (this.1 ts h).mono (by omega), this.2⟩
        have cons : ∀ (t : Token) (j : Nat), i < j → j ≤ T.length → t.At = i → t.At + (t.Text.length : Int) ≤ T.length → (T.drop i).take t.Text.length = t.Text → (∀ ts, TR.cons t (tokS (T.drop j) j) = .ok ts → Pl T i ts) ∧ (∀ a e, TR.cons t (tokS (T.drop j) j) = .bad a e → 0 ≤ a ∧ a ≤ T.length) := fun t j h1 h2 h3 h4 h5 => by
          obtain ⟨s1, s2⟩ := step j h1 h2
          cases hr : tokS (T.drop j) j with
          | ok us =>
            refine ⟨fun ts h => ?_, fun a e h => by cases h⟩
            cases h
            refine ⟨by omega, h4, ?_, ?_⟩
            · rw [h3]; simpa using h5
            · rw [h3]; exact s1 us hr
          | bad a e =>
            refine And.intro (fun ts h => by cases h) (fun a' e' h => ?_)
            cases h
            exact s2 _ _ hr
        by_cases h59 : T[i] = 59
        · have hdt : T.drop (i + 1 + ((T.drop (i + 1)).takeWhile nl).length) = (T.drop (i + 1)).dropWhile nl := by rw [← List.drop_drop, drop_tw]
          have hle := (List.takeWhile_prefix (l := T.drop (i + 1)) nl).length_le
          rw [List.length_drop] at hle
          obtain ⟨s1, s2⟩ := step (i + 1 + ((T.drop (i + 1)).takeWhile nl).length) (by omega) (by omega)
          rw [h59, tok_rem, ← hdt, show (i : Int) + 1 + (((T.drop (i + 1)).takeWhile nl).length : Int) = ((i + 1 + ((T.drop (i + 1)).takeWhile nl).length : Nat) : Int) by omega]
          exact ⟨fun ts h => (s1 ts h).mono (by omega), s2⟩
        · cases hs : isSig T[i] with
          | true =>
            rw [tok_sig _ hs, show (i : Int) + 1 = ((i + 1 : Nat) : Int) by omega]
            refine cons _ (i + 1) (by omega) (by omega) rfl (by simp; omega) ?_
            rw [List.drop_eq_getElem_cons k1]; rfl
          | false =>
            cases hd : isDelim T[i] with
            | true =>
              rw [tok_blank _ h59 hs hd, show (i : Int) + 1 = ((i + 1 : Nat) : Int) by omega]
              obtain ⟨s1, s2⟩ := step (i + 1) (by omega) (by omega)
              exact ⟨fun ts h => (s1 ts h).mono (by omega), s2⟩
            | false =>
              have hnd : notD T[i] = true := by simp [notD, hd]
              have hdt : T.drop (i + 1 + ((T.drop (i + 1)).takeWhile notD).length) = (T.drop (i + 1)).dropWhile notD := by rw [← List.drop_drop, drop_tw]
              have hle := (List.takeWhile_prefix (l := T.drop (i + 1)) notD).length_le
              rw [List.length_drop] at hle
              rw [tok_word _ hd, ← hdt, show (i : Int) + 1 + (((T.drop (i + 1)).takeWhile notD).length : Int) = ((i + 1 + ((T.drop (i + 1)).takeWhile notD).length : Nat) : Int) by omega]
              split
              · refine cons _ _ (by omega) (by omega) rfl (by simp only [List.length_cons]; omega) ?_
                rw [List.drop_eq_getElem_cons k1, List.length_cons, List.take_succ_cons, take_tw]
              · exact And.intro (fun ts h => by cases h) (fun a e h => by cases h; omega)
theorem Pl.at_ {T : Str} : ∀ {lo : Int} {ts : List Token}, 0 ≤ lo → Pl T lo ts → ∀ t ∈ ts, 0 ≤ t.At ∧ t.At ≤ T.length
  | lo, [], _, _, t, h => by simp at h
  | lo, t :: ts, h0, ⟨h1, h2, h3, h4⟩, u, hu => by
    rcases List.mem_cons.1 hu with rfl | hu
    · omega
    · exact Pl.at_ (by omega) h4 u hu
theorem tok_at (T : Str) (ts : List Token) (h : tokS T 0 = .ok ts) : Pl T 0 ts := (tok_place T T.length 0 (by omega) (by omega)).1 ts (by simpa using h)
theorem tok_bad (T : Str) (a e : Int) (h : tokS T 0 = .bad a e) : 0 ≤ a ∧ a ≤ T.length := (tok_place T T.length 0 (by omega) (by omega)).2 a e (by simpa using h)
theorem kind_err_nn {w : Str} {e : Int} (h : (kindS w).2.2 ≠ 0) : (kindS w).2.2 ≠ 0 := h
theorem tok_err : ∀ (n : Nat) (l : Str) (i a e : Int), l.length ≤ n → tokS l i = .bad a e → e ≠ 0
  | n, [], i, a, e, hl, h => by rw [tok_nil] at h; cases h
  | 0, c :: r, i, a, e, hl, h => by simp at hl
  | n + 1, c :: r, i, a, e, hl, h => by
    rw [List.length_cons] at hl
    have hcons : ∀ (t : Token) (l : Str) (j : Int), l.length ≤ n → TR.cons t (tokS l j) = .bad a e → e ≠ 0 := fun t l j hl h => by
      cases hr : tokS l j with
      | ok us => rw [hr] at h; cases h
      | bad x y => rw [hr] at h; cases h; exact tok_err n l j _ _ hl hr
    by_cases h59 : c = 59
    · subst h59
      have hle := (List.dropWhile_suffix nl (l := r)).length_le
      rw [tok_rem] at h
      exact tok_err n _ _ a e (by omega) h
    · cases hs : isSig c with
      | true => rw [tok_sig _ hs] at h; exact hcons _ _ _ (by omega) h
      | false =>
        cases hd : isDelim c with
        | true => rw [tok_blank _ h59 hs hd] at h; exact tok_err n _ _ a e (by omega) h
        | false =>
          have hle := (List.dropWhile_suffix notD (l := r)).length_le
          rw [tok_word _ hd] at h
          split at h
          · exact hcons _ _ _ (by omega) h
          · rename_i hk; cases h; exact hk
end Go.Bx.Scan
