/- An evaluator of the model's code over plain values, and the proof that what it answers the machine does (Ba). Own text; parts are printed by a program of this claim's author. -/
import Derived.Orders
import Derived.Tactics
import Derived.Below
import Derived.WalkLawsBesides
import Derived.WalkKit
import Derived.Laws.StructEq
import Derived.Great.FillDense
import Derived.Deep.AppendSrc
import Derived.Laws.CopyRow
/- The abstract evaluator: values, objects, operations. (Own text.) -/
namespace Go.Bx
set_option linter.unusedVariables false
set_option linter.unusedSimpArgs false
set_option linter.unusedSectionVars false

inductive AV where
  | v (x : Value)
  | sl (es : List (List AV))
  | row (id sz lo n : Nat)
  | own (sh : Bool) (sz : Nat) (es : List (List AV))
  | agg (cs : List AV)
  | tup (vs : List AV)
  | vp (cs : List AV)
  | ptr (id i off : Nat)
  | tptr (id : Nat) (t : TypeId)
  | slf (id : Nat)
  | trow (id : Nat) (t : TypeId) (n : Nat)
  | fn (f : FuncId) (first caps : List AV)
  | ifc (t : TypeId) (x : AV)
  | emp
  | junk
  deriving Inhabited

abbrev Cs := List AV

structure Obj where
  sz : Nat
  sh : Bool
  flat : Bool
  es : List Cs

structure Store where
  clock : Nat
  ob : Nat → Option Obj

def Store.put (σ : Store) (id : Nat) (o : Option Obj) : Store := { σ with ob := fun j => if j = id then o else σ.ob j }
def Store.new (σ : Store) (o : Obj) : Store := { clock := σ.clock + 1, ob := fun j => if j = σ.clock then some o else σ.ob j }

inductive TD where
  | int (k : IntKind) | bool | str | slice (e : TypeId) | struct (fs : List (Nat × TypeId)) | array (n : Nat) (e : TypeId)
  | ptr (e : TypeId) | iface | func | map (k e : TypeId) | other

structure TRow where
  desc : TD
  sz : Nat
  bytes : Nat
  zero : List Value
  eq : Bool := false
  lv : List (Option Nat) := [none]
  tp : Bool := false

abbrev Tab := TypeId → Option TRow

def tdesc (T : Tab) (t : TypeId) : Option TD := (T t).map fun r => r.desc

def TD.isAgg : TD → Bool
  | .struct _ => true
  | .array _ _ => true
  | _ => false

def cells : AV → Cs
  | .agg cs => cs
  | x => [x]

/-- Fits into one cell. -/
def leaf : AV → Bool
  | .v x => x.oneCell'
  | .emp => true
  | .sl _ => true
  | .row _ _ _ _ => true
  | .vp _ => true
  | .ptr _ _ _ => true
  | .tptr _ _ => true
  | .slf _ => true
  | .trow _ _ _ => true
  | .fn _ _ _ => true
  | .ifc _ _ => true
  | _ => false

/-- Data alone: leads to no object. -/
def pl : AV → Bool
  | .v x => x.oneCell'
  | .emp => true
  | .sl _ => true
  | _ => false

def ofCells (ag : Bool) (cs : Cs) : Option AV :=
  if ag then some (.agg cs) else match cs with
    | [x] => some x
    | _ => none

def putAt (cs : Cs) (off : Nat) (new : Cs) : Cs := cs.take off ++ new ++ cs.drop (off + new.length)

def fillL (place : Nat → Option (Nat × Nat)) (cs : Cs) : List (Nat × AV) → Option Cs
  | [] => some cs
  | (i, x) :: rest => match place i with
    | none => none
    | some (off, size) => if (cells x).length = size ∧ off + size ≤ cs.length ∧ (cells x).all leaf = true then fillL place (putAt cs off (cells x)) rest else none

def intBin (op : BinOp) (k : IntKind) (a : Int) (k' : IntKind) (b : Int) : Option Value :=
  match op with
  | .shl => if b < 0 then none else some (.int k (k.wrap (a * 2 ^ (min b.toNat k.bits))))
  | .shr => if b < 0 then none else some (.int k (a.fdiv (2 ^ (min b.toNat k.bits))))
  | op => if k = k' then match op with
    | .add => some (.int k (k.wrap (a + b)))
    | .sub => some (.int k (k.wrap (a - b)))
    | .mul => some (.int k (k.wrap (a * b)))
    | .quo => if b = 0 then none else some (.int k (k.wrap (a.tdiv b)))
    | .rem => if b = 0 then none else some (.int k (a.tmod b))
    | .and => some (.int k (k.wrap (BitVec.ofInt k.bits a &&& BitVec.ofInt k.bits b).toNat))
    | .or => some (.int k (k.wrap (BitVec.ofInt k.bits a ||| BitVec.ofInt k.bits b).toNat))
    | .xor => some (.int k (k.wrap (BitVec.ofInt k.bits a ^^^ BitVec.ofInt k.bits b).toNat))
    | .andNot => some (.int k (k.wrap (BitVec.ofInt k.bits a &&& ~~~(BitVec.ofInt k.bits b)).toNat))
    | .eql => some (.bool (a == b))
    | .neq => some (.bool (a != b))
    | .lss => some (.bool (a < b))
    | .leq => some (.bool (a ≤ b))
    | .gtr => some (.bool (a > b))
    | .geq => some (.bool (a ≥ b))
    | _ => none
    else none

def strBin (op : BinOp) (a b : ByteArray) : Option Value :=
  match op with
  | .add => if ((a.size + b.size : Nat) : Int) > IntKind.i64.max then none else some (.string (a ++ b))
  | .eql => some (.bool (a.toList == b.toList))
  | .neq => some (.bool !(a.toList == b.toList))
  | .lss => some (.bool (Op.bytesLess a.toList b.toList))
  | .leq => some (.bool (Op.bytesLess a.toList b.toList || a.toList == b.toList))
  | .gtr => some (.bool !(Op.bytesLess a.toList b.toList || a.toList == b.toList))
  | .geq => some (.bool !(Op.bytesLess a.toList b.toList))
  | _ => none

/-- '==' of what is no int and no string; none: not told. -/
def eqAV (T : Tab) (t : TypeId) (x y : AV) : Option Bool :=
  match tdesc T t, x, y with
  | some .bool, .v (.bool a), .v (.bool b) => some (a == b)
  | some (.ptr _), .v (.pointer none), .v (.pointer none) => some true
  | some (.ptr _), .ptr _ _ _, .v (.pointer none) => some false
  | some (.ptr _), .vp _, .v (.pointer none) => some false
  | some (.ptr _), .v (.pointer none), .ptr _ _ _ => some false
  | some .iface, .v .nilIface, .v .nilIface => some true
  | some .iface, .ifc _ _, .v .nilIface => some false
  | some .func, .v .nilFunc, .v .nilFunc => some true
  | some .func, .fn _ _ _, .v .nilFunc => some false
  | _, _, _ => none

/-- '==' of structs whose fields are whole numbers, bools and strings: cell by cell. -/
def eqCells (T : Tab) : List (Nat × TypeId) → Cs → Cs → Option Bool
  | [], _, _ => some true
  | (o, t) :: rest, xs, ys => match tdesc T t, xs[o]?, ys[o]? with
    | some (.int _), some (.v (.int k a)), some (.v (.int k' b)) => if k = k' then (if a == b then eqCells T rest xs ys else some false) else none
    | some .bool, some (.v (.bool a)), some (.v (.bool b)) => if a == b then eqCells T rest xs ys else some false
    | some .str, some (.v (.string a)), some (.v (.string b)) => if a == b then eqCells T rest xs ys else some false
    | _, _, _ => none

def evBin (T : Tab) (op : BinOp) (t : TypeId) (x y : AV) : Option AV :=
  match x, y with
  | .v (.int k a), .v (.int k' b) => (intBin op k a k' b).map .v
  | .v (.string a), .v (.string b) => (strBin op a b).map .v
  | .agg xs, .agg ys => match T t, op with
    | some ⟨.struct fs, _, _, _, true, _, _⟩, .eql => (eqCells T fs xs ys).map fun b => .v (.bool b)
    | some ⟨.struct fs, _, _, _, true, _, _⟩, .neq => (eqCells T fs xs ys).map fun b => .v (.bool !b)
    | _, _ => none
  | x, y => match op with
    | .eql => (eqAV T t x y).map fun b => .v (.bool b)
    | .neq => (eqAV T t x y).map fun b => .v (.bool !b)
    | _ => none

def constOp : Operand → Bool
  | .const _ => true
  | _ => false

def bothNil : AV → AV → Bool
  | .v .nilIface, .v .nilIface => true
  | _, _ => false

def evUn (op : UnOp) (x : AV) : Option AV :=
  match op, x with
  | .neg, .v (.int k n) => some (.v (.int k (k.wrap (0 - n))))
  | .xor, .v (.int k n) => some (.v (.int k (k.wrap (BitVec.ofInt k.bits (if k.signed then -1 else k.max) ^^^ BitVec.ofInt k.bits n).toNat)))
  | .not, .v (.bool b) => some (.v (.bool !b))
  | _, _ => none

def evOp (gl : Nat → AV) (tm : Cs) : Operand → AV
  | .tmp t => tm.getD t .junk
  | .const x => .v x
  | .global g => gl g
  | .func f => .fn f [] []

def lenAV : AV → Option Nat
  | .v (.string s) => some s.size
  | .v (.slice none 0 0) => some 0
  | .sl es => some es.length
  | .row _ _ _ n => some n
  | .emp => some 0
  | _ => none

/-- A bound of a cut. -/
def boundAV (d : Nat) : Option AV → Option Nat
  | none => some d
  | some (.v (.int _ i)) => if 0 ≤ i then some i.toNat else none
  | _ => none

def sliceAV (x : AV) (lo hi : Option AV) : Option AV :=
  match x with
  | .v (.string s) => match boundAV 0 lo, boundAV s.size hi with
    | some l, some h => if l ≤ h ∧ h ≤ s.size then some (.v (.string (s.extract l h))) else none
    | _, _ => none
  | .sl es => match boundAV 0 lo, boundAV es.length hi with
    | some l, some h => if l ≤ h ∧ h ≤ es.length then some (.sl ((es.take h).drop l)) else none
    | _, _ => none
  | .row id sz lo0 n => match boundAV 0 lo, boundAV n hi with
    | some l, some h => if l ≤ h ∧ h ≤ n then some (.row id sz (lo0 + l) (h - l)) else none
    | _, _ => none
  | .v (.slice none 0 0) => match boundAV 0 lo, boundAV 0 hi with
    | some l, some h => if l ≤ h ∧ h ≤ 0 then some (.v (.slice none 0 0)) else none
    | _, _ => none
  | _ => none

def indexAddrAV (T : Tab) (t : TypeId) (x ix : AV) : Option AV :=
  match tdesc T t, x, ix with
  | some (.slice e), .sl es, .v (.int _ i) => match T e with
    | some r => if 0 ≤ i then match es[i.toNat]? with
      | some c => if c.length = r.sz then some (.vp c) else none
      | none => none else none
    | none => none
  | some (.slice e), .row id sz lo n, .v (.int _ i) => match T e with
    | some r => if 0 ≤ i ∧ i.toNat < n ∧ sz = r.sz then some (.ptr id (lo + i.toNat) 0) else none
    | none => none
  | some (.array n e), .vp cs, .v (.int _ i) => match T e with
    | some r => if 0 ≤ i ∧ i.toNat < n then some (.vp (cs.drop (i.toNat * r.sz))) else none
    | none => none
  | some (.array n e), .ptr id j off, .v (.int _ i) => match T e with
    | some r => if 0 ≤ i ∧ i.toNat < n then some (.ptr id j (off + i.toNat * r.sz)) else none
    | none => none
  | _, _, _ => none

def fieldPlaceT (T : Tab) (s : TypeId) (f : Nat) : Option (Nat × TRow) :=
  match tdesc T s with
  | some (.struct fs) => match fs[f]? with
    | some (o, ft) => (T ft).map fun r => (o, r)
    | none => none
  | _ => none

/-- What an operation gives that neither reads nor changes any object; with an object, if it makes one (its number: c). -/
def evA (T : Tab) (ρ : Operand → AV) (c : Nat) (o : Op) : Option (AV × Option Obj) :=
  let only (x : Option AV) : Option (AV × Option Obj) := x.map fun y => (y, none)
  match o with
  | .move x => some (ρ x, none)
  | .assign x => some (ρ x, none)
  | .pick q a b => match ρ q with
    | .v (.bool b') => some (if b' then ρ a else ρ b, none)
    | _ => none
  | .build t parts => match T t with
    | some ⟨.struct fs, sz, _, z, _, _, _⟩ => only (if z.length = sz ∧ (fs.all fun f => (T f.2).isSome) = true then (fillL (fun i => match fs[i]? with
        | some (o, ft) => (T ft).map fun r => (o, r.sz)
        | none => none) (z.map .v) (parts.toList.map fun p => (p.1, ρ p.2))).map .agg else none)
    | _ => none
  | .buildSlice t len parts => match tdesc T t with
    | some (.slice e) => match T e with
      | some r =>
        let es := parts.toList.map fun p => cells (ρ p.2)
        if r.sz ≠ 0 ∧ len * r.sz ≤ 16777216 ∧ parts.toList.map (·.1) = List.range len ∧ (es.all fun c => c.length == r.sz && c.all leaf) = true ∧ r.zero.length = r.sz then
          some (if len = 0 then .emp else .row c r.sz 0 len, some ⟨r.sz, false, es.all fun c => c.all pl, es⟩) else none
      | none => none
    | _ => none
  | .box t x => match T t with
    | some r => if (cells (ρ x)).length = r.sz ∧ (cells (ρ x)).all leaf = true then some (.ptr c 0 0, some ⟨r.sz, false, false, [cells (ρ x)]⟩) else none
    | none => none
  | .alloc t => match T t with
    | some r => if r.zero.length = r.sz then some (if r.tp = true then .tptr c t else .ptr c 0 0, some ⟨r.sz, false, false, [r.zero.map .v]⟩) else none
    | none => none
  | .makeSlice t l m => match tdesc T t, ρ l, ρ m with
    | some (.slice e), .v (.int _ n), .v (.int _ n') => match T e with
      | some r => if 0 ≤ n ∧ n = n' ∧ n ≤ 9223372036854775807 ∧ r.bytes * n ≤ 140737488355328 ∧ r.zero.length = r.sz then
          some (.row c r.sz 0 n.toNat, some ⟨r.sz, false, true, List.replicate n.toNat (r.zero.map .v)⟩) else none
      | none => none
    | _, _, _ => none
  | .binOp op t x y _ => only (if bothNil (ρ x) (ρ y) && !(constOp x || constOp y) then none else evBin T op t (ρ x) (ρ y))
  | .unOp op _ x => only (evUn op (ρ x))
  | .nilCheck x => match ρ x with
    | .ptr id i off => some (.ptr id i off, none)
    | .tptr id t => some (.tptr id t, none)
    | .vp cs => some (.vp cs, none)
    | .fn f a b => some (.fn f a b, none)
    | _ => none
  | .convert s d x => match tdesc T s, tdesc T d, ρ x with
    | some _, some (.int k), .v (.int _ n) => some (.v (.int k (k.wrap n)), none)
    | some _, some .str, .v (.string b) => some (.v (.string b), none)
    | _, _, _ => none
  | .makeInterface t x => match tdesc T t with
    | some .iface => none
    | some _ => some (.ifc t (ρ x), none)
    | none => none
  | .makeFunc (.func f) first caps => some (.fn f (first.toList.map ρ) (caps.toList.map ρ), none)
  | .slice t x lo hi none => match tdesc T t with
    | some .str => only (match ρ x with
      | .v (.string s) => sliceAV (.v (.string s)) (lo.map ρ) (hi.map ρ)
      | _ => none)
    | some (.slice e) => match T e with
      | some r => (match ρ x with
        | .v (.string _) => none
        | .row id sz lo0 n => if sz = r.sz then only (sliceAV (.row id sz lo0 n) (lo.map ρ) (hi.map ρ)) else none
        | .sl es => if (es.all fun c => c.length == r.sz) then only (sliceAV (.sl es) (lo.map ρ) (hi.map ρ)) else none
        | y => only (sliceAV y (lo.map ρ) (hi.map ρ)))
      | none => none
    | _ => none
  | .fieldAddr s x f => match fieldPlaceT T s f, ρ x with
    | some (o, r), .vp cs => if r.sz = 0 then none else some (.vp (cs.drop o), none)
    | some (o, r), .ptr id i off => if r.sz = 0 then none else some (.ptr id i (off + o), none)
    | some (o, r), .tptr id _ => if r.sz = 0 then none else some (.ptr id 0 o, none)
    | _, _ => none
  | .field s x f => match fieldPlaceT T s f, ρ x with
    | some (o, r), .agg cs => only (if o + r.sz ≤ cs.length then ofCells r.desc.isAgg ((cs.drop o).take r.sz) else none)
    | _, _ => none
  | .indexAddr t x ix => only (indexAddrAV T t (ρ x) (ρ ix))
  | .index t x ix => match tdesc T t, ρ x, ρ ix with
    | some .str, .v (.string s), .v (.int _ i) => if h : 0 ≤ i ∧ i.toNat < s.size then some (.v (.int .u8 ((s[i.toNat]'h.2).toNat : Int)), none) else none
    | _, _, _ => none
  | .extract x i => match ρ x with
    | .tup vs => only vs[i]?
    | _ => none
  | .load t a => match T t, ρ a with
    | some r, .vp cs => only (if r.sz ≤ cs.length then ofCells r.desc.isAgg (cs.take r.sz) else none)
    | _, _ => none
  | .call ⟨.builtin .len, args, ts⟩ => match (ts[0]?).bind T, args.toList with
    | some r, [x] => match r.desc, lenAV (ρ x) with
      | .str, some n => (match ρ x with
        | .v (.string _) => some (.v (.int .i64 n), none)
        | _ => none)
      | .slice _, some n => (match ρ x with
        | .v (.string _) => none
        | _ => some (.v (.int .i64 n), none))
      | _, _ => none
    | _, _ => none
  | .call ⟨.builtin .min, args, _⟩ => match args.toList with
    | [x, y] => match ρ x, ρ y with
      | .v (.int k a), .v (.int _ b) => some (.v (.int k (if b < a then b else a)), none)
      | _, _ => none
    | _ => none
  | .call ⟨.builtin .max, args, _⟩ => match args.toList with
    | [x, y] => match ρ x, ρ y with
      | .v (.int k a), .v (.int _ b) => some (.v (.int k (if b > a then b else a)), none)
      | _, _ => none
    | _ => none
  | _ => none

end Go.Bx

/- What an abstract value says of a machine's value, and an abstract store of a world. (Own text.) -/
namespace Go.Bx
set_option linter.unusedVariables false
set_option linter.unusedSimpArgs false
set_option linter.unusedSectionVars false

structure Loc where
  b : Nat
  o : Nat
  sz : Nat
  tot : Nat

inductive ML where
  | virt
  | at (L : Loc)

structure Ctx where
  w : World
  S : Addr → Prop
  m : Nat → Option ML
  /-- What a call under way has put off. -/
  dfr : List Deferred := []

/-- What type a block's cells have, and how many they are. -/
def tyOf (w : World) (b : Nat) : Option (TypeId × Nat) := match w.heap[b]? with
  | some (.cells arr T _) => some (T, arr.size)
  | _ => none

inductive Rep (c : Ctx) : AV → Value → Prop
  | v (x : Value) : Rep c (.v x) x
  | sl {es : List Cs} {A : Option Addr} {n cap : Nat} (sz b o : Nat) (u : Nat → Nat → Value) (hn : n = es.length) (hc : n ≤ cap)
      (hA : es ≠ [] → A = some ⟨b, o, none⟩) (hsz : ∀ e ∈ es, e.length = sz)
      (hcell : ∀ i e j x, es[i]? = some e → e[j]? = some x → c.w.cell? ⟨b, o + i * sz + j, none⟩ = some (u i j) ∧ c.S ⟨b, o + i * sz + j, none⟩ ∧ pl x = true)
      (hrep : ∀ i e j x, es[i]? = some e → e[j]? = some x → Rep c x (u i j)) : Rep c (.sl es) (.slice A n cap)
  | row {id sz lo n : Nat} {A : Option Addr} {cap : Nat} (L : Loc) (hm : c.m id = some (.at L)) (hs : L.sz = sz) (hn : n ≤ cap) (ht : lo + cap = L.tot)
      (hA : cap ≠ 0 → A = some ⟨L.b, L.o + lo * sz, none⟩) : Rep c (.row id sz lo n) (.slice A n cap)
  | row0 {id sz lo : Nat} {A : Option Addr} (hm : c.m id = some .virt) : Rep c (.row id sz lo 0) (.slice A 0 0)
  | agg {cs : Cs} {vs : Array Value} (hl : vs.size = cs.length) (h : ∀ (j : Nat) x u, cs[j]? = some x → vs[j]? = some u → Rep c x u) : Rep c (.agg cs) (.agg vs)
  | tup {cs : Cs} {vs : Array Value} (hl : vs.size = cs.length) (h : ∀ (j : Nat) x u, cs[j]? = some x → vs[j]? = some u → Rep c x u) : Rep c (.tup cs) (.tuple vs)
  | vp {cs : Cs} (b o : Nat) (u : Nat → Value)
      (hcell : ∀ j x, cs[j]? = some x → c.w.cell? ⟨b, o + j, none⟩ = some (u j) ∧ c.S ⟨b, o + j, none⟩ ∧ pl x = true)
      (hrep : ∀ j x, cs[j]? = some x → Rep c x (u j)) : Rep c (.vp cs) (.pointer (some ⟨b, o, none⟩))
  | ptr {id i off : Nat} (L : Loc) (hm : c.m id = some (.at L)) : Rep c (.ptr id i off) (.pointer (some ⟨L.b, L.o + i * L.sz + off, none⟩))
  | tptr {id : Nat} {t : TypeId} (L : Loc) (hm : c.m id = some (.at L)) (ho : L.o = 0) (ht : tyOf c.w L.b = some (t, L.sz)) : Rep c (.tptr id t) (.pointer (some ⟨L.b, 0, none⟩))
  | slf0 {id : Nat} : Rep c (.slf id) (.pointer none)
  | slf {id : Nat} (L : Loc) (hm : c.m id = some (.at L)) (ho : L.o = 0) : Rep c (.slf id) (.pointer (some ⟨L.b, 0, none⟩))
  | trow {id n cap : Nat} {t : TypeId} (L : Loc) (hm : c.m id = some (.at L)) (hs : L.sz = 1) (ho : L.o = 0) (ht : tyOf c.w L.b = some (t, L.tot)) (hn : n ≤ cap) (hc : cap = L.tot) :
      Rep c (.trow id t n) (.slice (some ⟨L.b, 0, none⟩) n cap)
  | trow0 {id : Nat} {t : TypeId} (hm : c.m id = some .virt) : Rep c (.trow id t 0) (.slice none 0 0)
  | fn {f : FuncId} {first caps : Cs} {fv cv : Array Value} (hl : fv.size = first.length) (hl' : cv.size = caps.length)
      (h : ∀ (j : Nat) x u, first[j]? = some x → fv[j]? = some u → Rep c x u) (h' : ∀ (j : Nat) x u, caps[j]? = some x → cv[j]? = some u → Rep c x u) :
      Rep c (.fn f first caps) (.func (.func f) fv cv)
  | ifc {t : TypeId} {x : AV} {u : Value} (h : Rep c x u) : Rep c (.ifc t x) (.iface t u)
  | emp {A : Option Addr} : Rep c .emp (.slice A 0 0)
  | junk {u : Value} : Rep c .junk u

theorem leaf_of_pl {x : AV} (h : pl x = true) : leaf x = true := by
  cases x <;> simp_all [pl, leaf]

/-- The world has gone on: what is sealed stays, what has a place keeps it. -/
structure Ext (c c' : Ctx) : Prop where
  S : ∀ a, c.S a → c'.S a
  cell : ∀ a, c.S a → c'.w.cell? a = c.w.cell? a
  m : ∀ id l, c.m id = some l → c'.m id = some l
  size : c.w.heap.size ≤ c'.w.heap.size
  os : c'.w.os = c.w.os
  tape : c'.w.tape = c.w.tape
  output : c'.w.output = c.w.output
  ty : ∀ b t, tyOf c.w b = some t → tyOf c'.w b = some t

theorem Ext.refl (c : Ctx) : Ext c c := ⟨fun _ h => h, fun _ _ => rfl, fun _ _ h => h, Nat.le_refl _, rfl, rfl, rfl, fun _ _ h => h⟩

theorem Ext.trans {a b c : Ctx} (h : Ext a b) (k : Ext b c) : Ext a c :=
  ⟨fun x hx => k.S x (h.S x hx), fun x hx => (k.cell x (h.S x hx)).trans (h.cell x hx), fun id l hl => k.m id l (h.m id l hl), Nat.le_trans h.size k.size,
   k.os.trans h.os, k.tape.trans h.tape, k.output.trans h.output, fun b t hb => k.ty b t (h.ty b t hb)⟩

theorem Rep.mono {c c' : Ctx} (e : Ext c c') {x : AV} {u : Value} (h : Rep c x u) : Rep c' x u := by
  induction h with
  | v x => exact .v x
  | sl sz b o u hn hc hA hsz hcell _ ih =>
    exact .sl sz b o u hn hc hA hsz (fun i el j x h1 h2 => by
      obtain ⟨h3, h4, h5⟩ := hcell i el j x h1 h2
      exact ⟨(e.cell _ h4).trans h3, e.S _ h4, h5⟩) ih
  | row L hm hs hn ht hA => exact .row L (e.m _ _ hm) hs hn ht hA
  | row0 hm => exact .row0 (e.m _ _ hm)
  | agg hl _ ih => exact .agg hl ih
  | tup hl _ ih => exact .tup hl ih
  | vp b o u hcell _ ih =>
    exact .vp b o u (fun j x h1 => by
      obtain ⟨h3, h4, h5⟩ := hcell j x h1
      exact ⟨(e.cell _ h4).trans h3, e.S _ h4, h5⟩) ih
  | ptr L hm => exact .ptr L (e.m _ _ hm)
  | tptr L hm ho ht => exact .tptr L (e.m _ _ hm) ho (e.ty _ _ ht)
  | slf0 => exact .slf0
  | trow L hm hs ho ht hn hc => exact .trow L (e.m _ _ hm) hs ho (e.ty _ _ ht) hn hc
  | trow0 hm => exact .trow0 (e.m _ _ hm)
  | slf L hm ho => exact .slf L (e.m _ _ hm) ho
  | fn hl hl' _ _ ih ih' => exact .fn hl hl' ih ih'
  | ifc _ ih => exact .ifc ih
  | emp => exact .emp
  | junk => exact .junk

/-- Pointwise. -/
def Reps (c : Ctx) (xs : Cs) (us : List Value) : Prop := xs.length = us.length ∧ ∀ (j : Nat) x u, xs[j]? = some x → us[j]? = some u → Rep c x u

theorem Reps.mono {c c' : Ctx} (e : Ext c c') {xs : Cs} {us : List Value} (h : Reps c xs us) : Reps c' xs us := ⟨h.1, fun j x u h1 h2 => (h.2 j x u h1 h2).mono e⟩

theorem Reps.nil (c : Ctx) : Reps c [] [] := ⟨rfl, fun j x u h => by simp at h⟩

theorem Reps.cons {c : Ctx} {x : AV} {u : Value} {xs : Cs} {us : List Value} (h : Rep c x u) (k : Reps c xs us) : Reps c (x :: xs) (u :: us) :=
  ⟨by simp [k.1], fun j y v h1 h2 => by
    cases j with
    | zero => simp at h1 h2; subst h1; subst h2; exact h
    | succ j => exact k.2 j y v (by simpa using h1) (by simpa using h2)⟩

theorem Reps.append {c : Ctx} {xs ys : Cs} {us vs : List Value} (h : Reps c xs us) (k : Reps c ys vs) : Reps c (xs ++ ys) (us ++ vs) :=
  ⟨by simp [h.1, k.1], fun j x u h1 h2 => by
    by_cases hj : j < xs.length
    · rw [List.getElem?_append_left hj] at h1
      rw [List.getElem?_append_left (by rw [← h.1]; exact hj)] at h2
      exact h.2 j x u h1 h2
    · rw [List.getElem?_append_right (by omega)] at h1
      rw [List.getElem?_append_right (by rw [← h.1]; omega), ← h.1] at h2
      exact k.2 _ x u h1 h2⟩

theorem Reps.take {c : Ctx} {xs : Cs} {us : List Value} (h : Reps c xs us) (n : Nat) : Reps c (xs.take n) (us.take n) :=
  ⟨by simp [h.1], fun j x u h1 h2 => by
    rw [List.getElem?_take] at h1 h2
    split at h1
    · rename_i hj; rw [if_pos hj] at h2; exact h.2 j x u h1 h2
    · cases h1⟩

theorem Reps.drop {c : Ctx} {xs : Cs} {us : List Value} (h : Reps c xs us) (n : Nat) : Reps c (xs.drop n) (us.drop n) :=
  ⟨by simp [h.1], fun j x u h1 h2 => by
    rw [List.getElem?_drop] at h1 h2
    exact h.2 _ x u h1 h2⟩

theorem Reps.of_map {c : Ctx} {α : Type} {l : List α} {f : α → AV} {g : α → Value} (h : ∀ x ∈ l, Rep c (f x) (g x)) : Reps c (l.map f) (l.map g) :=
  ⟨by simp, fun j x u h1 h2 => by
    rw [List.getElem?_map] at h1 h2
    cases hl : l[j]? with
    | none => simp [hl] at h1
    | some y => simp [hl] at h1 h2; subst h1; subst h2; exact h y (List.mem_of_getElem? hl)⟩

theorem Rep.of_agg {c : Ctx} {cs : Cs} {u : Value} (h : Rep c (.agg cs) u) : ∃ vs : Array Value, u = .agg vs ∧ Reps c cs vs.toList := by
  cases h with
  | agg hl h => exact ⟨_, rfl, by simp [hl], fun j x u h1 h2 => h j x u h1 (by simpa using h2)⟩

theorem Rep.to_agg {c : Ctx} {cs : Cs} {vs : Array Value} (h : Reps c cs vs.toList) : Rep c (.agg cs) (.agg vs) :=
  .agg (by simpa using h.1.symm) (fun j x u h1 h2 => h.2 j x u h1 (by simpa using h2))

theorem Rep.of_leaf {c : Ctx} {x : AV} {u : Value} (h : Rep c x u) (hl : leaf x = true) : u.oneCell' = true := by
  cases h <;> simp_all [leaf, Value.oneCell']

theorem cells_reps {c : Ctx} {x : AV} {u : Value} (h : Rep c x u) (hx : (cells x).all leaf = true) : Reps c (cells x) u.cells.toList := by
  cases h with
  | agg hl h => exact ⟨by simp [cells, Value.cells, hl], fun j x u h1 h2 => h j x u h1 (by simpa [Value.cells] using h2)⟩
  | v =>
    cases u <;> simp [cells, leaf, Value.oneCell'] at hx <;> exact Reps.cons (.v _) (Reps.nil _)
  | sl sz b o u hn hc hA hsz hcell hrep => exact Reps.cons (.sl sz b o u hn hc hA hsz hcell hrep) (Reps.nil _)
  | row L hm hs hn ht hA => exact Reps.cons (.row L hm hs hn ht hA) (Reps.nil _)
  | row0 hm => exact Reps.cons (.row0 hm) (Reps.nil _)
  | tup hl h => simp [cells, leaf] at hx
  | vp b o u hcell hrep => exact Reps.cons (.vp b o u hcell hrep) (Reps.nil _)
  | ptr L hm => exact Reps.cons (.ptr L hm) (Reps.nil _)
  | tptr L hm ho ht => exact Reps.cons (.tptr L hm ho ht) (Reps.nil _)
  | slf0 => exact Reps.cons .slf0 (Reps.nil _)
  | trow L hm hs ho ht hn hc => exact Reps.cons (.trow L hm hs ho ht hn hc) (Reps.nil _)
  | trow0 hm => exact Reps.cons (.trow0 hm) (Reps.nil _)
  | slf L hm ho => exact Reps.cons (.slf L hm ho) (Reps.nil _)
  | fn hl hl' h h' => exact Reps.cons (.fn hl hl' h h') (Reps.nil _)
  | ifc h => exact Reps.cons (.ifc h) (Reps.nil _)
  | emp => exact Reps.cons .emp (Reps.nil _)
  | junk => simp [cells, leaf] at hx

/-- What an object says of its place. -/
structure ObjOK (c : Ctx) (base : Nat) (o : Obj) (L : Loc) : Prop where
  sz : L.sz = o.sz
  base : base ≤ L.b
  tot : o.es.length ≤ L.tot
  wid : ∀ e ∈ o.es, e.length = o.sz
  leafs : ∀ e ∈ o.es, ∀ x ∈ e, leaf x = true
  flat : o.flat = true → ∀ e ∈ o.es, ∀ x ∈ e, pl x = true
  mem : ∃ arr T, c.w.heap[L.b]? = some (.cells arr T (0, 0)) ∧ L.o + L.tot * L.sz ≤ arr.size ∧
    ∀ i e j x, o.es[i]? = some e → e[j]? = some x → ∃ u, arr[L.o + i * L.sz + j]? = some u ∧ Rep c x u ∧ (o.sh = true → c.S ⟨L.b, L.o + i * L.sz + j, none⟩)

structure Core (ob : Nat → Option Obj) (c : Ctx) (base : Nat) : Prop where
  obj : ∀ id o L, ob id = some o → c.m id = some (.at L) → ObjOK c base o L
  virt : ∀ id o, ob id = some o → c.m id = some .virt → o.es = []
  apart : ∀ id id' o o' L L', ob id = some o → ob id' = some o' → c.m id = some (.at L) → c.m id' = some (.at L') → id ≠ id' → L.b ≠ L'.b
  inn : ∀ a, c.S a → a.spot = none ∧ ∃ u, c.w.cell? a = some u
  free : ∀ id o L, ob id = some o → c.m id = some (.at L) → ∀ a, c.S a → a.block = L.b → a.off < L.o ∨ (o.sh = true ∧ a.off < L.o + o.es.length * L.sz)
  base_le : base ≤ c.w.heap.size

structure Inv (σ : Store) (c : Ctx) (base : Nat) : Prop where
  core : Core σ.ob c base
  dom : ∀ id l, c.m id = some l → id < σ.clock
  old : ∀ id o, σ.ob id = some o → id < σ.clock

/-- What a step may have changed of the world: new blocks, and the objects from 'md' on. -/
structure Fr (c : Ctx) (σ : Store) (md : Option Nat) (c' : Ctx) : Prop where
  block : ∀ b, b < c.w.heap.size → (∀ id o L, σ.ob id = some o → c.m id = some (.at L) → ∀ l, md = some l → l ≤ id → L.b ≠ b) → c'.w.heap[b]? = c.w.heap[b]?
  mnew : ∀ id l, c'.m id = some l → c.m id = some l ∨ σ.clock ≤ id
  bnew : ∀ id L, c'.m id = some (.at L) → c.m id ≠ some (.at L) → c.w.heap.size ≤ L.b ∨ ∃ id' o L', σ.ob id' = some o ∧ c.m id' = some (.at L') ∧ L.b = L'.b ∧ ∃ l, md = some l ∧ l ≤ id'
  snew : ∀ a, c'.S a → c.S a ∨ c.w.heap.size ≤ a.block ∨ ∃ id' o L', σ.ob id' = some o ∧ c.m id' = some (.at L') ∧ a.block = L'.b ∧ ∃ l, md = some l ∧ l ≤ id'

theorem cell_of {w : World} {b o : Nat} {arr : Array Value} {T : TypeId} {fz : Nat × Nat} (h : w.heap[b]? = some (.cells arr T fz)) : w.cell? ⟨b, o, none⟩ = arr[o]? := by
  simp [World.cell?, h]

theorem block_of_cell {w : World} {a : Addr} {u : Value} (h : w.cell? a = some u) : a.block < w.heap.size := World.block_lt_of_cell? w a h

end Go.Bx

/- The operations that read and change no object: what the evaluator gives, the machine does. (Own text.) -/
namespace Go.Bx
set_option linter.unusedVariables false
set_option linter.unusedSimpArgs false
set_option linter.unusedSectionVars false

def descOK (d : TypeDesc) : TD → Prop
  | .int k => d = .int k
  | .bool => d = .bool
  | .str => d = .string
  | .slice e => d = .slice e
  | .struct fs => ∃ fields, d = .struct fields ∧ fields.toList.map (fun f => (f.offset, f.type)) = fs
  | .array n e => d = .array n e
  | .ptr e => d = .pointer e
  | .iface => ∃ ms, d = .interface ms
  | .func => ∃ a b c, d = .func a b c
  | .map k e => d = .map k e
  | .other => (∀ ms, d ≠ .interface ms) ∧ (∀ fs, d ≠ .struct fs) ∧ (∀ n e, d ≠ .array n e)

structure RowOK (P : Program) (t : TypeId) (r : TRow) : Prop where
  und : ∃ d, P.underlying t = some d ∧ descOK d r.desc
  info : ∃ i, P.info? t = some i ∧ i.size = r.sz ∧ i.bytes = r.bytes ∧ (r.zero.length = r.sz → ∃ z, i.zero = some z ∧ z.cells.toList = r.zero ∧ ∀ x ∈ r.zero, x.oneCell' = true)
  eq : r.eq = true → P.eqGuardType P.depth t = false ∧ P.stoodInHeld t = false ∧ ∃ fields, P.underlying t = some (.struct fields) ∧ (∀ f ∈ fields.toList, f.name ≠ "_")

def TabOK (P : Program) (T : Tab) : Prop := ∀ t r, T t = some r → RowOK P t r

section
variable {P : Program} {T : Tab} (hT : TabOK P T)
include hT

theorem und_int {t : TypeId} {k : IntKind} (h : tdesc T t = some (.int k)) (w : World) : (underlying t).run P w = .ok (.int k) w := by
  unfold tdesc at h; cases hr : T t with
  | none => simp [hr] at h
  | some r => simp [hr] at h; obtain ⟨d, h1, h2⟩ := (hT t r hr).und; rw [h] at h2; simp only [descOK] at h2; subst h2; exact run_underlying h1 w

theorem und_bool {t : TypeId} (h : tdesc T t = some .bool) (w : World) : (underlying t).run P w = .ok .bool w := by
  unfold tdesc at h; cases hr : T t with
  | none => simp [hr] at h
  | some r => simp [hr] at h; obtain ⟨d, h1, h2⟩ := (hT t r hr).und; rw [h] at h2; simp only [descOK] at h2; subst h2; exact run_underlying h1 w

theorem und_str {t : TypeId} (h : tdesc T t = some .str) (w : World) : (underlying t).run P w = .ok .string w := by
  unfold tdesc at h; cases hr : T t with
  | none => simp [hr] at h
  | some r => simp [hr] at h; obtain ⟨d, h1, h2⟩ := (hT t r hr).und; rw [h] at h2; simp only [descOK] at h2; subst h2; exact run_underlying h1 w

theorem und_slice {t e : TypeId} (h : tdesc T t = some (.slice e)) (w : World) : (underlying t).run P w = .ok (.slice e) w := by
  unfold tdesc at h; cases hr : T t with
  | none => simp [hr] at h
  | some r => simp [hr] at h; obtain ⟨d, h1, h2⟩ := (hT t r hr).und; rw [h] at h2; simp only [descOK] at h2; subst h2; exact run_underlying h1 w

theorem und_ptr {t e : TypeId} (h : tdesc T t = some (.ptr e)) (w : World) : (underlying t).run P w = .ok (.pointer e) w := by
  unfold tdesc at h; cases hr : T t with
  | none => simp [hr] at h
  | some r => simp [hr] at h; obtain ⟨d, h1, h2⟩ := (hT t r hr).und; rw [h] at h2; simp only [descOK] at h2; subst h2; exact run_underlying h1 w

theorem und_array {t e : TypeId} {n : Nat} (h : tdesc T t = some (.array n e)) (w : World) : (underlying t).run P w = .ok (.array n e) w := by
  unfold tdesc at h; cases hr : T t with
  | none => simp [hr] at h
  | some r => simp [hr] at h; obtain ⟨d, h1, h2⟩ := (hT t r hr).und; rw [h] at h2; simp only [descOK] at h2; subst h2; exact run_underlying h1 w

theorem und_iface {t : TypeId} (h : tdesc T t = some .iface) (w : World) : ∃ ms, (underlying t).run P w = .ok (.interface ms) w := by
  unfold tdesc at h; cases hr : T t with
  | none => simp [hr] at h
  | some r => simp [hr] at h; obtain ⟨d, h1, h2⟩ := (hT t r hr).und; rw [h] at h2; simp only [descOK] at h2; obtain ⟨ms, rfl⟩ := h2; exact ⟨ms, run_underlying h1 w⟩

theorem und_func {t : TypeId} (h : tdesc T t = some .func) (w : World) : ∃ a b c, (underlying t).run P w = .ok (.func a b c) w := by
  unfold tdesc at h; cases hr : T t with
  | none => simp [hr] at h
  | some r => simp [hr] at h; obtain ⟨d, h1, h2⟩ := (hT t r hr).und; rw [h] at h2; simp only [descOK] at h2; obtain ⟨a, b, c, rfl⟩ := h2; exact ⟨a, b, c, run_underlying h1 w⟩

theorem und_struct {t : TypeId} {fs : List (Nat × TypeId)} (h : tdesc T t = some (.struct fs)) (w : World) :
    ∃ fields, (underlying t).run P w = .ok (.struct fields) w ∧ fields.toList.map (fun f => (f.offset, f.type)) = fs := by
  unfold tdesc at h; cases hr : T t with
  | none => simp [hr] at h
  | some r => simp [hr] at h; obtain ⟨d, h1, h2⟩ := (hT t r hr).und; rw [h] at h2; simp only [descOK] at h2; obtain ⟨fields, rfl, h3⟩ := h2; exact ⟨fields, run_underlying h1 w, h3⟩

theorem und_not_iface {t : TypeId} {d : TD} (h : tdesc T t = some d) (hd : d ≠ .iface) (w : World) : ∃ td, (underlying t).run P w = .ok td w ∧ ∀ ms, td ≠ .interface ms := by
  unfold tdesc at h; cases hr : T t with
  | none => simp [hr] at h
  | some r =>
    simp [hr] at h; obtain ⟨td, h1, h2⟩ := (hT t r hr).und; rw [h] at h2
    refine ⟨td, run_underlying h1 w, fun ms hms => ?_⟩
    subst hms
    cases d <;> simp [descOK] at h2 hd

theorem siz {t : TypeId} {r : TRow} (h : T t = some r) (w : World) : (sizeOf t).run P w = .ok r.sz w := by
  obtain ⟨i, h1, h2, _⟩ := (hT t r h).info
  simp [sizeOf, typeInfo, h1, h2]

theorem tinf {t : TypeId} {r : TRow} (h : T t = some r) (w : World) : ∃ i, (typeInfo t).run P w = .ok i w ∧ i.size = r.sz ∧ i.bytes = r.bytes := by
  obtain ⟨i, h1, h2, h3, _⟩ := (hT t r h).info
  exact ⟨i, by simp [typeInfo, h1], h2, h3⟩

theorem zer {t : TypeId} {r : TRow} (h : T t = some r) (hz : r.zero.length = r.sz) (w : World) : ∃ z, (zeroValue t).run P w = .ok z w ∧ z.cells.toList = r.zero ∧ ∀ x ∈ r.zero, x.oneCell' = true := by
  obtain ⟨i, h1, h2, h3, h4⟩ := (hT t r h).info
  obtain ⟨z, h5, h6, h7⟩ := h4 hz
  exact ⟨z, by simp [zeroValue, typeInfo, h1, h5], h6, h7⟩

theorem agT {t : TypeId} {r : TRow} (h : T t = some r) (w : World) : (isAgg t).run P w = .ok r.desc.isAgg w := by
  obtain ⟨d, h1, h2⟩ := (hT t r h).und
  cases hd : r.desc <;> rw [hd] at h2 <;> simp only [descOK] at h2
  case other =>
    obtain ⟨_, h3, h4⟩ := h2
    simp only [isAgg, Sem.run_bind, run_underlying h1, Result.andThen_ok, TD.isAgg]
    cases d <;> simp_all
  all_goals first
    | (subst h2; simp [isAgg, run_underlying h1, TD.isAgg])
    | (obtain ⟨x, rfl, _⟩ := h2; simp [isAgg, run_underlying h1, TD.isAgg])
    | (obtain ⟨x, rfl⟩ := h2; simp [isAgg, run_underlying h1, TD.isAgg])
    | (obtain ⟨x, y, z, rfl⟩ := h2; simp [isAgg, run_underlying h1, TD.isAgg])
end

theorem add_zero_spot (b o n : Nat) : (⟨b, o, none⟩ : Addr).add n = ⟨b, o + n, none⟩ := by
  unfold Addr.add; split <;> simp_all

theorem run_asIntOf (P : Program) (w : World) (k : IntKind) (n : Int) : (asIntOf (.int k n)).run P w = .ok (k, n) w := rfl

/-- A bound of a cut, as the machine asks it. -/
theorem run_sliceBound (P : Program) (w : World) (k : IntKind) (i : Int) (y : Nat) (code : BoundsCode) (h0 : 0 ≤ i) (h1 : i.toNat ≤ y) :
    (Instr.sliceBound (.int k i) y code).run P w = .ok i.toNat w := by
  have : i ≤ y := by omega
  simp [Instr.sliceBound, run_asIntOf, h0, this]

end Go.Bx

/- Class A, operation by operation. (Own text.) -/
namespace Go.Bx
set_option linter.unusedVariables false
set_option linter.unusedSimpArgs false
set_option linter.unusedSectionVars false

def SimA (P : Program) (ρ : Operand → Value) (o : Oper) (c : Ctx) (id : Nat) (y : AV) : Option Obj → Prop
  | none => ∃ u, (execOp ρ o).run P c.w = .ok (.value u) c.w ∧ Rep c y u
  | some ob => ∃ u arr T0, (execOp ρ o).run P c.w = .ok (.value u) (c.w.alloc (.cells arr T0)) ∧ arr.size = ob.es.length * ob.sz ∧ ob.sh = false ∧
      (∀ e ∈ ob.es, e.length = ob.sz ∧ ∀ x ∈ e, leaf x = true) ∧ (ob.flat = true → ∀ e ∈ ob.es, ∀ x ∈ e, pl x = true) ∧
      (∀ i e j x, ob.es[i]? = some e → e[j]? = some x → ∃ u, arr[i * ob.sz + j]? = some u ∧ Rep c x u) ∧
      ∀ c' : Ctx, c'.m id = some (.at ⟨c.w.heap.size, 0, ob.sz, ob.es.length⟩) → tyOf c'.w c.w.heap.size = some (T0, arr.size) → Rep c' y u

section
variable {P : Program} {T : Tab} (hT : TabOK P T) {c : Ctx} {ρa : Operand → AV} {ρ : Operand → Value} {id : Nat} (hρ : ∀ x, Rep c (ρa x) (ρ x))

include hρ
theorem simA_move (o : Oper) (x : Operand) (ho : o.op = .move x ∨ o.op = .assign x) : SimA P ρ o c id (ρa x) none :=
  ⟨ρ x, by rcases ho with ho | ho <;> simp [execOp, ho], hρ x⟩

theorem simA_pick (o : Oper) (q a b : Operand) (ho : o.op = .pick q a b) {b' : Bool} (hq : ρa q = .v (.bool b')) : SimA P ρ o c id (if b' then ρa a else ρa b) none := by
  have h := hρ q; rw [hq] at h; generalize hu : ρ q = u at h; cases h
  refine ⟨if b' then ρ a else ρ b, by simp [execOp, ho, hu, asBool], ?_⟩
  cases b' <;> simp [hρ]

theorem rep_v {x : Operand} {v : Value} (h : ρa x = .v v) : ρ x = v := by
  have := hρ x; rw [h] at this; generalize hu : ρ x = u at this; cases this; rfl

theorem simA_unOp (o : Oper) (op : UnOp) (t : TypeId) (x : Operand) (ho : o.op = .unOp op t x) {y : AV} (h : evUn op (ρa x) = some y) : SimA P ρ o c id y none := by
  unfold evUn at h
  split at h
  · rename_i k n hx; cases h
    have hx' := rep_v hρ hx
    exact ⟨_, by simp [execOp, ho, hx', Op.unary, Op.intArith], .v _⟩
  · rename_i k n hx; cases h
    have hx' := rep_v hρ hx
    exact ⟨_, by simp [execOp, ho, hx', Op.unary, Op.intBits], .v _⟩
  · rename_i b hx; cases h
    have hx' := rep_v hρ hx
    exact ⟨_, by simp [execOp, ho, hx', Op.unary], .v _⟩
  · cases h

omit hρ in
theorem intBin_run {op : BinOp} {t : TypeId} {k k' : IntKind} {a b : Int} {y : Value} (h : intBin op k a k' b = some y) (w : World) :
    (binOp op t (.int k a) (.int k' b)).run P w = .ok y w := by
  unfold intBin at h
  cases op <;> simp only at h
  case shl => split at h; cases h; rename_i hb; cases h; simp [binOp, Op.shift, hb]
  case shr => split at h; cases h; rename_i hb; cases h; simp [binOp, Op.shift, hb]
  case quo =>
    split at h
    · rename_i hk; subst hk; split at h
      · cases h
      · rename_i hb; cases h; simp [binOp, Op.intDiv, hb]
    · cases h
  case rem =>
    split at h
    · rename_i hk; subst hk; split at h
      · cases h
      · rename_i hb; cases h; simp [binOp, Op.intDiv, hb]
    · cases h
  all_goals
    split at h
    · rename_i hk; subst hk; cases h; simp [binOp, Op.intArith, Op.intBits, Op.intCmp]
    · cases h

omit hρ in
theorem strBin_run {op : BinOp} {t : TypeId} {a b : ByteArray} {y : Value} (h : strBin op a b = some y) (w : World) :
    (binOp op t (.string a) (.string b)).run P w = .ok y w := by
  unfold strBin at h
  cases op <;> simp only at h
  case add =>
    split at h
    · cases h
    · rename_i hb; cases h; simp only [binOp, Op.stringOp, hb]; rfl
  all_goals first | (cases h; done) | (cases h; simp [binOp, Op.stringOp])

end

end Go.Bx

/- Class A: tests, cuts, places. (Own text.) -/
namespace Go.Bx
set_option linter.unusedVariables false
set_option linter.unusedSimpArgs false
set_option linter.unusedSectionVars false

section
variable {P : Program} {T : Tab} (hT : TabOK P T) {c : Ctx} {ρa : Operand → AV} {ρ : Operand → Value} {id : Nat} (hρ : ∀ x, Rep c (ρa x) (ρ x))
include hT

theorem eqCells_run : ∀ (fs : List Field) (xs ys : Cs) (us vs : Array Value) (r : Bool) (d : Nat) (w : World), Reps c xs us.toList → Reps c ys vs.toList →
    (∀ f ∈ fs, f.name ≠ "_") → eqCells T (fs.map fun f => (f.offset, f.type)) xs ys = some r → (Op.eqFields (d + 1) us vs fs).run P w = .ok r w
  | [], xs, ys, us, vs, r, d, w, _, _, _, h => by simp [eqCells] at h; subst h; simp [Op.eqFields]
  | f :: fs, xs, ys, us, vs, r, d, w, hx, hy, hn, h => by
    have ih := fun r' h' => eqCells_run fs xs ys us vs r' d w hx hy (fun g hg => hn g (by simp [hg])) h'
    have hn' : f.name ≠ "_" := hn f (by simp)
    have key : ∀ (k : TD) (a b : Value) (e : Bool), tdesc T f.type = some k → k.isAgg = false → xs[f.offset]? = some (.v a) → ys[f.offset]? = some (.v b) →
        (Op.equalIn (d + 1) f.type a b).run P w = .ok e w → (if e then eqCells T (fs.map fun f => (f.offset, f.type)) xs ys else some false) = some r →
        (Op.eqFields (d + 1) us vs (f :: fs)).run P w = .ok r w := by
      intro k a b e hk hka hxa hyb he hr
      obtain ⟨R, hR⟩ : ∃ R, T f.type = some R := by unfold tdesc at hk; cases hq : T f.type with
        | none => simp [hq] at hk
        | some R => exact ⟨R, rfl⟩
      have hka' : R.desc.isAgg = false := by unfold tdesc at hk; simp [hR] at hk; rw [hk]; exact hka
      have hu : us[f.offset]? = some a := by
        have hl := hx.1
        have hlt : f.offset < xs.length := (List.getElem?_eq_some_iff.1 hxa).1
        have hlt' : f.offset < us.size := by simpa [hl] using hlt
        have := hx.2 f.offset _ us[f.offset] hxa (by simp [hlt'])
        cases this; simp [hlt']
      have hv : vs[f.offset]? = some b := by
        have hl := hy.1
        have hlt : f.offset < ys.length := (List.getElem?_eq_some_iff.1 hyb).1
        have hlt' : f.offset < vs.size := by simpa [hl] using hlt
        have := hy.2 f.offset _ vs[f.offset] hyb (by simp [hlt'])
        cases this; simp [hlt']
      have pa : (part f.type us f.offset).run P w = .ok a w := by simp [part, agT hT hR, hka', hu]
      have pb : (part f.type vs f.offset).run P w = .ok b w := by simp [part, agT hT hR, hka', hv]
      rw [Op.eqFields]
      simp only [if_pos hn', Sem.run_bind, pa, pb, he, Result.andThen_ok]
      cases e
      · simp at hr; subst hr; simp
      · simp at hr; simpa using ih r hr
    simp only [List.map_cons, eqCells] at h
    split at h
    · rename_i k' k a k2 b hk hxa hyb
      split at h
      · rename_i hkk; subst hkk
        exact key _ _ _ (a == b) hk rfl hxa hyb (by simp [Op.equalIn, und_int hT hk]) h
      · cases h
    · rename_i a b hk hxa hyb
      exact key _ _ _ (a == b) hk rfl hxa hyb (by simp [Op.equalIn, und_bool hT hk]) h
    · rename_i a b hk hxa hyb
      exact key _ _ _ (a == b) hk rfl hxa hyb (by simp [Op.equalIn, und_str hT hk]) h
    · cases h

theorem eqAV_run {t : TypeId} {x y : AV} {u v : Value} {r : Bool} (hx : Rep c x u) (hy : Rep c y v) (h : eqAV T t x y = some r) (w : World) :
    (Op.equal t u v).run P w = .ok r w := by
  suffices hd : ∀ d, (Op.equalIn (d + 1) t u v).run P w = .ok r w from hd 9999
  intro d
  unfold eqAV at h
  split at h
  · rename_i hk; cases h; cases hx; cases hy; simp [Op.equalIn, und_bool hT hk]
  · rename_i hk; cases h; cases hx; cases hy; simp [Op.equalIn, und_ptr hT hk]
  · rename_i hk; cases h; cases hx; cases hy; simp [Op.equalIn, und_ptr hT hk]
  · rename_i hk; cases h; cases hx; cases hy; simp [Op.equalIn, und_ptr hT hk]
  · rename_i hk; cases h; cases hx; cases hy; simp [Op.equalIn, und_ptr hT hk]
  · rename_i hk; cases h; cases hx; cases hy; obtain ⟨ms, hm⟩ := und_iface hT hk w; simp [Op.equalIn, hm]
  · rename_i hk; cases h; cases hx; cases hy; obtain ⟨ms, hm⟩ := und_iface hT hk w; simp [Op.equalIn, hm]
  · rename_i hk; cases h; cases hx; cases hy; obtain ⟨_, _, _, hm⟩ := und_func hT hk w; simp [Op.equalIn, hm]
  · rename_i hk; cases h; cases hx; cases hy; obtain ⟨_, _, _, hm⟩ := und_func hT hk w; simp [Op.equalIn, hm]
  · cases h

theorem eqAV_plain {t : TypeId} {x y : AV} {u v : Value} {r : Bool} (hx : Rep c x u) (hy : Rep c y v) (h : eqAV T t x y = some r) (w : World) :
    (binOp .eql t u v).run P w = .ok (.bool r) w ∧ (binOp .neq t u v).run P w = .ok (.bool !r) w := by
  have he := eqAV_run hT hx hy h w
  unfold eqAV at h
  split at h
  all_goals first
    | (cases h; done)
    | (cases hx; cases hy; constructor <;> simp [binOp, he])

theorem evBin_run {op : BinOp} {t : TypeId} {x y : AV} {u v : Value} {r : AV} (hx : Rep c x u) (hy : Rep c y v) (h : evBin T op t x y = some r) (w : World) :
    ∃ z, (binOp op t u v).run P w = .ok z w ∧ Rep c r z := by
  unfold evBin at h
  split at h
  · cases hx; cases hy
    rw [Option.map_eq_some_iff] at h; obtain ⟨z, h, rfl⟩ := h
    exact ⟨z, intBin_run h w, .v z⟩
  · cases hx; cases hy
    rw [Option.map_eq_some_iff] at h; obtain ⟨z, h, rfl⟩ := h
    exact ⟨z, strBin_run h w, .v z⟩
  · rename_i xs ys
    obtain ⟨us, rfl, hus⟩ := hx.of_agg
    obtain ⟨vs, rfl, hvs⟩ := hy.of_agg
    have key : ∀ fs a b z lv tp, T t = some ⟨.struct fs, a, b, z, true, lv, tp⟩ → ∀ r', eqCells T fs xs ys = some r' → (Op.equal t (.agg us) (.agg vs)).run P w = .ok r' w := by
      intro fs a b z lv tp hr r' hr'
      obtain ⟨_, hst, fields, hu, hnm⟩ := (hT t _ hr).eq rfl
      obtain ⟨d, h1, h2⟩ := (hT t _ hr).und
      rw [hu] at h1; cases h1
      obtain ⟨f2, h3, h4⟩ := h2
      cases h3
      have hf : P.fieldsOf t = fields := by simp [Program.fieldsOf, hu]
      show (Op.equalIn (9999 + 1) t (.agg us) (.agg vs)).run P w = _
      rw [run_equalIn_struct (P := P) w 9999 t us vs (by rw [hf]; exact hu) hst, hf]
      exact eqCells_run hT fields.toList xs ys us vs r' 9998 w hus hvs hnm (by rw [h4]; exact hr')
    split at h
    · rename_i hr
      rw [Option.map_eq_some_iff] at h; obtain ⟨z, h, rfl⟩ := h
      exact ⟨.bool z, by simp [binOp, key _ _ _ _ _ _ hr z h], .v _⟩
    · rename_i hr
      rw [Option.map_eq_some_iff] at h; obtain ⟨z, h, rfl⟩ := h
      exact ⟨.bool !z, by simp [binOp, key _ _ _ _ _ _ hr z h], .v _⟩
    · cases h
  · split at h
    · rw [Option.map_eq_some_iff] at h; obtain ⟨z, h, rfl⟩ := h
      exact ⟨.bool z, (eqAV_plain hT hx hy h w).1, .v _⟩
    · rw [Option.map_eq_some_iff] at h; obtain ⟨z, h, rfl⟩ := h
      exact ⟨.bool !z, (eqAV_plain hT hx hy h w).2, .v _⟩
    · cases h

theorem eqGuard_run {op : BinOp} {t : TypeId} {xo yo : Operand} {x y : AV} {u v : Value} {r : AV} (hx : Rep c x u) (hy : Rep c y v) (h : evBin T op t x y = some r)
    (hb : (bothNil x y && !(constOp xo || constOp yo)) = false) (w : World) : (eqGuard op t xo yo u v).run P w = .ok () w := by
  unfold eqGuard
  cases op
  case eql | neq =>
    unfold evBin at h
    split at h
    · cases hx; cases hy; rfl
    · cases hx; cases hy; rfl
    · rename_i xs ys
      obtain ⟨us, rfl, hus⟩ := hx.of_agg
      obtain ⟨vs, rfl, hvs⟩ := hy.of_agg
      have hg : P.eqGuardType P.depth t = false := by
        split at h
        · rename_i hr _; exact ((hT t _ hr).eq rfl).1
        · rename_i hr _; exact ((hT t _ hr).eq rfl).1
        · cases h
      simp [hg]
    · have hq : ∃ q, eqAV T t x y = some q := by
        simp only at h
        rw [Option.map_eq_some_iff] at h; obtain ⟨z, h, _⟩ := h; exact ⟨z, h⟩
      obtain ⟨q, hq⟩ := hq
      unfold eqAV at hq
      split at hq
      all_goals first
        | (cases hq; done)
        | (cases hx; cases hy; rfl)
        | (cases hx; cases hy
           simp only [bothNil, Bool.true_and, Bool.not_eq_false', Bool.or_eq_true] at hb
           rcases hb with hb | hb
           · cases xo <;> simp [constOp] at hb; rfl
           · cases yo <;> simp [constOp] at hb; cases xo <;> rfl)
  all_goals rfl

include hρ in
theorem simA_binOp (o : Oper) (op : BinOp) (t t' : TypeId) (x y : Operand) (ho : o.op = .binOp op t x y t') {r : AV} (hb : (bothNil (ρa x) (ρa y) && !(constOp x || constOp y)) = false)
    (h : evBin T op t (ρa x) (ρa y) = some r) : SimA P ρ o c id r none := by
  obtain ⟨z, h1, h2⟩ := evBin_run hT (hρ x) (hρ y) h c.w
  exact ⟨z, by simp [execOp, ho, eqGuard_run hT (hρ x) (hρ y) h hb c.w, h1], h2⟩
end

end Go.Bx

/- Class A: cuts, places, parts. (Own text.) -/
namespace Go.Bx
set_option linter.unusedVariables false
set_option linter.unusedSimpArgs false
set_option linter.unusedSectionVars false

section
variable {P : Program} {T : Tab} (hT : TabOK P T) {c : Ctx} {ρa : Operand → AV} {ρ : Operand → Value} {id : Nat} (hρ : ∀ x, Rep c (ρa x) (ρ x))

theorem boundAV_some {d n : Nat} {lo : Option Operand} (h : boundAV d (lo.map ρa) = some n) (hρ : ∀ x, Rep c (ρa x) (ρ x)) :
    (lo = none ∧ n = d) ∨ ∃ x k i, lo = some x ∧ ρ x = .int k i ∧ 0 ≤ i ∧ i.toNat = n := by
  cases lo with
  | none => simp [boundAV] at h; exact .inl ⟨rfl, h.symm⟩
  | some x =>
    right
    simp only [Option.map_some, boundAV] at h
    split at h
    · rename_i h'; cases h'
    · rename_i k i hx
      split at h
      · rename_i h0; cases h
        simp at hx
        exact ⟨x, _, i, rfl, rep_v hρ hx, h0, rfl⟩
      · cases h
    · cases h

theorem sliceBounds_run {l h' n cap : Nat} {lo hi : Option Operand} (isS : Bool) (hρ : ∀ x, Rep c (ρa x) (ρ x)) (h1 : boundAV 0 (lo.map ρa) = some l) (h2 : boundAV n (hi.map ρa) = some h')
    (hl : l ≤ h') (hh : h' ≤ n) (hc : n ≤ cap) (w : World) : (Instr.sliceBounds isS n cap (lo.map ρ) (hi.map ρ) none).run P w = .ok (l, h', cap) w := by
  rcases boundAV_some h2 hρ with ⟨rfl, rfl⟩ | ⟨x, k, i, rfl, hx, h0, h3⟩
  · rcases boundAV_some h1 hρ with ⟨rfl, rfl⟩ | ⟨y, k', i', rfl, hy, h0', h3'⟩
    · simp [Instr.sliceBounds]
    · have e2 := run_sliceBound P w k' i' h' .sliceB h0' (by omega)
      rw [h3'] at e2
      simp [Instr.sliceBounds, hy, e2]
  · have e1 := fun code => run_sliceBound P w k i cap code h0 (by omega)
    simp only [h3] at e1
    rcases boundAV_some h1 hρ with ⟨rfl, rfl⟩ | ⟨y, k', i', rfl, hy, h0', h3'⟩
    · simp [Instr.sliceBounds, hx, e1]
    · have e2 := run_sliceBound P w k' i' h' .sliceB h0' (by omega)
      rw [h3'] at e2
      simp [Instr.sliceBounds, hx, hy, e1, e2]

/-- A part of a view is a view. -/
theorem Rep.cut {es : List Cs} {A : Option Addr} {n cap l h sz : Nat} (hr : Rep c (.sl es) (.slice A n cap)) (hl : l ≤ h) (hh : h ≤ es.length) (hsz : ∀ e ∈ es, e.length = sz) :
    Rep c (.sl ((es.take h).drop l)) (.slice (if cap = l then A else A.map (·.add (l * sz))) (h - l) (cap - l)) := by
  cases hr with
  | sl sz' b o u hn hc hA hsz' hcell hrep =>
    have hget : ∀ i e, ((es.take h).drop l)[i]? = some e → es[l + i]? = some e ∧ l + i < h := by
      intro i e he
      rw [List.getElem?_drop, List.getElem?_take] at he
      split at he
      · exact ⟨he, by assumption⟩
      · cases he
    refine .sl sz b (o + l * sz) (fun i => u (l + i)) (by simp; omega) (by omega) ?_ ?_ ?_ ?_
    · intro hne
      have hlen : 0 < ((es.take h).drop l).length := List.length_pos_iff.2 hne
      simp at hlen
      have hne' : es ≠ [] := by intro h0; subst h0; simp at hh; omega
      rw [hA hne']
      have : cap ≠ l := by omega
      simp [this, add_zero_spot]
    · intro e he
      exact hsz e (List.mem_of_mem_take (List.mem_of_mem_drop he))
    · intro i e j x he hx
      obtain ⟨h1, h2⟩ := hget i e he
      obtain ⟨a1, a2, a3⟩ := hcell (l + i) e j x h1 hx
      have hs : sz' = sz := by rw [← hsz' e (List.mem_of_getElem? h1), hsz e (List.mem_of_getElem? h1)]
      subst hs
      have e1 : o + (l + i) * sz' + j = o + l * sz' + i * sz' + j := by rw [Nat.add_mul]; omega
      rw [e1] at a1 a2
      exact ⟨a1, a2, a3⟩
    · intro i e j x he hx
      exact hrep (l + i) e j x (hget i e he).1 hx

include hT hρ
theorem simA_slice (o : Oper) (t : TypeId) (x : Operand) (lo hi : Option Operand) (ho : o.op = .slice t x lo hi none) {y : AV} {mo : Option Obj} (h : evA T ρa id (.slice t x lo hi none) = some (y, mo)) :
    mo = none ∧ SimA P ρ o c id y none := by
  simp only [evA] at h
  split at h
  · rename_i hk
    split at h
    · rename_i s hs
      have hs' := rep_v hρ hs
      rw [Option.map_eq_some_iff] at h; obtain ⟨z, h, hz⟩ := h; cases hz
      refine ⟨rfl, ?_⟩
      simp only [sliceAV] at h
      split at h
      · rename_i l h' h1 h2
        split at h
        · rename_i hb; cases h
          have hsb := sliceBounds_run (P := P) false hρ h1 h2 hb.1 hb.2 (Nat.le_refl _) c.w
          refine ⟨.string (s.extract l h'), ?_, .v _⟩
          simp [execOp, ho, Instr.sliceAt, und_str hT hk, Instr.slice, hs', hsb]
        · cases h
      · cases h
    · simp at h
  · rename_i e hk
    split at h
    · rename_i r hr
      split at h
      · cases h
      · rename_i id' sz lo0 n hs
        split at h
        · rename_i hsz
          rw [Option.map_eq_some_iff] at h; obtain ⟨z, h, hz⟩ := h; cases hz
          refine ⟨rfl, ?_⟩
          simp only [sliceAV] at h
          split at h
          · rename_i l h' h1 h2
            split at h
            · rename_i hb; cases h
              have hx := hρ x; rw [hs] at hx
              generalize hu : ρ x = u at hx
              cases hx with
              | row L hm hsz' hn ht hA =>
                rename_i A cap
                have hsb := sliceBounds_run (P := P) true hρ h1 h2 hb.1 hb.2 hn c.w
                refine ⟨.slice (if cap = l then A else A.map (·.add (l * r.sz))) (h' - l) (cap - l), ?_, ?_⟩
                · simp [execOp, ho, Instr.sliceAt, und_slice hT hk, Instr.slice, hu, hsb, siz hT hr]
                · refine .row L hm hsz' (by omega) (by omega) (fun hc => ?_)
                  rw [if_neg (by omega), hA (by omega)]
                  simp only [Option.map_some, add_zero_spot, ← hsz]
                  congr 2
                  rw [Nat.add_mul]; omega
              | row0 hm =>
                have hsb := sliceBounds_run (P := P) true hρ h1 h2 hb.1 hb.2 (Nat.le_refl 0) c.w
                have hl0 : l = 0 := by omega
                have hh0 : h' = 0 := by omega
                subst hl0; subst hh0
                refine ⟨ρ x, ?_, by rw [hu]; exact .row0 hm⟩
                simp [execOp, ho, Instr.sliceAt, und_slice hT hk, Instr.slice, hu, hsb, siz hT hr]
            · cases h
          · cases h
        · cases h
      · rename_i es hs
        split at h
        · rename_i hall
          rw [Option.map_eq_some_iff] at h; obtain ⟨z, h, hz⟩ := h; cases hz
          refine ⟨rfl, ?_⟩
          simp only [sliceAV] at h
          split at h
          · rename_i l h' h1 h2
            split at h
            · rename_i hb; cases h
              have hx := hρ x; rw [hs] at hx
              generalize hu : ρ x = u at hx
              have hsz : ∀ e ∈ es, e.length = r.sz := by
                intro e' he'; have := List.all_eq_true.1 hall e' he'; simpa using this
              have hx0 := hx
              cases hx with
              | sl sz b o' u hn hc hA hsz' hcell hrep =>
                rename_i A n cap
                subst hn
                have hsb := sliceBounds_run (P := P) true hρ h1 h2 hb.1 hb.2 hc c.w
                refine ⟨_, ?_, hx0.cut hb.1 hb.2 hsz⟩
                simp [execOp, ho, Instr.sliceAt, und_slice hT hk, Instr.slice, hu, hsb, siz hT hr]
            · cases h
          · cases h
        · cases h
      · rename_i hs0 hs1 hs2
        rw [Option.map_eq_some_iff] at h; obtain ⟨z, h, hz⟩ := h; cases hz
        refine ⟨rfl, ?_⟩
        unfold sliceAV at h
        split at h
        · rename_i hx; exact absurd hx (hs0 _)
        · rename_i hx; exact absurd hx (hs2 _)
        · rename_i hx; exact absurd hx (hs1 _ _ _ _)
        · rename_i hs
          split at h
          · rename_i l h' h1 h2
            split at h
            · rename_i hb; cases h
              have hsb := sliceBounds_run (P := P) true hρ h1 h2 hb.1 hb.2 (Nat.le_refl 0) c.w
              have hl0 : l = 0 := by omega
              have hh0 : h' = 0 := by omega
              subst hl0; subst hh0
              refine ⟨.slice none 0 0, ?_, .v _⟩
              simp [execOp, ho, Instr.sliceAt, und_slice hT hk, Instr.slice, rep_v hρ hs, hsb, siz hT hr]
            · cases h
          · cases h
        · cases h
    · cases h
  · cases h
end

end Go.Bx

/- Class A: places, parts, calls of len, min, max. (Own text.) -/
namespace Go.Bx
set_option linter.unusedVariables false
set_option linter.unusedSimpArgs false
set_option linter.unusedSectionVars false

section
variable {P : Program} {T : Tab} (hT : TabOK P T) {c : Ctx} {ρa : Operand → AV} {ρ : Operand → Value} {id : Nat} (hρ : ∀ x, Rep c (ρa x) (ρ x))

theorem Rep.vpDrop {cs : Cs} {b o : Nat} (n : Nat) (h : Rep c (.vp cs) (.pointer (some ⟨b, o, none⟩))) : Rep c (.vp (cs.drop n)) (.pointer (some ⟨b, o + n, none⟩)) := by
  cases h with
  | vp b o u hcell hrep =>
    refine .vp b (o + n) (fun j => u (n + j)) (fun j x hx => ?_) (fun j x hx => ?_)
    · rw [List.getElem?_drop] at hx
      obtain ⟨h1, h2, h3⟩ := hcell _ x hx
      rw [← Nat.add_assoc] at h1 h2
      exact ⟨h1, h2, h3⟩
    · rw [List.getElem?_drop] at hx
      exact hrep _ x hx

theorem rep_vp {x : Operand} {cs : Cs} (hρ : ∀ x, Rep c (ρa x) (ρ x)) (h : ρa x = .vp cs) : ∃ b o, ρ x = .pointer (some ⟨b, o, none⟩) ∧ Rep c (.vp cs) (.pointer (some ⟨b, o, none⟩)) := by
  have hx := hρ x; rw [h] at hx; generalize ρ x = u at hx
  have h0 := hx
  cases hx with
  | vp b o u hcell hrep => exact ⟨b, o, rfl, h0⟩

theorem rep_ptr {x : Operand} {id' i off : Nat} (hρ : ∀ x, Rep c (ρa x) (ρ x)) (h : ρa x = .ptr id' i off) : ∃ L : Loc, c.m id' = some (.at L) ∧ ρ x = .pointer (some ⟨L.b, L.o + i * L.sz + off, none⟩) := by
  have hx := hρ x; rw [h] at hx; generalize ρ x = u at hx
  cases hx with
  | ptr L hm => exact ⟨L, hm, rfl⟩

/-- The cells of a view, read. -/
theorem vp_load {cs : Cs} {b o n : Nat} (h : Rep c (.vp cs) (.pointer (some ⟨b, o, none⟩))) (hn : n ≤ cs.length) :
    ∃ us : List Value, (loadCells ⟨b, o, none⟩ n).run P c.w = .ok us.toArray c.w ∧ Reps c (cs.take n) us ∧ ∀ v, us[0]? = some v → c.w.cell? ⟨b, o, none⟩ = some v := by
  cases h with
  | vp b o u hcell hrep =>
    refine ⟨(List.range n).map u, ?_, ?_, ?_⟩
    · rw [run_loadCells c.w ⟨b, o, none⟩ n u (fun j hj => by
        rw [add_zero_spot]; exact (hcell j cs[j] (by simp [show j < cs.length by omega])).1)]
    · refine ⟨by simp; omega, fun j x v h1 h2 => ?_⟩
      rw [List.getElem?_take] at h1
      split at h1
      · rename_i hj
        simp [hj] at h2; subst h2
        exact hrep j x h1
      · cases h1
    · intro v hv
      cases n with
      | zero => simp at hv
      | succ n => simp at hv; subst hv; exact (hcell 0 cs[0] (by simp)).1

/-- A variable's value out of its cells. -/
theorem ofCells_rep {ag : Bool} {xs : Cs} {us : List Value} {y : AV} (h : Reps c xs us) (hy : ofCells ag xs = some y) :
    if ag then Rep c y (.agg us.toArray) else ∃ v, us = [v] ∧ Rep c y v := by
  unfold ofCells at hy
  cases ag with
  | true => simp at hy; subst hy; simpa using Rep.to_agg (vs := us.toArray) (by simpa using h)
  | false =>
    simp at hy
    split at hy
    · rename_i x
      cases hy
      have hl := h.1
      match us, hl, h with
      | [v], _, h => exact ⟨v, rfl, h.2 0 _ _ rfl rfl⟩
    · cases hy

include hT in
theorem loadVar_vp {t : TypeId} {r : TRow} (hr : T t = some r) {cs : Cs} {b o : Nat} {y : AV} (h : Rep c (.vp cs) (.pointer (some ⟨b, o, none⟩))) (hn : r.sz ≤ cs.length)
    (hy : ofCells r.desc.isAgg (cs.take r.sz) = some y) : ∃ u, (loadVar t ⟨b, o, none⟩).run P c.w = .ok u c.w ∧ Rep c y u := by
  obtain ⟨us, h1, h2, h3⟩ := vp_load (P := P) h hn
  have h4 := ofCells_rep h2 hy
  cases hag : r.desc.isAgg with
  | true =>
    rw [hag] at h4
    exact ⟨_, by simp [loadVar, agT hT hr, hag, siz hT hr, h1], h4⟩
  | false =>
    rw [hag] at h4
    obtain ⟨v, rfl, h5⟩ := h4
    exact ⟨v, by simp [loadVar, agT hT hr, hag, h3 v rfl], h5⟩

include hT hρ
theorem simA_load (o : Oper) (t : TypeId) (a : Operand) (ho : o.op = .load t a) {r : TRow} {cs : Cs} (hr : T t = some r) (ha : ρa a = .vp cs) {y : AV}
    (hy : (if r.sz ≤ cs.length then ofCells r.desc.isAgg (cs.take r.sz) else none) = some y) : SimA P ρ o c id y none := by
  split at hy
  · rename_i hn
    obtain ⟨b, o', hx, hrep⟩ := rep_vp hρ ha
    obtain ⟨u, h1, h2⟩ := loadVar_vp hT hr hrep hn hy
    exact ⟨u, by simp [execOp, ho, hx, Instr.loadAt, Instr.sureAddr, h1], h2⟩
  · cases hy

omit hρ in
theorem fieldAt_run {s : TypeId} {f o' : Nat} {r : TRow} (h : fieldPlaceT T s f = some (o', r)) (hz : r.sz ≠ 0) (b o : Nat) (w : World) :
    (Instr.fieldAt s (.pointer (some ⟨b, o, none⟩)) f).run P w = .ok (.pointer (some ⟨b, o + o', none⟩)) w := by
  unfold fieldPlaceT at h
  split at h
  · rename_i fs hk
    obtain ⟨fields, hu, hf⟩ := und_struct hT hk w
    split at h
    · rename_i o2 ft hfs
      rw [Option.map_eq_some_iff] at h; obtain ⟨r', hr, h⟩ := h; cases h
      rw [← hf, List.getElem?_map, Option.map_eq_some_iff] at hfs
      obtain ⟨F, hF, hF2⟩ := hfs; cases hF2
      have hF' : fields[f]? = some F := by simpa using hF
      simp [Instr.fieldAt, hu, hF', Instr.sureAddr, fieldPlace, siz hT hr, hz, add_zero_spot]
    · cases h
  · cases h

theorem simA_fieldAddr (o : Oper) (s : TypeId) (x : Operand) (f : Nat) (ho : o.op = .fieldAddr s x f) {y : AV} {mo : Option Obj} (h : evA T ρa id (.fieldAddr s x f) = some (y, mo)) :
    mo = none ∧ SimA P ρ o c id y none := by
  simp only [evA] at h
  split at h
  · rename_i o' r cs hp hx
    split at h
    · cases h
    · rename_i hz; cases h
      obtain ⟨b, oo, hx', hrep⟩ := rep_vp hρ hx
      exact ⟨rfl, _, by simp [execOp, ho, hx', fieldAt_run hT hp hz], hrep.vpDrop o'⟩
  · rename_i o' r id' i off hp hx
    split at h
    · cases h
    · rename_i hz; cases h
      obtain ⟨L, hm, hx'⟩ := rep_ptr hρ hx
      refine ⟨rfl, _, ?_, Rep.ptr (c := c) (i := i) (off := off + o') L hm⟩
      rw [← Nat.add_assoc]
      simp [execOp, ho, hx', fieldAt_run hT hp hz]
  · rename_i o' r id' t' hp hx
    split at h
    · cases h
    · rename_i hz; cases h
      have hr := hρ x; rw [hx] at hr; generalize hu : ρ x = u at hr
      cases hr with
      | tptr L hm h0 ht =>
        refine ⟨rfl, _, ?_, Rep.ptr (c := c) (i := 0) (off := o') L hm⟩
        have e : L.o + 0 * L.sz + o' = 0 + o' := by rw [h0]; omega
        rw [e]
        simp [execOp, ho, hu, fieldAt_run hT hp hz]
  · cases h

theorem simA_field (o : Oper) (s : TypeId) (x : Operand) (f : Nat) (ho : o.op = .field s x f) {y : AV} {mo : Option Obj} (h : evA T ρa id (.field s x f) = some (y, mo)) :
    mo = none ∧ SimA P ρ o c id y none := by
  simp only [evA] at h
  split at h
  · rename_i o' r cs hp hx
    rw [Option.map_eq_some_iff] at h; obtain ⟨z, h, hz⟩ := h; cases hz
    refine ⟨rfl, ?_⟩
    split at h
    · rename_i hb
      have hx' := hρ x; rw [hx] at hx'
      obtain ⟨vs, hv, hreps⟩ := hx'.of_agg
      unfold fieldPlaceT at hp
      split at hp
      · rename_i fs hk
        obtain ⟨fields, hu, hf⟩ := und_struct hT hk c.w
        split at hp
        · rename_i o2 ft hfs
          rw [Option.map_eq_some_iff] at hp; obtain ⟨r', hr, hp⟩ := hp; cases hp
          rw [← hf, List.getElem?_map, Option.map_eq_some_iff] at hfs
          obtain ⟨F, hF, hF2⟩ := hfs; cases hF2
          have hF' : fields[f]? = some F := by simpa using hF
          have hd : Reps c ((cs.drop F.offset).take r.sz) ((vs.toList.drop F.offset).take r.sz) := (hreps.drop _).take _
          have hy := ofCells_rep hd h
          cases hag : r.desc.isAgg with
          | true =>
            rw [hag] at hy
            refine ⟨_, ?_, hy⟩
            simp [execOp, ho, hv, Instr.field, hu, hF', asAgg, part, agT hT hr, hag, siz hT hr]
            apply Array.ext'
            simp [Nat.add_comm]
          | false =>
            rw [hag] at hy
            obtain ⟨v, hv1, hv2⟩ := hy
            refine ⟨v, ?_, hv2⟩
            have : vs[F.offset]? = some v := by
              have h0 : ((vs.toList.drop F.offset).take r.sz)[0]? = some v := by rw [hv1]; rfl
              rw [List.getElem?_take] at h0
              split at h0
              · simpa using h0
              · cases h0
            simp [execOp, ho, hv, Instr.field, hu, hF', asAgg, part, agT hT hr, hag, this]
        · cases hp
      · cases hp
    · cases h
  · cases h

theorem simA_indexAddr (o : Oper) (t : TypeId) (x ix : Operand) (ho : o.op = .indexAddr t x ix) {y : AV} (h : indexAddrAV T t (ρa x) (ρa ix) = some y) : SimA P ρ o c id y none := by
  unfold indexAddrAV at h
  split at h
  · rename_i e es k i hk hx hi
    split at h
    · rename_i r hr
      split at h
      · rename_i h0
        split at h
        · rename_i c' hc
          split at h
          · rename_i hlen; cases h
            have hxx := hρ x; rw [hx] at hxx
            generalize hu : ρ x = u at hxx
            cases hxx with
            | sl sz b o' u hn hcap hA hsz hcell hrep =>
              rename_i A n cap
              have hlt : i.toNat < es.length := (List.getElem?_eq_some_iff.1 hc).1
              have hne : es ≠ [] := by intro h; subst h; simp at hlt
              have hs : sz = r.sz := by rw [← hsz c' (List.mem_of_getElem? hc), hlen]
              have hin : i < (n : Int) := by omega
              have hA' := hA hne
              subst hA'
              refine ⟨.pointer (some ⟨b, o' + i.toNat * r.sz, none⟩), ?_, ?_⟩
              · simp [execOp, ho, hu, rep_v hρ hi, Instr.indexAt, run_asIntOf, und_slice hT hk, h0, hin, siz hT hr, add_zero_spot]
              · refine .vp _ _ (u i.toNat) (fun j z hz => ?_) (fun j z hz => hrep _ _ _ _ hc hz)
                rw [← hs]
                exact hcell _ _ _ _ hc hz
          · cases h
        · cases h
      · cases h
    · cases h
  · rename_i e id' sz lo n k i hk hx hi
    split at h
    · rename_i r hr
      split at h
      · rename_i hb; cases h
        obtain ⟨h0, hlt, hs⟩ := hb
        have hxx := hρ x; rw [hx] at hxx
        generalize hu : ρ x = u at hxx
        cases hxx with
        | row L hm hsz hn ht hA =>
          have hin : i < (n : Int) := by omega
          have hA' := hA (by omega)
          subst hA'
          have h2 := Rep.ptr (c := c) (i := lo + i.toNat) (off := 0) L hm
          refine ⟨_, ?_, h2⟩
          simp only [execOp, ho, hu, rep_v hρ hi, Instr.indexAt, run_asIntOf, und_slice hT hk, h0, hin, siz hT hr, add_zero_spot, Sem.run_bind, Sem.run_pure, Result.andThen_ok, Sem.run_ite, and_self, if_true]
          rw [← hsz] at hs
          congr 4
          simp only [Addr.mk.injEq, true_and, and_true, Nat.add_zero]
          rw [← hs, Nat.add_mul, hsz]; omega
        | row0 hm => omega
      · cases h
    · cases h
  · rename_i n e cs k i hk hx hi
    split at h
    · rename_i r hr
      split at h
      · rename_i hb; cases h
        obtain ⟨b, oo, hx', hrep⟩ := rep_vp hρ hx
        have hin : i < (n : Int) := by omega
        refine ⟨_, ?_, hrep.vpDrop _⟩
        simp [execOp, ho, hx', rep_v hρ hi, Instr.indexAt, run_asIntOf, und_array hT hk, hb.1, hin, siz hT hr, add_zero_spot, Instr.sureAddr]
      · cases h
    · cases h
  · rename_i n e id' j off k i hk hx hi
    split at h
    · rename_i r hr
      split at h
      · rename_i hb; cases h
        obtain ⟨L, hm, hx'⟩ := rep_ptr hρ hx
        have hin : i < (n : Int) := by omega
        refine ⟨_, ?_, Rep.ptr (i := j) (off := off + i.toNat * r.sz) L hm⟩
        rw [← Nat.add_assoc]
        simp [execOp, ho, hx', rep_v hρ hi, Instr.indexAt, run_asIntOf, und_array hT hk, hb.1, hin, siz hT hr, add_zero_spot, Instr.sureAddr]
      · cases h
    · cases h
  · cases h

theorem simA_index (o : Oper) (t : TypeId) (x ix : Operand) (ho : o.op = .index t x ix) {y : AV} {mo : Option Obj} (h : evA T ρa id (.index t x ix) = some (y, mo)) :
    mo = none ∧ SimA P ρ o c id y none := by
  simp only [evA] at h
  split at h
  · rename_i s k i hk hx hi
    split at h
    · rename_i hb; cases h
      refine ⟨rfl, _, ?_, .v _⟩
      simp [execOp, ho, rep_v hρ hx, rep_v hρ hi, Instr.index, run_asIntOf, und_str hT hk, hb.1, hb.2]
    · cases h
  · cases h
end

end Go.Bx

/- Class A: the rest that makes nothing. (Own text.) -/
namespace Go.Bx
set_option linter.unusedVariables false
set_option linter.unusedSimpArgs false
set_option linter.unusedSectionVars false

section
variable {P : Program} {T : Tab} (hT : TabOK P T) {c : Ctx} {ρa : Operand → AV} {ρ : Operand → Value} {id : Nat} (hρ : ∀ x, Rep c (ρa x) (ρ x))

include hρ
theorem simA_nilCheck (o : Oper) (x : Operand) (ho : o.op = .nilCheck x) {y : AV} {mo : Option Obj} (h : evA T ρa id (.nilCheck x) = some (y, mo)) :
    mo = none ∧ SimA P ρ o c id y none := by
  simp only [evA] at h
  have hx := hρ x
  split at h
  · rename_i hxa; cases h; rw [hxa] at hx; refine ⟨rfl, ρ x, ?_, hx⟩
    generalize hu : ρ x = u at hx
    cases hx
    simp [execOp, ho, hu]
  · rename_i hxa; cases h; rw [hxa] at hx; refine ⟨rfl, ρ x, ?_, hx⟩
    generalize hu : ρ x = u at hx
    cases hx
    simp [execOp, ho, hu]
  · rename_i hxa; cases h; rw [hxa] at hx; refine ⟨rfl, ρ x, ?_, hx⟩
    generalize hu : ρ x = u at hx
    cases hx
    simp [execOp, ho, hu]
  · rename_i hxa; cases h; rw [hxa] at hx; refine ⟨rfl, ρ x, ?_, hx⟩
    generalize hu : ρ x = u at hx
    cases hx
    simp [execOp, ho, hu]
  · cases h

include hT in
theorem simA_convert (o : Oper) (s d : TypeId) (x : Operand) (ho : o.op = .convert s d x) {y : AV} {mo : Option Obj} (h : evA T ρa id (.convert s d x) = some (y, mo)) :
    mo = none ∧ SimA P ρ o c id y none := by
  simp only [evA] at h
  split at h
  · rename_i sd k k' n hs hd hx; cases h
    obtain ⟨td, htd⟩ : ∃ td, (underlying s).run P c.w = .ok td c.w := by
      unfold tdesc at hs; cases hq : T s with
      | none => simp [hq] at hs
      | some R => obtain ⟨d', h1, _⟩ := (hT s R hq).und; exact ⟨d', run_underlying h1 c.w⟩
    refine ⟨rfl, _, ?_, .v _⟩
    simp [execOp, ho, rep_v hρ hx, convert, htd, und_int hT hd, Conv.intToInt]
  · rename_i sd b hs hd hx; cases h
    obtain ⟨td, htd⟩ : ∃ td, (underlying s).run P c.w = .ok td c.w := by
      unfold tdesc at hs; cases hq : T s with
      | none => simp [hq] at hs
      | some R => obtain ⟨d', h1, _⟩ := (hT s R hq).und; exact ⟨d', run_underlying h1 c.w⟩
    refine ⟨rfl, _, ?_, .v _⟩
    simp [execOp, ho, rep_v hρ hx, convert, htd, und_str hT hd]
  · cases h

include hT in
theorem simA_makeInterface (o : Oper) (t : TypeId) (x : Operand) (ho : o.op = .makeInterface t x) {y : AV} {mo : Option Obj} (h : evA T ρa id (.makeInterface t x) = some (y, mo)) :
    mo = none ∧ SimA P ρ o c id y none := by
  simp only [evA] at h
  split at h
  · cases h
  · rename_i d hd hne; cases h
    obtain ⟨td, htd, hni⟩ := und_not_iface hT hne (by intro h; subst h; exact hd rfl) c.w
    refine ⟨rfl, _, ?_, .ifc (hρ x)⟩
    simp only [execOp, ho, Instr.makeInterface, Sem.run_bind, htd, Result.andThen_ok]
    cases td <;> first | rfl | (exact absurd rfl (hni _))
  · cases h

theorem map_reps (xs : List Operand) : Reps c (xs.map ρa) (xs.map ρ) := Reps.of_map fun x _ => hρ x

theorem simA_makeFunc (o : Oper) (f : FuncId) (a b : Array Operand) (ho : o.op = .makeFunc (.func f) a b) : SimA P ρ o c id (.fn f (a.toList.map ρa) (b.toList.map ρa)) none := by
  refine ⟨.func (.func f) (a.map ρ) (b.map ρ), by simp [execOp, ho, Instr.makeFunc], .fn (by simp) (by simp) ?_ ?_⟩
  · intro j x u h1 h2
    exact (map_reps hρ a.toList).2 j x u h1 (by simpa using h2)
  · intro j x u h1 h2
    exact (map_reps hρ b.toList).2 j x u h1 (by simpa using h2)

theorem simA_extract (o : Oper) (x : Operand) (i : Nat) (ho : o.op = .extract x i) {y : AV} {mo : Option Obj} (h : evA T ρa id (.extract x i) = some (y, mo)) :
    mo = none ∧ SimA P ρ o c id y none := by
  simp only [evA] at h
  split at h
  · rename_i vs hx
    rw [Option.map_eq_some_iff] at h; obtain ⟨z, h, hz⟩ := h; cases hz
    have hxx := hρ x; rw [hx] at hxx
    generalize hu : ρ x = u at hxx
    cases hxx with
    | tup hl hh =>
      rename_i us
      have hlt : i < us.size := by rw [hl]; exact (List.getElem?_eq_some_iff.1 h).1
      refine ⟨rfl, us[i], ?_, hh i _ _ h (by simp [hlt])⟩
      simp [execOp, ho, hu, Instr.extract, hlt]
  · cases h

include hT in
theorem simA_len (o : Oper) (args : Array Operand) (ts : Array TypeId) (ho : o.op = .call ⟨.builtin .len, args, ts⟩) {y : AV} {mo : Option Obj} (h : evA T ρa id (.call ⟨.builtin .len, args, ts⟩) = some (y, mo)) :
    mo = none ∧ SimA P ρ o c id y none := by
  simp only [evA] at h
  split at h
  · rename_i r x hr hargs
    have hts : ∃ t, ts[0]? = some t ∧ T t = some r := by
      cases hq : ts[0]? with
      | none => simp [hq] at hr
      | some t => simp [hq] at hr; exact ⟨t, rfl, hr⟩
    obtain ⟨t, ht, hTt⟩ := hts
    have ha : args = #[x] := by apply Array.ext'; simpa using hargs
    subst ha
    have hxx := hρ x
    split at h
    · rename_i n hd hn
      split at h
      · rename_i s hs; cases h
        rw [hs] at hn; simp [lenAV] at hn; subst hn
        refine ⟨rfl, _, ?_, .v _⟩
        have hk : tdesc T t = some .str := by simp [tdesc, hTt, hd]
        simp [execOp, ho, resolve, invoke, builtin, Builtin.len_, ht, rep_v hρ hs, und_str hT hk, goInt]
      · cases h
    · rename_i e n hd hn
      have hk : tdesc T t = some (.slice e) := by simp [tdesc, hTt, hd]
      split at h
      · cases h
      · rename_i hns; cases h
        refine ⟨rfl, .int .i64 n, ?_, .v _⟩
        have hv : ∃ A cp, ρ x = .slice A n cp := by
          unfold lenAV at hn
          split at hn
          · rename_i s hs; exact absurd hs (hns s)
          · rename_i hs; cases hn; exact ⟨none, 0, rep_v hρ hs⟩
          · rename_i es hs; cases hn
            rw [hs] at hxx; generalize hu : ρ x = u at hxx; cases hxx; rename_i hn _ _ _ _; subst hn; exact ⟨_, _, rfl⟩
          · rename_i hs; cases hn
            rw [hs] at hxx; generalize hu : ρ x = u at hxx; cases hxx <;> exact ⟨_, _, rfl⟩
          · rename_i hs; cases hn
            rw [hs] at hxx; generalize hu : ρ x = u at hxx; cases hxx; exact ⟨_, _, rfl⟩
          · cases hn
        obtain ⟨A, cp, hv⟩ := hv
        simp [execOp, ho, resolve, invoke, builtin, Builtin.len_, ht, hv, und_slice hT hk, goInt]
    · cases h
  · cases h

theorem simA_min (o : Oper) (args : Array Operand) (ts : Array TypeId) (ho : o.op = .call ⟨.builtin .min, args, ts⟩) {y : AV} {mo : Option Obj} (h : evA T ρa id (.call ⟨.builtin .min, args, ts⟩) = some (y, mo)) :
    mo = none ∧ SimA P ρ o c id y none := by
  simp only [evA] at h
  split at h
  · rename_i x z hargs
    have ha : args = #[x, z] := by apply Array.ext'; simpa using hargs
    subst ha
    split at h
    · rename_i k a k' b hx hz; cases h
      refine ⟨rfl, _, ?_, .v _⟩
      simp [execOp, ho, resolve, invoke, builtin, Builtin.min_, Builtin.min2, rep_v hρ hx, rep_v hρ hz]
    · cases h
  · cases h

theorem simA_max (o : Oper) (args : Array Operand) (ts : Array TypeId) (ho : o.op = .call ⟨.builtin .max, args, ts⟩) {y : AV} {mo : Option Obj} (h : evA T ρa id (.call ⟨.builtin .max, args, ts⟩) = some (y, mo)) :
    mo = none ∧ SimA P ρ o c id y none := by
  simp only [evA] at h
  split at h
  · rename_i x z hargs
    have ha : args = #[x, z] := by apply Array.ext'; simpa using hargs
    subst ha
    split at h
    · rename_i k a k' b hx hz; cases h
      refine ⟨rfl, _, ?_, .v _⟩
      simp [execOp, ho, resolve, invoke, builtin, Builtin.max_, Builtin.max2, rep_v hρ hx, rep_v hρ hz]
    · cases h
  · cases h
end

end Go.Bx

/- Class A: what makes an object, and structs that are built. (Own text.) -/
namespace Go.Bx
set_option linter.unusedVariables false
set_option linter.unusedSimpArgs false
set_option linter.unusedSectionVars false

theorem foldl_put (off : Nat) : ∀ (l : List Value) (k : Nat) (arr : Array Value), off + k + l.length ≤ arr.size →
    ((l.zipIdx k).foldl (fun (cs : Array Value) (p : Value × Nat) => cs.setIfInBounds (off + p.2) p.1) arr).toList = arr.toList.take (off + k) ++ l ++ arr.toList.drop (off + k + l.length)
  | [], k, arr, h => by simp
  | x :: l, k, arr, h => by
    have hk : off + k < arr.size := by simp at h; omega
    rw [List.zipIdx_cons, List.foldl_cons, foldl_put off l (k + 1) _ (by simp at h ⊢; omega)]
    have hk' : off + k < arr.toList.length := by simpa using hk
    have e1 : (arr.toList.set (off + k) x).take (off + (k + 1)) = arr.toList.take (off + k) ++ [x] := by
      rw [List.set_eq_take_append_cons_drop, if_pos hk', ← Nat.add_assoc, List.take_append]
      simp only [List.length_take, Nat.min_eq_left (Nat.le_of_lt hk'), List.take_take]
      rw [Nat.min_eq_right (by omega), show off + k + 1 - (off + k) = 1 by omega]
      rfl
    have e2 : (arr.toList.set (off + k) x).drop (off + (k + 1) + l.length) = arr.toList.drop (off + k + (x :: l).length) := by
      rw [List.drop_set_of_lt (by omega)]
      congr 1
      simp; omega
    simp only [Array.toList_setIfInBounds, e1, e2]
    simp

section
variable {P : Program} {T : Tab} (hT : TabOK P T) {c : Ctx} {ρa : Operand → AV} {ρ : Operand → Value} {id : Nat} (hρ : ∀ x, Rep c (ρa x) (ρ x))

theorem fill_rep {place place' : Nat → Option (Nat × Nat)} (hp : ∀ i x, place i = some x → place' i = some x) :
    ∀ (parts : List (Nat × AV)) (parts' : List (Nat × Value)) (xs ys : Cs) (us : Array Value), Reps c xs us.toList → parts.map (·.1) = parts'.map (·.1) →
      (∀ (j : Nat) (a : Nat × AV) (b : Nat × Value), parts[j]? = some a → parts'[j]? = some b → Rep c a.2 b.2) → fillL place xs parts = some ys →
      ∃ vs, Instr.fill place' us parts' = some vs ∧ Reps c ys vs.toList
  | [], parts', xs, ys, us, hr, hl, _, h => by
    simp at hl; subst hl; simp [fillL] at h; subst h; exact ⟨us, rfl, hr⟩
  | (i, x) :: parts, [], xs, ys, us, hr, hl, _, h => by simp at hl
  | (i, x) :: parts, (i', v) :: parts', xs, ys, us, hr, hl, hq, h => by
    simp at hl; obtain ⟨rfl, hl⟩ := hl
    simp only [fillL] at h
    split at h
    · cases h
    · rename_i off size hpl
      split at h
      · rename_i hb
        have hx : Rep c x v := hq 0 _ _ rfl rfl
        have hc := cells_reps hx hb.2.2
        have hsz : v.cells.size = size := by have := hc.1; simp at this; omega
        have husz : us.size = xs.length := by have := hr.1; simp at this; omega
        have hfold := foldl_put off v.cells.toList 0 us (by simp; omega)
        obtain ⟨vs, h1, h2⟩ := fill_rep hp parts parts' (putAt xs off (cells x)) ys (v.cells.zipIdx.foldl (fun (cs : Array Value) (p : Value × Nat) => cs.setIfInBounds (off + p.2) p.1) us) (by
          rw [← Array.foldl_toList, Array.toList_zipIdx, hfold]
          unfold putAt
          rw [hc.1]
          simp only [Nat.add_zero]
          exact ((hr.take off).append hc).append (hr.drop _)) hl (fun j a b ha hb => hq (j + 1) a b (by simpa using ha) (by simpa using hb)) h
        refine ⟨vs, ?_, h2⟩
        unfold Instr.fill
        rw [hp i _ hpl]
        simp only [hsz, ne_eq, not_true_eq_false, decide_false, Bool.false_or, decide_eq_true_eq]
        rw [if_neg (by omega)]
        exact h1
      · cases h

include hT hρ

omit hρ in
theorem mapM_places : ∀ (fs : List Field), (∀ f ∈ fs, (T f.type).isSome = true) →
    ∃ pl : List (Nat × Nat), fs.mapM (fun f => (P.info? f.type).map fun i => (f.offset, i.size)) = some pl ∧
      ∀ (i : Nat) (f : Field), fs[i]? = some f → ∀ r, T f.type = some r → pl[i]? = some (f.offset, r.sz)
  | [], _ => ⟨[], by simp, fun i f h => by simp at h⟩
  | f :: fs, h => by
    obtain ⟨pl, h1, h2⟩ := mapM_places fs (fun g hg => h g (by simp [hg]))
    obtain ⟨r, hr⟩ := Option.isSome_iff_exists.1 (h f (by simp))
    obtain ⟨i, hi, hs, _⟩ := (hT _ r hr).info
    refine ⟨(f.offset, r.sz) :: pl, by simp [List.mapM_cons, hi, h1, hs], ?_⟩
    intro j g hj r' hr'
    cases j with
    | zero => simp at hj; subst hj; rw [hr] at hr'; cases hr'; rfl
    | succ j => simpa using h2 j g (by simpa using hj) r' hr'

theorem simA_build (o : Oper) (t : TypeId) (parts : Array (Nat × Operand)) (ho : o.op = .build t parts) {y : AV} {mo : Option Obj} (h : evA T ρa id (.build t parts) = some (y, mo)) :
    mo = none ∧ SimA P ρ o c id y none := by
  simp only [evA] at h
  split at h
  · rename_i fs sz by' z eq lv tp hr
    rw [Option.map_eq_some_iff] at h; obtain ⟨yy, h, hz⟩ := h; cases hz
    split at h
    · rename_i hcond
      rw [Option.map_eq_some_iff] at h; obtain ⟨ys, h, hy⟩ := h; subst hy
      refine ⟨rfl, ?_⟩
      obtain ⟨hzl, hall⟩ := hcond
      obtain ⟨i, hi, h2, h3, h4⟩ := (hT t _ hr).info
      obtain ⟨zv, hz1, hz2, hz3⟩ := h4 hzl
      obtain ⟨d, hd1, hd2⟩ := (hT t _ hr).und
      obtain ⟨fields, rfl, hf⟩ := hd2
      obtain ⟨pl, hp1, hp2⟩ := mapM_places (P := P) hT fields.toList (by
        intro f hfm
        have := List.all_eq_true.1 hall (f.offset, f.type) (by rw [← hf]; exact List.mem_map_of_mem hfm)
        simpa using this)
      obtain ⟨vs, hv1, hv2⟩ := fill_rep (c := c) (place := fun i => match fs[i]? with
        | some (o, ft) => (T ft).map fun r => (o, r.sz)
        | none => none) (place' := (pl.toArray[·]?)) (by
          intro j x hx
          split at hx
          · rename_i o' ft hfs
            rw [Option.map_eq_some_iff] at hx; obtain ⟨r, hr', hx⟩ := hx; subst hx
            rw [← hf, List.getElem?_map, Option.map_eq_some_iff] at hfs
            obtain ⟨F, hF, hF2⟩ := hfs; cases hF2
            simpa using hp2 j F hF r hr'
          · cases hx)
        (parts.toList.map fun p => (p.1, ρa p.2)) (parts.map fun (i, x) => (i, ρ x)).toList (z.map .v) ys zv.cells (by
          rw [hz2]
          simpa using Reps.of_map (c := c) (l := z) (f := .v) (g := fun x => x) fun x _ => .v x)
        (by simp) (by
          intro j a b ha hb
          simp only [Array.toList_map, List.getElem?_map, Option.map_eq_some_iff] at ha hb
          obtain ⟨a', ha1, ha2⟩ := ha; obtain ⟨b', hb1, hb2⟩ := hb
          rw [ha1] at hb1; cases hb1; subst ha2; subst hb2
          exact hρ _) h
      have hb : P.built t (parts.map fun (i, x) => (i, ρ x)).toList = some vs := by
        unfold Program.built
        simp only [hi, hd1, hz1, hp1]
        exact hv1
      exact ⟨.agg vs, by simp [execOp, ho, run_build c.w t _ vs hb], Rep.to_agg hv2⟩
    · cases h
  · cases h
end

end Go.Bx

/- Class A: what makes an object; and the whole of class A. (Own text.) -/
namespace Go.Bx
set_option linter.unusedVariables false
set_option linter.unusedSimpArgs false
set_option linter.unusedSectionVars false

section
variable {P : Program} {T : Tab} (hT : TabOK P T) {c : Ctx} {ρa : Operand → AV} {ρ : Operand → Value} {id : Nat} (hρ : ∀ x, Rep c (ρa x) (ρ x))

theorem ptr_new {c' : Ctx} {b sz tot : Nat} (h : c'.m id = some (.at ⟨b, 0, sz, tot⟩)) : Rep c' (.ptr id 0 0) (.pointer (some ⟨b, 0, none⟩)) := by
  have := Rep.ptr (c := c') (i := 0) (off := 0) ⟨b, 0, sz, tot⟩ h
  simpa using this

theorem row_new {c' : Ctx} {b sz tot : Nat} (h : c'.m id = some (.at ⟨b, 0, sz, tot⟩)) : Rep c' (.row id sz 0 tot) (.slice (some ⟨b, 0, none⟩) tot tot) :=
  .row ⟨b, 0, sz, tot⟩ h rfl (Nat.le_refl _) (by simp) (fun _ => by simp)

include hρ
theorem simA_box (o : Oper) (t : TypeId) (x : Operand) (ho : o.op = .box t x) {y : AV} {mo : Option Obj} (h : evA T ρa id (.box t x) = some (y, mo)) :
    SimA P ρ o c id y mo := by
  simp only [evA] at h
  split at h
  · rename_i r hr
    split at h
    · rename_i hb; cases h
      have hc := cells_reps (hρ x) hb.2
      refine ⟨.pointer (some ⟨c.w.heap.size, 0, none⟩), (ρ x).cells, t, ?_, ?_, rfl, ?_, (fun h => by cases h), ?_, ?_⟩
      · simp [execOp, ho, Instr.box, newVar, newRow]
      · have := hc.1; simp at this; simp; omega
      · intro e he; simp at he; subst he
        exact ⟨hb.1, fun z hz => List.all_eq_true.1 hb.2 z hz⟩
      · intro i e j z he hz
        cases i with
        | succ i => simp at he
        | zero =>
          simp at he; subst he
          have hlt : j < (ρ x).cells.size := by have := hc.1; simp at this; have := (List.getElem?_eq_some_iff.1 hz).1; omega
          refine ⟨(ρ x).cells[j], by simp [hlt], hc.2 j z _ hz (by simp [hlt])⟩
      · intro c' hm hty
        exact ptr_new hm
    · cases h
  · cases h

omit hρ in
include hT in
theorem simA_alloc (o : Oper) (t : TypeId) (ho : o.op = .alloc t) {y : AV} {mo : Option Obj} (h : evA T ρa id (.alloc t) = some (y, mo)) :
    SimA P ρ o c id y mo := by
  simp only [evA] at h
  split at h
  · rename_i r hr
    split at h
    · rename_i hb; cases h
      obtain ⟨z, hz1, hz2, hz3⟩ := zer hT hr hb c.w
      have hsz : z.cells.size = r.sz := by rw [← hb, ← hz2]; simp
      refine ⟨.pointer (some ⟨c.w.heap.size, 0, none⟩), z.cells, t, ?_, by simpa using hsz, rfl, ?_, (fun h => by cases h), ?_, ?_⟩
      · simp [execOp, ho, Instr.alloc, hz1, newVar, newRow]
      · intro e he; simp at he; subst he
        refine ⟨by simpa using hb, fun q hq => ?_⟩
        simp at hq; obtain ⟨q', hq, rfl⟩ := hq
        exact hz3 q' hq
      · intro i e j q he hq
        cases i with
        | succ i => simp at he
        | zero =>
          simp at he; subst he
          rw [List.getElem?_map, Option.map_eq_some_iff] at hq; obtain ⟨q', hq, rfl⟩ := hq
          refine ⟨q', ?_, .v q'⟩
          rw [← hz2] at hq
          simpa using hq
      · intro c' hm hty
        split
        · exact .tptr ⟨c.w.heap.size, 0, r.sz, 1⟩ hm rfl (by rw [hty, hsz])
        · exact ptr_new hm
    · cases h
  · cases h

include hT in
theorem simA_buildSlice (o : Oper) (t : TypeId) (len : Nat) (parts : Array (Nat × Operand)) (ho : o.op = .buildSlice t len parts) {y : AV} {mo : Option Obj} (h : evA T ρa id (.buildSlice t len parts) = some (y, mo)) :
    SimA P ρ o c id y mo := by
  simp only [evA] at h
  split at h
  · rename_i e hk
    split at h
    · rename_i r hr
      split at h
      · rename_i hb; cases h
        obtain ⟨hs0, hle, hfst, hall, hzl⟩ := hb
        obtain ⟨z, hz1, hz2, hz3⟩ := zer hT hr hzl c.w
        have hzs : z.cells.size = r.sz := by rw [← hzl, ← hz2]; simp
        have hlen : parts.toList.length = len := by have := congrArg List.length hfst; simpa using this
        have hparts : (parts.map fun (i, x) => (i, ρ x)).toList = ((parts.toList.map fun p => ρ p.2).zipIdx 0).map fun x => (x.2, x.1) := by
          apply List.ext_getElem?
          intro k
          simp only [Array.toList_map, List.getElem?_map, List.getElem?_zipIdx, Option.map_map]
          cases hp : parts.toList[k]? with
          | none => rfl
          | some p =>
            have : p.1 = k := by
              have h1 : (parts.toList.map (·.1))[k]? = some p.1 := by rw [List.getElem?_map, hp]; rfl
              rw [hfst] at h1
              rw [List.getElem?_range (by have := (List.getElem?_eq_some_iff.1 hp).1; omega)] at h1
              cases h1; rfl
            obtain ⟨p1, p2⟩ := p
            simp at this; subst this
            simp
        have hwid : ∀ p ∈ parts.toList, (cells (ρa p.2)).length = r.sz ∧ (cells (ρa p.2)).all leaf = true := by
          intro p hp
          have := List.all_eq_true.1 hall (cells (ρa p.2)) (List.mem_map_of_mem hp)
          simpa using this
        obtain ⟨arr, h1, h2, h3⟩ := Great.fill_dense (Nat.pos_of_ne_zero hs0) (parts.toList.map fun p => ρ p.2) 0 ((Array.range (len * r.sz)).map (z.cells[· % z.cells.size]!)) (by
          intro v hv
          simp at hv; obtain ⟨a, b, hp, rfl⟩ := hv
          have hw := hwid (a, b) (by simpa using hp)
          have := (cells_reps (hρ b) hw.2).1
          simp at this; rw [← this]; exact hw.1) (by simp; rw [← hlen]; simp)
        have hlen' : parts.size = len := by simpa using hlen
        refine ⟨.slice (some ⟨c.w.heap.size, 0, none⟩) len len, arr, e, ?_, ?_, rfl, ?_, (fun h el hel x hx => List.all_eq_true.1 (List.all_eq_true.1 h el hel) x hx), ?_, ?_⟩
        · have hn : ¬ (len * r.sz > 2 ^ 24) := by omega
          simp only [execOp, ho, Instr.buildSlice, Sem.run_bind, und_slice hT hk, Result.andThen_ok, siz hT hr, Sem.run_ite]
          rw [if_neg hn]
          by_cases h0 : len * r.sz = 0
          · have h1' : Instr.fill (fun i => some (i * r.sz, r.sz)) ((Array.range (len * r.sz)).map ((#[] : Array Value)[· % (#[] : Array Value).size]!)) (parts.map fun (i, x) => (i, ρ x)).toList = some arr := by
              rw [hparts, ← h1, h0]
              congr 1
              apply Array.ext <;> simp
            simp only [h0, if_true, Sem.run_pure, Result.andThen_ok]
            rw [h0] at h1'
            simp only [h1', Sem.run_bind, Sem.run_pure, Result.andThen_ok, newRow, run_newObj]
            rfl
          · rw [← hparts] at h1
            simp only [h0, if_false, Sem.run_bind, Sem.run_pure, Result.andThen_ok, hz1, h1, newRow, run_newObj]
            rfl
        · rw [h2]; simp [hlen']
        · intro el hel
          simp at hel; obtain ⟨a, b, hp, rfl⟩ := hel
          have hw := hwid (a, b) (by simpa using hp)
          exact ⟨hw.1, fun q hq => List.all_eq_true.1 hw.2 q hq⟩
        · intro i el j q hel hq
          rw [List.getElem?_map, Option.map_eq_some_iff] at hel; obtain ⟨p, hp, rfl⟩ := hel
          have hw := hwid p (List.mem_of_getElem? hp)
          have hc := cells_reps (hρ p.2) hw.2
          have hj : j < r.sz := by rw [← hw.1]; exact (List.getElem?_eq_some_iff.1 hq).1
          have hi : i < len := by rw [← hlen]; exact (List.getElem?_eq_some_iff.1 hp).1
          have hjs : j < (ρ p.2).cells.size := by have := hc.1; simp at this; omega
          refine ⟨(ρ p.2).cells[j], ?_, hc.2 j q _ hq (by simp [hjs])⟩
          rw [h3]
          have hlt : i * r.sz + j < (0 + (parts.toList.map fun p => ρ p.2).length) * r.sz := by
            simp [hlen']
            calc i * r.sz + j < i * r.sz + r.sz := by omega
              _ = (i + 1) * r.sz := by rw [Nat.add_mul]; simp
              _ ≤ len * r.sz := Nat.mul_le_mul_right _ hi
          rw [if_pos ⟨by simp, hlt⟩]
          have hd : (i * r.sz + j) / r.sz = i := by
            rw [Nat.add_comm, Nat.add_mul_div_right _ _ (Nat.pos_of_ne_zero hs0), Nat.div_eq_of_lt hj]; simp
          have hm : (i * r.sz + j) % r.sz = j := by rw [Nat.add_comm, Nat.add_mul_mod_self_right, Nat.mod_eq_of_lt hj]
          rw [hd, hm, Nat.sub_zero, List.getElem?_map, hp]
          simp [hjs]
        · intro c' hm hty
          have hl : (parts.toList.map fun p => cells (ρa p.2)).length = len := by simpa using hlen'
          rw [hl] at hm
          by_cases h0 : len = 0
          · subst h0; rw [if_pos rfl]; exact .emp
          · rw [if_neg h0]; exact row_new hm
      · cases h
    · cases h
  · cases h

include hT in
theorem simA_makeSlice (o : Oper) (t : TypeId) (l m : Operand) (ho : o.op = .makeSlice t l m) {y : AV} {mo : Option Obj} (h : evA T ρa id (.makeSlice t l m) = some (y, mo)) :
    SimA P ρ o c id y mo := by
  simp only [evA] at h
  split at h
  · rename_i e k n k' n' hk hl hm
    split at h
    · rename_i r hr
      split at h
      · rename_i hb; cases h
        obtain ⟨h0, rfl, hmax, hby, hzl⟩ := hb
        obtain ⟨z, hz1, hz2, hz3⟩ := zer hT hr hzl c.w
        have hzs : z.cells.size = r.sz := by rw [← hzl, ← hz2]; simp
        obtain ⟨i, hi, his, hib⟩ := tinf hT hr c.w
        have hwrap : IntKind.i64.wrap n = n := IntWalk.i64_in n ⟨by omega, by omega⟩
        refine ⟨.slice (some ⟨c.w.heap.size, 0, none⟩) n.toNat n.toNat, (Array.range (n.toNat * r.sz)).map ((if n.toNat * r.sz = 0 then #[] else z.cells)[· % (if n.toNat * r.sz = 0 then #[] else z.cells).size]!), e, ?_, by simp, rfl, ?_, ?_, ?_, ?_⟩
        · have e1 : ¬ (n < 0) := by omega
          have e2 : ¬ ((i.bytes : Int) * n > 2 ^ 48) := by rw [hib]; omega
          have e3 : (decide (n < 0) || decide ((i.bytes : Int) * n > 2 ^ 48) || decide (n < 0) || decide (n > n)) = false := by simp [e1]; omega
          simp only [execOp, ho, Instr.makeSlice, Sem.run_bind, und_slice hT hk, Result.andThen_ok, asInt, rep_v hρ hl, rep_v hρ hm, run_asIntOf, Sem.run_pure, hi, hwrap, e3]
          simp only [Bool.false_eq_true, if_false, Sem.run_bind, run_askRoom, Result.andThen_ok, siz hT hr]
          by_cases hz0 : n.toNat * r.sz = 0
          · simp only [hz0, if_true, Sem.run_bind, Sem.run_pure, Result.andThen_ok, newRow, run_newObj]
            rfl
          · simp only [hz0, if_false, Sem.run_bind, Sem.run_pure, Result.andThen_ok, newRow, run_newObj, hz1]
            rfl
        · intro el hel
          have := List.eq_of_mem_replicate hel; subst this
          refine ⟨by simpa using hzl, fun q hq => ?_⟩
          simp at hq; obtain ⟨q', hq, rfl⟩ := hq
          exact hz3 q' hq
        · intro _ el hel q hq
          have := List.eq_of_mem_replicate hel; subst this
          simp at hq; obtain ⟨q', hq, rfl⟩ := hq
          exact hz3 q' hq
        · intro i' el j q hel hq
          have hlt : i' < n.toNat := by have := (List.getElem?_eq_some_iff.1 hel).1; simpa using this
          have := List.eq_of_mem_replicate (List.mem_of_getElem? hel); subst this
          rw [List.getElem?_map, Option.map_eq_some_iff] at hq; obtain ⟨q', hq, rfl⟩ := hq
          have hj : j < r.sz := by rw [← hzl]; exact (List.getElem?_eq_some_iff.1 hq).1
          refine ⟨q', ?_, .v q'⟩
          have hlt2 : i' * r.sz + j < n.toNat * r.sz := by
            calc i' * r.sz + j < i' * r.sz + r.sz := by omega
              _ = (i' + 1) * r.sz := by rw [Nat.add_mul]; simp
              _ ≤ n.toNat * r.sz := Nat.mul_le_mul_right _ hlt
          have hne : n.toNat * r.sz ≠ 0 := by omega
          simp only [hne, if_false]
          have hm2 : (i' * r.sz + j) % r.sz = j := by rw [Nat.add_comm, Nat.add_mul_mod_self_right, Nat.mod_eq_of_lt hj]
          rw [← hz2] at hq
          have hq2 : z.cells[j]? = some q' := by simpa using hq
          have hjz : j < z.cells.size := by rw [hzs]; exact hj
          have hq3 : z.cells[j] = q' := by simpa [hjz] using hq2
          simp [hlt2, hzs, hm2, hq3, getElem!_pos z.cells j hjz]
        · intro c' hm' _
          simp only [List.length_replicate] at hm'
          exact row_new hm'
      · cases h
    · cases h
  · cases h

include hT in
/-- THE WHOLE OF CLASS A. -/
theorem simA (o : Oper) {y : AV} {mo : Option Obj} (h : evA T ρa id o.op = some (y, mo)) : SimA P ρ o c id y mo := by
  cases ho : o.op with
  | move x => rw [ho] at h; simp only [evA] at h; cases h; exact simA_move hρ o x (.inl ho)
  | assign x => rw [ho] at h; simp only [evA] at h; cases h; exact simA_move hρ o x (.inr ho)
  | pick q a b =>
    rw [ho] at h; simp only [evA] at h
    split at h
    · rename_i b' hq; cases h; exact simA_pick hρ o q a b ho hq
    · cases h
  | build t parts => rw [ho] at h; obtain ⟨rfl, h'⟩ := simA_build hT hρ o t parts ho h; exact h'
  | buildSlice t len parts => rw [ho] at h; exact simA_buildSlice hT hρ o t len parts ho h
  | box t x => rw [ho] at h; exact simA_box hρ o t x ho h
  | alloc t => rw [ho] at h; exact simA_alloc hT o t ho h
  | makeSlice t l m => rw [ho] at h; exact simA_makeSlice hT hρ o t l m ho h
  | binOp op t x y' t' =>
    rw [ho] at h; simp only [evA] at h
    rw [Option.map_eq_some_iff] at h; obtain ⟨z, h, hz⟩ := h; cases hz
    split at h
    · cases h
    · rename_i hb; exact simA_binOp hT hρ o op t t' x y' ho (by simpa using hb) h
  | unOp op t x =>
    rw [ho] at h; simp only [evA] at h
    rw [Option.map_eq_some_iff] at h; obtain ⟨z, h, hz⟩ := h; cases hz
    exact simA_unOp hρ o op t x ho h
  | nilCheck x => rw [ho] at h; obtain ⟨rfl, h'⟩ := simA_nilCheck hρ o x ho h; exact h'
  | convert s d x => rw [ho] at h; obtain ⟨rfl, h'⟩ := simA_convert hT hρ o s d x ho h; exact h'
  | makeInterface t x => rw [ho] at h; obtain ⟨rfl, h'⟩ := simA_makeInterface hT hρ o t x ho h; exact h'
  | makeFunc f a b =>
    rw [ho] at h
    cases f with
    | func f => simp only [evA] at h; cases h; exact simA_makeFunc hρ o f a b ho
    | _ => simp [evA] at h
  | slice t x lo hi mx =>
    rw [ho] at h
    cases mx with
    | none => obtain ⟨rfl, h'⟩ := simA_slice hT hρ o t x lo hi ho h; exact h'
    | some m => simp [evA] at h
  | fieldAddr s x f => rw [ho] at h; obtain ⟨rfl, h'⟩ := simA_fieldAddr hT hρ o s x f ho h; exact h'
  | field s x f => rw [ho] at h; obtain ⟨rfl, h'⟩ := simA_field hT hρ o s x f ho h; exact h'
  | indexAddr t x ix =>
    rw [ho] at h; simp only [evA] at h
    rw [Option.map_eq_some_iff] at h; obtain ⟨z, h, hz⟩ := h; cases hz
    exact simA_indexAddr hT hρ o t x ix ho h
  | index t x ix => rw [ho] at h; obtain ⟨rfl, h'⟩ := simA_index hT hρ o t x ix ho h; exact h'
  | extract x i => rw [ho] at h; obtain ⟨rfl, h'⟩ := simA_extract hρ o x i ho h; exact h'
  | load t a =>
    rw [ho] at h; simp only [evA] at h
    split at h
    · rename_i r cs hr ha
      rw [Option.map_eq_some_iff] at h; obtain ⟨z, h, hz⟩ := h; cases hz
      exact simA_load hT hρ o t a ho hr ha h
    · cases h
  | call cl =>
    rw [ho] at h
    obtain ⟨cal, args, ts⟩ := cl
    cases cal with
    | value f => simp [evA] at h
    | invoke r m => simp [evA] at h
    | builtin b =>
      cases b with
      | len => obtain ⟨rfl, h'⟩ := simA_len hT hρ o args ts ho h; exact h'
      | min => obtain ⟨rfl, h'⟩ := simA_min hρ o args ts ho h; exact h'
      | max => obtain ⟨rfl, h'⟩ := simA_max hρ o args ts ho h; exact h'
      | _ => simp [evA] at h
  | _ => rw [ho] at h; simp [evA] at h
end

end Go.Bx

/- The evaluator: objects, calls, code. (Own text.) -/
namespace Go.Bx
set_option linter.unusedVariables false
set_option linter.unusedSimpArgs false
set_option linter.unusedSectionVars false

def mapO {α β : Type} (f : α → Option β) : List α → Option (List β)
  | [] => some []
  | x :: xs => match f x, mapO f xs with
    | some y, some ys => some (y :: ys)
    | _, _ => none

def slice (es : List Cs) (lo n : Nat) : List Cs := (es.drop lo).take n

/-- The rows that a value leads to. -/
def rowIds (σ : Store) : Nat → AV → List Nat
  | 0, _ => []
  | n + 1, .row id _ _ _ => id :: (match σ.ob id with
    | some o => if o.flat then [] else o.es.flatMap fun e => e.flatMap (rowIds σ n)
    | none => [])
  | n + 1, .agg cs => cs.flatMap (rowIds σ n)
  | _, _ => []

def share (σ : Store) (id : Nat) : Store := match σ.ob id with
  | some o => if o.sh then σ else σ.put id (some { o with sh := true })
  | none => σ

def shareAll (σ : Store) (ids : List Nat) : Store := ids.foldl share σ

/-- The least of the objects that come to be shared. -/
def omin : Option Nat → Option Nat → Option Nat
  | none, b => b
  | a, none => a
  | some a, some b => some (if a < b then a else b)

def fresh1 (σ : Store) (id : Nat) : Option Nat := match σ.ob id with
  | some o => if o.sh then none else some id
  | none => none

def freshL (σ : Store) (ids : List Nat) : Option Nat := ids.foldl (fun a id => omin a (fresh1 σ id)) none

/-- A value as a view: what it leads to is shared. -/
def reify (σ : Store) : Nat → AV → Option AV
  | _, .v (.slice none 0 0) => some (.sl [])
  | _, .emp => some (.sl [])
  | n + 1, .row id _ lo k => match σ.ob id with
    | some o => if o.sh = true ∧ lo + k ≤ o.es.length then (if o.flat then some (.sl (slice o.es lo k)) else match mapO (fun e => mapO (reify σ n) e) (slice o.es lo k) with
          | some es => if (es.all fun e => e.all pl) = true then some (.sl es) else none
          | none => none) else none
    | none => none
  | n + 1, .agg cs => (mapO (reify σ n) cs).map .agg
  | _, .own _ _ _ => none
  | 0, .row _ _ _ _ => none
  | 0, .agg _ => none
  | _, x => some x

def cut (c0 : Nat) : Option Nat → Option Nat
  | some l => if l < c0 then some l else none
  | none => none

/-- A result on its way out. -/
def export1 (σ : Store) (c0 : Nat) (k : Option Nat) (x : AV) : Option AV :=
  match k, x with
  | some sz, .v (.slice none 0 0) => some (.own false sz [])
  | some sz, .emp => some (.own false sz [])
  | _, .row id sz lo n => match σ.ob id with
    | some o => if c0 ≤ id ∧ lo + n ≤ o.es.length ∧ (o.sh = true → lo + n = o.es.length) then
        (if o.flat then some (.own o.sh sz (slice o.es lo n)) else match mapO (fun e => mapO (reify σ 8) e) (slice o.es lo n) with
          | some es => if (es.all fun e => e.all pl) = true then some (.own o.sh sz es) else none
          | none => none) else none
    | none => none
  | _, .own _ _ _ => none
  | _, x => some x

def exportL (σ : Store) (c0 : Nat) : List (Option Nat) → Cs → Option Cs
  | [], [] => some []
  | k :: ks, x :: xs => match export1 σ c0 k x, exportL σ c0 ks xs with
    | some y, some ys => some (y :: ys)
    | _, _ => none
  | _, _ => none

def exportV (T : Tab) (σ : Store) (c0 : Nat) (t : TypeId) (x : AV) : Option AV :=
  match T t, x with
  | some r, .agg cs => (exportL σ c0 r.lv cs).map .agg
  | some _, .tup _ => none
  | some r, x => match r.lv with
    | [k] => export1 σ c0 k x
    | _ => none
  | none, _ => none

def exportVs (T : Tab) (σ : Store) (c0 : Nat) : List TypeId → Cs → Option Cs
  | [], [] => some []
  | t :: ts, x :: xs => match exportV T σ c0 t x, exportVs T σ c0 ts xs with
    | some y, some ys => some (y :: ys)
    | _, _ => none
  | _, _ => none

def rowOf : AV → List Nat
  | .row id _ _ _ => [id]
  | _ => []

/-- The rows that results bear. -/
def rowsOf (xs : Cs) : List Nat := xs.flatMap fun x => (cells x).flatMap rowOf

/-- Leads to nothing that goes with the call. -/
def closed : AV → Bool
  | .v _ => true
  | .emp => true
  | .sl _ => true
  | .vp _ => true
  | .own _ _ _ => true
  | .fn _ [] [] => true
  | .ifc _ x => pl x
  | .junk => true
  | _ => false

def killAll (σ : Store) (ids : List Nat) : Store := ids.foldl (fun σ id => σ.put id none) σ

def one : Cs → AV
  | [y] => y
  | ys => .tup ys

def import1 (σ : Store) : AV → AV × Store
  | .own sh sz es => (.row σ.clock sz 0 es.length, σ.new ⟨sz, sh, true, es⟩)
  | x => (x, σ)

def importL : Store → Cs → Cs × Store
  | σ, [] => ([], σ)
  | σ, x :: xs => ((import1 σ x).1 :: (importL (import1 σ x).2 xs).1, (importL (import1 σ x).2 xs).2)

def import2 (σ : Store) : AV → AV × Store
  | .agg cs => (.agg (importL σ cs).1, (importL σ cs).2)
  | x => import1 σ x

def import2L : Store → Cs → Cs × Store
  | σ, [] => ([], σ)
  | σ, x :: xs => ((import2 σ x).1 :: (import2L (import2 σ x).2 xs).1, (import2L (import2 σ x).2 xs).2)

def importAV (σ : Store) : AV → AV × Store
  | .tup vs => (.tup (import2L σ vs).1, (import2L σ vs).2)
  | x => import2 σ x

/-- What a call gives: the result, the store, the least elder object that was changed. -/
abbrev CR := AV × Store × Option Nat
abbrev CI := FuncId → Cs → Store → Option CR

/-- What an operation gives: the value (for its slot), the store, the least object that was changed, does it look at objects. -/
structure OR where
  y : AV
  σ : Store
  md : Option Nat
  rd : Bool

def flatOf (σ : Store) : AV → Bool
  | .row id _ _ _ => match σ.ob id with
    | some o => o.flat
    | none => false
  | _ => true

def elems (σ : Store) : AV → Option (List Cs)
  | .sl es => some es
  | .row id _ lo n => match σ.ob id with
    | some o => if lo + n ≤ o.es.length then some (slice o.es lo n) else none
    | none => none
  | .v (.slice none 0 0) => some []
  | .emp => some []
  | _ => none

def byteCells (s : ByteArray) : List Cs := s.data.toList.map fun b => [.v (.int .u8 b.toNat)]

/-- What an append's source holds: of one slice type, or a text's bytes. -/
def elemsT (T : Tab) (t t' : TypeId) (σ : Store) (x : AV) : Option (List Cs) :=
  if t = t' then elems σ x else match tdesc T t', x with
    | some .str, .v (.string s) => some (byteCells s)
    | _, _ => none

def evAppend (T : Tab) (σ : Store) (t t' : TypeId) (s x : AV) : Option OR :=
  match tdesc T t with
  | some (.slice e) => match T e with
    | some r => match elemsT T t t' σ x with
      | some new =>
        if (new.all fun c => c.length == r.sz) = true ∧ r.sz ≠ 0 ∧ r.bytes ≠ 0 ∧ r.zero.length = r.sz then match s with
        | .v (.slice none 0 0) =>
          if new.length * r.bytes ≤ 140737488355328 then
            some ⟨.row σ.clock r.sz 0 new.length, σ.new ⟨r.sz, false, flatOf σ x, new⟩, none, true⟩ else none
        | .emp =>
          if new.length * r.bytes ≤ 140737488355328 then
            some ⟨.row σ.clock r.sz 0 new.length, σ.new ⟨r.sz, false, flatOf σ x, new⟩, none, true⟩ else none
        | .row id sz lo n => match σ.ob id with
          | some o => if sz = r.sz ∧ lo + n ≤ o.es.length ∧ (n + new.length) * r.bytes ≤ 140737488355328 ∧ (o.sh = true → lo + n = o.es.length) then
              some ⟨.row σ.clock r.sz 0 (n + new.length), (σ.put id none).new ⟨r.sz, o.sh, o.flat && flatOf σ x, slice o.es lo n ++ new⟩, some id, true⟩ else none
          | none => none
        | .trow id t0 n => match σ.ob id with
          | some o => if t0 = e ∧ r.sz = 1 ∧ o.sz = 1 ∧ n ≤ o.es.length ∧ (n + new.length) * r.bytes ≤ 140737488355328 ∧ o.sh = false then
              some ⟨.trow σ.clock t0 (n + new.length), (σ.put id none).new ⟨r.sz, o.sh, o.flat && flatOf σ x, slice o.es 0 n ++ new⟩, some id, true⟩ else none
          | none => none
        | _ => none
        else none
      | none => none
    | none => none
  | _ => none

def evLoad (T : Tab) (σ : Store) (t : TypeId) (a : AV) : Option OR :=
  match T t, a with
  | some r, .ptr id i off => match σ.ob id with
    | some o => match o.es[i]? with
      | some e => if off + r.sz ≤ e.length then (ofCells r.desc.isAgg ((e.drop off).take r.sz)).map fun y => ⟨y, σ, none, true⟩ else none
      | none => none
    | none => none
  | _, _ => none

def evStore (T : Tab) (σ : Store) (t : TypeId) (a x : AV) : Option OR :=
  match T t, a with
  | some r, .ptr id i off => match σ.ob id with
    | some o => match o.es[i]? with
      | some e =>
        if o.sh = false ∧ (cells x).length = r.sz ∧ (cells x).all leaf = true ∧ off + r.sz ≤ e.length then
          some ⟨.junk, σ.put id (some { o with es := o.es.set i (putAt e off (cells x)), flat := o.flat && (cells x).all pl }), some id, true⟩ else none
      | none => none
    | none => none
  | _, _ => none

/-- What a call's arguments lead to, but for those that are handed over as they are. -/
def lendIds (b : Nat → Bool) (σ : Store) : Nat → Cs → List Nat
  | _, [] => []
  | i, x :: xs => (if b i = true then [] else rowIds σ 8 x) ++ lendIds b σ (i + 1) xs
def lendL (b : Nat → Bool) (σ : Store) : Nat → Cs → Option Cs
  | _, [] => some []
  | i, x :: xs => match (if b i = true then some x else reify σ 8 x), lendL b σ (i + 1) xs with
    | some y, some ys => some (y :: ys)
    | _, _ => none

def evCall (br : FuncId → Nat → Bool) (ci : CI) (σ : Store) (f : AV) (args : Cs) : Option OR :=
  match f with
  | .fn g first caps =>
    let as := first ++ args ++ caps
    let ids := lendIds (br g) σ 0 as
    match lendL (br g) (shareAll σ ids) 0 as with
    | some as' => match ci g as' (shareAll σ ids) with
      | some (r, σ', tl) => some ⟨(importAV σ' r).1, (importAV σ' r).2, omin (freshL σ ids) tl, true⟩
      | none => none
    | none => none
  | _ => none

/-- The builtin copy, onto the head of a row of single cells. -/
def evCopy (T : Tab) (σ : Store) (t t' : TypeId) (d x : AV) : Option OR :=
  match tdesc T t, tdesc T t', d with
  | some (.slice e), some (.slice e'), .row id 1 0 n => match T e, σ.ob id, elems σ x with
    | some r, some ⟨1, false, true, es⟩, some new => if e' = e ∧ r.sz = 1 ∧ n = es.length ∧ new.length ≤ n ∧ (new.all fun c => c.length == r.sz && c.all pl) = true then
        some ⟨.v (.int .i64 new.length), σ.put id (some ⟨1, false, true, new ++ es.drop new.length⟩), some id, true⟩ else none
    | _, _, _ => none
  | _, _, _ => none
/-- Bytes as a text. -/
def strOf : List Cs → Option (List UInt8)
  | [] => some []
  | e :: l => match e, strOf l with
    | [.v (.int .u8 k)], some z => some (UInt8.ofNat k.toNat :: z)
    | _, _ => none
def evConv (T : Tab) (σ : Store) (s d : TypeId) (x : AV) : Option OR :=
  match tdesc T s, tdesc T d, elems σ x with
  | some (.slice e), some .str, some new => match T e, strOf new with
    | some ⟨.int .u8, 1, _, _, _, _, _⟩, some z => some ⟨.v (.string ⟨z.toArray⟩), σ, none, true⟩
    | _, _ => none
  | _, _, _ => none

/-- An operation that looks at objects. -/
def evB (T : Tab) (br : FuncId → Nat → Bool) (ci : CI) (ρ : Operand → AV) (σ : Store) (o : Op) : Option OR :=
  match o with
  | .load t a => evLoad T σ t (ρ a)
  | .store t a x => evStore T σ t (ρ a) (ρ x)
  | .call ⟨.builtin .append, args, ts⟩ => match args.toList, ts.toList with
    | [s, x], [t, t'] => evAppend T σ t t' (ρ s) (ρ x)
    | _, _ => none
  | .call ⟨.builtin .copy, args, ts⟩ => match args.toList, ts.toList with
    | [d, x], [t, t'] => evCopy T σ t t' (ρ d) (ρ x)
    | _, _ => none
  | .convert s d x => evConv T σ s d (ρ x)
  | .call ⟨.value f, args, _⟩ => evCall br ci σ (ρ f) (args.toList.map ρ)
  | _ => none

/-- An operation. -/
def evO (T : Tab) (br : FuncId → Nat → Bool) (ci : CI) (ρ : Operand → AV) (σ : Store) (o : Op) : Option OR :=
  match evA T ρ σ.clock o with
  | some (y, none) => some ⟨y, σ, none, false⟩
  | some (y, some ob) => some ⟨y, σ.new ob, none, false⟩
  | none => evB T br ci ρ σ o

/-- The state of a call under way: the slots, the objects, the least elder object that was changed; the clock at its begin. -/
structure FS where
  tm : Cs
  σ : Store
  low : Option Nat
  c0 : Nat

def resAV (T : Tab) (tm : Cs) (σ : Store) : ResultVar → Option AV
  | .tmp t => some (tm.getD t .junk)
  | .cell a t => (evLoad T σ t (tm.getD a .junk)).map (·.y)

/-- The rows that the elements of a row lead to. -/
def innerIds (σ : Store) : AV → List Nat
  | .row id _ _ _ => match σ.ob id with
    | some o => if o.flat then [] else o.es.flatMap fun e => e.flatMap (rowIds σ 8)
    | none => []
  | _ => []

/-- Ahead of the end of a call: what the results' elements lead to is shared. -/
def retShare (T : Tab) (fn : Func) (s : FS) : FS := match mapO (resAV T s.tm s.σ) fn.results.toList with
  | some xs => ⟨s.tm, shareAll s.σ ((xs.flatMap cells).flatMap (innerIds s.σ)), omin s.low (cut s.c0 (freshL s.σ ((xs.flatMap cells).flatMap (innerIds s.σ)))), s.c0⟩
  | none => s

/-- The end of a call. -/
def evReturn0 (T : Tab) (σ0 : Store) (fn : Func) (s : FS) : Option CR :=
  match mapO (resAV T s.tm s.σ) fn.results.toList with
  | some xs => match exportVs T s.σ σ0.clock fn.resultTypes.toList xs with
    | some ys => if (rowsOf xs).Nodup ∧ (s.low.isSome = true ∨ (ys.all fun y => (cells y).all closed) = true) then
        some (one ys, match s.low with
          | some _ => killAll s.σ (rowsOf xs)
          | none => σ0, s.low) else none
    | none => none
  | none => none

def evReturn (T : Tab) (σ0 : Store) (fn : Func) (s : FS) : Option CR := evReturn0 T σ0 fn (retShare T fn s)

theorem evCopy_inv {T : Tab} {σ : Store} {t t' : TypeId} {d x : AV} {r : OR} (h : evCopy T σ t t' d x = some r) : ∃ id n es new, d = .row id 1 0 n ∧ σ.ob id = some ⟨1, false, true, es⟩ ∧ new.length ≤ es.length ∧
    r = ⟨.v (.int .i64 new.length), σ.put id (some ⟨1, false, true, new ++ es.drop new.length⟩), some id, true⟩ := by
  unfold evCopy at h
  split at h
  · split at h
    · rename_i hob _
      split at h
      · rename_i hc; cases h; exact ⟨_, _, _, _, rfl, hob, by have := hc.2.2.1; have := hc.2.2.2.1; omega, rfl⟩
      · cases h
    · cases h
  · cases h
theorem evConv_inv {T : Tab} {σ : Store} {s d : TypeId} {x : AV} {r : OR} (h : evConv T σ s d x = some r) : ∃ z, r = ⟨.v (.string z), σ, none, true⟩ := by
  unfold evConv at h
  split at h
  · split at h
    · cases h; exact ⟨_, rfl⟩
    · cases h
  · cases h
end Go.Bx

/- How the invariant goes on: new objects, objects that are written, shared. (Own text.) -/
namespace Go.Bx
set_option linter.unusedVariables false
set_option linter.unusedSimpArgs false
set_option linter.unusedSectionVars false

theorem cell_alloc_old {w : World} (o : Go.Obj) {a : Addr} (h : a.block < w.heap.size) : (w.alloc o).cell? a = w.cell? a := by
  have : (w.alloc o).heap[a.block]? = w.heap[a.block]? := by
    show (w.heap.push o)[a.block]? = _
    rw [Array.getElem?_push]; rw [if_neg (by omega)]
  simp only [World.cell?, this]

theorem heap_alloc_old {w : World} (o : Go.Obj) {b : Nat} (h : b < w.heap.size) : (w.alloc o).heap[b]? = w.heap[b]? := by
  show (w.heap.push o)[b]? = _
  rw [Array.getElem?_push]; rw [if_neg (by omega)]

theorem tyOf_alloc {w : World} (o : Go.Obj) {b : Nat} {t : TypeId × Nat} (h : tyOf w b = some t) : tyOf (w.alloc o) b = some t := by
  have hb : b < w.heap.size := by
    cases Nat.lt_or_ge b w.heap.size with
    | inl h' => exact h'
    | inr h' => simp [tyOf, Array.getElem?_eq_none h'] at h
  unfold tyOf at *; rw [heap_alloc_old o hb]; exact h

theorem tyOf_of {w w' : World} {b : Nat} (h : w'.heap[b]? = w.heap[b]?) : tyOf w' b = tyOf w b := by unfold tyOf; rw [h]

theorem tyOf_cells {w : World} {b : Nat} {arr : Array Value} {T : TypeId} {f : Nat × Nat} (h : w.heap[b]? = some (.cells arr T f)) : tyOf w b = some (T, arr.size) := by simp [tyOf, h]

theorem tyOf_row {w w' : World} {b0 : Nat} {arr arr' : Array Value} {T : TypeId} {f : Nat × Nat} (h1 : w.heap[b0]? = some (.cells arr T f)) (h2 : w'.heap[b0]? = some (.cells arr' T f)) (hs : arr'.size = arr.size)
    (ho : ∀ b, b ≠ b0 → w'.heap[b]? = w.heap[b]?) (b : Nat) (t : TypeId × Nat) (h : tyOf w b = some t) : tyOf w' b = some t := by
  by_cases hb : b = b0
  · subst hb; rw [tyOf_cells h2, hs]; rw [tyOf_cells h1] at h; exact h
  · rw [tyOf_of (ho b hb)]; exact h

theorem heap_alloc_new (w : World) (o : Go.Obj) : (w.alloc o).heap[w.heap.size]? = some o := by
  show (w.heap.push o)[w.heap.size]? = _
  simp

theorem size_alloc (w : World) (o : Go.Obj) : (w.alloc o).heap.size = w.heap.size + 1 := by
  show (w.heap.push o).size = _
  simp

def Ctx.place (c : Ctx) (o : Go.Obj) (id : Nat) (l : ML) : Ctx := { w := c.w.alloc o, S := c.S, m := fun j => if j = id then some l else c.m j }

theorem Core.S_lt {ob : Nat → Option Obj} {c : Ctx} {base : Nat} (h : Core ob c base) {a : Addr} (ha : c.S a) : a.block < c.w.heap.size := by
  obtain ⟨_, u, hu⟩ := h.inn a ha
  exact block_of_cell hu

theorem Core.b_lt {ob : Nat → Option Obj} {c : Ctx} {base : Nat} (h : Core ob c base) {id : Nat} {o : Obj} {L : Loc} (ho : ob id = some o) (hm : c.m id = some (.at L)) : L.b < c.w.heap.size := by
  obtain ⟨arr, T, h1, _⟩ := (h.obj id o L ho hm).mem
  exact (Array.getElem?_eq_some_iff.1 h1).1

theorem Ext.place {ob : Nat → Option Obj} {c : Ctx} {base : Nat} (h : Core ob c base) (o : Go.Obj) {id : Nat} (l : ML) (hm : c.m id = none) : Ext c (c.place o id l) :=
  ⟨fun _ h => h, fun a ha => cell_alloc_old o (h.S_lt ha), fun j x hx => by
    simp only [Ctx.place]; rw [if_neg (by intro e; subst e; rw [hm] at hx; cases hx)]; exact hx, by simp only [Ctx.place, size_alloc]; omega, rfl, rfl, rfl, fun _ _ h => tyOf_alloc o h⟩

/-- An object that has no place yet may be added, or turned, or taken away. -/
theorem Core.swap {ob ob' : Nat → Option Obj} {c : Ctx} {base : Nat} (h : Core ob c base) (hn : ∀ id, ob' id = ob id ∨ ob' id = none ∨ c.m id = none) : Core ob' c base where
  obj := fun id o L h1 h2 => by
    rcases hn id with e | e | e
    · rw [e] at h1; exact h.obj id o L h1 h2
    · rw [e] at h1; cases h1
    · rw [e] at h2; cases h2
  virt := fun id o h1 h2 => by
    rcases hn id with e | e | e
    · rw [e] at h1; exact h.virt id o h1 h2
    · rw [e] at h1; cases h1
    · rw [e] at h2; cases h2
  apart := fun id id' o o' L L' h1 h2 h3 h4 h5 => by
    rcases hn id with e | e | e
    · rcases hn id' with e' | e' | e'
      · rw [e] at h1; rw [e'] at h2; exact h.apart id id' o o' L L' h1 h2 h3 h4 h5
      · rw [e'] at h2; cases h2
      · rw [e'] at h4; cases h4
    · rw [e] at h1; cases h1
    · rw [e] at h3; cases h3
  inn := h.inn
  free := fun id o L h1 h2 => by
    rcases hn id with e | e | e
    · rw [e] at h1; exact h.free id o L h1 h2
    · rw [e] at h1; cases h1
    · rw [e] at h2; cases h2
  base_le := h.base_le

theorem ObjOK.mono {c c' : Ctx} {base : Nat} {o : Obj} {L : Loc} (e : Ext c c') (hb : c'.w.heap[L.b]? = c.w.heap[L.b]?) (h : ObjOK c base o L) : ObjOK c' base o L where
  sz := h.sz
  base := h.base
  tot := h.tot
  wid := h.wid
  leafs := h.leafs
  flat := h.flat
  mem := by
    obtain ⟨arr, T, h1, h2, h3⟩ := h.mem
    refine ⟨arr, T, hb.trans h1, h2, fun i el j x hi hj => ?_⟩
    obtain ⟨u, a1, a2, a3⟩ := h3 i el j x hi hj
    exact ⟨u, a1, a2.mono e, fun hs => e.S _ (a3 hs)⟩

def Ctx.placeS (c : Ctx) (o : Go.Obj) (id : Nat) (L : Loc) (n : Nat) : Ctx :=
  { w := c.w.alloc o, S := fun a => c.S a ∨ (a.block = c.w.heap.size ∧ a.spot = none ∧ a.off < n), m := fun j => if j = id then some (.at L) else c.m j }

theorem Ext.placeS {ob : Nat → Option Obj} {c : Ctx} {base : Nat} (h : Core ob c base) (o : Go.Obj) {id : Nat} (L : Loc) (n : Nat) (hm : c.m id = none) : Ext c (c.placeS o id L n) :=
  ⟨fun _ h => .inl h, fun a ha => cell_alloc_old o (h.S_lt ha), fun j x hx => by
    simp only [Ctx.placeS]; rw [if_neg (by intro e; subst e; rw [hm] at hx; cases hx)]; exact hx, by simp only [Ctx.placeS, size_alloc]; omega, rfl, rfl, rfl, fun _ _ h => tyOf_alloc o h⟩

/-- An object gets its place: a new block; 'n': how many of its cells are sealed. -/
theorem Core.placeS {ob : Nat → Option Obj} {c : Ctx} {base : Nat} (h : Core ob c base) {id : Nat} {o : Obj} (ho : ob id = some o) (hm : c.m id = none) {arr : Array Value} {T : TypeId} {tot n : Nat}
    (hs : arr.size = tot * o.sz) (htot : o.es.length ≤ tot) (hsh : n = if o.sh then o.es.length * o.sz else 0) (hw : ∀ e ∈ o.es, e.length = o.sz ∧ ∀ x ∈ e, leaf x = true) (hfl : o.flat = true → ∀ e ∈ o.es, ∀ x ∈ e, pl x = true)
    (hr : ∀ i e j x, o.es[i]? = some e → e[j]? = some x → ∃ u, arr[i * o.sz + j]? = some u ∧ Rep c x u) :
    Core ob (c.placeS (.cells arr T) id ⟨c.w.heap.size, 0, o.sz, tot⟩ n) base := by
  have e := Ext.placeS h (.cells arr T) ⟨c.w.heap.size, 0, o.sz, tot⟩ n hm
  have hml : ∀ j, (c.placeS (.cells arr T) id ⟨c.w.heap.size, 0, o.sz, tot⟩ n).m j = if j = id then some (.at ⟨c.w.heap.size, 0, o.sz, tot⟩) else c.m j := fun _ => rfl
  have hn : n ≤ tot * o.sz := by
    rw [hsh]; split
    · exact Nat.mul_le_mul_right _ htot
    · omega
  refine ⟨?_, ?_, ?_, ?_, ?_, ?_⟩
  · intro j q L h1 h2
    rw [hml] at h2
    split at h2
    · rename_i hj; subst hj; cases h2; rw [ho] at h1; cases h1
      refine ⟨rfl, h.base_le, htot, fun e he => (hw e he).1, fun e he => (hw e he).2, hfl, arr, T, heap_alloc_new _ _, by simp [hs], ?_⟩
      intro i el k x hi hk
      obtain ⟨u, a1, a2⟩ := hr i el k x hi hk
      refine ⟨u, by simpa using a1, a2.mono e, fun hsh' => .inr ⟨rfl, rfl, ?_⟩⟩
      rw [hsh, hsh', if_pos rfl]
      have h3 : k < o.sz := by rw [← (hw el (List.mem_of_getElem? hi)).1]; exact (List.getElem?_eq_some_iff.1 hk).1
      have h4 : i < o.es.length := (List.getElem?_eq_some_iff.1 hi).1
      have h5 : (i + 1) * o.sz ≤ o.es.length * o.sz := Nat.mul_le_mul_right _ h4
      rw [Nat.add_mul] at h5
      simp; omega
    · exact (h.obj j q L h1 h2).mono e (heap_alloc_old _ (h.b_lt h1 h2))
  · intro j q h1 h2
    rw [hml] at h2
    split at h2
    · cases h2
    · exact h.virt j q h1 h2
  · intro j j' q q' L L' h1 h2 h3 h4 h5
    rw [hml] at h3 h4
    split at h3
    · rename_i hj; subst hj; cases h3
      rw [if_neg (Ne.symm h5)] at h4
      have := h.b_lt h2 h4
      simp; omega
    · split at h4
      · cases h4
        have := h.b_lt h1 h3
        simp; omega
      · exact h.apart j j' q q' L L' h1 h2 h3 h4 h5
  · intro a ha
    rcases ha with ha | ⟨hb, hsp, hoff⟩
    · obtain ⟨h1, u, h2⟩ := h.inn a ha
      exact ⟨h1, u, (cell_alloc_old _ (h.S_lt ha)).trans h2⟩
    · refine ⟨hsp, ?_⟩
      obtain ⟨b, off, sp⟩ := a
      simp at hb hsp hoff; subst hb; subst hsp
      have hlt : off < arr.size := by rw [hs]; omega
      exact ⟨arr[off], by
        have := cell_of (o := off) (heap_alloc_new c.w (.cells arr T))
        exact this.trans (by simp [hlt])⟩
  · intro j q L h1 h2 a ha hab
    rw [hml] at h2
    split at h2
    · rename_i hj; subst hj; cases h2; rw [ho] at h1; cases h1
      rcases ha with ha | ⟨_, _, hoff⟩
      · have := h.S_lt ha
        simp at hab; omega
      · right
        rw [hsh] at hoff
        split at hoff
        · rename_i hs'; exact ⟨hs', by simpa using hoff⟩
        · omega
    · rcases ha with ha | ⟨hb, _, _⟩
      · exact h.free j q L h1 h2 a ha hab
      · have := h.b_lt h1 h2
        omega
  · have := h.base_le
    simp only [Ctx.placeS, size_alloc]; omega

theorem Core.place {ob : Nat → Option Obj} {c : Ctx} {base : Nat} (h : Core ob c base) {id : Nat} {o : Obj} (ho : ob id = some o) (hm : c.m id = none) {arr : Array Value} {T : TypeId}
    (hs : arr.size = o.es.length * o.sz) (hsh : o.sh = false) (hw : ∀ e ∈ o.es, e.length = o.sz ∧ ∀ x ∈ e, leaf x = true) (hfl : o.flat = true → ∀ e ∈ o.es, ∀ x ∈ e, pl x = true)
    (hr : ∀ i e j x, o.es[i]? = some e → e[j]? = some x → ∃ u, arr[i * o.sz + j]? = some u ∧ Rep c x u) :
    Core ob (c.place (.cells arr T) id (.at ⟨c.w.heap.size, 0, o.sz, o.es.length⟩)) base := by
  have := h.placeS (T := T) (n := 0) ho hm hs (Nat.le_refl _) (by rw [hsh]; rfl) hw hfl hr
  have e : c.placeS (.cells arr T) id ⟨c.w.heap.size, 0, o.sz, o.es.length⟩ 0 = c.place (.cells arr T) id (.at ⟨c.w.heap.size, 0, o.sz, o.es.length⟩) := by
    simp only [Ctx.placeS, Ctx.place, Nat.not_lt_zero, and_false, or_false]
  rwa [e] at this

theorem Ext.drew (c : Ctx) : Ext c { c with w := c.w.drew } := ⟨fun _ h => h, fun _ _ => rfl, fun _ _ h => h, Nat.le_refl _, rfl, rfl, rfl, fun _ _ h => h⟩

theorem Core.drew {ob : Nat → Option Obj} {c : Ctx} {base : Nat} (h : Core ob c base) : Core ob { c with w := c.w.drew } base :=
  ⟨fun id o L h1 h2 => (h.obj id o L h1 h2).mono (Ext.drew c) rfl, h.virt, h.apart, h.inn, h.free, h.base_le⟩

/-- Another object's block is left alone. -/
theorem Core.other {ob : Nat → Option Obj} {c : Ctx} {base : Nat} (h : Core ob c base) {id j : Nat} {o q : Obj} {L K : Loc} (ho : ob id = some o) (hm : c.m id = some (.at L)) (hq : ob j = some q) (hk : c.m j = some (.at K))
    (hne : j ≠ id) : K.b ≠ L.b := h.apart j id q o K L hq ho hk hm hne

/-- An object's block is written: the object is turned, or it comes under another number (its old one goes). -/
theorem Core.move {ob : Nat → Option Obj} {c c' : Ctx} {base : Nat} (h : Core ob c base) {id id2 : Nat} {o o2 : Obj} {L L2 : Loc} (ho : ob id = some o) (hm : c.m id = some (.at L))
    (e : Ext c c') (hb : L2.b = L.b) (hm' : ∀ j, j ≠ id2 → c'.m j = c.m j) (hm2 : c'.m id2 = some (.at L2)) (hheap : ∀ b, b ≠ L.b → c'.w.heap[b]? = c.w.heap[b]?)
    (hS : ∀ a, c'.S a → c.S a ∨ (a.block = L.b ∧ a.spot = none ∧ ∃ u, c'.w.cell? a = some u))
    (hok : ObjOK c' base o2 L2) (hfree : ∀ a, c'.S a → a.block = L.b → a.off < L2.o ∨ (o2.sh = true ∧ a.off < L2.o + o2.es.length * L2.sz)) :
    Core (fun j => if j = id2 then some o2 else if j = id then none else ob j) c' base := by
  have hsplit : ∀ j q K, (if j = id2 then some o2 else if j = id then none else ob j) = some q → c'.m j = some (.at K) →
      (j = id2 ∧ q = o2 ∧ K = L2) ∨ (j ≠ id2 ∧ j ≠ id ∧ ob j = some q ∧ c.m j = some (.at K)) := by
    intro j q K h1 h2
    by_cases hj : j = id2
    · subst hj; rw [if_pos rfl] at h1; cases h1; rw [hm2] at h2; cases h2; exact .inl ⟨rfl, rfl, rfl⟩
    · rw [if_neg hj] at h1
      by_cases hj' : j = id
      · rw [if_pos hj'] at h1; cases h1
      · rw [if_neg hj'] at h1; rw [hm' j hj] at h2; exact .inr ⟨hj, hj', h1, h2⟩
  refine ⟨?_, ?_, ?_, ?_, ?_, ?_⟩
  · intro j q K h1 h2
    rcases hsplit j q K h1 h2 with ⟨_, rfl, rfl⟩ | ⟨_, hj, h3, h4⟩
    · exact hok
    · exact (h.obj j q K h3 h4).mono e (hheap _ (h.other ho hm h3 h4 hj))
  · intro j q h1 h2
    by_cases hj : j = id2
    · subst hj; rw [hm2] at h2; cases h2
    · simp only [if_neg hj] at h1
      by_cases hj' : j = id
      · rw [if_pos hj'] at h1; cases h1
      · rw [if_neg hj'] at h1; rw [hm' j hj] at h2; exact h.virt j q h1 h2
  · intro j j' q q' K K' h1 h2 h3 h4 h5
    rcases hsplit j q K h1 h3 with ⟨rfl, rfl, rfl⟩ | ⟨_, hj, h6, h7⟩
    · rcases hsplit j' q' K' h2 h4 with ⟨rfl, rfl, rfl⟩ | ⟨_, hj', h8, h9⟩
      · exact absurd rfl h5
      · rw [hb]; exact Ne.symm (h.other ho hm h8 h9 hj')
    · rcases hsplit j' q' K' h2 h4 with ⟨rfl, rfl, rfl⟩ | ⟨_, hj', h8, h9⟩
      · rw [hb]; exact h.other ho hm h6 h7 hj
      · exact h.apart j j' q q' K K' h6 h8 h7 h9 h5
  · intro a ha
    rcases hS a ha with ha' | ⟨_, h3, h4⟩
    · obtain ⟨h1, u, h2⟩ := h.inn a ha'
      exact ⟨h1, u, (e.cell a ha').trans h2⟩
    · exact ⟨h3, h4⟩
  · intro j q K h1 h2 a ha hab
    rcases hsplit j q K h1 h2 with ⟨rfl, rfl, rfl⟩ | ⟨_, hj, h3, h4⟩
    · exact hfree a ha (hab.trans hb)
    · have hne := h.other ho hm h3 h4 hj
      rcases hS a ha with ha' | ⟨h5, _⟩
      · exact h.free j q K h3 h4 a ha' hab
      · exact absurd (hab.symm.trans h5) hne
  · exact Nat.le_trans h.base_le e.size

/-- A segment laid over a list. -/
def seg {α : Type} (l : List α) (off : Nat) (new : List α) : List α := l.take off ++ new ++ l.drop (off + new.length)

theorem seg_length {α : Type} (l : List α) (off : Nat) (new : List α) (h : off + new.length ≤ l.length) : (seg l off new).length = l.length := by
  simp [seg]; omega

theorem seg_get {α : Type} (l : List α) (off : Nat) (new : List α) (h : off + new.length ≤ l.length) (j : Nat) :
    (seg l off new)[j]? = if off ≤ j ∧ j < off + new.length then new[j - off]? else l[j]? := by
  unfold seg
  by_cases h1 : j < off
  · rw [List.append_assoc, List.getElem?_append_left (by simp; omega), List.getElem?_take, if_pos h1, if_neg (by omega)]
  · rw [List.append_assoc, List.getElem?_append_right (by simp; omega)]
    have hmin : min off l.length = off := by omega
    simp only [List.length_take, hmin]
    by_cases h2 : j < off + new.length
    · rw [List.getElem?_append_left (by omega), if_pos ⟨by omega, h2⟩]
    · rw [List.getElem?_append_right (by omega), if_neg (by omega), List.getElem?_drop]
      congr 1; omega

theorem putAt_seg (cs : Cs) (off : Nat) (new : Cs) : putAt cs off new = seg cs off new := rfl

end Go.Bx

/- Class B: load, store, append. (Own text.) -/
namespace Go.Bx
set_option linter.unusedVariables false
set_option linter.unusedSimpArgs false
set_option linter.unusedSectionVars false

/-- What an operation that looks at objects does: it comes to a value (or to none) in a world that the new store tells. -/
def SimB (P : Program) (base : Nat) (σ : Store) (c : Ctx) (run : Result Next) (r : OR) : Prop :=
  ∃ u c', (run = .ok (.value u) c'.w ∨ (run = .ok .skip c'.w ∧ u = undef)) ∧ Ext c c' ∧ Inv r.σ c' base ∧ Rep c' r.y u ∧ Fr c σ r.md c'

theorem Fr.refl (c : Ctx) (σ : Store) (md : Option Nat) : Fr c σ md c := ⟨fun _ _ _ => rfl, fun _ _ h => .inl h, fun _ _ h h' => absurd h h', fun _ h => .inl h⟩

section
variable {P : Program} {T : Tab} (hT : TabOK P T) {c : Ctx} {ρa : Operand → AV} {ρ : Operand → Value} {base : Nat} {σ : Store} (hI : Inv σ c base) (hρ : ∀ x, Rep c (ρa x) (ρ x))

/-- An element's cells, in its block. -/
theorem ObjOK.elem {o : Obj} {L : Loc} (h : ObjOK c base o L) : ∃ arr T, c.w.heap[L.b]? = some (.cells arr T (0, 0)) ∧ L.o + L.tot * L.sz ≤ arr.size ∧
    ∀ i e, o.es[i]? = some e → Reps c e ((arr.toList.drop (L.o + i * L.sz)).take L.sz) ∧ e.length = L.sz := by
  obtain ⟨arr, T, h1, h2, h3⟩ := h.mem
  refine ⟨arr, T, h1, h2, fun i e he => ?_⟩
  have hlen : e.length = L.sz := by rw [h.sz]; exact h.wid e (List.mem_of_getElem? he)
  have hi : i < o.es.length := (List.getElem?_eq_some_iff.1 he).1
  have hfit : L.o + i * L.sz + L.sz ≤ arr.size := by
    have h4 : (i + 1) * L.sz ≤ L.tot * L.sz := Nat.mul_le_mul_right _ (by have := h.tot; omega)
    rw [Nat.add_mul] at h4; omega
  refine ⟨⟨?_, fun j x u hx hu => ?_⟩, hlen⟩
  · simp; omega
  · obtain ⟨v, h5, h6, _⟩ := h3 i e j x he hx
    have hj : j < L.sz := by rw [← hlen]; exact (List.getElem?_eq_some_iff.1 hx).1
    rw [List.getElem?_take, if_pos hj, List.getElem?_drop] at hu
    have : arr[L.o + i * L.sz + j]? = some u := by simpa using hu
    rw [this] at h5; cases h5; exact h6

include hT hI hρ

omit hρ in
theorem load_ptr {t : TypeId} {x : AV} {u : Value} (hxu : Rep c x u) {r : OR} (h : evLoad T σ t x = some r) : ∃ a v, u = .pointer (some a) ∧ (loadVar t a).run P c.w = .ok v c.w ∧ Rep c r.y v ∧ r.σ = σ := by
  unfold evLoad at h
  split at h
  · rename_i R id i off hR
    split at h
    · rename_i ob hob
      split at h
      · rename_i e he
        split at h
        · rename_i hle
          rw [Option.map_eq_some_iff] at h; obtain ⟨y, hy, rfl⟩ := h
          cases hxu with
          | ptr L hm =>
          obtain ⟨arr, T0, h1, h2, h3⟩ := (hI.core.obj id ob L hob hm).elem
          obtain ⟨h4, h5⟩ := h3 i e he
          have hr : Reps c ((e.drop off).take R.sz) ((((arr.toList.drop (L.o + i * L.sz)).take L.sz).drop off).take R.sz) := (h4.drop off).take R.sz
          have hus : (((arr.toList.drop (L.o + i * L.sz)).take L.sz).drop off).take R.sz = (arr.toList.drop (L.o + i * L.sz + off)).take R.sz := by
            rw [List.drop_take, List.drop_drop, List.take_take]
            congr 1; omega
          rw [hus] at hr
          have hz := ofCells_rep hr hy
          have hld : (loadCells ⟨L.b, L.o + i * L.sz + off, none⟩ R.sz).run P c.w = .ok ((arr.toList.drop (L.o + i * L.sz + off)).take R.sz).toArray c.w := by
            have hl : ((arr.toList.drop (L.o + i * L.sz + off)).take R.sz).length = R.sz := by rw [← hr.1]; simp; omega
            have := run_loadCells_list (P := P) c.w ⟨L.b, L.o + i * L.sz + off, none⟩ ((arr.toList.drop (L.o + i * L.sz + off)).take R.sz) (by
              intro j v hv
              rw [add_zero_spot, cell_of h1]
              rw [List.getElem?_take] at hv
              split at hv
              · simpa using hv
              · cases hv)
            rw [hl] at this; exact this
          cases hag : R.desc.isAgg with
          | true =>
            rw [hag] at hz
            refine ⟨_, _, rfl, ?_, hz, rfl⟩
            simp [loadVar, agT hT hR, hag, siz hT hR, hld]
          | false =>
            rw [hag] at hz
            obtain ⟨v, hv1, hv2⟩ := hz
            refine ⟨_, v, rfl, ?_, hv2, rfl⟩
            have hc : c.w.cell? ⟨L.b, L.o + i * L.sz + off, none⟩ = some v := by
              rw [cell_of h1]
              have h0 : ((arr.toList.drop (L.o + i * L.sz + off)).take R.sz)[0]? = some v := by rw [hv1]; rfl
              rw [List.getElem?_take] at h0
              split at h0
              · simpa using h0
              · cases h0
            simp [loadVar, agT hT hR, hag, hc]
        · cases h
      · cases h
    · cases h
  · cases h

theorem simB_load (o : Oper) (t : TypeId) (a : Operand) (ho : o.op = .load t a) {r : OR} (h : evLoad T σ t (ρa a) = some r) : SimB P base σ c ((execOp ρ o).run P c.w) r := by
  obtain ⟨ad, v, h1, h2, h3, h4⟩ := load_ptr hT hI (hρ a) h
  refine ⟨v, c, .inl ?_, Ext.refl c, by rw [h4]; exact hI, h3, Fr.refl _ _ _⟩
  simp [execOp, ho, h1, Instr.loadAt, Instr.sureAddr, h2]

/-- The cells that lie in a block are sealed only behind what is shared: what is written elsewhere lets them be. -/
theorem ext_setRow {L : Loc} {id : Nat} {ob : Obj} (hob : σ.ob id = some ob) (hm : c.m id = some (.at L)) {arr : Array Value} {T0 : TypeId} (h1 : c.w.heap[L.b]? = some (.cells arr T0 (0, 0)))
    (arr' : Array Value) (m' : Nat → Option ML) (hm' : ∀ j l, c.m j = some l → m' j = some l) (S' : Addr → Prop) (hS : ∀ a, c.S a → S' a)
    (hkeep : ∀ k, (k < L.o ∨ (ob.sh = true ∧ k < L.o + ob.es.length * L.sz)) → arr'[k]? = arr[k]?) (hsz : arr'.size = arr.size) : Ext c ⟨c.w.setRow L.b arr', S', m', []⟩ := by
  refine ⟨hS, fun a ha => ?_, hm', by simp, by simp, by simp, by simp, tyOf_row h1 (setRow_heap _ _ _ _ _ _ h1) hsz (fun b hb => setRow_other _ _ _ _ hb)⟩
  by_cases hab : a.block = L.b
  · obtain ⟨hsp, _⟩ := hI.core.inn a ha
    have hfree := hI.core.free id ob L hob hm a ha hab
    obtain ⟨b, off, sp⟩ := a
    simp at hab hsp hfree; subst hab; subst hsp
    rw [cell_of h1, cell_setRow_same c.w _ off arr arr' T0 (0, 0) h1]
    exact hkeep off hfree
  · exact cell_setRow_other _ _ _ _ hab

theorem simB_store (o : Oper) (t : TypeId) (a x : Operand) (ho : o.op = .store t a x) {r : OR} (h : evStore T σ t (ρa a) (ρa x) = some r) : SimB P base σ c ((execOp ρ o).run P c.w) r := by
  unfold evStore at h
  split at h
  · rename_i R id i off hR ha
    split at h
    · rename_i ob hob
      split at h
      · rename_i e he
        split at h
        · rename_i hcond; cases h
          obtain ⟨hsh, hlen, hleaf, hle⟩ := hcond
          obtain ⟨L, hm, hx⟩ := rep_ptr hρ ha
          have hok := hI.core.obj id ob L hob hm
          obtain ⟨arr, T0, h1, h2, h3⟩ := hok.mem
          have hc := cells_reps (hρ x) hleaf
          have hvl : (ρ x).cells.size = R.sz := by have := hc.1; simp at this; omega
          have hel : e.length = L.sz := by rw [hok.sz]; exact hok.wid e (List.mem_of_getElem? he)
          have hi : i < ob.es.length := (List.getElem?_eq_some_iff.1 he).1
          have hfit : L.o + i * L.sz + L.sz ≤ arr.size := by
            have h4 : (i + 1) * L.sz ≤ L.tot * L.sz := Nat.mul_le_mul_right _ (by have := hok.tot; omega)
            rw [Nat.add_mul] at h4; omega
          have hone : ∀ v ∈ (ρ x).cells.toList, v.oneCell' = true := by
            intro v hv
            obtain ⟨j, hj⟩ := List.mem_iff_getElem?.1 hv
            have hj' : j < (cells (ρa x)).length := by rw [hc.1]; exact (List.getElem?_eq_some_iff.1 hj).1
            exact (hc.2 j (cells (ρa x))[j] v (by simp [hj']) hj).of_leaf (List.all_eq_true.1 hleaf _ (List.getElem_mem hj'))
          have hst := run_storeCells_at P L.b (L.o + i * L.sz + off) T0 (ρ x).cells.toList 0 arr c.w h1 (by simp; omega) hone
          simp only [Nat.add_zero] at hst
          have hseg : arr.toList.take (L.o + i * L.sz + off) ++ (ρ x).cells.toList ++ arr.toList.drop (L.o + i * L.sz + off + (ρ x).cells.toList.length) = seg arr.toList (L.o + i * L.sz + off) (ρ x).cells.toList := rfl
          rw [hseg] at hst
          have hsl : (seg arr.toList (L.o + i * L.sz + off) (ρ x).cells.toList).length = arr.size := by rw [seg_length _ _ _ (by simp; omega)]; simp
          have hget : ∀ k, (seg arr.toList (L.o + i * L.sz + off) (ρ x).cells.toList).toArray[k]? = if L.o + i * L.sz + off ≤ k ∧ k < L.o + i * L.sz + off + R.sz then (ρ x).cells[k - (L.o + i * L.sz + off)]? else arr[k]? := by
            intro k
            have := seg_get arr.toList (L.o + i * L.sz + off) (ρ x).cells.toList (by simp; omega) k
            simp only [Array.length_toList, hvl] at this
            simpa using this
          have hext : Ext c ⟨c.w.setRow L.b (seg arr.toList (L.o + i * L.sz + off) (ρ x).cells.toList).toArray, c.S, c.m, []⟩ :=
            ext_setRow hT hI hρ hob hm h1 _ c.m (fun _ _ h => h) c.S (fun _ h => h) (fun k hk => by
              rw [hget, if_neg]
              rcases hk with hk | ⟨hk, _⟩
              · omega
              · rw [hsh] at hk; cases hk) (by simpa using hsl)
          refine ⟨undef, ⟨c.w.setRow L.b (seg arr.toList (L.o + i * L.sz + off) (ρ x).cells.toList).toArray, c.S, c.m, []⟩, .inr ⟨?_, rfl⟩, hext, ?_, .junk, ?_⟩
          · simp only [execOp, ho, hx, Instr.storeAt, Instr.sureAddr, storeVar, Sem.run_bind, Sem.run_pure, Result.andThen_ok, siz hT hR, hvl, ne_eq, not_true_eq_false, if_false, hst]
          · refine ⟨?_, hI.dom, ?_⟩
            · have hmove := Core.move (c' := ⟨c.w.setRow L.b (seg arr.toList (L.o + i * L.sz + off) (ρ x).cells.toList).toArray, c.S, c.m, []⟩) (id2 := id) (L2 := L) (o2 := { ob with es := ob.es.set i (putAt e off (cells (ρa x))), flat := ob.flat && (cells (ρa x)).all pl }) hI.core hob hm hext rfl (fun _ _ => rfl) hm
                (fun b hb => setRow_other _ _ _ _ hb) (fun a ha => .inl ha) ?_ ?_
              · refine cast ?_ hmove
                congr 1
                funext j
                simp only [Store.put]
                by_cases hj : j = id <;> simp [hj]
              · have hpl : (putAt e off (cells (ρa x))).length = e.length := by rw [putAt_seg, seg_length]; omega
                refine ⟨hok.sz, hok.base, by simpa using hok.tot, ?_, ?_, ?_, _, T0, setRow_heap _ _ _ _ _ _ h1, by simpa [hsl] using h2, ?_⟩
                · intro e' he'
                  rcases List.mem_or_eq_of_mem_set he' with h | h
                  · exact hok.wid e' h
                  · subst h; rw [hpl]; exact hok.wid e (List.mem_of_getElem? he)
                · intro e' he' z hz
                  rcases List.mem_or_eq_of_mem_set he' with h | h
                  · exact hok.leafs e' h z hz
                  · subst h
                    unfold putAt at hz
                    rcases List.mem_append.1 hz with hz | hz
                    · rcases List.mem_append.1 hz with hz | hz
                      · exact hok.leafs e (List.mem_of_getElem? he) z (List.mem_of_mem_take hz)
                      · exact List.all_eq_true.1 hleaf z hz
                    · exact hok.leafs e (List.mem_of_getElem? he) z (List.mem_of_mem_drop hz)
                · intro hfl e' he' z hz
                  simp only [Bool.and_eq_true] at hfl
                  rcases List.mem_or_eq_of_mem_set he' with h | h
                  · exact hok.flat hfl.1 e' h z hz
                  · subst h
                    unfold putAt at hz
                    rcases List.mem_append.1 hz with hz | hz
                    · rcases List.mem_append.1 hz with hz | hz
                      · exact hok.flat hfl.1 e (List.mem_of_getElem? he) z (List.mem_of_mem_take hz)
                      · exact List.all_eq_true.1 hfl.2 z hz
                    · exact hok.flat hfl.1 e (List.mem_of_getElem? he) z (List.mem_of_mem_drop hz)
                · intro i' e' j z he' hz
                  show ∃ u, (seg arr.toList (L.o + i * L.sz + off) (ρ x).cells.toList).toArray[L.o + i' * L.sz + j]? = some u ∧ _
                  rw [hget]
                  simp only [List.getElem?_set] at he'
                  by_cases hii : i = i'
                  · subst hii
                    rw [if_pos rfl, if_pos hi] at he'; cases he'
                    rw [putAt_seg, seg_get _ _ _ (by rw [hlen]; exact hle)] at hz
                    rw [hlen] at hz
                    by_cases hj : off ≤ j ∧ j < off + R.sz
                    · rw [if_pos hj] at hz
                      rw [if_pos (by omega), show L.o + i * L.sz + j - (L.o + i * L.sz + off) = j - off by omega]
                      have hlt : j - off < (ρ x).cells.size := by omega
                      exact ⟨(ρ x).cells[j - off], by simp [hlt], (hc.2 (j - off) z _ hz (by simp [hlt])).mono hext, fun h => by rw [hsh] at h; cases h⟩
                    · rw [if_neg hj] at hz
                      rw [if_neg (by omega)]
                      obtain ⟨u, a1, a2, a3⟩ := h3 i e j z he hz
                      exact ⟨u, a1, a2.mono hext, fun h => by rw [hsh] at h; cases h⟩
                  · rw [if_neg hii] at he'
                    obtain ⟨u, a1, a2, a3⟩ := h3 i' e' j z he' hz
                    have hj : j < L.sz := by rw [hok.sz, ← hok.wid e' (List.mem_of_getElem? he')]; exact (List.getElem?_eq_some_iff.1 hz).1
                    rw [if_neg]
                    · exact ⟨u, a1, a2.mono hext, fun h => by rw [hsh] at h; cases h⟩
                    · intro hcon
                      rcases Nat.lt_or_gt_of_ne hii with h | h
                      · have : (i + 1) * L.sz ≤ i' * L.sz := Nat.mul_le_mul_right _ h
                        rw [Nat.add_mul] at this; omega
                      · have : (i' + 1) * L.sz ≤ i * L.sz := Nat.mul_le_mul_right _ h
                        rw [Nat.add_mul] at this; omega
              · intro a' ha' hab'
                rcases hI.core.free id ob L hob hm a' ha' hab' with h | ⟨h, _⟩
                · exact .inl h
                · rw [hsh] at h; cases h
            · intro j q hq
              simp only [Store.put] at hq
              split at hq
              · rename_i hj; subst hj; exact hI.old _ _ hob
              · exact hI.old j q hq
          · refine ⟨fun b hb hne => setRow_other _ _ _ _ (fun e => hne id ob L hob hm id rfl (Nat.le_refl _) e.symm), fun _ _ h => .inl h, fun _ _ h h' => absurd h h', fun _ h => .inl h⟩
        · cases h
      · cases h
    · cases h
  · cases h
end

end Go.Bx

/- Class B: append. (Own text.) -/
namespace Go.Bx
set_option linter.unusedVariables false
set_option linter.unusedSimpArgs false
set_option linter.unusedSectionVars false

theorem div_lt_of {k n sz : Nat} (hz : 0 < sz) (h : k < n * sz) : k / sz < n := (Nat.div_lt_iff_lt_mul hz).2 h

theorem ij_div {i j sz : Nat} (hj : j < sz) : (i * sz + j) / sz = i := by
  rw [Nat.add_comm, Nat.add_mul_div_right _ _ (by omega), Nat.div_eq_of_lt hj]; simp

theorem ij_mod {i j sz : Nat} (hj : j < sz) : (i * sz + j) % sz = j := by
  rw [Nat.add_comm, Nat.add_mul_mod_self_right, Nat.mod_eq_of_lt hj]

theorem ij_lt {i j n sz : Nat} (hi : i < n) (hj : j < sz) : i * sz + j < n * sz := by
  have : (i + 1) * sz ≤ n * sz := Nat.mul_le_mul_right _ hi
  rw [Nat.add_mul] at this; omega

def flat2 (n sz : Nat) (f : Nat → Nat → Value) : List Value := (List.range (n * sz)).map fun k => f (k / sz) (k % sz)

theorem flat2_get {n sz i j : Nat} {f : Nat → Nat → Value} (hi : i < n) (hj : j < sz) : (flat2 n sz f)[i * sz + j]? = some (f i j) := by
  unfold flat2
  rw [List.getElem?_map, List.getElem?_range (ij_lt hi hj)]
  simp [ij_div hj, ij_mod hj]

theorem flat2_length (n sz : Nat) (f : Nat → Nat → Value) : (flat2 n sz f).length = n * sz := by simp [flat2]

section
variable {P : Program} {T : Tab} (hT : TabOK P T) {c : Ctx} {base : Nat} {σ : Store} (hI : Inv σ c base)

/-- The elements of a slice, as the machine has them: their cells side by side. -/
structure ElemsAt (P : Program) (c : Ctx) (sz : Nat) (t : TypeId) (u : Value) (new : List Cs) (news : List Value) : Prop where
  src : Src P sz t u new.length news c.w
  len : news.length = new.length * sz
  rep : ∀ (i : Nat) (e : Cs) (j : Nat) x, new[i]? = some e → e[j]? = some x → ∃ v, news[i * sz + j]? = some v ∧ Rep c x v ∧ leaf x = true

include hT hI in
theorem elemsAt0 {t e : TypeId} {R : TRow} (hk : tdesc T t = some (.slice e)) (hR : T e = some R) (hz : R.sz ≠ 0) {x : AV} {u : Value} (hx : Rep c x u) {new : List Cs} (h : elems σ x = some new)
    (hw : (new.all fun c => c.length == R.sz) = true) : ∃ news, ElemsAt P c R.sz t u new news := by
  have hund : ∃ e', P.underlying t = some (.slice e') := by
    unfold tdesc at hk; cases hr : T t with
    | none => simp [hr] at hk
    | some r => simp [hr] at hk; obtain ⟨d, h1, h2⟩ := (hT t r hr).und; rw [hk] at h2; simp only [descOK] at h2; subst h2; exact ⟨_, h1⟩
  obtain ⟨e', hund⟩ := hund
  have hw' : ∀ el ∈ new, el.length = R.sz := fun el hel => by have := List.all_eq_true.1 hw el hel; simpa using this
  have empty : ∀ A n cap, u = .slice A n cap → n = 0 → new = [] → ∃ news, ElemsAt P c R.sz t u new news := by
    intro A n cap hu hn hnew
    subst hu; subst hn; subst hnew
    refine ⟨[], ⟨.inl ⟨e', hund⟩, fun _ => rfl, ?_, ?_, by simp, fun v hv => by cases hv⟩, by simp, fun i el j x hi => by simp at hi⟩
    · cases A <;> simp [Builtin.firstCells, loadCells, loadCellsFrom]
    · cases A <;> simp [Builtin.firstCells, loadCells, loadCellsFrom]
  -- cells behind an address
  have atAddr : ∀ (b o n cap : Nat) (f : Nat → Nat → Value), u = .slice (some ⟨b, o, none⟩) n cap → n = new.length →
      (∀ i e j x, new[i]? = some e → e[j]? = some x → c.w.cell? ⟨b, o + i * R.sz + j, none⟩ = some (f i j) ∧ Rep c x (f i j) ∧ leaf x = true) → ∃ news, ElemsAt P c R.sz t u new news := by
    intro b o n cap f hu hn hf
    subst hu; subst hn
    have hall : ∀ i j, i < new.length → j < R.sz → ∃ x, c.w.cell? ⟨b, o + i * R.sz + j, none⟩ = some (f i j) ∧ Rep c x (f i j) ∧ leaf x = true := by
      intro i j hi hj
      have hel := hw' new[i] (List.getElem_mem hi)
      exact ⟨new[i][j], hf i new[i] j _ (by simp [hi]) (by simp [hel, hj])⟩
    refine ⟨flat2 new.length R.sz f, Src.ofSlice c.w hund _ _ _ _ (flat2_length _ _ _) ?_ ?_, flat2_length _ _ _, ?_⟩
    · intro k v hv
      have hlt : k < new.length * R.sz := by rw [← flat2_length new.length R.sz f]; exact (List.getElem?_eq_some_iff.1 hv).1
      have h1 : k / R.sz < new.length := div_lt_of (Nat.pos_of_ne_zero hz) hlt
      have h2 : k % R.sz < R.sz := Nat.mod_lt _ (Nat.pos_of_ne_zero hz)
      obtain ⟨x, h3, _⟩ := hall _ _ h1 h2
      have h4 : k / R.sz * R.sz + k % R.sz = k := by rw [Nat.mul_comm]; exact Nat.div_add_mod k R.sz
      rw [← h4, flat2_get h1 h2] at hv; cases hv
      rw [add_zero_spot]
      rw [Nat.add_assoc, h4] at h3
      exact h3
    · intro v hv
      obtain ⟨k, hv⟩ := List.mem_iff_getElem?.1 hv
      have hlt : k < new.length * R.sz := by rw [← flat2_length new.length R.sz f]; exact (List.getElem?_eq_some_iff.1 hv).1
      have h1 : k / R.sz < new.length := div_lt_of (Nat.pos_of_ne_zero hz) hlt
      have h2 : k % R.sz < R.sz := Nat.mod_lt _ (Nat.pos_of_ne_zero hz)
      obtain ⟨x, h3, h5, h6⟩ := hall _ _ h1 h2
      have h4 : k / R.sz * R.sz + k % R.sz = k := by rw [Nat.mul_comm]; exact Nat.div_add_mod k R.sz
      rw [← h4, flat2_get h1 h2] at hv; cases hv
      exact h5.of_leaf h6
    · intro i el j x hi hj
      have hi' : i < new.length := (List.getElem?_eq_some_iff.1 hi).1
      have hj' : j < R.sz := by rw [← hw' el (List.mem_of_getElem? hi)]; exact (List.getElem?_eq_some_iff.1 hj).1
      exact ⟨f i j, flat2_get hi' hj', (hf i el j x hi hj).2⟩
  unfold elems at h
  split at h
  · rename_i es; cases h
    cases hx with
    | sl sz b o f hn hc hA hsz hcell hrep =>
      by_cases hne : new = []
      · exact empty _ _ _ rfl (by simp [hn, hne]) hne
      · have hs : sz = R.sz := by
          obtain ⟨el, hel⟩ := List.exists_mem_of_ne_nil new hne
          rw [← hsz el hel, hw' el hel]
        subst hs
        rw [hA hne] at *
        exact atAddr b o _ _ f rfl hn (fun i el j x hi hj => ⟨(hcell i el j x hi hj).1, hrep i el j x hi hj, leaf_of_pl (hcell i el j x hi hj).2.2⟩)
  · rename_i id sz lo n
    split at h
    · rename_i ob hob
      split at h
      · rename_i hle; cases h
        have hlen : (slice ob.es lo n).length = n := by simp [slice]; omega
        cases hx with
        | row L hm hs hn ht hA =>
          by_cases hn0 : n = 0
          · subst hn0; exact empty _ _ _ rfl rfl (List.eq_nil_of_length_eq_zero hlen)
          · have hok := hI.core.obj id ob L hob hm
            obtain ⟨arr, T0, h1, h2, h3⟩ := hok.mem
            have hget : ∀ i el, (slice ob.es lo n)[i]? = some el → ob.es[lo + i]? = some el ∧ i < n := by
              intro i el hel
              unfold slice at hel
              rw [List.getElem?_take] at hel
              split at hel
              · rename_i hi; rw [List.getElem?_drop] at hel; exact ⟨hel, hi⟩
              · cases hel
            have hne : (slice ob.es lo n) ≠ [] := by intro h; rw [h] at hlen; simp at hlen; omega
            have hs' : L.sz = R.sz := by
              obtain ⟨el, hel⟩ := List.exists_mem_of_ne_nil _ hne
              rw [hok.sz, ← hw' el hel]
              exact (hok.wid el (List.mem_of_mem_drop (List.mem_of_mem_take hel))).symm
            rw [hA (by omega)] at *
            refine atAddr L.b (L.o + lo * sz) _ _ (fun i j => (arr[L.o + (lo + i) * L.sz + j]?).getD undef) rfl hlen.symm ?_
            intro i el j x hi hj
            obtain ⟨h4, h5⟩ := hget i el hi
            obtain ⟨v, a1, a2, a3⟩ := h3 (lo + i) el j x h4 hj
            have e1 : L.o + lo * sz + i * R.sz + j = L.o + (lo + i) * L.sz + j := by rw [Nat.add_mul, hs', ← hs']; rw [hs]; omega
            rw [e1, cell_of h1, a1]
            exact ⟨rfl, a2, hok.leafs el (List.mem_of_getElem? h4) x (List.mem_of_getElem? hj)⟩
        | row0 hm => exact empty _ _ _ rfl rfl (List.eq_nil_of_length_eq_zero hlen)
      · cases h
    · cases h
  · cases h
    cases hx
    exact empty _ _ _ rfl rfl rfl
  · cases h
    cases hx
    exact empty _ _ _ rfl rfl rfl
  · cases h

include hI in
/-- What is told flat is flat. -/
theorem flatOf_pl {x : AV} {u : Value} (hx : Rep c x u) {new : List Cs} (h : elems σ x = some new) (hf : flatOf σ x = true) (hp : ∀ id sz lo n, x = .row id sz lo n → n ≠ 0 → ∃ L, c.m id = some (.at L)) : ∀ e ∈ new, ∀ y ∈ e, pl y = true := by
  unfold elems at h
  split at h
  · cases h
    cases hx with
    | sl sz b o f hn hc hA hsz hcell hrep =>
      intro e he y hy
      obtain ⟨i, hi⟩ := List.mem_iff_getElem?.1 he
      obtain ⟨j, hj⟩ := List.mem_iff_getElem?.1 hy
      exact (hcell i e j y hi hj).2.2
  · rename_i id sz lo n
    split at h
    · rename_i ob hob
      split at h
      · cases h
        simp only [flatOf, hob] at hf
        by_cases hn : n = 0
        · subst hn; intro e he; simp [slice] at he
        · obtain ⟨L, hm⟩ := hp id sz lo n rfl hn
          intro e he y hy
          exact (hI.core.obj id ob L hob hm).flat hf e (List.mem_of_mem_drop (List.mem_of_mem_take he)) y hy
      · cases h
    · cases h
  · cases h; intro e he; cases he
  · cases h; intro e he; cases he
  · cases h

include hT hI in
theorem elemsAt {t e : TypeId} {R : TRow} (hk : tdesc T t = some (.slice e)) (hR : T e = some R) (hz : R.sz ≠ 0) {x : AV} {u : Value} (hx : Rep c x u) {new : List Cs} (h : elems σ x = some new)
    (hw : (new.all fun c => c.length == R.sz) = true) : ∃ news, ElemsAt P c R.sz t u new news ∧ (flatOf σ x = true → ∀ e ∈ new, ∀ y ∈ e, pl y = true) := by
  obtain ⟨news, hE⟩ := elemsAt0 hT hI hk hR hz hx h hw
  refine ⟨news, hE, fun hf => flatOf_pl hI hx h hf fun id sz lo n hxe hn => ?_⟩
  subst hxe
  cases hx with
  | row L hm => exact ⟨L, hm⟩
  | row0 hm => exact absurd rfl hn
end

end Go.Bx

/- Class B: append, its three ways. (Own text.) -/
namespace Go.Bx
set_option linter.unusedVariables false
set_option linter.unusedSimpArgs false
set_option linter.unusedSectionVars false
set_option linter.unusedVariables false
set_option linter.unusedSectionVars false

section
variable {P : Program} {T : Tab} (hT : TabOK P T) {c : Ctx} {base : Nat} {σ : Store} (hI : Inv σ c base)

theorem Inv.kill (hI : Inv σ c base) (id : Nat) : Inv (σ.put id none) c base :=
  ⟨hI.core.swap fun j => by by_cases h : j = id <;> simp [Store.put, h], hI.dom, fun j q hq => by
    simp only [Store.put] at hq; split at hq
    · cases hq
    · exact hI.old j q hq⟩

theorem Inv.clock_free (hI : Inv σ c base) : c.m σ.clock = none := by
  cases h : c.m σ.clock with
  | none => rfl
  | some l => exact absurd (hI.dom _ _ h) (Nat.lt_irrefl _)

/-- A new object without a place. -/
theorem Inv.newVirt (hI : Inv σ c base) {o : Obj} (he : o.es = []) : Ext c { c with m := fun j => if j = σ.clock then some .virt else c.m j } ∧ Inv (σ.new o) { c with m := fun j => if j = σ.clock then some .virt else c.m j } base := by
  have hcf := hI.clock_free
  have e : Ext c { c with m := fun j => if j = σ.clock then some .virt else c.m j } := ⟨fun _ h => h, fun _ _ => rfl, fun j x hx => by
    simp only; rw [if_neg (by intro e; subst e; rw [hcf] at hx; cases hx)]; exact hx, Nat.le_refl _, rfl, rfl, rfl, fun _ _ h => h⟩
  have hsplit : ∀ j q, (σ.new o).ob j = some q → (j = σ.clock ∧ q = o) ∨ (j ≠ σ.clock ∧ σ.ob j = some q) := by
    intro j q hq
    simp only [Store.new] at hq
    split at hq
    · rename_i hj; cases hq; exact .inl ⟨hj, rfl⟩
    · rename_i hj; exact .inr ⟨hj, hq⟩
  refine ⟨e, ⟨⟨?_, ?_, ?_, hI.core.inn, ?_, hI.core.base_le⟩, ?_, ?_⟩⟩
  · intro j q L h1 h2
    rcases hsplit j q h1 with ⟨rfl, rfl⟩ | ⟨hj, h3⟩
    · simp at h2
    · simp only [if_neg hj] at h2
      exact (hI.core.obj j q L h3 h2).mono e rfl
  · intro j q h1 h2
    rcases hsplit j q h1 with ⟨rfl, rfl⟩ | ⟨hj, h3⟩
    · exact he
    · simp only [if_neg hj] at h2; exact hI.core.virt j q h3 h2
  · intro j j' q q' K K' h1 h2 h3 h4 h5
    rcases hsplit j q h1 with ⟨rfl, rfl⟩ | ⟨hj, h6⟩
    · simp at h3
    · rcases hsplit j' q' h2 with ⟨rfl, rfl⟩ | ⟨hj', h7⟩
      · simp at h4
      · simp only [if_neg hj] at h3; simp only [if_neg hj'] at h4
        exact hI.core.apart j j' q q' K K' h6 h7 h3 h4 h5
  · intro j q L h1 h2
    rcases hsplit j q h1 with ⟨rfl, rfl⟩ | ⟨hj, h3⟩
    · simp at h2
    · simp only [if_neg hj] at h2; exact hI.core.free j q L h3 h2
  · intro j l hl
    simp only at hl
    split at hl
    · rename_i hj; subst hj; simp [Store.new]
    · have := hI.dom j l hl; simp [Store.new]; omega
  · intro j q hq
    rcases hsplit j q hq with ⟨rfl, rfl⟩ | ⟨hj, h3⟩
    · simp [Store.new]
    · have := hI.old j q h3; simp [Store.new]; omega

/-- A new object in a new block. -/
theorem Inv.newAt (hI : Inv σ c base) {o : Obj} {arr : Array Value} {T0 : TypeId} {tot n : Nat}
    (hs : arr.size = tot * o.sz) (htot : o.es.length ≤ tot) (hsh : n = if o.sh then o.es.length * o.sz else 0) (hw : ∀ e ∈ o.es, e.length = o.sz ∧ ∀ x ∈ e, leaf x = true) (hfl : o.flat = true → ∀ e ∈ o.es, ∀ x ∈ e, pl x = true)
    (hr : ∀ i e j x, o.es[i]? = some e → e[j]? = some x → ∃ u, arr[i * o.sz + j]? = some u ∧ Rep c x u) :
    Ext c (c.placeS (.cells arr T0) σ.clock ⟨c.w.heap.size, 0, o.sz, tot⟩ n) ∧ Inv (σ.new o) (c.placeS (.cells arr T0) σ.clock ⟨c.w.heap.size, 0, o.sz, tot⟩ n) base ∧
      Fr c σ none (c.placeS (.cells arr T0) σ.clock ⟨c.w.heap.size, 0, o.sz, tot⟩ n) := by
  have hcf := hI.clock_free
  have hcore : Core (σ.new o).ob c base := hI.core.swap fun j => by
    by_cases h : j = σ.clock
    · subst h; exact .inr (.inr hcf)
    · exact .inl (by simp [Store.new, h])
  refine ⟨Ext.placeS hI.core _ _ _ hcf, ⟨hcore.placeS (by simp [Store.new]) hcf hs htot hsh hw hfl hr, ?_, ?_⟩, ?_⟩
  · intro j l hl
    simp only [Ctx.placeS] at hl
    split at hl
    · rename_i hj; subst hj; simp [Store.new]
    · have := hI.dom j l hl; simp [Store.new]; omega
  · intro j q hq
    simp only [Store.new] at hq
    split at hq
    · rename_i hj; subst hj; simp [Store.new]
    · have := hI.old j q hq; simp [Store.new]; omega
  · refine ⟨fun b hb _ => heap_alloc_old _ hb, fun j l hl => ?_, fun j L hl hn => ?_, ?_⟩
    · simp only [Ctx.placeS] at hl
      split at hl
      · rename_i hj; subst hj; exact .inr (Nat.le_refl _)
      · exact .inl hl
    · simp only [Ctx.placeS] at hl
      split at hl
      · cases hl; exact .inl (Nat.le_refl _)
      · exact absurd hl hn
    · intro a ha
      rcases ha with ha | ⟨ha, _⟩
      · exact .inl ha
      · exact .inr (.inl (Nat.le_of_eq ha.symm))

theorem Inv.drew (hI : Inv σ c base) : Inv σ { c with w := c.w.drew } base := ⟨hI.core.drew, hI.dom, hI.old⟩

theorem Fr.weaken {c' : Ctx} {md : Option Nat} (h : Fr c σ none c') : Fr c σ md c' :=
  ⟨fun b hb _ => h.block b hb (fun _ _ _ _ _ _ hl => by cases hl), h.mnew, fun id L h1 h2 => by
    rcases h.bnew id L h1 h2 with h | ⟨_, _, _, _, _, _, _, hl, _⟩
    · exact .inl h
    · (cases hl), fun a ha => by
    rcases h.snew a ha with h | h | ⟨_, _, _, _, _, _, _, hl, _⟩
    · exact .inl h
    · exact .inr (.inl h)
    · cases hl⟩

theorem Fr.ofDrew {c' : Ctx} {md : Option Nat} (h : Fr { c with w := c.w.drew } σ md c') : Fr c σ md c' := ⟨h.block, h.mnew, h.bnew, h.snew⟩

theorem Fr.ofKill {c' : Ctx} {md : Option Nat} {id : Nat} (h : Fr c (σ.put id none) none c') : Fr c σ md c' :=
  ⟨fun b hb _ => h.block b hb (fun _ _ _ _ _ _ hl => by cases hl), h.mnew, fun id L h1 h2 => by
    rcases h.bnew id L h1 h2 with h | ⟨_, _, _, _, _, _, _, hl, _⟩
    · exact .inl h
    · (cases hl), fun a ha => by
    rcases h.snew a ha with h | h | ⟨_, _, _, _, _, _, _, hl, _⟩
    · exact .inl h
    · exact .inr (.inl h)
    · cases hl⟩

include hT hI in
/-- The row grows into a new block. -/
theorem append_grow {t t' e : TypeId} {R : TRow} (hk : tdesc T t = some (.slice e)) (hR : T e = some R) (hz : R.sz ≠ 0) (hzl : R.zero.length = R.sz) {u : Value} {new : List Cs} {news : List Value} (hs : ElemsAt P c R.sz t' u new news)
    (hw : ∀ el ∈ new, el.length = R.sz) {σ1 : Store} (hI1 : Inv σ1 c base) (A : Option Addr) (n cap : Nat) (old : List Cs) (olds : List Value) (hold : (Builtin.firstCells R.sz n (.slice A n cap)).run P c.w.drew = .ok olds.toArray c.w.drew)
    (hol : old.length = n) (holl : olds.length = n * R.sz) (how : ∀ el ∈ old, el.length = R.sz ∧ ∀ x ∈ el, leaf x = true)
    (horep : ∀ i e j x, old[i]? = some e → e[j]? = some x → ∃ v, olds[i * R.sz + j]? = some v ∧ Rep c x v) (hg : cap < n + new.length) (hfit : (n + new.length) * R.bytes ≤ 140737488355328) (hby : R.bytes ≠ 0) (sh fl : Bool) (hfl : fl = true → ∀ e ∈ old ++ new, ∀ y ∈ e, pl y = true) (ty : TypeId) :
    ∃ v c', (Builtin.append_ #[t, t'] ty #[.slice A n cap, u]).run P c.w = .ok v c'.w ∧ Ext c c' ∧ Inv (σ1.new ⟨R.sz, sh, fl, old ++ new⟩) c' base ∧ Rep c' (.row σ1.clock R.sz 0 (n + new.length)) v ∧ Fr c σ1 none c' ∧
      ∃ K, n + new.length ≤ K ∧ v = .slice (some ⟨c.w.heap.size, 0, none⟩) (n + new.length) K ∧ c'.m σ1.clock = some (.at ⟨c.w.heap.size, 0, R.sz, K⟩) ∧ tyOf c'.w c.w.heap.size = some (e, K * R.sz) := by
  obtain ⟨d, hd1, hd2⟩ : ∃ d, P.underlying t = some d ∧ d = .slice e := by
    unfold tdesc at hk; cases hr : T t with
    | none => simp [hr] at hk
    | some r => simp [hr] at hk; obtain ⟨d, h1, h2⟩ := (hT t r hr).und; rw [hk] at h2; exact ⟨d, h1, h2⟩
  subst hd2
  obtain ⟨i, hi, his, hib, hiz⟩ := (hT e R hR).info
  obtain ⟨z, hz1, hz2, hz3⟩ := hiz hzl
  have hzs : z.cells.size = R.sz := by rw [← hzl, ← hz2]; simp
  have hbound : n + new.length ≤ 140737488355328 := Nat.le_trans (Nat.le_mul_of_pos_right _ (Nat.pos_of_ne_zero hby)) hfit
  have hrun := run_append_grow_src (P := P) c.w t t' ty e i z hd1 hi hz1 A n cap olds (by rw [his]; exact hold) u new.length news (by rw [his]; exact hs.src) hg (by omega) (by
    rw [hib]; exact growslice_fits hg hfit)
  have hcap : n + new.length ≤ grownCap c.w (n + new.length) cap e := grownCap_ge _ _ _ _
  have hI2 := hI1.drew
  have hsz : ((olds ++ news).toArray ++ Builtin.zeroCells z.cells (grownCap c.w (n + new.length) cap e - (n + new.length))).size = grownCap c.w (n + new.length) cap e * R.sz := by
    rw [Array.size_append, size_zeroCells, hzs]
    simp only [List.size_toArray, List.length_append, holl, hs.len]
    rw [← Nat.add_mul, ← Nat.add_mul]; congr 1; omega
  have hmk := hI2.newAt (o := ⟨R.sz, sh, fl, old ++ new⟩) (T0 := e) (tot := grownCap c.w (n + new.length) cap e) (n := if sh then (old ++ new).length * R.sz else 0)
    (arr := (olds ++ news).toArray ++ Builtin.zeroCells z.cells (grownCap c.w (n + new.length) cap e - (n + new.length))) hsz (by simp [hol]; exact hcap) rfl (by
      intro el hel
      rcases List.mem_append.1 hel with h | h
      · exact how el h
      · refine ⟨hw el h, fun x hx => ?_⟩
        obtain ⟨i', hi'⟩ := List.mem_iff_getElem?.1 h
        obtain ⟨j', hj'⟩ := List.mem_iff_getElem?.1 hx
        obtain ⟨_, _, _, h3⟩ := hs.rep i' el j' x hi' hj'
        exact h3) hfl (by
      intro i' el j' x hi' hj'
      have hjl : j' < R.sz := by
        have hjj := (List.getElem?_eq_some_iff.1 hj').1
        rcases List.mem_append.1 (List.mem_of_getElem? hi') with h | h
        · rw [(how el h).1] at hjj; exact hjj
        · rw [hw el h] at hjj; exact hjj
      have key : ∃ v, (olds ++ news)[i' * R.sz + j']? = some v ∧ Rep c x v := by
        by_cases hlt : i' < n
        · simp only at hi'
          rw [List.getElem?_append_left (by omega)] at hi'
          obtain ⟨v, h1, h2⟩ := horep i' el j' x hi' hj'
          exact ⟨v, by rw [List.getElem?_append_left (by rw [holl]; exact ij_lt hlt hjl)]; exact h1, h2⟩
        · simp only at hi'
          rw [List.getElem?_append_right (by omega), hol] at hi'
          obtain ⟨v, h1, h2, _⟩ := hs.rep (i' - n) el j' x hi' hj'
          have hnm : n * R.sz ≤ i' * R.sz := Nat.mul_le_mul_right _ (by omega)
          refine ⟨v, ?_, h2⟩
          rw [List.getElem?_append_right (by rw [holl]; omega), holl]
          rw [← h1]; congr 1
          rw [Nat.sub_mul]; omega
      obtain ⟨v, h1, h2⟩ := key
      have hlt := (List.getElem?_eq_some_iff.1 h1).1
      refine ⟨v, ?_, h2.mono (Ext.drew c)⟩
      rw [Array.getElem?_append_left (by simpa using hlt)]
      simpa using h1)
  refine ⟨_, _, hrun, (Ext.drew c).trans hmk.1, hmk.2.1, ?_, Fr.ofDrew hmk.2.2, _, hcap, rfl, by simp [Ctx.placeS], (tyOf_cells (heap_alloc_new _ _)).trans (by rw [hsz])⟩
  exact .row ⟨c.w.heap.size, 0, R.sz, grownCap c.w (n + new.length) cap e⟩ (by simp [Ctx.placeS]) rfl hcap (by simp) (fun _ => by simp)

/-- The machine's side where there is room. -/
theorem room_run {t t' e : TypeId} {R : TRow} (hT : TabOK P T) (hk : tdesc T t = some (.slice e)) (hR : T e = some R) {u : Value} {new : List Cs} {news : List Value} (hs : ElemsAt P c R.sz t' u new news)
    {b o n cap : Nat} {A : Option Addr} {arr : Array Value} {T0 : TypeId} (h1 : c.w.heap[b]? = some (.cells arr T0 (0, 0))) (hA : new ≠ [] → A = some ⟨b, o, none⟩) (hroom : n + new.length ≤ cap) (hfit : o + (n + new.length) * R.sz ≤ arr.size) (ty : TypeId) :
    ∃ w', (Builtin.append_ #[t, t'] ty #[.slice A n cap, u]).run P c.w = .ok (.slice A (n + new.length) cap) w' ∧
      w'.heap[b]? = some (.cells (seg arr.toList (o + n * R.sz) news).toArray T0 (0, 0)) ∧ (∀ k, k ≠ b → w'.heap[k]? = c.w.heap[k]?) ∧ w'.heap.size = c.w.heap.size ∧ w'.os = c.w.os ∧ w'.tape = c.w.tape ∧ w'.output = c.w.output := by
  have hd1 : P.underlying t = some (.slice e) := by
    unfold tdesc at hk; cases hr : T t with
    | none => simp [hr] at hk
    | some r => simp [hr] at hk; obtain ⟨d, h1, h2⟩ := (hT t r hr).und; rw [hk] at h2; simp only [descOK] at h2; subst h2; exact h1
  obtain ⟨i, hi, his, _⟩ := (hT e R hR).info
  by_cases hne : new = []
  · have hn : news = [] := by have := hs.len; rw [hne] at this; simpa using this
    have hl0 := hs.src.len c.w
    have hc0 := hs.src.cells
    rw [hne] at hl0 hc0
    simp only [List.length_nil] at hl0 hc0
    refine ⟨c.w, ?_, ?_, fun _ _ => rfl, rfl, rfl, rfl, rfl⟩
    · have hr : n ≤ cap := by omega
      rw [hne, hn] at *
      rcases hs.src.kind with ⟨e', hkd⟩ | hkd
      · cases A with
        | none => simp [Builtin.append_, run_underlying hd1, run_underlying hkd, sizeOf, typeInfo, hi, his, hl0, hc0, hr]
        | some a => simp [Builtin.append_, run_underlying hd1, run_underlying hkd, sizeOf, typeInfo, hi, his, hl0, hc0, hr, storeCells]
      · cases A with
        | none => simp [Builtin.append_, run_underlying hd1, run_underlying hkd, sizeOf, typeInfo, hi, his, hl0, hc0, hr]
        | some a => simp [Builtin.append_, run_underlying hd1, run_underlying hkd, sizeOf, typeInfo, hi, his, hl0, hc0, hr, storeCells]
    · rw [hn, h1]; simp [seg]
  · have hA' := hA hne
    subst hA'
    have hlen := hs.len
    have hfit' : o + n * R.sz + news.length ≤ arr.size := by rw [hlen]; rw [Nat.add_mul] at hfit; omega
    have hst := run_storeCells_at P b (o + n * R.sz) T0 news 0 arr c.w h1 (by omega) hs.src.one
    simp only [Nat.add_zero] at hst
    refine ⟨c.w.setRow b (seg arr.toList (o + n * R.sz) news).toArray, ?_, setRow_heap _ _ _ _ _ _ h1, fun k hk' => setRow_other _ _ _ _ hk', by simp, by simp, by simp, by simp⟩
    have hcl : (Builtin.lenOf u).run P c.w = .ok new.length c.w := hs.src.len c.w
    rcases hs.src.kind with ⟨e', hkd⟩ | hkd
    · simp [Builtin.append_, run_underlying hd1, run_underlying hkd, sizeOf, typeInfo, hi, his, hcl, hroom, hs.src.cells, Addr.add_lit, hst, seg]
    · simp [Builtin.append_, run_underlying hd1, run_underlying hkd, sizeOf, typeInfo, hi, his, hcl, hroom, hs.src.cells, Addr.add_lit, hst, seg]

include hT hI in
/-- The row grows in its place. -/
theorem append_room {t t' e : TypeId} {R : TRow} (hk : tdesc T t = some (.slice e)) (hR : T e = some R) (hz : R.sz ≠ 0) {u : Value} {new : List Cs} {news : List Value} (hs : ElemsAt P c R.sz t' u new news)
    (hw : ∀ el ∈ new, el.length = R.sz) {id lo n cap : Nat} {o : Obj} {L : Loc} {A : Option Addr} (hob : σ.ob id = some o) (hm : c.m id = some (.at L)) (hsz : L.sz = R.sz) (hn : n ≤ cap) (ht : lo + cap = L.tot)
    (hA : cap ≠ 0 → A = some ⟨L.b, L.o + lo * R.sz, none⟩) (hle : lo + n ≤ o.es.length) (hsh : o.sh = true → lo + n = o.es.length) (hroom : n + new.length ≤ cap) (fl : Bool) (hfl : fl = true → ∀ e ∈ slice o.es lo n ++ new, ∀ y ∈ e, pl y = true) (ty : TypeId) :
    ∃ v c', (Builtin.append_ #[t, t'] ty #[.slice A n cap, u]).run P c.w = .ok v c'.w ∧ Ext c c' ∧ Inv ((σ.put id none).new ⟨R.sz, o.sh, fl, slice o.es lo n ++ new⟩) c' base ∧ Rep c' (.row σ.clock R.sz 0 (n + new.length)) v ∧ Fr c σ (some id) c' ∧ v = .slice A (n + new.length) cap ∧ c'.m σ.clock = some (.at ⟨L.b, L.o + lo * R.sz, R.sz, cap⟩) := by
  have hok := hI.core.obj id o L hob hm
  obtain ⟨arr, T0, h1, h2, h3⟩ := hok.mem
  have hfit : L.o + lo * R.sz + (n + new.length) * R.sz ≤ arr.size := by
    have h4 : (lo + (n + new.length)) * R.sz ≤ L.tot * R.sz := Nat.mul_le_mul_right _ (by omega)
    rw [Nat.add_mul] at h4; rw [hsz] at h2; omega
  have hnews := hs.len
  obtain ⟨w', hrun, hw1, hw2, hw3, hw4, hw5, hw6⟩ := room_run hT hk hR hs h1 (A := A) (n := n) (cap := cap) (o := L.o + lo * R.sz) (fun hne => hA (by
    have : 0 < new.length := List.length_pos_iff.2 hne
    omega)) hroom hfit ty
  have hlt : L.o + lo * R.sz + n * R.sz + news.length ≤ arr.toList.length := by
    have ha : arr.toList.length = arr.size := Array.length_toList
    rw [hnews, ha]; rw [Nat.add_mul] at hfit; omega
  have hget : ∀ k, (seg arr.toList (L.o + lo * R.sz + n * R.sz) news).toArray[k]? = if L.o + lo * R.sz + n * R.sz ≤ k ∧ k < L.o + lo * R.sz + n * R.sz + news.length then news[k - (L.o + lo * R.sz + n * R.sz)]? else arr[k]? := by
    intro k
    have := seg_get arr.toList (L.o + lo * R.sz + n * R.sz) news hlt k
    simpa using this
  have hsl : (seg arr.toList (L.o + lo * R.sz + n * R.sz) news).length = arr.size := by rw [seg_length _ _ _ hlt]; simp
  have hcf := hI.clock_free
  have hnl : n * R.sz = (lo + n) * R.sz - lo * R.sz := by rw [Nat.add_mul]; omega
  let c' : Ctx := ⟨w', fun a => c.S a ∨ (o.sh = true ∧ a.block = L.b ∧ a.spot = none ∧ L.o + lo * R.sz ≤ a.off ∧ a.off < L.o + lo * R.sz + (n + new.length) * R.sz), fun j => if j = σ.clock then some (.at ⟨L.b, L.o + lo * R.sz, R.sz, cap⟩) else c.m j, []⟩
  have hext : Ext c c' := by
    refine ⟨fun a h => .inl h, fun a ha => ?_, fun j x hx => ?_, by show _ ≤ w'.heap.size; omega, hw4, hw5, hw6, tyOf_row h1 hw1 (by simpa using hsl) hw2⟩
    · by_cases hab : a.block = L.b
      · obtain ⟨hsp, _⟩ := hI.core.inn a ha
        have hfree := hI.core.free id o L hob hm a ha hab
        obtain ⟨b, off, sp⟩ := a
        simp at hab hsp hfree; subst hab; subst hsp
        show w'.cell? _ = _
        rw [cell_of h1, cell_of hw1, hget, if_neg]
        rcases hfree with h | ⟨h, h'⟩
        · omega
        · have := hsh h
          rw [← this, hsz, Nat.add_mul] at h'; omega
      · show w'.cell? a = _
        simp only [World.cell?, hw2 a.block hab]
    · show (if j = σ.clock then _ else c.m j) = _
      rw [if_neg (by intro e; subst e; rw [hcf] at hx; cases hx)]; exact hx
  have hlen : (slice o.es lo n).length = n := by simp [slice]; omega
  have hsget : ∀ i el, (slice o.es lo n)[i]? = some el → o.es[lo + i]? = some el ∧ i < n := by
    intro i el hel
    unfold slice at hel
    rw [List.getElem?_take] at hel
    split at hel
    · rename_i hi; rw [List.getElem?_drop] at hel; exact ⟨hel, hi⟩
    · cases hel
  refine ⟨_, c', hrun, hext, ⟨?_, ?_, ?_⟩, ?_, ?_, ?_⟩
  · have hmove := Core.move (c' := c') (id2 := σ.clock) (L2 := ⟨L.b, L.o + lo * R.sz, R.sz, cap⟩) (o2 := ⟨R.sz, o.sh, fl, slice o.es lo n ++ new⟩) hI.core hob hm hext rfl (fun j hj => by show (if j = σ.clock then _ else c.m j) = _; rw [if_neg hj]) (by show (if _ then _ else _) = _; rw [if_pos rfl])
      (fun b hb => hw2 b hb) ?_ ?_ ?_
    · exact hmove
    · intro a ha
      rcases ha with ha | ⟨_, hab, hsp, h5, h6⟩
      · exact .inl ha
      · refine .inr ⟨hab, hsp, ?_⟩
        obtain ⟨b, off, sp⟩ := a
        simp at hab hsp h5 h6; subst hab; subst hsp
        have hltk : off < (seg arr.toList (L.o + lo * R.sz + n * R.sz) news).length := by omega
        exact ⟨(seg arr.toList (L.o + lo * R.sz + n * R.sz) news)[off], by
          show w'.cell? _ = _
          rw [cell_of hw1]; simp [hltk]⟩
    · refine ⟨rfl, hok.base, by simp [hlen]; omega, ?_, ?_, hfl, _, T0, hw1, ?_, ?_⟩
      · intro el hel
        rcases List.mem_append.1 hel with h | h
        · show el.length = R.sz; rw [← hsz, hok.sz]; exact hok.wid el (List.mem_of_mem_drop (List.mem_of_mem_take h))
        · exact hw el h
      · intro el hel x hx
        rcases List.mem_append.1 hel with h | h
        · exact hok.leafs el (List.mem_of_mem_drop (List.mem_of_mem_take h)) x hx
        · obtain ⟨i', hi'⟩ := List.mem_iff_getElem?.1 h
          obtain ⟨j', hj'⟩ := List.mem_iff_getElem?.1 hx
          obtain ⟨_, _, _, h3⟩ := hs.rep i' el j' x hi' hj'
          exact h3
      · show L.o + lo * R.sz + cap * R.sz ≤ (seg arr.toList (L.o + lo * R.sz + n * R.sz) news).toArray.size
        have h4 : (lo + cap) * R.sz = L.tot * R.sz := by rw [ht]
        rw [Nat.add_mul] at h4
        simp [hsl]; rw [hsz] at h2; omega
      · intro i el j x hi hj
        show ∃ u, (seg arr.toList (L.o + lo * R.sz + n * R.sz) news).toArray[L.o + lo * R.sz + i * R.sz + j]? = some u ∧ Rep c' x u ∧ (o.sh = true → _)
        rw [hget]
        simp only at hi
        have hjl : j < R.sz := by
          have hjj := (List.getElem?_eq_some_iff.1 hj).1
          rcases List.mem_append.1 (List.mem_of_getElem? hi) with h | h
          · rw [← hsz, hok.sz, ← hok.wid el (List.mem_of_mem_drop (List.mem_of_mem_take h))]; exact hjj
          · rw [hw el h] at hjj; exact hjj
        have hil : i < n + new.length := by have := (List.getElem?_eq_some_iff.1 hi).1; simp [hlen] at this; exact this
        have hS : o.sh = true → c'.S ⟨L.b, L.o + lo * R.sz + i * R.sz + j, none⟩ := fun h => .inr ⟨h, rfl, rfl, by simp; omega, by
          have := ij_lt hil hjl
          simp; omega⟩
        by_cases hin : i < n
        · rw [List.getElem?_append_left (by omega)] at hi
          obtain ⟨h4, _⟩ := hsget i el hi
          obtain ⟨v, a1, a2, a3⟩ := h3 (lo + i) el j x h4 hj
          have := ij_lt hin hjl
          rw [if_neg (by omega)]
          refine ⟨v, ?_, a2.mono hext, hS⟩
          rw [← a1]; congr 1
          rw [hsz, Nat.add_mul]; omega
        · rw [List.getElem?_append_right (by omega), hlen] at hi
          obtain ⟨v, a1, a2, _⟩ := hs.rep (i - n) el j x hi hj
          have hnm : n * R.sz ≤ i * R.sz := Nat.mul_le_mul_right _ (by omega)
          have hsub : (i - n) * R.sz = i * R.sz - n * R.sz := Nat.sub_mul _ _ _
          have hlt2 := (List.getElem?_eq_some_iff.1 a1).1
          rw [if_pos (by omega)]
          refine ⟨v, ?_, a2.mono hext, hS⟩
          rw [← a1]; congr 1; omega
    · intro a ha hab
      show a.off < L.o + lo * R.sz ∨ (o.sh = true ∧ a.off < L.o + lo * R.sz + (slice o.es lo n ++ new).length * R.sz)
      rcases ha with ha | ⟨hs1, _, _, h5, h6⟩
      · rcases hI.core.free id o L hob hm a ha hab with h | ⟨h, h'⟩
        · left; omega
        · by_cases hlow : a.off < L.o + lo * R.sz
          · exact .inl hlow
          · right
            refine ⟨h, ?_⟩
            have h4 := hsh h
            rw [← h4, hsz] at h'
            simp only [List.length_append, hlen, Nat.add_mul] at h' ⊢; omega
      · right; exact ⟨hs1, by simp only [List.length_append, hlen]; exact h6⟩
  · intro j l hl
    have hl' : (if j = σ.clock then some (ML.at ⟨L.b, L.o + lo * R.sz, R.sz, cap⟩) else c.m j) = some l := hl
    split at hl'
    · rename_i hj; subst hj; simp [Store.new, Store.put]
    · have := hI.dom j l hl'; simp [Store.new, Store.put]; omega
  · intro j q hq
    have hq' : (if j = σ.clock then some (⟨R.sz, o.sh, fl, slice o.es lo n ++ new⟩ : Obj) else if j = id then none else σ.ob j) = some q := hq
    show j < σ.clock + 1
    by_cases hj : j = σ.clock
    · omega
    · rw [if_neg hj] at hq'
      by_cases hj2 : j = id
      · rw [if_pos hj2] at hq'; cases hq'
      · rw [if_neg hj2] at hq'; have := hI.old j q hq'; omega
  · exact .row ⟨L.b, L.o + lo * R.sz, R.sz, cap⟩ (by show (if _ then _ else _) = _; rw [if_pos rfl]) rfl hroom (by simp) (fun hc => by simpa using hA hc)
  · refine ⟨fun b hb hne => hw2 b (fun e => hne id o L hob hm id rfl (Nat.le_refl _) e.symm), fun j l hl => ?_, fun j K hl hn' => ?_, fun a ha => ?_⟩
    · have hl' : (if j = σ.clock then some (ML.at ⟨L.b, L.o + lo * R.sz, R.sz, cap⟩) else c.m j) = some l := hl
      split at hl'
      · rename_i hj; subst hj; exact .inr (Nat.le_refl _)
      · exact .inl hl'
    · have hl' : (if j = σ.clock then some (ML.at ⟨L.b, L.o + lo * R.sz, R.sz, cap⟩) else c.m j) = some (.at K) := hl
      split at hl'
      · cases hl'; exact .inr ⟨id, o, L, hob, hm, rfl, id, rfl, Nat.le_refl _⟩
      · exact absurd hl' hn'
    · rcases ha with ha | ⟨_, hab, _⟩
      · exact .inl ha
      · exact .inr (.inr ⟨id, o, L, hob, hm, hab, id, rfl, Nat.le_refl _⟩)
  · exact ⟨rfl, by show (if _ then _ else _) = _; rw [if_pos rfl]⟩

end

end Go.Bx

/- Class B: append, joined. (Own text.) -/
namespace Go.Bx
set_option linter.unusedVariables false
set_option linter.unusedSimpArgs false
set_option linter.unusedSectionVars false
set_option linter.unusedVariables false
set_option linter.unusedSectionVars false

section
variable {P : Program} {T : Tab} (hT : TabOK P T) {c : Ctx} {ρa : Operand → AV} {ρ : Operand → Value} {base : Nat} {σ : Store} (hI : Inv σ c base) (hρ : ∀ x, Rep c (ρa x) (ρ x))

include hT hI
theorem elemsT_at {t t' e : TypeId} {R : TRow} (hk : tdesc T t = some (.slice e)) (hR : T e = some R) (hz : R.sz ≠ 0) {x : AV} {u : Value} (hx : Rep c x u) {new : List Cs} (h : elemsT T t t' σ x = some new)
    (hw : (new.all fun c => c.length == R.sz) = true) : ∃ news, ElemsAt P c R.sz t' u new news ∧ (flatOf σ x = true → ∀ e ∈ new, ∀ y ∈ e, pl y = true) := by
  unfold elemsT at h
  split at h
  · rename_i htt; subst htt
    exact elemsAt hT hI hk hR hz hx h hw
  · split at h
    · rename_i s hd; cases h
      cases hx
      have hund : P.underlying t' = some .string := by
        unfold tdesc at hd; cases hr : T t' with
        | none => simp [hr] at hd
        | some r => simp [hr] at hd; obtain ⟨d, h1, h2⟩ := (hT t' r hr).und; rw [hd] at h2; simp only [descOK] at h2; subst h2; exact h1
      have hlen : (byteCells s).length = s.size := by simp only [byteCells, List.length_map, Array.length_toList]; rfl
      have hsrc := Src.ofString (P := P) c.w hund s
      have hnl : (Go.byteCells s).length = s.size := Go.byteCells_length s
      have hget : ∀ (i : Nat) el (j : Nat) x, (byteCells s)[i]? = some el → el[j]? = some x → j = 0 ∧ ∃ v, (Go.byteCells s)[i]? = some v ∧ x = .v v ∧ leaf x = true ∧ pl x = true := by
        intro i el j x hi hj
        simp only [byteCells, List.getElem?_map, Option.map_eq_some_iff] at hi
        obtain ⟨b, hb, rfl⟩ := hi
        have hj0 : j = 0 := by have := (List.getElem?_eq_some_iff.1 hj).1; simp at this; exact this
        subst hj0
        simp only [List.getElem?_cons_zero, Option.some.injEq] at hj
        subst hj
        exact ⟨rfl, .int .u8 b.toNat, by simp only [Go.byteCells, List.getElem?_map, hb]; rfl, rfl, rfl, rfl⟩
      refine ⟨Go.byteCells s, ?_, fun _ el hel y hy => ?_⟩
      · by_cases h0 : s.size = 0
        · have hnil : byteCells s = [] := List.eq_nil_of_length_eq_zero (by omega)
          have hnil' : Go.byteCells s = [] := List.eq_nil_of_length_eq_zero (by omega)
          rw [hnil, hnil']
          refine ⟨⟨.inr hund, fun w' => ?_, ?_, ?_, by simp, fun v hv => by cases hv⟩, by simp, fun i el j x hi => by simp at hi⟩
          · have := hsrc.len w'; rw [h0] at this; exact this
          · simp [Builtin.firstCells]
          · simp [Builtin.firstCells]
        · have h1 : R.sz = 1 := by
            have hpos : 0 < (byteCells s).length := by omega
            have := List.all_eq_true.1 hw _ (List.getElem_mem hpos)
            have hl1 : (byteCells s)[0].length = 1 := by simp [byteCells]
            rw [hl1] at this; have h1 : 1 = R.sz := by simpa using this
            exact h1.symm
          rw [h1]
          refine ⟨by rw [hlen]; exact hsrc, by rw [hnl, hlen]; omega, fun i el j x hi hj => ?_⟩
          obtain ⟨rfl, v, hv, rfl, hlf, _⟩ := hget i el j x hi hj
          exact ⟨v, by rw [Nat.mul_one, Nat.add_zero]; exact hv, .v v, hlf⟩
      · obtain ⟨i, hi⟩ := List.mem_iff_getElem?.1 hel
        obtain ⟨j, hj⟩ := List.mem_iff_getElem?.1 hy
        obtain ⟨_, v, _, _, _, hp⟩ := hget i el j y hi hj
        exact hp
    · cases h

include hρ in
set_option maxHeartbeats 2000000 in
theorem simB_append (o : Oper) (t t' : TypeId) (s x : Operand) (ho : o.op = .call ⟨.builtin .append, #[s, x], #[t, t']⟩) {r : OR} (h : evAppend T σ t t' (ρa s) (ρa x) = some r) : SimB P base σ c ((execOp ρ o).run P c.w) r := by
  unfold evAppend at h
  split at h
  · rename_i e hk
    split at h
    · rename_i R hR
      split at h
      · rename_i new hnew
        split at h
        · rename_i hcond
          obtain ⟨hall, hz, hby, hzl⟩ := hcond
          have hw : ∀ el ∈ new, el.length = R.sz := fun el hel => by have := List.all_eq_true.1 hall el hel; simpa using this
          obtain ⟨news, hE, hflat⟩ := elemsT_at hT hI hk hR hz (hρ x) hnew hall
          have hkd := hE.src.kind
          have hexec : ∀ v w', (Builtin.append_ #[t, t'] o.type #[ρ s, ρ x]).run P c.w = .ok v w' → (execOp ρ o).run P c.w = .ok (.value v) w' := by
            intro v w' hv
            simp [execOp, ho, resolve, invoke, builtin, hv]
          split at h
          · rename_i hs
            have hs' := rep_v hρ hs
            split at h
            · rename_i hfit; cases h
              by_cases hne : new = []
              · subst hne
                obtain ⟨he, hi⟩ := hI.newVirt (o := ⟨R.sz, false, flatOf σ (ρa x), []⟩) rfl
                have hl0 := hE.src.len c.w
                have hc0 := hE.src.cells
                have hn : news = [] := by have := hE.len; simpa using this
                subst hn
                simp only [List.length_nil] at hl0 hc0
                have hd1 : P.underlying t = some (.slice e) := by
                  unfold tdesc at hk; cases hr : T t with
                  | none => simp [hr] at hk
                  | some r => simp [hr] at hk; obtain ⟨d, h1, h2⟩ := (hT t r hr).und; rw [hk] at h2; simp only [descOK] at h2; subst h2; exact h1
                obtain ⟨i, hi', his, _⟩ := (hT e R hR).info
                have hrun : (Builtin.append_ #[t, t'] o.type #[ρ s, ρ x]).run P c.w = .ok (.slice none 0 0) c.w := by
                  rw [hs']
                  rcases hkd with ⟨e', hkd⟩ | hkd <;> simp [Builtin.append_, run_underlying hd1, run_underlying hkd, sizeOf, typeInfo, hi', his, hl0, hc0]
                refine ⟨.slice none 0 0, { c with m := fun j => if j = σ.clock then some .virt else c.m j }, .inl (hexec _ _ hrun), he, by simpa using hi, ?_, ?_⟩
                · simp only [List.length_nil]
                  exact .row0 (by simp)
                · refine ⟨fun b hb _ => rfl, fun j l hl => ?_, fun j K hl hn' => ?_, fun a ha => .inl ha⟩
                  · simp only at hl
                    split at hl
                    · rename_i hj; subst hj; exact .inr (Nat.le_refl _)
                    · exact .inl hl
                  · simp only at hl
                    split at hl
                    · cases hl
                    · exact absurd hl hn'
              · have hlen : 0 < new.length := List.length_pos_iff.2 hne
                obtain ⟨v, c', h1, h2, h3, h4, h5, _⟩ := append_grow hT hI hk hR hz hzl hE hw hI none 0 0 [] [] (by simp [Builtin.firstCells]) rfl (by simp) (fun el hel => by cases hel) (fun i el j x hi => by simp at hi) (by omega) (by simpa using hfit) hby false (flatOf σ (ρa x)) (by simpa using hflat) o.type
                refine ⟨v, c', .inl (hexec _ _ (by rw [hs']; exact h1)), h2, ?_, ?_, h5⟩
                · simpa using h3
                · simpa using h4
            · cases h
          · rename_i hs
            have hs' : ∃ A, ρ s = .slice A 0 0 := by
              have hxx := hρ s; rw [hs] at hxx
              generalize ρ s = us at hxx
              cases hxx; exact ⟨_, rfl⟩
            obtain ⟨A, hs'⟩ := hs'
            split at h
            · rename_i hfit; cases h
              by_cases hne : new = []
              · subst hne
                obtain ⟨he, hi⟩ := hI.newVirt (o := ⟨R.sz, false, flatOf σ (ρa x), []⟩) rfl
                have hl0 := hE.src.len c.w
                have hc0 := hE.src.cells
                have hn : news = [] := by have := hE.len; simpa using this
                subst hn
                simp only [List.length_nil] at hl0 hc0
                have hd1 : P.underlying t = some (.slice e) := by
                  unfold tdesc at hk; cases hr : T t with
                  | none => simp [hr] at hk
                  | some r => simp [hr] at hk; obtain ⟨d, h1, h2⟩ := (hT t r hr).und; rw [hk] at h2; simp only [descOK] at h2; subst h2; exact h1
                obtain ⟨i, hi', his, _⟩ := (hT e R hR).info
                have hrun : (Builtin.append_ #[t, t'] o.type #[ρ s, ρ x]).run P c.w = .ok (.slice A 0 0) c.w := by
                  rw [hs']
                  rcases hkd with ⟨e', hkd⟩ | hkd <;> cases A <;> simp [Builtin.append_, run_underlying hd1, run_underlying hkd, sizeOf, typeInfo, hi', his, hl0, hc0, storeCells]
                refine ⟨.slice A 0 0, { c with m := fun j => if j = σ.clock then some .virt else c.m j }, .inl (hexec _ _ hrun), he, by simpa using hi, ?_, ?_⟩
                · simp only [List.length_nil]
                  exact .row0 (by simp)
                · refine ⟨fun b hb _ => rfl, fun j l hl => ?_, fun j K hl hn' => ?_, fun a ha => .inl ha⟩
                  · simp only at hl
                    split at hl
                    · rename_i hj; subst hj; exact .inr (Nat.le_refl _)
                    · exact .inl hl
                  · simp only at hl
                    split at hl
                    · cases hl
                    · exact absurd hl hn'
              · have hlen : 0 < new.length := List.length_pos_iff.2 hne
                obtain ⟨v, c', h1, h2, h3, h4, h5, _⟩ := append_grow hT hI hk hR hz hzl hE hw hI A 0 0 [] [] (by cases A <;> simp [Builtin.firstCells, loadCells, loadCellsFrom]) rfl (by simp) (fun el hel => by cases hel) (fun i el j x hi => by simp at hi) (by omega) (by simpa using hfit) hby false (flatOf σ (ρa x)) (by simpa using hflat) o.type
                refine ⟨v, c', .inl (hexec _ _ (by rw [hs']; exact h1)), h2, ?_, ?_, h5⟩
                · simpa using h3
                · simpa using h4
            · cases h
          · rename_i id sz lo n hs
            split at h
            · rename_i ob hob
              split at h
              · rename_i hc2; cases h
                obtain ⟨hsz, hle, hfit, hsh⟩ := hc2
                have hxx := hρ s; rw [hs] at hxx
                generalize hu : ρ s = us at hxx
                have hlen : (slice ob.es lo n).length = n := by simp [slice]; omega
                cases hxx with
                | row L hm hs2 hn ht hA =>
                  rename_i A cap
                  by_cases hroom : n + new.length ≤ cap
                  · obtain ⟨v, c', h1, h2, h3, h4, h5, _⟩ := append_room hT hI hk hR hz hE hw hob hm (by rw [hs2, hsz]) hn ht (by rw [← hsz]; exact hA) hle hsh hroom (ob.flat && flatOf σ (ρa x)) (by
                      intro h e he y hy
                      simp only [Bool.and_eq_true] at h
                      rcases List.mem_append.1 he with he | he
                      · exact (hI.core.obj id ob L hob hm).flat h.1 e (List.mem_of_mem_drop (List.mem_of_mem_take he)) y hy
                      · exact hflat h.2 e he y hy) o.type
                    exact ⟨v, c', .inl (hexec _ _ (by rw [hu]; exact h1)), h2, h3, h4, h5⟩
                  · have hok := hI.core.obj id ob L hob hm
                    obtain ⟨olds, hO, _⟩ : ∃ olds, ElemsAt P c R.sz t (.slice A n cap) (slice ob.es lo n) olds ∧ _ :=
                      elemsAt (σ := σ) hT hI hk hR hz (x := .row id sz lo n) (.row L hm hs2 hn ht hA) (by simp [elems, hob, hle]) (by
                        rw [List.all_eq_true]; intro el hel
                        have := hok.wid el (List.mem_of_mem_drop (List.mem_of_mem_take hel))
                        rw [this, ← hok.sz, hs2, hsz]; simp)
                    have hold := hO.src.cellsD
                    rw [hlen] at hold
                    obtain ⟨v, c', h1, h2, h3, h4, h5, _⟩ := append_grow hT hI hk hR hz hzl hE hw (hI.kill id) A n cap (slice ob.es lo n) olds hold hlen (by rw [hO.len, hlen]) (fun el hel => by
                        have hm' := List.mem_of_mem_drop (List.mem_of_mem_take hel)
                        exact ⟨by rw [hok.wid el hm', ← hok.sz, hs2, hsz], hok.leafs el hm'⟩) (fun i el j x hi hj => by
                        obtain ⟨v, a1, a2, _⟩ := hO.rep i el j x hi hj; exact ⟨v, a1, a2⟩) (by omega) hfit hby ob.sh (ob.flat && flatOf σ (ρa x)) (by
                      intro h e he y hy
                      simp only [Bool.and_eq_true] at h
                      rcases List.mem_append.1 he with he | he
                      · exact hok.flat h.1 e (List.mem_of_mem_drop (List.mem_of_mem_take he)) y hy
                      · exact hflat h.2 e he y hy) o.type
                    exact ⟨v, c', .inl (hexec _ _ (by rw [hu]; exact h1)), h2, h3, h4, Fr.ofKill h5⟩
                | row0 hm =>
                  rename_i A
                  have hes := hI.core.virt id ob hob hm
                  have hsl : slice ob.es lo 0 = [] := by simp [slice]
                  by_cases hne : new = []
                  · subst hne
                    have hI2 := hI.kill id
                    obtain ⟨he, hi⟩ := hI2.newVirt (o := ⟨R.sz, ob.sh, ob.flat && flatOf σ (ρa x), []⟩) rfl
                    have hl0 := hE.src.len c.w
                    have hc0 := hE.src.cells
                    have hn : news = [] := by have := hE.len; simpa using this
                    subst hn
                    simp only [List.length_nil] at hl0 hc0
                    have hd1 : P.underlying t = some (.slice e) := by
                      unfold tdesc at hk; cases hr : T t with
                      | none => simp [hr] at hk
                      | some r => simp [hr] at hk; obtain ⟨d, h1, h2⟩ := (hT t r hr).und; rw [hk] at h2; simp only [descOK] at h2; subst h2; exact h1
                    obtain ⟨i, hi', his, _⟩ := (hT e R hR).info
                    have hrun : (Builtin.append_ #[t, t'] o.type #[ρ s, ρ x]).run P c.w = .ok (.slice A 0 0) c.w := by
                      rw [hu]
                      cases A with
                      | none => rcases hkd with ⟨e', hkd⟩ | hkd <;> simp [Builtin.append_, run_underlying hd1, run_underlying hkd, sizeOf, typeInfo, hi', his, hl0, hc0]
                      | some a => rcases hkd with ⟨e', hkd⟩ | hkd <;> simp [Builtin.append_, run_underlying hd1, run_underlying hkd, sizeOf, typeInfo, hi', his, hl0, hc0, storeCells]
                    refine ⟨.slice A 0 0, { c with m := fun j => if j = σ.clock then some .virt else c.m j }, .inl (hexec _ _ hrun), he, ?_, ?_, ?_⟩
                    · have hi2 : Inv ((σ.put id none).new ⟨R.sz, ob.sh, ob.flat && flatOf σ (ρa x), []⟩) { c with m := fun j => if j = σ.clock then some .virt else c.m j } base := hi
                      simpa [hsl] using hi2
                    · simp only [List.length_nil]
                      exact .row0 (by simp [Store.put])
                    · refine ⟨fun b hb _ => rfl, fun j l hl => ?_, fun j K hl hn' => ?_, fun a ha => .inl ha⟩
                      · simp only at hl
                        split at hl
                        · rename_i hj; subst hj; exact .inr (Nat.le_refl _)
                        · exact .inl hl
                      · simp only at hl
                        split at hl
                        · cases hl
                        · exact absurd hl hn'
                  · have hlen : 0 < new.length := List.length_pos_iff.2 hne
                    obtain ⟨v, c', h1, h2, h3, h4, h5, _⟩ := append_grow hT hI hk hR hz hzl hE hw (hI.kill id) A 0 0 [] [] (by cases A <;> simp [Builtin.firstCells, loadCells, loadCellsFrom]) rfl (by simp) (fun el hel => by cases hel) (fun i el j x hi => by simp at hi) (by omega) (by simpa using hfit) hby ob.sh (ob.flat && flatOf σ (ρa x)) (by
                      intro h; simp only [Bool.and_eq_true] at h; simpa using hflat h.2) o.type
                    refine ⟨v, c', .inl (hexec _ _ (by rw [hu]; exact h1)), h2, ?_, ?_, Fr.ofKill h5⟩
                    · simpa [hsl] using h3
                    · simpa [Store.put] using h4
              · cases h
            · cases h
          · rename_i id t0 n hs
            split at h
            · rename_i ob hob
              split at h
              · rename_i hc2; cases h
                obtain ⟨ht0, hsz, hosz, hle, hfit, hsh⟩ := hc2
                have hxx := hρ s; rw [hs] at hxx
                generalize hu : ρ s = us at hxx
                have hlen : (slice ob.es 0 n).length = n := by simp [slice]; omega
                have hflat' : ((ob.flat && flatOf σ (ρa x)) = true) → (∀ L, c.m id = some (.at L) → ∀ e ∈ slice ob.es 0 n ++ new, ∀ y ∈ e, pl y = true) := by
                  intro h L hm e he y hy
                  simp only [Bool.and_eq_true] at h
                  rcases List.mem_append.1 he with he | he
                  · exact (hI.core.obj id ob L hob hm).flat h.1 e (List.mem_of_mem_drop (List.mem_of_mem_take he)) y hy
                  · exact hflat h.2 e he y hy
                cases hxx with
                | trow L hm hs2 ho0 hty hn hcap =>
                  rename_i cap
                  have hok := hI.core.obj id ob L hob hm
                  by_cases hroom : n + new.length ≤ cap
                  · obtain ⟨v, c', h1, h2, h3, h4, h5, h6, h7⟩ := append_room hT hI hk hR hz hE hw hob hm (by rw [hs2, hsz]) (lo := 0) (A := some ⟨L.b, 0, none⟩) hn (by omega) (by intro _; simp [ho0]) (by omega) (by rw [hsh]; intro h; cases h) hroom (ob.flat && flatOf σ (ρa x)) (fun h => hflat' h L hm) o.type
                    refine ⟨v, c', .inl (hexec _ _ (by rw [hu]; exact h1)), h2, h3, ?_, h5⟩
                    rw [h6]
                    have h7' : c'.m σ.clock = some (.at ⟨L.b, 0, 1, cap⟩) := by rw [h7, ho0, hsz]
                    exact .trow ⟨L.b, 0, 1, cap⟩ h7' rfl rfl (by rw [hcap]; exact h2.ty _ _ hty) hroom rfl
                  · obtain ⟨olds, hO, _⟩ : ∃ olds, ElemsAt P c R.sz t (.slice (some ⟨L.b, 0, none⟩) n cap) (slice ob.es 0 n) olds ∧ _ :=
                      elemsAt (σ := σ) hT hI hk hR hz (x := .row id 1 0 n) (.row L hm hs2 hn (by omega) (by intro _; simp [ho0])) (by simp [elems, hob, hle]) (by
                        rw [List.all_eq_true]; intro el hel
                        have := hok.wid el (List.mem_of_mem_drop (List.mem_of_mem_take hel))
                        rw [this, ← hok.sz, hs2, hsz]; simp)
                    have hold := hO.src.cellsD
                    rw [hlen] at hold
                    obtain ⟨v, c', h1, h2, h3, h4, h5, K, h6, h7, h8, h9⟩ := append_grow hT hI hk hR hz hzl hE hw (hI.kill id) (some ⟨L.b, 0, none⟩) n cap (slice ob.es 0 n) olds hold hlen (by rw [hO.len, hlen]) (fun el hel => by
                        have hm' := List.mem_of_mem_drop (List.mem_of_mem_take hel)
                        exact ⟨by rw [hok.wid el hm', ← hok.sz, hs2, hsz], hok.leafs el hm'⟩) (fun i el j x hi hj => by
                        obtain ⟨v, a1, a2, _⟩ := hO.rep i el j x hi hj; exact ⟨v, a1, a2⟩) (by omega) hfit hby ob.sh (ob.flat && flatOf σ (ρa x)) (fun h => hflat' h L hm) o.type
                    refine ⟨v, c', .inl (hexec _ _ (by rw [hu]; exact h1)), h2, h3, ?_, Fr.ofKill h5⟩
                    rw [h7]
                    have h8' : c'.m σ.clock = some (.at ⟨c.w.heap.size, 0, 1, K⟩) := by
                      have : (σ.put id none).clock = σ.clock := rfl
                      rw [← this, h8, hsz]
                    exact .trow ⟨c.w.heap.size, 0, 1, K⟩ h8' rfl rfl (by rw [h9, ht0, hsz, Nat.mul_one]) h6 rfl
                | trow0 hm =>
                  have hes := hI.core.virt id ob hob hm
                  have hsl : slice ob.es 0 0 = [] := by simp [slice]
                  by_cases hne : new = []
                  · subst hne
                    have hI2 := hI.kill id
                    obtain ⟨he, hi⟩ := hI2.newVirt (o := ⟨R.sz, ob.sh, ob.flat && flatOf σ (ρa x), []⟩) rfl
                    have hl0 := hE.src.len c.w
                    have hc0 := hE.src.cells
                    have hn : news = [] := by have := hE.len; simpa using this
                    subst hn
                    simp only [List.length_nil] at hl0 hc0
                    have hd1 : P.underlying t = some (.slice e) := by
                      unfold tdesc at hk; cases hr : T t with
                      | none => simp [hr] at hk
                      | some r => simp [hr] at hk; obtain ⟨d, h1, h2⟩ := (hT t r hr).und; rw [hk] at h2; simp only [descOK] at h2; subst h2; exact h1
                    obtain ⟨i, hi', his, _⟩ := (hT e R hR).info
                    have hrun : (Builtin.append_ #[t, t'] o.type #[ρ s, ρ x]).run P c.w = .ok (.slice none 0 0) c.w := by
                      rw [hu]
                      rcases hkd with ⟨e', hkd⟩ | hkd <;> simp [Builtin.append_, run_underlying hd1, run_underlying hkd, sizeOf, typeInfo, hi', his, hl0, hc0]
                    refine ⟨.slice none 0 0, { c with m := fun j => if j = σ.clock then some .virt else c.m j }, .inl (hexec _ _ hrun), he, ?_, ?_, ?_⟩
                    · have hi2 : Inv ((σ.put id none).new ⟨R.sz, ob.sh, ob.flat && flatOf σ (ρa x), []⟩) { c with m := fun j => if j = σ.clock then some .virt else c.m j } base := hi
                      simpa [hsl] using hi2
                    · simp only [List.length_nil]
                      exact .trow0 (by simp [Store.put])
                    · refine ⟨fun b hb _ => rfl, fun j l hl => ?_, fun j K hl hn' => ?_, fun a ha => .inl ha⟩
                      · simp only at hl
                        split at hl
                        · rename_i hj; subst hj; exact .inr (Nat.le_refl _)
                        · exact .inl hl
                      · simp only at hl
                        split at hl
                        · cases hl
                        · exact absurd hl hn'
                  · have hlen : 0 < new.length := List.length_pos_iff.2 hne
                    obtain ⟨v, c', h1, h2, h3, h4, h5, K, h6, h7, h8, h9⟩ := append_grow hT hI hk hR hz hzl hE hw (hI.kill id) none 0 0 [] [] (by simp [Builtin.firstCells]) rfl (by simp) (fun el hel => by cases hel) (fun i el j x hi => by simp at hi) (by omega) (by simpa using hfit) hby ob.sh (ob.flat && flatOf σ (ρa x)) (by
                      intro h; simp only [Bool.and_eq_true] at h; simpa using hflat h.2) o.type
                    refine ⟨v, c', .inl (hexec _ _ (by rw [hu]; exact h1)), h2, ?_, ?_, Fr.ofKill h5⟩
                    · simpa [hsl] using h3
                    · rw [h7]
                      have h8' : c'.m σ.clock = some (.at ⟨c.w.heap.size, 0, 1, K⟩) := by
                        have : (σ.put id none).clock = σ.clock := rfl
                        rw [← this, h8, hsz]
                      exact .trow ⟨c.w.heap.size, 0, 1, K⟩ h8' rfl rfl (by rw [h9, ht0, hsz, Nat.mul_one]) h6 rfl
              · cases h
            · cases h
          · cases h
        · cases h
      · cases h
    · cases h
  · cases h
end

end Go.Bx

/- The builtin copy, onto the head of a row of single cells. (Own text.) -/
namespace Go.Bx
set_option linter.unusedVariables false
set_option linter.unusedSimpArgs false
set_option linter.unusedSectionVars false
set_option linter.unusedVariables false
set_option linter.unusedSectionVars false
set_option linter.unusedSimpArgs false

section
variable {P : Program} {T : Tab} (hT : TabOK P T) {c : Ctx} {ρa : Operand → AV} {ρ : Operand → Value} {base : Nat} {σ : Store} (hI : Inv σ c base) (hρ : ∀ x, Rep c (ρa x) (ρ x))

theorem Inv.same (hI : Inv σ c base) {id : Nat} {o : Obj} (h : σ.ob id = some o) : Inv (σ.put id (some o)) c base := by
  have : σ.put id (some o) = σ := by
    cases σ with
    | mk k ob =>
      simp only [Store.put, Store.mk.injEq, true_and] at h ⊢
      funext j
      by_cases hj : j = id
      · subst hj; rw [if_pos rfl]; exact h.symm
      · rw [if_neg hj]
  rw [this]; exact hI

include hT hI hρ in
theorem copy_at (o : Oper) {t t' e : TypeId} {R : TRow} (hk : tdesc T t = some (.slice e)) (hk' : tdesc T t' = some (.slice e)) (hR : T e = some R) (hz : R.sz = 1) {d x : Operand} (ho : o.op = .call ⟨.builtin .copy, #[d, x], #[t, t']⟩) {id n : Nat} {es : List Cs}
    (hd : ρa d = .row id 1 0 n) (hob : σ.ob id = some ⟨1, false, true, es⟩) (hn : n = es.length) {new : List Cs} (hx : elems σ (ρa x) = some new) (hw : (new.all fun c => c.length == R.sz) = true) (hpl : ∀ el ∈ new, ∀ x ∈ el, pl x = true) (hle : new.length ≤ n) :
    SimB P base σ c ((execOp ρ o).run P c.w) ⟨.v (.int .i64 new.length), σ.put id (some ⟨1, false, true, new ++ es.drop new.length⟩), some id, true⟩ := by
  have hz0 : R.sz ≠ 0 := by omega
  obtain ⟨news, hE⟩ := elemsAt0 hT hI hk' hR hz0 (hρ x) hx hw
  have hlenn : news.length = new.length := by have := hE.len; rw [hz] at this; omega
  have hd1 : P.underlying t = some (.slice e) := by
    unfold tdesc at hk; cases hr : T t with
    | none => simp [hr] at hk
    | some r => simp [hr] at hk; obtain ⟨d, h1, h2⟩ := (hT t r hr).und; rw [hk] at h2; simp only [descOK] at h2; subst h2; exact h1
  obtain ⟨i, hi, his, _⟩ := (hT e R hR).info
  have hexec : ∀ v w', (Builtin.copy_ #[t, t'] o.type #[ρ d, ρ x]).run P c.w = .ok v w' → (execOp ρ o).run P c.w = .ok (.value v) w' := by
    intro v w' hv
    simp [execOp, ho, resolve, invoke, builtin, hv]
  have hlenr := hE.src.len
  have hcells := hE.src.cells
  have hrd := hρ d
  rw [hd] at hrd
  generalize hu : ρ d = u at hrd hexec
  have empty : new = [] → ∀ A cap, u = .slice A n cap → SimB P base σ c ((execOp ρ o).run P c.w) ⟨.v (.int .i64 new.length), σ.put id (some ⟨1, false, true, new ++ es.drop new.length⟩), some id, true⟩ := fun hnil A cap hA => by
    subst hnil
    have hnn : news = [] := List.eq_nil_of_length_eq_zero hlenn
    subst hnn
    refine ⟨.int .i64 0, c, .inl (hexec _ _ ?_), Ext.refl c, ?_, .v _, ?_⟩
    · subst hA
      simp only [List.length_nil] at hlenr hcells
      cases A with
      | none => simp [Builtin.copy_, run_underlying hd1, sizeOf, typeInfo, hi, his, hlenr, hcells, goInt]
      | some a => simp [Builtin.copy_, run_underlying hd1, sizeOf, typeInfo, hi, his, hlenr, hcells, goInt, storeCells]
    · simp only [List.length_nil, List.nil_append, List.drop_zero]; exact hI.same hob
    · exact ⟨fun _ _ _ => rfl, fun _ _ h => .inl h, fun _ _ h h' => absurd h h', fun _ h => .inl h⟩
  cases hrd with
  | row0 hm =>
    exact empty (List.eq_nil_of_length_eq_zero (by omega)) _ _ rfl
  | @row _ _ _ _ A cap L hm hs hn' ht hA =>
    by_cases hne : new = []
    · exact empty hne _ _ rfl
    · have hpos : 0 < new.length := List.length_pos_iff.2 hne
      have hAA := hA (by omega)
      subst hAA
      simp only [Nat.zero_mul, Nat.add_zero] at *
      have hok := hI.core.obj id _ L hob hm
      obtain ⟨arr, T0, h1, h2, h3⟩ := hok.mem
      have htot := hok.tot
      simp only at htot
      have hfit : L.o + news.length ≤ arr.size := by rw [hs] at h2; omega
      have hst := run_storeCells_at P L.b L.o T0 news 0 arr c.w h1 (by omega) hE.src.one
      simp only [Nat.add_zero] at hst
      have hlt : L.o + news.length ≤ arr.toList.length := by simpa using hfit
      have hget : ∀ k, (seg arr.toList L.o news).toArray[k]? = if L.o ≤ k ∧ k < L.o + news.length then news[k - L.o]? else arr[k]? := by
        intro k
        have := seg_get arr.toList L.o news hlt k
        simpa using this
      have hsl : (seg arr.toList L.o news).length = arr.size := by rw [seg_length _ _ _ hlt]; simp
      have hext : Ext c ⟨c.w.setRow L.b (seg arr.toList L.o news).toArray, c.S, c.m, []⟩ :=
        ext_setRow hT hI hρ hob hm h1 _ c.m (fun _ _ h => h) c.S (fun _ h => h) (fun k hk => by
          rw [hget, if_neg]
          rcases hk with hk | ⟨hk, _⟩
          · omega
          · cases hk) (by simpa using hsl)
      have hmin : Nat.min new.length n = new.length := Nat.min_eq_left hle
      refine ⟨.int .i64 new.length, ⟨c.w.setRow L.b (seg arr.toList L.o news).toArray, c.S, c.m, []⟩, .inl (hexec _ _ ?_), hext, ?_, .v _, ?_⟩
      · have hseg : arr.toList.take L.o ++ news ++ arr.toList.drop (L.o + news.length) = seg arr.toList L.o news := rfl
        rw [hseg] at hst
        simp [Builtin.copy_, run_underlying hd1, sizeOf, typeInfo, hi, his, hlenr, hcells, goInt, hmin, Addr.add_lit, hst]
      · refine ⟨?_, hI.dom, ?_⟩
        · have hmove := Core.move (c' := ⟨c.w.setRow L.b (seg arr.toList L.o news).toArray, c.S, c.m, []⟩) (id2 := id) (L2 := L) (o2 := ⟨1, false, true, new ++ es.drop new.length⟩) hI.core hob hm hext rfl (fun _ _ => rfl) hm
            (fun b hb => setRow_other _ _ _ _ hb) (fun a ha => .inl ha) ?_ ?_
          · refine cast ?_ hmove
            congr 1
            funext j
            simp only [Store.put]
            by_cases hj : j = id <;> simp [hj]
          · refine ⟨hok.sz, hok.base, by simp; omega, ?_, ?_, ?_, _, T0, setRow_heap _ _ _ _ _ _ h1, by simpa [hsl] using h2, ?_⟩
            · intro el hel
              rcases List.mem_append.1 hel with h | h
              · have := List.all_eq_true.1 hw el h; simpa [hz] using this
              · exact hok.wid el (List.mem_of_mem_drop h)
            · intro el hel z hz'
              rcases List.mem_append.1 hel with h | h
              · exact leaf_of_pl (hpl el h z hz')
              · exact hok.leafs el (List.mem_of_mem_drop h) z hz'
            · intro _ el hel z hz'
              rcases List.mem_append.1 hel with h | h
              · exact hpl el h z hz'
              · exact hok.flat rfl el (List.mem_of_mem_drop h) z hz'
            · intro q el j z hq hj
              show ∃ u, (seg arr.toList L.o news).toArray[L.o + q * L.sz + j]? = some u ∧ _
              rw [hget]
              have hwid : el.length = 1 := by
                rcases List.mem_append.1 (List.mem_of_getElem? hq) with h | h
                · have := List.all_eq_true.1 hw el h; simpa [hz] using this
                · exact hok.wid el (List.mem_of_mem_drop h)
              have hj0 : j = 0 := by have := (List.getElem?_eq_some_iff.1 hj).1; omega
              subst hj0
              rw [hs]
              by_cases hqn : q < new.length
              · rw [if_pos (by omega)]
                simp only at hq
                rw [List.getElem?_append_left hqn] at hq
                obtain ⟨v, a1, a2, _⟩ := hE.rep q el 0 z hq hj
                rw [hz] at a1
                refine ⟨v, ?_, a2.mono hext, fun h => by cases h⟩
                rw [← a1]; congr 1; omega
              · rw [if_neg (by omega)]
                simp only at hq
                rw [List.getElem?_append_right (by omega), List.getElem?_drop] at hq
                obtain ⟨v, a1, a2, a3⟩ := h3 q el 0 z (by simp only; rw [← hq]; congr 1; omega) hj
                rw [hs] at a1
                exact ⟨v, a1, a2.mono hext, fun h => by cases h⟩
          · intro a ha hab
            have := hI.core.free id _ L hob hm a ha hab
            rcases this with h | ⟨h, _⟩
            · exact .inl h
            · cases h
        · intro j ob hj
          simp only [Store.put] at hj
          split at hj
          · rename_i hji; subst hji; exact hI.old _ _ hob
          · exact hI.old j ob hj
      · refine ⟨fun b hb hne' => ?_, fun _ _ h => .inl h, fun _ _ h h' => absurd h h', fun _ h => .inl h⟩
        exact setRow_other _ _ _ _ (fun hbb => hne' id _ L hob hm id rfl (Nat.le_refl _) hbb.symm)
end

theorem strOf_run {P : Program} {c : Ctx} {f : Value → ByteArray → Sem (ForInStep ByteArray)} (hf : ∀ k acc, f (.int .u8 k) acc = pure (.yield (acc.push (UInt8.ofNat k.toNat)))) : ∀ {new : List Cs} {z : List UInt8} {news : List Value}, strOf new = some z → news.length = new.length → (∀ (i : Nat) (e : Cs) x, new[i]? = some e → e[0]? = some x → ∃ v, news[i]? = some v ∧ Rep c x v) →
    ∀ (acc : ByteArray) (w : World), ((forIn news acc f) : Sem ByteArray).run P w = .ok ⟨(acc.data.toList ++ z).toArray⟩ w
  | [], z, [], h, _, _, acc, w => by cases h; simp
  | e :: new, z, v :: news, h, hl, hr, acc, w => by
    simp only [strOf] at h
    split at h
    · rename_i k z' h1; cases h
      obtain ⟨u, g1, g2⟩ := hr 0 _ _ rfl rfl
      simp only [List.getElem?_cons_zero, Option.some.injEq] at g1
      subst g1
      cases g2
      have ih := strOf_run (P := P) hf (news := news) h1 (by simpa using hl) (fun i e x h1 h2 => by simpa using hr (i + 1) e x (by simpa using h1) h2) (acc.push (UInt8.ofNat k.toNat)) w
      simp only [List.forIn_cons, hf]
      simp at ih ⊢
      simpa using ih
    · cases h
  | [], _, _ :: _, _, hl, _, _, _ => by simp at hl
  | _ :: _, _, [], _, hl, _, _, _ => by simp at hl
theorem strOf_len : ∀ {new : List Cs} {z : List UInt8}, strOf new = some z → (new.all fun c => c.length == 1) = true
  | [], _, _ => rfl
  | e :: l, z, h => by
    simp only [strOf] at h
    split at h
    · rename_i k z' h1
      simp only [List.all_cons, strOf_len h1, Bool.and_true]; rfl
    · cases h
section
variable {P : Program} {T : Tab} (hT : TabOK P T) {c : Ctx} {ρa : Operand → AV} {ρ : Operand → Value} {base : Nat} {σ : Store} (hI : Inv σ c base) (hρ : ∀ x, Rep c (ρa x) (ρ x))
include hT hI hρ
theorem simB_copy (o : Oper) {t t' : TypeId} {d x : Operand} (ho : o.op = .call ⟨.builtin .copy, #[d, x], #[t, t']⟩) {r : OR} (h : evCopy T σ t t' (ρa d) (ρa x) = some r) : SimB P base σ c ((execOp ρ o).run P c.w) r := by
  unfold evCopy at h
  split at h
  · rename_i e e' id n hk hk' hd
    split at h
    · rename_i R es new hR hob hx
      split at h
      · rename_i hc
        obtain ⟨rfl, hz, hn, hle, hall⟩ := hc
        cases h
        simp only [List.all_eq_true, Bool.and_eq_true] at hall
        exact copy_at hT hI hρ o hk hk' hR hz ho hd hob hn hx (List.all_eq_true.2 fun el hel => (hall el hel).1) (fun el hel => (hall el hel).2) hle
      · cases h
    · cases h
  · cases h
theorem simB_conv (o : Oper) {s d : TypeId} {x : Operand} (ho : o.op = .convert s d x) {r : OR} (h : evConv T σ s d (ρa x) = some r) : SimB P base σ c ((execOp ρ o).run P c.w) r := by
  unfold evConv at h
  split at h
  · rename_i e new hs hd hx
    split at h
    · rename_i z hR hz
      cases h
      obtain ⟨news, hE⟩ := elemsAt0 hT hI hs hR (Nat.succ_ne_zero 0) (hρ x) hx (strOf_len hz)
      have hrep := hρ x
      have hlen := hE.src.len c.w
      have hcells := hE.src.cells
      have hnl := hE.len
      simp only [Nat.mul_one] at hnl
      have hrun := fun f hf => strOf_run (P := P) (f := f) hf hz hnl (fun i el y h1 h2 => by
        obtain ⟨v, g1, g2, _⟩ := hE.rep i el 0 y h1 h2
        exact ⟨v, by simpa using g1, g2⟩) ByteArray.empty c.w
      have hd1 : P.underlying s = some (.slice e) := by
        unfold tdesc at hs; cases hr : T s with
        | none => simp [hr] at hs
        | some r => simp [hr] at hs; obtain ⟨d, h1, h2⟩ := (hT s r hr).und; rw [hs] at h2; simp only [descOK] at h2; subst h2; exact h1
      have he1 := fun w => und_int (P := P) hT (t := e) (k := .u8) (by unfold tdesc; rw [hR]; rfl) w
      have hd2 := fun w => und_str (P := P) hT hd w
      refine ⟨.string ⟨z.toArray⟩, c, .inl ?_, Ext.refl c, hI, .v _, Fr.refl _ _ _⟩
      generalize hu : ρ x = u at hrep hlen hcells
      cases u with
      | slice a len cap =>
        cases a with
        | none =>
          simp only [Builtin.firstCells, Sem.run_pure] at hcells
          have : news = [] := by simpa using hcells.symm
          subst this
          have : new = [] := List.eq_nil_of_length_eq_zero (by simpa using hnl.symm)
          subst this
          cases hz
          simp [execOp, ho, hu, convert, run_underlying hd1, hd2, he1, Conv.bytesToString]; rfl
        | some a =>
          have hl : len = new.length := by simpa [Builtin.lenOf] using hlen
          subst hl
          simp only [Builtin.firstCells, Nat.mul_one] at hcells
          simp [execOp, ho, hu, convert, run_underlying hd1, hd2, he1, Conv.bytesToString, hcells]
          rw [hrun _ (fun _ _ => rfl)]
          simp
      | string s =>
        generalize ρa x = y at hrep hx
        cases hrep <;> simp [elems] at hx
      | _ => simp [Builtin.lenOf, stuck] at hlen
    · cases h
  · cases h
end
end Go.Bx

/- Sharing, and values as views. (Own text.) -/
namespace Go.Bx
set_option linter.unusedVariables false
set_option linter.unusedSimpArgs false
set_option linter.unusedSectionVars false
set_option linter.unusedVariables false
set_option linter.unusedSectionVars false

section
variable {c : Ctx} {base : Nat} {σ : Store}

/-- What sharing seals. -/
def sealOf (c : Ctx) (id : Nat) (n : Nat) (a : Addr) : Prop := ∃ L, c.m id = some (.at L) ∧ a.block = L.b ∧ a.spot = none ∧ L.o ≤ a.off ∧ a.off < L.o + n * L.sz

theorem share_inv (hI : Inv σ c base) (id : Nat) : ∃ c', c'.w = c.w ∧ c'.m = c.m ∧ Ext c c' ∧ Inv (share σ id) c' base ∧ Fr c σ (fresh1 σ id) c' ∧ (share σ id).clock = σ.clock := by
  cases hob : σ.ob id with
  | none =>
    have es : share σ id = σ := by simp [share, hob]
    rw [es]; exact ⟨c, rfl, rfl, Ext.refl c, hI, Fr.refl _ _ _, rfl⟩
  | some o =>
    by_cases hsh : o.sh = true
    · have es : share σ id = σ := by simp [share, hob, hsh]
      rw [es]; exact ⟨c, rfl, rfl, Ext.refl c, hI, Fr.refl _ _ _, rfl⟩
    · have es : share σ id = σ.put id (some { o with sh := true }) := by simp [share, hob, hsh]
      have ef : fresh1 σ id = some id := by simp [fresh1, hob, hsh]
      rw [es, ef]
      have hext : Ext c { c with S := fun a => c.S a ∨ sealOf c id o.es.length a } := ⟨fun _ h => .inl h, fun _ _ => rfl, fun _ _ h => h, Nat.le_refl _, rfl, rfl, rfl, fun _ _ h => h⟩
      refine ⟨{ c with S := fun a => c.S a ∨ sealOf c id o.es.length a }, rfl, rfl, hext, ⟨?_, hI.dom, ?_⟩, ?_, rfl⟩
      · cases hm : c.m id with
        | none =>
          have hS : ∀ a, ¬ sealOf c id o.es.length a := fun a ⟨L, h, _⟩ => by rw [hm] at h; cases h
          have e : ({ c with S := fun a => c.S a ∨ sealOf c id o.es.length a } : Ctx) = c := by
            cases c; simp only [Ctx.mk.injEq, true_and, and_true]; funext a; exact propext ⟨fun h => h.resolve_right (hS a), .inl⟩
          rw [e]
          exact hI.core.swap fun j => by
            by_cases h : j = id
            · subst h; exact .inr (.inr hm)
            · exact .inl (by simp [Store.put, h])
        | some l =>
          cases l with
          | virt =>
            have hS : ∀ a, ¬ sealOf c id o.es.length a := fun a ⟨L, h, _⟩ => by rw [hm] at h; cases h
            have e : ({ c with S := fun a => c.S a ∨ sealOf c id o.es.length a } : Ctx) = c := by
              cases c; simp only [Ctx.mk.injEq, true_and, and_true]; funext a; exact propext ⟨fun h => h.resolve_right (hS a), .inl⟩
            rw [e]
            have hsplit : ∀ j q, (σ.put id (some { o with sh := true })).ob j = some q → (j = id ∧ q = { o with sh := true }) ∨ (j ≠ id ∧ σ.ob j = some q) := by
              intro j q hq
              simp only [Store.put] at hq
              by_cases hj : j = id
              · rw [if_pos hj] at hq; cases hq; exact .inl ⟨hj, rfl⟩
              · rw [if_neg hj] at hq; exact .inr ⟨hj, hq⟩
            refine ⟨?_, ?_, ?_, hI.core.inn, ?_, hI.core.base_le⟩
            · intro j q L h1 h2
              rcases hsplit j q h1 with ⟨rfl, rfl⟩ | ⟨hj, h3⟩
              · rw [hm] at h2; cases h2
              · exact hI.core.obj j q L h3 h2
            · intro j q h1 h2
              rcases hsplit j q h1 with ⟨rfl, rfl⟩ | ⟨hj, h3⟩
              · have := hI.core.virt _ _ hob h2; exact this
              · exact hI.core.virt j q h3 h2
            · intro j j' q q' K K' h1 h2 h3 h4 h5
              rcases hsplit j q h1 with ⟨rfl, rfl⟩ | ⟨hj, h6⟩
              · rw [hm] at h3; cases h3
              · rcases hsplit j' q' h2 with ⟨rfl, rfl⟩ | ⟨hj', h7⟩
                · rw [hm] at h4; cases h4
                · exact hI.core.apart j j' q q' K K' h6 h7 h3 h4 h5
            · intro j q L h1 h2
              rcases hsplit j q h1 with ⟨rfl, rfl⟩ | ⟨hj, h3⟩
              · rw [hm] at h2; cases h2
              · exact hI.core.free j q L h3 h2
          | «at» L =>
            have hok := hI.core.obj id o L hob hm
            obtain ⟨arr, T0, h1, h2, h3⟩ := hok.mem
            have hmove := Core.move (c' := { c with S := fun a => c.S a ∨ sealOf c id o.es.length a }) (id2 := id) (L2 := L) (o2 := { o with sh := true }) hI.core hob hm hext rfl (fun _ _ => rfl) hm (fun _ _ => rfl) ?_ ?_ ?_
            · refine cast ?_ hmove
              congr 1
              funext j
              simp only [Store.put]
              by_cases hj : j = id <;> simp [hj]
            · intro a ha
              rcases ha with ha | ⟨K, hK, hb, hsp, h5, h6⟩
              · exact .inl ha
              · rw [hm] at hK; cases hK
                refine .inr ⟨hb, hsp, ?_⟩
                obtain ⟨b, off, sp⟩ := a
                simp at hb hsp h5 h6; subst hb; subst hsp
                have hlt : off < arr.size := by
                  have : o.es.length * L.sz ≤ L.tot * L.sz := Nat.mul_le_mul_right _ hok.tot
                  omega
                exact ⟨arr[off], by show c.w.cell? _ = _; rw [cell_of h1]; simp [hlt]⟩
            · refine ⟨hok.sz, hok.base, hok.tot, hok.wid, hok.leafs, hok.flat, arr, T0, h1, h2, fun i e j x hi hj => ?_⟩
              obtain ⟨u, a1, a2, _⟩ := h3 i e j x hi hj
              refine ⟨u, a1, a2.mono hext, fun _ => .inr ⟨L, hm, rfl, rfl, by simp; omega, ?_⟩⟩
              have hi' : i < o.es.length := (List.getElem?_eq_some_iff.1 hi).1
              have hj' : j < L.sz := by rw [hok.sz, ← hok.wid e (List.mem_of_getElem? hi)]; exact (List.getElem?_eq_some_iff.1 hj).1
              have := ij_lt hi' hj'
              simp; omega
            · intro a ha hab
              rcases ha with ha | ⟨K, hK, hb, hsp, h5, h6⟩
              · rcases hI.core.free id o L hob hm a ha hab with h | ⟨h, _⟩
                · exact .inl h
                · exact absurd h hsh
              · rw [hm] at hK; cases hK
                exact .inr ⟨rfl, h6⟩
      · intro j q hq
        simp only [Store.put] at hq ⊢
        split at hq
        · rename_i hj; subst hj; exact hI.old _ _ hob
        · exact hI.old j q hq
      · refine ⟨fun _ _ _ => rfl, fun _ _ h => .inl h, fun _ _ h h' => absurd h h', fun a ha => ?_⟩
        rcases ha with ha | ⟨K, hK, hb, _⟩
        · exact .inl ha
        · exact .inr (.inr ⟨id, o, K, hob, hK, hb, id, rfl, Nat.le_refl _⟩)

theorem omin_le {a b : Option Nat} {l : Nat} (h : a = some l ∨ b = some l) : ∃ m, omin a b = some m ∧ m ≤ l := by
  cases a <;> cases b <;> simp [omin] at h ⊢
  · exact h.symm ▸ Nat.le_refl _
  · exact h.symm ▸ Nat.le_refl _
  · split <;> omega

theorem Fr.trans {c1 c2 : Ctx} {σ1 : Store} {m1 m2 : Option Nat} (h : Fr c σ m1 c1) (k : Fr c1 σ1 m2 c2) (hc : σ.clock ≤ σ1.clock) (e : Ext c c1) (hI1 : Core σ1.ob c1 base)
    (hold : ∀ id o, σ1.ob id = some o → (∃ q, σ.ob id = some q) ∨ σ.clock ≤ id) (hdom : ∀ id l, c.m id = some l → id < σ.clock) : Fr c σ (omin m1 m2) c2 where
  block := fun b hb hne => by
    have h1 := h.block b hb (fun id o L ho hm l hl hle => by
      obtain ⟨m, hm', hle'⟩ := omin_le (b := m2) (.inl hl)
      exact hne id o L ho hm m hm' (by omega))
    have h2 := k.block b (Nat.lt_of_lt_of_le hb e.size) (fun id o L ho hm l hl hle => by
      obtain ⟨m, hm', hle'⟩ := omin_le (a := m1) (.inr hl)
      by_cases hold' : c.m id = some (.at L)
      · rcases hold id o ho with ⟨q, hq⟩ | hge
        · exact hne id q L hq hold' m hm' (by omega)
        · have := hdom id _ hold'; omega
      · rcases h.bnew id L hm hold' with h3 | ⟨id', o', L', ho', hm'', hb', l', hl', hle2⟩
        · omega
        · obtain ⟨m3, hm3, hle3⟩ := omin_le (b := m2) (.inl hl')
          rw [hb']
          exact hne id' o' L' ho' hm'' m3 hm3 (by omega))
    exact h2.trans h1
  mnew := fun id l hl => by
    rcases k.mnew id l hl with h1 | h1
    · exact h.mnew id l h1
    · right; omega
  bnew := fun id L hl hn => by
    by_cases h1 : c1.m id = some (.at L)
    · rcases h.bnew id L h1 hn with h2 | ⟨id', o', L', ho', hm'', hb', l', hl', hle2⟩
      · exact .inl h2
      · obtain ⟨m3, hm3, hle3⟩ := omin_le (b := m2) (.inl hl')
        exact .inr ⟨id', o', L', ho', hm'', hb', m3, hm3, by omega⟩
    · rcases k.bnew id L hl h1 with h2 | ⟨id', o', L', ho', hm'', hb', l', hl', hle2⟩
      · exact .inl (Nat.le_trans e.size h2)
      · obtain ⟨m3, hm3, hle3⟩ := omin_le (a := m1) (.inr hl')
        by_cases hold' : c.m id' = some (.at L')
        · rcases hold id' o' ho' with ⟨q, hq⟩ | hge
          · exact .inr ⟨id', q, L', hq, hold', hb', m3, hm3, by omega⟩
          · have := hdom id' _ hold'; omega
        · rcases h.bnew id' L' hm'' hold' with h3 | ⟨id2, o2, L2, ho2, hm2, hb2, l2, hl2, hle4⟩
          · exact .inl (by omega)
          · obtain ⟨m4, hm4, hle5⟩ := omin_le (b := m2) (.inl hl2)
            exact .inr ⟨id2, o2, L2, ho2, hm2, hb'.trans hb2, m4, hm4, by omega⟩
  snew := fun a ha => by
    rcases k.snew a ha with h1 | h1 | ⟨id', o', L', ho', hm'', hb', l', hl', hle2⟩
    · rcases h.snew a h1 with h2 | h2 | ⟨id', o', L', ho', hm'', hb', l', hl', hle2⟩
      · exact .inl h2
      · exact .inr (.inl h2)
      · obtain ⟨m3, hm3, hle3⟩ := omin_le (b := m2) (.inl hl')
        exact .inr (.inr ⟨id', o', L', ho', hm'', hb', m3, hm3, by omega⟩)
    · exact .inr (.inl (Nat.le_trans e.size h1))
    · obtain ⟨m3, hm3, hle3⟩ := omin_le (a := m1) (.inr hl')
      by_cases hold' : c.m id' = some (.at L')
      · rcases hold id' o' ho' with ⟨q, hq⟩ | hge
        · exact .inr (.inr ⟨id', q, L', hq, hold', hb', m3, hm3, by omega⟩)
        · have := hdom id' _ hold'; omega
      · rcases h.bnew id' L' hm'' hold' with h3 | ⟨id2, o2, L2, ho2, hm2, hb2, l2, hl2, hle4⟩
        · exact .inr (.inl (by omega))
        · obtain ⟨m4, hm4, hle5⟩ := omin_le (b := m2) (.inl hl2)
          exact .inr (.inr ⟨id2, o2, L2, ho2, hm2, hb'.trans hb2, m4, hm4, by omega⟩)

end

end Go.Bx

/- Values as views; arguments of a call. (Own text.) -/
namespace Go.Bx
set_option linter.unusedVariables false
set_option linter.unusedSimpArgs false
set_option linter.unusedSectionVars false
set_option linter.unusedVariables false
set_option linter.unusedSectionVars false

theorem mapO_some {α β : Type} {f : α → Option β} : ∀ {l : List α} {l' : List β}, mapO f l = some l' → l'.length = l.length ∧ ∀ (i : Nat) y, l'[i]? = some y → ∃ x, l[i]? = some x ∧ f x = some y
  | [], l', h => by simp [mapO] at h; subst h; exact ⟨rfl, fun i y h => by simp at h⟩
  | x :: xs, l', h => by
    simp only [mapO] at h
    split at h
    · rename_i y ys hy hys; cases h
      obtain ⟨h1, h2⟩ := mapO_some hys
      refine ⟨by simp [h1], fun i z hz => ?_⟩
      cases i with
      | zero => simp at hz; subst hz; exact ⟨x, rfl, hy⟩
      | succ i => simpa using h2 i z (by simpa using hz)
    · cases h

section
variable {c : Ctx} {base : Nat} {σ : Store}

theorem shareAll_inv : ∀ (ids : List Nat) (σ : Store) (c : Ctx) (a : Option Nat) (c0 : Ctx) (σ0 : Store), Inv σ c base → Ext c0 c → c.w = c0.w → c.m = c0.m → Fr c0 σ0 a c → σ.clock = σ0.clock → (∀ id o, σ.ob id = some o → ∃ q, σ0.ob id = some q) →
    (∀ id, fresh1 σ id = fresh1 σ0 id ∨ fresh1 σ id = none) → Inv σ0 c0 base →
    ∃ c', c'.w = c0.w ∧ c'.m = c0.m ∧ Ext c0 c' ∧ Inv (ids.foldl share σ) c' base ∧ Fr c0 σ0 (ids.foldl (fun a id => omin a (fresh1 σ0 id)) a) c' ∧ (ids.foldl share σ).clock = σ0.clock
  | [], σ, c, a, c0, σ0, hI, e, hw, hm, hf, hc, ho, _, _ => ⟨c, hw, hm, e, hI, hf, hc⟩
  | id :: ids, σ, c, a, c0, σ0, hI, e, hw, hm, hf, hc, ho, hfr, hI0 => by
    obtain ⟨c1, h1, h2, h3, h4, h5, h6⟩ := share_inv hI id
    have hold : ∀ j o, (share σ id).ob j = some o → ∃ q, σ.ob j = some q := by
      intro j o hj
      unfold share at hj
      split at hj
      · rename_i q hq
        split at hj
        · exact ⟨o, hj⟩
        · simp only [Store.put] at hj
          split at hj
          · rename_i hjj; subst hjj; exact ⟨q, hq⟩
          · exact ⟨o, hj⟩
      · exact ⟨o, hj⟩
    have hfr5 : Fr c0 σ0 (omin a (fresh1 σ0 id)) c1 := by
      have hk : Fr c σ (fresh1 σ0 id) c1 := by
        rcases hfr id with hh | hh
        · rw [← hh]; exact h5
        · rw [hh] at h5; exact h5.weaken
      exact Fr.trans hf hk (Nat.le_of_eq hc.symm) e hI.core (fun j o hj => .inl (ho j o hj)) hI0.dom
    simp only [List.foldl_cons]
    refine shareAll_inv ids (share σ id) c1 _ c0 σ0 h4 (e.trans h3) (h1.trans hw) (h2.trans hm) hfr5 (h6.trans hc) (fun j o hj => ?_) (fun j => ?_) hI0
    · obtain ⟨q, hq⟩ := hold j o hj; exact ho j q hq
    · have hsh : fresh1 (share σ id) j = fresh1 σ j ∨ fresh1 (share σ id) j = none := by
        unfold share
        cases hob : σ.ob id with
        | none => exact .inl rfl
        | some o =>
          by_cases hs : o.sh = true
          · simp only [hs, if_true]; exact .inl trivial
          · simp only [hs]
            by_cases hj : j = id
            · subst hj; right; simp [fresh1, Store.put]
            · left; simp [fresh1, Store.put, hj]
      rcases hsh with hsh | hsh
      · rw [hsh]; exact hfr j
      · exact .inr hsh

/-- All of what is handed on is shared. -/
theorem shareAll_ok (hI : Inv σ c base) (ids : List Nat) : ∃ c', c'.w = c.w ∧ c'.m = c.m ∧ Ext c c' ∧ Inv (shareAll σ ids) c' base ∧ Fr c σ (freshL σ ids) c' ∧ (shareAll σ ids).clock = σ.clock :=
  shareAll_inv ids σ c none c σ hI (Ext.refl c) rfl rfl (Fr.refl _ _ _) rfl (fun _ _ h => ⟨_, h⟩) (fun _ => .inl rfl) hI

theorem slice_get {es : List Cs} {lo n i : Nat} {e : Cs} (h : (slice es lo n)[i]? = some e) : es[lo + i]? = some e ∧ i < n := by
  unfold slice at h
  rw [List.getElem?_take] at h
  split at h
  · rename_i hi; rw [List.getElem?_drop] at h; exact ⟨h, hi⟩
  · cases h

theorem reify_rep (hI : Inv σ c base) : ∀ (n : Nat) (x y : AV) (u : Value), reify σ n x = some y → Rep c x u → Rep c y u := by
  intro n
  induction n with
  | zero =>
    intro x y u h hr
    unfold reify at h
    split at h <;> first
      | (cases h; exact hr)
      | (cases h; done)
      | (cases h
         cases hr
         exact .sl 0 0 0 (fun _ _ => undef) rfl (Nat.le_refl _) (fun h => absurd rfl h) (fun e he => by cases he) (fun i e j x hi => by simp at hi) (fun i e j x hi => by simp at hi))
      | skip
    all_goals simp_all
  | succ n ih =>
    intro x y u h hr
    unfold reify at h
    split at h
    · cases h
      cases hr
      exact .sl 0 0 0 (fun _ _ => undef) rfl (Nat.le_refl _) (fun h => absurd rfl h) (fun e he => by cases he) (fun i e j x hi => by simp at hi) (fun i e j x hi => by simp at hi)
    · cases h
      cases hr
      exact .sl 0 0 0 (fun _ _ => undef) rfl (Nat.le_refl _) (fun h => absurd rfl h) (fun e he => by cases he) (fun i e j x hi => by simp at hi) (fun i e j x hi => by simp at hi)
    · rename_i n' id sz lo k hn'
      obtain rfl : n' = n := by simp at hn'; omega
      split at h
      · rename_i o hob
        split at h
        · rename_i hc
          obtain ⟨hsh, hle⟩ := hc
          have hlen : (slice o.es lo k).length = k := by simp [slice]; omega
          -- the elements as they are told
          have key : ∀ es : List Cs, es.length = k → (∀ (i : Nat) e', es[i]? = some e' → ∃ e, (slice o.es lo k)[i]? = some e ∧ e'.length = e.length ∧ ∀ (j : Nat) y', e'[j]? = some y' → ∃ x', e[j]? = some x' ∧ pl y' = true ∧ ∀ v, Rep c x' v → Rep c y' v) → Rep c (.sl es) u := by
            intro es hel hes
            cases hr with
            | row L hm hs hn ht hA =>
              rename_i A cap
              have hok := hI.core.obj id o L hob hm
              obtain ⟨arr, T0, h1, h2, h3⟩ := hok.mem
              have hcell : ∀ i e' j y', es[i]? = some e' → e'[j]? = some y' → ∃ v, arr[L.o + (lo + i) * L.sz + j]? = some v ∧ Rep c y' v ∧ c.S ⟨L.b, L.o + (lo + i) * L.sz + j, none⟩ ∧ pl y' = true := by
                intro i e' j y' hi hj
                obtain ⟨e, he, hl, hj'⟩ := hes i e' hi
                obtain ⟨x', hx', hp, hv⟩ := hj' j y' hj
                obtain ⟨v, a1, a2, a3⟩ := h3 (lo + i) e j x' (slice_get he).1 hx'
                exact ⟨v, a1, hv v a2, a3 hsh, hp⟩
              have e1 : ∀ i j, L.o + lo * sz + i * sz + j = L.o + (lo + i) * L.sz + j := by intro i j; rw [Nat.add_mul, hs]; omega
              refine .sl sz L.b (L.o + lo * sz) (fun i j => (arr[L.o + (lo + i) * L.sz + j]?).getD undef) hel.symm hn (fun hne => ?_) (fun e' he' => ?_) (fun i e' j y' hi hj => ?_) (fun i e' j y' hi hj => ?_)
              · have : 0 < es.length := List.length_pos_iff.2 hne
                exact hA (by omega)
              · obtain ⟨i, hi⟩ := List.mem_iff_getElem?.1 he'
                obtain ⟨e, he, hl, _⟩ := hes i e' hi
                rw [hl, hok.wid e (List.mem_of_getElem? (slice_get he).1), ← hok.sz, hs]
              · obtain ⟨v, a1, a2, a3, a4⟩ := hcell i e' j y' hi hj
                rw [e1, cell_of h1, a1]
                exact ⟨rfl, a3, a4⟩
              · obtain ⟨v, a1, a2, a3, a4⟩ := hcell i e' j y' hi hj
                rw [a1]; exact a2
            | row0 hm =>
              have : es = [] := List.eq_nil_of_length_eq_zero hel
              subst this
              exact .sl 0 0 0 (fun _ _ => undef) rfl (Nat.le_refl _) (fun h => absurd rfl h) (fun e he => by cases he) (fun i e j x hi => by simp at hi) (fun i e j x hi => by simp at hi)
          split at h
          · rename_i hfl; cases h
            refine key _ hlen (fun i e' hi => ⟨e', hi, rfl, fun j y' hj => ⟨y', hj, ?_, fun v hv => hv⟩⟩)
            have hmem := List.mem_of_getElem? (slice_get hi).1
            cases hr with
            | row L hm _ _ _ _ => exact (hI.core.obj id o L hob hm).flat hfl e' hmem y' (List.mem_of_getElem? hj)
            | row0 hm => have := hI.core.virt id o hob hm; rw [this] at hmem; cases hmem
          · split at h
            · rename_i es hes
              split at h
              · rename_i hpl; cases h
                obtain ⟨h4, h5⟩ := mapO_some hes
                refine key es (by rw [h4, hlen]) (fun i e' hi => ?_)
                obtain ⟨e, he, hee⟩ := h5 i e' hi
                obtain ⟨h6, h7⟩ := mapO_some hee
                refine ⟨e, he, h6, fun j y' hj => ?_⟩
                obtain ⟨x', hx', hxx⟩ := h7 j y' hj
                exact ⟨x', hx', List.all_eq_true.1 (List.all_eq_true.1 hpl e' (List.mem_of_getElem? hi)) y' (List.mem_of_getElem? hj), fun v hv => ih x' y' v hxx hv⟩
              · cases h
            · cases h
        · cases h
      · cases h
    · rename_i n' cs hn'
      obtain rfl : n' = n := by simp at hn'; omega
      rw [Option.map_eq_some_iff] at h; obtain ⟨ys, hys, rfl⟩ := h
      obtain ⟨h1, h2⟩ := mapO_some hys
      cases hr with
      | agg hl hh =>
        refine .agg (by rw [hl, h1]) (fun j y' v hy hv => ?_)
        obtain ⟨x', hx', hxx⟩ := h2 j y' hy
        exact ih x' y' v hxx (hh j x' v hx' hv)
    · cases h
    · simp_all
    · simp_all
    · cases h; exact hr

end

end Go.Bx

/- Results: on their way out, and in again. (Own text.) -/
namespace Go.Bx
set_option linter.unusedVariables false
set_option linter.unusedSimpArgs false
set_option linter.unusedSectionVars false
set_option linter.unusedVariables false
set_option linter.unusedSectionVars false

/-- A leaf of a result on its way: a value, or a row without a number. -/
inductive PendX (c : Ctx) (base : Nat) : AV → Value → Option Nat → Prop
  | rep {x : AV} {u : Value} (h : Rep c x u) : PendX c base x u none
  | virt {sh : Bool} {sz : Nat} {A : Option Addr} : PendX c base (.own sh sz []) (.slice A 0 0) none
  | «at» {sh : Bool} {sz : Nat} {es : List Cs} {A : Option Addr} {cap : Nat} (L : Loc) (hok : ObjOK c base ⟨sz, sh, true, es⟩ L) (hn : es.length ≤ cap) (ht : cap = L.tot)
      (hA : cap ≠ 0 → A = some ⟨L.b, L.o, none⟩) (hf : ∀ a, c.S a → a.block = L.b → a.off < L.o ∨ (sh = true ∧ a.off < L.o + es.length * L.sz)) : PendX c base (.own sh sz es) (.slice A es.length cap) (some L.b)

def Dead (σ : Store) (c : Ctx) (b : Option Nat) : Prop := ∀ id o L, σ.ob id = some o → c.m id = some (.at L) → some L.b ≠ b

/-- What an import does. -/
structure Imp (σ : Store) (c : Ctx) (base : Nat) (bs : List (Option Nat)) (σ' : Store) (c' : Ctx) : Prop where
  w : c'.w = c.w
  S : c'.S = c.S
  ext : Ext c c'
  inv : Inv σ' c' base
  dead : ∀ b, Dead σ c b → b ∉ bs → Dead σ' c' b
  mnew : ∀ id l, c'.m id = some l → c.m id = some l ∨ σ.clock ≤ id
  bnew : ∀ id L, c'.m id = some (.at L) → c.m id = some (.at L) ∨ some L.b ∈ bs
  clock : σ.clock ≤ σ'.clock

theorem Imp.refl {σ : Store} {c : Ctx} {base : Nat} (hI : Inv σ c base) (bs : List (Option Nat)) : Imp σ c base bs σ c :=
  ⟨rfl, rfl, Ext.refl c, hI, fun _ h _ => h, fun _ _ h => .inl h, fun _ _ h => .inl h, Nat.le_refl _⟩

theorem Imp.trans {σ σ1 σ2 : Store} {c c1 c2 : Ctx} {base : Nat} {b1 b2 : List (Option Nat)} (h : Imp σ c base b1 σ1 c1) (k : Imp σ1 c1 base b2 σ2 c2) : Imp σ c base (b1 ++ b2) σ2 c2 :=
  ⟨k.w.trans h.w, k.S.trans h.S, h.ext.trans k.ext, k.inv, fun b hb hn => k.dead b (h.dead b hb fun e => hn (List.mem_append_left _ e)) fun e => hn (List.mem_append_right _ e),
   fun id l hl => by
    rcases k.mnew id l hl with h1 | h1
    · exact h.mnew id l h1
    · exact .inr (Nat.le_trans h.clock h1),
   fun id L hl => by
    rcases k.bnew id L hl with h1 | h1
    · rcases h.bnew id L h1 with h2 | h2
      · exact .inl h2
      · exact .inr (List.mem_append_left _ h2)
    · exact .inr (List.mem_append_right _ h1), Nat.le_trans h.clock k.clock⟩

theorem PendX.mono {c c' : Ctx} {base : Nat} {x : AV} {u : Value} {b : Option Nat} (h : PendX c base x u b) (e : Ext c c') (hw : c'.w = c.w) (hS : c'.S = c.S) : PendX c' base x u b := by
  cases h with
  | rep h => exact .rep (h.mono e)
  | virt => exact .virt
  | «at» L hok hn ht hA hf => exact .at L (hok.mono e (by rw [hw])) hn ht hA (by rw [hS]; exact hf)

section
variable {c : Ctx} {base : Nat} {σ : Store}

theorem import1_ok (hI : Inv σ c base) {x : AV} {u : Value} {b : Option Nat} (h : PendX c base x u b) (hd : ∀ b', b = some b' → Dead σ c b) :
    ∃ c', Imp σ c base [b] (import1 σ x).2 c' ∧ Rep c' (import1 σ x).1 u := by
  cases h with
  | rep h =>
    have : import1 σ x = (x, σ) := by
      cases x <;> first | rfl | (cases h)
    rw [this]
    exact ⟨c, Imp.refl hI _, h⟩
  | virt =>
    rename_i sh sz A
    obtain ⟨e, hi⟩ := hI.newVirt (o := ⟨sz, sh, true, []⟩) rfl
    refine ⟨{ c with m := fun j => if j = σ.clock then some .virt else c.m j }, ⟨rfl, rfl, e, hi, ?_, ?_, ?_, by simp [import1, Store.new]⟩, .row0 (by simp)⟩
    · intro b hb _ id o L h1 h2
      simp only at h2
      split at h2
      · cases h2
      · rename_i hne
        simp only [import1, Store.new, if_neg hne] at h1
        exact hb id o L h1 h2
    · intro id l hl
      simp only at hl
      split at hl
      · rename_i hj; subst hj; exact .inr (Nat.le_refl _)
      · exact .inl hl
    · intro id L hl
      simp only at hl
      split at hl
      · cases hl
      · exact .inl hl
  | «at» L hok hn ht hA hf =>
    rename_i sh sz es A cap
    have hcf := hI.clock_free
    have hdead := hd L.b rfl
    have hcore : Core (σ.new ⟨sz, sh, true, es⟩).ob c base := hI.core.swap fun j => by
      by_cases h : j = σ.clock
      · subst h; exact .inr (.inr hcf)
      · exact .inl (by simp [Store.new, h])
    have hext : Ext c { c with m := fun j => if j = σ.clock then some (.at L) else c.m j } := ⟨fun _ h => h, fun _ _ => rfl, fun j x hx => by
      simp only; rw [if_neg (by intro e; subst e; rw [hcf] at hx; cases hx)]; exact hx, Nat.le_refl _, rfl, rfl, rfl, fun _ _ h => h⟩
    have hsplit : ∀ j q K, (σ.new ⟨sz, sh, true, es⟩).ob j = some q → (if j = σ.clock then some (.at L) else c.m j) = some (.at K) →
        (j = σ.clock ∧ q = ⟨sz, sh, true, es⟩ ∧ K = L) ∨ (j ≠ σ.clock ∧ σ.ob j = some q ∧ c.m j = some (.at K)) := by
      intro j q K h1 h2
      by_cases hj : j = σ.clock
      · subst hj; simp only [Store.new, if_pos rfl] at h1; rw [if_pos rfl] at h2; cases h1; cases h2; exact .inl ⟨rfl, rfl, rfl⟩
      · simp only [Store.new, if_neg hj] at h1; rw [if_neg hj] at h2; exact .inr ⟨hj, h1, h2⟩
    refine ⟨{ c with m := fun j => if j = σ.clock then some (.at L) else c.m j }, ⟨rfl, rfl, hext, ⟨⟨?_, ?_, ?_, hI.core.inn, ?_, hI.core.base_le⟩, ?_, ?_⟩, ?_, ?_, ?_, by simp [import1, Store.new]⟩, ?_⟩
    · intro j q K h1 h2
      rcases hsplit j q K h1 h2 with ⟨rfl, rfl, rfl⟩ | ⟨_, h3, h4⟩
      · exact hok.mono hext rfl
      · exact (hI.core.obj j q K h3 h4).mono hext rfl
    · intro j q h1 h2
      by_cases hj : j = σ.clock
      · subst hj; simp at h2
      · simp only [import1, Store.new, if_neg hj] at h1
        simp only [if_neg hj] at h2
        exact hI.core.virt j q h1 h2
    · intro j j' q q' K K' h1 h2 h3 h4 h5
      rcases hsplit j q K h1 h3 with ⟨rfl, rfl, rfl⟩ | ⟨_, h6, h7⟩
      · rcases hsplit j' q' K' h2 h4 with ⟨rfl, rfl, rfl⟩ | ⟨_, h8, h9⟩
        · exact absurd rfl h5
        · intro e; exact hdead j' q' K' h8 h9 (by rw [e])
      · rcases hsplit j' q' K' h2 h4 with ⟨rfl, rfl, rfl⟩ | ⟨_, h8, h9⟩
        · intro e; exact hdead j q K h6 h7 (by rw [e])
        · exact hI.core.apart j j' q q' K K' h6 h8 h7 h9 h5
    · intro j q K h1 h2
      rcases hsplit j q K h1 h2 with ⟨rfl, rfl, rfl⟩ | ⟨_, h3, h4⟩
      · exact hf
      · exact hI.core.free j q K h3 h4
    · intro j l hl
      simp only at hl
      split at hl
      · rename_i hj; subst hj; simp [import1, Store.new]
      · have := hI.dom j l hl; simp [import1, Store.new]; omega
    · intro j q hq
      simp only [import1, Store.new] at hq ⊢
      split at hq
      · rename_i hj; subst hj; omega
      · have := hI.old j q hq; omega
    · intro b hb hnb j q K h1 h2
      rcases hsplit j q K h1 h2 with ⟨rfl, rfl, rfl⟩ | ⟨_, h3, h4⟩
      · intro e; exact hnb (by rw [← e]; simp)
      · exact hb j q K h3 h4
    · intro j l hl
      simp only at hl
      split at hl
      · rename_i hj; subst hj; exact .inr (Nat.le_refl _)
      · exact .inl hl
    · intro j K hl
      simp only at hl
      split at hl
      · cases hl; exact .inr (by simp)
      · exact .inl hl
    · exact .row L (by simp) hok.sz hn (by simp [ht]) (fun hc => by simpa using hA hc)

/-- Different rows lie in different blocks. -/
def NoDup (bs : List (Option Nat)) : Prop := bs.Pairwise fun a b => ∀ x, a = some x → b ≠ some x

/-- Leaves on their way. -/
inductive PendL (c : Ctx) (base : Nat) : Cs → List Value → List (Option Nat) → Prop
  | nil : PendL c base [] [] []
  | cons {x : AV} {u : Value} {b : Option Nat} {xs : Cs} {us : List Value} {bs : List (Option Nat)} (h : PendX c base x u b) (k : PendL c base xs us bs) : PendL c base (x :: xs) (u :: us) (b :: bs)

theorem PendL.mono {c c' : Ctx} {base : Nat} {xs : Cs} {us : List Value} {bs : List (Option Nat)} (h : PendL c base xs us bs) (e : Ext c c') (hw : c'.w = c.w) (hS : c'.S = c.S) : PendL c' base xs us bs := by
  induction h with
  | nil => exact .nil
  | cons h _ ih => exact .cons (h.mono e hw hS) ih

theorem importL_ok : ∀ {xs : Cs} {us : List Value} {bs : List (Option Nat)} {σ : Store} {c : Ctx}, Inv σ c base → PendL c base xs us bs → NoDup bs → (∀ b ∈ bs, ∀ b', b = some b' → Dead σ c b) →
    ∃ c', Imp σ c base bs (importL σ xs).2 c' ∧ Reps c' (importL σ xs).1 us
  | [], _, _, σ, c, hI, .nil, _, _ => ⟨c, Imp.refl hI _, Reps.nil _⟩
  | x :: xs, _, _, σ, c, hI, .cons (b := b) (us := us) (bs := bs) h k, hn, hd => by
    obtain ⟨c1, h1, h2⟩ := import1_ok hI h (hd b (by simp))
    obtain ⟨hn1, hn2⟩ := List.pairwise_cons.1 hn
    obtain ⟨c2, h3, h4⟩ := importL_ok h1.inv (k.mono h1.ext h1.w h1.S) hn2 (fun b2 hb2 b' he => h1.dead b2 (hd b2 (by simp [hb2]) b' he) (by
      intro hm; simp at hm; subst hm; exact hn1 b2 hb2 b' he he))
    refine ⟨c2, h1.trans h3, ?_⟩
    exact Reps.cons (h2.mono h3.ext) h4

/-- A result on its way. -/
inductive PendV (c : Ctx) (base : Nat) : AV → Value → List (Option Nat) → Prop
  | agg {xs : Cs} {vs : Array Value} {bs : List (Option Nat)} (h : PendL c base xs vs.toList bs) : PendV c base (.agg xs) (.agg vs) bs
  | leaf {x : AV} {u : Value} {b : Option Nat} (hx : ∀ xs, x ≠ .agg xs) (h : PendX c base x u b) : PendV c base x u [b]

inductive PendVs (c : Ctx) (base : Nat) : Cs → List Value → List (Option Nat) → Prop
  | nil : PendVs c base [] [] []
  | cons {x : AV} {u : Value} {b : List (Option Nat)} {xs : Cs} {us : List Value} {bs : List (Option Nat)} (h : PendV c base x u b) (k : PendVs c base xs us bs) : PendVs c base (x :: xs) (u :: us) (b ++ bs)

theorem PendV.mono {c c' : Ctx} {base : Nat} {x : AV} {u : Value} {bs : List (Option Nat)} (h : PendV c base x u bs) (e : Ext c c') (hw : c'.w = c.w) (hS : c'.S = c.S) : PendV c' base x u bs := by
  cases h with
  | agg h => exact .agg (h.mono e hw hS)
  | leaf hx h => exact .leaf hx (h.mono e hw hS)

theorem PendVs.mono {c c' : Ctx} {base : Nat} {xs : Cs} {us : List Value} {bs : List (Option Nat)} (h : PendVs c base xs us bs) (e : Ext c c') (hw : c'.w = c.w) (hS : c'.S = c.S) : PendVs c' base xs us bs := by
  induction h with
  | nil => exact .nil
  | cons h _ ih => exact .cons (h.mono e hw hS) ih

theorem import2_ok {σ : Store} {c : Ctx} (hI : Inv σ c base) {x : AV} {u : Value} {bs : List (Option Nat)} (h : PendV c base x u bs) (hn : NoDup bs) (hd : ∀ b ∈ bs, ∀ b', b = some b' → Dead σ c b) :
    ∃ c', Imp σ c base bs (import2 σ x).2 c' ∧ Rep c' (import2 σ x).1 u := by
  cases h with
  | agg h =>
    obtain ⟨c', h1, h2⟩ := importL_ok hI h hn hd
    exact ⟨c', h1, Rep.to_agg h2⟩
  | leaf hx h =>
    rename_i b
    have : import2 σ x = import1 σ x := by cases x <;> first | rfl | exact absurd rfl (hx _)
    rw [this]
    exact import1_ok hI h (hd b (by simp))

theorem import2L_ok : ∀ {xs : Cs} {us : List Value} {bs : List (Option Nat)} {σ : Store} {c : Ctx}, Inv σ c base → PendVs c base xs us bs → NoDup bs → (∀ b ∈ bs, ∀ b', b = some b' → Dead σ c b) →
    ∃ c', Imp σ c base bs (import2L σ xs).2 c' ∧ Reps c' (import2L σ xs).1 us
  | [], _, _, σ, c, hI, .nil, _, _ => ⟨c, Imp.refl hI _, Reps.nil _⟩
  | x :: xs, _, _, σ, c, hI, .cons (b := b) (us := us) (bs := bs) h k, hn, hd => by
    obtain ⟨hn1, hn2, hn3⟩ := List.pairwise_append.1 hn
    obtain ⟨c1, h1, h2⟩ := import2_ok hI h hn1 (fun b2 hb2 => hd b2 (List.mem_append_left _ hb2))
    obtain ⟨c2, h3, h4⟩ := import2L_ok h1.inv (k.mono h1.ext h1.w h1.S) hn2 (fun b2 hb2 b' he => h1.dead b2 (hd b2 (List.mem_append_right _ hb2) b' he) (by
      intro hm; exact hn3 b2 hm b2 hb2 b' he he))
    exact ⟨c2, h1.trans h3, Reps.cons (h2.mono h3.ext) h4⟩

def oneV : List Value → Value
  | [u] => u
  | us => .tuple us.toArray

/-- Results, one or several, come in. -/
theorem importAV_ok {σ : Store} {c : Ctx} (hI : Inv σ c base) {ys : Cs} {us : List Value} {bs : List (Option Nat)} (h : PendVs c base ys us bs) (hn : NoDup bs) (hd : ∀ b ∈ bs, ∀ b', b = some b' → Dead σ c b)
    (hnt : ∀ y ∈ ys, ∀ vs, y ≠ .tup vs) : ∃ c', Imp σ c base bs (importAV σ (one ys)).2 c' ∧ Rep c' (importAV σ (one ys)).1 (oneV us) := by
  cases h with
  | nil =>
    refine ⟨c, Imp.refl hI _, ?_⟩
    simp only [one, importAV, import2L]
    exact .tup rfl (fun j x u h1 h2 => by simp at h1)
  | cons h k =>
    cases k with
    | nil =>
      rename_i x u b
      simp only [List.append_nil] at hn hd ⊢
      obtain ⟨c', h1, h2⟩ := import2_ok hI h hn hd
      have : importAV σ (one [x]) = import2 σ x := by
        simp only [one]
        have hx := fun vs => hnt x (by simp) vs
        cases x <;> first | rfl | exact absurd rfl (hx _)
      rw [this]
      exact ⟨c', h1, h2⟩
    | cons h2 k2 =>
      obtain ⟨c', h3, h4⟩ := import2L_ok hI (.cons h (.cons h2 k2)) hn hd
      refine ⟨c', h3, ?_⟩
      simp only [one, importAV]
      exact .tup (by have := h4.1; simpa using this.symm) (fun j x u h1 h2 => h4.2 j x u h1 (by simpa using h2))
end

end Go.Bx
