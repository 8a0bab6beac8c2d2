/- Am, part 1: a machine over typed pure values: types, values, slots, sites, and how it carries out translated Go code. Nothing is proved of the model here. -/
import Derived.Calls
import Derived.Orders
import Derived.OrdersHeld
import Derived.Laws.AppendOwn
import Derived.Laws.CopyRow
import Derived.Laws.Cells
set_option linter.unusedVariables false
namespace Go.Am

inductive Ty where
  | int (k : IntKind) | bool | str | unit | hole
  | pair (a b : Ty)
  | arr (n : Nat) (t : Ty)
  | sh (e : TypeId) (t : Ty)
  | ow (e : TypeId) (t : Ty)
  deriving DecidableEq, Inhabited

@[reducible] def Val : Ty → Type
  | .int _ => Int
  | .bool => Bool
  | .str => List UInt8
  | .unit => Unit
  | .hole => Unit
  | .pair a b => Val a × Val b
  | .arr _ t => List (Val t)
  | .sh _ t => List (Val t)
  | .ow _ t => List (Val t)

def dflt : (t : Ty) → Val t
  | .int _ => (0 : Int)
  | .bool => false
  | .str => ([] : List UInt8)
  | .unit => ()
  | .hole => ()
  | .pair a b => (dflt a, dflt b)
  | .arr n t => List.replicate n (dflt t)
  | .sh _ _ => ([] : List _)
  | .ow _ _ => ([] : List _)

def cells : Ty → Nat
  | .unit => 0
  | .pair a b => cells a + cells b
  | .arr n t => n * cells t
  | _ => 1

def isAgg : Ty → Bool
  | .unit | .pair _ _ | .arr _ _ => true
  | _ => false

def noOwn : Ty → Bool
  | .ow _ _ | .hole => false
  | .pair a b => noOwn a && noOwn b
  | .arr _ t => noOwn t
  | .sh _ t => noOwn t
  | _ => true

/-- A tree of type t may be taken as one of type t': some owned rows shared from now on. -/
def coeB : Ty → Ty → Bool
  | .int k, .int k' => decide (k = k')
  | .bool, .bool | .str, .str | .unit, .unit | .hole, .hole => true
  | .pair a b, .pair a' b' => coeB a a' && coeB b b'
  | .arr n t, .arr n' t' => decide (n = n') && coeB t t'
  | .sh e t, .sh e' t' => decide (e = e') && coeB t t' && noOwn t'
  | .ow e t, .sh e' t' => decide (e = e') && coeB t t' && noOwn t'
  | .ow e t, .ow e' t' => decide (e = e') && coeB t t'
  | _, _ => false

theorem coe_val : ∀ {t t' : Ty}, coeB t t' = true → Val t = Val t' := by
  intro t
  induction t with
  | int k => intro t' h; cases t' <;> simp_all [coeB, Val]
  | bool => intro t' h; cases t' <;> simp_all [coeB, Val]
  | str => intro t' h; cases t' <;> simp_all [coeB, Val]
  | unit => intro t' h; cases t' <;> simp_all [coeB, Val]
  | hole => intro t' h; cases t' <;> simp_all [coeB, Val]
  | pair a b iha ihb =>
    intro t' h
    cases t' <;> simp [coeB] at h
    simp only [Val]; rw [iha h.1, ihb h.2]
  | arr n t ih =>
    intro t' h
    cases t' <;> simp [coeB] at h
    simp only [Val]; rw [ih h.2]
  | sh e t ih =>
    intro t' h
    cases t' <;> simp [coeB] at h
    simp only [Val]; rw [ih h.1.2]
  | ow e t ih =>
    intro t' h
    cases t' <;> simp [coeB] at h
    · simp only [Val]; rw [ih h.1.2]
    · simp only [Val]; rw [ih h.2]

theorem coe_cells : ∀ {t t' : Ty}, coeB t t' = true → cells t = cells t' := by
  intro t
  induction t with
  | int k => intro t' h; cases t' <;> simp_all [coeB, cells]
  | bool => intro t' h; cases t' <;> simp_all [coeB, cells]
  | str => intro t' h; cases t' <;> simp_all [coeB, cells]
  | unit => intro t' h; cases t' <;> simp_all [coeB, cells]
  | hole => intro t' h; cases t' <;> simp_all [coeB, cells]
  | pair a b iha ihb =>
    intro t' h
    cases t' <;> simp [coeB] at h
    simp only [cells]; rw [iha h.1, ihb h.2]
  | arr n t ih =>
    intro t' h
    cases t' <;> simp [coeB] at h
    simp only [cells]; rw [h.1, ih h.2]
  | sh e t ih => intro t' h; cases t' <;> simp [coeB] at h <;> rfl
  | ow e t ih => intro t' h; cases t' <;> simp [coeB] at h <;> rfl

/-- As coeB, and an empty row may change its kind. -/
def coeV? : (t : Ty) → Val t → (t' : Ty) → Option (Val t')
  | .pair a b, x, t' =>
    if h : coeB (.pair a b) t' = true then some (cast (coe_val h) x) else
    match t' with
    | .pair a' b' =>
      match coeV? a x.1 a', coeV? b x.2 b' with
      | some y, some z => some (y, z)
      | _, _ => none
    | _ => none
  | .ow e t, x, t' =>
    if h : coeB (.ow e t) t' = true then some (cast (coe_val h) x) else
    match t', (x : List (Val t)) with
    | .ow e' t1, [] => if e = e' ∧ cells t = cells t1 then some ([] : List (Val t1)) else none
    | .sh e' t1, [] => if e = e' ∧ noOwn t1 = true then some ([] : List (Val t1)) else none
    | _, _ => none
  | t, x, t' => if h : coeB t t' = true then some (cast (coe_val h) x) else none

/-- A step by name: the kernel unfolds all else first. -/
def stepIn {α β : Type} (f : α → β) (a : α) : β := f a

inductive Step where
  | fst | snd | idx (i : Nat)
abbrev Path := List Step

/-- Is the one path the other's beginning, but for the numbers of elements? -/
def shapePre : Path → Path → Bool
  | [], _ => true
  | .fst :: p, .fst :: q => shapePre p q
  | .snd :: p, .snd :: q => shapePre p q
  | .idx _ :: p, .idx _ :: q => shapePre p q
  | _, _ => false

/-- Types of one shape: rows of whatever kind count alike. -/
def sameShape : Ty → Ty → Bool
  | .int k, .int k' => decide (k = k')
  | .bool, .bool | .str, .str | .unit, .unit => true
  | .pair a b, .pair a' b' => sameShape a a' && sameShape b b'
  | .arr n t, .arr n' t' => decide (n = n') && sameShape t t'
  | .sh _ _, .sh _ _ | .sh _ _, .ow _ _ | .ow _ _, .sh _ _ | .ow _ _, .ow _ _ | .hole, .sh _ _ | .hole, .ow _ _ | .sh _ _, .hole | .ow _ _, .hole | .hole, .hole => true
  | _, _ => false

/-- Where field i of a struct of n fields lies. -/
def fieldPath (n i : Nat) : Path :=
  if i + 1 < n ∨ n = 1 then List.replicate i .snd ++ [.fst] else List.replicate i .snd

def getAt : (t : Ty) → Val t → Path → Option (Sigma Val)
  | t, x, [] => some ⟨t, x⟩
  | .pair a _, x, .fst :: p => getAt a x.1 p
  | .pair _ b, x, .snd :: p => getAt b x.2 p
  | .arr _ t, x, .idx i :: p => getAt t (List.getD (α := Val t) x i (dflt t)) p
  | .ow _ t, x, .idx i :: p => getAt t (List.getD (α := Val t) x i (dflt t)) p
  | _, _, _ => none

/-- Where a part lies in its tree's own cells. -/
def offs : Ty → Path → Option (Nat × Ty)
  | t, [] => some (0, t)
  | .pair a _, .fst :: p => offs a p
  | .pair a b, .snd :: p => (offs b p).map fun q => (cells a + q.1, q.2)
  | .arr n t, .idx i :: p => if i < n then (offs t p).map fun q => (i * cells t + q.1, q.2) else none
  | _, _ => none

/-- The tree with another one (of as many cells) at a place; behind an index the type stays. -/
def setAt : (t : Ty) → Val t → Path → (u : Ty) → Val u → Option (Sigma Val)
  | t, _, [], u, y => if cells t = cells u ∧ isAgg t = isAgg u then some ⟨u, y⟩ else none
  | .pair a b, x, .fst :: p, u, y =>
    match setAt a x.1 p u y with
    | some ⟨a', z⟩ => some ⟨.pair a' b, (z, x.2)⟩
    | none => none
  | .pair a b, x, .snd :: p, u, y =>
    match setAt b x.2 p u y with
    | some ⟨b', z⟩ => some ⟨.pair a b', (x.1, z)⟩
    | none => none
  | .arr n t, x, .idx i :: p, u, y =>
    match setAt t (List.getD (α := Val t) x i (dflt t)) p u y with
    | some ⟨t', z⟩ => if h : t' = t then some ⟨.arr n t, List.set (α := Val t) x i (cast (congrArg Val h) z)⟩ else none
    | none => none
  | .ow e t, x, .idx i :: p, u, y =>
    match setAt t (List.getD (α := Val t) x i (dflt t)) p u y with
    | some ⟨t', z⟩ => if h : t' = t then some ⟨.ow e t, List.set (α := Val t) x i (cast (congrArg Val h) z)⟩ else none
    | none => none
  | _, _, _, _, _ => none

/-- Values under their own types. -/
def toI {k : IntKind} (x : Val (.int k)) : Int := x
def toB (x : Val .bool) : Bool := x
def toS (x : Val .str) : List UInt8 := x
def ofI (k : IntKind) (x : Int) : Val (.int k) := x
def ofB (x : Bool) : Val .bool := x
def ofS (x : List UInt8) : Val .str := x

/-! ### Slots and sites -/

inductive SV where
  | dead
  | val (t : Ty) (x : Val t)
  | pr (a b : SV)
  | ref (s : Nat) (p : Path)
  | ptr (s : Nat) (p : Path)
  | ro (t : Ty) (x : Val t)
  | nilp
  | fn (f : FuncId) (caps : SV)
  | tnil
  | tcons (a b : SV)
  deriving Inhabited

inductive Site where
  | none
  | tmp (t : Ty) (x : Val t)
  | var (T : TypeId) (t : Ty) (x : Val t)
  deriving Inhabited

structure St where
  slots : List SV
  sites : List Site

def nth {α : Type} (d : α) : List α → Nat → α
  | [], _ => d
  | x :: _, 0 => x
  | _ :: l, n + 1 => nth d l n

def setNth {α : Type} : List α → Nat → α → List α
  | [], _, _ => []
  | _ :: l, 0, y => y :: l
  | x :: l, n + 1, y => x :: setNth l n y

/-- As setNth; the list grows where it must. -/
def setPad {α : Type} (d : α) : List α → Nat → α → List α
  | [], 0, y => [y]
  | [], n + 1, y => d :: setPad d [] n y
  | _ :: l, 0, y => y :: l
  | x :: l, n + 1, y => x :: setPad d l n y

def St.slot (A : St) (i : Nat) : SV := nth .dead A.slots i
def St.site (A : St) (s : Nat) : Site := nth .none A.sites s
def St.put (A : St) (d : Option Nat) (v : SV) : St :=
  match d with
  | some d => { A with slots := setNth A.slots d v }
  | none => A
def St.setSite (A : St) (s : Nat) (x : Site) : St := { A with sites := setPad .none A.sites s x }

/-- Does it name the site s (or a part of it)? -/
def SV.names (s : Nat) : SV → Bool
  | .ref s' _ | .ptr s' _ => s == s'
  | .pr a b | .tcons a b => a.names s || b.names s
  | .fn _ c => c.names s
  | _ => false
/-- Does it name what lies at a part of s, or within? -/
def SV.beneath (s : Nat) (p : Path) : SV → Bool
  | .ref s' q => s == s' && shapePre p q
  | .ptr s' q => s == s' && (!q.isEmpty && shapePre p q)
  | .pr a b | .tcons a b => a.beneath s p || b.beneath s p
  | .fn _ c => c.beneath s p
  | _ => false
def St.killAll (A : St) (s : Nat) : St := { A with slots := A.slots.map fun v => if v.names s then .dead else v }
def St.killBelow (A : St) (s : Nat) (p : Path) : St := { A with slots := A.slots.map fun v => if v.beneath s p then .dead else v }
/-- Slots that name the row at a site itself. -/
def SV.refs (s : Nat) : SV → Bool
  | .ref s' _ => s == s'
  | .pr a b | .tcons a b => a.refs s || b.refs s
  | .fn _ c => c.refs s
  | _ => false
def St.killRefs (A : St) (s : Nat) : St := { A with slots := A.slots.map fun v => if v.refs s then .dead else v }
def Site.ty : Site → Option Ty
  | .none => Option.none
  | .tmp t _ => some t
  | .var _ t _ => some t
/-- Another tree at a site. -/
def Site.with (x : Site) (t : Ty) (y : Val t) : Site :=
  match x with
  | .var T _ _ => .var T t y
  | _ => .tmp t y
def St.tree (A : St) (s : Nat) : Option (Sigma Val) :=
  match A.site s with
  | .none => none
  | .tmp t x => some ⟨t, x⟩
  | .var _ t x => some ⟨t, x⟩

/-- How a tree at a site's place shows in a slot. -/
def view (s : Nat) : Path → (t : Ty) → Val t → SV
  | p, .pair a b, x => if noOwn (.pair a b) then .val (.pair a b) x else .pr (view s (p ++ [.fst]) a x.1) (view s (p ++ [.snd]) b x.2)
  | p, .ow _ _, _ => .ref s p
  | _, t, x => if noOwn t then .val t x else .dead

/-- A tree that was made is put into slot d: with owned rows it gets the site d. -/
def St.putTree (A : St) (d : Nat) (t : Ty) (x : Val t) : Option St :=
  if noOwn t then some (A.put (some d) (.val t x))
  else match A.site d with
    | .none => some ((A.setSite d (.tmp t x)).put (some d) (view d [] t x))
    | _ => none

/-- Does taking the first move what the second names? -/
def SV.hits (s : Nat) (q : Path) : SV → Bool
  | .ref s' p => s == s' && shapePre p q
  | .pr a b => a.hits s q || b.hits s q
  | _ => false
def SV.clash (a : SV) : SV → Bool
  | .ref s q | .ptr s q => a.hits s q
  | .pr x y | .tcons x y => a.clash x || a.clash y
  | .fn _ c => a.clash c
  | _ => false

/-- What a slot holds, taken as a tree: owned rows go with it. -/
def take : SV → St → Option (Sigma Val × St)
  | .val t x, A => some (⟨t, x⟩, A)
  | .pr a b, A =>
    if a.clash b then none else
    match take a A with
    | some (⟨ta, xa⟩, A1) =>
      match take b A1 with
      | some (⟨tb, xb⟩, A2) => some (⟨.pair ta tb, (xa, xb)⟩, A2)
      | none => none
    | none => none
  | .ref s p, A =>
    match A.site s, p with
    | .tmp t x, [] => some (⟨t, x⟩, (A.setSite s .none).killAll s)
    | _, _ =>
      match A.tree s with
      | some ⟨t, x⟩ =>
        match getAt t x p, setAt t x p .hole () with
        | some ⟨.ow e u, y⟩, some ⟨t', x'⟩ => some (⟨.ow e u, y⟩, (A.setSite s ((A.site s).with t' x')).killBelow s p)
        | _, _ => none
      | none => none
  | _, _ => none

/-- What a slot holds, looked at as a tree: nothing moves. -/
def peek (A : St) : SV → Option (Sigma Val)
  | .val t x => some ⟨t, x⟩
  | .pr a b =>
    match peek A a, peek A b with
    | some ⟨ta, xa⟩, some ⟨tb, xb⟩ => some ⟨.pair ta tb, (xa, xb)⟩
    | _, _ => none
  | .ref s p =>
    match A.tree s with
    | some ⟨t, x⟩ => getAt t x p
    | none => none
  | _ => none

/-! ### Types of the program -/

structure TI where
  ty : Ty
  nf : Nat := 0          -- a struct's fields
  elem : TypeId := 0     -- a slice's, an array's, a pointer's element
  bytes : Nat := 0
  eq : Bool := false     -- its == is known

/-- Where field i lies. -/
def TI.field (ti : TI) (i : Nat) : Option Path :=
  match ti.ty with
  | .pair _ _ => if i < ti.nf then some (fieldPath ti.nf i) else none
  | _ => none

abbrev Env := List (TypeId × TI)
def Env.at (Γ : Env) (T : TypeId) : Option TI := List.lookup T Γ

def strOf (s : ByteArray) : List UInt8 := s.data.toList

/-- A constant of a type. -/
def constTree : (t : Ty) → List Value → Option (Val t × List Value)
  | .int k, .int k' n :: r => if k = k' then some (n, r) else none
  | .bool, .bool b :: r => some (b, r)
  | .str, .string s :: r => if s.size ≤ 140737488355328 then some (strOf s, r) else none
  | .unit, r => some ((), r)
  | .pair a b, r =>
    match constTree a r with
    | some (x, r1) =>
      match constTree b r1 with
      | some (y, r2) => some ((x, y), r2)
      | none => none
    | none => none
  | .ow _ _, .slice none 0 0 :: r => some (([] : List _), r)
  | .sh _ _, .slice none 0 0 :: r => some (([] : List _), r)
  | _, _ => none

def ofConst (Γ : Env) (T : TypeId) : Value → SV
  | .int k n => .val (.int k) n
  | .bool b => .val .bool b
  | .string s => if s.size ≤ 140737488355328 then .val .str (strOf s) else .dead
  | .pointer none => .nilp
  | .slice none 0 0 =>
    match Γ.at T with
    | some i => match i.ty with
      | .ow e t => .val (.ow e t) ([] : List _)
      | _ => .dead
    | none => .dead
  | .agg cs =>
    match Γ.at T with
    | some i => if isAgg i.ty then match constTree i.ty cs.toList with
      | some (x, []) => .val i.ty x
      | _ => .dead
      else .dead
    | none => .dead
  | _ => .dead

def opd (Γ : Env) (T : TypeId) (A : St) : Operand → SV
  | .tmp t => A.slot t
  | .const v => ofConst Γ T v
  | .func f => .fn f .tnil
  | .global _ => .dead

/-! ### Numbers -/
def bitOp (k : IntKind) (op : BinOp) (x y : Int) : Int :=
  let a := BitVec.ofInt k.bits x
  let b := BitVec.ofInt k.bits y
  match op with
  | .and => k.wrap (a &&& b).toNat
  | .or => k.wrap (a ||| b).toNat
  | .xor => k.wrap (a ^^^ b).toNat
  | _ => k.wrap (a &&& ~~~b).toNat
def shlOp (k : IntKind) (x y : Int) : Int := k.wrap (x * 2 ^ (min y.toNat k.bits))
def shrOp (k : IntKind) (x y : Int) : Int := x.fdiv (2 ^ (min y.toNat k.bits))
def bytesEq (a b : List UInt8) : Bool := a == b

/-- Comparisons that do not count. -/
def ltB : Int → Int → Bool
  | .ofNat a, .ofNat b => Nat.ble (a + 1) b
  | .ofNat _, .negSucc _ => false
  | .negSucc _, .ofNat _ => true
  | .negSucc a, .negSucc b => Nat.ble (b + 1) a
def leB : Int → Int → Bool
  | .ofNat a, .ofNat b => Nat.ble a b
  | .ofNat _, .negSucc _ => false
  | .negSucc _, .ofNat _ => true
  | .negSucc a, .negSucc b => Nat.ble b a
def eqB : Int → Int → Bool
  | .ofNat a, .ofNat b => Nat.beq a b
  | .negSucc a, .negSucc b => Nat.beq a b
  | _, _ => false
theorem ltB_eq (a b : Int) : ltB a b = decide (a < b) := by
  rw [Bool.eq_iff_iff, decide_eq_true_iff]
  cases a <;> cases b <;> simp only [ltB, Nat.ble_eq, Bool.false_eq_true, false_iff, true_iff, Int.ofNat_eq_natCast] <;> omega
theorem leB_eq (a b : Int) : leB a b = decide (a ≤ b) := by
  rw [Bool.eq_iff_iff, decide_eq_true_iff]
  cases a <;> cases b <;> simp only [leB, Nat.ble_eq, Bool.false_eq_true, false_iff, true_iff, Int.ofNat_eq_natCast] <;> omega
theorem eqB_eq (a b : Int) : eqB a b = decide (a = b) := by
  rw [Bool.eq_iff_iff, decide_eq_true_iff]
  cases a <;> cases b <;> simp only [eqB, Nat.beq_eq, Bool.false_eq_true, false_iff, Int.ofNat_eq_natCast] <;> omega

/-- Are two trees without rows the same? -/
def eqV : (t : Ty) → Val t → Val t → Bool
  | .int _, x, y => eqB (toI x) (toI y)
  | .bool, x, y => toB x == toB y
  | .str, x, y => bytesEq x y
  | .pair a b, x, y => eqV a x.1 y.1 && eqV b x.2 y.2
  | .arr n t, x, y => (List.range n).all fun i => eqV t (List.getD (α := Val t) x i (dflt t)) (List.getD (α := Val t) y i (dflt t))
  | _, _, _ => true

def flat : Ty → Bool
  | .int _ | .bool | .str => true
  | .pair a b => flat a && flat b
  | .arr _ t => flat t
  | _ => false

def binInt {β : Type} (op : BinOp) (k k' : IntKind) (a b : Int) (K : SV → Option β) : Option β :=
  match op with
  | .shl => if b < 0 then none else K (.val (.int k) (ofI k (shlOp k a b)))
  | .shr => if b < 0 then none else K (.val (.int k) (ofI k (shrOp k a b)))
  | op =>
    if k = k' then
      match op with
      | .add => K (.val (.int k) (ofI k (k.wrap (a + b))))
      | .sub => K (.val (.int k) (ofI k (k.wrap (a - b))))
      | .mul => K (.val (.int k) (ofI k (k.wrap (a * b))))
      | .quo => if b = 0 then none else K (.val (.int k) (ofI k (k.wrap (a.tdiv b))))
      | .rem => if b = 0 then none else K (.val (.int k) (ofI k (a.tmod b)))
      | .eql => K (.val .bool (ofB (eqB a b)))
      | .neq => K (.val .bool (ofB (!eqB a b)))
      | .lss => K (.val .bool (ofB (ltB a b)))
      | .leq => K (.val .bool (ofB (leB a b)))
      | .gtr => K (.val .bool (ofB (ltB b a)))
      | .geq => K (.val .bool (ofB (leB b a)))
      | op => K (.val (.int k) (ofI k (bitOp k op a b)))
    else none
def binBool {β : Type} (op : BinOp) (a b : Bool) (K : SV → Option β) : Option β :=
  match op with
  | .eql => K (.val .bool (ofB (a == b)))
  | .neq => K (.val .bool (ofB (!(a == b))))
  | _ => none
def binStr {β : Type} (op : BinOp) (a b : List UInt8) (K : SV → Option β) : Option β :=
  match op with
  | .eql => K (.val .bool (ofB (bytesEq a b)))
  | .neq => K (.val .bool (ofB (!bytesEq a b)))
  | .add => if a.length + b.length ≤ 140737488355328 then K (.val .str (ofS (a ++ b))) else none
  | _ => none
def binAgg {β : Type} (op : BinOp) (t : Ty) (a b : Val t) (K : SV → Option β) : Option β :=
  match op with
  | .eql => K (.val .bool (ofB (eqV t a b)))
  | .neq => K (.val .bool (ofB (!eqV t a b)))
  | _ => none
def eqKnown (Γ : Env) (T : TypeId) (t : Ty) : Bool :=
  match Γ.at T with
  | some i => i.eq && isAgg t && decide (t = i.ty)
  | none => false
def binNil {β : Type} (op : BinOp) (same : Bool) (K : SV → Option β) : Option β :=
  match op with
  | .eql => K (.val .bool (ofB same))
  | .neq => K (.val .bool (ofB (!same)))
  | _ => none
/-- Both ways lead to the same. -/
noncomputable def both {β : Type} (x y : Option β) : Option β := @ite _ (x = y) (Classical.propDecidable _) x none
theorem both_some {β : Type} {x y : Option β} {r : β} (h : both x y = some r) : x = some r ∧ y = some r := by
  unfold both at h
  split at h
  · rename_i e; exact ⟨h, e ▸ h⟩
  · cases h
theorem both_of {β : Type} {x y : Option β} (h : x = both y y) : x = y := by
  rw [h]; unfold both; rw [if_pos rfl]
/-- A row is held against nil: one of no elements may be nil, or not. -/
noncomputable def binRow {β : Type} (op : BinOp) (empty : Bool) (K : SV → Option β) : Option β :=
  match empty with
  | true => both (binNil op true K) (binNil op false K)
  | false => binNil op false K
def rowTy (Γ : Env) (T : TypeId) : Bool :=
  match Γ.at T with
  | some i => match i.ty with
    | .ow _ _ => true
    | _ => false
  | none => false
def tyIs (Γ : Env) (T : TypeId) (t : Ty) : Bool :=
  match Γ.at T with
  | some i => decide (i.ty = t)
  | none => false
noncomputable def binK {β : Type} (Γ : Env) (op : BinOp) (T : TypeId) (x y : SV) (K : SV → Option β) : Option β :=
  match x, y with
  | .val (.int k) a, .val (.int k') b => binInt op k k' (toI a) (toI b) K
  | .val .bool a, .val .bool b => if tyIs Γ T .bool = true then binBool op (toB a) (toB b) K else none
  | .val .str a, .val .str b => binStr op (toS a) (toS b) K
  | .val (.sh _ t) l, .val (.ow _ _) _ => if rowTy Γ T = true then binRow op (List.isEmpty (α := Val t) l) K else none
  | .val t a, .val t' b => if h : t' = t then if eqKnown Γ T t = true then binAgg op t a (cast (congrArg Val h) b) K else none else none
  | .nilp, .nilp => if tyIs Γ T .hole = true then binNil op true K else none
  | .ptr _ _, .nilp => if tyIs Γ T .hole = true then binNil op false K else none
  | .nilp, .ptr _ _ => if tyIs Γ T .hole = true then binNil op false K else none
  | _, _ => none

/-! ### Calls -/
/-- What a closure holds. -/
inductive Cap where
  | v (t : Ty) (x : Val t)
  | p (j : Nat)

/-- What is handed to a call: a tree; a pointer to a variable that goes along; nil; a function. -/
inductive CArg where
  | v (t : Ty) (x : Val t)
  | p (j : Nat)
  | nilp
  | fn (f : FuncId) (caps : List Cap)

/-- A variable that goes along. -/
structure CVar where
  T : TypeId
  t : Ty
  x : Val t

/-- A result: a tree; a pointer to a new variable; or nil. -/
inductive CRes where
  | v (t : Ty) (x : Val t)
  | new (T : TypeId) (t : Ty) (x : Val t)
  | nilp

abbrev Den := List CArg → List CVar → Option (List CRes × List CVar)

/-- What a call wants of an argument. -/
inductive PM where
  | tree (t : Ty)      -- a tree of that type: it goes over
  | point              -- a pointer to a whole variable, a function, nil

/-- move: arguments go over; look: a callee only looks at them, and what it gives is new; flat: it gives plain values alone. -/
inductive Mode where
  | move | look | flat
  deriving DecidableEq
structure Sig where
  pms : List PM
  mode : Mode := .move

/-- run: as den, with what follows. -/
structure Prog where
  sig : FuncId → Option Sig
  den : FuncId → Den
  run : FuncId → {β : Type} → List CArg → List CVar → (List CRes × List CVar → Option β) → Option β
  run_eq : ∀ (f : FuncId) {β : Type} (args : List CArg) (vars : List CVar) (K : List CRes × List CVar → Option β), run f args vars K = (den f args vars).bind K

def indexOf (s : Nat) : List Nat → Nat
  | [] => 0
  | n :: N => if s == n then 0 else indexOf s N + 1
/-- The number of a site among those that go along. -/
def addSite (s : Nat) (N : List Nat) : Nat × List Nat := if N.contains s then (indexOf s N, N) else (N.length, N ++ [s])

def isVar (A : St) (s : Nat) : Bool :=
  match A.site s with
  | .var _ _ _ => true
  | _ => false

def giveCaps (A : St) : SV → List Nat → Option (List Cap × List Nat)
  | .tnil, N => some ([], N)
  | .tcons a r, N =>
    match a with
    | .val t x =>
      match giveCaps A r N with
      | some (l, N') => some (.v t x :: l, N')
      | none => none
    | .ptr s [] =>
      if isVar A s then
        match giveCaps A r (addSite s N).2 with
        | some (l, N') => some (.p (addSite s N).1 :: l, N')
        | none => none
      else none
    | _ => none
  | _, _ => none

def capArgs : List Cap → List CArg
  | [] => []
  | .v t x :: l => .v t x :: capArgs l
  | .p j :: l => .p j :: capArgs l

/-- A slot's value, handed to a call. -/
def give (m : PM) (v : SV) (A : St) (N : List Nat) : Option (CArg × St × List Nat) :=
  match m with
  | .tree t =>
    if N.any (fun s => v.names s) then none else
    match take v A with
    | some (⟨t0, x⟩, A1) =>
      match coeV? t0 x t with
      | some y => some (.v t y, A1, N)
      | none => none
    | none => none
  | .point =>
    match v with
    | .nilp => some (.nilp, A, N)
    | .ptr s [] => if isVar A s then some (.p (addSite s N).1, A, (addSite s N).2) else none
    | .fn f caps =>
      match giveCaps A caps N with
      | some (l, N') => some (.fn f l, A, N')
      | none => none
    | _ => none

def giveAll (Γ : Env) : List PM → List (Operand × TypeId) → St → List Nat → Option (List CArg × St × List Nat)
  | _, [], A, N => some ([], A, N)
  | m :: ms, x :: xs, A, N =>
    match give m (opd Γ x.2 A x.1) A N with
    | some (a, A1, N1) =>
      match giveAll Γ ms xs A1 N1 with
      | some (l, A2, N2) => some (a :: l, A2, N2)
      | none => none
    | none => none
  | [], _ :: _, _, _ => none

/-- The variables that go along. -/
def readVars (A : St) : List Nat → Option (List CVar)
  | [] => some []
  | s :: N =>
    match A.site s, readVars A N with
    | .var T t x, some l => some (⟨T, t, x⟩ :: l)
    | _, _ => none

/-- The variables come back. -/
def giveBack : List Nat → List CVar → St → Option St
  | [], [], A => some A
  | s :: ss, c :: cs, A =>
    match A.site s with
    | .var T t _ =>
      if T = c.T then
        if cells t = cells c.t ∧ isAgg t = isAgg c.t then
          giveBack ss cs (if t = c.t ∧ noOwn t = true then A.setSite s (.var c.T c.t c.x) else (A.setSite s (.var c.T c.t c.x)).killBelow s [])
        else none
      else none
    | _ => none
  | _, _, _ => none

/-- Results of a call as one slot's value. -/
def results1 (d : Nat) (A : St) : List CRes → Option St
  | [.v t x] => A.putTree d t x
  | [.nilp] => some (A.put (some d) .nilp)
  | [.new T t x] =>
    match A.site d with
    | .none => some ((A.setSite d (.var T t x)).put (some d) (.ptr d []))
    | _ => none
  | [] => some (A.put (some d) .tnil)
  | [.v t x, .v u y] =>
    if noOwn t && noOwn u then some (A.put (some d) (.tcons (.val t x) (.tcons (.val u y) .tnil)))
    else match A.site d with
      | .none => some ((A.setSite d (.tmp (.pair t u) (x, y))).put (some d) (.tcons (view d [.fst] t x) (.tcons (view d [.snd] u y) .tnil)))
      | _ => none
  | [.v t x, .v u y, .v s z] => if noOwn t && noOwn u && noOwn s then some (A.put (some d) (.tcons (.val t x) (.tcons (.val u y) (.tcons (.val s z) .tnil)))) else none
  | _ => none

/-- As results1; one tree alone may be turned. -/
def results1A (act : Option Ty) (d : Nat) (A : St) (res : List CRes) : Option St :=
  match act, res with
  | some u, [.v t x] =>
    match coeV? t x u with
    | some y => A.putTree d u y
    | none => none
  | some (.pair t' u'), [.v t x, .v u y] =>
    match coeV? t x t', coeV? u y u' with
    | some x', some y' => results1 d A [.v t' x', .v u' y']
    | _, _ => none
  | _, _ => results1 d A res

def callK {β : Type} (Φ : Prog) (act : Option Ty) (f : FuncId) (args : List CArg) (N : List Nat) (d : Nat) (A : St) (K : St → Option β) : Option β :=
  match readVars A N with
  | none => none
  | some V =>
    Φ.run f args V fun r =>
      match giveBack N r.2 A with
      | none => none
      | some A2 =>
        match results1A act d A2 r.1 with
        | none => none
        | some A3 => K A3

/-! ### Calls that only look -/
/-- A slot's value as a tree without owned rows; nothing moves. -/
def lookT (A : St) : SV → (t : Ty) → Option (Val t)
  | .val t x, t' => coeV? t x t'
  | .pr a b, .pair ta tb =>
    match lookT A a ta, lookT A b tb with
    | some x, some y => some (x, y)
    | _, _ => none
  | .ref s p, t' =>
    match A.tree s with
    | some ⟨t, x⟩ =>
      match getAt t x p with
      | some ⟨u, y⟩ => coeV? u y t'
      | none => none
    | none => none
  | _, _ => none
def valCaps : SV → Option (List Cap)
  | .tnil => some []
  | .tcons (.val t x) r => match valCaps r with
    | some l => some (.v t x :: l)
    | none => none
  | _ => none
def look (m : PM) (v : SV) (A : St) : Option CArg :=
  match m with
  | .tree t => if noOwn t = true then (match lookT A v t with | some y => some (.v t y) | none => none) else none
  | .point =>
    match v with
    | .nilp => some .nilp
    | .fn f caps => match valCaps caps with
      | some l => some (.fn f l)
      | none => none
    | _ => none
def lookAll (Γ : Env) (A : St) : List PM → List (Operand × TypeId) → Option (List CArg)
  | [], [] => some []
  | m :: ms, x :: xs =>
    match look m (opd Γ x.2 A x.1) A, lookAll Γ A ms xs with
    | some a, some l => some (a :: l)
    | _, _ => none
  | _, _ => none
/-- No row is shared. -/
def clean : Ty → Bool
  | .int _ | .bool | .str | .unit => true
  | .pair a b => clean a && clean b
  | .arr _ t => clean t
  | .ow _ t => clean t
  | _ => false
/-- Numbers and truths alone. -/
def plainTy : Ty → Bool
  | .int _ | .bool | .unit => true
  | .pair a b => plainTy a && plainTy b
  | _ => false
def resOk (m : Mode) : CRes → Bool
  | .v t _ => match m with
    | .flat => plainTy t
    | _ => clean t
  | .new _ t _ => match m with
    | .flat => false
    | _ => clean t
  | .nilp => true
def pureK {β : Type} (Φ : Prog) (act : Option Ty) (f : FuncId) (m : Mode) (args : List CArg) (d : Nat) (A : St) (K : St → Option β) : Option β :=
  Φ.run f args [] fun r =>
    match r.2 with
    | [] => if r.1.all (resOk m) = true then
        match results1A act d A r.1 with
        | some A1 => K A1
        | none => none
      else none
    | _ => none

/-! ### Operations -/

/-- A made tree, its type turned where the plan says so. -/
def finK {β : Type} (act : Option Ty) (d : Nat) (t : Ty) (x : Val t) (A : St) (K : St → Option β) : Option β :=
  match act with
  | none => match A.putTree d t x with
    | some A1 => K A1
    | none => none
  | some u => match coeV? t x u with
    | some y => match A.putTree d u y with
      | some A1 => K A1
      | none => none
    | none => none

def structy : Ty → Bool
  | .pair _ _ | .unit => true
  | _ => false

/-- The parts of a struct that is built, one by one, into its zero value. -/
def buildParts (Γ : Env) (A : St) (ti : TI) : List (Nat × Operand) → (t : Ty) → Val t → Option (Sigma Val × St)
  | [], t, x => some (⟨t, x⟩, A)
  | (i, o) :: r, t, x =>
    match take (opd Γ 0 A o) A, ti.field i with
    | some (⟨u, y⟩, A1), some p =>
      match setAt t x p u y with
      | some ⟨t', x'⟩ => if sameShape t' ti.ty then buildParts Γ A1 ti r t' x' else none
      | none => none
    | _, _ => none

/-- The elements of a row that is built; the first part tells their type. -/
def rowParts (Γ : Env) (A : St) (u : Ty) (l : List (Val u)) : List (Nat × Operand) → Option (List (Val u) × St)
  | [] => some (l, A)
  | (i, o) :: r =>
    match take (opd Γ 0 A o) A with
    | some (⟨t, x⟩, A1) =>
      match coeV? t x u with
      | some y => if i < l.length then rowParts Γ A1 u (l.set i y) r else none
      | none => none
    | none => none

def intOf : SV → Option Int
  | .val (.int _) n => some (toI n)
  | _ => none
def lenL (t : Ty) (l : List (Val t)) : Int := (l.length : Int)
/-- Bounds of a cut: from, to; nothing said: the whole. -/
def boundsOf (Γ : Env) (A : St) (n : Int) (lo hi mx : Option Operand) : Option (Int × Int × Bool) :=
  match (match lo with | none => some (0 : Int) | some q => intOf (opd Γ 0 A q)), (match hi with | none => some n | some q => intOf (opd Γ 0 A q)) with
  | some a, some b =>
    match mx, hi with
    | none, _ => some (a, b, true)
    | some q, some _ => (match intOf (opd Γ 0 A q) with | some c => some (a, b, decide (b = c)) | none => none)
    | some _, none => none
  | _, _ => none

/-- The tree at a place. -/
def rowAt (A : St) (s : Nat) (p : Path) : Option (Sigma Val) :=
  match A.tree s with
  | some ⟨t, x⟩ => getAt t x p
  | none => none

/-- The tree that an address leads to, if it is of a shape. -/
def loadV (ty : Ty) (A : St) : SV → Option SV
  | .ro t x => if sameShape t ty then some (.val t x) else none
  | .ptr s p =>
    match rowAt A s p with
    | some ⟨u, y⟩ => if sameShape u ty then some (view s p u y) else none
    | none => none
  | _ => none

/-- The tree at a part of a site is another one. -/
def writeAt (s : Nat) (p : Path) (t0 : Ty) (u : Ty) (y : Val u) (A : St) : Option St :=
  match A.tree s with
  | some ⟨t, x⟩ =>
    match setAt t x p u y with
    | some ⟨t', x'⟩ =>
      some (if u = t0 ∧ noOwn t0 = true then A.setSite s ((A.site s).with t' x') else (A.setSite s ((A.site s).with t' x')).killBelow s p)
    | none => none
  | none => none

/-- Slots whose pointers into a row that is cut in place stay. -/
def keepOf : Ty → List Nat
  | .pair (.arr n .unit) r => n :: keepOf r
  | _ => []
def inRow {β : Type} (A : St) (s n : Nat) : List Nat → Option β → Option β
  | [], k => k
  | j :: r, k =>
    match A.slot j with
    | .ptr s' (.idx i :: _) => if s' = s then if i < n then inRow A s n r k else none else none
    | _ => none
def killBut (s : Nat) (keep : List Nat) : List SV → Nat → List SV
  | [], _ => []
  | v :: r, i => (if keep.contains i then v else if v.names s then .dead else v) :: killBut s keep r (i + 1)
/-- A row of a site is cut in place. -/
def cutK {β : Type} (A : St) (s : Nat) (e : TypeId) (t : Ty) (l : List (Val t)) (b : Nat) (keep : List Nat) (d : Nat) (K : St → Option β) : Option β :=
  inRow A s b keep (K (St.put ⟨killBut s keep A.slots 0, (A.setSite s (.tmp (.ow e t) (List.take (α := Val t) b l))).sites⟩ (some d) (.ref s [])))

def storeK {β : Type} (ty : Ty) (addr v : SV) (A : St) (K : St → Option β) : Option β :=
  match addr with
  | .ptr s p =>
    if v.clash (.ptr s p) then none else
    match take v A with
    | none => none
    | some (⟨u, y⟩, A1) =>
      match rowAt A1 s p with
      | none => none
      | some ⟨t0, _⟩ =>
        if sameShape t0 ty then
          match coeV? u y t0 with
          | some y' =>
            match writeAt s p t0 t0 y' A1 with
            | some A2 => K A2
            | none => none
          | none =>
            match writeAt s p t0 u y A1 with
            | some A2 => K A2
            | none => none
        else none
  | _ => none

noncomputable def opK {β : Type} (Γ : Env) (Φ : Prog) (act : Option Ty) (o : Oper) (A : St) (K : St → Option β) : Option β :=
  match o.op with
  | .move x | .assign x => K (A.put o.dst (opd Γ o.type A x))
  | .pick c a b =>
    match opd Γ o.type A c with
    | .val .bool c => K (A.put o.dst (cond (toB c) (opd Γ o.type A a) (opd Γ o.type A b)))
    | _ => none
  | .alloc T =>
    match o.dst, Γ.at T with
    | some d, some i =>
      match A.site d with
      | .none => if i.ty = .hole then none else K ((A.setSite d (.var T i.ty (dflt i.ty))).put (some d) (.ptr d []))
      | _ => none
    | _, _ => none
  | .box T x =>
    match o.dst, Γ.at T, take (opd Γ T A x) A with
    | some d, some i, some (⟨t, y⟩, A1) =>
      match A1.site d with
      | .none => if cells t = cells i.ty ∧ isAgg t = isAgg i.ty then K ((A1.setSite d (.var T t y)).put (some d) (.ptr d [])) else none
      | _ => none
    | _, _, _ => none
  | .build T parts =>
    match o.dst, Γ.at T with
    | some d, some i =>
      if structy i.ty && sameShape i.ty i.ty then
        match buildParts Γ A i parts.toList i.ty (dflt i.ty) with
        | some (⟨t, x⟩, A1) => finK act d t x A1 K
        | none => none
      else none
    | _, _ => none
  | .buildSlice T n parts =>
    match o.dst, Γ.at T with
    | some d, some i =>
      match i.ty with
      | .ow e t0 =>
        if n * cells t0 ≤ 16777216 then
          match parts.toList with
          | [] => if n = 0 then finK act d (.ow e t0) ([] : List (Val t0)) A K else none
          | (j, x) :: r =>
            match take (opd Γ 0 A x) A with
            | some (⟨u, y⟩, A1) =>
              if sameShape u t0 ∧ j < n then
                match rowParts Γ A1 u ((List.replicate n (dflt u)).set j y) r with
                | some (l, A2) => finK act d (.ow e u) l A2 K
                | none => none
              else none
            | none => none
        else none
      | _ => none
    | _, _ => none
  | .load T a =>
    match Γ.at T with
    | some i =>
      match loadV i.ty A (opd Γ 0 A a) with
      | some v => K (A.put o.dst v)
      | none => none
    | none => none
  | .store T a x =>
    match Γ.at T with
    | some i => storeK i.ty (opd Γ 0 A a) (opd Γ T A x) A (fun A1 => K (A1.put o.dst .dead))
    | none => none
  | .nilCheck x =>
    match opd Γ 0 A x with
    | .ptr s p => K (A.put o.dst (.ptr s p))
    | .ro t x => K (A.put o.dst (.ro t x))
    | _ => none
  | .binOp op T x y _ => binK Γ op T (opd Γ T A x) (opd Γ T A y) (fun v => K (A.put o.dst v))
  | .unOp op _ x =>
    match op, opd Γ 0 A x with
    | .not, .val .bool b => K (A.put o.dst (.val .bool (ofB (!toB b))))
    | .neg, .val (.int k) n => K (A.put o.dst (.val (.int k) (ofI k (k.wrap (0 - toI n)))))
    | .xor, .val (.int k) n => K (A.put o.dst (.val (.int k) (ofI k (bitOp k .xor (if k.signed then -1 else k.max) (toI n)))))
    | _, _ => none
  | .convert S D x =>
    match Γ.at S, Γ.at D, opd Γ S A x with
    | some _, some i, .val (.int _) n =>
      match i.ty with
      | .int k => K (A.put o.dst (.val (.int k) (ofI k (k.wrap (toI n)))))
      | .str => cond (leB 0 (toI n) && ltB (toI n) 128) (K (A.put o.dst (.val .str (ofS [UInt8.ofNat (toI n).toNat])))) none
      | _ => none
    | _, _, _ => none
  | .makeFunc (.func f) first caps =>
    if first.size = 0 then K (A.put o.dst (.fn f (caps.toList.foldr (fun x r => SV.tcons (opd Γ 0 A x) r) .tnil))) else none
  | .makeSlice T n m =>
    match o.dst, Γ.at T, opd Γ 0 A n, opd Γ 0 A m with
    | some d, some i, .val (.int .i64) a, .val (.int .i64) b =>
      match i.ty with
      | .ow e t => if toI a = toI b then if 0 ≤ toI a then if toI a * i.bytes ≤ 140737488355328 then
          finK act d (.ow e t) (List.replicate (toI a).toNat (dflt t)) A K else none else none else none
      | _ => none
    | _, _, _, _ => none
  | .slice T x lo hi mx =>
    match Γ.at T with
    | none => none
    | some ti =>
      match ti.ty, opd Γ 0 A x with
      | .ow e' t', .val (.sh e t) l =>
        if e' = e ∧ sameShape t t' = true then
          match boundsOf Γ A (lenL t l) lo hi mx with
          | some (a, b, ok) =>
            if 0 ≤ a then if a ≤ b then if b ≤ lenL t l then if ok = true then
              K (A.put o.dst (.val (.sh e t) (List.take (b.toNat - a.toNat) (List.drop (α := Val t) a.toNat l)))) else none else none else none else none
          | none => none
        else none
      | .str, .val .str l =>
        match boundsOf Γ A ((toS l).length : Int) lo hi none, mx with
        | some (a, b, _), none =>
          if 0 ≤ a then if a ≤ b then if b ≤ ((toS l).length : Int) then
            K (A.put o.dst (.val .str (ofS (((toS l).drop a.toNat).take (b.toNat - a.toNat))))) else none else none else none
        | _, _ => none
      | .ow e' t', .ref s p =>
        match o.dst, lo, hi, mx with
        | some d, none, some q, none =>
          match act with
          | some (.pair (.arr j .unit) kr) =>
            match p, A.site s, intOf (opd Γ 0 A q) with
            | [], .tmp (.ow e t) l, some b =>
              if e' = e ∧ sameShape t t' = true then
                if 0 ≤ b then if b ≤ lenL t l then cutK A s e t l b.toNat (j :: keepOf kr) d K else none else none
              else none
            | _, _, _ => none
          | act =>
          match intOf (opd Γ 0 A q), take (.ref s p) A with
          | some b, some (⟨.ow e t, l⟩, A1) =>
            if e' = e ∧ sameShape t t' = true then
              if 0 ≤ b then if b ≤ lenL t l then
                finK act d (.ow e t) (List.take (α := Val t) b.toNat l) A1 K else none else none
            else none
          | _, _ => none
        | _, _, _, _ => none
      | _, _ => none
  | .fieldAddr T x i =>
    match Γ.at T, opd Γ 0 A x with
    | some ti, .ptr s p =>
      match rowAt A s p, ti.field i with
      | some ⟨u, _⟩, some q => if sameShape u ti.ty then K (A.put o.dst (.ptr s (p ++ q))) else none
      | _, _ => none
    | some ti, .ro t y =>
      match ti.field i with
      | some q =>
        if sameShape t ti.ty then
          match getAt t y q with
          | some ⟨u, z⟩ => K (A.put o.dst (.ro u z))
          | none => none
        else none
      | none => none
    | _, _ => none
  | .field T x i =>
    match Γ.at T, opd Γ 0 A x with
    | some ti, .val t y =>
      match ti.field i with
      | some q =>
        if sameShape t ti.ty then
          match getAt t y q with
          | some ⟨u, z⟩ => K (A.put o.dst (.val u z))
          | none => none
        else none
      | none => none
    | _, _ => none
  | .indexAddr T x ix =>
    match Γ.at T, opd Γ 0 A x, intOf (opd Γ 0 A ix) with
    | some ti, .val (.sh e t) l, some n =>
      match ti.ty with
      | .ow e' t' =>
        if e' = e ∧ sameShape t t' = true then
          if 0 ≤ n then if n < lenL t l then K (A.put o.dst (.ro t (List.getD (α := Val t) l n.toNat (dflt t)))) else none else none
        else none
      | _ => none
    | some ti, .ref s p, some n =>
      match rowAt A s p, ti.ty with
      | some ⟨.ow e t, l⟩, .ow e' t' =>
        if e' = e ∧ sameShape t t' = true then
          if 0 ≤ n then if n < lenL t l then K (A.put o.dst (.ptr s (p ++ [.idx n.toNat]))) else none else none
        else none
      | _, _ => none
    | some ti, .ptr s p, some n =>
      match rowAt A s p, ti.ty with
      | some ⟨.arr m t, _⟩, .arr m' t' =>
        if m = m' ∧ sameShape t t' = true then
          if 0 ≤ n then if n < (m : Int) then K (A.put o.dst (.ptr s (p ++ [.idx n.toNat]))) else none else none
        else none
      | _, _ => none
    | _, _, _ => none
  | .index T x ix =>
    match Γ.at T, opd Γ 0 A x, intOf (opd Γ 0 A ix) with
    | some ti, .val .str l, some n =>
      if ti.ty = .str then
        if 0 ≤ n then if n < ((toS l).length : Int) then K (A.put o.dst (.val (.int .u8) (ofI .u8 (((toS l).getD n.toNat 0).toNat : Int)))) else none else none
      else none
    | some ti, .val (.arr m t) l, some n =>
      match ti.ty with
      | .arr m' t' =>
        if m = m' ∧ sameShape t t' = true then
          if 0 ≤ n then if n < (m : Int) then K (A.put o.dst (.val t (List.getD (α := Val t) l n.toNat (dflt t)))) else none else none
        else none
      | _ => none
    | _, _, _ => none
  | .extract t i =>
    match opd Γ 0 A t, i with
    | .tcons a _, 0 => K (A.put o.dst a)
    | .tcons _ (.tcons b _), 1 => K (A.put o.dst b)
    | .tcons _ (.tcons _ (.tcons c _)), 2 => K (A.put o.dst c)
    | _, _ => none
  | .call { callee := .builtin .len, args, argTypes } =>
    match args.toList, argTypes.toList with
    | [x], [T] =>
      match Γ.at T with
      | none => none
      | some i =>
        match i.ty, opd Γ 0 A x with
        | .ow _ _, .val (.sh _ t) l => K (A.put o.dst (.val (.int .i64) (ofI .i64 (lenL t l))))
        | .ow _ _, .val (.ow _ t) l => K (A.put o.dst (.val (.int .i64) (ofI .i64 (lenL t l))))
        | .str, .val .str l => K (A.put o.dst (.val (.int .i64) (ofI .i64 ((toS l).length : Int))))
        | .ow _ _, .ref s p =>
          match rowAt A s p with
          | some ⟨.ow _ t, l⟩ => K (A.put o.dst (.val (.int .i64) (ofI .i64 (lenL t l))))
          | _ => none
        | _, _ => none
    | _, _ => none
  | .call { callee := .builtin .min, args, argTypes } =>
    match args.toList with
    | [x, y] =>
      match opd Γ 0 A x, opd Γ 0 A y with
      | .val (.int k) a, .val (.int k') b => if k = k' then K (A.put o.dst (.val (.int k) (ofI k (min (toI a) (toI b))))) else none
      | _, _ => none
    | _ => none
  | .call { callee := .builtin .max, args, argTypes } =>
    match args.toList with
    | [x, y] =>
      match opd Γ 0 A x, opd Γ 0 A y with
      | .val (.int k) a, .val (.int k') b => if k = k' then K (A.put o.dst (.val (.int k) (ofI k (max (toI a) (toI b))))) else none
      | _, _ => none
    | _ => none
  | .call { callee := .builtin .append, args, argTypes } =>
    match o.dst, args.toList, argTypes.toList with
    | some d, [s, x], [T, T'] =>
      if T' = T then
        match Γ.at T with
        | some i =>
          match i.ty, take (opd Γ T A s) A with
          | .ow e0 t0, some (⟨.ow e t, l⟩, A1) =>
            if e0 = e ∧ sameShape t t0 = true then
              match take (opd Γ T A1 x) A1 with
              | some (⟨.ow e' u, m⟩, A2) => appK i act d e t l e' u m A2 K
              | some (⟨.sh e' u, m⟩, A2) => appS i act d e t l e' u m A2 K
              | _ => none
            else none
          | _, _ => none
        | none => none
      else none
    | _, _, _ => none
  | .call { callee := .value (.func f), args, argTypes } =>
    match o.dst, Φ.sig f with
    | some d, some sg =>
      if args.size = argTypes.size ∧ args.size = sg.pms.length then
        match sg.mode with
        | .move =>
          match giveAll Γ sg.pms (args.toList.zip argTypes.toList) A [] with
          | some (l, A1, N) => callK Φ act f l N d A1 K
          | none => none
        | m =>
          match lookAll Γ A sg.pms (args.toList.zip argTypes.toList) with
          | some l => pureK Φ act f m l d A K
          | none => none
      else none
    | _, _ => none
  | .call { callee := .value (.tmp g), args, argTypes } =>
    match o.dst, A.slot g with
    | some d, .fn f _ =>
      match Φ.sig f with
      | some sg =>
        if args.size = argTypes.size then
          match giveAll Γ sg.pms (args.toList.zip argTypes.toList) A [] with
          | some (l, A1, N) =>
            match A1.slot g with
            | .fn f' caps =>
              if f' = f then
                match giveCaps A1 caps N with
                | some (l', N') => callK Φ act f (l ++ capArgs l') N' d A1 K
                | none => none
              else none
            | _ => none
          | none => none
        else none
      | none => none
    | _, _ => none
  | _ => none
where
  appK {β : Type} (i : TI) (act : Option Ty) (d : Nat) (e : TypeId) (t : Ty) (l : List (Val t)) (e' : TypeId) (u : Ty) (m : List (Val u)) (A : St) (K : St → Option β) : Option β :=
    if h : coeB (.ow e' u) (.ow e t) = true then
      let m' : List (Val t) := cast (coe_val h) m
      if (l.length + m'.length) * i.bytes ≤ 140737488355328 then finK act d (.ow e t) (List.append (α := Val t) l m') A K else none
    else
      match l with
      | [] => if e = e' ∧ cells t = cells u then if m.length * i.bytes ≤ 140737488355328 then finK act d (.ow e u) m A K else none else none
      | _ => none
  appS {β : Type} (i : TI) (act : Option Ty) (d : Nat) (e : TypeId) (t : Ty) (l : List (Val t)) (e' : TypeId) (u : Ty) (m : List (Val u)) (A : St) (K : St → Option β) : Option β :=
    if h : u = t then
      let m' : List (Val t) := cast (by rw [h]) m
      if e = e' then if (l.length + m'.length) * i.bytes ≤ 140737488355328 then finK act d (.ow e t) (List.append (α := Val t) l m') A K else none else none
    else
      match l with
      | [] => if e = e' ∧ cells t = cells u then if m.length * i.bytes ≤ 140737488355328 then finK act d (.ow e u) m A K else none else none
      | _ => none

end Go.Am
/- Am, part 2: how the machine goes through a function's code. -/
set_option linter.unusedVariables false
namespace Go.Am

inductive Want where
  | keep
  | tree (t : Ty)

/-- What lives on at the head of a loop. -/
structure Plan where
  vars : List (Nat × Ty) := []
  sites : List Nat := []
  slots : List (Nat × Want) := []

/-- How a region that draws its order is gone through: the order; which sites its calls and stores may touch; what may be made early. -/
structure Draw where
  order : List Nat
  touch : List (Nat × List Nat) := []
  early : List Nat := []
  inner : List Nat := []

structure Ann where
  draws : List (Nat × Draw) := []
  loops : List (Nat × Plan) := []
  ends : List (Nat × Plan) := []
  heads : List (Nat × Plan) := []
  outs : List (Nat × Plan) := []
  acts : List ((Nat × Nat) × Ty) := []
  res : List Ty := []

def reput (i : Nat) (t : Ty) (A : St) : Option St :=
  match take (A.slot i) A with
  | some (⟨t0, x⟩, A1) =>
    match coeV? t0 x t with
    | some y => A1.putTree i t y
    | none => none
  | none => none

def coeVar (s : Nat) (t : Ty) (A : St) : Option St :=
  match A.site s with
  | .var T t0 x =>
    match coeV? t0 x t with
    | some y => some ((A.setSite s (.var T t y)).killBelow s [])
    | none => none
  | _ => none

def coeVars : List (Nat × Ty) → St → Option St
  | [], A => some A
  | (s, t) :: r, A =>
    match coeVar s t A with
    | some A1 => coeVars r A1
    | none => none

def reputs : List (Nat × Want) → St → Option St
  | [], A => some A
  | (_, .keep) :: r, A => reputs r A
  | (i, .tree t) :: r, A =>
    match reput i t A with
    | some A1 => reputs r A1
    | none => none

def keepSlots (live : List Nat) : List SV → Nat → List SV
  | [], _ => []
  | v :: r, i => (if live.contains i then v else .dead) :: keepSlots live r (i + 1)
def keepSites (live : List Nat) : List Site → Nat → List Site
  | [], _ => []
  | v :: r, i => (if live.contains i then v else .none) :: keepSites live r (i + 1)
/-- Does it name a site that is not among these? -/
def SV.strays (live : List Nat) : SV → Bool
  | .ref s _ | .ptr s _ => !live.contains s
  | .pr a b | .tcons a b => a.strays live || b.strays live
  | .fn _ c => c.strays live
  | _ => false

def norm (p : Plan) (A : St) : Option St :=
  match coeVars p.vars A with
  | none => none
  | some A1 =>
    match reputs p.slots A1 with
    | none => none
    | some A2 =>
      if (List.range A2.sites.length).all (fun i => decide (i < A2.slots.length) || p.sites.contains i) then
      some ⟨(keepSlots (p.slots.map (·.1)) A2.slots 0).map fun v => if v.strays p.sites then .dead else v, keepSites p.sites A2.sites 0⟩
      else none

inductive Ex where
  | normal | exit (id : Nat) | ret

def actOf (acts : List ((Nat × Nat) × Ty)) (r j : Nat) : Option Ty := List.lookup (r, j) acts

section
variable {β : Type} (Γ : Env) (Φ : Prog) (ann : Ann)

noncomputable def opsK (rid : Nat) (ops : Array Oper) : List Oper → Nat → St → (St → Option β) → Option β
  | [], _, A, K => K A
  | o :: r, j, A, K =>
    match o.guard with
    | none => opK Γ Φ (actOf ann.acts rid j) o A (fun A1 => opsK rid ops r (j + 1) A1 K)
    | some (g, want) =>
      match (ops[g]?).bind (·.dst) with
      | none => none
      | some t =>
        match A.slot t with
        | .val .bool b =>
          cond (toB b)
            (match want with
             | true => opK Γ Φ (actOf ann.acts rid j) o (A.put (some t) (.val .bool (ofB true))) (fun A1 => opsK rid ops r (j + 1) A1 K)
             | false => opsK rid ops r (j + 1) ((A.put (some t) (.val .bool (ofB true))).put o.dst .tnil) K)
            (match want with
             | true => opsK rid ops r (j + 1) ((A.put (some t) (.val .bool (ofB false))).put o.dst .tnil) K
             | false => opK Γ Φ (actOf ann.acts rid j) o (A.put (some t) (.val .bool (ofB false))) (fun A1 => opsK rid ops r (j + 1) A1 K))
        | .tnil => opsK rid ops r (j + 1) (A.put o.dst .tnil) K
        | _ => none

/-- One operation, with its guard. -/
noncomputable def stepK (rid : Nat) (ops : Array Oper) (i : Nat) (o : Oper) (A : St) (K : St → Option β) : Option β :=
  match o.guard with
  | none => opK Γ Φ (actOf ann.acts rid i) o A K
  | some (g, want) =>
    match (ops[g]?).bind (·.dst) with
    | none => none
    | some t =>
      match A.slot t with
      | .val .bool b =>
        cond (toB b)
          (match want with
           | true => opK Γ Φ (actOf ann.acts rid i) o (A.put (some t) (.val .bool (ofB true))) K
           | false => K ((A.put (some t) (.val .bool (ofB true))).put o.dst .tnil))
          (match want with
           | true => K ((A.put (some t) (.val .bool (ofB false))).put o.dst .tnil)
           | false => opK Γ Φ (actOf ann.acts rid i) o (A.put (some t) (.val .bool (ofB false))) K)
      | .tnil => K (A.put o.dst .tnil)
      | _ => none

/-- The sites that a slot's value names. -/
def SV.all : SV → List Nat
  | .ref s _ | .ptr s _ => [s]
  | .pr a b | .tcons a b => a.all ++ b.all
  | .fn _ c => c.all
  | _ => []
def isVal : SV → Bool
  | .val _ _ => true
  | _ => false
/-- Does it only yield a value, whatever its neighbours do to the hot sites? -/
def calm (Γ : Env) (hot : List Nat) (A : St) (act : Option Ty) (o : Oper) : Bool :=
  match o.op with
  | .move _ | .assign _ | .pick _ _ _ | .nilCheck _ | .binOp _ _ _ _ _ | .unOp _ _ _ | .convert _ _ _ | .makeFunc _ _ _ | .fieldAddr _ _ _ | .field _ _ _ | .indexAddr _ _ _ | .index _ _ _ | .extract _ _ => true
  | .slice _ x _ _ _ => match opd Γ 0 A x with | .ref _ _ => false | _ => true
  | .load _ x => match opd Γ 0 A x with | .ptr s _ => !hot.contains s | _ => true
  | .build T parts => act.isNone && parts.toList.all (fun q => isVal (opd Γ 0 A q.2)) &&
      (match Γ.at T with
       | some i => match buildParts Γ A i parts.toList i.ty (dflt i.ty) with | some (⟨t, _⟩, _) => noOwn t | none => true
       | none => true)
  | .call { callee := .builtin .len, .. } => true
  | .call { callee := .builtin .min, .. } => true
  | .call { callee := .builtin .max, .. } => true
  | _ => false
def within (Γ : Env) (hot : List Nat) (A : St) (o : Oper) : Bool := o.op.operands.toList.all fun x => (opd Γ 0 A x).all.all hot.contains
/-- It may be taken now: it may come up, and whoever could come before it touches nothing of it. -/
def takeable (ops : Array Oper) (listed : Array Bool) (i : Nat) : Bool := Region.free .any ops listed i && (Region.ready .any ops listed).contains i
def alone (ops : Array Oper) (listed : Array Bool) (i : Nat) : Bool := Region.ready .any ops listed == [i]
/-- Is it wanted? -/
def idle (ops : Array Oper) (o : Oper) (A : St) : Bool :=
  match o.guard with
  | none => false
  | some (g, want) =>
    match (ops[g]?).bind (·.dst) with
    | none => false
    | some t => match A.slot t with
      | .val .bool b => toB b != want
      | _ => false

/-- A maker of something new, of constants alone: it may come up early. -/
def isConst : Operand → Bool
  | .const _ => true
  | _ => false
/-- The row that constants alone make. -/
def constRow (Γ : Env) (T : TypeId) (n : Nat) (parts : List (Nat × Operand)) : Option (Sigma Val) :=
  match Γ.at T with
  | some i =>
    match i.ty with
    | .ow e t0 =>
      if n * cells t0 ≤ 16777216 then
        match parts with
        | [] => if n = 0 then some ⟨.ow e t0, ([] : List (Val t0))⟩ else none
        | (j, x) :: r =>
          match take (opd Γ 0 ⟨[], []⟩ x) ⟨[], []⟩ with
          | some (⟨u, y⟩, _) =>
            if sameShape u t0 ∧ j < n then
              match rowParts Γ ⟨[], []⟩ u ((List.replicate n (dflt u)).set j y) r with
              | some (l, _) => some ⟨.ow e u, l⟩
              | none => none
            else none
          | none => none
      else none
    | _ => none
  | none => none

def isMaker (Γ : Env) (act : Option Ty) (nt : Nat) (o : Oper) : Bool :=
  (o.guard.isNone && o.after.isEmpty) && match o.op, o.dst with
  | .alloc T, some d => decide (d < nt) && (match Γ.at T with | some i => decide (i.ty ≠ .hole) | none => false)
  | .buildSlice T n parts, some d => decide (d < nt) && act.isNone && parts.toList.all (fun q => isConst q.2) && (match constRow Γ T n parts.toList with | some ⟨t, _⟩ => clean t && !noOwn t | none => false)
  | _, _ => false
def makersOk (Γ : Env) (acts : List ((Nat × Nat) × Ty)) (rid : Nat) (ops : Array Oper) (early : List Nat) (nt : Nat) : Bool :=
  early.all fun i => Region.free .any ops (Array.replicate ops.size false) i && match ops[i]? with | some o => isMaker Γ (actOf acts rid i) nt o | none => false
def mark (l : List Nat) (listed : Array Bool) : Array Bool := l.foldl (fun a i => a.setIfInBounds i true) listed

/-- Who waits for i, at once or through others. -/
def depStep (ops : Array Oper) (i : Nat) (S : List Nat) (q : Nat) : List Nat :=
  match ops[q]? with
  | some o => if o.after.toList.any (fun e => Region.binds .any e && (e.on == i || S.contains e.on)) then q :: S else S
  | none => S
def depOn (ops : Array Oper) (i : Nat) : List Nat := (List.range ops.size).foldl (depStep ops i) []
/-- A load may be taken now: nobody who could come before it touches what it reads; or only what lies in rows, where it reads a variable's own cells. -/
def loadAt (ops : Array Oper) (tch : List (Nat × List Nat)) (early inner : List Nat) (listed : Array Bool) (i : Nat) (A : St) (s : Nat) (p : Path) : Bool :=
  let D := depOn ops i
  (D.all fun q => !listed.getD q true && !early.contains q) &&
  tch.all fun q => !q.2.contains s || listed.getD q.1 true || D.contains q.1 || (inner.contains q.1 && (match A.site s with | .var _ t _ => (offs t p).isSome | _ => false))
def calmAt (Γ : Env) (ops : Array Oper) (tch : List (Nat × List Nat)) (early inner : List Nat) (listed : Array Bool) (i : Nat) (A : St) (act : Option Ty) (o : Oper) : Bool :=
  match o.op with
  | .load _ x => match opd Γ 0 A x with
    | .ptr s p => loadAt ops tch early inner listed i A s p
    | _ => true
  | _ => calm Γ [] A act o
/-- A store of a plain value into an element of a variable's row. -/
def storesIn (Γ : Env) (A : St) (o : Oper) : Bool :=
  match o.op with
  | .store T x y => match opd Γ 0 A x, opd Γ T A y with
    | .ptr s p, .val u _ => match A.site s with
      | .var _ t _ => (offs t p).isNone && plainTy u && (match rowAt A s p with | some ⟨t0, _⟩ => decide (t0 = u) | none => false)
      | _ => false
    | _, _ => false
  | _ => false
/-- Does it only look? -/
def looksOnly (Φ : Prog) (o : Oper) : Bool :=
  match o.op with
  | .call { callee := .value (.func f), .. } => match Φ.sig f with
    | some sg => sg.mode != .move
    | none => false
  | _ => false

noncomputable def drawK (rid : Nat) (ops : Array Oper) (tch : List (Nat × List Nat)) (early inner : List Nat) : List Nat → Array Bool → St → (St → Option β) → Option β
  | [], listed, A, K => if (Region.ready .any ops listed).isEmpty then K A else none
  | i :: rest, listed, A, K =>
    match ops[i]? with
    | none => none
    | some o =>
      if !early.contains i && (List.lookup i tch).isNone && takeable ops listed i && calmAt Γ ops tch early inner listed i A (actOf ann.acts rid i) o then stepK Γ Φ ann rid ops i o A (fun A1 => drawK rid ops tch early inner rest (listed.setIfInBounds i true) A1 K)
      else if (Region.ready .any ops listed).contains i && alone ops (mark (early.filter (· != i)) listed) i && (looksOnly Φ o || within Γ ((List.lookup i tch).getD []) A o) && (!inner.contains i || storesIn Γ A o) then stepK Γ Φ ann rid ops i o A (fun A1 => drawK rid ops tch early inner rest (listed.setIfInBounds i true) A1 K)
      else none

/-- So many rounds at most. -/
def iterK (body : St → (Ex → St → Option β) → Option β) (p : Plan) : Nat → St → (Ex → St → Option β) → Option β
  | 0, _, _ => none
  | n + 1, A, K => body A (fun e A2 =>
      match e with
      | .normal =>
        match norm p A2 with
        | some A3 => stepIn (fun A => iterK body p n A K) A3
        | none => none
      | .exit i => K (.exit i) A2
      | .ret => K .ret A2)

def planOf (l : List (Nat × Plan)) (b : Nat) : Plan := (List.lookup b l).getD {}

/-- Behind a block: what is not wanted any more is forgotten. -/
def endK (id : Nat) (A : St) (K : Ex → St → Option β) : Option β :=
  match List.lookup id ann.ends with
  | none => stepIn (K .normal) A
  | some p =>
    match norm p A with
    | some A1 => stepIn (K .normal) A1
    | none => none

/-- The first region of a piece of code. -/
def firstRid : Code → Nat
  | .region rid _ _ => rid
  | .seq a _ => firstRid a
  | .block _ c => firstRid c
  | .loop c => firstRid c
  | .cond _ a b => 500000 + min (firstRid a) (firstRid b)
  | _ => 1000000

/-- Ahead of a piece of code. -/
def headK (rid : Nat) (A : St) (K : St → Option β) : Option β :=
  match List.lookup rid ann.heads with
  | none => K A
  | some p =>
    match norm p A with
    | some A1 => stepIn K A1
    | none => none

/-- Ahead of a jump. -/
def outK (id : Nat) (A : St) (K : St → Option β) : Option β :=
  match List.lookup id ann.outs with
  | none => K A
  | some p =>
    match norm p A with
    | some A1 => K A1
    | none => none

noncomputable def codeK (n : Nat) : Code → Nat → St → (Ex → St → Option β) → Option β
  | .skip, _, A, K => K .normal A
  | .region rid ops draw, _, A, K =>
    match draw with
    | false => opsK Γ Φ ann rid ops ops.toList 0 A (K .normal)
    | true =>
      match List.lookup rid ann.draws with
      | some d => if Region.noSelect ops && d.order.length == ops.size && makersOk Γ ann.acts rid ops d.early A.slots.length && d.early.all d.order.contains then drawK Γ Φ ann rid ops d.touch d.early d.inner d.order (Array.replicate ops.size false) A (K .normal) else none
      | none => none
  | .seq a b, bl, A, K => codeK n a bl A (fun e A1 =>
      match e with
      | .normal => headK ann (firstRid b) A1 (fun A2 => codeK n b bl A2 K)
      | .exit i => K (.exit i) A1
      | .ret => K .ret A1)
  | .cond c a b, bl, A, K =>
    match c with
    | .tmp t =>
      match A.slot t with
      | .val .bool v => cond (toB v) (codeK n a bl (A.put (some t) (.val .bool (ofB true))) K) (codeK n b bl (A.put (some t) (.val .bool (ofB false))) K)
      | _ => none
    | .const (.bool v) => cond v (codeK n a bl A K) (codeK n b bl A K)
    | _ => none
  | .block id c, _, A, K => codeK n c id A (fun e A1 =>
      match e with
      | .normal => endK ann id A1 K
      | .exit i => if i = id then endK ann id A1 K else K (.exit i) A1
      | .ret => K .ret A1)
  | .loop c, bl, A, K =>
    match norm (planOf ann.loops bl) A with
    | some A1 => stepIn (fun A => iterK (fun A K => codeK n c bl A K) (planOf ann.loops bl) n A K) A1
    | none => none
  | .exit id, _, A, K => outK ann id A (K (.exit id))
  | .ret, _, A, K => K .ret A
  | _, _, _, _ => none
end

/-! ### What follows, by name -/
section
variable {β : Type} (Γ : Env) (Φ : Prog) (ann : Ann)
noncomputable def seqK (n : Nat) (b : Code) (bl : Nat) (K : Ex → St → Option β) : Ex → St → Option β := fun e A1 =>
  match e with
  | .normal => headK ann (firstRid b) A1 (fun A2 => codeK Γ Φ ann n b bl A2 K)
  | .exit i => K (.exit i) A1
  | .ret => K .ret A1
noncomputable def blockK (id : Nat) (K : Ex → St → Option β) : Ex → St → Option β := fun e A1 =>
  match e with
  | .normal => endK ann id A1 K
  | .exit i => if i = id then endK ann id A1 K else K (.exit i) A1
  | .ret => K .ret A1
/-- A loop's body, so many rounds at most. -/
noncomputable def loopK (n : Nat) (c : Code) (bl : Nat) (m : Nat) (A : St) (K : Ex → St → Option β) : Option β := iterK (fun A K => codeK Γ Φ ann n c bl A K) (planOf ann.loops bl) m A K
noncomputable def roundK (n : Nat) (c : Code) (bl : Nat) (m : Nat) (K : Ex → St → Option β) : Ex → St → Option β := fun e A2 =>
  match e with
  | .normal =>
    match norm (planOf ann.loops bl) A2 with
    | some A3 => stepIn (fun A => loopK Γ Φ ann n c bl m A K) A3
    | none => none
  | .exit i => K (.exit i) A2
  | .ret => K .ret A2
end

/-- Parts of code. -/
def partA : Code → Code
  | .seq a _ => a
  | .block _ c => c
  | .loop c => c
  | .cond _ a _ => a
  | c => c
def partB : Code → Code
  | .seq _ b => b
  | .cond _ _ b => b
  | c => c
def bodyOf (F : Func) : Code := F.body.getD .skip

/-- A state, told in short. -/
def mkSlots (l : List (Nat × SV)) : Nat → Nat → List SV
  | 0, _ => []
  | n + 1, i => (List.lookup i l).getD .dead :: mkSlots l n (i + 1)
def mkSites (l : List (Nat × Site)) : Nat → Nat → List Site
  | 0, _ => []
  | n + 1, i => (List.lookup i l).getD .none :: mkSites l n (i + 1)
def mkSt (nt ns : Nat) (slots : List (Nat × SV)) (sites : List (Nat × Site)) : St := ⟨mkSlots slots nt 0, mkSites sites ns 0⟩

/-! ### A function -/

def putArgs (nt : Nat) : List CArg → Nat → St → Option St
  | [], _, A => some A
  | .v t x :: r, i, A =>
    match A.putTree i t x with
    | some A1 => putArgs nt r (i + 1) A1
    | none => none
  | .p j :: r, i, A => putArgs nt r (i + 1) (A.put (some i) (.ptr (nt + j) []))
  | .nilp :: r, i, A => putArgs nt r (i + 1) (A.put (some i) .nilp)
  | .fn f caps :: r, i, A => putArgs nt r (i + 1) (A.put (some i) (.fn f (capsOf nt caps)))
where
  capsOf (nt : Nat) : List Cap → SV
    | .v t x :: r => .tcons (.val t x) (capsOf nt r)
    | .p j :: r => .tcons (.ptr (nt + j) []) (capsOf nt r)
    | [] => .tnil

def start (F : Func) (args : List CArg) (vars : List CVar) : Option St :=
  if args.length ≤ F.ntmps then putArgs F.ntmps args 0 ⟨List.replicate F.ntmps .dead, List.replicate F.ntmps .none ++ vars.map fun c => .var c.T c.t c.x⟩ else none

/-- What a result variable holds. -/
def resSV (Γ : Env) (A : St) : ResultVar → SV
  | .tmp t => A.slot t
  | .cell a T =>
    match Γ.at T with
    | some i => (loadV i.ty A (A.slot a)).getD .dead
    | none => .dead

def takeRes (Γ : Env) : List ResultVar → List Ty → St → Option (List CRes × St)
  | [], _, A => some ([], A)
  | r :: rs, ts, A =>
    match resSV Γ A r with
    | .nilp =>
      match takeRes Γ rs ts.tail A with
      | some (l, A1) => some (.nilp :: l, A1)
      | none => none
    | .ptr s [] =>
      if s < A.slots.length then
      match A.site s with
      | .var T t x =>
        match takeRes Γ rs ts.tail ((A.setSite s .none).killAll s) with
        | some (l, A1) => some (.new T t x :: l, A1)
        | none => none
      | _ => none
      else none
    | v =>
      match ts with
      | [] => none
      | t :: ts =>
        match take v A with
        | some (⟨t0, x⟩, A1) =>
          match coeV? t0 x t with
          | some y =>
            match takeRes Γ rs ts A1 with
            | some (l, A2) => some (.v t y :: l, A2)
            | none => none
          | none => none
        | none => none

def finish (Γ : Env) (F : Func) (ann : Ann) (nv : Nat) (A : St) : Option (List CRes × List CVar) :=
  match takeRes Γ F.results.toList ann.res A with
  | some (l, A1) =>
    match readVars A1 (List.range' F.ntmps nv) with
    | some vs => some (l, vs)
    | none => none
  | none => none

def finK' (Γ : Env) (F : Func) (ann : Ann) (nv : Nat) : Ex → St → Option (List CRes × List CVar) := fun e A1 =>
  match e with
  | .normal => finish Γ F ann nv A1
  | .ret => finish Γ F ann nv A1
  | .exit _ => none

noncomputable def den (Γ : Env) (Φ : Prog) (ann : Ann) (F : Func) (n : Nat) : Den := fun args vars =>
  match F.body with
  | none => none
  | some c =>
    match start F args vars with
    | none => none
    | some A => codeK Γ Φ ann n c 0 A (fun e A1 =>
      match e with
      | .normal => finish Γ F ann vars.length A1
      | .ret => finish Γ F ann vars.length A1
      | .exit _ => none)

end Go.Am
/- Am, part 3: what it means that cells of the model's memory hold a tree; that this lives on where memory changes elsewhere; that owned rows may be shared. -/
set_option linter.unusedVariables false
set_option linter.unusedSimpArgs false
namespace Go.Am

def Rl {α : Type} (P : α → List Value → List Nat → Prop) : List α → List Value → List Nat → Prop
  | [], cs, F => cs = [] ∧ F = []
  | x :: l, cs, F => ∃ c1 c2 F1 F2, cs = c1 ++ c2 ∧ F = F1 ++ F2 ∧ P x c1 F1 ∧ Rl P l c2 F2

/-- The cells cs hold the tree x of type t; S: the blocks that stay as they are; F: the blocks that x owns. -/
def R (w : World) (S : Nat → Prop) : (t : Ty) → Val t → List Value → List Nat → Prop
  | .int k, x, cs, F => cs = [.int k (toI x)] ∧ F = []
  | .bool, x, cs, F => cs = [.bool (toB x)] ∧ F = []
  | .str, x, cs, F => cs = [.string ⟨(toS x).toArray⟩] ∧ F = [] ∧ (toS x).length ≤ maxLen
  | .unit, _, cs, F => cs = [] ∧ F = []
  | .hole, _, cs, F => (∃ c : Value, cs = [c] ∧ c.oneCell' = true) ∧ F = []
  | .pair a b, x, cs, F => ∃ c1 c2 F1 F2, cs = c1 ++ c2 ∧ F = F1 ++ F2 ∧ R w S a x.1 c1 F1 ∧ R w S b x.2 c2 F2
  | .arr n t, x, cs, F => List.length (α := Val t) x = n ∧ Rl (R w S t) x cs F
  | .sh _ t, x, cs, F => F = [] ∧ ∃ a cap, cs = [.slice a (List.length (α := Val t) x) cap] ∧ List.length (α := Val t) x ≤ cap ∧ cap ≤ maxLen ∧
      (List.length (α := Val t) x = 0 ∨ ∃ ad ccs, a = some ad ∧ S ad.block ∧ Rl (R w S t) x ccs [] ∧ ∀ j c, ccs[j]? = some c → w.cell? (ad.add j) = some c)
  | .ow e t, x, cs, F => (List.length (α := Val t) x = 0 ∧ cs = [.slice none 0 0] ∧ F = []) ∨
      ∃ b cap cur F', cs = [.slice (some ⟨b, 0, none⟩) (List.length (α := Val t) x) cap] ∧ F = b :: F' ∧ w.heap[b]? = some (.cells cur e (0, 0)) ∧
        List.length (α := Val t) x ≤ cap ∧ cap ≤ maxLen ∧ cur.size = cap * cells t ∧ Rl (R w S t) x (cur.toList.take (List.length (α := Val t) x * cells t)) F'

/-! ### Rows of trees -/
section
variable {α : Type} {P Q : α → List Value → List Nat → Prop}

theorem Rl_len {m : Nat} (h : ∀ x cs F, P x cs F → cs.length = m) (l : List α) : ∀ cs F, Rl P l cs F → cs.length = l.length * m := by
  induction l with
  | nil => rintro cs F ⟨rfl, _⟩; simp
  | cons x l ih =>
    rintro cs F ⟨c1, c2, F1, F2, rfl, _, hx, hl⟩
    rw [List.length_append, h _ _ _ hx, ih _ _ hl, List.length_cons, Nat.succ_mul, Nat.add_comm]

theorem Rl_mono (l : List α) (h : ∀ x, x ∈ l → ∀ cs F, P x cs F → Q x cs F) : ∀ cs F, Rl P l cs F → Rl Q l cs F := by
  induction l with
  | nil => intro cs F h; exact h
  | cons x l ih =>
    rintro cs F ⟨c1, c2, F1, F2, h1, h2, hx, hl⟩
    exact ⟨c1, c2, F1, F2, h1, h2, h x (by simp) _ _ hx, ih (fun y hy => h y (by simp [hy])) _ _ hl⟩

/-- As Rl_mono, where what is asked of F is known of each part. -/
theorem Rl_monoF {G : Nat → Prop} (h : ∀ x cs F, (∀ b ∈ F, G b) → P x cs F → Q x cs F) (l : List α) : ∀ cs F, (∀ b ∈ F, G b) → Rl P l cs F → Rl Q l cs F := by
  induction l with
  | nil => intro cs F _ h; exact h
  | cons x l ih =>
    rintro cs F hF ⟨c1, c2, F1, F2, h1, rfl, hx, hl⟩
    exact ⟨c1, c2, F1, F2, h1, rfl, h _ _ _ (fun b hb => hF b (by simp [hb])) hx, ih _ _ (fun b hb => hF b (by simp [hb])) hl⟩

theorem Rl_append (l m : List α) : ∀ cs F, Rl P (l ++ m) cs F ↔ ∃ c1 c2 F1 F2, cs = c1 ++ c2 ∧ F = F1 ++ F2 ∧ Rl P l c1 F1 ∧ Rl P m c2 F2 := by
  induction l with
  | nil =>
    intro cs F
    constructor
    · intro h; exact ⟨[], cs, [], F, rfl, rfl, ⟨rfl, rfl⟩, h⟩
    · rintro ⟨c1, c2, F1, F2, rfl, rfl, ⟨rfl, rfl⟩, h⟩; exact h
  | cons x l ih =>
    intro cs F
    constructor
    · rintro ⟨c1, c2, F1, F2, rfl, rfl, hx, hl⟩
      obtain ⟨d1, d2, G1, G2, rfl, rfl, h1, h2⟩ := (ih _ _).1 hl
      exact ⟨c1 ++ d1, d2, F1 ++ G1, G2, by simp, by simp, ⟨c1, d1, F1, G1, rfl, rfl, hx, h1⟩, h2⟩
    · rintro ⟨_, c2, _, F2, rfl, rfl, ⟨c1, d1, F1, G1, rfl, rfl, hx, hl⟩, h2⟩
      exact ⟨c1, d1 ++ c2, F1, G1 ++ F2, by simp, by simp, hx, (ih _ _).2 ⟨d1, c2, G1, F2, rfl, rfl, hl, h2⟩⟩

theorem Rl_one (x : α) (cs : List Value) (F : List Nat) : Rl P [x] cs F ↔ P x cs F := by
  constructor
  · rintro ⟨c1, c2, F1, F2, rfl, rfl, hx, rfl, rfl⟩; simpa using hx
  · intro h; exact ⟨cs, [], F, [], by simp, by simp, h, rfl, rfl⟩

/-- One element of a row: its cells, its part of F; and another one in its place, in another world. -/
theorem Rl_at {m : Nat} (hlen : ∀ x cs F, P x cs F → cs.length = m) (d : α) (l : List α) : ∀ cs F, Rl P l cs F → ∀ i, i < l.length →
    ∃ F1 F' F2, F = F1 ++ F' ++ F2 ∧ P (l.getD i d) ((cs.drop (i * m)).take m) F' ∧
      ∀ (Q : α → List Value → List Nat → Prop) y cs' F'', (∀ x cs F, (∀ b ∈ F, b ∈ F1 ++ F2) → P x cs F → Q x cs F) → Q y cs' F'' →
        Rl Q (l.set i y) (cs.take (i * m) ++ cs' ++ cs.drop (i * m + m)) (F1 ++ F'' ++ F2) := by
  induction l with
  | nil => intro _ _ _ i hi; simp at hi
  | cons x l ih =>
    rintro _ _ ⟨c1, c2, F1, F2, rfl, rfl, hx, hl⟩ i hi
    have h1 := hlen _ _ _ hx
    cases i with
    | zero =>
      refine ⟨[], F1, F2, by simp, by simpa [← h1] using hx, ?_⟩
      intro Q y cs' F'' hm hy
      exact ⟨cs', c2, F'', F2, by simp [← h1], by simp, hy, Rl_monoF (G := fun b => b ∈ ([] : List Nat) ++ F2) hm l _ _ (fun b hb => by simpa using hb) hl⟩
    | succ i =>
      obtain ⟨G1, G', G2, e, hp, hs⟩ := ih c2 F2 hl i (by simpa using hi)
      have e1 : (c1 ++ c2).drop ((i + 1) * m) = c2.drop (i * m) := by
        rw [Nat.succ_mul, Nat.add_comm, ← h1, List.drop_length_add_append]
      refine ⟨F1 ++ G1, G', G2, by simp [e], ?_, ?_⟩
      · rw [e1]; simpa using hp
      · intro Q y cs' F'' hm hy
        refine ⟨c1, c2.take (i * m) ++ cs' ++ c2.drop (i * m + m), F1, G1 ++ F'' ++ G2, ?_, by simp, hm _ _ _ (fun b hb => by simp [hb]) hx,
          hs Q y cs' F'' (fun x cs F hF h => hm x cs F (fun b hb => by have := hF b hb; simp at this ⊢; rcases this with h | h <;> simp [h]) h) hy⟩
        have e2 : (c1 ++ c2).take ((i + 1) * m) = c1 ++ c2.take (i * m) := by
          rw [Nat.succ_mul, Nat.add_comm, ← h1, List.take_length_add_append]
        have e3 : (c1 ++ c2).drop ((i + 1) * m + m) = c2.drop (i * m + m) := by
          rw [show (i + 1) * m + m = c1.length + (i * m + m) by rw [Nat.succ_mul]; omega, List.drop_length_add_append]
        rw [e2, e3]; simp
end

/-! ### Trees -/
section
variable {w w' : World} {S S' : Nat → Prop}

theorem R_len : ∀ (t : Ty) (x : Val t) cs F, R w S t x cs F → cs.length = cells t := by
  intro t
  induction t with
  | int k => rintro x cs F ⟨rfl, _⟩; rfl
  | bool => rintro x cs F ⟨rfl, _⟩; rfl
  | str => rintro x cs F ⟨rfl, _⟩; rfl
  | unit => rintro x cs F ⟨rfl, _⟩; rfl
  | hole => rintro x cs F ⟨⟨c, rfl, _⟩, _⟩; rfl
  | pair a b iha ihb => rintro x cs F ⟨c1, c2, F1, F2, rfl, rfl, h1, h2⟩; simp [cells, iha _ _ _ h1, ihb _ _ _ h2]
  | arr n t ih => rintro x cs F ⟨h1, h2⟩; rw [Rl_len ih _ _ _ h2, h1]; rfl
  | sh e t ih => rintro x cs F ⟨_, a, cap, rfl, _⟩; rfl
  | ow e t ih => rintro x cs F (⟨_, rfl, _⟩ | ⟨b, cap, cur, F', rfl, _⟩) <;> rfl

theorem Rl_ones {α : Type} {P : α → List Value → List Nat → Prop} (h : ∀ x cs F, P x cs F → ∀ c ∈ cs, c.oneCell' = true) (l : List α) :
    ∀ cs F, Rl P l cs F → ∀ c ∈ cs, c.oneCell' = true := by
  induction l with
  | nil => rintro cs F ⟨rfl, _⟩ c hc; cases hc
  | cons x l ih =>
    rintro cs F ⟨c1, c2, F1, F2, rfl, _, hx, hl⟩ c hc
    rcases List.mem_append.1 hc with hc | hc
    · exact h _ _ _ hx c hc
    · exact ih _ _ hl c hc

theorem R_ones : ∀ (t : Ty) (x : Val t) cs F, R w S t x cs F → ∀ c ∈ cs, c.oneCell' = true := by
  intro t
  induction t with
  | int k => rintro x cs F ⟨rfl, _⟩ c hc; obtain rfl := List.mem_singleton.1 hc; rfl
  | bool => rintro x cs F ⟨rfl, _⟩ c hc; obtain rfl := List.mem_singleton.1 hc; rfl
  | str => rintro x cs F ⟨rfl, _⟩ c hc; obtain rfl := List.mem_singleton.1 hc; rfl
  | unit => rintro x cs F ⟨rfl, _⟩ c hc; cases hc
  | hole => rintro x cs F ⟨⟨d, rfl, hd⟩, _⟩ c hc; obtain rfl := List.mem_singleton.1 hc; exact hd
  | pair a b iha ihb =>
    rintro x cs F ⟨c1, c2, F1, F2, rfl, rfl, h1, h2⟩ c hc
    rcases List.mem_append.1 hc with hc | hc
    · exact iha _ _ _ h1 c hc
    · exact ihb _ _ _ h2 c hc
  | arr n t ih => rintro x cs F ⟨h1, h2⟩; exact Rl_ones ih _ _ _ h2
  | sh e t ih => rintro x cs F ⟨_, a, cap, rfl, _⟩ c hc; obtain rfl := List.mem_singleton.1 hc; rfl
  | ow e t ih => rintro x cs F (⟨_, rfl, _⟩ | ⟨b, cap, cur, F', rfl, _⟩) c hc <;> (obtain rfl := List.mem_singleton.1 hc; rfl)

/-- What is read lives on where its blocks do. -/
theorem R_frame (hS : ∀ b, S b → S' b ∧ w'.heap[b]? = w.heap[b]?) : ∀ (t : Ty) (x : Val t) cs F, (∀ b ∈ F, w'.heap[b]? = w.heap[b]?) → R w S t x cs F → R w' S' t x cs F := by
  intro t
  induction t with
  | int k => intro x cs F _ h; exact h
  | bool => intro x cs F _ h; exact h
  | str => intro x cs F _ h; exact h
  | unit => intro x cs F _ h; exact h
  | hole => intro x cs F _ h; exact h
  | pair a b iha ihb =>
    rintro x cs F hF ⟨c1, c2, F1, F2, rfl, rfl, h1, h2⟩
    exact ⟨c1, c2, F1, F2, rfl, rfl, iha _ _ _ (fun b hb => hF b (by simp [hb])) h1, ihb _ _ _ (fun b hb => hF b (by simp [hb])) h2⟩
  | arr n t ih =>
    rintro x cs F hF ⟨h1, h2⟩
    exact ⟨h1, Rl_monoF (G := fun b => w'.heap[b]? = w.heap[b]?) ih _ _ _ hF h2⟩
  | sh e t ih =>
    rintro x cs F hF ⟨rfl, a, cap, rfl, h1, h2, h3⟩
    refine ⟨rfl, a, cap, rfl, h1, h2, ?_⟩
    rcases h3 with h3 | ⟨ad, ccs, rfl, hSb, hl, hc⟩
    · exact .inl h3
    · refine .inr ⟨ad, ccs, rfl, (hS _ hSb).1, Rl_monoF (G := fun b => w'.heap[b]? = w.heap[b]?) ih _ _ _ (by simp) hl, ?_⟩
      intro j c hj
      have hb : (ad.add j).block = ad.block := by unfold Addr.add; split <;> rfl
      rw [World.cell?_of_block (w := w) (by rw [hb]; exact (hS _ hSb).2)]
      exact hc j c hj
  | ow e t ih =>
    rintro x cs F hF (h | ⟨b, cap, cur, F', rfl, rfl, h1, h2, h3, h4, h5⟩)
    · exact .inl h
    · exact .inr ⟨b, cap, cur, F', rfl, rfl, by rw [hF b (by simp)]; exact h1, h2, h3, h4, Rl_monoF (G := fun b => w'.heap[b]? = w.heap[b]?) ih _ _ _ (fun b hb => hF b (by simp [hb])) h5⟩

theorem Rl_noF {α : Type} {P : α → List Value → List Nat → Prop} (h : ∀ x cs F, P x cs F → F = []) (l : List α) : ∀ cs F, Rl P l cs F → F = [] := by
  induction l with
  | nil => rintro cs F ⟨_, rfl⟩; rfl
  | cons x l ih =>
    rintro cs F ⟨c1, c2, F1, F2, _, rfl, hx, hl⟩
    rw [h _ _ _ hx, ih _ _ hl]; rfl

theorem R_noOwn : ∀ (t : Ty) (x : Val t) cs F, noOwn t = true → R w S t x cs F → F = [] := by
  intro t
  induction t with
  | int k => rintro x cs F _ ⟨_, rfl⟩; rfl
  | bool => rintro x cs F _ ⟨_, rfl⟩; rfl
  | str => rintro x cs F _ ⟨_, rfl, _⟩; rfl
  | unit => rintro x cs F _ ⟨_, rfl⟩; rfl
  | hole => intro x cs F h; simp [noOwn] at h
  | pair a b iha ihb =>
    rintro x cs F hn ⟨c1, c2, F1, F2, rfl, rfl, h1, h2⟩
    simp [noOwn] at hn
    rw [iha _ _ _ hn.1 h1, ihb _ _ _ hn.2 h2]; rfl
  | arr n t ih => rintro x cs F hn ⟨h1, h2⟩; exact Rl_noF (fun x cs F h => ih x cs F (by simpa [noOwn] using hn) h) _ _ _ h2
  | sh e t ih => rintro x cs F hn ⟨rfl, _⟩; rfl
  | ow e t ih => intro x cs F h; simp [noOwn] at h

/-- Every block that is owned is there, and is a row. -/
theorem Rl_lt {α : Type} {P : α → List Value → List Nat → Prop} (h : ∀ x cs F, P x cs F → ∀ b ∈ F, b < w.heap.size) (l : List α) : ∀ cs F, Rl P l cs F → ∀ b ∈ F, b < w.heap.size := by
  induction l with
  | nil => rintro cs F ⟨_, rfl⟩ b hb; cases hb
  | cons x l ih =>
    rintro cs F ⟨c1, c2, F1, F2, _, rfl, hx, hl⟩ b hb
    rcases List.mem_append.1 hb with hb | hb
    · exact h _ _ _ hx b hb
    · exact ih _ _ hl b hb

theorem lt_of_some {w : World} {b : Nat} {o : Obj} (h : w.heap[b]? = some o) : b < w.heap.size := (Array.getElem?_eq_some_iff.1 h).1

theorem R_lt : ∀ (t : Ty) (x : Val t) cs F, R w S t x cs F → ∀ b ∈ F, b < w.heap.size := by
  intro t
  induction t with
  | int k => rintro x cs F ⟨_, rfl⟩ b hb; cases hb
  | bool => rintro x cs F ⟨_, rfl⟩ b hb; cases hb
  | str => rintro x cs F ⟨_, rfl, _⟩ b hb; cases hb
  | unit => rintro x cs F ⟨_, rfl⟩ b hb; cases hb
  | hole => rintro x cs F ⟨_, rfl⟩ b hb; cases hb
  | pair a b iha ihb =>
    rintro x cs F ⟨c1, c2, F1, F2, rfl, rfl, h1, h2⟩ b hb
    rcases List.mem_append.1 hb with hb | hb
    · exact iha _ _ _ h1 b hb
    · exact ihb _ _ _ h2 b hb
  | arr n t ih => rintro x cs F ⟨h1, h2⟩; exact Rl_lt ih _ _ _ h2
  | sh e t ih => rintro x cs F ⟨rfl, _⟩ b hb; cases hb
  | ow e t ih =>
    rintro x cs F (⟨_, _, rfl⟩ | ⟨b, cap, cur, F', rfl, rfl, h1, h2, h3, h4, h5⟩) c hc
    · cases hc
    · rcases List.mem_cons.1 hc with rfl | hc
      · exact lt_of_some h1
      · exact Rl_lt ih _ _ _ h5 c hc

/-! ### Zero values -/
def zeroCells : Ty → List Value
  | .int k => [.int k 0]
  | .bool => [.bool false]
  | .str => [.string ⟨#[]⟩]
  | .unit => []
  | .hole => [.slice none 0 0]
  | .pair a b => zeroCells a ++ zeroCells b
  | .arr n t => (List.replicate n (zeroCells t)).flatten
  | .sh _ _ => [.slice none 0 0]
  | .ow _ _ => [.slice none 0 0]

theorem Rl_replicate {α : Type} {P : α → List Value → List Nat → Prop} {x : α} {cs : List Value} (h : P x cs []) (n : Nat) : Rl P (List.replicate n x) (List.replicate n cs).flatten [] := by
  induction n with
  | zero => exact ⟨rfl, rfl⟩
  | succ n ih => exact ⟨cs, _, [], [], by simp [List.replicate_succ], rfl, h, ih⟩

theorem R_dflt : ∀ (t : Ty), R w S t (dflt t) (zeroCells t) [] := by
  intro t
  induction t with
  | int k => exact ⟨rfl, rfl⟩
  | bool => exact ⟨rfl, rfl⟩
  | str => exact ⟨rfl, rfl, by simp [dflt, toS]⟩
  | unit => exact ⟨rfl, rfl⟩
  | hole => exact ⟨⟨_, rfl, rfl⟩, rfl⟩
  | pair a b iha ihb => exact ⟨_, _, [], [], rfl, rfl, iha, ihb⟩
  | arr n t ih => exact ⟨by simp [dflt], Rl_replicate ih n⟩
  | sh e t ih => exact ⟨rfl, none, 0, rfl, by simp [dflt], by simp [maxLen], .inl rfl⟩
  | ow e t ih => exact .inl ⟨rfl, rfl, rfl⟩

/-! ### Sharing what was owned -/
theorem cast_pair {A A' B B' : Type} (h1 : A = A') (h2 : B = B') (h : (A × B) = (A' × B')) (x : A × B) : cast h x = (cast h1 x.1, cast h2 x.2) := by
  subst h1; subst h2; rfl
theorem cast_list {A A' : Type} (h1 : A = A') (h : List A = List A') (l : List A) : cast h l = l.map (cast h1) := by
  subst h1
  have : (cast (rfl : A = A)) = id := rfl
  show l = l.map id
  simp

/-- What is left to the tree, when some of it is shared. -/
def Freed (P : (Nat → Prop) → List Nat → Prop) (S : Nat → Prop) (F : List Nat) : Prop :=
  ∃ F' : List Nat, F'.Sublist F ∧ ∀ S' : Nat → Prop, (∀ b, S b → S' b) → (∀ b ∈ F, b ∉ F' → S' b) → P S' F'

theorem Rl_freed {α β : Type} {P : α → List Value → List Nat → Prop} {Q : (Nat → Prop) → β → List Value → List Nat → Prop} {S : Nat → Prop} (f : α → β)
    (h : ∀ x cs F, F.Nodup → P x cs F → Freed (fun S' F' => Q S' (f x) cs F') S F) (l : List α) :
    ∀ cs F, F.Nodup → Rl P l cs F → Freed (fun S' F' => Rl (Q S') (l.map f) cs F') S F := by
  induction l with
  | nil => rintro cs F _ ⟨rfl, rfl⟩; exact ⟨[], by simp, fun S' _ _ => ⟨rfl, rfl⟩⟩
  | cons x l ih =>
    rintro cs F hn ⟨c1, c2, F1, F2, rfl, rfl, hx, hl⟩
    rw [List.nodup_append] at hn
    obtain ⟨G1, s1, g1⟩ := h _ _ _ hn.1 hx
    obtain ⟨G2, s2, g2⟩ := ih _ _ hn.2.1 hl
    refine ⟨G1 ++ G2, s1.append s2, fun S' hS hF => ⟨c1, c2, G1, G2, rfl, rfl, g1 S' hS fun b hb hb' => hF b (by simp [hb]) ?_, g2 S' hS fun b hb hb' => hF b (by simp [hb]) ?_⟩⟩
    · intro hm
      rcases List.mem_append.1 hm with hm | hm
      · exact hb' hm
      · exact hn.2.2 b hb b (s2.subset hm) rfl
    · intro hm
      rcases List.mem_append.1 hm with hm | hm
      · exact hn.2.2 b (s1.subset hm) b hb rfl
      · exact hb' hm

theorem R_coe : ∀ (t t' : Ty) (h : coeB t t' = true) (x : Val t) cs F, F.Nodup → R w S t x cs F → Freed (fun S' F' => R w S' t' (cast (coe_val h) x) cs F') S F := by
  intro t
  induction t with
  | int k =>
    intro t' h x cs F _ hr
    cases t' <;> simp [coeB] at h
    subst h
    exact ⟨F, List.Sublist.refl _, fun _ _ _ => hr⟩
  | bool => intro t' h x cs F _ hr; cases t' <;> simp [coeB] at h; exact ⟨F, List.Sublist.refl _, fun _ _ _ => hr⟩
  | str => intro t' h x cs F _ hr; cases t' <;> simp [coeB] at h; exact ⟨F, List.Sublist.refl _, fun _ _ _ => hr⟩
  | unit => intro t' h x cs F _ hr; cases t' <;> simp [coeB] at h; exact ⟨F, List.Sublist.refl _, fun _ _ _ => hr⟩
  | hole => intro t' h x cs F _ hr; cases t' <;> simp [coeB] at h; exact ⟨F, List.Sublist.refl _, fun _ _ _ => hr⟩
  | pair a b iha ihb =>
    intro t' h x cs F hn
    cases t' with
    | pair a' b' =>
      rintro ⟨c1, c2, F1, F2, rfl, rfl, h1, h2⟩
      have hc : coeB a a' = true ∧ coeB b b' = true := by simpa [coeB] using h
      rw [List.nodup_append] at hn
      obtain ⟨G1, s1, g1⟩ := iha a' hc.1 _ _ _ hn.1 h1
      obtain ⟨G2, s2, g2⟩ := ihb b' hc.2 _ _ _ hn.2.1 h2
      refine ⟨G1 ++ G2, s1.append s2, fun S' hS hF => ?_⟩
      have e : cast (coe_val h) x = (cast (coe_val hc.1) x.1, cast (coe_val hc.2) x.2) := cast_pair (coe_val hc.1) (coe_val hc.2) (coe_val h) x
      refine ⟨c1, c2, G1, G2, rfl, rfl, ?_, ?_⟩
      · rw [e]
        refine g1 S' hS fun b hb hb' => hF b (by simp [hb]) ?_
        intro hm
        rcases List.mem_append.1 hm with hm | hm
        · exact hb' hm
        · exact hn.2.2 b hb b (s2.subset hm) rfl
      · rw [e]
        refine g2 S' hS fun b hb hb' => hF b (by simp [hb]) ?_
        intro hm
        rcases List.mem_append.1 hm with hm | hm
        · exact hn.2.2 b (s1.subset hm) b hb rfl
        · exact hb' hm
    | _ => simp [coeB] at h
  | arr n t ih =>
    intro t' h x cs F hn
    cases t' with
    | arr n' t' =>
      have hc : n = n' ∧ coeB t t' = true := by simpa [coeB] using h
      rintro ⟨h1, h2⟩
      obtain ⟨G, s, g⟩ := Rl_freed (Q := fun S' => R w S' t') (S := S) (cast (coe_val hc.2)) (fun x cs F hn hr => ih t' hc.2 x cs F hn hr) x cs F hn h2
      refine ⟨G, s, fun S' hS hF => ?_⟩
      have e : cast (coe_val h) x = List.map (cast (coe_val hc.2)) x := cast_list (coe_val hc.2) (coe_val h) x
      refine ⟨?_, ?_⟩
      · rw [e, List.length_map, h1, hc.1]
      · rw [e]; exact g S' hS hF
    | _ => simp [coeB] at h
  | sh e t ih =>
    intro t' h x cs F hn
    cases t' with
    | sh e' t' =>
      have hc : (e = e' ∧ coeB t t' = true) ∧ noOwn t' = true := by simpa [coeB] using h
      rintro ⟨rfl, a, cap, rfl, h1, h2, h3⟩
      have ex : cast (coe_val h) x = List.map (cast (coe_val hc.1.2)) x := cast_list (coe_val hc.1.2) (coe_val h) x
      refine ⟨[], List.Sublist.refl _, fun S' hS hF => ⟨rfl, a, cap, ?_, ?_, h2, ?_⟩⟩
      · rw [ex, List.length_map]
      · rw [ex, List.length_map]; exact h1
      · rw [ex, List.length_map]
        rcases h3 with h3 | ⟨ad, ccs, rfl, hSb, hl, hcc⟩
        · exact .inl h3
        · obtain ⟨G, s, g⟩ := Rl_freed (Q := fun S' => R w S' t') (S := S) (cast (coe_val hc.1.2)) (fun x cs F hn hr => ih t' hc.1.2 x cs F hn hr) x ccs [] (by simp) hl
          obtain rfl : G = [] := by simpa using s
          exact .inr ⟨ad, ccs, rfl, hS _ hSb, g S' hS (by simp), hcc⟩
    | _ => simp [coeB] at h
  | ow e t ih =>
    intro t' h x cs F hn
    cases t' with
    | sh e' t' =>
      have hc : (e = e' ∧ coeB t t' = true) ∧ noOwn t' = true := by simpa [coeB] using h
      have ex : cast (coe_val h) x = List.map (cast (coe_val hc.1.2)) x := cast_list (coe_val hc.1.2) (coe_val h) x
      rintro (⟨h1, rfl, rfl⟩ | ⟨b, cap, cur, F', rfl, rfl, h1, h2, h3, h4, h5⟩)
      · refine ⟨[], List.Sublist.refl _, fun S' hS hF => ⟨rfl, none, 0, ?_, ?_, by simp [maxLen], .inl ?_⟩⟩
        · rw [ex, List.length_map, h1]
        · rw [ex, List.length_map, h1]; exact Nat.le_refl _
        · rw [ex, List.length_map]; exact h1
      · obtain ⟨hb, hn'⟩ := List.nodup_cons.1 hn
        obtain ⟨G, s, g⟩ := Rl_freed (Q := fun S' => R w S' t') (S := S) (cast (coe_val hc.1.2)) (fun x cs F hn hr => ih t' hc.1.2 x cs F hn hr) x _ F' hn' h5
        have hG : G = [] := Rl_noF (P := R w (fun _ => True) t') (fun x cs F => R_noOwn t' x cs F hc.2) _ _ _ (g (fun _ => True) (fun _ _ => trivial) (fun _ _ _ => trivial))
        subst hG
        refine ⟨[], by simp, fun S' hS hF => ⟨rfl, some ⟨b, 0, none⟩, cap, ?_, ?_, h3, .inr ⟨⟨b, 0, none⟩, cur.toList.take (List.length (α := Val t) x * cells t), rfl, hF b (by simp) (by simp), ?_, ?_⟩⟩⟩
        · rw [ex, List.length_map]
        · rw [ex, List.length_map]; exact h2
        · rw [ex]; exact g S' hS fun b hb hb' => hF b (by simp [hb]) (by simp)
        · intro j c hj
          have hadd : (⟨b, 0, none⟩ : Addr).add j = ⟨b, j, none⟩ := by unfold Addr.add; split <;> simp_all
          rw [hadd, cell_of_row w b j cur e (0, 0) h1]
          rw [List.getElem?_take] at hj
          split at hj
          · simpa using hj
          · cases hj
    | ow e' t' =>
      have hc : e = e' ∧ coeB t t' = true := by simpa [coeB] using h
      have ex : cast (coe_val h) x = List.map (cast (coe_val hc.2)) x := cast_list (coe_val hc.2) (coe_val h) x
      rintro (⟨h1, rfl, rfl⟩ | ⟨b, cap, cur, F', rfl, rfl, h1, h2, h3, h4, h5⟩)
      · refine ⟨[], List.Sublist.refl _, fun S' hS hF => .inl ⟨?_, rfl, rfl⟩⟩
        rw [ex, List.length_map]; exact h1
      · obtain ⟨hb, hn'⟩ := List.nodup_cons.1 hn
        obtain ⟨G, s, g⟩ := Rl_freed (Q := fun S' => R w S' t') (S := S) (cast (coe_val hc.2)) (fun x cs F hn hr => ih t' hc.2 x cs F hn hr) x _ F' hn' h5
        refine ⟨b :: G, s.cons_cons b, fun S' hS hF => .inr ⟨b, cap, cur, G, ?_, rfl, hc.1 ▸ h1, ?_, h3, ?_, ?_⟩⟩
        · rw [ex, List.length_map]
        · rw [ex, List.length_map]; exact h2
        · rw [h4, coe_cells hc.2]
        · rw [ex, List.length_map, ← coe_cells hc.2]
          refine g S' hS fun c hc' hc'' => hF c (by simp [hc']) ?_
          intro hm
          rcases List.mem_cons.1 hm with rfl | hm
          · exact hb hc'
          · exact hc'' hm
    | _ => simp [coeB] at h

end
end Go.Am
/- Am, part 4: parts of trees: where they lie, how they are read, written, taken out. -/
set_option linter.unusedVariables false
set_option linter.unusedSimpArgs false
namespace Go.Am

theorem R_coeV {w : World} {S : Nat → Prop} : ∀ (t : Ty) (x : Val t) (t' : Ty) (y : Val t') cs F, coeV? t x t' = some y → F.Nodup → R w S t x cs F →
    Freed (fun S' F' => R w S' t' y cs F') S F := by
  intro t
  induction t with
  | pair a b iha ihb =>
    intro x t' y cs F h hn hr
    rw [coeV?] at h
    split at h
    · rename_i hc; obtain rfl := Option.some.inj h; exact R_coe _ _ hc _ _ _ hn hr
    · split at h
      · split at h
        · rename_i y1 y2 e1 e2
          obtain rfl := Option.some.inj h
          obtain ⟨c1, c2, F1, F2, rfl, rfl, h1, h2⟩ := hr
          rw [List.nodup_append] at hn
          obtain ⟨G1, s1, g1⟩ := iha _ _ _ _ _ e1 hn.1 h1
          obtain ⟨G2, s2, g2⟩ := ihb _ _ _ _ _ e2 hn.2.1 h2
          refine ⟨G1 ++ G2, s1.append s2, fun S' hS hF => ⟨c1, c2, G1, G2, rfl, rfl, g1 S' hS fun b hb hb' => hF b (by simp [hb]) ?_, g2 S' hS fun b hb hb' => hF b (by simp [hb]) ?_⟩⟩
          · intro hm
            rcases List.mem_append.1 hm with hm | hm
            · exact hb' hm
            · exact hn.2.2 b hb b (s2.subset hm) rfl
          · intro hm
            rcases List.mem_append.1 hm with hm | hm
            · exact hn.2.2 b (s1.subset hm) b hb rfl
            · exact hb' hm
        · cases h
      · cases h
  | ow e t ih =>
    intro x t' y cs F h hn hr
    rw [coeV?] at h
    split at h
    · rename_i hc; obtain rfl := Option.some.inj h; exact R_coe _ _ hc _ _ _ hn hr
    · cases t' with
      | ow e' t1 =>
        cases x with
        | nil =>
          simp only at h
          split at h
          · rename_i hc
            obtain rfl := Option.some.inj h
            obtain ⟨rfl, hcell⟩ := hc
            rcases hr with ⟨h1, rfl, rfl⟩ | ⟨b, cap, cur, F', rfl, rfl, h1, h2, h3, h4, h5⟩
            · exact ⟨[], by simp, fun S' _ _ => .inl ⟨rfl, rfl, rfl⟩⟩
            · obtain rfl : F' = [] := h5.2
              exact ⟨[b], List.Sublist.refl _, fun S' _ _ => .inr ⟨b, cap, cur, [], rfl, rfl, h1, h2, h3, by rw [h4, hcell], ⟨by simp, rfl⟩⟩⟩
          · cases h
        | cons z x => simp at h
      | sh e' t1 =>
        cases x with
        | nil =>
          simp only at h
          split at h
          · rename_i hc
            obtain rfl := Option.some.inj h
            obtain ⟨rfl, hcell⟩ := hc
            rcases hr with ⟨h1, rfl, rfl⟩ | ⟨b, cap, cur, F', rfl, rfl, h1, h2, h3, h4, h5⟩
            · exact ⟨[], by simp, fun S' _ _ => ⟨rfl, none, 0, rfl, by simp, by simp [maxLen], .inl rfl⟩⟩
            · exact ⟨[], by simp, fun S' _ _ => ⟨rfl, _, cap, rfl, by simp, h3, .inl rfl⟩⟩
          · cases h
        | cons z x => simp at h
      | _ => simp at h
  | int k =>
    intro x t' y cs F h hn hr
    simp only [coeV?] at h
    split at h
    · rename_i hc; obtain rfl := Option.some.inj h; exact R_coe _ _ hc _ _ _ hn hr
    · cases h
  | bool =>
    intro x t' y cs F h hn hr
    simp only [coeV?] at h
    split at h
    · rename_i hc; obtain rfl := Option.some.inj h; exact R_coe _ _ hc _ _ _ hn hr
    · cases h
  | str =>
    intro x t' y cs F h hn hr
    simp only [coeV?] at h
    split at h
    · rename_i hc; obtain rfl := Option.some.inj h; exact R_coe _ _ hc _ _ _ hn hr
    · cases h
  | unit =>
    intro x t' y cs F h hn hr
    simp only [coeV?] at h
    split at h
    · rename_i hc; obtain rfl := Option.some.inj h; exact R_coe _ _ hc _ _ _ hn hr
    · cases h
  | hole =>
    intro x t' y cs F h hn hr
    simp only [coeV?] at h
    split at h
    · rename_i hc; obtain rfl := Option.some.inj h; exact R_coe _ _ hc _ _ _ hn hr
    · cases h
  | arr n t ih =>
    intro x t' y cs F h hn hr
    simp only [coeV?] at h
    split at h
    · rename_i hc; obtain rfl := Option.some.inj h; exact R_coe _ _ hc _ _ _ hn hr
    · cases h
  | sh e t ih =>
    intro x t' y cs F h hn hr
    simp only [coeV?] at h
    split at h
    · rename_i hc; obtain rfl := Option.some.inj h; exact R_coe _ _ hc _ _ _ hn hr
    · cases h

/-! ### Plain parts: no owned row is crossed -/
theorem offs_le : ∀ (p : Path) (t : Ty) o t', offs t p = some (o, t') → o + cells t' ≤ cells t := by
  intro p
  induction p with
  | nil => intro t o t' h; simp [offs] at h; obtain ⟨rfl, rfl⟩ := h; simp
  | cons s p ih =>
    intro t o t' h
    cases t <;> cases s <;> simp [offs] at h
    · have := ih _ _ _ h; simp only [cells]; omega
    · obtain ⟨a', h', rfl⟩ := h; have := ih _ _ _ h'; simp only [cells]; omega
    · rename_i n t i
      obtain ⟨hi, a', h', rfl⟩ := h
      have := ih _ _ _ h'
      have h2 : (i + 1) * cells t ≤ n * cells t := Nat.mul_le_mul_right _ hi
      rw [Nat.succ_mul] at h2
      simp only [cells]; omega

theorem setAt_cells : ∀ (p : Path) (t : Ty) (x : Val t) (u : Ty) (y : Val u) tn xn, setAt t x p u y = some ⟨tn, xn⟩ → cells tn = cells t ∧ isAgg tn = isAgg t := by
  intro p
  induction p with
  | nil =>
    intro t x u y tn xn h
    rw [setAt] at h
    split at h
    · rename_i hc; simp at h; obtain ⟨rfl, _⟩ := h; exact ⟨hc.1.symm, hc.2.symm⟩
    · cases h
  | cons s p ih =>
    intro t x u y tn xn h
    cases t <;> cases s <;> simp only [setAt] at h <;> first | (exact absurd h (by intro h; cases h)) | skip
    · split at h
      · rename_i a' z e; simp at h; obtain ⟨rfl, _⟩ := h; simp [cells, (ih _ _ _ _ _ _ e).1, isAgg]
      · cases h
    · split at h
      · rename_i a' z e; simp at h; obtain ⟨rfl, _⟩ := h; simp [cells, (ih _ _ _ _ _ _ e).1, isAgg]
      · cases h
    · split at h
      · split at h
        · simp at h; obtain ⟨rfl, _⟩ := h; exact ⟨rfl, rfl⟩
        · cases h
      · cases h
    · split at h
      · split at h
        · simp at h; obtain ⟨rfl, _⟩ := h; exact ⟨rfl, rfl⟩
        · cases h
      · cases h

theorem splice3 {α : Type} (C : List α) (A o k m : Nat) (ys : List α) (h1 : o + k ≤ m) (h2 : A + m ≤ C.length) :
    C.take (A + o) ++ ys ++ C.drop (A + o + k) = C.take A ++ (List.take o ((C.drop A).take m) ++ ys ++ List.drop (o + k) ((C.drop A).take m)) ++ C.drop (A + m) := by
  have e1 : C.take (A + o) = C.take A ++ List.take o ((C.drop A).take m) := by
    rw [List.take_take, Nat.min_eq_left (by omega), List.take_add]
  have e2 : C.drop (A + o + k) = List.drop (o + k) ((C.drop A).take m) ++ C.drop (A + m) := by
    have h3 : (C.drop A).take m ++ (C.drop A).drop m = C.drop A := List.take_append_drop _ _
    have h4 : (C.drop A).drop (o + k) = List.drop (o + k) ((C.drop A).take m) ++ (C.drop A).drop m := by
      conv => lhs; rw [← h3]
      rw [List.drop_append_of_le_length (by rw [List.length_take, List.length_drop]; omega)]
    rw [List.drop_drop, List.drop_drop] at h4
    rw [Nat.add_assoc]; exact h4
  rw [e1, e2]; simp

/-- What a plain part is, and what another one in its place makes. -/
theorem plain {w : World} {S : Nat → Prop} : ∀ (p : Path) (t : Ty) (x : Val t) cs F o t', R w S t x cs F → offs t p = some (o, t') →
    ∃ x' F1 F' F2, getAt t x p = some ⟨t', x'⟩ ∧ F = F1 ++ F' ++ F2 ∧ R w S t' x' ((cs.drop o).take (cells t')) F' ∧
      ∀ w2 S2 u y cs'' F'' tn xn, setAt t x p u y = some ⟨tn, xn⟩ → R w2 S2 u y cs'' F'' →
        (∀ b, S b → S2 b ∧ w2.heap[b]? = w.heap[b]?) → (∀ b ∈ F1 ++ F2, w2.heap[b]? = w.heap[b]?) →
        R w2 S2 tn xn (cs.take o ++ cs'' ++ cs.drop (o + cells t')) (F1 ++ F'' ++ F2) := by
  intro p
  induction p with
  | nil =>
    intro t x cs F o t' hr h
    simp [offs] at h
    obtain ⟨rfl, rfl⟩ := h
    have hl := R_len _ _ _ _ hr
    refine ⟨x, [], F, [], by rw [getAt], by simp, by simpa [← hl] using hr, ?_⟩
    intro w2 S2 u y cs'' F'' tn xn hs h2 _ _
    rw [setAt] at hs
    split at hs
    · simp at hs; obtain ⟨rfl, hs⟩ := hs; obtain rfl := eq_of_heq hs
      simpa [← hl] using h2
    · cases hs
  | cons s p ih =>
    intro t x cs F o t' hr h
    cases t <;> cases s <;> simp [offs] at h
    · -- fst
      rename_i a b
      obtain ⟨c1, c2, G1, G2, rfl, rfl, h1, h2⟩ := hr
      have l1 := R_len _ _ _ _ h1
      have ho := offs_le _ _ _ _ h
      obtain ⟨x', F1, F', F2, hg, rfl, hx, hset⟩ := ih a x.1 c1 G1 o t' h1 h
      refine ⟨x', F1, F', F2 ++ G2, hg, by simp, ?_, ?_⟩
      · rw [List.drop_append_of_le_length (by omega), List.take_append_of_le_length (by rw [List.length_drop]; omega)]; exact hx
      · intro w2 S2 u y cs'' F'' tn xn hs h' hS hF
        rw [setAt] at hs
        split at hs
        · rename_i a' z e
          simp at hs; obtain ⟨rfl, hs⟩ := hs; obtain rfl := eq_of_heq hs
          have q := hset w2 S2 u y cs'' F'' _ _ e h' hS (fun b hb => hF b (by simp at hb ⊢; rcases hb with hb | hb <;> simp [hb]))
          refine ⟨_, c2, _, G2, ?_, ?_, q, R_frame hS _ _ _ _ (fun b hb => hF b (by simp [hb])) h2⟩
          · rw [List.take_append_of_le_length (by omega), List.drop_append_of_le_length (by omega)]; simp
          · simp
        · cases hs
    · -- snd
      rename_i a b
      obtain ⟨o', h', rfl⟩ := h
      obtain ⟨c1, c2, G1, G2, rfl, rfl, h1, h2⟩ := hr
      have l1 := R_len _ _ _ _ h1
      have ho := offs_le _ _ _ _ h'
      obtain ⟨x', F1, F', F2, hg, rfl, hx, hset⟩ := ih b x.2 c2 G2 o' t' h2 h'
      refine ⟨x', G1 ++ F1, F', F2, hg, by simp, ?_, ?_⟩
      · rw [← l1, List.drop_length_add_append]; exact hx
      · intro w2 S2 u y cs'' F'' tn xn hs h' hS hF
        rw [setAt] at hs
        split at hs
        · rename_i a' z e
          simp at hs; obtain ⟨rfl, hs⟩ := hs; obtain rfl := eq_of_heq hs
          have q := hset w2 S2 u y cs'' F'' _ _ e h' hS (fun b hb => hF b (by simp at hb ⊢; rcases hb with hb | hb <;> simp [hb]))
          refine ⟨c1, _, G1, _, ?_, ?_, R_frame hS _ _ _ _ (fun b hb => hF b (by simp [hb])) h1, q⟩
          · rw [← l1, List.take_length_add_append, Nat.add_assoc, List.drop_length_add_append]; simp
          · simp
        · cases hs
    · -- arr
      rename_i n t i
      obtain ⟨hi, o', h', rfl⟩ := h
      obtain ⟨hlen, hl⟩ := hr
      have ho := offs_le _ _ _ _ h'
      have hcs := Rl_len (R_len (w := w) (S := S) t) _ _ _ hl
      have hii : (i + 1) * cells t ≤ cs.length := by rw [hcs, hlen]; exact Nat.mul_le_mul_right _ hi
      rw [Nat.succ_mul] at hii
      obtain ⟨G1, G', G2, rfl, hxi, hseti⟩ := Rl_at (R_len (w := w) (S := S) t) (dflt t) x cs F hl i (by omega)
      obtain ⟨x', F1, F', F2, hg, rfl, hx, hset⟩ := ih t _ _ G' o' t' hxi h'
      refine ⟨x', G1 ++ F1, F', F2 ++ G2, hg, by simp, ?_, ?_⟩
      · rw [List.drop_take, List.take_take, List.drop_drop, Nat.min_eq_left (by omega)] at hx
        exact hx
      · intro w2 S2 u y cs'' F'' tn xn hs hr2 hS hF
        rw [setAt] at hs
        split at hs
        · rename_i a' z e
          split at hs
          · rename_i ht
            simp at hs; obtain ⟨rfl, hs⟩ := hs; obtain rfl := eq_of_heq hs
            subst ht
            have q := hset w2 S2 u y cs'' F'' _ _ e hr2 hS (fun b hb => hF b (by simp at hb ⊢; rcases hb with hb | hb <;> simp [hb]))
            refine ⟨by rw [List.length_set]; exact hlen, ?_⟩
            have q2 := hseti (R w2 S2 a') z _ _ (fun x cs F hF' h => R_frame hS a' x cs F (fun b hb => hF b (by have := hF' b hb; simp at this ⊢; rcases this with h | h <;> simp [h])) h) q
            have e1 : cs.take (i * cells a' + o') ++ cs'' ++ cs.drop (i * cells a' + o' + cells t') =
                cs.take (i * cells a') ++ (List.take o' ((cs.drop (i * cells a')).take (cells a')) ++ cs'' ++ List.drop (o' + cells t') ((cs.drop (i * cells a')).take (cells a'))) ++ cs.drop (i * cells a' + cells a') := by
              exact splice3 cs (i * cells a') o' (cells t') (cells a') cs'' ho (by omega)
            rw [e1, show G1 ++ F1 ++ F'' ++ (F2 ++ G2) = G1 ++ (F1 ++ F'' ++ F2) ++ G2 by simp]
            exact q2
          · cases hs
        · cases hs

/-! ### Any part: owned rows are crossed -/
theorem getAt_append : ∀ (p : Path) (q : Path) (t : Ty) (x : Val t) t1 x1, getAt t x p = some ⟨t1, x1⟩ → getAt t x (p ++ q) = getAt t1 x1 q := by
  intro p
  induction p with
  | nil => intro q t x t1 x1 h; rw [getAt] at h; simp at h; obtain ⟨rfl, h⟩ := h; obtain rfl := eq_of_heq h; rfl
  | cons s p ih =>
    intro q t x t1 x1 h
    cases t <;> cases s <;> simp only [getAt] at h <;> first | (exact absurd h (by intro h; cases h)) | skip
    all_goals (rw [List.cons_append]; simp only [getAt]; exact ih _ _ _ _ _ h)

theorem setAt_append : ∀ (p : Path) (q : Path) (t : Ty) (x : Val t) (u : Ty) (y : Val u) r, setAt t x (p ++ q) u y = some r →
    ∃ t1 x1 t2 x2, getAt t x p = some ⟨t1, x1⟩ ∧ setAt t1 x1 q u y = some ⟨t2, x2⟩ ∧ setAt t x p t2 x2 = some r := by
  intro p
  induction p with
  | nil =>
    intro q t x u y r h
    obtain ⟨t2, x2⟩ := r
    have hc := setAt_cells _ _ _ _ _ _ _ h
    exact ⟨t, x, t2, x2, by rw [getAt], h, by rw [setAt, if_pos ⟨hc.1.symm, hc.2.symm⟩]⟩
  | cons s p ih =>
    intro q t x u y r h
    cases t <;> cases s <;> rw [List.cons_append] at h <;> simp only [setAt] at h <;> first | (exact absurd h (by intro h; cases h)) | skip
    · split at h
      · rename_i a' z e
        obtain ⟨t1, x1, t2, x2, h1, h2, h3⟩ := ih _ _ _ _ _ _ e
        exact ⟨t1, x1, t2, x2, by simp only [getAt]; exact h1, h2, by simp only [setAt, h3]; exact h⟩
      · cases h
    · split at h
      · rename_i a' z e
        obtain ⟨t1, x1, t2, x2, h1, h2, h3⟩ := ih _ _ _ _ _ _ e
        exact ⟨t1, x1, t2, x2, by simp only [getAt]; exact h1, h2, by simp only [setAt, h3]; exact h⟩
      · cases h
    · split at h
      · rename_i a' z e
        obtain ⟨t1, x1, t2, x2, h1, h2, h3⟩ := ih _ _ _ _ _ _ e
        exact ⟨t1, x1, t2, x2, by simp only [getAt]; exact h1, h2, by simp only [setAt, h3]; exact h⟩
      · cases h
    · split at h
      · rename_i a' z e
        obtain ⟨t1, x1, t2, x2, h1, h2, h3⟩ := ih _ _ _ _ _ _ e
        exact ⟨t1, x1, t2, x2, by simp only [getAt]; exact h1, h2, by simp only [setAt, h3]; exact h⟩
      · cases h

theorem setAt_part : ∀ (p : Path) (t : Ty) (x : Val t) (u : Ty) (y : Val u) r, setAt t x p u y = some r →
    ∃ t' x', getAt t x p = some ⟨t', x'⟩ ∧ cells u = cells t' ∧ isAgg u = isAgg t' := by
  intro p t x u y r h
  obtain ⟨t1, x1, t2, x2, h1, h2, h3⟩ := setAt_append p [] t x u y r (by simpa using h)
  rw [setAt] at h2
  split at h2
  · rename_i hc; exact ⟨t1, x1, h1, hc.1.symm, hc.2.symm⟩
  · cases h2

inductive At (w : World) : (t : Ty) → (cs : List Value) → (loc : Option (Nat × Nat)) → Path → (t' : Ty) → (cs' : List Value) → (loc' : Option (Nat × Nat)) → Prop
  | plain {t cs loc p o t'} (h : offs t p = some (o, t')) : At w t cs loc p t' ((cs.drop o).take (cells t')) (loc.map fun q => (q.1, q.2 + o))
  | own {t cs loc p o e t1 b n cap cur i q t' cs' loc'} (h : offs t p = some (o, .ow e t1)) (hc : cs[o]? = some (.slice (some ⟨b, 0, none⟩) n cap))
      (hb : w.heap[b]? = some (.cells cur e (0, 0))) (hi : i < n)
      (hq : At w t1 ((cur.toList.drop (i * cells t1)).take (cells t1)) (some (b, i * cells t1)) q t' cs' loc') : At w t cs loc (p ++ .idx i :: q) t' cs' loc'

/-- What is known of a part at a place. -/
def Focus (w : World) (S : Nat → Prop) (t : Ty) (cs : List Value) (loc : Option (Nat × Nat)) (p : Path) (t' : Ty) (cs' : List Value) (loc' : Option (Nat × Nat)) (x : Val t) (F : List Nat) : Prop :=
  ∃ x' F1 F' F2, getAt t x p = some ⟨t', x'⟩ ∧ F = F1 ++ F' ++ F2 ∧ R w S t' x' cs' F' ∧
    ((∃ o, offs t p = some (o, t') ∧ loc' = loc.map (fun q => (q.1, q.2 + o)) ∧ cs' = (cs.drop o).take (cells t') ∧
        ∀ w2 S2 u y cs'' F'' tn xn, setAt t x p u y = some ⟨tn, xn⟩ → R w2 S2 u y cs'' F'' → (∀ b, S b → S2 b ∧ w2.heap[b]? = w.heap[b]?) →
          (∀ b ∈ F1 ++ F2, w2.heap[b]? = w.heap[b]?) → R w2 S2 tn xn (cs.take o ++ cs'' ++ cs.drop (o + cells t')) (F1 ++ F'' ++ F2)) ∨
     (∃ b o cur e, loc' = some (b, o) ∧ b ∈ F1 ∧ w.heap[b]? = some (.cells cur e (0, 0)) ∧ cs' = (cur.toList.drop o).take (cells t') ∧ o + cells t' ≤ cur.size ∧
        ∀ w2 S2 u y cs'' F'' tn xn, setAt t x p u y = some ⟨tn, xn⟩ → R w2 S2 u y cs'' F'' → (∀ b, S b → S2 b ∧ w2.heap[b]? = w.heap[b]?) →
          (∀ c ∈ F1 ++ F2, c ≠ b → w2.heap[c]? = w.heap[c]?) →
          w2.heap[b]? = some (.cells (cur.toList.take o ++ cs'' ++ cur.toList.drop (o + cells t')).toArray e (0, 0)) → R w2 S2 tn xn cs (F1 ++ F'' ++ F2)))

theorem drop_take_take {α : Type} (L : List α) (a m K : Nat) (h : a + m ≤ K) : ((L.take K).drop a).take m = (L.drop a).take m := by
  rw [List.drop_take, List.take_take, Nat.min_eq_left (by omega)]

theorem splice_row {α : Type} (L : List α) (A o k m K : Nat) (ys : List α) (h1 : o + k ≤ m) (h2 : A + m ≤ K) (h3 : K ≤ L.length) (hy : ys.length = k) :
    (L.take (A + o) ++ ys ++ L.drop (A + o + k)).take K =
      (L.take K).take A ++ (List.take o ((L.drop A).take m) ++ ys ++ List.drop (o + k) ((L.drop A).take m)) ++ (L.take K).drop (A + m) := by
  have e1 := splice3 (L.take K) A o k m ys h1 (by rw [List.length_take]; omega)
  rw [drop_take_take L A m K h2] at e1
  rw [← e1]
  rw [List.take_append, List.take_append, List.take_take, List.take_take]
  rw [show (List.take (A + o) L ++ ys).length = A + o + k by simp [hy]; omega, show (List.take (A + o) L).length = A + o by simp; omega]
  rw [Nat.min_comm K, List.take_of_length_le (l := ys) (by omega), List.drop_take]

theorem At_focus {w : World} {S : Nat → Prop} {t cs loc p t' cs' loc'} (h : At w t cs loc p t' cs' loc') : ∀ (x : Val t) F, R w S t x cs F → F.Nodup → Focus w S t cs loc p t' cs' loc' x F := by
  induction h with
  | plain h =>
    intro x F hr hn
    obtain ⟨x', F1, F', F2, h1, h2, h3, h4⟩ := plain _ _ x _ _ _ _ hr h
    exact ⟨x', F1, F', F2, h1, h2, h3, .inl ⟨_, h, rfl, rfl, h4⟩⟩
  | @own t cs loc p o e t1 b n cap cur i q t' cs' loc' h hc hb hi hq ih =>
    intro x F hr hn
    obtain ⟨x1, G1, G', G2, g1, rfl, g3, g4⟩ := plain _ _ x _ _ _ _ hr h
    have hhead : (cs.drop o).take (cells (.ow e t1)) = [.slice (some ⟨b, 0, none⟩) n cap] := by
      have ho : o < cs.length := (List.getElem?_eq_some_iff.1 hc).1
      rw [List.drop_eq_getElem_cons ho]
      have : cs[o] = .slice (some ⟨b, 0, none⟩) n cap := (List.getElem?_eq_some_iff.1 hc).2
      rw [this]; rfl
    rcases g3 with ⟨_, g3, _⟩ | ⟨b', cap', cur', H, g3, rfl, k1, k2, k3, k4, k5⟩
    · rw [hhead] at g3; simp at g3
    rw [hhead] at g3
    simp only [List.cons.injEq, Value.slice.injEq, Option.some.injEq, Addr.mk.injEq, and_true] at g3
    obtain ⟨rfl, rfl, rfl⟩ := g3
    rw [hb] at k1
    simp only [Option.some.injEq, Obj.cells.injEq, and_true] at k1
    obtain rfl := k1
    have hN : (b :: H).Nodup := by
      have := (List.nodup_append.1 (List.nodup_append.1 hn).1).2.1
      exact this
    have hHn := (List.nodup_cons.1 hN).2
    have hbH := (List.nodup_cons.1 hN).1
    have hK : (i + 1) * cells t1 ≤ List.length (α := Val t1) x1 * cells t1 := Nat.mul_le_mul_right _ hi
    rw [Nat.succ_mul] at hK
    have hK2 : List.length (α := Val t1) x1 * cells t1 ≤ cur.size := by rw [k4]; exact Nat.mul_le_mul_right _ k2
    obtain ⟨H1, H', H2, rfl, r1, r2⟩ := Rl_at (R_len (w := w) (S := S) t1) (dflt t1) x1 _ _ k5 i hi
    rw [drop_take_take _ _ _ _ hK] at r1
    have hH'n : H'.Nodup := (List.nodup_append.1 (List.nodup_append.1 hHn).1).2.1
    obtain ⟨x', I1, I', I2, i1, rfl, i3, i4⟩ := ih _ _ r1 hH'n
    refine ⟨x', G1 ++ b :: H1 ++ I1, I', I2 ++ H2 ++ G2, ?_, by simp, i3, .inr ?_⟩
    · rw [getAt_append _ _ _ _ _ _ g1]; simp only [getAt]; exact i1
    rcases i4 with ⟨o2, j1, rfl, j3, j4⟩ | ⟨b2, o2, cur2, e2, rfl, j2, j3, j4, j5, j6⟩
    · have ho2 := offs_le _ _ _ _ j1
      refine ⟨b, i * cells t1 + o2, cur, e, rfl, by simp, hb, ?_, by omega, ?_⟩
      · rw [j3, List.drop_take, List.take_take, List.drop_drop, Nat.min_eq_left (by omega)]
      · intro w2 S2 u y cs'' F'' tn xn hs hu hS hF hb2
        obtain ⟨t1', x1', t2, x2, s1, s2, s3⟩ := setAt_append _ _ _ _ _ _ _ hs
        rw [g1] at s1
        simp only [Option.some.injEq, Sigma.mk.injEq] at s1
        obtain ⟨rfl, s1⟩ := s1
        obtain rfl := eq_of_heq s1
        simp only [setAt] at s2
        split at s2
        · rename_i t3 z e3
          split at s2
          · rename_i ht3
            subst ht3
            simp only [Option.some.injEq, Sigma.mk.injEq] at s2
            obtain ⟨rfl, s2⟩ := s2
            obtain rfl := eq_of_heq s2
            have hcu : cs''.length = cells t' := by
              obtain ⟨t4, x4, a1, a2, _⟩ := setAt_part _ _ _ _ _ _ e3
              rw [i1] at a1
              simp only [Option.some.injEq, Sigma.mk.injEq] at a1
              obtain ⟨rfl, _⟩ := a1
              rw [R_len _ _ _ _ hu, a2]
            have q1 := j4 w2 S2 u y cs'' F'' _ _ e3 hu hS (fun c hc' => hF c (by simp at hc' ⊢; rcases hc' with h | h <;> simp [h]) (fun hcb => hbH (by subst hcb; simp at hc' ⊢; rcases hc' with h | h <;> simp [h])))
            have q2 := r2 (R w2 S2 t3) z _ _ (fun x cs F hF' hr' => R_frame hS t3 x cs F (fun c hc' => hF c (by have := hF' c hc'; simp at this ⊢; rcases this with h | h <;> simp [h]) (fun hcb => hbH (by subst hcb; have := hF' _ hc'; simp at this ⊢; rcases this with h | h <;> simp [h]))) hr') q1
            have q3 : R w2 S2 (.ow e t3) (List.set (α := Val t3) x1 i z) [.slice (some ⟨b, 0, none⟩) (List.length (α := Val t3) x1) cap] (b :: (H1 ++ (I1 ++ F'' ++ I2) ++ H2)) := by
              refine .inr ⟨b, cap, _, _, by rw [List.length_set], rfl, hb2, by rw [List.length_set]; exact k2, k3, ?_, ?_⟩
              · simp only [List.size_toArray, List.length_append, List.length_take, List.length_drop, Array.length_toList, hcu]
                omega
              · rw [List.length_set, List.toList_toArray, splice_row cur.toList (i * cells t3) o2 (cells t') (cells t3) _ cs'' ho2 hK (by simpa using hK2) hcu]
                exact q2
            have q4 := g4 w2 S2 _ _ _ _ _ _ s3 q3 hS (fun c hc' => hF c (by simp at hc' ⊢; rcases hc' with h | h <;> simp [h]) (fun hcb => by
              subst hcb
              rw [List.nodup_append] at hn
              rcases List.mem_append.1 hc' with h | h
              · exact (List.nodup_append.1 hn.1).2.2 _ h _ (by simp) rfl
              · exact hn.2.2 _ (by simp) _ h rfl))
            have e5 : cs.take o ++ [Value.slice (some ⟨b, 0, none⟩) (List.length (α := Val t3) x1) cap] ++ cs.drop (o + cells (.ow e t3)) = cs := by
              rw [← hhead]
              show cs.take o ++ (cs.drop o).take 1 ++ cs.drop (o + 1) = cs
              rw [← List.drop_drop, List.append_assoc, List.take_append_drop, List.take_append_drop]
            rw [e5] at q4
            simpa using q4
          · cases s2
        · cases s2
    · have hbb : b ≠ b2 := fun hcb => hbH (by subst hcb; simp [j2])
      refine ⟨b2, o2, cur2, e2, rfl, by simp [j2], j3, j4, j5, ?_⟩
      intro w2 S2 u y cs'' F'' tn xn hs hu hS hF hb2
      obtain ⟨t1', x1', t2, x2, s1, s2, s3⟩ := setAt_append _ _ _ _ _ _ _ hs
      rw [g1] at s1
      simp only [Option.some.injEq, Sigma.mk.injEq] at s1
      obtain ⟨rfl, s1⟩ := s1
      obtain rfl := eq_of_heq s1
      simp only [setAt] at s2
      split at s2
      · rename_i t3 z e3
        split at s2
        · rename_i ht3
          subst ht3
          simp only [Option.some.injEq, Sigma.mk.injEq] at s2
          obtain ⟨rfl, s2⟩ := s2
          obtain rfl := eq_of_heq s2
          have hHb : ∀ c, c ∈ H1 ++ (I1 ++ I' ++ I2) ++ H2 → c ≠ b := fun c hc' hcb => hbH (by rw [← hcb]; exact hc')
          have q1 := j6 w2 S2 u y cs'' F'' _ _ e3 hu hS (fun c hc' hne => hF c (by simp at hc' ⊢; rcases hc' with h | h <;> simp [h]) hne) hb2
          have hnb2 : ∀ c, c ∈ H1 ++ H2 → c ≠ b2 := by
            intro c hc' hcb
            subst hcb
            rw [List.nodup_append] at hHn
            rcases List.mem_append.1 hc' with h | h
            · exact (List.nodup_append.1 hHn.1).2.2 _ h _ (by simp [j2]) rfl
            · exact hHn.2.2 _ (by simp [j2]) _ h rfl
          have q2 := r2 (R w2 S2 t3) z _ _ (fun x cs F hF' hr' => R_frame hS t3 x cs F (fun c hc' => hF c (by have := hF' c hc'; simp at this ⊢; rcases this with h | h <;> simp [h]) (hnb2 c (hF' c hc'))) hr') q1
          have e4 : (List.take (List.length (α := Val t3) x1 * cells t3) cur.toList).take (i * cells t3) ++ List.take (cells t3) (List.drop (i * cells t3) cur.toList) ++ (List.take (List.length (α := Val t3) x1 * cells t3) cur.toList).drop (i * cells t3 + cells t3) = List.take (List.length (α := Val t3) x1 * cells t3) cur.toList := by
            rw [← drop_take_take cur.toList (i * cells t3) (cells t3) _ hK, ← List.drop_drop, List.append_assoc, List.take_append_drop, List.take_append_drop]
          rw [e4] at q2
          have q3 : R w2 S2 (.ow e t3) (List.set (α := Val t3) x1 i z) [.slice (some ⟨b, 0, none⟩) (List.length (α := Val t3) x1) cap] (b :: (H1 ++ (I1 ++ F'' ++ I2) ++ H2)) :=
            .inr ⟨b, cap, cur, _, by rw [List.length_set], rfl, by rw [hF b (by simp) hbb]; exact hb, by rw [List.length_set]; exact k2, k3, k4, by rw [List.length_set]; exact q2⟩
          have q4 := g4 w2 S2 _ _ _ _ _ _ s3 q3 hS (fun c hc' => hF c (by simp at hc' ⊢; rcases hc' with h | h <;> simp [h]) (fun hcb => by
            subst hcb
            rw [List.nodup_append] at hn
            rcases List.mem_append.1 hc' with h | h
            · exact (List.nodup_append.1 hn.1).2.2 _ h _ (by simp [j2]) rfl
            · exact hn.2.2 _ (by simp [j2]) _ h rfl))
          have e5 : cs.take o ++ [Value.slice (some ⟨b, 0, none⟩) (List.length (α := Val t3) x1) cap] ++ cs.drop (o + cells (.ow e t3)) = cs := by
            rw [← hhead]
            show cs.take o ++ (cs.drop o).take 1 ++ cs.drop (o + 1) = cs
            rw [← List.drop_drop, List.append_assoc, List.take_append_drop, List.take_append_drop]
          rw [e5] at q4
          simpa using q4
        · cases s2
      · cases s2

end Go.Am
/- Am, part 5: places that live on: where memory changes elsewhere; where another part of the same tree is written. -/
set_option linter.unusedVariables false
set_option linter.unusedSimpArgs false
namespace Go.Am

theorem offs_append : ∀ (p q : Path) (t : Ty) o t1 o2 t2, offs t p = some (o, t1) → offs t1 q = some (o2, t2) → offs t (p ++ q) = some (o + o2, t2) := by
  intro p
  induction p with
  | nil => intro q t o t1 o2 t2 h h2; simp [offs] at h; obtain ⟨rfl, rfl⟩ := h; simpa using h2
  | cons s p ih =>
    intro q t o t1 o2 t2 h h2
    cases t <;> cases s <;> simp [offs] at h
    · rw [List.cons_append, offs]; exact ih _ _ _ _ _ _ h h2
    · obtain ⟨a, h, rfl⟩ := h
      rw [List.cons_append, offs, ih _ _ _ _ _ _ h h2]; simp [Nat.add_assoc]
    · obtain ⟨hi, a, h, rfl⟩ := h
      rw [List.cons_append, offs, if_pos hi, ih _ _ _ _ _ _ h h2]; simp [Nat.add_assoc]

theorem At_ext {w : World} {t cs loc p t1 cs1 loc1} (h : At w t cs loc p t1 cs1 loc1) : ∀ {q t2 cs2 loc2}, At w t1 cs1 loc1 q t2 cs2 loc2 → At w t cs loc (p ++ q) t2 cs2 loc2 := by
  induction h with
  | @plain t cs loc p o t' h =>
    intro q t2 cs2 loc2 hq
    cases hq with
    | @plain _ _ _ _ o2 _ h2 =>
      have := At.plain (w := w) (cs := cs) (loc := loc) (offs_append _ _ _ _ _ _ _ h h2)
      have hle := offs_le _ _ _ _ h2
      rw [List.drop_take, List.take_take, List.drop_drop, Nat.min_eq_left (by omega)]
      rw [show (loc.map fun q => (q.1, q.2 + o)).map (fun q => (q.1, q.2 + o2)) = loc.map fun q => (q.1, q.2 + (o + o2)) by cases loc <;> simp [Nat.add_assoc]]
      exact this
    | @own _ _ _ p2 o2 e t3 b n cap cur i q2 _ _ _ h2 hc hb hi hq2 =>
      rw [← List.append_assoc]
      refine At.own (cap := cap) (offs_append _ _ _ _ _ _ _ h h2) ?_ hb hi hq2
      rw [List.getElem?_take] at hc
      split at hc
      · rw [List.getElem?_drop] at hc; exact hc
      · cases hc
  | own h hc hb hi hq ih =>
    intro q t2 cs2 loc2 h2
    rw [List.append_assoc, List.cons_append]
    exact At.own h hc hb hi (ih h2)

/-- What stands behind the head of an owned row that is met on the way. -/
theorem own_open {w : World} {S : Nat → Prop} {t : Ty} {x : Val t} {cs F} {p : Path} {o : Nat} {e : TypeId} {t1 : Ty} {b n cap : Nat} {cur : Array Value}
    (hr : R w S t x cs F) (h : offs t p = some (o, .ow e t1)) (hc : cs[o]? = some (.slice (some ⟨b, 0, none⟩) n cap)) (hb : w.heap[b]? = some (.cells cur e (0, 0))) :
    ∃ x1 G1 H G2, getAt t x p = some ⟨.ow e t1, x1⟩ ∧ F = G1 ++ (b :: H) ++ G2 ∧ n = List.length (α := Val t1) x1 ∧ n ≤ cap ∧ cap ≤ maxLen ∧ cur.size = cap * cells t1 ∧
      Rl (R w S t1) x1 (cur.toList.take (n * cells t1)) H := by
  obtain ⟨x1, G1, G', G2, g1, rfl, g3, g4⟩ := plain _ _ x _ _ _ _ hr h
  have hhead : (cs.drop o).take (cells (.ow e t1)) = [.slice (some ⟨b, 0, none⟩) n cap] := by
    have ho : o < cs.length := (List.getElem?_eq_some_iff.1 hc).1
    rw [List.drop_eq_getElem_cons ho]
    have : cs[o] = .slice (some ⟨b, 0, none⟩) n cap := (List.getElem?_eq_some_iff.1 hc).2
    rw [this]; rfl
  rcases g3 with ⟨_, g3, _⟩ | ⟨b', cap', cur', H, g3, rfl, k1, k2, k3, k4, k5⟩
  · rw [hhead] at g3; simp at g3
  rw [hhead] at g3
  simp only [List.cons.injEq, Value.slice.injEq, Option.some.injEq, Addr.mk.injEq, and_true] at g3
  obtain ⟨rfl, rfl, rfl⟩ := g3
  rw [hb] at k1
  simp only [Option.some.injEq, Obj.cells.injEq, and_true] at k1
  obtain rfl := k1
  exact ⟨x1, G1, H, G2, g1, by simp, rfl, k2, k3, k4, k5⟩

/-- One element of it. -/
theorem own_elem {w : World} {S : Nat → Prop} {t1 : Ty} {x1 : List (Val t1)} {cur : Array Value} {H : List Nat} (hl : Rl (R w S t1) x1 (cur.toList.take (x1.length * cells t1)) H) {i : Nat} (hi : i < x1.length) :
    ∃ H1 H' H2, H = H1 ++ H' ++ H2 ∧ R w S t1 (x1.getD i (dflt t1)) ((cur.toList.drop (i * cells t1)).take (cells t1)) H' := by
  have hK : (i + 1) * cells t1 ≤ x1.length * cells t1 := Nat.mul_le_mul_right _ hi
  rw [Nat.succ_mul] at hK
  obtain ⟨H1, H', H2, rfl, r1, r2⟩ := Rl_at (R_len (w := w) (S := S) t1) (dflt t1) x1 _ _ hl i hi
  rw [drop_take_take _ _ _ _ hK] at r1
  exact ⟨H1, H', H2, rfl, r1⟩

theorem At_frame {w w' : World} {S : Nat → Prop} {t cs loc p t' cs' loc'} (h : At w t cs loc p t' cs' loc') :
    ∀ (x : Val t) F, R w S t x cs F → (∀ b ∈ F, w'.heap[b]? = w.heap[b]?) → At w' t cs loc p t' cs' loc' := by
  induction h with
  | plain h => intro x F _ _; exact .plain h
  | own h hc hb hi hq ih =>
    intro x F hr hF
    obtain ⟨x1, G1, H, G2, g1, rfl, rfl, k2, k3, k4, k5⟩ := own_open hr h hc hb
    obtain ⟨H1, H', H2, rfl, r1⟩ := own_elem k5 hi
    exact .own h hc (by rw [hF _ (by simp)]; exact hb) hi (ih _ _ r1 fun b hb => hF b (by simp [hb]))

theorem offs_noOwn : ∀ (p : Path) (t : Ty) o t', offs t p = some (o, t') → noOwn t = true → noOwn t' = true := by
  intro p
  induction p with
  | nil => intro t o t' h hn; simp [offs] at h; obtain ⟨rfl, rfl⟩ := h; exact hn
  | cons s p ih =>
    intro t o t' h hn
    cases t <;> cases s <;> simp [offs] at h
    · simp [noOwn] at hn; exact ih _ _ _ h hn.1
    · simp [noOwn] at hn; obtain ⟨a, h, rfl⟩ := h; exact ih _ _ _ h hn.2
    · obtain ⟨hi, a, h, rfl⟩ := h; exact ih _ _ _ h (by simpa [noOwn] using hn)

/-- Two plain parts, the second not within the first: how they lie; and where the first is another one. -/
theorem offs_other : ∀ (p q : Path) (t : Ty) (x : Val t) o t' oq tq u y tn xn, offs t p = some (o, t') → offs t q = some (oq, tq) → setAt t x p u y = some ⟨tn, xn⟩ →
    (shapePre p q = false ∨ (noOwn t' = true ∧ u = t')) →
    ∃ tq', offs tn q = some (oq, tq') ∧ (∀ e t1, tq = .ow e t1 → tq' = tq ∧ (oq + 1 ≤ o ∨ o + cells t' ≤ oq)) := by
  intro p
  induction p with
  | nil =>
    intro q t x o t' oq tq u y tn xn hp hq hs hor
    simp [offs] at hp
    obtain ⟨rfl, rfl⟩ := hp
    rcases hor with hor | ⟨hn, rfl⟩
    · simp [shapePre] at hor
    · rw [setAt] at hs
      split at hs
      · simp at hs
        obtain ⟨rfl, hs⟩ := hs
        refine ⟨tq, hq, fun e t1 he => ?_⟩
        have := offs_noOwn _ _ _ _ hq hn
        rw [he] at this; simp [noOwn] at this
      · cases hs
  | cons s p ih =>
    intro q t x o t' oq tq u y tn xn hp hq hs hor
    cases q with
    | nil =>
      simp [offs] at hq
      obtain ⟨rfl, rfl⟩ := hq
      refine ⟨tn, by simp [offs], fun e t1 he => ?_⟩
      subst he
      cases s <;> simp [offs] at hp
    | cons r q =>
      cases t <;> cases s <;> simp [offs] at hp
      · -- fst
        simp only [setAt] at hs
        split at hs
        · rename_i a' z e
          simp at hs
          obtain ⟨rfl, _⟩ := hs
          cases r <;> simp [offs] at hq
          · obtain ⟨tq', h1, h2⟩ := ih _ _ _ _ _ _ _ _ _ _ _ hp hq e (by simpa [shapePre] using hor)
            exact ⟨tq', by rw [offs]; exact h1, h2⟩
          · obtain ⟨a1, hq, rfl⟩ := hq
            have := offs_le _ _ _ _ hp
            have hc := (setAt_cells _ _ _ _ _ _ _ e).1
            exact ⟨tq, by rw [offs, hq, hc]; rfl, fun e t1 he => ⟨rfl, by omega⟩⟩
        · cases hs
      · -- snd
        obtain ⟨a1, hp, rfl⟩ := hp
        simp only [setAt] at hs
        split at hs
        · rename_i a' z e
          simp at hs
          obtain ⟨rfl, _⟩ := hs
          cases r <;> simp [offs] at hq
          · have := offs_le _ _ _ _ hq
            refine ⟨tq, by rw [offs]; exact hq, fun e t1 he => ⟨rfl, ?_⟩⟩
            subst he; simp only [cells] at this; omega
          · obtain ⟨a2, hq, rfl⟩ := hq
            obtain ⟨tq', h1, h2⟩ := ih _ _ _ _ _ _ _ _ _ _ _ hp hq e (by simpa [shapePre] using hor)
            exact ⟨tq', by rw [offs, h1]; rfl, fun e t1 he => ⟨(h2 e t1 he).1, by have := (h2 e t1 he).2; omega⟩⟩
        · cases hs
      · -- arr
        rename_i n t i
        obtain ⟨hi, a1, hp, rfl⟩ := hp
        simp only [setAt] at hs
        split at hs
        · rename_i a' z e
          split at hs
          · rename_i ht
            subst ht
            simp at hs
            obtain ⟨rfl, _⟩ := hs
            cases r <;> simp [offs] at hq
            rename_i j
            obtain ⟨hj, a2, hq, rfl⟩ := hq
            obtain ⟨tq', h1, h2⟩ := ih _ _ _ _ _ _ _ _ _ _ _ hp hq e (by simpa [shapePre] using hor)
            have l1 := offs_le _ _ _ _ hp
            have l2 := offs_le _ _ _ _ hq
            refine ⟨tq', by rw [offs, if_pos hj, h1]; rfl, fun e t1 he => ⟨(h2 e t1 he).1, ?_⟩⟩
            have := (h2 e t1 he).2
            subst he
            simp only [cells] at l2
            rcases Nat.lt_trichotomy i j with hij | hij | hij
            · have : (i + 1) * cells a' ≤ j * cells a' := Nat.mul_le_mul_right _ hij
              rw [Nat.succ_mul] at this; omega
            · subst hij; omega
            · have : (j + 1) * cells a' ≤ i * cells a' := Nat.mul_le_mul_right _ hij
              rw [Nat.succ_mul] at this; omega
          · cases hs
        · cases hs

theorem setAt_same : ∀ (p : Path) (t : Ty) (x : Val t) t' x' y tn xn, getAt t x p = some ⟨t', x'⟩ → setAt t x p t' y = some ⟨tn, xn⟩ → tn = t := by
  intro p
  induction p with
  | nil =>
    intro t x t' x' y tn xn h hs
    rw [getAt] at h; simp at h; obtain ⟨rfl, _⟩ := h
    rw [setAt] at hs
    split at hs
    · simp at hs; exact hs.1.symm
    · cases hs
  | cons s p ih =>
    intro t x t' x' y tn xn h hs
    cases t <;> cases s <;> simp only [getAt, setAt] at h hs <;> first | (exact absurd h (by intro h; cases h)) | skip
    · split at hs
      · rename_i a' z e; simp at hs; obtain ⟨rfl, _⟩ := hs; rw [ih _ _ _ _ _ _ _ h e]
      · cases hs
    · split at hs
      · rename_i a' z e; simp at hs; obtain ⟨rfl, _⟩ := hs; rw [ih _ _ _ _ _ _ _ h e]
      · cases hs
    · split at hs
      · split at hs
        · simp at hs; exact hs.1.symm
        · cases hs
      · cases hs
    · split at hs
      · split at hs
        · simp at hs; exact hs.1.symm
        · cases hs
      · cases hs

theorem offs_through : ∀ (p q : Path) (t : Ty) o t1, offs t p = some (o, t1) → offs t1 q = none → offs t (p ++ q) = none := by
  intro p
  induction p with
  | nil => intro q t o t1 h h2; simp [offs] at h; obtain ⟨rfl, rfl⟩ := h; exact h2
  | cons s p ih =>
    intro q t o t1 h h2
    cases t <;> cases s <;> simp [offs] at h
    · rw [List.cons_append, offs]; exact ih _ _ _ _ h h2
    · obtain ⟨a, h, rfl⟩ := h
      rw [List.cons_append, offs, ih _ _ _ _ h h2]; rfl
    · obtain ⟨hi, a, h, rfl⟩ := h
      rw [List.cons_append, offs, if_pos hi, ih _ _ _ _ h h2]; rfl

theorem shapePre_append (p : Path) : ∀ (q r : Path), shapePre (p ++ q) (p ++ r) = shapePre q r := by
  induction p with
  | nil => intro q r; rfl
  | cons s p ih => intro q r; cases s <;> (rw [List.cons_append, List.cons_append, shapePre]; exact ih q r)

/-- Two elements of a row: their parts of F are apart. -/
theorem Rl_two {α : Type} {P : α → List Value → List Nat → Prop} {m : Nat} (hlen : ∀ x cs F, P x cs F → cs.length = m) (d : α) (l : List α) : ∀ cs F, Rl P l cs F → F.Nodup →
    ∀ i j, i < l.length → j < l.length → i ≠ j → ∃ Fi Fj, P (l.getD i d) ((cs.drop (i * m)).take m) Fi ∧ P (l.getD j d) ((cs.drop (j * m)).take m) Fj ∧
      (∀ b ∈ Fi, b ∈ F) ∧ (∀ b ∈ Fj, b ∈ F) ∧ (∀ b ∈ Fi, b ∉ Fj) ∧ Fi.Nodup ∧ Fj.Nodup := by
  induction l with
  | nil => intro _ _ _ _ i j hi; simp at hi
  | cons x l ih =>
    rintro _ _ ⟨c1, c2, F1, F2, rfl, rfl, hx, hl⟩ hn i j hi hj hij
    have h1 := hlen _ _ _ hx
    rw [List.nodup_append] at hn
    have hz : ∀ (i : Nat), ((c1 ++ c2).drop ((i + 1) * m)).take m = (c2.drop (i * m)).take m := by
      intro i; rw [Nat.succ_mul, Nat.add_comm, ← h1, List.drop_length_add_append]
    have hsub : ∀ G', (∃ G1 G2, F2 = G1 ++ G' ++ G2) → G'.Nodup := fun G' ⟨G1, G2, e⟩ => by
      have := hn.2.1; rw [e] at this; exact (List.nodup_append.1 (List.nodup_append.1 this).1).2.1
    cases i with
    | zero =>
      cases j with
      | zero => exact absurd rfl hij
      | succ j =>
        obtain ⟨G1, G', G2, e, hp, _⟩ := Rl_at hlen d l c2 F2 hl j (by simpa using hj)
        refine ⟨F1, G', by simpa [← h1] using hx, by rw [hz]; simpa using hp, fun b hb => by simp [hb], fun b hb => by simp [e, hb], fun b hb hb' => hn.2.2 b hb b (by simp [e, hb']) rfl, hn.1, hsub _ ⟨G1, G2, e⟩⟩
    | succ i =>
      cases j with
      | zero =>
        obtain ⟨G1, G', G2, e, hp, _⟩ := Rl_at hlen d l c2 F2 hl i (by simpa using hi)
        refine ⟨G', F1, by rw [hz]; simpa using hp, by simpa [← h1] using hx, fun b hb => by simp [e, hb], fun b hb => by simp [hb], fun b hb hb' => hn.2.2 b hb' b (by simp [e, hb]) rfl, hsub _ ⟨G1, G2, e⟩, hn.1⟩
      | succ j =>
        obtain ⟨Fi, Fj, a1, a2, a3, a4, a5, a6, a7⟩ := ih c2 F2 hl hn.2.1 i j (by simpa using hi) (by simpa using hj) (by omega)
        exact ⟨Fi, Fj, by rw [hz]; simpa using a1, by rw [hz]; simpa using a2, fun b hb => by simp [a3 b hb], fun b hb => by simp [a4 b hb], a5, a6, a7⟩

/-- Two owned rows at plain places: one and the same, or apart. -/
theorem plain_two {w : World} {S : Nat → Prop} : ∀ (p q : Path) (t : Ty) (x : Val t) cs F o e t1 oq eq tq, R w S t x cs F → F.Nodup → offs t p = some (o, .ow e t1) → offs t q = some (oq, .ow eq tq) →
    p = q ∨ ∃ x1 x2 Fp Fq, R w S (.ow e t1) x1 ((cs.drop o).take 1) Fp ∧ R w S (.ow eq tq) x2 ((cs.drop oq).take 1) Fq ∧ (∀ b ∈ Fp, b ∈ F) ∧ (∀ b ∈ Fq, b ∈ F) ∧ (∀ b ∈ Fp, b ∉ Fq) := by
  intro p
  induction p with
  | nil =>
    intro q t x cs F o e t1 oq eq tq hr hn hp hq
    simp [offs] at hp
    obtain ⟨rfl, rfl⟩ := hp
    cases q with
    | nil => exact .inl rfl
    | cons s q => cases s <;> simp [offs] at hq
  | cons s p ih =>
    intro q t x cs F o e t1 oq eq tq hr hn hp hq
    cases q with
    | nil =>
      simp [offs] at hq
      obtain ⟨rfl, rfl⟩ := hq
      cases s <;> simp [offs] at hp
    | cons r q =>
      cases t <;> cases s <;> simp [offs] at hp <;> cases r <;> simp [offs] at hq
      · -- fst fst
        obtain ⟨c1, c2, F1, F2, rfl, rfl, h1, h2⟩ := hr
        have l1 := R_len _ _ _ _ h1
        have o1 := offs_le _ _ _ _ hp
        have o2 := offs_le _ _ _ _ hq
        simp only [cells] at o1 o2
        rcases ih _ _ _ _ _ _ _ _ _ _ _ h1 (List.nodup_append.1 hn).1 hp hq with rfl | ⟨x1, x2, Fp, Fq, a1, a2, a3, a4, a5⟩
        · exact .inl rfl
        · refine .inr ⟨x1, x2, Fp, Fq, ?_, ?_, fun b hb => by simp [a3 b hb], fun b hb => by simp [a4 b hb], a5⟩
          · rw [List.drop_append_of_le_length (by omega), List.take_append_of_le_length (by rw [List.length_drop]; omega)]; exact a1
          · rw [List.drop_append_of_le_length (by omega), List.take_append_of_le_length (by rw [List.length_drop]; omega)]; exact a2
      · -- fst snd
        obtain ⟨c1, c2, F1, F2, rfl, rfl, h1, h2⟩ := hr
        obtain ⟨a, hq, rfl⟩ := hq
        have l1 := R_len _ _ _ _ h1
        have o1 := offs_le _ _ _ _ hp
        simp only [cells] at o1
        obtain ⟨y1, A1, A', A2, _, rfl, b1, _⟩ := plain _ _ _ _ _ _ _ h1 hp
        obtain ⟨y2, B1, B', B2, _, rfl, b2, _⟩ := plain _ _ _ _ _ _ _ h2 hq
        refine .inr ⟨y1, y2, A', B', ?_, ?_, fun b hb => by simp [hb], fun b hb => by simp [hb], fun b hb hb' => ?_⟩
        · rw [List.drop_append_of_le_length (by omega), List.take_append_of_le_length (by rw [List.length_drop]; omega)]; exact b1
        · rw [← l1, List.drop_length_add_append]; exact b2
        · exact (List.nodup_append.1 hn).2.2 b (by simp [hb]) b (by simp [hb']) rfl
      · -- snd fst
        obtain ⟨c1, c2, F1, F2, rfl, rfl, h1, h2⟩ := hr
        obtain ⟨a, hp, rfl⟩ := hp
        have l1 := R_len _ _ _ _ h1
        have o1 := offs_le _ _ _ _ hq
        simp only [cells] at o1
        obtain ⟨y1, A1, A', A2, _, rfl, b1, _⟩ := plain _ _ _ _ _ _ _ h1 hq
        obtain ⟨y2, B1, B', B2, _, rfl, b2, _⟩ := plain _ _ _ _ _ _ _ h2 hp
        refine .inr ⟨y2, y1, B', A', ?_, ?_, fun b hb => by simp [hb], fun b hb => by simp [hb], fun b hb hb' => ?_⟩
        · rw [← l1, List.drop_length_add_append]; exact b2
        · rw [List.drop_append_of_le_length (by omega), List.take_append_of_le_length (by rw [List.length_drop]; omega)]; exact b1
        · exact (List.nodup_append.1 hn).2.2 b (by simp [hb']) b (by simp [hb]) rfl
      · -- snd snd
        obtain ⟨c1, c2, F1, F2, rfl, rfl, h1, h2⟩ := hr
        obtain ⟨a, hp, rfl⟩ := hp
        obtain ⟨a', hq, rfl⟩ := hq
        have l1 := R_len _ _ _ _ h1
        rcases ih _ _ _ _ _ _ _ _ _ _ _ h2 (List.nodup_append.1 hn).2.1 hp hq with rfl | ⟨x1, x2, Fp, Fq, a1, a2, a3, a4, a5⟩
        · exact .inl rfl
        · refine .inr ⟨x1, x2, Fp, Fq, ?_, ?_, fun b hb => by simp [a3 b hb], fun b hb => by simp [a4 b hb], a5⟩
          · rw [← l1, List.drop_length_add_append]; exact a1
          · rw [← l1, List.drop_length_add_append]; exact a2
      · -- arr
        rename_i n t i j
        obtain ⟨hi, a, hp, rfl⟩ := hp
        obtain ⟨hj, a', hq, rfl⟩ := hq
        obtain ⟨hlen, hl⟩ := hr
        have o1 := offs_le _ _ _ _ hp
        have o2 := offs_le _ _ _ _ hq
        simp only [cells] at o1 o2
        have take1 : ∀ (k a : Nat), a + 1 ≤ cells t → (((cs.drop (k * cells t)).take (cells t)).drop a).take 1 = (cs.drop (k * cells t + a)).take 1 := by
          intro k a h; rw [drop_take_take _ _ _ _ h, List.drop_drop]
        by_cases hij : i = j
        · subst hij
          obtain ⟨G1, G', G2, rfl, hxi, _⟩ := Rl_at (R_len (w := w) (S := S) t) (dflt t) x cs F hl i (by omega)
          rcases ih _ _ _ _ _ _ _ _ _ _ _ hxi (List.nodup_append.1 (List.nodup_append.1 hn).1).2.1 hp hq with rfl | ⟨x1, x2, Fp, Fq, a1, a2, a3, a4, a5⟩
          · exact .inl rfl
          · rw [take1 _ _ o1] at a1
            rw [take1 _ _ o2] at a2
            exact .inr ⟨x1, x2, Fp, Fq, a1, a2, fun b hb => by simp [a3 b hb], fun b hb => by simp [a4 b hb], a5⟩
        · obtain ⟨Fi, Fj, b1, b2, b3, b4, b5, b6, b7⟩ := Rl_two (R_len (w := w) (S := S) t) (dflt t) x cs F hl hn i j (by omega) (by omega) hij
          obtain ⟨y1, A1, A', A2, _, rfl, c1, _⟩ := plain _ _ _ _ _ _ _ b1 hp
          obtain ⟨y2, B1, B', B2, _, rfl, c2, _⟩ := plain _ _ _ _ _ _ _ b2 hq
          simp only [cells] at c1 c2
          rw [take1 _ _ o1] at c1
          rw [take1 _ _ o2] at c2
          exact .inr ⟨y1, y2, A', B', c1, c2, fun b hb => b3 b (by simp [hb]), fun b hb => b4 b (by simp [hb]), fun b hb hb' => b5 b (by simp [hb]) (by simp [hb'])⟩

end Go.Am
/- Am, part 6: what a store into a part of a tree leaves of the other places in it. -/
set_option linter.unusedVariables false
set_option linter.unusedSimpArgs false
namespace Go.Am

/-- How a store changed the world, for a tree: its plain cells; or one of its blocks. -/
def Stored (w w2 : World) (t : Ty) (cs : List Value) (p : Path) (t' : Ty) (loc' : Option (Nat × Nat)) (cs'' csn : List Value) (F : List Nat) : Prop :=
  (∃ o, offs t p = some (o, t') ∧ csn = cs.take o ++ cs'' ++ cs.drop (o + cells t') ∧ ∀ c ∈ F, w2.heap[c]? = w.heap[c]?) ∨
  (offs t p = none ∧ csn = cs ∧ ∃ b o cur e, loc' = some (b, o) ∧ w.heap[b]? = some (.cells cur e (0, 0)) ∧
    w2.heap[b]? = some (.cells (cur.toList.take o ++ cs'' ++ cur.toList.drop (o + cells t')).toArray e (0, 0)) ∧ ∀ c ∈ F, c ≠ b → w2.heap[c]? = w.heap[c]?)

theorem getElem?_splice {α : Type} (L : List α) (o k j : Nat) (ys : List α) (hy : ys.length = k) (ho : o + k ≤ L.length) (hj : j + 1 ≤ o ∨ o + k ≤ j) :
    (L.take o ++ ys ++ L.drop (o + k))[j]? = L[j]? := by
  rcases hj with hj | hj
  · rw [List.append_assoc, List.getElem?_append_left (by rw [List.length_take]; omega), List.getElem?_take, if_pos (by omega)]
  · rw [List.getElem?_append_right (by simp; omega), List.getElem?_drop]
    congr 1
    simp; omega

theorem block_in {w : World} {S : Nat → Prop} {t cs loc p t' cs' loc'} (h : At w t cs loc p t' cs' loc') : ∀ (x : Val t) F, R w S t x cs F → offs t p = none → ∃ b o, loc' = some (b, o) ∧ b ∈ F := by
  induction h with
  | plain h => intro x F _ hn; rw [h] at hn; cases hn
  | @own t cs loc p o e t1 b n cap cur i q t' cs' loc' h hc hb hi hq ih =>
    intro x F hr hn
    obtain ⟨x1, G1, H, G2, g1, rfl, rfl, k2, k3, k4, k5⟩ := own_open hr h hc hb
    obtain ⟨H1, H', H2, rfl, r1⟩ := own_elem k5 hi
    cases hq with
    | plain h2 => exact ⟨b, _, rfl, by simp⟩
    | @own _ _ _ p2 o2 e2 t2 b2 n2 cap2 cur2 i2 q2 _ _ _ h2 hc2 hb2 hi2 hq2 =>
      have hno : offs t1 (p2 ++ .idx i2 :: q2) = none := offs_through _ _ _ _ _ h2 rfl
      obtain ⟨b', o', e', hm⟩ := ih _ _ r1 hno
      exact ⟨b', o', e', by simp [hm]⟩

theorem ow_open {w : World} {S : Nat → Prop} {e e' : TypeId} {t1 : Ty} {y : Val (.ow e t1)} {cs1 : List Value} {F : List Nat} {b n cap : Nat} {cur : Array Value}
    (hr : R w S (.ow e t1) y cs1 F) (hc : cs1 = [.slice (some ⟨b, 0, none⟩) n cap]) (hb : w.heap[b]? = some (.cells cur e' (0, 0))) :
    ∃ H, F = b :: H ∧ n = List.length (α := Val t1) y ∧ n ≤ cap ∧ cap ≤ maxLen ∧ cur.size = cap * cells t1 ∧ e' = e ∧ Rl (R w S t1) y (cur.toList.take (n * cells t1)) H := by
  subst hc
  rcases hr with ⟨_, g3, _⟩ | ⟨b', cap', cur', H, g3, rfl, k1, k2, k3, k4, k5⟩
  · simp at g3
  simp only [List.cons.injEq, Value.slice.injEq, Option.some.injEq, Addr.mk.injEq, and_true] at g3
  obtain ⟨rfl, rfl, rfl⟩ := g3
  rw [hb] at k1
  simp only [Option.some.injEq, Obj.cells.injEq, and_true] at k1
  obtain ⟨rfl, rfl⟩ := k1
  exact ⟨H, rfl, rfl, k2, k3, k4, rfl, k5⟩

theorem head_at {cs : List Value} {o : Nat} {v : Value} (hc : cs[o]? = some v) : (cs.drop o).take 1 = [v] := by
  have ho : o < cs.length := (List.getElem?_eq_some_iff.1 hc).1
  rw [List.drop_eq_getElem_cons ho]
  have : cs[o] = v := (List.getElem?_eq_some_iff.1 hc).2
  rw [this]; rfl

/-- The block that a place behind an owned row's element lies in. -/
theorem block_of {w : World} {S : Nat → Prop} {t1 : Ty} {cs b o p t' cs' bb oo} (h : At w t1 cs (some (b, o)) p t' cs' (some (bb, oo))) {x : Val t1} {F} (hr : R w S t1 x cs F) : bb = b ∨ bb ∈ F := by
  cases hp : offs t1 p with
  | none =>
    obtain ⟨b', o', e', hm⟩ := block_in h x F hr hp
    simp only [Option.some.injEq, Prod.mk.injEq] at e'
    obtain ⟨rfl, _⟩ := e'
    exact .inr hm
  | some r =>
    cases h with
    | plain h3 => exact .inl rfl
    | own h3 hc3 hb3 hi3 hq3 => rw [offs_through _ _ _ _ _ h3 rfl] at hp; cases hp

theorem At_other {w w2 : World} {S : Nat → Prop} {t cs loc p t' cs' loc'} (h : At w t cs loc p t' cs' loc') : ∀ (x : Val t) F, R w S t x cs F → F.Nodup →
    ∀ u y cs'' csn tn xn, setAt t x p u y = some ⟨tn, xn⟩ → cs''.length = cells t' → Stored w w2 t cs p t' loc' cs'' csn F →
    ∀ q tq csq locq, At w t cs loc q tq csq locq → (shapePre p q = false ∨ (noOwn t' = true ∧ u = t')) →
    ∃ tq' csq', At w2 tn csn loc q tq' csq' locq ∧ ∀ e t1, tq = .ow e t1 → tq' = tq ∧ csq' = csq := by
  induction h with
  | @plain t cs loc p o t' h =>
    intro x F hr hn u y cs'' csn tn xn hs hl hst q tq csq locq hq hor
    rcases hst with ⟨o', h', rfl, hF⟩ | ⟨hnone, _⟩
    rotate_left
    · rw [h] at hnone; cases hnone
    rw [h] at h'
    simp only [Option.some.injEq, Prod.mk.injEq] at h'
    obtain ⟨rfl, _⟩ := h'
    have hle := offs_le _ _ _ _ h
    have hcs := R_len _ _ _ _ hr
    cases hq with
    | @plain _ _ _ _ oq _ h2 =>
      obtain ⟨tq', a1, a2⟩ := offs_other _ _ _ _ _ _ _ _ _ _ _ _ h h2 hs hor
      refine ⟨tq', _, .plain a1, fun e t1 he => ?_⟩
      obtain ⟨rfl, a3⟩ := a2 e t1 he
      refine ⟨rfl, ?_⟩
      subst he
      simp only [cells]
      apply List.ext_getElem?
      intro j
      rw [List.getElem?_take, List.getElem?_take]
      split
      · rw [List.getElem?_drop, List.getElem?_drop]
        exact getElem?_splice _ _ _ _ _ hl (by omega) (by omega)
      · rfl
    | @own _ _ _ p2 o2 e t3 b n cap cur i q2 _ _ _ h2 hc hb hi hq2 =>
      have hor2 : shapePre p p2 = false ∨ (noOwn t' = true ∧ u = t') := by
        rcases hor with hor | hor
        · left
          cases hsp : shapePre p p2 with
          | false => rfl
          | true =>
            have : ∀ (p p2 r : Path), shapePre p p2 = true → shapePre p (p2 ++ r) = true := by
              intro p
              induction p with
              | nil => intros; rfl
              | cons s p ih =>
                intro p2 r hh
                cases p2 with
                | nil => cases s <;> simp [shapePre] at hh
                | cons s2 p2 => cases s <;> cases s2 <;> simp [shapePre] at hh ⊢ <;> exact ih _ _ hh
            rw [this _ _ _ hsp] at hor; cases hor
        · exact .inr hor
      obtain ⟨tq', a1, a2⟩ := offs_other _ _ _ _ _ _ _ _ _ _ _ _ h h2 hs hor2
      obtain ⟨rfl, a3⟩ := a2 e t3 rfl
      obtain ⟨x1, G1, H, G2, g1, rfl, rfl, k2, k3, k4, k5⟩ := own_open hr h2 hc hb
      obtain ⟨H1, H', H2, rfl, r1⟩ := own_elem k5 hi
      refine ⟨tq, csq, .own a1 (by rw [getElem?_splice _ _ _ _ _ hl (by omega) (by omega)]; exact hc) (by rw [hF _ (by simp)]; exact hb) hi (At_frame hq2 _ _ r1 fun c hc => hF c (by simp [hc])), fun _ _ _ => ⟨rfl, rfl⟩⟩
  | @own t cs loc p o e t1 b n cap cur i p1 t' cs' loc' h hc hb hi hq ih =>
    intro x F hr hn u y cs'' csn tn xn hs hl hst q tq csq locq hq' hor
    have hno : offs t (p ++ .idx i :: p1) = none := offs_through _ _ _ _ _ h rfl
    rcases hst with ⟨o', h', _⟩ | ⟨_, rfl, bb, oo, ccur, ee, rfl, hbb, hbb2, hF⟩
    · rw [hno] at h'; cases h'
    -- the type stays
    obtain ⟨t1', x1', t2, x2, s1, s2, s3⟩ := setAt_append _ _ _ _ _ _ _ hs
    obtain ⟨x1, G1, H, G2, g1, hFe, hnx, k2, k3, k4, k5⟩ := own_open hr h hc hb
    rw [g1] at s1
    simp only [Option.some.injEq, Sigma.mk.injEq] at s1
    obtain ⟨rfl, s1⟩ := s1
    obtain rfl := eq_of_heq s1
    simp only [setAt] at s2
    split at s2
    rotate_left
    · cases s2
    rename_i t3 z e3
    split at s2
    rotate_left
    · cases s2
    rename_i ht3
    subst ht3
    simp only [Option.some.injEq, Sigma.mk.injEq] at s2
    obtain ⟨rfl, s2⟩ := s2
    obtain rfl := setAt_same _ _ _ _ _ _ _ _ g1 s3
    subst hnx
    cases hq' with
    | plain h2 => exact ⟨tq, _, .plain h2, fun _ _ _ => ⟨rfl, rfl⟩⟩
    | @own _ _ _ p2 o2 e2 t4 b2 n2 cap2 cur2 i2 q2 _ _ _ h2 hc2 hb2 hi2 hq2 =>
      rcases plain_two _ _ _ _ _ _ _ _ _ _ _ _ hr hn h h2 with rfl | ⟨y1, y2, Fp, Fq, a1, a2, a3, a4, a5⟩
      · -- the same row
        rw [h] at h2
        simp only [Option.some.injEq, Prod.mk.injEq, Ty.ow.injEq] at h2
        obtain ⟨rfl, rfl, rfl⟩ := h2
        rw [hc] at hc2
        simp only [Option.some.injEq, Value.slice.injEq, Addr.mk.injEq, and_true] at hc2
        obtain ⟨rfl, rfl, rfl⟩ := hc2
        rw [hb] at hb2
        simp only [Option.some.injEq, Obj.cells.injEq, and_true] at hb2
        obtain rfl := hb2
        have hN : (b :: H).Nodup := by
          rw [hFe] at hn; exact (List.nodup_append.1 (List.nodup_append.1 hn).1).2.1
        have hbH := (List.nodup_cons.1 hN).1
        have hHn := (List.nodup_cons.1 hN).2
        have hHF : ∀ c ∈ H, c ∈ F := fun c hc' => by rw [hFe]; simp [hc']
        have hK : ∀ j, j < List.length (α := Val t3) x1 → j * cells t3 + cells t3 ≤ List.length (α := Val t3) x1 * cells t3 := by
          intro j hj
          have := Nat.mul_le_mul_right (cells t3) hj
          rw [Nat.succ_mul] at this; exact this
        have hK2 : List.length (α := Val t3) x1 * cells t3 ≤ cur.size := by rw [k4]; exact Nat.mul_le_mul_right _ k2
        have hK3 : ∀ j, j < List.length (α := Val t3) x1 → j * cells t3 + cells t3 ≤ cur.size := fun j hj => Nat.le_trans (hK j hj) hK2
        have hel : ∀ j, ((cur.toList.drop (j * cells t3)).take (cells t3)).length ≤ cells t3 := by intro j; simp; omega
        by_cases hij : i = i2
        · subst hij
          obtain ⟨H1, H', H2, rfl, r1⟩ := own_elem k5 hi
          have hH'n : H'.Nodup := (List.nodup_append.1 (List.nodup_append.1 hHn).1).2.1
          have hor2 : shapePre p1 q2 = false ∨ (noOwn t' = true ∧ u = t') := by
            rcases hor with hor | hor
            · left; rw [shapePre_append] at hor; simpa [shapePre] using hor
            · exact .inr hor
          cases hp1 : offs t3 p1 with
          | some r =>
            cases hq with
            | @plain _ _ _ _ o3 _ h3 =>
              have ho3 := offs_le _ _ _ _ h3
              have hKi := hK3 i hi
              rw [hb] at hbb
              simp only [Option.some.injEq, Obj.cells.injEq, and_true] at hbb
              obtain ⟨rfl, rfl⟩ := hbb
              obtain ⟨tq', csq', a1, a2⟩ := ih _ _ r1 hH'n u y cs'' _ _ _ e3 hl (.inl ⟨o3, h3, rfl, fun c hc' => hF c (hHF c (by simp [hc'])) (fun hcb => hbH (by subst hcb; simp [hc']))⟩) q2 tq csq locq hq2 hor2
              refine ⟨tq', csq', .own h hc hbb2 hi ?_, a2⟩
              have e5 : List.take (cells t3) (List.drop (i * cells t3) (cur.toList.take (i * cells t3 + o3) ++ cs'' ++ cur.toList.drop (i * cells t3 + o3 + cells t')).toArray.toList) =
                  List.take o3 (List.take (cells t3) (List.drop (i * cells t3) cur.toList)) ++ cs'' ++ List.drop (o3 + cells t') (List.take (cells t3) (List.drop (i * cells t3) cur.toList)) := by
                rw [List.toList_toArray, splice3 cur.toList (i * cells t3) o3 (cells t') (cells t3) cs'' ho3 (by rw [Array.length_toList]; exact hKi)]
                rw [List.append_assoc, List.drop_append_of_le_length (by simp; omega), List.drop_eq_nil_of_le (by simp; omega), List.nil_append]
                rw [List.take_append_of_le_length (by simp [hl]; omega), List.take_of_length_le (by simp [hl]; omega)]
              rw [e5]; exact a1
            | own h3 hc3 hb3 hi3 hq3 => rw [offs_through _ _ _ _ _ h3 rfl] at hp1; cases hp1
          | none =>
            have hbb3 : bb ∈ H' := by
              obtain ⟨b', o', e', hm⟩ := block_in hq _ _ r1 hp1
              simp only [Option.some.injEq, Prod.mk.injEq] at e'
              obtain ⟨rfl, _⟩ := e'
              exact hm
            have hne : b ≠ bb := fun hcb => hbH (by subst hcb; simp [hbb3])
            obtain ⟨tq', csq', a1, a2⟩ := ih _ _ r1 hH'n u y cs'' _ _ _ e3 hl (.inr ⟨hp1, rfl, bb, oo, ccur, ee, rfl, hbb, hbb2, fun c hc' => hF c (hHF c (by simp [hc']))⟩) q2 tq csq locq hq2 hor2
            exact ⟨tq', csq', .own h hc (by rw [hF b (by rw [hFe]; simp) hne]; exact hb) hi a1, a2⟩
        · -- another element of it
          obtain ⟨Fi, Fj, b1, b2', b3, b4, b5, b6, b7⟩ := Rl_two (R_len (w := w) (S := S) t3) (dflt t3) x1 _ H k5 hHn i i2 hi hi2 hij
          rw [drop_take_take _ _ _ _ (hK i hi)] at b1
          rw [drop_take_take _ _ _ _ (hK i2 hi2)] at b2'
          have hblk := block_of hq b1
          have hsame : ∀ c ∈ Fj, w2.heap[c]? = w.heap[c]? := by
            intro c hc'
            refine hF c (hHF c (b4 c hc')) (fun hcb => ?_)
            subst hcb
            rcases hblk with rfl | hm
            · exact hbH (b4 _ hc')
            · exact b5 _ hm hc'
          have hq2' := At_frame hq2 _ _ b2' hsame
          rcases hblk with rfl | hm
          · rw [hb] at hbb
            simp only [Option.some.injEq, Obj.cells.injEq, and_true] at hbb
            obtain ⟨rfl, rfl⟩ := hbb
            cases hq with
            | @plain _ _ _ _ o3 _ h3 =>
              have ho3 := offs_le _ _ _ _ h3
              have hKi := hK3 i hi
              refine ⟨tq, csq, .own h hc hbb2 hi2 ?_, fun _ _ _ => ⟨rfl, rfl⟩⟩
              have e5 : List.take (cells t3) (List.drop (i2 * cells t3) (cur.toList.take (i * cells t3 + o3) ++ cs'' ++ cur.toList.drop (i * cells t3 + o3 + cells t')).toArray.toList) =
                  List.take (cells t3) (List.drop (i2 * cells t3) cur.toList) := by
                rw [List.toList_toArray]
                apply List.ext_getElem?
                intro j
                rw [List.getElem?_take, List.getElem?_take]
                split
                · rename_i hj
                  rw [List.getElem?_drop, List.getElem?_drop]
                  refine getElem?_splice _ _ _ _ _ hl (by rw [Array.length_toList]; omega) ?_
                  rcases Nat.lt_or_gt_of_ne hij with h1 | h1
                  · right
                    have : (i + 1) * cells t3 ≤ i2 * cells t3 := Nat.mul_le_mul_right _ h1
                    rw [Nat.succ_mul] at this; omega
                  · left
                    have : (i2 + 1) * cells t3 ≤ i * cells t3 := Nat.mul_le_mul_right _ h1
                    rw [Nat.succ_mul] at this; omega
                · rfl
              rw [e5]; exact hq2'
            | own h3 hc3 hb3 hi3 hq3 =>
              obtain ⟨b', o', e', hm⟩ := block_in (.own (loc := some (bb, i * cells t3)) h3 hc3 hb3 hi3 hq3) _ _ b1 (offs_through _ _ _ _ _ h3 rfl)
              simp only [Option.some.injEq, Prod.mk.injEq] at e'
              obtain ⟨rfl, _⟩ := e'
              exact absurd (b3 _ hm) hbH
          · have hne : b ≠ bb := fun hcb => hbH (by subst hcb; exact b3 _ hm)
            exact ⟨tq, csq, .own h hc (by rw [hF b (by rw [hFe]; simp) hne]; exact hb) hi2 hq2', fun _ _ _ => ⟨rfl, rfl⟩⟩
      · -- another row: nothing of it was written
        obtain ⟨Hp, rfl, m1, m2, m3, m4, _, m5⟩ := ow_open a1 (head_at hc) hb
        obtain ⟨Hq, rfl, n1, n2', n3, n4, _, n5⟩ := ow_open a2 (head_at hc2) hb2
        have hi' : i < List.length (α := Val t3) y1 := by omega
        subst n1
        obtain ⟨J1, J', J2, rfl, r1⟩ := own_elem (x1 := y1) (by rw [← m1]; exact m5) hi'
        obtain ⟨K1, K', K2, rfl, r2⟩ := own_elem n5 hi2
        have hbb1 : bb ∈ b :: (J1 ++ J' ++ J2) := by
          rcases block_of hq r1 with rfl | hm
          · simp
          · simp [hm]
        have hsame : ∀ c ∈ b2 :: (K1 ++ K' ++ K2), w2.heap[c]? = w.heap[c]? := fun c hc' => hF c (a4 c hc') (fun hcb => a5 _ (hcb ▸ hbb1) hc')
        exact ⟨tq, csq, .own h2 hc2 (by rw [hsame b2 (by simp)]; exact hb2) hi2 (At_frame hq2 _ _ r2 fun c hc' => hsame c (by simp [hc'])), fun _ _ _ => ⟨rfl, rfl⟩⟩

end Go.Am
/- Am, part 7: what it means that the machine's slots, sites and the model's frame, memory tell the same; what lives on. -/
set_option linter.unusedVariables false
set_option linter.unusedSimpArgs false
namespace Go.Am

structure GS where
  cs : List Value
  F : List Nat
  blk : Nat

def SiteR (w : World) (S : Nat → Prop) (x : Site) (g : GS) : Prop :=
  match x with
  | .none => g.F = []
  | .tmp t x => R w S t x g.cs g.F
  | .var T t x => ∃ F', g.F = g.blk :: F' ∧ w.heap[g.blk]? = some (.cells g.cs.toArray T (0, 0)) ∧ R w S t x g.cs F'

def AtS (w : World) (x : Site) (g : GS) (p : Path) (t' : Ty) (cs' : List Value) (loc' : Option (Nat × Nat)) : Prop :=
  match x with
  | .none => False
  | .tmp t _ => At w t g.cs none p t' cs' loc'
  | .var _ t _ => At w t g.cs (some (g.blk, 0)) p t' cs' loc'

def aggV : Bool → List Value → Value
  | true, cs => .agg cs.toArray
  | false, cs => cs.headD undef

def aggSV : SV → Bool
  | .val t _ => isAgg t
  | .pr _ _ => true
  | _ => false

section
variable (w : World) (S : Nat → Prop) (σ : Nat → Site) (G : Nat → GS)
mutual
def SC : SV → List Value → Prop
  | .dead, _ => True
  | .val t x, cs => R w S t x cs []
  | .pr a b, cs => ∃ c1 c2, cs = c1 ++ c2 ∧ SC a c1 ∧ SC b c2
  | .ref s p, cs => ∃ e t1 loc', AtS w (σ s) (G s) p (.ow e t1) cs loc'
  | .ptr s p, cs => ∃ t' cs' b o, AtS w (σ s) (G s) p t' cs' (some (b, o)) ∧ cs = [.pointer (some ⟨b, o, none⟩)]
  | .ro t x, cs => ∃ ad ccs, cs = [.pointer (some ad)] ∧ S ad.block ∧ R w S t x ccs [] ∧ ∀ j c, ccs[j]? = some c → w.cell? (ad.add j) = some c
  | .nilp, cs => cs = [.pointer none]
  | .fn f caps, cs => ∃ vs, cs = [.func (.func f) #[] vs.toArray] ∧ SL caps vs
  | .tnil, cs => cs = [.tuple #[]]
  | .tcons a r, cs => ∃ v vs, cs = [.tuple (v :: vs).toArray] ∧ (∃ cs, SC a cs ∧ v = aggV (aggSV a) cs) ∧ SL r vs
def SL : SV → List Value → Prop
  | .tnil, vs => vs = []
  | .tcons a r, vs => ∃ v vs', vs = v :: vs' ∧ (∃ cs, SC a cs ∧ v = aggV (aggSV a) cs) ∧ SL r vs'
  | _, _ => False
end
def SVr (sv : SV) (v : Value) : Prop := ∃ cs, SC w S σ G sv cs ∧ v = aggV (aggSV sv) cs
end

structure Ctx where
  w0 : World
  S0 : Nat → Prop
  M0 : List Nat
  pins : List (Nat × Nat) := []

/-- The blocks that stay as they are. -/
def Sof (C : Ctx) (w : World) (G : Nat → GS) (L : List Nat) (b : Nat) : Prop :=
  b < w.heap.size ∧ (C.S0 b ∨ C.w0.heap.size ≤ b ∨ b ∈ C.M0) ∧ (∀ s, b ∉ (G s).F) ∧ b ∉ L

structure RelG (C : Ctx) (A : St) (a : Act) (w : World) (G : Nat → GS) (L : List Nat) : Prop where
  slots : ∀ i, SVr w (Sof C w G L) A.site G (A.slot i) (a.tmps.getD i undef)
  sites : ∀ s, SiteR w (Sof C w G L) (A.site s) (G s)
  nodup : ∀ s, (G s).F.Nodup
  apart : ∀ s s', s ≠ s' → ∀ b, b ∈ (G s).F → b ∉ (G s').F
  mine : ∀ s b, b ∈ (G s).F → (C.w0.heap.size ≤ b ∨ b ∈ C.M0) ∧ b < w.heap.size
  lnodup : L.Nodup
  lapart : ∀ s b, b ∈ (G s).F → b ∉ L
  lmine : ∀ b, b ∈ L → (C.w0.heap.size ≤ b ∨ b ∈ C.M0) ∧ b < w.heap.size
  s0 : ∀ b, C.S0 b → b ∉ C.M0 ∧ b < C.w0.heap.size
  os : w.os = C.w0.os
  tape : w.tape = C.w0.tape
  output : w.output = C.w0.output
  size : C.w0.heap.size ≤ w.heap.size
  frame : ∀ b, b < C.w0.heap.size → b ∉ C.M0 → w.heap[b]? = C.w0.heap[b]?
  defers : a.defers = []
  len : a.tmps.size = A.slots.length
  pinlen : ∀ q, q ∈ C.pins → A.slots.length ≤ q.1
  pin : ∀ q, q ∈ C.pins → (∃ T t x, A.site q.1 = .var T t x) ∧ (G q.1).blk = q.2

theorem RelG.nopin {C : Ctx} {A : St} {a : Act} {w : World} {G : Nat → GS} {L : List Nat} (h : RelG C A a w G L) {s : Nat} (hs : ∀ T t x, A.site s ≠ .var T t x) {p : Prop} (q : Nat × Nat) (hq : q ∈ C.pins) (e : q.1 = s) : p := by
  subst e
  obtain ⟨⟨T, t, x, e2⟩, _⟩ := h.pin q hq
  exact absurd e2 (hs T t x)

def Rel (C : Ctx) (A : St) (a : Act) (w : World) : Prop := ∃ G, RelG C A a w G []

/-! ### Lists -/
theorem nth_setNth {α : Type} (d : α) : ∀ (l : List α) (n : Nat) (y : α) (i : Nat), nth d (setNth l n y) i = if i = n ∧ n < l.length then y else nth d l i
  | [], n, y, i => by simp [setNth, nth]
  | x :: l, 0, y, 0 => by simp [setNth, nth]
  | x :: l, 0, y, i + 1 => by simp [setNth, nth]
  | x :: l, n + 1, y, 0 => by simp [setNth, nth]
  | x :: l, n + 1, y, i + 1 => by simp only [setNth, nth, nth_setNth d l n y i, List.length_cons]; simp

theorem nth_setPad {α : Type} (d : α) : ∀ (l : List α) (n : Nat) (y : α) (i : Nat), nth d (setPad d l n y) i = if i = n then y else nth d l i
  | [], 0, y, 0 => by simp [setPad, nth]
  | [], 0, y, i + 1 => by simp [setPad, nth]
  | [], n + 1, y, 0 => by simp [setPad, nth]
  | [], n + 1, y, i + 1 => by
    simp only [setPad, nth, nth_setPad d [] n y i]
    simp [nth]
  | x :: l, 0, y, 0 => by simp [setPad, nth]
  | x :: l, 0, y, i + 1 => by simp [setPad, nth]
  | x :: l, n + 1, y, 0 => by simp [setPad, nth]
  | x :: l, n + 1, y, i + 1 => by simp only [setPad, nth, nth_setPad d l n y i]; simp

theorem length_setNth {α : Type} : ∀ (l : List α) (n : Nat) (y : α), (setNth l n y).length = l.length
  | [], _, _ => rfl
  | _ :: _, 0, _ => rfl
  | _ :: l, n + 1, y => by simp [setNth, length_setNth l n y]

theorem nth_map {α : Type} (d : α) (f : α → α) (hf : f d = d) : ∀ (l : List α) (i : Nat), nth d (l.map f) i = f (nth d l i)
  | [], i => by simp [nth, hf]
  | x :: l, 0 => rfl
  | x :: l, i + 1 => by simp only [List.map_cons, nth]; exact nth_map d f hf l i

theorem slot_put (A : St) (d : Nat) (v : SV) (i : Nat) : (A.put (some d) v).slot i = if i = d ∧ d < A.slots.length then v else A.slot i := nth_setNth _ _ _ _ _
@[simp] theorem site_put (A : St) (d : Option Nat) (v : SV) (s : Nat) : (A.put d v).site s = A.site s := by cases d <;> rfl
theorem site_put' (A : St) (d : Option Nat) (v : SV) : (A.put d v).site = A.site := by funext s; simp
theorem site_setSite (A : St) (s : Nat) (x : Site) (s' : Nat) : (A.setSite s x).site s' = if s' = s then x else A.site s' := nth_setPad _ _ _ _ _
@[simp] theorem slot_setSite (A : St) (s : Nat) (x : Site) (i : Nat) : (A.setSite s x).slot i = A.slot i := rfl
@[simp] theorem slots_setSite (A : St) (s : Nat) (x : Site) : (A.setSite s x).slots = A.slots := rfl
@[simp] theorem length_put (A : St) (d : Option Nat) (v : SV) : (A.put d v).slots.length = A.slots.length := by
  cases d with
  | none => rfl
  | some d => exact length_setNth _ _ _

/-! ### What lives on -/
theorem AtS_frame {w w' : World} {S : Nat → Prop} {x : Site} {g : GS} {p t' cs' loc'} (hs : SiteR w S x g) (hF : ∀ b ∈ g.F, w'.heap[b]? = w.heap[b]?) (h : AtS w x g p t' cs' loc') : AtS w' x g p t' cs' loc' := by
  cases x with
  | none => exact h
  | tmp t x => exact At_frame h x _ hs hF
  | var T t x =>
    obtain ⟨F', e, _, hr⟩ := hs
    exact At_frame h x _ hr fun b hb => hF b (by rw [e]; simp [hb])

/-- Each place that a slot's value names. -/
def SV.every (P : Bool → Nat → Path → Prop) : SV → Prop
  | .ref s p => P true s p
  | .ptr s p => P false s p
  | .pr a b | .tcons a b => a.every P ∧ b.every P
  | .fn _ c => c.every P
  | _ => True

theorem every_mono {P Q : Bool → Nat → Path → Prop} (h : ∀ r s p, P r s p → Q r s p) : ∀ (v : SV), v.every P → v.every Q
  | .ref s p, hv => h _ _ _ hv
  | .ptr s p, hv => h _ _ _ hv
  | .pr a b, hv => ⟨every_mono h a hv.1, every_mono h b hv.2⟩
  | .tcons a b, hv => ⟨every_mono h a hv.1, every_mono h b hv.2⟩
  | .fn _ c, hv => every_mono h c hv
  | .dead, _ => trivial
  | .val _ _, _ => trivial
  | .ro _ _, _ => trivial
  | .nilp, _ => trivial
  | .tnil, _ => trivial

/-- The place is still there: an address as it was; a row's head as it was. -/
def Lives (w w' : World) (x x' : Site) (g g' : GS) (isref : Bool) (p : Path) : Prop :=
  ∀ t' cs' loc', AtS w x g p t' cs' loc' → (isref = true → ∃ e t1, t' = .ow e t1) →
    ∃ t'' cs'', AtS w' x' g' p t'' cs'' loc' ∧ (isref = true → t'' = t' ∧ cs'' = cs')

section
variable {w w' : World} {S S' : Nat → Prop} {σ σ' : Nat → Site} {G G' : Nat → GS}

mutual
theorem SC_frame (hS : ∀ b, S b → S' b ∧ w'.heap[b]? = w.heap[b]?) : ∀ (sv : SV) cs,
    sv.every (fun r s p => Lives w w' (σ s) (σ' s) (G s) (G' s) r p) → SC w S σ G sv cs → SC w' S' σ' G' sv cs
  | .dead, cs, _, h => trivial
  | .val t x, cs, _, h => R_frame hS t x cs [] (by simp) h
  | .pr a b, cs, hn, h => by
    simp only [SC] at h ⊢
    obtain ⟨c1, c2, e, h1, h2⟩ := h
    exact ⟨c1, c2, e, SC_frame hS a c1 hn.1 h1, SC_frame hS b c2 hn.2 h2⟩
  | .ref s p, cs, hn, h => by
    simp only [SC] at h ⊢
    obtain ⟨e, t1, loc', h⟩ := h
    obtain ⟨t'', cs'', h1, h2⟩ := hn _ _ _ h (fun _ => ⟨e, t1, rfl⟩)
    obtain ⟨rfl, rfl⟩ := h2 rfl
    exact ⟨e, t1, loc', h1⟩
  | .ptr s p, cs, hn, h => by
    simp only [SC] at h ⊢
    obtain ⟨t', cs', b, o, h, e⟩ := h
    obtain ⟨t'', cs'', h1, _⟩ := hn _ _ _ h (by simp)
    exact ⟨t'', cs'', b, o, h1, e⟩
  | .ro t x, cs, hn, h => by
    simp only [SC] at h ⊢
    obtain ⟨ad, ccs, e, h1, h2, h3⟩ := h
    refine ⟨ad, ccs, e, (hS _ h1).1, R_frame hS t x ccs [] (by simp) h2, fun j c hj => ?_⟩
    have hb : (ad.add j).block = ad.block := by unfold Addr.add; split <;> rfl
    rw [World.cell?_of_block (w := w) (by rw [hb]; exact (hS _ h1).2)]
    exact h3 j c hj
  | .nilp, cs, _, h => by simp only [SC] at h ⊢; exact h
  | .fn f caps, cs, hn, h => by
    simp only [SC] at h ⊢
    obtain ⟨vs, e, h⟩ := h
    exact ⟨vs, e, SL_frame hS caps vs hn h⟩
  | .tnil, cs, _, h => by simp only [SC] at h ⊢; exact h
  | .tcons a r, cs, hn, h => by
    simp only [SC] at h ⊢
    obtain ⟨v, vs, e, ⟨c, h1, e1⟩, h2⟩ := h
    exact ⟨v, vs, e, ⟨c, SC_frame hS a c hn.1 h1, e1⟩, SL_frame hS r vs hn.2 h2⟩
theorem SL_frame (hS : ∀ b, S b → S' b ∧ w'.heap[b]? = w.heap[b]?) : ∀ (sv : SV) vs,
    sv.every (fun r s p => Lives w w' (σ s) (σ' s) (G s) (G' s) r p) → SL w S σ G sv vs → SL w' S' σ' G' sv vs
  | .tnil, vs, _, h => by simp only [SL] at h ⊢; exact h
  | .tcons a r, vs, hn, h => by
    simp only [SL] at h ⊢
    obtain ⟨v, vs', e, ⟨c, h1, e1⟩, h2⟩ := h
    exact ⟨v, vs', e, ⟨c, SC_frame hS a c hn.1 h1, e1⟩, SL_frame hS r vs' hn.2 h2⟩
  | .dead, vs, _, h => by simp only [SL] at h
  | .val t x, vs, _, h => by simp only [SL] at h
  | .pr a b, vs, _, h => by simp only [SL] at h
  | .ref s p, vs, _, h => by simp only [SL] at h
  | .ptr s p, vs, _, h => by simp only [SL] at h
  | .ro t x, vs, _, h => by simp only [SL] at h
  | .nilp, vs, _, h => by simp only [SL] at h
  | .fn f caps, vs, _, h => by simp only [SL] at h
end
end

theorem Lives.same {w w' : World} {S : Nat → Prop} {x : Site} {g : GS} (hs : SiteR w S x g) (hF : ∀ b ∈ g.F, w'.heap[b]? = w.heap[b]?) (r : Bool) (p : Path) : Lives w w' x x g g r p :=
  fun t' cs' loc' h _ => ⟨t', cs', AtS_frame hs hF h, fun _ => ⟨rfl, rfl⟩⟩

theorem SiteR_frame {w w' : World} {S S' : Nat → Prop} (hS : ∀ b, S b → S' b ∧ w'.heap[b]? = w.heap[b]?) {x : Site} {g : GS} (hF : ∀ b ∈ g.F, w'.heap[b]? = w.heap[b]?) (h : SiteR w S x g) : SiteR w' S' x g := by
  cases x with
  | none => exact h
  | tmp t x => exact R_frame hS _ _ _ _ hF h
  | var T t x =>
    obtain ⟨F', e, h1, hr⟩ := h
    exact ⟨F', e, by rw [hF _ (by rw [e]; simp)]; exact h1, R_frame hS _ _ _ _ (fun b hb => hF b (by rw [e]; simp [hb])) hr⟩

/-- How the world went on. -/
structure Goes (w w' : World) : Prop where
  os : w'.os = w.os
  tape : w'.tape = w.tape
  output : w'.output = w.output
  size : w.heap.size ≤ w'.heap.size

def upd (G : Nat → GS) (s : Nat) (g : GS) (s' : Nat) : GS := if s' = s then g else G s'
theorem upd_same (G : Nat → GS) (s : Nat) (g : GS) : upd G s g s = g := by simp [upd]
theorem upd_ne (G : Nat → GS) {s s' : Nat} (g : GS) (h : s' ≠ s) : upd G s g s' = G s' := by simp [upd, h]

/-- A slot is dead now, or as it was and all that it names lives. -/
def Kept (w w' : World) (A A' : St) (G G' : Nat → GS) : Prop :=
  ∀ i, A'.slot i = .dead ∨ (A'.slot i = A.slot i ∧ (A.slot i).every fun r s p => Lives w w' (A.site s) (A'.site s) (G s) (G' s) r p)

/-- One site is another, what is in limbo too; no other site's blocks are touched. -/
theorem RelG.site {C : Ctx} {A A' : St} {a : Act} {w w' : World} {G : Nat → GS} {L L' : List Nat} (h : RelG C A a w G L) (s : Nat) (g : GS) (hgo : Goes w w')
    (hsame : ∀ b, b < w.heap.size → b ∉ (G s).F → b ∉ L → w'.heap[b]? = w.heap[b]?)
    (hsite : ∀ s', s' ≠ s → A'.site s' = A.site s') (hlen : A'.slots.length = A.slots.length)
    (hg : ∀ b ∈ g.F, (b ∈ (G s).F ∨ b ∈ L ∨ w.heap.size ≤ b) ∧ b < w'.heap.size) (hgn : g.F.Nodup)
    (hL : ∀ b ∈ L', (b ∈ (G s).F ∨ b ∈ L ∨ w.heap.size ≤ b) ∧ b < w'.heap.size) (hLn : L'.Nodup) (hgL : ∀ b ∈ g.F, b ∉ L')
    (hX : ∀ S' : Nat → Prop, (∀ b, Sof C w G L b → S' b ∧ w'.heap[b]? = w.heap[b]?) → (∀ b, b ∈ (G s).F ∨ b ∈ L → b ∉ g.F → b ∉ L' → S' b) → SiteR w' S' (A'.site s) g)
    (hk : Kept w w' A A' G (upd G s g)) (hp : ∀ q : Nat × Nat, q ∈ C.pins → q.1 = s → (∃ T t x, A'.site s = .var T t x) ∧ g.blk = q.2) : RelG C A' a w' (upd G s g) L' := by
  have hnew : ∀ b, b ∈ (G s).F ∨ b ∈ L ∨ w.heap.size ≤ b → (C.w0.heap.size ≤ b ∨ b ∈ C.M0) := by
    rintro b (hb | hb | hb)
    · exact (h.mine _ _ hb).1
    · exact (h.lmine _ hb).1
    · exact .inl (Nat.le_trans h.size hb)
  have hS : ∀ b, Sof C w G L b → Sof C w' (upd G s g) L' b ∧ w'.heap[b]? = w.heap[b]? := by
    rintro b ⟨h1, h2, h3, h4⟩
    refine ⟨⟨Nat.lt_of_lt_of_le h1 hgo.size, h2, fun s' => ?_, fun hb => ?_⟩, hsame b h1 (h3 s) h4⟩
    · by_cases e : s' = s
      · subst e; rw [upd_same]
        intro hb
        rcases (hg b hb).1 with hb | hb | hb
        · exact h3 _ hb
        · exact h4 hb
        · omega
      · rw [upd_ne _ _ e]; exact h3 s'
    · rcases (hL b hb).1 with hb | hb | hb
      · exact h3 _ hb
      · exact h4 hb
      · omega
  have hother : ∀ s', s' ≠ s → ∀ b ∈ (G s').F, w'.heap[b]? = w.heap[b]? := fun s' e b hb =>
    hsame b (h.mine _ _ hb).2 (fun hb' => h.apart s' s e b hb hb') (h.lapart _ _ hb)
  refine ⟨fun i => ?_, fun s' => ?_, fun s' => ?_, ?_, fun s' b hb => ?_, hLn, fun s' b hb => ?_, fun b hb => ⟨hnew b (hL b hb).1, (hL b hb).2⟩, h.s0,
    hgo.os.trans h.os, hgo.tape.trans h.tape, hgo.output.trans h.output, Nat.le_trans h.size hgo.size, fun b hb hm => ?_, h.defers, by rw [hlen]; exact h.len, fun q hq => by rw [hlen]; exact h.pinlen q hq, fun q hq => by
      by_cases e : q.1 = s
      · rw [e, upd_same]; exact hp q hq e
      · rw [upd_ne _ _ e, hsite _ e]; exact h.pin q hq⟩
  · rcases hk i with e | ⟨e, hl⟩
    · rw [e]; exact ⟨[a.tmps.getD i undef], trivial, rfl⟩
    · rw [e]
      obtain ⟨cs, h1, h2⟩ := h.slots i
      exact ⟨cs, SC_frame hS _ _ hl h1, h2⟩
  · by_cases e : s' = s
    · subst e; rw [upd_same]
      refine hX _ hS fun b hb h1 h2 => ?_
      have hlt : b < w.heap.size := by
        rcases hb with hb | hb
        · exact (h.mine _ _ hb).2
        · exact (h.lmine _ hb).2
      refine ⟨Nat.lt_of_lt_of_le hlt hgo.size, ?_, fun s'' => ?_, h2⟩
      · rcases hnew b (hb.imp id Or.inl) with h | h
        · exact .inr (.inl h)
        · exact .inr (.inr h)
      · by_cases e : s'' = s'
        · subst e; rw [upd_same]; exact h1
        · rw [upd_ne _ _ e]
          intro hb''
          rcases hb with hb | hb
          · exact h.apart _ _ e b hb'' hb
          · exact h.lapart _ _ hb'' hb
    · rw [upd_ne _ _ e, hsite s' e]
      exact SiteR_frame hS (hother s' e) (h.sites s')
  · by_cases e : s' = s
    · subst e; rw [upd_same]; exact hgn
    · rw [upd_ne _ _ e]; exact h.nodup s'
  · intro s1 s2 hne b hb hb'
    have key : ∀ s', s' ≠ s → b ∈ (G s').F → b ∈ g.F → False := by
      intro s' e h1 h2
      rcases (hg b h2).1 with h2 | h2 | h2
      · exact h.apart _ _ e b h1 h2
      · exact h.lapart _ _ h1 h2
      · have := (h.mine _ _ h1).2; omega
    by_cases e1 : s1 = s
    · subst e1
      rw [upd_same] at hb
      rw [upd_ne _ _ (Ne.symm hne)] at hb'
      exact key _ (Ne.symm hne) hb' hb
    · rw [upd_ne _ _ e1] at hb
      by_cases e2 : s2 = s
      · subst e2; rw [upd_same] at hb'; exact key _ e1 hb hb'
      · rw [upd_ne _ _ e2] at hb'; exact h.apart _ _ hne b hb hb'
  · by_cases e : s' = s
    · subst e; rw [upd_same] at hb; exact ⟨hnew b (hg b hb).1, (hg b hb).2⟩
    · rw [upd_ne _ _ e] at hb
      have := h.mine _ _ hb
      exact ⟨this.1, Nat.lt_of_lt_of_le this.2 hgo.size⟩
  · by_cases e : s' = s
    · subst e; rw [upd_same] at hb; exact hgL b hb
    · rw [upd_ne _ _ e] at hb
      intro hb'
      rcases (hL b hb').1 with h2 | h2 | h2
      · exact h.apart _ _ e b hb h2
      · exact h.lapart _ _ hb h2
      · have := (h.mine _ _ hb).2; omega
  · have hsz := h.size
    rw [hsame b (by omega) ?_ ?_]
    · exact h.frame b hb hm
    · intro hb'
      rcases (h.mine _ _ hb').1 with h | h
      · omega
      · exact hm h
    · intro hb'
      rcases (h.lmine _ hb').1 with h | h
      · omega
      · exact hm h

end Go.Am
/- Am, part 8: slots are written, sites' parts are written and taken out. -/
set_option linter.unusedVariables false
set_option linter.unusedSimpArgs false
namespace Go.Am

theorem getD_put (a : Act) (d : Nat) (v : Value) (i : Nat) : (a.put (some d) v).tmps.getD i undef = if i = d ∧ d < a.tmps.size then v else a.tmps.getD i undef := by
  simp only [Act.put, Array.getD_eq_getD_getElem?, Array.getElem?_setIfInBounds]
  by_cases h : d = i
  · subst h
    by_cases h2 : d < a.tmps.size
    · simp [h2]
    · simp [h2]
  · have h' : ¬ i = d := fun e => h e.symm
    simp [h, h']

theorem RelG.put {C A a w G L} (h : RelG C A a w G L) (d : Option Nat) (v : SV) (u : Value) (hv : SVr w (Sof C w G L) A.site G v u) : RelG C (A.put d v) (a.put d u) w G L := by
  cases d with
  | none => exact h
  | some d =>
    refine { h with slots := fun i => ?_, sites := fun s => ?_, defers := h.defers, len := ?_, pin := fun q hq => by rw [site_put]; exact h.pin q hq, pinlen := fun q hq => by rw [length_put]; exact h.pinlen q hq }
    · rw [site_put', slot_put, getD_put, h.len]
      split
      · exact hv
      · exact h.slots i
    · rw [site_put]; exact h.sites s
    · rw [length_put]; simp [Act.put, h.len]

theorem SVr_dead (w S σ G) (u : Value) : SVr w S σ G .dead u := ⟨[u], by simp [SC], rfl⟩

theorem slot_map (A : St) (f : SV → SV) (hf : f .dead = .dead) (i : Nat) : (St.slot { A with slots := A.slots.map f } i) = f (A.slot i) := nth_map _ f hf _ _

theorem RelG.kill {C A a w G L} (h : RelG C A a w G L) (f : SV → Bool) : RelG C { A with slots := A.slots.map fun v => if f v then .dead else v } a w G L := by
  refine { h with slots := fun i => ?_, sites := h.sites, len := by simp [h.len], pin := h.pin, pinlen := fun q hq => by simpa using h.pinlen q hq }
  rw [slot_map _ _ (by simp)]
  have := h.slots i
  split
  · exact SVr_dead _ _ _ _ _
  · exact this

/-- A slot may be forgotten. -/
theorem RelG.forget {C A a w G L} (h : RelG C A a w G L) (A' : St) (hs : A'.sites = A.sites) (hl : A'.slots.length = A.slots.length) (hi : ∀ i, A'.slot i = A.slot i ∨ A'.slot i = .dead) : RelG C A' a w G L := by
  have hsite : A'.site = A.site := by funext s; simp [St.site, hs]
  refine { h with slots := fun i => ?_, sites := fun s => by rw [hsite]; exact h.sites s, len := by rw [hl]; exact h.len, pin := fun q hq => by rw [hsite]; exact h.pin q hq, pinlen := fun q hq => by rw [hl]; exact h.pinlen q hq }
  rw [hsite]
  rcases hi i with e | e
  · rw [e]; exact h.slots i
  · rw [e]; exact SVr_dead _ _ _ _ _

theorem Goes.refl (w : World) : Goes w w := ⟨rfl, rfl, rfl, Nat.le_refl _⟩
theorem Goes.drew (w : World) (n : Nat) : Goes w { w with drawn := n } := ⟨rfl, rfl, rfl, Nat.le_refl _⟩
theorem size_alloc (w : World) (o : Obj) : (w.alloc o).heap.size = w.heap.size + 1 := Array.size_push _
theorem Goes.alloc (w : World) (o : Obj) : Goes w (w.alloc o) := ⟨rfl, rfl, rfl, by rw [size_alloc]; omega⟩
theorem Goes.setRow (w : World) (g : Nat) (cs : Array Value) : Goes w (w.setRow g cs) := ⟨rfl, rfl, rfl, by simp [World.setRow]⟩
theorem Goes.trans {a b c : World} (h : Goes a b) (k : Goes b c) : Goes a c := ⟨k.os.trans h.os, k.tape.trans h.tape, k.output.trans h.output, Nat.le_trans h.size k.size⟩

theorem nth_none : ∀ (l : List Site), nth .none l l.length = .none
  | [] => rfl
  | _ :: l => nth_none l

theorem Kept.all {w w' : World} {A : St} {G : Nat → GS} {S : Nat → Prop} (hs : ∀ s, SiteR w S (A.site s) (G s)) (hF : ∀ s, ∀ b ∈ (G s).F, w'.heap[b]? = w.heap[b]?) : Kept w w' A A G G := by
  intro i
  refine .inr ⟨rfl, ?_⟩
  have : ∀ v : SV, v.every fun r s p => Lives w w' (A.site s) (A.site s) (G s) (G s) r p := by
    intro v
    induction v with
    | dead => trivial
    | val t x => trivial
    | pr a b ha hb => exact ⟨ha, hb⟩
    | ref s p => exact Lives.same (hs s) (hF s) _ _
    | ptr s p => exact Lives.same (hs s) (hF s) _ _
    | ro t x => trivial
    | nilp => trivial
    | fn f c hc => exact hc
    | tnil => trivial
    | tcons a b ha hb => exact ⟨ha, hb⟩
  exact this _

/-- What is in limbo may change; new blocks may come into it. -/
theorem RelG.limbo {C A a w G L} (h : RelG C A a w G L) (w' : World) (L' : List Nat) (hgo : Goes w w') (hsame : ∀ b, b < w.heap.size → b ∉ L → w'.heap[b]? = w.heap[b]?)
    (hL : ∀ b ∈ L', (b ∈ L ∨ w.heap.size ≤ b) ∧ b < w'.heap.size) (hLn : L'.Nodup) : RelG C A a w' G L' := by
  have hn : A.site A.sites.length = .none := nth_none _
  have hF : (G A.sites.length).F = [] := by have := h.sites A.sites.length; rw [hn] at this; exact this
  have e : upd G A.sites.length (G A.sites.length) = G := by funext s; simp only [upd]; split <;> simp_all
  have := RelG.site h (A' := A) (L' := L') A.sites.length (G A.sites.length) hgo (fun b hb _ hl => hsame b hb hl) (fun _ _ => rfl) rfl
    (by rw [hF]; simp) (by rw [hF]; simp) (fun b hb => ⟨by rcases (hL b hb).1 with h | h <;> simp [h], (hL b hb).2⟩) hLn (by rw [hF]; simp)
    (fun S' _ _ => by rw [hn]; exact hF)
    (by rw [e]; exact Kept.all h.sites fun s b hb => hsame b (h.mine _ _ hb).2 (h.lapart _ _ hb))
    (fun q' hq' e' => h.nopin (fun T t x e => by rw [hn] at e; cases e) q' hq' e')
  rwa [e] at this

theorem RelG.alloc {C A a w G L} (h : RelG C A a w G L) (o : Obj) : RelG C A a (w.alloc o) G (w.heap.size :: L) :=
  h.limbo _ _ (Goes.alloc _ _) (fun b hb _ => heap_alloc_old w o b hb)
    (fun b hb => by
      rcases List.mem_cons.1 hb with rfl | hb
      · exact ⟨.inr (Nat.le_refl _), by rw [size_alloc]; omega⟩
      · exact ⟨.inl hb, by have := (h.lmine b hb).2; rw [size_alloc]; omega⟩)
    (List.nodup_cons.2 ⟨fun hm => by have := (h.lmine _ hm).2; omega, h.lnodup⟩)

theorem RelG.drew {C A a w G L} (h : RelG C A a w G L) (n : Nat) : RelG C A a { w with drawn := n } G L :=
  h.limbo _ _ (Goes.drew _ _) (fun _ _ _ => rfl) (fun b hb => ⟨.inl hb, (h.lmine b hb).2⟩) h.lnodup

theorem RelG.setRow {C A a w G L} (h : RelG C A a w G L) {b : Nat} (hb : b ∈ L) (cs : Array Value) : RelG C A a (w.setRow b cs) G L :=
  h.limbo _ _ (Goes.setRow _ _ _) (fun c _ hc => setRow_other w b c cs (fun e => hc (e ▸ hb))) (fun b hb => ⟨.inl hb, by have := (h.lmine b hb).2; simpa [World.setRow] using this⟩) h.lnodup

/-- What is in limbo may be let go. -/
theorem RelG.drop {C A a w G L} (h : RelG C A a w G L) {L' : List Nat} (hs : ∀ b ∈ L', b ∈ L) (hn : L'.Nodup) : RelG C A a w G L' :=
  h.limbo _ _ (Goes.refl _) (fun _ _ _ => rfl) (fun b hb => ⟨.inl (hs b hb), (h.lmine b (hs b hb)).2⟩) hn

/-- S grows where limbo shrinks. -/
theorem Sof_drop {C w G L L'} (hs : ∀ b ∈ L', b ∈ L) (b : Nat) (h : Sof C w G L b) : Sof C w G L' b := ⟨h.1, h.2.1, h.2.2.1, fun hb => h.2.2.2 (hs b hb)⟩

theorem tree_site {A : St} {s : Nat} {t : Ty} {x : Val t} (h : A.tree s = some ⟨t, x⟩) : A.site s = .tmp t x ∨ ∃ T, A.site s = .var T t x := by
  unfold St.tree at h
  split at h
  · cases h
  · rename_i t' x' e; simp at h; obtain ⟨rfl, h⟩ := h; obtain rfl := eq_of_heq h; exact .inl e
  · rename_i T t' x' e; simp at h; obtain ⟨rfl, h⟩ := h; obtain rfl := eq_of_heq h; exact .inr ⟨T, e⟩

theorem At_nil {w t cs loc p t' cs' loc'} (h : At w t cs loc p t' cs' loc') (hp : p = []) : t' = t ∧ cs' = (cs.drop 0).take (cells t) ∧ loc' = loc.map (fun q => (q.1, q.2 + 0)) := by
  cases h with
  | plain h =>
    subst hp
    simp [offs] at h
    obtain ⟨rfl, rfl⟩ := h
    exact ⟨rfl, rfl, rfl⟩
  | own h hc hb hi hq => simp at hp

/-- A part of a site's tree: what it is, and another one in its place. -/
theorem part {C A a w G L} (h : RelG C A a w G L) {s : Nat} {t : Ty} {x : Val t} (ht : A.tree s = some ⟨t, x⟩) {p t' cs' loc'} (hAt : AtS w (A.site s) (G s) p t' cs' loc') :
    ∃ x' F', getAt t x p = some ⟨t', x'⟩ ∧ R w (Sof C w G L) t' x' cs' F' ∧ (∀ b ∈ F', b ∈ (G s).F) ∧ F'.Nodup ∧
      (∀ b o, loc' = some (b, o) → b ∈ (G s).F ∧ b ∉ F' ∧ ∃ cur T, w.heap[b]? = some (.cells cur T (0, 0)) ∧ cs' = (cur.toList.drop o).take (cells t') ∧ o + cells t' ≤ cur.size) ∧
      ∀ {w' : World} {u : Ty} {y : Val u} {tn : Ty} {xn : Val tn} {cs'' : List Value} {F'' L' : List Nat} (k : SV → Bool),
        setAt t x p u y = some ⟨tn, xn⟩ → Goes w w' →
        (∀ c, c < w.heap.size → c ∉ L → (∀ b o, loc' = some (b, o) → c ≠ b) → w'.heap[c]? = w.heap[c]?) → (∀ c ∈ L, w'.heap[c]? = w.heap[c]?) →
        (∀ b o, loc' = some (b, o) → ∀ cur T, w.heap[b]? = some (.cells cur T (0, 0)) → w'.heap[b]? = some (.cells (cur.toList.take o ++ cs'' ++ cur.toList.drop (o + cells t')).toArray T (0, 0))) →
        (loc' = none → cs'' = cs') →
        (∀ b ∈ F'', b ∈ L) → F''.Nodup → (∀ b ∈ L', b ∈ L ∨ b ∈ F') → L'.Nodup → (∀ b ∈ F'', b ∉ L') →
        (∀ S' : Nat → Prop, (∀ b, Sof C w G L b → S' b ∧ w'.heap[b]? = w.heap[b]?) → (∀ b, b ∈ L → b ∉ F'' → b ∉ L' → S' b) → R w' S' u y cs'' F'') →
        ((noOwn t' = true ∧ u = t') ∨ ∀ v : SV, k v = false → v.every fun r s' q => s' = s → (r = false ∧ q = []) ∨ shapePre p q = false) →
        k .dead = false →
        ∃ g, RelG C { (A.setSite s ((A.site s).with tn xn)) with slots := A.slots.map fun v => if k v then .dead else v } a w' (upd G s g) L' ∧
          (∀ b ∈ g.F, b ∈ (G s).F ∨ b ∈ L) ∧
          (∀ v : SV, k v = false → v.every fun r s' q => Lives w w' (A.site s') ((A.setSite s ((A.site s).with tn xn)).site s') (G s') (upd G s g s') r q) ∧ g.blk = (G s).blk := by
  -- the tree's own view
  obtain ⟨cs0, F0, loc0, hr0, hn0, hAt0, hF0⟩ : ∃ cs0 F0 loc0, R w (Sof C w G L) t x cs0 F0 ∧ F0.Nodup ∧ At w t cs0 loc0 p t' cs' loc' ∧
      ((A.site s = .tmp t x ∧ cs0 = (G s).cs ∧ F0 = (G s).F ∧ loc0 = none) ∨
       (∃ T, A.site s = .var T t x ∧ cs0 = (G s).cs ∧ (G s).F = (G s).blk :: F0 ∧ loc0 = some ((G s).blk, 0) ∧ w.heap[(G s).blk]? = some (.cells (G s).cs.toArray T (0, 0)))) := by
    have hs := h.sites s
    have hn := h.nodup s
    rcases tree_site ht with e | ⟨T, e⟩
    · rw [e] at hs hAt
      exact ⟨_, _, none, hs, hn, hAt, .inl ⟨e, rfl, rfl, rfl⟩⟩
    · rw [e] at hs hAt
      obtain ⟨F', e1, h1, hr⟩ := hs
      rw [e1] at hn
      exact ⟨_, F', _, hr, (List.nodup_cons.1 hn).2, hAt, .inr ⟨T, e, rfl, e1, rfl, h1⟩⟩
  have hF0s : ∀ b ∈ F0, b ∈ (G s).F := by
    intro b hb
    rcases hF0 with ⟨_, _, rfl, _⟩ | ⟨T, _, _, e, _⟩
    · exact hb
    · rw [e]; simp [hb]
  have hroot : ∀ b o, loc0 = some (b, o) → b ∉ F0 ∧ b ∈ (G s).F := by
    intro b o e
    rcases hF0 with ⟨_, _, _, rfl⟩ | ⟨T, _, _, e1, rfl, _⟩
    · cases e
    · simp only [Option.some.injEq, Prod.mk.injEq] at e
      obtain ⟨rfl, _⟩ := e
      have hn := h.nodup s
      rw [e1] at hn
      exact ⟨(List.nodup_cons.1 hn).1, by rw [e1]; simp⟩
  obtain ⟨x', F1, F', F2, f1, f2, f3, f4⟩ := At_focus hAt0 x F0 hr0 hn0
  have hF'F0 : ∀ b ∈ F', b ∈ F0 := fun b hb => by rw [f2]; simp [hb]
  refine ⟨x', F', f1, f3, fun b hb => hF0s b (hF'F0 b hb), ?_, ?_, ?_⟩
  · rw [f2] at hn0; exact (List.nodup_append.1 (List.nodup_append.1 hn0).1).2.1
  · -- where it lies
    intro b o e
    rcases f4 with ⟨o1, g1, g2, g3, _⟩ | ⟨b1, o1, cur, T, g1, g2, g3, g4, g5, _⟩
    · rw [g2] at e
      rcases hF0 with ⟨_, _, _, rfl⟩ | ⟨T, hs1, rfl, e1, rfl, hb1⟩
      · cases e
      · simp only [Option.map_some, Option.some.injEq, Prod.mk.injEq] at e
        obtain ⟨rfl, rfl⟩ := e
        refine ⟨by rw [e1]; simp, fun hb => (hroot _ _ rfl).1 (hF'F0 _ hb), _, _, hb1, ?_, ?_⟩
        · rw [g3, List.toList_toArray, Nat.zero_add]
        · have := offs_le _ _ _ _ g1
          have := R_len _ _ _ _ hr0
          simp; omega
    · rw [g1] at e
      simp only [Option.some.injEq, Prod.mk.injEq] at e
      obtain ⟨rfl, rfl⟩ := e
      refine ⟨hF0s _ (by rw [f2]; simp [g2]), fun hb => ?_, cur, T, g3, g4, g5⟩
      rw [f2] at hn0
      exact (List.nodup_append.1 (List.nodup_append.1 hn0).1).2.2 _ g2 _ hb rfl
  · -- another one in its place
    intro w' u y tn xn cs'' F'' L' k hset hgo hsame hLsame hmem hnone hF'' hF''n hL' hL'n hFL hu hk hkd
    -- blocks of the tree, but the one that is written
    have hF0same : ∀ c ∈ F0, (∀ b o, loc' = some (b, o) → c ≠ b) → w'.heap[c]? = w.heap[c]? := fun c hc hne =>
      hsame c (h.mine s c (hF0s c hc)).2 (h.lapart s c (hF0s c hc)) hne
    have hcl : cs''.length = cells t' := by
      have hyu := hu (fun _ => True) (fun b hb => ⟨trivial, hsame b hb.1 hb.2.2.2 fun b' o e heq => ?_⟩) (fun _ _ _ _ => trivial)
      · rw [R_len _ _ _ _ hyu]
        obtain ⟨t2, x2, q1, q2, _⟩ := setAt_part _ _ _ _ _ _ hset
        rw [f1] at q1
        simp only [Option.some.injEq, Sigma.mk.injEq] at q1
        obtain ⟨rfl, _⟩ := q1
        exact q2
      · -- a block of S is none that is written
        subst heq
        rcases f4 with ⟨o1, g1, g2, g3, _⟩ | ⟨b1, o1, cur, T, g1, g2, g3, g4, g5, _⟩
        · rw [g2] at e
          cases hl0 : loc0 with
          | none => rw [hl0] at e; cases e
          | some q =>
            rw [hl0] at e
            simp only [Option.map_some, Option.some.injEq, Prod.mk.injEq] at e
            have := (hroot q.1 q.2 (by rw [hl0])).2
            rw [e.1] at this
            exact hb.2.2.1 _ this
        · rw [g1] at e
          simp only [Option.some.injEq, Prod.mk.injEq] at e
          obtain ⟨rfl, _⟩ := e
          exact hb.2.2.1 _ (hF0s _ (by rw [f2]; simp [g2]))
    -- the site's new tree, and how its memory changed
    obtain ⟨csn, hst, hX⟩ : ∃ csn, Stored w w' t cs0 p t' loc' cs'' csn F0 ∧ ∀ S' : Nat → Prop, (∀ b, Sof C w G L b → S' b ∧ w'.heap[b]? = w.heap[b]?) → R w' S' u y cs'' F'' → R w' S' tn xn csn (F1 ++ F'' ++ F2) := by
      have h12 : ∀ c ∈ F1 ++ F2, c ∈ F0 := fun c hc => by rw [f2]; simp at hc ⊢; rcases hc with h | h <;> simp [h]
      rcases f4 with ⟨o1, g1, g2, g3, g4⟩ | ⟨b1, o1, cur, T, g1, g2, g3, g4, g5, g6⟩
      · have hF0all : ∀ c ∈ F0, w'.heap[c]? = w.heap[c]? := fun c hc => hF0same c hc (fun b o e heq => by
          rw [g2] at e
          cases hl0 : loc0 with
          | none => rw [hl0] at e; cases e
          | some q =>
            rw [hl0] at e
            simp only [Option.map_some, Option.some.injEq, Prod.mk.injEq] at e
            have := (hroot q.1 q.2 (by rw [hl0])).1
            rw [e.1, ← heq] at this
            exact this hc)
        exact ⟨_, .inl ⟨o1, g1, rfl, hF0all⟩, fun S' hS hy => g4 w' S' u y cs'' F'' tn xn hset hy hS (fun c hc => hF0all c (h12 c hc))⟩
      · have hnp : offs t p = none := by
          cases hp : offs t p with
          | none => rfl
          | some r =>
            cases hAt0 with
            | @plain _ _ _ _ o2 _ h2 =>
              exfalso
              cases hl0 : loc0 with
              | none => rw [hl0] at g1; cases g1
              | some q =>
                rw [hl0] at g1
                simp only [Option.map_some, Option.some.injEq, Prod.mk.injEq] at g1
                have := (hroot q.1 q.2 (by rw [hl0])).1
                rw [g1.1] at this
                exact this (by rw [f2]; simp [g2])
            | own h2 hc2 hb2 hi2 hq2 => rw [offs_through _ _ _ _ _ h2 rfl] at hp; cases hp
        have hb' := hmem _ _ g1 _ _ g3
        refine ⟨cs0, .inr ⟨hnp, rfl, b1, o1, cur, T, g1, g3, hb', fun c hc hne => hF0same c hc (fun b o e heq => ?_)⟩, fun S' hS hy => g6 w' S' u y cs'' F'' tn xn hset hy hS (fun c hc hne => hF0same c (h12 c hc) (fun b o e heq => ?_)) hb'⟩
        · rw [g1] at e
          simp only [Option.some.injEq, Prod.mk.injEq] at e
          obtain ⟨rfl, _⟩ := e
          exact hne heq
        · rw [g1] at e
          simp only [Option.some.injEq, Prod.mk.injEq] at e
          obtain ⟨rfl, _⟩ := e
          exact hne heq
    have hFn : (F1 ++ F'' ++ F2).Nodup := by
      rw [f2] at hn0
      have hdis : ∀ b ∈ F'', b ∉ F1 ++ F' ++ F2 := fun b hb hb' => h.lapart s b (hF0s b (by rw [f2]; exact hb')) (hF'' b hb)
      rw [List.nodup_append] at hn0
      obtain ⟨a1, a2, a3⟩ := hn0
      rw [List.nodup_append] at a1
      rw [List.nodup_append, List.nodup_append]
      refine ⟨⟨a1.1, hF''n, fun b hb c hc e => hdis c hc (by rw [← e]; simp [hb])⟩, a2, fun b hb c hc e => ?_⟩
      rcases List.mem_append.1 hb with hb | hb
      · exact a3 b (by simp [hb]) c hc e
      · exact hdis b hb (by rw [e]; simp [hc])
    have hF1' : ∀ b, b ∈ F1 ++ F2 → b ∉ F' := by
      intro b hb hb'
      rw [f2] at hn0
      rw [List.nodup_append] at hn0
      rcases List.mem_append.1 hb with hb | hb
      · exact (List.nodup_append.1 hn0.1).2.2 b hb b hb' rfl
      · exact hn0.2.2 b (by simp [hb']) b hb rfl
    have hFnm : ∀ b ∈ F1 ++ F'' ++ F2, b ∈ F0 ∨ b ∈ L := by
      intro b hb
      simp only [List.mem_append] at hb
      rcases hb with (hb | hb) | hb
      · left; rw [f2]; simp [hb]
      · right; exact hF'' b hb
      · left; rw [f2]; simp [hb]
    have hFnL : ∀ b ∈ F1 ++ F'' ++ F2, b ∉ L' := by
      intro b hb hb'
      simp only [List.mem_append] at hb
      have key : ∀ b, b ∈ F1 ++ F2 → b ∉ L' := by
        intro b hb hb'
        rcases hL' b hb' with h1 | h1
        · exact h.lapart s b (hF0s b (by rw [f2]; simp at hb ⊢; rcases hb with h | h <;> simp [h])) h1
        · exact hF1' b hb h1
      rcases hb with (hb | hb) | hb
      · exact key b (by simp [hb]) hb'
      · exact hFL b hb hb'
      · exact key b (by simp [hb]) hb'
    have hL'm : ∀ b ∈ L', b ∈ (G s).F ∨ b ∈ L := fun b hb => (hL' b hb).elim .inr fun hb => .inl (hF0s b (hF'F0 b hb))
    have hlt : ∀ b, b ∈ (G s).F ∨ b ∈ L → b < w'.heap.size := fun b hb => Nat.lt_of_lt_of_le (hb.elim (fun hb => (h.mine s b hb).2) fun hb => (h.lmine b hb).2) hgo.size
    have hsame' : ∀ b, b < w.heap.size → b ∉ (G s).F → b ∉ L → w'.heap[b]? = w.heap[b]? := by
      intro b hb h1 h2
      refine hsame b hb h2 fun b' o e heq => ?_
      subst heq
      rcases f4 with ⟨o1, g1, g2, g3, _⟩ | ⟨b1, o1, cur, T, g1, g2, g3, g4, g5, _⟩
      · rw [g2] at e
        cases hl0 : loc0 with
        | none => rw [hl0] at e; cases e
        | some q =>
          rw [hl0] at e
          simp only [Option.map_some, Option.some.injEq, Prod.mk.injEq] at e
          have := (hroot q.1 q.2 (by rw [hl0])).2
          rw [e.1] at this
          exact h1 this
      · rw [g1] at e
        simp only [Option.some.injEq, Prod.mk.injEq] at e
        obtain ⟨rfl, _⟩ := e
        exact h1 (hF0s _ (by rw [f2]; simp [g2]))
    have hfree : ∀ S' : Nat → Prop, (∀ b, b ∈ (G s).F ∨ b ∈ L → b ∉ F1 ++ F'' ++ F2 → (∀ o, loc0 ≠ some (b, o)) → b ∉ L' → S' b) → ∀ b, b ∈ L → b ∉ F'' → b ∉ L' → S' b := by
      intro S' hS' b hb h1 h2
      refine hS' b (.inr hb) (fun hm => ?_) (fun o e => h.lapart s b (hroot b o e).2 hb) h2
      simp only [List.mem_append] at hm
      rcases hm with (hm | hm) | hm
      · exact h.lapart s b (hF0s b (by rw [f2]; simp [hm])) hb
      · exact h1 hm
      · exact h.lapart s b (hF0s b (by rw [f2]; simp [hm])) hb
    have hlive : ∀ g : GS, g.cs = csn → g.blk = (G s).blk → ∀ v : SV, k v = false →
        v.every fun r s' q => Lives w w' (A.site s') ((A.setSite s ((A.site s).with tn xn)).site s') (G s') (upd G s g s') r q := by
      intro g hg1 hg2 v hkv
      have hev : v.every fun r s' q => (noOwn t' = true ∧ u = t') ∨ (s' = s → (r = false ∧ q = []) ∨ shapePre p q = false) := by
        rcases hk with hk | hk
        · have : ∀ v : SV, v.every fun r s' q => (noOwn t' = true ∧ u = t') ∨ (s' = s → (r = false ∧ q = []) ∨ shapePre p q = false) := by
            intro v
            induction v with
            | dead => trivial
            | val t x => trivial
            | pr a b ha hb => exact ⟨ha, hb⟩
            | ref s p => exact .inl hk
            | ptr s p => exact .inl hk
            | ro t x => trivial
            | nilp => trivial
            | fn f c hc => exact hc
            | tnil => trivial
            | tcons a b ha hb => exact ⟨ha, hb⟩
          exact this _
        · exact every_mono (fun r s p h => .inr h) _ (hk _ hkv)
      refine every_mono (fun r s' q hq => ?_) _ hev
      show Lives w w' (A.site s') ((A.setSite s ((A.site s).with tn xn)).site s') (G s') (upd G s g s') r q
      rw [site_setSite]
      by_cases e : s' = s
      · subst e
        rw [if_pos rfl, upd_same]
        have hAtn : ∀ tq csq locq, AtS w (A.site s') (G s') q tq csq locq → At w t cs0 loc0 q tq csq locq := by
          intro tq csq locq hh
          rcases hF0 with ⟨e1, rfl, _, rfl⟩ | ⟨T, e1, rfl, _, rfl, _⟩ <;> (rw [e1] at hh; exact hh)
        have hAtn' : ∀ tq csq locq, At w' tn csn loc0 q tq csq locq → AtS w' ((A.site s').with tn xn) g q tq csq locq := by
          intro tq csq locq hh
          rcases hF0 with ⟨e1, _, _, rfl⟩ | ⟨T, e1, _, _, rfl, _⟩
          · rw [e1]; show At w' tn g.cs none q tq csq locq; rw [hg1]; exact hh
          · rw [e1]; show At w' tn g.cs (some (g.blk, 0)) q tq csq locq; rw [hg1, hg2]; exact hh
        intro tq csq locq hh hr
        have hh' := hAtn _ _ _ hh
        by_cases hroot0 : r = false ∧ q = []
        · obtain ⟨rfl, rfl⟩ := hroot0
          obtain ⟨rfl, _, rfl⟩ := At_nil hh' rfl
          exact ⟨tn, _, hAtn' tn _ _ (.plain (p := []) (o := 0) (t' := tn) (by simp [offs])), by simp⟩
        · have hor : shapePre p q = false ∨ (noOwn t' = true ∧ u = t') := by
            rcases hq with hq | hq
            · exact .inr hq
            · exact .inl ((hq rfl).resolve_left hroot0)
          obtain ⟨tq', csq', q1, q2⟩ := At_other hAt0 x F0 hr0 hn0 u y cs'' csn tn xn hset hcl hst q tq csq locq hh' hor
          refine ⟨tq', csq', hAtn' _ _ _ q1, fun hrt => ?_⟩
          obtain ⟨e, t1, he⟩ := hr hrt
          exact q2 e t1 he
      · rw [if_neg e, upd_ne _ _ e]
        exact Lives.same (h.sites s') (fun b hb => hsame' b (h.mine _ _ hb).2 (h.apart _ _ e b hb) (h.lapart _ _ hb)) _ _
    have hkept : ∀ g : GS, g.cs = csn → g.blk = (G s).blk →
        Kept w w' A { (A.setSite s ((A.site s).with tn xn)) with slots := A.slots.map fun v => if k v then .dead else v } G (upd G s g) := by
      intro g hg1 hg2 i
      have hsl := slot_map (A.setSite s ((A.site s).with tn xn)) (fun v => if k v then .dead else v) (by simp [hkd]) i
      rw [slots_setSite, slot_setSite] at hsl
      cases hkv : k (A.slot i) with
      | true => left; rw [hsl, hkv]; rfl
      | false => exact .inr ⟨by rw [hsl, hkv]; rfl, hlive g hg1 hg2 _ hkv⟩
    rcases hF0 with ⟨e1, rfl, rfl, rfl⟩ | ⟨T, e1, rfl, e2, rfl, hb1⟩
    · refine ⟨⟨csn, F1 ++ F'' ++ F2, (G s).blk⟩, ?_, fun b hb => hFnm b hb, hlive _ rfl rfl, rfl⟩
      refine h.site s _ hgo hsame' (fun s' hs' => by show (A.setSite s _).site s' = _; rw [site_setSite, if_neg hs']) (by simp)
        (fun b hb => ⟨by rcases hFnm b hb with h | h <;> simp [h], hlt b ((hFnm b hb).imp (fun h => h) id)⟩) hFn
        (fun b hb => ⟨by rcases hL'm b hb with h | h <;> simp [h], hlt b (hL'm b hb)⟩) hL'n hFnL (fun S' hS hf => ?_) (hkept _ rfl rfl) (fun q' hq' e' => h.nopin (fun T t x e => by rw [e1] at e; cases e) q' hq' e')
      show SiteR w' S' ((A.setSite s _).site s) _
      rw [site_setSite, if_pos rfl, e1]
      exact hX S' hS (hu S' hS (hfree S' (fun b hb h1 _ h2 => hf b hb h1 h2)))
    · refine ⟨⟨csn, (G s).blk :: (F1 ++ F'' ++ F2), (G s).blk⟩, ?_, fun b hb => ?_, hlive _ rfl rfl, rfl⟩
      rotate_left
      · rcases List.mem_cons.1 hb with rfl | hb
        · exact .inl (by rw [e2]; simp)
        · exact (hFnm b hb).imp (hF0s b) id
      refine h.site s _ hgo hsame' (fun s' hs' => by show (A.setSite s _).site s' = _; rw [site_setSite, if_neg hs']) (by simp)
        (fun b hb => ?_) (List.nodup_cons.2 ⟨fun hm => ?_, hFn⟩)
        (fun b hb => ⟨by rcases hL'm b hb with h | h <;> simp [h], hlt b (hL'm b hb)⟩) hL'n (fun b hb => ?_) (fun S' hS hf => ?_) (hkept _ rfl rfl)
        (fun q hq e => ⟨⟨T, tn, xn, by show (A.setSite s _).site s = _; rw [site_setSite, if_pos rfl, e1]; rfl⟩, by have := (h.pin q hq).2; rw [e] at this; exact this⟩)
      · rcases List.mem_cons.1 hb with rfl | hb
        · exact ⟨.inl (by rw [e2]; simp), hlt _ (.inl (by rw [e2]; simp))⟩
        · exact ⟨by rcases hFnm b hb with h | h <;> simp [h, hF0s], hlt b ((hFnm b hb).imp (hF0s b) id)⟩
      · rcases hFnm _ hm with h1 | h1
        · exact (hroot _ _ rfl).1 h1
        · exact h.lapart s _ (hroot _ _ rfl).2 h1
      · rcases List.mem_cons.1 hb with rfl | hb
        · intro hb'
          rcases hL' _ hb' with h1 | h1
          · exact h.lapart s _ (hroot _ _ rfl).2 h1
          · exact (hroot _ _ rfl).1 (hF'F0 _ h1)
        · exact hFnL b hb
      · show SiteR w' S' ((A.setSite s _).site s) _
        rw [site_setSite, if_pos rfl, e1]
        refine ⟨F1 ++ F'' ++ F2, rfl, ?_, hX S' hS (hu S' hS (hfree S' (fun b hb h1 h3 h2 => hf b hb (fun hm => ?_) h2)))⟩
        · -- its own block
          rcases hst with ⟨o, g1, rfl, _⟩ | ⟨g1, rfl, b, o, cur, T', g2, g3, g4, g5⟩
          · cases hAt0 with
            | @plain _ _ _ _ o2 _ h2 =>
              rw [g1] at h2
              simp only [Option.some.injEq, Prod.mk.injEq] at h2
              obtain ⟨rfl, _⟩ := h2
              have := hmem _ _ rfl _ _ hb1
              simpa using this
            | own h2 hc2 hb2 hi2 hq2 => rw [offs_through _ _ _ _ _ h2 rfl] at g1; cases g1
          · rw [hsame _ (h.mine s _ (hroot _ _ rfl).2).2 (h.lapart s _ (hroot _ _ rfl).2) (fun b' o' e heq => ?_)]
            · exact hb1
            · rw [g2] at e
              simp only [Option.some.injEq, Prod.mk.injEq] at e
              obtain ⟨rfl, _⟩ := e
              rcases f4 with ⟨o1, k1, _⟩ | ⟨b1, o1, cur', T1, k1, k2, _⟩
              · rw [k1] at g1; cases g1
              · rw [g2] at k1
                simp only [Option.some.injEq, Prod.mk.injEq] at k1
                obtain ⟨rfl, _⟩ := k1
                exact (hroot _ _ rfl).1 (by rw [heq, f2]; simp [k2])
        · rcases List.mem_cons.1 hm with rfl | hm
          · exact h3 0 rfl
          · exact h1 hm

end Go.Am
/- Am, part 9: trees are taken out of slots, turned, put into slots. -/
set_option linter.unusedVariables false
set_option linter.unusedSimpArgs false
namespace Go.Am

theorem beneath_every {s : Nat} {p : Path} : ∀ (v : SV), v.beneath s p = false → v.every fun r s' q => s' = s → (r = false ∧ q = []) ∨ shapePre p q = false
  | .dead, _ => trivial
  | .val _ _, _ => trivial
  | .ro _ _, _ => trivial
  | .nilp, _ => trivial
  | .tnil, _ => trivial
  | .pr a b, h => by
    simp only [SV.beneath, Bool.or_eq_false_iff] at h
    exact ⟨beneath_every a h.1, beneath_every b h.2⟩
  | .tcons a b, h => by
    simp only [SV.beneath, Bool.or_eq_false_iff] at h
    exact ⟨beneath_every a h.1, beneath_every b h.2⟩
  | .fn f c, h => beneath_every c (by simpa [SV.beneath] using h)
  | .ref s' q, h => by
    simp only [SV.every]
    rintro rfl
    simp [SV.beneath] at h
    exact .inr h
  | .ptr s' q, h => by
    simp only [SV.every]
    rintro rfl
    simp [SV.beneath] at h
    by_cases e : q = []
    · exact .inl ⟨trivial, e⟩
    · exact .inr (h e)

theorem clash_beneath {s : Nat} {p : Path} : ∀ (v : SV), (SV.ref s p).clash v = false → v.beneath s p = false
  | .dead, _ => rfl
  | .val _ _, _ => rfl
  | .ro _ _, _ => rfl
  | .nilp, _ => rfl
  | .tnil, _ => rfl
  | .pr a b, h => by
    simp only [SV.clash, Bool.or_eq_false_iff] at h
    simp [SV.beneath, clash_beneath a h.1, clash_beneath b h.2]
  | .tcons a b, h => by
    simp only [SV.clash, Bool.or_eq_false_iff] at h
    simp [SV.beneath, clash_beneath a h.1, clash_beneath b h.2]
  | .fn f c, h => by
    simp only [SV.clash] at h
    simp [SV.beneath, clash_beneath c h]
  | .ref s' q, h => by
    simp [SV.clash, SV.hits] at h
    simp [SV.beneath]
    intro e; exact h e.symm
  | .ptr s' q, h => by
    simp [SV.clash, SV.hits] at h
    simp [SV.beneath]
    intro e _; exact h e.symm

theorem clash_names {s : Nat} : ∀ (v : SV), (SV.ref s []).clash v = false → v.names s = false
  | .dead, _ => rfl
  | .val _ _, _ => rfl
  | .ro _ _, _ => rfl
  | .nilp, _ => rfl
  | .tnil, _ => rfl
  | .pr a b, h => by
    simp only [SV.clash, Bool.or_eq_false_iff] at h
    simp [SV.names, clash_names a h.1, clash_names b h.2]
  | .tcons a b, h => by
    simp only [SV.clash, Bool.or_eq_false_iff] at h
    simp [SV.names, clash_names a h.1, clash_names b h.2]
  | .fn f c, h => by
    simp only [SV.clash] at h
    simp [SV.names, clash_names c h]
  | .ref s' q, h => by
    simp [SV.clash, SV.hits, shapePre] at h
    simp [SV.names]
    intro e; exact h e.symm
  | .ptr s' q, h => by
    simp [SV.clash, SV.hits, shapePre] at h
    simp [SV.names]
    intro e; exact h e.symm

theorem names_every {w w' : World} {S : Nat → Prop} {A A' : St} {G : Nat → GS} {s : Nat} {g : GS} (hs : ∀ s', s' ≠ s → SiteR w S (A.site s') (G s')) (hF : ∀ s', s' ≠ s → ∀ b ∈ (G s').F, w'.heap[b]? = w.heap[b]?)
    (he : ∀ s', s' ≠ s → A'.site s' = A.site s') : ∀ (v : SV), v.names s = false → v.every fun r s' q => Lives w w' (A.site s') (A'.site s') (G s') (upd G s g s') r q := by
  intro v
  induction v with
  | dead => intro _; trivial
  | val t x => intro _; trivial
  | ro t x => intro _; trivial
  | nilp => intro _; trivial
  | tnil => intro _; trivial
  | pr a b ha hb => intro h; simp only [SV.names, Bool.or_eq_false_iff] at h; exact ⟨ha h.1, hb h.2⟩
  | tcons a b ha hb => intro h; simp only [SV.names, Bool.or_eq_false_iff] at h; exact ⟨ha h.1, hb h.2⟩
  | fn f c hc => intro h; exact hc (by simpa [SV.names] using h)
  | ref s' p =>
    intro h
    have hne : s' ≠ s := by simp [SV.names] at h; exact fun e => h e.symm
    show Lives w w' (A.site s') (A'.site s') (G s') (upd G s g s') true p
    rw [he s' hne, upd_ne _ _ hne]
    exact Lives.same (hs s' hne) (hF s' hne) _ _
  | ptr s' p =>
    intro h
    have hne : s' ≠ s := by simp [SV.names] at h; exact fun e => h e.symm
    show Lives w w' (A.site s') (A'.site s') (G s') (upd G s g s') false p
    rw [he s' hne, upd_ne _ _ hne]
    exact Lives.same (hs s' hne) (hF s' hne) _ _

/-- A site goes away; what it owned is in limbo; who named it is dead. -/
theorem RelG.dropSite {C A a w G L} (h : RelG C A a w G L) (s : Nat) (k : SV → Bool) (hk : ∀ v, k v = false → v.names s = false) (hkd : k .dead = false) (hnv : ∀ q : Nat × Nat, q ∈ C.pins → q.1 = s → False) :
    RelG C { (A.setSite s .none) with slots := A.slots.map fun v => if k v then .dead else v } a w (upd G s ⟨[], [], 0⟩) (L ++ (G s).F) ∧
      (∀ v : SV, v.names s = false → v.every fun r s' q => Lives w w (A.site s') ((A.setSite s .none).site s') (G s') (upd G s ⟨[], [], 0⟩ s') r q) := by
  have hlive : ∀ v : SV, v.names s = false → v.every fun r s' q => Lives w w (A.site s') ((A.setSite s .none).site s') (G s') (upd G s ⟨[], [], 0⟩ s') r q :=
    names_every (fun s' _ => h.sites s') (fun _ _ _ _ => rfl) (fun s' hne => by rw [site_setSite, if_neg hne])
  refine ⟨h.site s ⟨[], [], 0⟩ (Goes.refl w) (fun _ _ _ _ => rfl) (fun s' hs' => by show (A.setSite s _).site s' = _; rw [site_setSite, if_neg hs']) (by simp) (by simp) (by simp) (fun b hb => ?_) ?_ (by simp) (fun S' _ _ => ?_) (fun i => ?_) (fun q hq e => (hnv q hq e).elim), hlive⟩
  · rcases List.mem_append.1 hb with hb | hb
    · exact ⟨by simp [hb], (h.lmine b hb).2⟩
    · exact ⟨by simp [hb], (h.mine s b hb).2⟩
  · rw [List.nodup_append]
    exact ⟨h.lnodup, h.nodup s, fun b hb c hc e => h.lapart s c hc (e ▸ hb)⟩
  · show SiteR w S' ((A.setSite s _).site s) _
    rw [site_setSite, if_pos rfl]; rfl
  · have hsl := slot_map (A.setSite s .none) (fun v => if k v then .dead else v) (by simp [hkd]) i
    rw [slots_setSite, slot_setSite] at hsl
    cases hkv : k (A.slot i) with
    | true => left; rw [hsl, hkv]; rfl
    | false => exact .inr ⟨by rw [hsl, hkv]; rfl, hlive _ (hk _ hkv)⟩

/-- Sites that are there and are not among T are as they were. -/
def Frm (w w' : World) (A A' : St) (G G' : Nat → GS) (T : Nat → Bool) : Prop :=
  ∀ s, T s = false → A.site s ≠ .none → A'.site s = A.site s ∧ G' s = G s ∧ ∀ b ∈ (G s).F, w'.heap[b]? = w.heap[b]?

theorem Frm.refl (w : World) (A : St) (G : Nat → GS) (T : Nat → Bool) : Frm w w A A G G T := fun _ _ _ => ⟨rfl, rfl, fun _ _ => rfl⟩
theorem Frm.trans {w w1 w2 : World} {A A1 A2 : St} {G G1 G2 : Nat → GS} {T : Nat → Bool} (h : Frm w w1 A A1 G G1 T) (k : Frm w1 w2 A1 A2 G1 G2 T) : Frm w w2 A A2 G G2 T := by
  intro s hs hn
  obtain ⟨h1, h2, h3⟩ := h s hs hn
  obtain ⟨k1, k2, k3⟩ := k s hs (by rw [h1]; exact hn)
  exact ⟨k1.trans h1, k2.trans h2, fun b hb => (k3 b (by rw [h2]; exact hb)).trans (h3 b hb)⟩
theorem Frm.mono {w w1 : World} {A A1 : St} {G G1 : Nat → GS} {T T' : Nat → Bool} (h : Frm w w1 A A1 G G1 T) (ht : ∀ s, T' s = false → T s = false) : Frm w w1 A A1 G G1 T' :=
  fun s hs hn => h s (ht s hs) hn
theorem Frm.site {w w' : World} {A A' : St} {G : Nat → GS} {T : Nat → Bool} (s0 : Nat) (g : GS) (hT : T s0 = true ∨ A.site s0 = .none) (hs : ∀ s, s ≠ s0 → A'.site s = A.site s) (hF : ∀ s, s ≠ s0 → ∀ b ∈ (G s).F, w'.heap[b]? = w.heap[b]?) : Frm w w' A A' G (upd G s0 g) T := by
  intro s h1 h2
  have hne : s ≠ s0 := by rintro rfl; rcases hT with e | e <;> simp_all
  exact ⟨hs s hne, upd_ne _ _ hne, hF s hne⟩

/-- What take does. -/
def Taken (C : Ctx) (A A' : St) (a : Act) (w : World) (G : Nat → GS) (L : List Nat) (v : SV) (r : Sigma Val) (cs : List Value) : Prop :=
  ∃ G' F, RelG C A' a w G' (L ++ F) ∧ R w (Sof C w G' (L ++ F)) r.1 r.2 cs F ∧ (∀ b, Sof C w G L b → Sof C w G' (L ++ F) b) ∧
    (∀ sv : SV, v.clash sv = false → ∀ c, SC w (Sof C w G L) A.site G sv c → SC w (Sof C w G' (L ++ F)) A'.site G' sv c) ∧
    Frm w w A A' G G' (fun s => v.names s)

theorem RelG.tmpR {C A a w G L} (h : RelG C A a w G L) {s t x} (e : A.site s = .tmp t x) : R w (Sof C w G L) t x (G s).cs (G s).F := by
  have := h.sites s; rw [e] at this; exact this

theorem take_ref {s : Nat} {p : Path} {A A' : St} {r : Sigma Val} (h : take (.ref s p) A = some (r, A')) :
    (∃ t x, A.site s = .tmp t x ∧ p = [] ∧ r = ⟨t, x⟩ ∧ A' = (A.setSite s .none).killAll s) ∨
    (∃ t x e u y t' x', A.tree s = some ⟨t, x⟩ ∧ getAt t x p = some ⟨.ow e u, y⟩ ∧ setAt t x p .hole () = some ⟨t', x'⟩ ∧ r = ⟨.ow e u, y⟩ ∧ A' = (A.setSite s ((A.site s).with t' x')).killBelow s p) := by
  unfold take at h
  split at h
  · rename_i t x e
    simp only [Option.some.injEq, Prod.mk.injEq] at h
    obtain ⟨rfl, rfl⟩ := h
    exact .inl ⟨t, x, e, rfl, rfl, rfl⟩
  · split at h
    · rename_i t x htree
      split at h
      · rename_i e u y t' x' hg hs
        simp only [Option.some.injEq, Prod.mk.injEq] at h
        obtain ⟨rfl, rfl⟩ := h
        exact .inr ⟨t, x, e, u, y, t', x', htree, hg, hs, rfl, rfl⟩
      · cases h
    · cases h

theorem take_sound : ∀ (v : SV) {A A' : St} {r : Sigma Val}, take v A = some (r, A') → ∀ {C a w G L cs}, RelG C A a w G L → SC w (Sof C w G L) A.site G v cs → Taken C A A' a w G L v r cs
  | .val t x, A, A', r, hT, C, a, w, G, L, cs, h, hv => by
    simp only [take, Option.some.injEq, Prod.mk.injEq] at hT
    obtain ⟨rfl, rfl⟩ := hT
    simp only [SC] at hv
    exact ⟨G, [], by simpa using h, by simpa using hv, fun b hb => by simpa using hb, fun sv _ c hc => by simpa using hc, Frm.refl _ _ _ _⟩
  | .pr x y, A, A', r, hT, C, a, w, G, L, cs, h, hv => by
    rw [take] at hT
    split at hT
    · cases hT
    rename_i hcl
    split at hT
    rotate_left
    · cases hT
    rename_i ta xa A1 e1
    split at hT
    rotate_left
    · cases hT
    rename_i tb xb A2 e2
    simp only [Option.some.injEq, Prod.mk.injEq] at hT
    obtain ⟨rfl, rfl⟩ := hT
    simp only [SC] at hv
    obtain ⟨c1, c2, rfl, h1, h2⟩ := hv
    obtain ⟨G1, F1, k1, k2, k3, k4, k5⟩ := take_sound x e1 h h1
    obtain ⟨G2, F2, m1, m2, m3, m4, m5⟩ := take_sound y e2 k1 (k4 y (by simpa using hcl) _ h2)
    refine ⟨G2, F1 ++ F2, by rw [← List.append_assoc]; exact m1, ?_, fun b hb => by rw [← List.append_assoc]; exact m3 b (k3 b hb), fun sv hsv c hc => ?_,
      (k5.mono fun s hs => by simp only [SV.names, Bool.or_eq_false_iff] at hs; exact hs.1).trans (m5.mono fun s hs => by simp only [SV.names, Bool.or_eq_false_iff] at hs; exact hs.2)⟩
    · rw [← List.append_assoc]
      exact ⟨c1, c2, F1, F2, rfl, rfl, R_frame (fun b hb => ⟨m3 b hb, rfl⟩) _ _ _ _ (fun _ _ => rfl) k2, m2⟩
    · rw [← List.append_assoc]
      have hx : x.clash sv = false ∧ y.clash sv = false := by
        have key : ∀ sv : SV, (SV.pr x y).clash sv = false → x.clash sv = false ∧ y.clash sv = false := by
          intro sv
          induction sv with
          | dead => intro _; exact ⟨rfl, rfl⟩
          | val t x => intro _; exact ⟨rfl, rfl⟩
          | ro t x => intro _; exact ⟨rfl, rfl⟩
          | nilp => intro _; exact ⟨rfl, rfl⟩
          | tnil => intro _; exact ⟨rfl, rfl⟩
          | pr a b ha hb =>
            intro h; simp only [SV.clash, Bool.or_eq_false_iff] at h ⊢
            exact ⟨⟨(ha h.1).1, (hb h.2).1⟩, ⟨(ha h.1).2, (hb h.2).2⟩⟩
          | tcons a b ha hb =>
            intro h; simp only [SV.clash, Bool.or_eq_false_iff] at h ⊢
            exact ⟨⟨(ha h.1).1, (hb h.2).1⟩, ⟨(ha h.1).2, (hb h.2).2⟩⟩
          | fn f c hc => intro h; simp only [SV.clash] at h ⊢; exact hc h
          | ref s q => intro h; simp only [SV.clash, SV.hits, Bool.or_eq_false_iff] at h ⊢; exact h
          | ptr s q => intro h; simp only [SV.clash, SV.hits, Bool.or_eq_false_iff] at h ⊢; exact h
        exact key sv hsv
      exact m4 sv hx.2 c (k4 sv hx.1 c hc)
  | .ref s p, A, A', r, hT, C, a, w, G, L, cs, h, hv => by
    simp only [SC] at hv
    obtain ⟨e0, t0, loc', hAt⟩ := hv
    rcases take_ref hT with ⟨t, x, e, rfl, rfl, rfl⟩ | ⟨t, x, e1, u, y, t', x', htree, hg, hs, rfl, rfl⟩
    · -- a whole made tree
      have hR := h.tmpR e
      rw [e] at hAt
      obtain ⟨rfl, rfl, _⟩ := At_nil hAt rfl
      have hcs : ((G s).cs.drop 0).take (cells (.ow e0 t0)) = (G s).cs := by rw [List.drop_zero, List.take_of_length_le (by rw [R_len _ _ _ _ hR]; exact Nat.le_refl _)]
      obtain ⟨d1, d2⟩ := h.dropSite s (fun v => v.names s) (fun v hv => hv) rfl (fun q' hq' e' => h.nopin (fun T t x e2 => by rw [e] at e2; cases e2) q' hq' e')
      have hS : ∀ b, Sof C w G L b → Sof C w (upd G s ⟨[], [], 0⟩) (L ++ (G s).F) b := fun b hb => ⟨hb.1, hb.2.1, fun s' => by
        by_cases e : s' = s
        · subst e; rw [upd_same]; simp
        · rw [upd_ne _ _ e]; exact hb.2.2.1 s', by simp [hb.2.2.2, hb.2.2.1 s]⟩
      refine ⟨_, (G s).F, d1, ?_, hS, fun sv hsv c hc => ?_, Frm.site s _ (.inl (by simp [SV.names])) (fun s' hne => by show (A.setSite s .none).site s' = _; rw [site_setSite, if_neg hne]) (fun _ _ _ _ => rfl)⟩
      · rw [hcs]
        exact R_frame (fun b hb => ⟨hS b hb, rfl⟩) _ _ _ _ (fun _ _ => rfl) hR
      · exact SC_frame (fun b hb => ⟨hS b hb, rfl⟩) sv c (d2 sv (clash_names sv hsv)) hc
    · obtain ⟨x2, F', g1, g2, g3, g4, g5, g6⟩ := part h htree hAt
      rw [hg] at g1
      simp only [Option.some.injEq, Sigma.mk.injEq, Ty.ow.injEq] at g1
      obtain ⟨⟨rfl, rfl⟩, g1⟩ := g1
      obtain rfl := eq_of_heq g1
      have hlen := R_len _ _ _ _ g2
      have hone : ∃ c : Value, cs = [c] ∧ c.oneCell' = true := by
        have hl1 : cs.length = 1 := hlen
        obtain ⟨c, rfl⟩ := List.length_eq_one_iff.1 hl1
        exact ⟨c, rfl, R_ones _ _ _ _ g2 c (by simp)⟩
      obtain ⟨g, q1, q2, q3, _⟩ := g6 (w' := w) (cs'' := cs) (F'' := []) (L' := L ++ F') (fun v => v.beneath s p) hs (Goes.refl w) (fun _ _ _ _ => rfl) (fun _ _ => rfl)
        (fun b o e cur T hb => by
          obtain ⟨_, _, cur', T', k1, k2, k3⟩ := g5 b o e
          rw [hb] at k1
          simp only [Option.some.injEq, Obj.cells.injEq, and_true] at k1
          obtain ⟨rfl, rfl⟩ := k1
          rw [hb, k2]
          congr 2
          rw [List.append_assoc, ← List.drop_drop, List.take_append_drop, List.take_append_drop, Array.toArray_toList])
        (fun _ => rfl) (by simp) (by simp) (fun b hb => List.mem_append.1 hb)
        (by rw [List.nodup_append]; exact ⟨h.lnodup, g4, fun b hb c hc e => h.lapart s c (g3 c hc) (e ▸ hb)⟩) (by simp)
        (fun S' _ _ => ⟨hone, rfl⟩) (.inr fun v hv => beneath_every v hv) rfl
      have hS : ∀ b, Sof C w G L b → Sof C w (upd G s g) (L ++ F') b := fun b hb => ⟨hb.1, hb.2.1, fun s' => by
        by_cases e : s' = s
        · subst e; rw [upd_same]
          intro hm
          rcases q2 b hm with hm | hm
          · exact hb.2.2.1 _ hm
          · exact hb.2.2.2 hm
        · rw [upd_ne _ _ e]; exact hb.2.2.1 s', by
          simp only [List.mem_append, not_or]
          exact ⟨hb.2.2.2, fun hm => hb.2.2.1 s (g3 b hm)⟩⟩
      refine ⟨upd G s g, F', q1, R_frame (fun b hb => ⟨hS b hb, rfl⟩) _ _ _ _ (fun _ _ => rfl) g2, hS, fun sv hsv c hc => ?_, Frm.site s _ (.inl (by simp [SV.names])) (fun s' hne => by show (A.setSite s _).site s' = _; rw [site_setSite, if_neg hne]) (fun _ _ _ _ => rfl)⟩
      exact SC_frame (fun b hb => ⟨hS b hb, rfl⟩) sv c (q3 sv (clash_beneath sv hsv)) hc
  | .dead, A, A', r, hT, _, _, _, _, _, _, _, _ => by simp [take] at hT
  | .ptr s p, A, A', r, hT, _, _, _, _, _, _, _, _ => by simp [take] at hT
  | .ro t x, A, A', r, hT, _, _, _, _, _, _, _, _ => by simp [take] at hT
  | .nilp, A, A', r, hT, _, _, _, _, _, _, _, _ => by simp [take] at hT
  | .fn f c, A, A', r, hT, _, _, _, _, _, _, _, _ => by simp [take] at hT
  | .tnil, A, A', r, hT, _, _, _, _, _, _, _, _ => by simp [take] at hT
  | .tcons x y, A, A', r, hT, _, _, _, _, _, _, _, _ => by simp [take] at hT

end Go.Am
/- Am, part 10: trees are put into slots. -/
set_option linter.unusedVariables false
set_option linter.unusedSimpArgs false
namespace Go.Am

theorem AtS_ext {w : World} {x : Site} {g : GS} {p t1 cs1 loc1 q t2 cs2 loc2} (h : AtS w x g p t1 cs1 loc1) (hq : At w t1 cs1 loc1 q t2 cs2 loc2) : AtS w x g (p ++ q) t2 cs2 loc2 := by
  cases x with
  | none => exact h
  | tmp t x => exact At_ext h hq
  | var T t x => exact At_ext h hq

theorem view_sound {w : World} {S : Nat → Prop} {σ : Nat → Site} {G : Nat → GS} (s : Nat) : ∀ (t : Ty) (x : Val t) (p : Path) cs loc' F', AtS w (σ s) (G s) p t cs loc' → R w S t x cs F' →
    SC w S σ G (view s p t x) cs ∧ (aggSV (view s p t x) = isAgg t ∨ view s p t x = .dead) := by
  intro t
  have leaf : ∀ (t : Ty) (x : Val t) cs F', R w S t x cs F' → SC w S σ G (if noOwn t then .val t x else .dead) cs ∧ (aggSV (if noOwn t then SV.val t x else .dead) = isAgg t ∨ (if noOwn t then SV.val t x else .dead) = .dead) := by
    intro t x cs F' hr
    split
    · rename_i hn
      obtain rfl := R_noOwn _ _ _ _ hn hr
      exact ⟨by simpa [SC] using hr, .inl rfl⟩
    · exact ⟨by simp [SC], .inr rfl⟩
  induction t with
  | pair a b iha ihb =>
    intro x p cs loc' F' hAt hr
    rw [view]
    split
    · rename_i hn
      obtain rfl := R_noOwn _ _ _ _ hn hr
      exact ⟨by simpa only [SC] using hr, .inl rfl⟩
    · obtain ⟨c1, c2, F1, F2, rfl, rfl, h1, h2⟩ := hr
      have l1 := R_len _ _ _ _ h1
      have l2 := R_len _ _ _ _ h2
      have a1 := AtS_ext hAt (At.plain (w := w) (p := [.fst]) (o := 0) (t' := a) (by simp [offs]))
      have a2 := AtS_ext hAt (At.plain (w := w) (p := [.snd]) (o := cells a) (t' := b) (by simp [offs]))
      rw [List.drop_zero, ← l1, List.take_left] at a1
      rw [← l1, List.drop_left, ← l2, List.take_length] at a2
      have b1 := iha x.1 (p ++ [.fst]) c1 _ F1 a1 h1
      have b2 := ihb x.2 (p ++ [.snd]) c2 _ F2 a2 h2
      exact ⟨by simp only [SC]; exact ⟨c1, c2, rfl, b1.1, b2.1⟩, .inl rfl⟩
  | ow e t ih =>
    intro x p cs loc' F' hAt hr
    exact ⟨by simp only [view, SC]; exact ⟨e, t, loc', hAt⟩, .inl rfl⟩
  | int k => intro x p cs loc' F' _ hr; exact leaf _ _ _ _ hr
  | bool => intro x p cs loc' F' _ hr; exact leaf _ _ _ _ hr
  | str => intro x p cs loc' F' _ hr; exact leaf _ _ _ _ hr
  | unit => intro x p cs loc' F' _ hr; exact leaf _ _ _ _ hr
  | hole => intro x p cs loc' F' _ hr; exact leaf _ _ _ _ hr
  | arr n t ih => intro x p cs loc' F' _ hr; exact leaf (.arr n t) _ _ _ hr
  | sh e t ih => intro x p cs loc' F' _ hr; exact leaf (.sh e t) _ _ _ hr

theorem SVr_view {w : World} {S : Nat → Prop} {σ : Nat → Site} {G : Nat → GS} {s : Nat} {t : Ty} {x : Val t} {p : Path} {cs loc' F'} (hAt : AtS w (σ s) (G s) p t cs loc') (hr : R w S t x cs F') :
    SVr w S σ G (view s p t x) (aggV (isAgg t) cs) := by
  obtain ⟨h1, h2 | h2⟩ := view_sound s t x p cs loc' F' hAt hr
  · exact ⟨cs, h1, by rw [h2]⟩
  · rw [h2]; exact SVr_dead _ _ _ _ _

theorem SVr_val {w : World} {S : Nat → Prop} {σ : Nat → Site} {G : Nat → GS} {t : Ty} {x : Val t} {cs} (hr : R w S t x cs []) : SVr w S σ G (.val t x) (aggV (isAgg t) cs) :=
  ⟨cs, by simpa [SC] using hr, rfl⟩

/-- What was done to a state's memory leaves whoever names nothing of it. -/
def Mono (C : Ctx) (w : World) (G : Nat → GS) (L : List Nat) (w' : World) (G' : Nat → GS) (L' : List Nat) : Prop := ∀ b, Sof C w G L b → Sof C w' G' L' b ∧ w'.heap[b]? = w.heap[b]?

theorem putTree_sound {C A A' a w G L F} {t : Ty} {x : Val t} {cs d} (h : RelG C A a w G (L ++ F)) (hr : R w (Sof C w G (L ++ F)) t x cs F) (hp : A.putTree d t x = some A') :
    ∃ G', RelG C A' (a.put (some d) (aggV (isAgg t) cs)) w G' L ∧ Mono C w G (L ++ F) w G' L ∧ ∀ T, Frm w w A A' G G' T := by
  unfold St.putTree at hp
  split at hp
  · rename_i hn
    obtain rfl := R_noOwn _ _ _ _ hn hr
    simp only [Option.some.injEq] at hp
    subst hp
    rw [List.append_nil] at h hr
    exact ⟨G, h.put (some d) _ _ (SVr_val hr), fun b hb => by rw [List.append_nil] at hb; exact ⟨hb, rfl⟩, fun T s _ _ => ⟨by simp, rfl, fun _ _ => rfl⟩⟩
  · split at hp
    rotate_left
    · cases hp
    rename_i e
    simp only [Option.some.injEq] at hp
    subst hp
    have hF : (G d).F = [] := by have := h.sites d; rw [e] at this; exact this
    have hLF := List.nodup_append.1 h.lnodup
    have hS : ∀ b, Sof C w G (L ++ F) b → Sof C w (upd G d ⟨cs, F, 0⟩) L b := fun b hb => ⟨hb.1, hb.2.1, fun s' => by
      by_cases e : s' = d
      · subst e; rw [upd_same]; exact fun hm => hb.2.2.2 (by simp [show b ∈ F from hm])
      · rw [upd_ne _ _ e]; exact hb.2.2.1 s', fun hm => hb.2.2.2 (by simp [hm])⟩
    have h2 := h.site (A' := A.setSite d (.tmp t x)) (L' := L) d ⟨cs, F, 0⟩ (Goes.refl w) (fun _ _ _ _ => rfl) (fun s' hs' => by rw [site_setSite, if_neg hs']) rfl
      (fun b hb => ⟨by simp [show b ∈ F from hb], (h.lmine b (by simp [show b ∈ F from hb])).2⟩) hLF.2.1 (fun b hb => ⟨by simp [hb], (h.lmine b (by simp [hb])).2⟩) hLF.1 (fun b hb hb' => hLF.2.2 b hb' b hb rfl)
      (fun S' hS' _ => by rw [site_setSite, if_pos rfl]; exact R_frame hS' _ _ _ _ (fun _ _ => rfl) hr)
      (fun i => .inr ⟨rfl, by
        have : ∀ v : SV, v.every fun r s' q => Lives w w (A.site s') ((A.setSite d (.tmp t x)).site s') (G s') (upd G d ⟨cs, F, 0⟩ s') r q := by
          have one : ∀ r s' q, Lives w w (A.site s') ((A.setSite d (.tmp t x)).site s') (G s') (upd G d ⟨cs, F, 0⟩ s') r q := by
            intro r s' q
            by_cases e' : s' = d
            · subst e'; rw [e]; intro _ _ _ hh; exact hh.elim
            · rw [site_setSite, if_neg e', upd_ne _ _ e']; exact Lives.same (h.sites s') (fun _ _ => rfl) _ _
          intro v
          induction v with
          | dead => trivial
          | val t x => trivial
          | pr a b ha hb => exact ⟨ha, hb⟩
          | ref s p => exact one _ _ _
          | ptr s p => exact one _ _ _
          | ro t x => trivial
          | nilp => trivial
          | fn f c hc => exact hc
          | tnil => trivial
          | tcons a b ha hb => exact ⟨ha, hb⟩
        exact this _⟩)
      (fun q' hq' e' => h.nopin (fun T t x e2 => by rw [e] at e2; cases e2) q' hq' e')
    refine ⟨_, h2.put (some d) _ _ ?_, fun b hb => ⟨hS b hb, rfl⟩, fun T => Frm.site d _ (.inr e) (fun s hne => by rw [site_put, site_setSite, if_neg hne]) (fun _ _ _ _ => rfl)⟩
    have hAt : AtS w ((A.setSite d (.tmp t x)).site d) (upd G d ⟨cs, F, 0⟩ d) [] t cs none := by
      rw [site_setSite, if_pos rfl, upd_same]
      have := At.plain (w := w) (cs := cs) (loc := none) (t := t) (p := []) (o := 0) (t' := t) (by simp [offs])
      rw [List.drop_zero, List.take_of_length_le (by rw [R_len _ _ _ _ hr]; exact Nat.le_refl _)] at this
      exact this
    exact SVr_view hAt (R_frame (fun b hb => ⟨hS b hb, rfl⟩) _ _ _ _ (fun _ _ => rfl) hr)

theorem coeV_agg : ∀ (t : Ty) (x : Val t) (t' : Ty) (y : Val t'), coeV? t x t' = some y → isAgg t' = isAgg t ∧ cells t' = cells t := by
  have key : ∀ {t t' : Ty}, coeB t t' = true → isAgg t' = isAgg t := by
    intro t t' h; cases t <;> cases t' <;> simp [coeB] at h <;> rfl
  intro t
  induction t with
  | pair a b iha ihb =>
    intro x t' y h
    rw [coeV?] at h
    split at h
    · rename_i hc; exact ⟨key hc, (coe_cells hc).symm⟩
    · split at h
      · split at h
        · rename_i e1 e2; simp only [cells]; rw [(iha _ _ _ e1).2, (ihb _ _ _ e2).2]; exact ⟨rfl, rfl⟩
        · cases h
      · cases h
  | ow e t ih =>
    intro x t' y h
    rw [coeV?] at h
    split at h
    · rename_i hc; exact ⟨key hc, (coe_cells hc).symm⟩
    · cases t' with
      | ow e' t1 => exact ⟨rfl, rfl⟩
      | sh e' t1 => exact ⟨rfl, rfl⟩
      | _ => simp at h
  | int k =>
    intro x t' y h
    simp only [coeV?] at h
    split at h
    · rename_i hc; exact ⟨key hc, (coe_cells hc).symm⟩
    · cases h
  | bool =>
    intro x t' y h
    simp only [coeV?] at h
    split at h
    · rename_i hc; exact ⟨key hc, (coe_cells hc).symm⟩
    · cases h
  | str =>
    intro x t' y h
    simp only [coeV?] at h
    split at h
    · rename_i hc; exact ⟨key hc, (coe_cells hc).symm⟩
    · cases h
  | unit =>
    intro x t' y h
    simp only [coeV?] at h
    split at h
    · rename_i hc; exact ⟨key hc, (coe_cells hc).symm⟩
    · cases h
  | hole =>
    intro x t' y h
    simp only [coeV?] at h
    split at h
    · rename_i hc; exact ⟨key hc, (coe_cells hc).symm⟩
    · cases h
  | arr n t ih =>
    intro x t' y h
    simp only [coeV?] at h
    split at h
    · rename_i hc; exact ⟨key hc, (coe_cells hc).symm⟩
    · cases h
  | sh e t ih =>
    intro x t' y h
    simp only [coeV?] at h
    split at h
    · rename_i hc; exact ⟨key hc, (coe_cells hc).symm⟩
    · cases h

theorem coe_sound {C A a w G L F} {t t' : Ty} {x : Val t} {y : Val t'} {cs} (h : RelG C A a w G (L ++ F)) (hr : R w (Sof C w G (L ++ F)) t x cs F) (hc : coeV? t x t' = some y) :
    ∃ F', RelG C A a w G (L ++ F') ∧ R w (Sof C w G (L ++ F')) t' y cs F' ∧ Mono C w G (L ++ F) w G (L ++ F') ∧ ∀ b ∈ F', b ∈ F := by
  have hLF := List.nodup_append.1 h.lnodup
  obtain ⟨F', s, g⟩ := R_coeV _ _ _ _ _ _ hc hLF.2.1 hr
  have hsub : ∀ b ∈ L ++ F', b ∈ L ++ F := fun b hb => by
    rcases List.mem_append.1 hb with hb | hb
    · simp [hb]
    · simp [s.subset hb]
  have hn : (L ++ F').Nodup := List.nodup_append.2 ⟨hLF.1, hLF.2.1.sublist s, fun b hb c hc e => hLF.2.2 b hb c (s.subset hc) e⟩
  refine ⟨F', h.drop hsub hn, g _ (fun b hb => Sof_drop hsub b hb) (fun b hb hb' => ⟨(h.lmine b (by simp [hb])).2, ?_, fun s' hm => h.lapart s' b hm (by simp [hb]), ?_⟩), fun b hb => ⟨Sof_drop hsub b hb, rfl⟩, fun b hb => s.subset hb⟩
  · rcases (h.lmine b (by simp [hb])).1 with h | h
    · exact .inr (.inl h)
    · exact .inr (.inr h)
  · intro hm
    rcases List.mem_append.1 hm with hm | hm
    · exact hLF.2.2 b hm b hb rfl
    · exact hb' hm

theorem finK_sound {β : Type} {C A a w G L F} {t : Ty} {x : Val t} {cs d act} {K : St → Option β} {r : β} (h : RelG C A a w G (L ++ F)) (hr : R w (Sof C w G (L ++ F)) t x cs F) (hp : finK act d t x A K = some r) :
    ∃ A' G', K A' = some r ∧ RelG C A' (a.put (some d) (aggV (isAgg t) cs)) w G' L ∧ Mono C w G (L ++ F) w G' L ∧ ∀ T, Frm w w A A' G G' T := by
  unfold finK at hp
  split at hp
  · split at hp
    · rename_i A1 e
      obtain ⟨G', h1, h2, h3⟩ := putTree_sound h hr e
      exact ⟨A1, G', hp, h1, h2, h3⟩
    · cases hp
  · split at hp
    · rename_i y hc
      split at hp
      · rename_i A1 e
        obtain ⟨F', h1, h2, h3, _⟩ := coe_sound h hr hc
        obtain ⟨G', k1, k2, k3⟩ := putTree_sound h1 h2 e
        rw [(coeV_agg _ _ _ _ hc).1] at k1
        exact ⟨A1, G', hp, k1, fun b hb => ⟨(k2 b (h3 b hb).1).1, rfl⟩, k3⟩
      · cases hp
    · cases hp

end Go.Am
