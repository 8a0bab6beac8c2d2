/- Am, part 11: what the program's table of types must tell of the types that the machine knows; operands. -/
import Derived.Test.YtebmpngnbnigcaaMA
import Derived.Laws.Entries
import Derived.Laws.Strings
import Derived.Laws.Runes
import Derived.Laws.Cover4
import Derived.Laws.Cover3
import Derived.Deep.MidRow
import Derived.Laws.Slices
import Derived.Great.BuildSlice
import Derived.Laws.MakeOwn
import Derived.Laws.OwnMore
set_option linter.unusedVariables false
set_option linter.unusedSimpArgs false
namespace Go.Am

def flatEq : Value → Value → Bool
  | .int k n, .int k' n' => decide (k = k') && decide (n = n')
  | .bool a, .bool b => a == b
  | .string a, .string b => decide (a = b)
  | .pointer none, .pointer none => true
  | .slice none n m, .slice none n' m' => decide (n = n') && decide (m = m')
  | _, _ => false
theorem flatEq_eq : ∀ {a b : Value}, flatEq a b = true → a = b := by
  intro a b h
  unfold flatEq at h
  split at h <;> simp_all
def flatsEq : List Value → List Value → Bool
  | [], [] => true
  | a :: l, b :: m => flatEq a b && flatsEq l m
  | _, _ => false
theorem flatsEq_eq : ∀ {l m : List Value}, flatsEq l m = true → l = m
  | [], [], _ => rfl
  | a :: l, b :: m, h => by
    simp only [flatsEq, Bool.and_eq_true] at h
    rw [flatEq_eq h.1, flatsEq_eq h.2]
  | [], _ :: _, h => by simp [flatsEq] at h
  | _ :: _, [], h => by simp [flatsEq] at h
def zeroEq : Value → Value → Bool
  | .agg cs, .agg ds => flatsEq cs.toList ds.toList
  | a, b => flatEq a b
theorem zeroEq_eq {a b : Value} (h : zeroEq a b = true) : a = b := by
  unfold zeroEq at h
  split at h
  · rename_i cs ds; rw [← Array.toArray_toList (xs := cs), ← Array.toArray_toList (xs := ds), flatsEq_eq h]
  · exact flatEq_eq h

def rowD : TypeDesc → Bool
  | .struct _ | .array _ _ => true
  | _ => false

/-- The type has so many cells, and is one or none of many parts. -/
def sizedAs (P : Program) (T : TypeId) (t : Ty) : Bool :=
  match P.info? T, P.underlying T with
  | some inf, some d => inf.size == cells t && (rowD d == isAgg t)
  | _, _ => false

def kindOk (P : Program) (Γ : Env) (i : TI) : Ty → TypeDesc → Bool
  | .int k, d => match d with | .int k' => decide (k = k') | _ => false
  | .bool, d => match d with | .bool => true | _ => false
  | .str, d => match d with | .string => true | _ => false
  | .unit, d => match d with | .struct fs => i.nf == 0 && fs.size == 0 | _ => false
  | .hole, d => match d with | .pointer _ => true | _ => false
  | .pair a b, d =>
    match d with
    | .struct fs => i.nf == fs.size && (List.range i.nf).all fun k =>
      match fs[k]?, offs (.pair a b) (fieldPath i.nf k) with
      | some f, some (o, t) => f.offset == o && sizedAs P f.type t && decide (0 < cells t)
      | _, _ => false
    | _ => false
  | .arr n t, d => match d with | .array m e => m == n && i.elem == e && sizedAs P e t && decide (0 < cells t) | _ => false
  | .sh e t, d => false
  | .ow e t, d => match d with
    | .slice e' => e' == e && i.elem == e && sizedAs P e t && decide (0 < cells t ∧ 0 < i.bytes) &&
      (match P.info? e with | some ie => ie.bytes == i.bytes && (match ie.zero with | some z => zeroEq z (aggV (isAgg t) (zeroCells t)) | none => false) | none => false)
    | _ => false

def tyOk (P : Program) (Γ : Env) (T : TypeId) (i : TI) : Bool :=
  match P.info? T, P.underlying T with
  | some inf, some d => inf.size == cells i.ty && (rowD d == isAgg i.ty) && kindOk P Γ i i.ty d && (decide (i.ty = .hole) || match inf.zero with | some z => zeroEq z (aggV (isAgg i.ty) (zeroCells i.ty)) | none => false)
  | _, _ => false

def tysOk (P : Program) (Γ : Env) : Bool := Γ.all fun q => tyOk P Γ q.1 q.2

structure Sized (P : Program) (T : TypeId) (t : Ty) : Prop where
  info : ∃ inf, P.info? T = some inf ∧ inf.size = cells t
  row : ∃ d, P.underlying T = some d ∧ rowD d = isAgg t

theorem sized_of {P T t} (h : sizedAs P T t = true) : Sized P T t := by
  unfold sizedAs at h
  split at h
  · rename_i inf d e1 e2
    simp only [Bool.and_eq_true, beq_iff_eq] at h
    exact ⟨⟨inf, e1, h.1⟩, ⟨d, e2, h.2⟩⟩
  · cases h

structure TF (P : Program) (Γ : Env) (T : TypeId) (i : TI) : Prop where
  sized : Sized P T i.ty
  zero : i.ty ≠ .hole → ∃ inf, P.info? T = some inf ∧ inf.zero = some (aggV (isAgg i.ty) (zeroCells i.ty))
  kind : ∃ d, P.underlying T = some d ∧ kindOk P Γ i i.ty d = true

theorem lookup_mem : ∀ (Γ : Env) (T : TypeId) (i : TI), List.lookup T Γ = some i → (T, i) ∈ Γ
  | [], T, i, h => by simp at h
  | (T', i') :: Γ, T, i, h => by
    rw [List.lookup_cons] at h
    split at h
    · rename_i e; simp at h e; subst h; subst e; simp
    · have := lookup_mem Γ T i h; simp [this]

theorem tf_of {P Γ} (h : tysOk P Γ = true) {T i} (hi : Γ.at T = some i) : TF P Γ T i := by
  have := List.all_eq_true.1 h _ (lookup_mem Γ T i hi)
  simp only [tyOk] at this
  split at this
  · rename_i inf d e1 e2
    simp only [Bool.and_eq_true, beq_iff_eq] at this
    obtain ⟨⟨⟨h1, h2⟩, h3⟩, h4⟩ := this
    refine ⟨⟨⟨inf, e1, h1⟩, ⟨d, e2, h2⟩⟩, fun hh => ⟨inf, e1, ?_⟩, ⟨d, e2, h3⟩⟩
    simp only [Bool.or_eq_true, decide_eq_true_eq, hh, false_or] at h4
    split at h4
    · rename_i z e; rw [e, zeroEq_eq h4]
    · cases h4
  · cases this

/-! ### Operands -/
theorem strOf_toArray (s : ByteArray) : (⟨(strOf s).toArray⟩ : ByteArray) = s := by cases s; simp [strOf]

theorem str_R {w S} (s : ByteArray) (h : s.size ≤ 140737488355328) : R w S .str (strOf s) [.string s] [] := by
  refine ⟨by show _ = [Value.string ⟨(strOf s).toArray⟩]; rw [strOf_toArray], rfl, ?_⟩
  show (strOf s).length ≤ maxLen
  have : (strOf s).length = s.size := by cases s; simp [strOf, ByteArray.size]
  rw [this]; exact Nat.le_trans h (by decide)

theorem constTree_sound {w S} : ∀ (t : Ty) (l : List Value) (x : Val t) r, constTree t l = some (x, r) → ∃ cs, l = cs ++ r ∧ R w S t x cs [] := by
  intro t
  induction t with
  | int k =>
    intro l x r h
    rcases l with _ | ⟨v, l⟩
    · simp [constTree] at h
    · cases v <;> simp [constTree] at h
      obtain ⟨rfl, rfl, rfl⟩ := h
      exact ⟨[_], rfl, rfl, rfl⟩
  | bool =>
    intro l x r h
    rcases l with _ | ⟨v, l⟩
    · simp [constTree] at h
    · cases v <;> simp [constTree] at h
      obtain ⟨rfl, rfl⟩ := h
      exact ⟨[_], rfl, rfl, rfl⟩
  | str =>
    intro l x r h
    rcases l with _ | ⟨v, l⟩
    · simp [constTree] at h
    · cases v <;> simp [constTree] at h
      obtain ⟨h1, rfl, rfl⟩ := h
      exact ⟨[_], rfl, str_R _ h1⟩
  | unit =>
    intro l x r h
    simp [constTree] at h
    subst h
    exact ⟨[], rfl, rfl, rfl⟩
  | hole => intro l x r h; simp [constTree] at h
  | pair a b iha ihb =>
    intro l x r h
    rw [constTree] at h
    split at h
    · rename_i y r1 e1
      split at h
      · rename_i z r2 e2
        simp only [Option.some.injEq, Prod.mk.injEq] at h
        obtain ⟨rfl, rfl⟩ := h
        obtain ⟨c1, rfl, k1⟩ := iha _ _ _ e1
        obtain ⟨c2, rfl, k2⟩ := ihb _ _ _ e2
        exact ⟨c1 ++ c2, by simp, c1, c2, [], [], rfl, rfl, k1, k2⟩
      · cases h
    · cases h
  | arr n t ih => intro l x r h; simp [constTree] at h
  | sh e t ih =>
    intro l x r h
    rcases l with _ | ⟨v, l⟩
    · simp [constTree] at h
    · cases v <;> try (simp [constTree] at h; done)
      rename_i a n m
      cases a <;> cases n <;> cases m <;> simp [constTree] at h
      obtain ⟨rfl, rfl⟩ := h
      exact ⟨[_], rfl, rfl, none, 0, rfl, Nat.le_refl _, Nat.zero_le _, .inl rfl⟩
  | ow e t ih =>
    intro l x r h
    rcases l with _ | ⟨v, l⟩
    · simp [constTree] at h
    · cases v <;> try (simp [constTree] at h; done)
      rename_i a n m
      cases a <;> cases n <;> cases m <;> simp [constTree] at h
      obtain ⟨rfl, rfl⟩ := h
      exact ⟨[_], rfl, .inl ⟨rfl, rfl, rfl⟩⟩

theorem ofConst_sound {w S σ G} (Γ : Env) (T : TypeId) (v : Value) : SVr w S σ G (ofConst Γ T v) v := by
  have dead : SVr w S σ G .dead v := SVr_dead _ _ _ _ _
  cases v with
  | int k n => exact ⟨[_], by simp only [ofConst, SC]; exact ⟨rfl, rfl⟩, rfl⟩
  | bool b => exact ⟨[_], by simp only [ofConst, SC]; exact ⟨rfl, rfl⟩, rfl⟩
  | string s =>
    simp only [ofConst]
    split
    · rename_i h; exact ⟨[.string s], by simp only [SC]; exact str_R s h, rfl⟩
    · exact dead
  | pointer a =>
    cases a with
    | none => exact ⟨[_], by simp only [ofConst, SC], rfl⟩
    | some a => exact dead
  | slice a n m =>
    by_cases hc : a = none ∧ n = 0 ∧ m = 0
    · obtain ⟨rfl, rfl, rfl⟩ := hc
      simp only [ofConst]
      split
      · split
        · exact ⟨[_], by simp only [SC]; exact .inl ⟨rfl, rfl, rfl⟩, rfl⟩
        · exact dead
      · exact dead
    · have : ofConst Γ T (.slice a n m) = .dead := by
        cases a <;> cases n <;> cases m <;> simp_all [ofConst]
      rw [this]; exact dead
  | agg cs =>
    simp only [ofConst]
    split
    · split
      · rename_i i _ hagg
        split
        · rename_i x e
          obtain ⟨ds, e1, hr⟩ := constTree_sound (w := w) (S := S) _ _ _ _ e
          rw [List.append_nil] at e1
          refine ⟨ds, by simpa [SC] using hr, ?_⟩
          show _ = aggV (isAgg i.ty) ds
          rw [hagg, ← e1]; simp [aggV]
        · exact dead
      · exact dead
    · exact dead
  | float k b => exact dead
  | complex k a b => exact dead
  | map r => exact dead
  | chan r => exact dead
  | func f a b => exact dead
  | nilFunc => exact dead
  | iface t v => exact dead
  | nilIface => exact dead
  | tuple vs => exact dead

theorem opd_sound {C A a w G L} (Γ : Env) (T : TypeId) (h : RelG C A a w G L) (x : Operand) : SVr w (Sof C w G L) A.site G (opd Γ T A x) (a.eval x) := by
  cases x with
  | tmp t => exact h.slots t
  | const v => exact ofConst_sound Γ T v
  | global g => exact SVr_dead _ _ _ _ _
  | func f => exact ⟨[.func (.func f) #[] #[]], by simp only [opd, SC]; exact ⟨[], rfl, by simp [SL]⟩, rfl⟩
end Go.Am
/- Am, part 12: operations that only yield a value. -/
set_option linter.unusedVariables false
set_option linter.unusedSimpArgs false
namespace Go.Am

section
variable {w : World} {S : Nat → Prop} {σ : Nat → Site} {G : Nat → GS}
theorem SVr_int {k n v} : SVr w S σ G (.val (.int k) n) v ↔ v = .int k (toI n) := by
  constructor
  · rintro ⟨cs, h, rfl⟩; simp only [SC] at h; obtain ⟨rfl, _⟩ := h; rfl
  · rintro rfl; exact ⟨[_], by simp only [SC]; exact ⟨rfl, rfl⟩, rfl⟩
theorem SVr_bool {b v} : SVr w S σ G (.val .bool b) v ↔ v = .bool (toB b) := by
  constructor
  · rintro ⟨cs, h, rfl⟩; simp only [SC] at h; obtain ⟨rfl, _⟩ := h; rfl
  · rintro rfl; exact ⟨[_], by simp only [SC]; exact ⟨rfl, rfl⟩, rfl⟩
theorem SVr_str {s v} : SVr w S σ G (.val .str s) v ↔ v = .string ⟨(toS s).toArray⟩ ∧ (toS s).length ≤ maxLen := by
  constructor
  · rintro ⟨cs, h, rfl⟩; simp only [SC] at h; obtain ⟨rfl, _, h⟩ := h; exact ⟨rfl, h⟩
  · rintro ⟨rfl, h⟩; exact ⟨[_], by simp only [SC]; exact ⟨rfl, rfl, h⟩, rfl⟩
theorem SVr_nilp {v} : SVr w S σ G .nilp v ↔ v = .pointer none := by
  constructor
  · rintro ⟨cs, h, rfl⟩; simp only [SC] at h; subst h; rfl
  · rintro rfl; exact ⟨[_], by simp only [SC], rfl⟩
theorem SVr_ptr {s p v} : SVr w S σ G (.ptr s p) v ↔ ∃ t' cs' b o, AtS w (σ s) (G s) p t' cs' (some (b, o)) ∧ v = .pointer (some ⟨b, o, none⟩) := by
  constructor
  · rintro ⟨cs, h, rfl⟩; simp only [SC] at h; obtain ⟨t', cs', b, o, h, rfl⟩ := h; exact ⟨t', cs', b, o, h, rfl⟩
  · rintro ⟨t', cs', b, o, h, rfl⟩; exact ⟨[_], by simp only [SC]; exact ⟨t', cs', b, o, h, rfl⟩, rfl⟩
theorem SVr_ro {t x v} : SVr w S σ G (.ro t x) v ↔ ∃ ad ccs, v = .pointer (some ad) ∧ S ad.block ∧ R w S t x ccs [] ∧ ∀ j c, ccs[j]? = some c → w.cell? (ad.add j) = some c := by
  constructor
  · rintro ⟨cs, h, rfl⟩; simp only [SC] at h; obtain ⟨ad, ccs, rfl, h⟩ := h; exact ⟨ad, ccs, rfl, h⟩
  · rintro ⟨ad, ccs, rfl, h⟩; exact ⟨[_], by simp only [SC]; exact ⟨ad, ccs, rfl, h⟩, rfl⟩
theorem SVr_tcons {a r v} : SVr w S σ G (.tcons a r) v ↔ ∃ u us, v = .tuple (u :: us).toArray ∧ SVr w S σ G a u ∧ SL w S σ G r us := by
  constructor
  · rintro ⟨cs, h, rfl⟩; simp only [SC] at h; obtain ⟨u, us, rfl, ⟨c, h1, h2⟩, h3⟩ := h; exact ⟨u, us, rfl, ⟨c, h1, h2⟩, h3⟩
  · rintro ⟨u, us, rfl, ⟨c, h1, h2⟩, h3⟩; exact ⟨[_], by simp only [SC]; exact ⟨u, us, rfl, ⟨c, h1, h2⟩, h3⟩, rfl⟩
theorem SVr_valR {t x v} : SVr w S σ G (.val t x) v ↔ ∃ cs, R w S t x cs [] ∧ v = aggV (isAgg t) cs := by
  constructor
  · rintro ⟨cs, h, rfl⟩; simp only [SC] at h; exact ⟨cs, h, rfl⟩
  · rintro ⟨cs, h, rfl⟩; exact ⟨cs, by simpa only [SC] using h, rfl⟩
end

/-- It yields v in every world that is the same on B. -/
def Quiet (P : Program) (o : Oper) (a : Act) (w : World) (B : Nat → Prop) (v : Value) : Prop :=
  ∀ w', (∀ b, B b → w'.heap[b]? = w.heap[b]?) → (execOp a.eval o).run P w' = .ok (.value v) w'

/-- The result of a quiet operation. -/
def QuietR {β : Type} (P : Program) (o : Oper) (C : Ctx) (A : St) (a : Act) (w : World) (G : Nat → GS) (L : List Nat) (B : Nat → Prop) (K : St → Option β) (r : β) : Prop :=
  ∃ v sv, K (A.put o.dst sv) = some r ∧ SVr w (Sof C w G L) A.site G sv v ∧ Quiet P o a w B v

section
variable {β : Type} {P : Program} {Γ : Env} {C : Ctx} {A : St} {a : Act} {w : World} {G : Nat → GS} {L : List Nat} {K : St → Option β} {r : β} {o : Oper} {B : Nat → Prop}

variable {Φ : Prog} {act : Option Ty}
theorem quiet_move {x} (ho : o.op = .move x ∨ o.op = .assign x) (h : RelG C A a w G L) (hk : opK Γ Φ act o A K = some r) : QuietR P o C A a w G L B K r := by
  have hk : K (A.put o.dst (opd Γ o.type A x)) = some r := by
    unfold opK at hk
    rcases ho with ho | ho <;> rw [ho] at hk <;> exact hk
  refine ⟨a.eval x, _, hk, opd_sound Γ _ h x, fun w' _ => ?_⟩
  rcases ho with ho | ho <;> simp [execOp, ho]

theorem quiet_pick {c x y} (ho : o.op = .pick c x y) (h : RelG C A a w G L) (hk : opK Γ Φ act o A K = some r) : QuietR P o C A a w G L B K r := by
  unfold opK at hk
  rw [ho] at hk
  dsimp only at hk
  split at hk
  · rename_i b hc
    have hb := opd_sound Γ o.type h c
    rw [hc, SVr_bool] at hb
    refine ⟨cond (toB b) (a.eval x) (a.eval y), _, hk, ?_, fun w' _ => ?_⟩
    · cases toB b
      · exact opd_sound Γ _ h y
      · exact opd_sound Γ _ h x
    · simp only [execOp, ho, hb, asBool]
      cases toB b <;> simp
  · cases hk

theorem quiet_unOp {op T x} (ho : o.op = .unOp op T x) (h : RelG C A a w G L) (hk : opK Γ Φ act o A K = some r) : QuietR P o C A a w G L B K r := by
  unfold opK at hk
  rw [ho] at hk
  dsimp only at hk
  have hx := opd_sound Γ 0 h x
  split at hk
  · rename_i b hc
    rw [hc, SVr_bool] at hx
    exact ⟨_, _, hk, SVr_bool.2 rfl, fun w' _ => by simp [execOp, ho, hx, Op.unary, toB, ofB]⟩
  · rename_i k n hc
    rw [hc, SVr_int] at hx
    exact ⟨_, _, hk, SVr_int.2 rfl, fun w' _ => by simp [execOp, ho, hx, Op.unary, Op.intArith, toI, ofI]⟩
  · rename_i k n hc
    rw [hc, SVr_int] at hx
    exact ⟨_, _, hk, SVr_int.2 rfl, fun w' _ => by simp [execOp, ho, hx, Op.unary, Op.intBits, toI, ofI, bitOp]⟩
  · cases hk

theorem eval_nilCheck {x} (ho : o.op = .nilCheck x) {ad} (hx : a.eval x = .pointer (some ad)) (w' : World) : (execOp a.eval o).run P w' = .ok (.value (.pointer (some ad))) w' := by
  simp [execOp, ho, hx]

theorem quiet_nilCheck {x} (ho : o.op = .nilCheck x) (h : RelG C A a w G L) (hk : opK Γ Φ act o A K = some r) : QuietR P o C A a w G L B K r := by
  unfold opK at hk
  rw [ho] at hk
  dsimp only at hk
  have hx := opd_sound Γ 0 h x
  split at hk
  · rename_i s p hc
    rw [hc] at hx
    refine ⟨_, _, hk, hx, fun w' _ => ?_⟩
    obtain ⟨t', cs', b, o', h1, e⟩ := SVr_ptr.1 hx
    rw [e]; exact eval_nilCheck ho e w'
  · rename_i t x' hc
    rw [hc] at hx
    refine ⟨_, _, hk, hx, fun w' _ => ?_⟩
    obtain ⟨ad, ccs, e, _⟩ := SVr_ro.1 hx
    rw [e]; exact eval_nilCheck ho e w'
  · cases hk

theorem under_int {i : TI} {T} (hF : TF P Γ T i) {k} (e : i.ty = .int k) : P.underlying T = some (.int k) := by
  obtain ⟨d, h1, h2⟩ := hF.kind
  rw [e] at h2
  simp only [kindOk] at h2
  split at h2
  · rename_i k' ; simp at h2; subst h2; exact h1
  · cases h2
theorem under_str {i : TI} {T} (hF : TF P Γ T i) (e : i.ty = .str) : P.underlying T = some .string := by
  obtain ⟨d, h1, h2⟩ := hF.kind
  rw [e] at h2
  simp only [kindOk] at h2
  split at h2
  · exact h1
  · cases h2

theorem quiet_makeFunc {f first caps} (ho : o.op = .makeFunc (.func f) first caps) (h : RelG C A a w G L) (hk : opK Γ Φ act o A K = some r) : QuietR P o C A a w G L B K r := by
  unfold opK at hk
  rw [ho] at hk
  dsimp only at hk
  split at hk
  · rename_i hz
    have hz' : first = #[] := Array.eq_empty_of_size_eq_zero hz
    subst hz'
    refine ⟨.func (.func f) #[] (caps.map a.eval), _, hk, ?_, fun w' _ => by simp [execOp, ho, Instr.makeFunc]⟩
    have key : ∀ l : List Operand, SL w (Sof C w G L) A.site G (l.foldr (fun x r => SV.tcons (opd Γ 0 A x) r) .tnil) (l.map a.eval) := by
      intro l
      induction l with
      | nil => simp [SL]
      | cons x l ih => simp only [List.foldr_cons, SL]; exact ⟨_, _, by simp, opd_sound Γ 0 h x, ih⟩
    refine ⟨[.func (.func f) #[] (caps.map a.eval)], ?_, rfl⟩
    simp only [SC]
    exact ⟨_, by rw [← Array.toList_map, Array.toArray_toList], key caps.toList⟩
  · cases hk

theorem tup_get {w S σ G} : ∀ {r us}, SL w S σ G r us → ∀ {b r'}, r = .tcons b r' → ∃ u us', us = u :: us' ∧ SVr w S σ G b u ∧ SL w S σ G r' us' := by
  rintro r us h b r' rfl
  simp only [SL] at h
  obtain ⟨v, vs', e, h1, h2⟩ := h
  exact ⟨v, vs', e, h1, h2⟩

theorem quiet_extract {t i} (ho : o.op = .extract t i) (h : RelG C A a w G L) (hk : opK Γ Φ act o A K = some r) : QuietR P o C A a w G L B K r := by
  unfold opK at hk
  rw [ho] at hk
  dsimp only at hk
  have hx := opd_sound Γ 0 h t
  split at hk
  · rename_i x y hc
    rw [hc] at hx
    obtain ⟨u, us, e, h1, h2⟩ := SVr_tcons.1 hx
    exact ⟨u, _, hk, h1, fun w' _ => by simp [execOp, ho, e, Instr.extract]⟩
  · rename_i x y z hc
    rw [hc] at hx
    obtain ⟨u, us, e, h1, h2⟩ := SVr_tcons.1 hx
    obtain ⟨u2, us2, rfl, h3, h4⟩ := tup_get h2 rfl
    exact ⟨u2, _, hk, h3, fun w' _ => by simp [execOp, ho, e, Instr.extract]⟩
  · rename_i x y z z' hc
    rw [hc] at hx
    obtain ⟨u, us, e, h1, h2⟩ := SVr_tcons.1 hx
    obtain ⟨u2, us2, rfl, h3, h4⟩ := tup_get h2 rfl
    obtain ⟨u3, us3, rfl, h5, h6⟩ := tup_get h4 rfl
    exact ⟨u3, _, hk, h5, fun w' _ => by simp [execOp, ho, e, Instr.extract]⟩
  · cases hk
end
end Go.Am
/- Am, part 13: numbers, strings, lengths. -/
set_option linter.unusedVariables false
set_option linter.unusedSimpArgs false
namespace Go.Am

section
variable {β : Type} {P : Program} {Γ : Env} {C : Ctx} {A : St} {a : Act} {w : World} {G : Nat → GS} {L : List Nat} {K : St → Option β} {r : β} {o : Oper} {B : Nat → Prop}
variable {Φ : Prog} {act : Option Ty}

theorem bin_run {op T x y yT} (ho : o.op = .binOp op T x y yT) {u v : Value} (hx : a.eval x = u) (hy : a.eval y = v) {z : Value} (w' : World) (hg : (eqGuard op T x y u v).run P w' = .ok () w') (hr : (binOp op T u v).run P w' = .ok z w') :
    (execOp a.eval o).run P w' = .ok (.value z) w' := by
  simp [execOp, ho, hx, hy, hg, hr]

theorem guard_int {op T x y k m n k'} (w' : World) : (eqGuard op T x y (.int k m) (.int k' n)).run P w' = .ok () w' := by
  unfold eqGuard; split <;> rfl
theorem guard_bool {op T x y m n} (w' : World) : (eqGuard op T x y (.bool m) (.bool n)).run P w' = .ok () w' := by
  unfold eqGuard; split <;> rfl
theorem guard_str {op T x y m n} (w' : World) : (eqGuard op T x y (.string m) (.string n)).run P w' = .ok () w' := by
  unfold eqGuard; split <;> rfl
theorem guard_ptr {op T x y m n} (w' : World) : (eqGuard op T x y (.pointer m) (.pointer n)).run P w' = .ok () w' := by
  unfold eqGuard; split <;> rfl

theorem binInt_run {op : BinOp} {T : TypeId} {k k' : IntKind} {m n : Int} {K' : SV → Option β} (hk : binInt op k k' m n K' = some r) :
    ∃ sv v, K' sv = some r ∧ (∀ w', (Go.binOp op T (.int k m) (.int k' n)).run P w' = .ok v w') ∧ ∀ {S σ} {G' : Nat → GS}, SVr w S σ G' sv v := by
  unfold binInt at hk
  simp only [ltB_eq, leB_eq, eqB_eq] at hk
  split at hk
  · split at hk
    · cases hk
    · rename_i hn
      exact ⟨_, _, hk, fun w' => by simp [Go.binOp, Op.shift, hn]; rfl, SVr_int.2 (by simp [toI, ofI, shlOp])⟩
  · split at hk
    · cases hk
    · rename_i hn
      exact ⟨_, _, hk, fun w' => by simp [Go.binOp, Op.shift, hn]; rfl, SVr_int.2 (by simp [toI, ofI, shrOp])⟩
  · split at hk
    rotate_left
    · cases hk
    rename_i e1 e2 e
    subst e
    cases op
    · exact ⟨_, _, hk, fun w' => by simp [Go.binOp, Op.intArith]; rfl, SVr_int.2 rfl⟩
    · exact ⟨_, _, hk, fun w' => by simp [Go.binOp, Op.intArith]; rfl, SVr_int.2 rfl⟩
    · exact ⟨_, _, hk, fun w' => by simp [Go.binOp, Op.intArith]; rfl, SVr_int.2 rfl⟩
    · dsimp only at hk
      split at hk
      · cases hk
      · rename_i hn
        exact ⟨_, _, hk, fun w' => by simp [Go.binOp, Op.intDiv, hn]; rfl, SVr_int.2 rfl⟩
    · dsimp only at hk
      split at hk
      · cases hk
      · rename_i hn
        exact ⟨_, _, hk, fun w' => by simp [Go.binOp, Op.intDiv, hn]; rfl, SVr_int.2 rfl⟩
    · exact ⟨_, _, hk, fun w' => by simp [Go.binOp, Op.intBits]; rfl, SVr_int.2 rfl⟩
    · exact ⟨_, _, hk, fun w' => by simp [Go.binOp, Op.intBits]; rfl, SVr_int.2 rfl⟩
    · exact ⟨_, _, hk, fun w' => by simp [Go.binOp, Op.intBits]; rfl, SVr_int.2 rfl⟩
    · exact absurd rfl e1
    · exact absurd rfl e2
    · exact ⟨_, _, hk, fun w' => by simp only [Go.binOp, ne_eq, not_true_eq_false, if_false, Op.intBits]; rfl, SVr_int.2 rfl⟩
    · exact ⟨_, _, hk, fun w' => by simp [Go.binOp, Op.intCmp]; rfl, SVr_bool.2 (by simp [toB, ofB]; rfl)⟩
    · exact ⟨_, _, hk, fun w' => by simp [Go.binOp, Op.intCmp]; rfl, SVr_bool.2 (by simp [toB, ofB]; rfl)⟩
    · exact ⟨_, _, hk, fun w' => by simp [Go.binOp, Op.intCmp]; rfl, SVr_bool.2 (by simp [toB, ofB])⟩
    · exact ⟨_, _, hk, fun w' => by simp [Go.binOp, Op.intCmp]; rfl, SVr_bool.2 (by simp [toB, ofB])⟩
    · exact ⟨_, _, hk, fun w' => by simp [Go.binOp, Op.intCmp]; rfl, SVr_bool.2 (by simp [toB, ofB])⟩
    · exact ⟨_, _, hk, fun w' => by simp [Go.binOp, Op.intCmp]; rfl, SVr_bool.2 (by simp [toB, ofB])⟩

theorem equal_bool {T : TypeId} (hu : P.underlying T = some .bool) (m n : Bool) (w' : World) : (Op.equal T (.bool m) (.bool n)).run P w' = .ok (m == n) w' := by
  show (Op.equalIn (9999 + 1) T (.bool m) (.bool n)).run P w' = _
  generalize 9999 = d
  simp [Op.equalIn, run_underlying hu]
theorem binBool_run {op : BinOp} {T : TypeId} {m n : Bool} {K' : SV → Option β} (hu : P.underlying T = some .bool) (hk : binBool op m n K' = some r) :
    ∃ sv v, K' sv = some r ∧ (∀ w', (Go.binOp op T (.bool m) (.bool n)).run P w' = .ok v w') ∧ ∀ {S σ} {G' : Nat → GS}, SVr w S σ G' sv v := by
  unfold binBool at hk
  split at hk
  · exact ⟨_, .bool (m == n), hk, fun w' => by simp [Go.binOp, equal_bool hu], SVr_bool.2 rfl⟩
  · exact ⟨_, .bool (!(m == n)), hk, fun w' => by simp [Go.binOp, equal_bool hu], SVr_bool.2 rfl⟩
  · cases hk

theorem binStr_run {op : BinOp} {T : TypeId} {m n : List UInt8} {K' : SV → Option β} (hk : binStr op m n K' = some r) :
    ∃ sv v, K' sv = some r ∧ (∀ w', (Go.binOp op T (.string ⟨m.toArray⟩) (.string ⟨n.toArray⟩)).run P w' = .ok v w') ∧ ∀ {S σ} {G' : Nat → GS}, SVr w S σ G' sv v := by
  unfold binStr at hk
  split at hk
  · exact ⟨_, _, hk, fun w' => by simp only [Go.binOp, Op.stringOp, ByteArray.toList_mk]; rfl, SVr_bool.2 rfl⟩
  · exact ⟨_, _, hk, fun w' => by simp only [Go.binOp, Op.stringOp, ByteArray.toList_mk]; rfl, SVr_bool.2 rfl⟩
  · split at hk
    · rename_i hle
      refine ⟨_, .string ⟨(m ++ n).toArray⟩, hk, fun w' => ?_, SVr_str.2 ⟨rfl, ?_⟩⟩
      · have h1 : ¬ (((⟨m.toArray⟩ : ByteArray).size + (⟨n.toArray⟩ : ByteArray).size : Nat) : Int) > IntKind.i64.max := by
          have : IntKind.i64.max = 9223372036854775807 := by decide
          rw [this]; simp [ByteArray.size]; omega
        have h2 : (⟨m.toArray⟩ : ByteArray) ++ ⟨n.toArray⟩ = ⟨(m ++ n).toArray⟩ := by
          apply ByteArray.ext; simp
        simp only [Go.binOp, Op.stringOp]
        rw [if_neg h1, h2]; rfl
      · show (m ++ n).length ≤ maxLen
        rw [List.length_append]; exact Nat.le_trans hle (by decide)
    · cases hk
  · cases hk

theorem tyIs_some {T t} (h : tyIs Γ T t = true) : ∃ i, Γ.at T = some i ∧ i.ty = t := by
  unfold tyIs at h
  split at h
  · rename_i i e; exact ⟨i, e, by simpa using h⟩
  · cases h
theorem under_bool {i : TI} {T} (hF : TF P Γ T i) (e : i.ty = .bool) : P.underlying T = some .bool := by
  obtain ⟨d, h1, h2⟩ := hF.kind
  rw [e] at h2
  simp only [kindOk] at h2
  split at h2
  · exact h1
  · cases h2
theorem under_ptr {i : TI} {T} (hF : TF P Γ T i) (e : i.ty = .hole) : ∃ e', P.underlying T = some (.pointer e') := by
  obtain ⟨d, h1, h2⟩ := hF.kind
  rw [e] at h2
  simp only [kindOk] at h2
  split at h2
  · exact ⟨_, h1⟩
  · cases h2

theorem under_row {T} (hT : tysOk P Γ = true) (h : rowTy Γ T = true) : ∃ e, P.underlying T = some (.slice e) := by
  unfold rowTy at h
  split at h
  · rename_i i hi
    split at h
    · rename_i e t he
      obtain ⟨d, h1, h2⟩ := (tf_of hT hi).kind
      rw [he] at h2
      simp only [kindOk] at h2
      split at h2
      · exact ⟨_, h1⟩
      · cases h2
    · cases h
  · cases h
theorem guard_row {op T x y a n c a' n' c'} (w' : World) : (eqGuard op T x y (.slice a n c) (.slice a' n' c')).run P w' = .ok () w' := by
  unfold eqGuard; split <;> rfl
theorem binRow_run {op : BinOp} {T : TypeId} {e} (hu : P.underlying T = some (.slice e)) {ad : Option Addr} {n c : Nat} {em : Bool} {K' : SV → Option β} (he : em = false → ad.isNone = false) (hk : binRow op em K' = some r) :
    ∃ sv v, K' sv = some r ∧ (∀ w', (Go.binOp op T (.slice ad n c) (.slice none 0 0)).run P w' = .ok v w') ∧ ∀ {S σ} {G' : Nat → GS}, SVr w S σ G' sv v := by
  have hk : binNil op ad.isNone K' = some r := by
    unfold binRow at hk
    cases em with
    | true =>
      obtain ⟨h1, h2⟩ := both_some hk
      cases hh : ad.isNone with
      | true => exact h1
      | false => exact h2
    | false => rw [he rfl]; exact hk
  have heq : ∀ w', (Op.equal T (.slice ad n c) (.slice none 0 0)).run P w' = .ok ad.isNone w' := fun w' => run_equal_slice_nil w' T e ad n c hu
  unfold binNil at hk
  split at hk
  · exact ⟨_, .bool ad.isNone, hk, fun w' => by simp [Go.binOp, heq], SVr_bool.2 rfl⟩
  · exact ⟨_, .bool (!ad.isNone), hk, fun w' => by simp [Go.binOp, heq], SVr_bool.2 rfl⟩
  · cases hk

/-- The program's == at a type of many parts. -/
def EqFact (P : Program) (T : TypeId) (t : Ty) : Prop :=
  ∀ (w : World) (S : Nat → Prop) (x y : Val t) cs ds, R w S t x cs [] → R w S t y ds [] → ∀ w' : World,
    (∀ op a b, (eqGuard op T a b (.agg cs.toArray) (.agg ds.toArray)).run P w' = .ok () w') ∧ (Op.equal T (.agg cs.toArray) (.agg ds.toArray)).run P w' = .ok (eqV t x y) w'
def EqFacts (P : Program) (Γ : Env) : Prop := ∀ T i, Γ.at T = some i → i.eq = true → EqFact P T i.ty

theorem ptr_eq_nil {T e'} (hu : P.underlying T = some (.pointer e')) (x y : Option Addr) (hxy : x = none ∨ y = none) (w' : World) : (Op.equal T (.pointer x) (.pointer y)).run P w' = .ok (x.isNone && y.isNone) w' := by
  show (Op.equalIn (9999 + 1) T (.pointer x) (.pointer y)).run P w' = _
  generalize 9999 = d
  cases x <;> cases y <;> simp_all [Op.equalIn, run_underlying hu]

theorem binNil_run {op : BinOp} {T : TypeId} {x y : Option Addr} {K' : SV → Option β} {e'} (hu : P.underlying T = some (.pointer e')) (hxy : x = none ∨ y = none) (hk : binNil op (x.isNone && y.isNone) K' = some r) :
    ∃ sv v, K' sv = some r ∧ (∀ w', (Go.binOp op T (.pointer x) (.pointer y)).run P w' = .ok v w') ∧ ∀ {S σ} {G' : Nat → GS}, SVr w S σ G' sv v := by
  unfold binNil at hk
  split at hk
  · exact ⟨_, .bool (x.isNone && y.isNone), hk, fun w' => by simp [Go.binOp, ptr_eq_nil hu x y hxy], SVr_bool.2 rfl⟩
  · exact ⟨_, .bool (!(x.isNone && y.isNone)), hk, fun w' => by simp [Go.binOp, ptr_eq_nil hu x y hxy], SVr_bool.2 rfl⟩
  · cases hk

theorem binAgg_run {op : BinOp} {T : TypeId} {t : Ty} {x y : Val t} {cs ds} {S : Nat → Prop} {K' : SV → Option β} (hE : EqFact P T t) (hx : R w S t x cs []) (hy : R w S t y ds []) (hk : binAgg op t x y K' = some r) :
    ∃ sv v, K' sv = some r ∧ (∀ w', (Go.binOp op T (.agg cs.toArray) (.agg ds.toArray)).run P w' = .ok v w') ∧ ∀ {S σ} {G' : Nat → GS}, SVr w S σ G' sv v := by
  have := fun w' => (hE w S x y cs ds hx hy w').2
  unfold binAgg at hk
  split at hk
  · exact ⟨_, .bool (eqV t x y), hk, fun w' => by simp [Go.binOp, this], SVr_bool.2 rfl⟩
  · exact ⟨_, .bool (!eqV t x y), hk, fun w' => by simp [Go.binOp, this], SVr_bool.2 rfl⟩
  · cases hk

theorem quiet_binOp {op T x y yT} (hT : tysOk P Γ = true) (hE : EqFacts P Γ) (ho : o.op = .binOp op T x y yT) (h : RelG C A a w G L) (hk : opK Γ Φ act o A K = some r) : QuietR P o C A a w G L B K r := by
  unfold opK at hk
  rw [ho] at hk
  dsimp only at hk
  have hx := opd_sound Γ T h x
  have hy := opd_sound Γ T h y
  generalize opd Γ T A x = sx at *
  generalize opd Γ T A y = sy at *
  unfold binK at hk
  split at hk
  · rename_i k m k' n
    obtain ⟨sv, v, h1, h2, h3⟩ := binInt_run (P := P) (w := w) (T := T) hk
    rw [SVr_int] at hx hy
    exact ⟨v, sv, h1, h3, fun w' _ => bin_run ho hx hy w' (guard_int w') (h2 w')⟩
  · split at hk
    · rename_i m n hty
      obtain ⟨i, hi, ht⟩ := tyIs_some hty
      obtain ⟨sv, v, h1, h2, h3⟩ := binBool_run (P := P) (w := w) (T := T) (under_bool (tf_of hT hi) ht) hk
      rw [SVr_bool] at hx hy
      exact ⟨v, sv, h1, h3, fun w' _ => bin_run ho hx hy w' (guard_bool w') (h2 w')⟩
    · cases hk
  · rename_i m n
    obtain ⟨sv, v, h1, h2, h3⟩ := binStr_run (P := P) (w := w) (T := T) hk
    rw [SVr_str] at hx hy
    exact ⟨v, sv, h1, h3, fun w' _ => bin_run ho hx.1 hy.1 w' (guard_str w') (h2 w')⟩
  · split at hk
    · rename_i hrow
      obtain ⟨e0, hu⟩ := under_row hT hrow
      rw [SVr_valR] at hx hy
      obtain ⟨cs, rx, ex⟩ := hx
      obtain ⟨ds, ry, ey⟩ := hy
      obtain ⟨_, ad, cap, rfl, _, _, hl⟩ := rx
      rcases ry with ⟨_, rfl, _⟩ | ⟨_, _, _, _, _, hF, _⟩
      · obtain ⟨sv, v, h1, h2, h3⟩ := binRow_run (P := P) (w := w) hu (ad := ad) (fun hem => by
          rcases hl with hl | ⟨ad', ccs, rfl, _⟩
          · rw [List.isEmpty_eq_false_iff] at hem
            exact absurd (List.length_eq_zero_iff.1 hl) hem
          · rfl) hk
        exact ⟨v, sv, h1, h3, fun w' _ => bin_run ho ex ey w' (guard_row w') (h2 w')⟩
      · cases hF
    · cases hk
  · split at hk
    · rename_i t m t' n _ _ _ _ htt
      subst htt
      split at hk
      · rename_i hq
        unfold eqKnown at hq
        split at hq
        · rename_i i hi
          simp only [Bool.and_eq_true, decide_eq_true_eq] at hq
          obtain ⟨⟨q1, q2⟩, q3⟩ := hq
          have hEq := hE T i hi q1
          rw [← q3] at hEq
          rw [SVr_valR] at hx hy
          obtain ⟨cs, rx, ex⟩ := hx
          obtain ⟨ds, ry, ey⟩ := hy
          rw [q2] at ex ey
          obtain ⟨sv, v, h1, h2, h3⟩ := binAgg_run (P := P) (T := T) hEq rx ry hk
          exact ⟨v, sv, h1, h3, fun w' _ => bin_run ho ex ey w' ((hEq _ _ _ _ _ _ rx ry w').1 _ _ _) (h2 w')⟩
        · cases hq
      · cases hk
    · cases hk
  · split at hk
    · rename_i hty
      obtain ⟨i, hi, ht⟩ := tyIs_some hty
      obtain ⟨e', hu⟩ := under_ptr (tf_of hT hi) ht
      rw [SVr_nilp] at hx hy
      obtain ⟨sv, v, h1, h2, h3⟩ := binNil_run (P := P) (w := w) (x := none) (y := none) hu (.inl rfl) hk
      exact ⟨v, sv, h1, h3, fun w' _ => bin_run ho hx hy w' (guard_ptr w') (h2 w')⟩
    · cases hk
  · split at hk
    · rename_i hty
      obtain ⟨i, hi, ht⟩ := tyIs_some hty
      obtain ⟨e', hu⟩ := under_ptr (tf_of hT hi) ht
      rw [SVr_nilp] at hy
      obtain ⟨t', cs', b, o', _, hx⟩ := SVr_ptr.1 hx
      obtain ⟨sv, v, h1, h2, h3⟩ := binNil_run (P := P) (w := w) (x := some ⟨b, o', none⟩) (y := none) hu (.inr rfl) hk
      exact ⟨v, sv, h1, h3, fun w' _ => bin_run ho hx hy w' (guard_ptr w') (h2 w')⟩
    · cases hk
  · split at hk
    · rename_i hty
      obtain ⟨i, hi, ht⟩ := tyIs_some hty
      obtain ⟨e', hu⟩ := under_ptr (tf_of hT hi) ht
      rw [SVr_nilp] at hx
      obtain ⟨t', cs', b, o', _, hy⟩ := SVr_ptr.1 hy
      obtain ⟨sv, v, h1, h2, h3⟩ := binNil_run (P := P) (w := w) (x := none) (y := some ⟨b, o', none⟩) hu (.inl rfl) hk
      exact ⟨v, sv, h1, h3, fun w' _ => bin_run ho hx hy w' (guard_ptr w') (h2 w')⟩
    · cases hk
  · cases hk

theorem encode_small {n : Int} (h0 : 0 ≤ n) (h1 : n < 128) : Utf8.encode n = ⟨#[UInt8.ofNat n.toNat]⟩ := by
  have hv : Utf8.valid n = true := by unfold Utf8.valid; simp; omega
  unfold Utf8.encode
  simp only [hv, if_true]
  rw [if_pos (by omega)]
theorem strOf_len (s : ByteArray) : (strOf s).length = s.size := by cases s; rfl
theorem quiet_convert {S D x} (hT : tysOk P Γ = true) (ho : o.op = .convert S D x) (h : RelG C A a w G L) (hk : opK Γ Φ act o A K = some r) : QuietR P o C A a w G L B K r := by
  unfold opK at hk
  rw [ho] at hk
  dsimp only at hk
  have hx := opd_sound Γ S h x
  split at hk
  · rename_i iS iD k n hS hD hc
    rw [hc, SVr_int] at hx
    obtain ⟨dS, hS', _⟩ := (tf_of hT hS).kind
    split at hk
    · rename_i k' e
      have hD' := under_int (tf_of hT hD) e
      have hi : P.intKind D = k' := by simp [Program.intKind, hD']
      exact ⟨_, _, hk, SVr_int.2 rfl, fun w' _ => by
        have := run_convert_int (P := P) w' S D k (toI n) (by simp [hS']) (by rw [hi]; exact hD')
        simp [execOp, ho, hx, this, hi]; rfl⟩
    · rename_i e
      have hD' := under_str (tf_of hT hD) e
      cases hc2 : leB 0 (toI n) && ltB (toI n) 128 with
      | false => rw [hc2] at hk; cases hk
      | true =>
      rw [hc2] at hk
      rw [Bool.and_eq_true, leB_eq, ltB_eq, decide_eq_true_iff, decide_eq_true_iff] at hc2
      refine ⟨_, _, hk, SVr_str.2 ⟨rfl, by simp [toS, ofS, maxLen]⟩, fun w' _ => ?_⟩
      have := run_convert_int_string (P := P) w' S D k (toI n) (by simp [hS']) hD'
      rw [encode_small hc2.1 hc2.2] at this
      simp only [execOp, ho, hx]
      simp [this, toS, ofS]
    · cases hk
  · cases hk

theorem two_args {args : Array Operand} {x y} (h : args.toList = [x, y]) : args = #[x, y] := by
  rw [← Array.toArray_toList (xs := args), h]
theorem one_arg {α : Type} {args : Array α} {x} (h : args.toList = [x]) : args = #[x] := by
  rw [← Array.toArray_toList (xs := args), h]

theorem quiet_min {args tys} (ho : o.op = .call { callee := .builtin .min, args, argTypes := tys }) (h : RelG C A a w G L) (hk : opK Γ Φ act o A K = some r) : QuietR P o C A a w G L B K r := by
  unfold opK at hk
  rw [ho] at hk
  dsimp only at hk
  split at hk
  · rename_i x y e
    have hx := opd_sound Γ 0 h x
    have hy := opd_sound Γ 0 h y
    split at hk
    · rename_i k m k' n e1 e2
      rw [e1, SVr_int] at hx
      rw [e2, SVr_int] at hy
      split at hk
      · rename_i hkk
        subst hkk
        refine ⟨_, _, hk, SVr_int.2 rfl, fun w' _ => ?_⟩
        rw [two_args e] at ho
        simp [execOp, ho, resolve, invoke, builtin, Builtin.min_, Builtin.min2, hx, hy]
        show (if _ then _ else _) = min (toI m) (toI n)
        split <;> omega
      · cases hk
    · cases hk
  · cases hk

theorem quiet_max {args tys} (ho : o.op = .call { callee := .builtin .max, args, argTypes := tys }) (h : RelG C A a w G L) (hk : opK Γ Φ act o A K = some r) : QuietR P o C A a w G L B K r := by
  unfold opK at hk
  rw [ho] at hk
  dsimp only at hk
  split at hk
  · rename_i x y e
    have hx := opd_sound Γ 0 h x
    have hy := opd_sound Γ 0 h y
    split at hk
    · rename_i k m k' n e1 e2
      rw [e1, SVr_int] at hx
      rw [e2, SVr_int] at hy
      split at hk
      · rename_i hkk
        subst hkk
        refine ⟨_, _, hk, SVr_int.2 rfl, fun w' _ => ?_⟩
        rw [two_args e] at ho
        simp [execOp, ho, resolve, invoke, builtin, Builtin.max_, Builtin.max2, hx, hy]
        show (if _ then _ else _) = max (toI m) (toI n)
        split <;> omega
      · cases hk
    · cases hk
  · cases hk

theorem under_ow {i : TI} {T} (hF : TF P Γ T i) {e t} (he : i.ty = .ow e t) : P.underlying T = some (.slice e) ∧ i.elem = e ∧ Sized P e t ∧ 0 < cells t ∧ ∃ ie, P.info? e = some ie ∧ (ie.bytes = i.bytes ∧ 0 < i.bytes) ∧ ie.zero = some (aggV (isAgg t) (zeroCells t)) := by
  obtain ⟨d, h1, h2⟩ := hF.kind
  rw [he] at h2
  simp only [kindOk] at h2
  split at h2
  · rename_i e'
    simp only [Bool.and_eq_true, beq_iff_eq, decide_eq_true_eq] at h2
    obtain ⟨⟨⟨⟨rfl, h3⟩, h4⟩, h5⟩, h6⟩ := h2
    refine ⟨h1, h3, sized_of h4, h5.1, ?_⟩
    split at h6
    · rename_i ie e1
      simp only [Bool.and_eq_true, beq_iff_eq] at h6
      refine ⟨ie, e1, ⟨h6.1, h5.2⟩, ?_⟩
      have := h6.2
      split at this
      · rename_i z e2; rw [e2, zeroEq_eq this]
      · cases this
    · cases h6
  · cases h2

theorem SVr_sh {w : World} {S : Nat → Prop} {σ : Nat → Site} {G : Nat → GS} {e t} {l : Val (.sh e t)} {v} (h : SVr w S σ G (.val (.sh e t) l) v) :
    ∃ ad cap, v = .slice ad (List.length (α := Val t) l) cap ∧ List.length (α := Val t) l ≤ cap ∧ cap ≤ maxLen ∧
      (List.length (α := Val t) l = 0 ∨ ∃ d ccs, ad = some d ∧ S d.block ∧ Rl (R w S t) l ccs [] ∧ ∀ j c, ccs[j]? = some c → w.cell? (d.add j) = some c) := by
  obtain ⟨cs, hr, rfl⟩ := SVr_valR.1 h
  obtain ⟨_, ad, cap, rfl, h1, h2, h3⟩ := hr
  exact ⟨ad, cap, rfl, h1, h2, h3⟩
theorem SVr_ow {w : World} {S : Nat → Prop} {σ : Nat → Site} {G : Nat → GS} {e t} {l : Val (.ow e t)} {v} (h : SVr w S σ G (.val (.ow e t) l) v) :
    v = .slice none 0 0 ∧ List.length (α := Val t) l = 0 := by
  obtain ⟨cs, hr, rfl⟩ := SVr_valR.1 h
  rcases hr with ⟨h1, rfl, _⟩ | ⟨b, cap, cur, F', _, hF, _⟩
  · exact ⟨rfl, h1⟩
  · cases hF
theorem ref_at {s p sv v} (h : RelG C A a w G L) (hs : SVr w (Sof C w G L) A.site G sv v) (e : sv = .ref s p) {u y} (hr : rowAt A s p = some ⟨u, y⟩) :
    ∃ cs' loc' F', AtS w (A.site s) (G s) p u cs' loc' ∧ R w (Sof C w G L) u y cs' F' ∧ v = cs'.headD undef ∧ (∃ e t, u = .ow e t) ∧ (∀ b ∈ F', b ∈ (G s).F) := by
  subst e
  obtain ⟨cs, h1, rfl⟩ := hs
  simp only [SC] at h1
  obtain ⟨e, t1, loc', hAt⟩ := h1
  unfold rowAt at hr
  split at hr
  · rename_i t x ht
    obtain ⟨x', F', g1, g2, g3, _⟩ := part h ht hAt
    rw [g1] at hr
    simp only [Option.some.injEq, Sigma.mk.injEq] at hr
    obtain ⟨rfl, hr⟩ := hr
    obtain rfl := eq_of_heq hr
    exact ⟨cs, loc', F', hAt, g2, rfl, ⟨e, t1, rfl⟩, g3⟩
  · cases hr
theorem ow_head {w : World} {S : Nat → Prop} {e t} {l : Val (.ow e t)} {cs F} (hr : R w S (.ow e t) l cs F) : ∃ ad cap, cs = [.slice ad (List.length (α := Val t) l) cap] := by
  rcases hr with ⟨h1, rfl, _⟩ | ⟨b, cap, cur, F', rfl, _⟩
  · exact ⟨none, 0, by rw [h1]⟩
  · exact ⟨_, _, rfl⟩

theorem quiet_len {args tys} (hT : tysOk P Γ = true) (ho : o.op = .call { callee := .builtin .len, args, argTypes := tys }) (h : RelG C A a w G L) (hk : opK Γ Φ act o A K = some r) : QuietR P o C A a w G L B K r := by
  unfold opK at hk
  rw [ho] at hk
  dsimp only at hk
  split at hk
  rotate_left
  · cases hk
  rename_i x T e1 e2
  rw [one_arg e1, one_arg e2] at ho
  have hx := opd_sound Γ 0 h x
  split at hk
  · cases hk
  rename_i i hi
  have slice : ∀ {e t}, i.ty = .ow e t → ∀ {ad n cap} (w' : World), a.eval x = .slice ad n cap → (execOp a.eval o).run P w' = .ok (.value (goInt n)) w' := by
    intro e t he ad n cap w' hv
    obtain ⟨hu, _⟩ := under_ow (tf_of hT hi) he
    simp [execOp, ho, resolve, invoke, builtin, Builtin.len_, run_underlying hu, hv]
  split at hk
  · rename_i e t e' t' l hty hc
    rw [hc] at hx
    obtain ⟨ad, cap, hv, _⟩ := SVr_sh hx
    exact ⟨_, _, hk, SVr_int.2 rfl, fun w' _ => slice hty w' hv⟩
  · rename_i e t e' t' l hty hc
    rw [hc] at hx
    obtain ⟨hv, h0⟩ := SVr_ow hx
    refine ⟨_, _, hk, SVr_int.2 rfl, fun w' _ => ?_⟩
    rw [slice hty w' hv]
    show _ = Result.ok (Next.value (.int .i64 ((List.length (α := Val t') l : Nat) : Int))) w'
    rw [h0]; rfl
  · rename_i l hty hc
    rw [hc] at hx
    obtain ⟨hv, h0⟩ := SVr_str.1 hx
    have hu := under_str (tf_of hT hi) hty
    exact ⟨_, _, hk, SVr_int.2 rfl, fun w' _ => by
      have hsz : (⟨(toS l).toArray⟩ : ByteArray).size = (toS l).length := by show (toS l).toArray.size = _; simp
      simp [execOp, ho, resolve, invoke, builtin, Builtin.len_, run_underlying hu, hv, hsz]; rfl⟩
  · rename_i e t s p hty hc
    split at hk
    · rename_i e' t' l hr
      obtain ⟨cs', loc', F', g1, g2, g3, _⟩ := ref_at h hx hc hr
      obtain ⟨ad, cap, rfl⟩ := ow_head g2
      exact ⟨_, _, hk, SVr_int.2 rfl, fun w' _ => slice hty w' g3⟩
    · cases hk
  · cases hk
end
end Go.Am
/- Am, part 14: reading: loads, fields, elements. -/
set_option linter.unusedVariables false
set_option linter.unusedSimpArgs false
namespace Go.Am

theorem shape_same : ∀ {u t : Ty}, sameShape u t = true → cells u = cells t ∧ isAgg u = isAgg t := by
  intro u
  induction u with
  | pair a b iha ihb =>
    intro t h
    cases t <;> simp [sameShape] at h
    exact ⟨by simp only [cells]; rw [(iha h.1).1, (ihb h.2).1], rfl⟩
  | arr n t ih =>
    intro t' h
    cases t' <;> simp [sameShape] at h
    exact ⟨by simp only [cells]; rw [(ih h.2).1, h.1], rfl⟩
  | int k => intro t h; cases t <;> simp [sameShape] at h <;> exact ⟨rfl, rfl⟩
  | bool => intro t h; cases t <;> simp [sameShape] at h <;> exact ⟨rfl, rfl⟩
  | str => intro t h; cases t <;> simp [sameShape] at h <;> exact ⟨rfl, rfl⟩
  | unit => intro t h; cases t <;> simp [sameShape] at h <;> exact ⟨rfl, rfl⟩
  | hole => intro t h; cases t <;> simp [sameShape] at h <;> exact ⟨rfl, rfl⟩
  | sh e t ih => intro t h; cases t <;> simp [sameShape] at h <;> exact ⟨rfl, rfl⟩
  | ow e t ih => intro t h; cases t <;> simp [sameShape] at h <;> exact ⟨rfl, rfl⟩

theorem shape_offs : ∀ (p : Path) {u t : Ty} {o t'}, sameShape u t = true → offs t p = some (o, t') → ∃ u', offs u p = some (o, u') ∧ sameShape u' t' = true := by
  intro p
  induction p with
  | nil => intro u t o t' h ho; simp [offs] at ho; obtain ⟨rfl, rfl⟩ := ho; exact ⟨u, by simp [offs], h⟩
  | cons s p ih =>
    intro u t o t' h ho
    cases t <;> cases s <;> simp [offs] at ho
    · cases u <;> simp [sameShape] at h
      obtain ⟨u', h1, h2⟩ := ih h.1 ho
      exact ⟨u', by simpa [offs] using h1, h2⟩
    · cases u <;> simp [sameShape] at h
      obtain ⟨o', h', rfl⟩ := ho
      obtain ⟨u', h1, h2⟩ := ih h.2 h'
      exact ⟨u', by simp [offs, h1, (shape_same h.1).1], h2⟩
    · cases u <;> simp [sameShape] at h
      obtain ⟨hi, o', h', rfl⟩ := ho
      obtain ⟨u', h1, h2⟩ := ih h.2 h'
      obtain ⟨rfl, h3⟩ := h
      exact ⟨u', by simp [offs, h1, (shape_same h3).1, hi], h2⟩

section
variable {β : Type} {P : Program} {Γ : Env} {C : Ctx} {A : St} {a : Act} {w : World} {G : Nat → GS} {L : List Nat} {K : St → Option β} {r : β} {o : Oper} {B : Nat → Prop}
variable {Φ : Prog} {act : Option Ty}

theorem isAgg_run {T t} (hs : Sized P T t) (w' : World) : (Go.isAgg T).run P w' = .ok (isAgg t) w' := by
  obtain ⟨d, h1, h2⟩ := hs.row
  unfold Go.isAgg
  rw [Sem.run_bind, run_underlying h1, ← h2]
  cases d <;> rfl
theorem sizeOf_run {T t} (hs : Sized P T t) (w' : World) : (Go.sizeOf T).run P w' = .ok (cells t) w' := by
  obtain ⟨i, h1, h2⟩ := hs.info
  simp [Go.sizeOf, typeInfo, h1, h2]
theorem one_cell {t : Ty} (h : isAgg t = false) : cells t = 1 := by cases t <;> simp_all [isAgg, cells]

theorem load_run {T t} (hs : Sized P T t) {ad : Addr} {ccs : List Value} (hl : ccs.length = cells t) {w' : World} (hc : ∀ j c, ccs[j]? = some c → w'.cell? (ad.add j) = some c) :
    (loadVar T ad).run P w' = .ok (aggV (isAgg t) ccs) w' := by
  unfold loadVar
  rw [Sem.run_bind, isAgg_run hs]
  cases hg : isAgg t with
  | true =>
    simp only [Result.andThen_ok, if_true]
    rw [Sem.run_bind, sizeOf_run hs]
    simp [← hl, run_loadCells_list (P := P) w' ad ccs hc, aggV]
  | false =>
    have h1 := one_cell hg
    rw [h1] at hl
    obtain ⟨c, rfl⟩ := List.length_eq_one_iff.1 hl
    have := hc 0 c rfl
    have e : ad.add 0 = ad := by simp [Addr.add]
    rw [e] at this
    simp [Go.load, Sem.run, this, aggV]

theorem row_cells {w' : World} {b o : Nat} {cur : Array Value} {T : TypeId} {n : Nat} (hb : w'.heap[b]? = some (.cells cur T (0, 0))) : ∀ j c, ((cur.toList.drop o).take n)[j]? = some c → w'.cell? ((⟨b, o, none⟩ : Addr).add j) = some c := by
  intro j c hj
  rw [Addr.add_mid, cell_of_row w' b _ cur T (0, 0) hb]
  rw [List.getElem?_take] at hj
  split at hj
  · simpa using hj
  · cases hj

theorem ptr_at {s p sv v} (h : RelG C A a w G L) (hs : SVr w (Sof C w G L) A.site G sv v) (e : sv = .ptr s p) {u y} (hr : rowAt A s p = some ⟨u, y⟩) :
    ∃ cs' b o F' cur T, AtS w (A.site s) (G s) p u cs' (some (b, o)) ∧ R w (Sof C w G L) u y cs' F' ∧ v = .pointer (some ⟨b, o, none⟩) ∧ b ∈ (G s).F ∧ w.heap[b]? = some (.cells cur T (0, 0)) ∧ cs' = (cur.toList.drop o).take (cells u) ∧ o + cells u ≤ cur.size := by
  subst e
  obtain ⟨t', cs', b, o, hAt, rfl⟩ := SVr_ptr.1 hs
  unfold rowAt at hr
  split at hr
  · rename_i t x ht
    obtain ⟨x', F', g1, g2, g3, g4, g5, _⟩ := part h ht hAt
    rw [g1] at hr
    simp only [Option.some.injEq, Sigma.mk.injEq] at hr
    obtain ⟨rfl, hr⟩ := hr
    obtain rfl := eq_of_heq hr
    obtain ⟨h1, h2, cur, T, h3, h4, h5⟩ := g5 _ _ rfl
    exact ⟨cs', b, o, F', cur, T, hAt, g2, rfl, h1, h3, h4, h5⟩
  · cases hr

theorem quiet_load {T x} (hT : tysOk P Γ = true) (ho : o.op = .load T x) (h : RelG C A a w G L) (hB : ∀ ad, a.eval x = .pointer (some ad) → B ad.block)
    (hk : opK Γ Φ act o A K = some r) : QuietR P o C A a w G L B K r := by
  unfold opK at hk
  rw [ho] at hk
  dsimp only at hk
  have hx := opd_sound Γ 0 h x
  split at hk
  · rename_i i hi
    have hs := (tf_of hT hi).sized
    split at hk
    · rename_i v hv
      unfold loadV at hv
      split at hv
      · rename_i t y hc
        split at hv
        · rename_i hsh
          simp only [Option.some.injEq] at hv
          subst hv
          rw [hc] at hx
          obtain ⟨ad, ccs, hv, hS, hr, hcell⟩ := SVr_ro.1 hx
          have hsh' := shape_same hsh
          refine ⟨aggV (isAgg t) ccs, _, hk, SVr_val hr, fun w' hw => ?_⟩
          have : (loadVar T ad).run P w' = .ok (aggV (isAgg i.ty) ccs) w' := load_run hs (by rw [R_len _ _ _ _ hr, hsh'.1]) fun j c hj => by
            have hb : (ad.add j).block = ad.block := by unfold Addr.add; split <;> rfl
            rw [World.cell?_of_block (w := w) (by rw [hb]; exact hw _ (hB _ hv))]
            exact hcell j c hj
          simp [execOp, ho, Instr.loadAt, Instr.sureAddr, hv, this, hsh'.2]
        · cases hv
      · rename_i s p hc
        split at hv
        · rename_i u y hr
          split at hv
          · rename_i hsh
            simp only [Option.some.injEq] at hv
            subst hv
            obtain ⟨cs', b, o', F', cur, T', g1, g2, g3, g4, g5, g6, g7⟩ := ptr_at h hx hc hr
            have hsh' := shape_same hsh
            refine ⟨aggV (isAgg u) cs', _, hk, SVr_view g1 g2, fun w' hw => ?_⟩
            have : (loadVar T ⟨b, o', none⟩).run P w' = .ok (aggV (isAgg i.ty) cs') w' := load_run hs (by rw [R_len _ _ _ _ g2, hsh'.1]) (by
              rw [g6]; exact row_cells (by rw [hw _ (hB _ g3)]; exact g5))
            simp [execOp, ho, Instr.loadAt, Instr.sureAddr, g3, this, hsh'.2]
          · cases hv
        · cases hv
      · cases hv
    · cases hk
  · cases hk

/-! ### Fields -/
theorem field_fact {i : TI} {T} (hF : TF P Γ T i) {k q} (hq : i.field k = some q) : ∃ fs f o t, P.underlying T = some (.struct fs) ∧ fs[k]? = some f ∧ offs i.ty q = some (o, t) ∧ f.offset = o ∧ Sized P f.type t ∧ 0 < cells t := by
  unfold TI.field at hq
  split at hq
  · rename_i x y he
    split at hq
    · rename_i hk
      simp only [Option.some.injEq] at hq
      subst hq
      obtain ⟨d, h1, h2⟩ := hF.kind
      rw [he] at h2
      simp only [kindOk] at h2
      split at h2
      · rename_i fs
        simp only [Bool.and_eq_true, beq_iff_eq, List.all_eq_true, List.mem_range] at h2
        have := h2.2 k hk
        split at this
        · rename_i f o t e1 e2
          simp only [Bool.and_eq_true, beq_iff_eq, decide_eq_true_eq] at this
          exact ⟨fs, f, o, t, h1, e1, by rw [he]; exact e2, this.1.1, sized_of this.1.2, this.2⟩
        · cases this
      · cases h2
    · cases hq
  · cases hq

theorem sized_shape {T t u} (hs : Sized P T t) (h : sameShape u t = true) : Sized P T u := by
  obtain ⟨⟨i, h1, h2⟩, ⟨d, h3, h4⟩⟩ := hs
  exact ⟨⟨i, h1, by rw [h2, (shape_same h).1]⟩, ⟨d, h3, by rw [h4, (shape_same h).2]⟩⟩

theorem field_fact' {i : TI} {T} (hF : TF P Γ T i) {k q u} (hq : i.field k = some q) (hu : sameShape u i.ty = true) : ∃ fs f t, P.underlying T = some (.struct fs) ∧ fs[k]? = some f ∧ offs u q = some (f.offset, t) ∧ Sized P f.type t ∧ 0 < cells t := by
  obtain ⟨fs, f, o, t, h1, h2, h3, h4, h5, h6⟩ := field_fact hF hq
  obtain ⟨u', h7, h8⟩ := shape_offs q hu h3
  exact ⟨fs, f, u', h1, h2, by rw [h4]; exact h7, sized_shape h5 h8, by rw [(shape_same h8).1]; exact h6⟩

theorem add_add (ad : Addr) (m n : Nat) : (ad.add m).add n = ad.add (m + n) := by
  unfold Addr.add
  by_cases h1 : m = 0
  · subst h1; simp
  · by_cases h2 : n = 0
    · subst h2; simp
    · simp [h1, h2, Nat.add_assoc]

/-- A part of a tree that owns nothing. -/
theorem part_R {S : Nat → Prop} {t : Ty} {x : Val t} {cs p o t'} (hr : R w S t x cs []) (ho : offs t p = some (o, t')) :
    ∃ x', getAt t x p = some ⟨t', x'⟩ ∧ R w S t' x' ((cs.drop o).take (cells t')) [] := by
  obtain ⟨x', F1, F', F2, h1, h2, h3, _⟩ := At_focus (At.plain (w := w) (cs := cs) (loc := none) ho) x [] hr List.nodup_nil
  have : F' = [] := by
    cases F' with
    | nil => rfl
    | cons b F' => simp at h2
  subst this
  exact ⟨x', h1, h3⟩

theorem quiet_fieldAddr {T x k} (hT : tysOk P Γ = true) (ho : o.op = .fieldAddr T x k) (h : RelG C A a w G L) (hk : opK Γ Φ act o A K = some r) : QuietR P o C A a w G L B K r := by
  unfold opK at hk
  rw [ho] at hk
  dsimp only at hk
  have hx := opd_sound Γ 0 h x
  have run : ∀ {i : TI} {q u} (hi : Γ.at T = some i) (hq : i.field k = some q) (hu : sameShape u i.ty = true), ∃ o' t, offs u q = some (o', t) ∧ ∀ (ad : Addr) (w' : World), a.eval x = .pointer (some ad) → (execOp a.eval o).run P w' = .ok (.value (.pointer (some (ad.add o')))) w' := by
    intro i q u hi hq hu
    obtain ⟨fs, f, t, h1, h2, h3, h4, h5⟩ := field_fact' (tf_of hT hi) hq hu
    refine ⟨f.offset, t, h3, fun ad w' hv => ?_⟩
    have hne : cells t ≠ 0 := by omega
    simp [execOp, ho, Instr.fieldAt, run_underlying h1, h2, hv, Instr.sureAddr, fieldPlace, sizeOf_run h4, hne]
  split at hk
  · rename_i i s p hi hc
    split at hk
    · rename_i u y q hr hq
      split at hk
      · rename_i hsh
        obtain ⟨cs', b, o', F', cur, T', g1, g2, g3, g4, g5, g6, g7⟩ := ptr_at h hx hc hr
        obtain ⟨o1, t, h1, h2⟩ := run hi hq hsh
        refine ⟨.pointer (some ⟨b, o' + o1, none⟩), _, hk, SVr_ptr.2 ⟨t, _, b, o' + o1, AtS_ext g1 (At.plain (loc := some (b, o')) h1), rfl⟩, fun w' _ => ?_⟩
        rw [h2 _ w' g3, Addr.add_mid]
      · cases hk
    · cases hk
  · rename_i i t y hi hc
    split at hk
    · rename_i q hq
      split at hk
      · rename_i hsh
        split at hk
        · rename_i u z hget
          rw [hc] at hx
          obtain ⟨ad, ccs, hv, hS, hr, hcell⟩ := SVr_ro.1 hx
          obtain ⟨o1, t', h1, h2⟩ := run hi hq hsh
          obtain ⟨x', h3, h4⟩ := part_R hr h1
          rw [h3] at hget
          simp only [Option.some.injEq, Sigma.mk.injEq] at hget
          obtain ⟨rfl, hget⟩ := hget
          obtain rfl := eq_of_heq hget
          refine ⟨.pointer (some (ad.add o1)), _, hk, SVr_ro.2 ⟨ad.add o1, _, rfl, ?_, h4, fun j c hj => ?_⟩, fun w' _ => h2 _ w' hv⟩
          · have hb : (ad.add o1).block = ad.block := by unfold Addr.add; split <;> rfl
            rw [hb]; exact hS
          · rw [add_add]
            rw [List.getElem?_take] at hj
            split at hj
            · exact hcell _ c (by simpa using hj)
            · cases hj
        · cases hk
      · cases hk
    · cases hk
  · cases hk

theorem part_run {T t} (hs : Sized P T t) {cs : Array Value} {o' : Nat} (hl : o' + cells t ≤ cs.size) (w' : World) : (Go.part T cs o').run P w' = .ok (aggV (isAgg t) ((cs.toList.drop o').take (cells t))) w' := by
  unfold Go.part
  rw [Sem.run_bind, isAgg_run hs]
  cases hg : isAgg t with
  | true =>
    simp only [Result.andThen_ok, if_true]
    simp [sizeOf_run hs, aggV]
    apply Array.ext'
    simp [List.drop_take]
  | false =>
    have h1 := one_cell hg
    rw [h1] at hl ⊢
    have : cs[o']? = some cs[o'] := by simp
    simp only [Result.andThen_ok, Bool.false_eq_true, if_false, this]
    have e : (cs.toList.drop o').take 1 = [cs[o']] := by
      rw [List.drop_eq_getElem_cons (by simp; omega)]; simp
    simp [aggV, e]

theorem quiet_field {T x k} (hT : tysOk P Γ = true) (ho : o.op = .field T x k) (h : RelG C A a w G L) (hk : opK Γ Φ act o A K = some r) : QuietR P o C A a w G L B K r := by
  unfold opK at hk
  rw [ho] at hk
  dsimp only at hk
  have hx := opd_sound Γ 0 h x
  split at hk
  · rename_i i t y hi hc
    split at hk
    · rename_i q hq
      split at hk
      · rename_i hsh
        split at hk
        · rename_i u z hget
          rw [hc] at hx
          obtain ⟨cs, hr, hv⟩ := SVr_valR.1 hx
          obtain ⟨fs, f, t', h1, h2, h3, h4, h5⟩ := field_fact' (tf_of hT hi) hq hsh
          obtain ⟨x', h6, h7⟩ := part_R hr h3
          rw [h6] at hget
          simp only [Option.some.injEq, Sigma.mk.injEq] at hget
          obtain ⟨rfl, hget⟩ := hget
          obtain rfl := eq_of_heq hget
          refine ⟨_, _, hk, SVr_val h7, fun w' _ => ?_⟩
          have hagg : isAgg t = true := by
            rw [(shape_same hsh).2]
            unfold TI.field at hq
            split at hq
            · rename_i e; rw [e]; rfl
            · cases hq
          rw [hagg] at hv
          have hle := offs_le _ _ _ _ h3
          have := part_run h4 (cs := cs.toArray) (o' := f.offset) (by rw [List.size_toArray, R_len _ _ _ _ hr]; exact hle) w'
          simp [execOp, ho, Instr.field, run_underlying h1, h2, hv, aggV, asAgg, this]
        · cases hk
      · cases hk
    · cases hk
  · cases hk
end
end Go.Am
/- Am, part 15: elements and cuts. -/
set_option linter.unusedVariables false
set_option linter.unusedSimpArgs false
namespace Go.Am

section
variable {β : Type} {P : Program} {Γ : Env} {C : Ctx} {A : St} {a : Act} {w : World} {G : Nat → GS} {L : List Nat} {K : St → Option β} {r : β} {o : Oper} {B : Nat → Prop}
variable {Φ : Prog} {act : Option Ty}

theorem int_opd {x n} (h : RelG C A a w G L) (hn : intOf (opd Γ 0 A x) = some n) : ∃ k, a.eval x = .int k n := by
  have hx := opd_sound Γ 0 h x
  unfold intOf at hn
  split at hn
  · rename_i k m hc
    rw [hc, SVr_int] at hx
    simp only [Option.some.injEq] at hn
    exact ⟨k, by rw [hx, hn]⟩
  · cases hn

theorem indexAt_slice_run {T e t} (hu : P.underlying T = some (.slice e)) (hs : Sized P e t) {ad : Addr} {n cap : Nat} {k : IntKind} {i : Int} (h0 : 0 ≤ i) (h1 : i < n) (w' : World) :
    (Instr.indexAt T (.slice (some ad) n cap) (.int k i)).run P w' = .ok (.pointer (some (ad.add (i.toNat * cells t)))) w' := by
  simp [Instr.indexAt, run_underlying hu, asIntOf, h0, h1, sizeOf_run hs]
theorem indexAt_array_run {T e t} {m : Nat} (hu : P.underlying T = some (.array m e)) (hs : Sized P e t) {ad : Addr} {k : IntKind} {i : Int} (h0 : 0 ≤ i) (h1 : i < m) (w' : World) :
    (Instr.indexAt T (.pointer (some ad)) (.int k i)).run P w' = .ok (.pointer (some (ad.add (i.toNat * cells t)))) w' := by
  simp [Instr.indexAt, run_underlying hu, asIntOf, h0, h1, sizeOf_run hs, Instr.sureAddr]

theorem under_arr {i : TI} {T} (hF : TF P Γ T i) {m t} (he : i.ty = .arr m t) : ∃ e, P.underlying T = some (.array m e) ∧ Sized P e t ∧ 0 < cells t := by
  obtain ⟨d, h1, h2⟩ := hF.kind
  rw [he] at h2
  simp only [kindOk] at h2
  split at h2
  · rename_i m' e
    simp only [Bool.and_eq_true, beq_iff_eq, decide_eq_true_eq] at h2
    obtain ⟨⟨⟨rfl, h3⟩, h4⟩, h5⟩ := h2
    exact ⟨e, h1, sized_of h4, h5⟩
  · cases h2

theorem Rl_get {w : World} {S : Nat → Prop} {t : Ty} {l : List (Val t)} {cs} (hl : Rl (R w S t) l cs []) {i : Nat} (hi : i < l.length) : R w S t (l.getD i (dflt t)) ((cs.drop (i * cells t)).take (cells t)) [] := by
  obtain ⟨F1, F', F2, h1, h2, _⟩ := Rl_at (R_len t) (dflt t) l cs [] hl i hi
  have : F' = [] := by
    cases F' with
    | nil => rfl
    | cons b F' => simp at h1
  subst this
  exact h2

theorem quiet_indexAddr {T x ix} (hT : tysOk P Γ = true) (ho : o.op = .indexAddr T x ix) (h : RelG C A a w G L) (hk : opK Γ Φ act o A K = some r) : QuietR P o C A a w G L B K r := by
  unfold opK at hk
  rw [ho] at hk
  dsimp only at hk
  have hx := opd_sound Γ 0 h x
  split at hk
  · rename_i i e t l n hi hc hn
    obtain ⟨k, hn⟩ := int_opd h hn
    split at hk
    · rename_i e' t' hty
      obtain ⟨hu, _, hs, _⟩ := under_ow (tf_of hT hi) hty
      split at hk
      · rename_i hsh
        obtain ⟨rfl, hsh⟩ := hsh
        split at hk
        · rename_i h0
          split at hk
          · rename_i h1
            rw [hc] at hx
            obtain ⟨ad, cap, hv, _, _, hr⟩ := SVr_sh hx
            have h1' : n < ((List.length (α := Val t) l : Nat) : Int) := h1
            rcases hr with hr | ⟨d, ccs, rfl, hS, hr, hcell⟩
            · rw [hr] at h1'; omega
            · have hs' := sized_shape hs hsh
              refine ⟨.pointer (some (d.add (n.toNat * cells t))), _, hk, SVr_ro.2 ⟨_, _, rfl, ?_, Rl_get hr (by omega), fun j c hj => ?_⟩, fun w' _ => ?_⟩
              · have hb : (d.add (n.toNat * cells t)).block = d.block := by unfold Addr.add; split <;> rfl
                rw [hb]; exact hS
              · rw [add_add]
                rw [List.getElem?_take] at hj
                split at hj
                · exact hcell _ c (by simpa using hj)
                · cases hj
              · simp [execOp, ho, hv, hn, indexAt_slice_run hu hs' h0 h1']
          · cases hk
        · cases hk
      · cases hk
    · cases hk
  · rename_i i s p n hi hc hn
    obtain ⟨k, hn⟩ := int_opd h hn
    split at hk
    · rename_i e t l e' t' hr hty
      obtain ⟨hu, _, hs, _⟩ := under_ow (tf_of hT hi) hty
      split at hk
      · rename_i hsh
        obtain ⟨rfl, hsh⟩ := hsh
        split at hk
        · rename_i h0
          split at hk
          · rename_i h1
            obtain ⟨cs', loc', F', g1, g2, g3, _, _⟩ := ref_at h hx hc hr
            have hs' := sized_shape hs hsh
            have h1' : n < ((List.length (α := Val t) l : Nat) : Int) := h1
            rcases g2 with ⟨h2, _, _⟩ | ⟨b, cap, cur, F2, rfl, _, hb, h3, h4, h5, h6⟩
            · rw [h2] at h1'; omega
            · refine ⟨.pointer (some ⟨b, 0 + n.toNat * cells t, none⟩), _, hk, SVr_ptr.2 ⟨t, (cur.toList.drop (n.toNat * cells t)).take (cells t), b, 0 + n.toNat * cells t, ?_, rfl⟩, fun w' _ => ?_⟩
              · have : At w (.ow e' t) [.slice (some ⟨b, 0, none⟩) (List.length (α := Val t) l) cap] loc' ([] ++ .idx n.toNat :: []) t (((((cur.toList.drop (n.toNat * cells t)).take (cells t))).drop 0).take (cells t)) ((some (b, n.toNat * cells t)).map fun q => (q.1, q.2 + 0)) :=
                  At.own (o := 0) (by simp [offs]) rfl hb (by omega) (At.plain (by simp [offs]))
                have := AtS_ext g1 this
                simp only [List.nil_append, List.drop_zero, List.take_take, Nat.min_self, Option.map_some, Nat.add_zero] at this
                simpa using this
              · simp only [List.headD_cons] at g3
                simp [execOp, ho, g3, hn, indexAt_slice_run hu hs' h0 h1', Addr.add_mid]
          · cases hk
        · cases hk
      · cases hk
    · cases hk
  · rename_i i s p n hi hc hn
    obtain ⟨k, hn⟩ := int_opd h hn
    split at hk
    · rename_i m t l m' t' hr hty
      obtain ⟨e, hu, hs, _⟩ := under_arr (tf_of hT hi) hty
      split at hk
      · rename_i hsh
        obtain ⟨rfl, hsh⟩ := hsh
        split at hk
        · rename_i h0
          split at hk
          · rename_i h1
            obtain ⟨cs', b, o', F', cur, T', g1, g2, g3, g4, g5, g6, g7⟩ := ptr_at h hx hc hr
            have hs' := sized_shape hs hsh
            have hoff : offs (.arr m t) [.idx n.toNat] = some (n.toNat * cells t, t) := by
              have : n.toNat < m := by omega
              simp [offs, this]
            refine ⟨.pointer (some ⟨b, o' + n.toNat * cells t, none⟩), _, hk, SVr_ptr.2 ⟨t, _, b, o' + n.toNat * cells t, AtS_ext g1 (At.plain (loc := some (b, o')) hoff), rfl⟩, fun w' _ => ?_⟩
            simp [execOp, ho, g3, hn, indexAt_array_run hu hs' h0 h1, Addr.add_mid]
          · cases hk
        · cases hk
      · cases hk
    · cases hk
  · cases hk

theorem quiet_index {T x ix} (hT : tysOk P Γ = true) (ho : o.op = .index T x ix) (h : RelG C A a w G L) (hk : opK Γ Φ act o A K = some r) : QuietR P o C A a w G L B K r := by
  unfold opK at hk
  rw [ho] at hk
  dsimp only at hk
  have hx := opd_sound Γ 0 h x
  split at hk
  · rename_i i l n hi hc hn
    obtain ⟨k, hn⟩ := int_opd h hn
    split at hk
    · rename_i hty
      have hu := under_str (tf_of hT hi) hty
      split at hk
      · rename_i h0
        split at hk
        · rename_i h1
          rw [hc] at hx
          obtain ⟨hv, _⟩ := SVr_str.1 hx
          refine ⟨_, _, hk, SVr_int.2 rfl, fun w' _ => ?_⟩
          have hlt : n.toNat < (toS l).length := by omega
          have hb : (⟨(toS l).toArray⟩ : ByteArray)[n.toNat]? = some ((toS l).getD n.toNat 0) := by
            rw [ByteArray.getElem?_lt' _ _ (by show _ < (toS l).toArray.size; simpa using hlt)]
            show some ((toS l).toArray[n.toNat]'(by simpa using hlt)) = _
            simp [List.getD_eq_getElem?_getD, hlt]
          simp [execOp, ho, Instr.index, run_underlying hu, hv, hn, asIntOf, h0, hb]
          rfl
        · cases hk
      · cases hk
    · cases hk
  · rename_i i m t l n hi hc hn
    obtain ⟨k, hn⟩ := int_opd h hn
    split at hk
    · rename_i m' t' hty
      obtain ⟨e, hu, hs, _⟩ := under_arr (tf_of hT hi) hty
      split at hk
      · rename_i hsh
        obtain ⟨rfl, hsh⟩ := hsh
        split at hk
        · rename_i h0
          split at hk
          · rename_i h1
            have hs' := sized_shape hs hsh
            rw [hc] at hx
            obtain ⟨cs, hr, hv⟩ := SVr_valR.1 hx
            have hlen := R_len _ _ _ _ hr
            obtain ⟨hl, hr⟩ := hr
            have hlt : n.toNat < m := by omega
            refine ⟨_, _, hk, SVr_val (Rl_get hr (by omega)), fun w' _ => ?_⟩
            have hle : n.toNat * cells t + cells t ≤ cs.length := by
              rw [hlen]; simp only [cells]
              calc n.toNat * cells t + cells t = (n.toNat + 1) * cells t := by rw [Nat.succ_mul]
                _ ≤ m * cells t := Nat.mul_le_mul_right _ hlt
            have := part_run hs' (cs := cs.toArray) (o' := n.toNat * cells t) (by simpa using hle) w'
            simp [execOp, ho, Instr.index, run_underlying hu, hv, hn, asIntOf, h0, h1, sizeOf_run hs', aggV, isAgg, this]
          · cases hk
        · cases hk
      · cases hk
    · cases hk
  · cases hk
end
end Go.Am
/- Am, part 16: cuts of shared rows and of strings. -/
set_option linter.unusedVariables false
set_option linter.unusedSimpArgs false
namespace Go.Am

theorem Rl_cut {α : Type} {P : α → List Value → List Nat → Prop} {m : Nat} (hlen : ∀ x cs F, P x cs F → cs.length = m) {l : List α} {cs} (h : Rl P l cs []) {i k : Nat} (hi : i ≤ l.length) (hk : k ≤ l.length - i) :
    Rl P ((l.drop i).take k) ((cs.drop (i * m)).take (k * m)) [] := by
  have h1 := h
  rw [← List.take_append_drop i l, Rl_append] at h1
  obtain ⟨c1, c2, F1, F2, rfl, hF, k1, k2⟩ := h1
  obtain ⟨rfl, rfl⟩ := List.nil_eq_append_iff.1 hF
  have e1 := Rl_len hlen _ _ _ k1
  rw [List.length_take, Nat.min_eq_left hi] at e1
  rw [List.drop_append_of_le_length (by omega), ← e1, List.drop_length, List.nil_append]
  rw [← List.take_append_drop k (l.drop i), Rl_append] at k2
  obtain ⟨d1, d2, F1, F2, rfl, hF, j1, j2⟩ := k2
  obtain ⟨rfl, rfl⟩ := List.nil_eq_append_iff.1 hF
  have e2 := Rl_len hlen _ _ _ j1
  rw [List.length_take, List.length_drop, Nat.min_eq_left hk] at e2
  rw [← e2, List.take_append_of_le_length (Nat.le_refl _), List.take_length]
  exact j1

section
variable {β : Type} {P : Program} {Γ : Env} {C : Ctx} {A : St} {a : Act} {w : World} {G : Nat → GS} {L : List Nat} {K : St → Option β} {r : β} {o : Oper} {B : Nat → Prop}
variable {Φ : Prog} {act : Option Ty}

theorem bounds_run {n cap : Nat} {lo hi mx : Option Operand} {x y : Int} {sl : Bool} (h : RelG C A a w G L) (hb : boundsOf Γ A (n : Int) lo hi mx = some (x, y, true)) (h0 : 0 ≤ x) (h1 : x ≤ y) (h2 : y ≤ n) (h3 : n ≤ cap) :
    ∃ m, (∀ w', (Instr.sliceBounds sl n cap (lo.map a.eval) (hi.map a.eval) (mx.map a.eval)).run P w' = .ok (x.toNat, y.toNat, m) w') ∧ y.toNat ≤ m ∧ m ≤ cap := by
  unfold boundsOf at hb
  have hl : (lo = none ∧ x = 0 ∨ ∃ q k, lo = some q ∧ a.eval q = .int k x) ∧ (hi = none ∧ y = n ∨ ∃ q k, hi = some q ∧ a.eval q = .int k y) ∧ (mx = none ∨ ∃ q k, mx = some q ∧ hi.isSome ∧ a.eval q = .int k y) := by
    split at hb
    rotate_left
    · cases hb
    rename_i a' b' e1 e2
    have hx : a' = x ∧ b' = y ∧ (mx = none ∨ ∃ q k, mx = some q ∧ hi.isSome ∧ a.eval q = .int k y) := by
      split at hb
      · simp only [Option.some.injEq, Prod.mk.injEq] at hb; exact ⟨hb.1, hb.2.1, .inl rfl⟩
      · rename_i q q'
        split at hb
        · rename_i c hc
          simp only [Option.some.injEq, Prod.mk.injEq, decide_eq_true_eq] at hb
          obtain ⟨rfl, rfl, rfl⟩ := hb
          obtain ⟨k, hk⟩ := int_opd h hc
          exact ⟨rfl, rfl, .inr ⟨_, k, rfl, rfl, hk⟩⟩
        · cases hb
      · cases hb
    obtain ⟨rfl, rfl, hm⟩ := hx
    refine ⟨?_, ?_, hm⟩
    · cases lo with
      | none => left; simp at e1; exact ⟨rfl, e1.symm⟩
      | some q => right; obtain ⟨k, hk⟩ := int_opd h e1; exact ⟨q, k, rfl, hk⟩
    · cases hi with
      | none => left; simp at e2; exact ⟨rfl, e2.symm⟩
      | some q => right; obtain ⟨k, hk⟩ := int_opd h e2; exact ⟨q, k, rfl, hk⟩
  obtain ⟨hl, hh, hm⟩ := hl
  have hy0 : 0 ≤ y := by omega
  have ey : (y.toNat : Int) = y := Int.toNat_of_nonneg hy0
  rcases hm with rfl | ⟨q, k, rfl, hs, hm⟩
  · refine ⟨cap, fun w' => ?_, by omega, Nat.le_refl _⟩
    rcases hl with ⟨rfl, rfl⟩ | ⟨ql, kl, rfl, hl⟩ <;> rcases hh with ⟨rfl, rfl⟩ | ⟨qh, kh, rfl, hh⟩
    · simp [Instr.sliceBounds]
    · simp [Instr.sliceBounds, hh, run_sliceBound w' kh y cap _ hy0 (by omega)]
    · simp [Instr.sliceBounds, hl, run_sliceBound w' kl x n _ h0 (by omega)]
    · simp [Instr.sliceBounds, hl, hh, run_sliceBound w' kh y cap _ hy0 (by omega), run_sliceBound w' kl x y.toNat _ h0 (by omega)]
  · refine ⟨y.toNat, fun w' => ?_, Nat.le_refl _, by omega⟩
    have r1 := fun c => run_sliceBound (P := P) w' k y cap c hy0 (by omega)
    rcases hl with ⟨rfl, rfl⟩ | ⟨ql, kl, rfl, hl⟩ <;> rcases hh with ⟨rfl, rfl⟩ | ⟨qh, kh, rfl, hh⟩
    · simp at hs
    · simp [Instr.sliceBounds, hh, hm, r1, run_sliceBound w' kh y y.toNat _ hy0 (by omega)]
    · simp at hs
    · simp [Instr.sliceBounds, hl, hh, hm, r1, run_sliceBound w' kh y y.toNat _ hy0 (by omega), run_sliceBound w' kl x y.toNat _ h0 (by omega)]

theorem slice_run {T e t} (hu : P.underlying T = some (.slice e)) (hs : Sized P e t) {ad : Option Addr} {n cap : Nat} {lo hi mx : Option Value} {x y m : Nat} {w' : World}
    (hb : (Instr.sliceBounds true n cap lo hi mx).run P w' = .ok (x, y, m) w') :
    (Instr.sliceAt T (.slice ad n cap) lo hi mx).run P w' = .ok (.slice (if m = x then ad else ad.map (·.add (x * cells t))) (y - x) (m - x)) w' := by
  simp [Instr.sliceAt, Instr.slice, run_underlying hu, hb, sizeOf_run hs]

theorem slice_str_run {T} (hu : P.underlying T = some .string) {s : ByteArray} {lo hi : Option Value} {x y m : Nat} {w' : World}
    (hb : (Instr.sliceBounds false s.size s.size lo hi none).run P w' = .ok (x, y, m) w') :
    (Instr.sliceAt T (.string s) lo hi none).run P w' = .ok (.string (s.extract x y)) w' := by
  simp [Instr.sliceAt, Instr.slice, run_underlying hu, hb]

/-- Is the cut one of an owned row? -/
def cutsOwn (Γ : Env) (A : St) (x : Operand) : Bool :=
  match opd Γ 0 A x with
  | .ref _ _ => true
  | _ => false

theorem quiet_slice {T x lo hi mx} (hT : tysOk P Γ = true) (ho : o.op = .slice T x lo hi mx) (hown : cutsOwn Γ A x = false) (h : RelG C A a w G L) (hk : opK Γ Φ act o A K = some r) : QuietR P o C A a w G L B K r := by
  unfold opK at hk
  rw [ho] at hk
  dsimp only at hk
  have hx := opd_sound Γ 0 h x
  split at hk
  · cases hk
  rename_i i hi'
  split at hk
  · rename_i e' t' e t l hty hc
    split at hk
    · rename_i hsh
      obtain ⟨rfl, hsh⟩ := hsh
      obtain ⟨hu, _, hs, _⟩ := under_ow (tf_of hT hi') hty
      have hs' := sized_shape hs hsh
      split at hk
      · rename_i x' y' ok hb
        split at hk
        · rename_i h0
          split at hk
          · rename_i h1
            split at hk
            · rename_i h2
              split at hk
              · rename_i h3
                subst h3
                rw [hc] at hx
                obtain ⟨ad, cap, hv, c1, c2, hr⟩ := SVr_sh hx
                have h2' : y' ≤ ((List.length (α := Val t) l : Nat) : Int) := h2
                have hb' : boundsOf Γ A ((List.length (α := Val t) l : Nat) : Int) lo hi mx = some (x', y', true) := hb
                obtain ⟨m, b1, b2, b3⟩ := bounds_run (P := P) (sl := true) h hb' h0 h1 h2' c1
                refine ⟨.slice (if m = x'.toNat then ad else ad.map (·.add (x'.toNat * cells t))) (y'.toNat - x'.toNat) (m - x'.toNat), _, hk, ?_, fun w' _ => ?_⟩
                · refine SVr_valR.2 ⟨[_], ⟨rfl, (if m = x'.toNat then ad else ad.map (·.add (x'.toNat * cells t))), m - x'.toNat, ?_, ?_, by omega, ?_⟩, rfl⟩
                  · have : (List.take (y'.toNat - x'.toNat) (List.drop (α := Val t) x'.toNat l)).length = y'.toNat - x'.toNat := by
                      rw [List.length_take, List.length_drop]; omega
                    rw [this]
                  · rw [List.length_take, List.length_drop]; omega
                  · by_cases hz : y'.toNat - x'.toNat = 0
                    · left; rw [List.length_take]; omega
                    · right
                      rcases hr with hr | ⟨d, ccs, rfl, hS, hr, hcell⟩
                      · omega
                      · have hne : ¬ m = x'.toNat := by omega
                        refine ⟨d.add (x'.toNat * cells t), _, by rw [if_neg hne]; rfl, ?_, Rl_cut (R_len t) hr (i := x'.toNat) (k := y'.toNat - x'.toNat) (by omega) (by omega), fun j c hj => ?_⟩
                        · have hbb : (d.add (x'.toNat * cells t)).block = d.block := by unfold Addr.add; split <;> rfl
                          rw [hbb]; exact hS
                        · rw [add_add]
                          rw [List.getElem?_take] at hj
                          split at hj
                          · exact hcell _ c (by simpa using hj)
                          · cases hj
                · simp [execOp, ho, hv, slice_run hu hs' (b1 w')]
              · cases hk
            · cases hk
          · cases hk
        · cases hk
      · cases hk
    · cases hk
  · rename_i l hty hc
    have hu := under_str (tf_of hT hi') hty
    split at hk
    · rename_i x' y' ok hb
      split at hk
      · rename_i h0
        split at hk
        · rename_i h1
          split at hk
          · rename_i h2
            rw [hc] at hx
            obtain ⟨hv, hmax⟩ := SVr_str.1 hx
            have hok : ok = true := by
              unfold boundsOf at hb
              split at hb
              · simp at hb; exact hb.2.2
              · cases hb
            subst hok
            have hsz : (⟨(toS l).toArray⟩ : ByteArray).size = (toS l).length := by show (toS l).toArray.size = _; simp
            obtain ⟨m, b1, b2, b3⟩ := bounds_run (P := P) (sl := false) (cap := (toS l).length) h hb h0 h1 h2 (Nat.le_refl _)
            refine ⟨_, _, hk, SVr_str.2 ⟨rfl, ?_⟩, fun w' _ => ?_⟩
            · show (List.take _ (List.drop _ (toS l))).length ≤ maxLen
              rw [List.length_take, List.length_drop]; omega
            · have b1' : (Instr.sliceBounds false (⟨(toS l).toArray⟩ : ByteArray).size (⟨(toS l).toArray⟩ : ByteArray).size (lo.map a.eval) (hi.map a.eval) none).run P w' = .ok (x'.toNat, y'.toNat, m) w' := by
                rw [hsz]; exact b1 w'
              have hex : (⟨(toS l).toArray⟩ : ByteArray).extract x'.toNat y'.toNat = ⟨(toS (ofS (List.take (y'.toNat - x'.toNat) (List.drop x'.toNat (toS l))))).toArray⟩ := by
                apply ByteArray.ext
                simp [toS, ofS]
              simp [execOp, ho, hv, slice_str_run hu b1', hex]
          · cases hk
        · cases hk
      · cases hk
    · cases hk
  · rename_i s p hty hc
    simp [cutsOwn, hc] at hown
  · cases hk
end
end Go.Am
/- Am, part 17: operations that make variables, structs and rows. -/
set_option linter.unusedVariables false
set_option linter.unusedSimpArgs false
namespace Go.Am

/-- What an operation leaves behind. -/
def Eff {β : Type} (P : Program) (o : Oper) (C : Ctx) (A : St) (a : Act) (w : World) (G : Nat → GS) (T : Nat → Bool) (K : St → Option β) (r : β) : Prop :=
  ∀ Q, o.wp P a w (fun a' w' => ∃ A' G', K A' = some r ∧ RelG C A' a' w' G' [] ∧ Mono C w G [] w' G' [] ∧ Frm w w' A A' G G' T) Q

section
variable {β : Type} {P : Program} {Γ : Env} {C : Ctx} {A : St} {a : Act} {w : World} {G : Nat → GS} {L : List Nat} {K : St → Option β} {r : β} {o : Oper} {B : Nat → Prop}
variable {Φ : Prog} {act : Option Ty} {T : Nat → Bool}

/-- A value is yielded, the world goes on. -/
theorem eff_value {v : Value} {w' : World} (hr : (execOp a.eval o).run P w = .ok (.value v) w')
    (h : ∃ A' G', K A' = some r ∧ RelG C A' (a.put o.dst v) w' G' [] ∧ Mono C w G [] w' G' [] ∧ Frm w w' A A' G G' T) : Eff P o C A a w G T K r := by
  intro Q
  unfold Oper.wp
  rw [hr]
  exact h

theorem eff_quiet (h : RelG C A a w G []) (hq : QuietR P o C A a w G [] B K r) (hB : True) : Eff P o C A a w G T K r := by
  obtain ⟨v, sv, h1, h2, h3⟩ := hq
  exact eff_value (h3 w fun _ _ => rfl) ⟨_, G, h1, h.put _ _ _ h2, fun b hb => ⟨hb, rfl⟩, fun s _ _ => ⟨by simp, rfl, fun _ _ => rfl⟩⟩

theorem aggV_cells {t : Ty} {cs : List Value} (hl : cs.length = cells t) (h1 : ∀ c ∈ cs, c.oneCell' = true) : (aggV (isAgg t) cs).cells = cs.toArray := by
  cases hg : isAgg t with
  | true => rfl
  | false =>
    rw [one_cell hg] at hl
    obtain ⟨c, rfl⟩ := List.length_eq_one_iff.1 hl
    have := h1 c (by simp)
    cases c <;> first | rfl | simp [Value.oneCell'] at this

theorem run_newVar (T : TypeId) (v : Value) (w : World) : (newVar T v).run P w = .ok ⟨w.heap.size, 0, none⟩ (w.alloc (.cells v.cells T)) := by
  rfl

theorem newVar_sound {C A a w G L F} {t : Ty} {x : Val t} {cs d} {T : TypeId} (h : RelG C A a w G (L ++ F)) (hr : R w (Sof C w G (L ++ F)) t x cs F) (e : A.site d = .none) :
    ∃ G', RelG C ((A.setSite d (.var T t x)).put (some d) (.ptr d [])) (a.put (some d) (.pointer (some ⟨w.heap.size, 0, none⟩))) (w.alloc (.cells cs.toArray T)) G' L ∧ Mono C w G (L ++ F) (w.alloc (.cells cs.toArray T)) G' L ∧ ∀ T', Frm w (w.alloc (.cells cs.toArray T)) A ((A.setSite d (.var T t x)).put (some d) (.ptr d [])) G G' T' := by
  have hF : (G d).F = [] := by have := h.sites d; rw [e] at this; exact this
  have hLF := List.nodup_append.1 h.lnodup
  have old : ∀ b, b < w.heap.size → (w.alloc (.cells cs.toArray T)).heap[b]? = w.heap[b]? := fun b hb => heap_alloc_old w _ b hb
  have hS : ∀ b, Sof C w G (L ++ F) b → Sof C (w.alloc (.cells cs.toArray T)) (upd G d ⟨cs, w.heap.size :: F, w.heap.size⟩) L b ∧ (w.alloc (.cells cs.toArray T)).heap[b]? = w.heap[b]? := fun b hb => ⟨⟨by rw [size_alloc]; have := hb.1; omega, hb.2.1, fun s' => by
    by_cases e : s' = d
    · subst e; rw [upd_same]; intro hm
      rcases List.mem_cons.1 hm with rfl | hm
      · exact absurd hb.1 (by omega)
      · exact hb.2.2.2 (by simp [show b ∈ F from hm])
    · rw [upd_ne _ _ e]; exact hb.2.2.1 s', fun hm => hb.2.2.2 (by simp [hm])⟩, old b hb.1⟩
  have h2 := h.site (A' := A.setSite d (.var T t x)) (L' := L) d ⟨cs, w.heap.size :: F, w.heap.size⟩ (Goes.alloc w (.cells cs.toArray T)) (fun b hb _ _ => old b hb) (fun s' hs' => by rw [site_setSite, if_neg hs']) rfl
    (fun b hb => by
      rcases List.mem_cons.1 hb with rfl | hb
      · exact ⟨.inr (.inr (Nat.le_refl _)), by rw [size_alloc]; omega⟩
      · have := (h.lmine b (by simp [show b ∈ F from hb])).2
        exact ⟨by simp [show b ∈ F from hb], by rw [size_alloc]; omega⟩)
    (List.nodup_cons.2 ⟨fun hm => by have := (h.lmine w.heap.size (by simp [hm])).2; omega, hLF.2.1⟩)
    (fun b hb => ⟨by simp [hb], by have := (h.lmine b (by simp [hb])).2; rw [size_alloc]; omega⟩) hLF.1
    (fun b hb hb' => by
      rcases List.mem_cons.1 hb with rfl | hb
      · have := (h.lmine w.heap.size (by simp [hb'])).2; omega
      · exact hLF.2.2 b hb' b hb rfl)
    (fun S' hS' _ => by
      rw [site_setSite, if_pos rfl]
      exact ⟨F, rfl, heap_alloc_new w _, R_frame hS' _ _ _ _ (fun b hb => old b (h.lmine b (by simp [hb])).2) hr⟩)
    (fun i => .inr ⟨rfl, by
      have : ∀ v : SV, v.every fun r s' q => Lives w (w.alloc (.cells cs.toArray T)) (A.site s') ((A.setSite d (.var T t x)).site s') (G s') (upd G d ⟨cs, w.heap.size :: F, w.heap.size⟩ s') r q := by
        have one : ∀ r s' q, Lives w (w.alloc (.cells cs.toArray T)) (A.site s') ((A.setSite d (.var T t x)).site s') (G s') (upd G d ⟨cs, w.heap.size :: F, w.heap.size⟩ s') r q := by
          intro r s' q
          by_cases e' : s' = d
          · subst e'; rw [e]; intro _ _ _ hh; exact hh.elim
          · rw [site_setSite, if_neg e', upd_ne _ _ e']; exact Lives.same (h.sites s') (fun b hb => old b (h.mine _ _ hb).2) _ _
        intro v
        induction v with
        | dead => trivial
        | val t x => trivial
        | pr a b ha hb => exact ⟨ha, hb⟩
        | ref s p => exact one _ _ _
        | ptr s p => exact one _ _ _
        | ro t x => trivial
        | nilp => trivial
        | fn f c hc => exact hc
        | tnil => trivial
        | tcons a b ha hb => exact ⟨ha, hb⟩
      exact this _⟩)
    (fun q' hq' e' => h.nopin (fun T t x e2 => by rw [e] at e2; cases e2) q' hq' e')
  refine ⟨_, h2.put (some d) _ _ ?_, hS, fun T' => Frm.site d _ (.inr e) (fun s hne => by rw [site_put, site_setSite, if_neg hne]) (fun s _ b hb => old b (h.mine _ _ hb).2)⟩
  refine SVr_ptr.2 ⟨t, (cs.drop 0).take (cells t), w.heap.size, 0 + 0, ?_, rfl⟩
  rw [site_setSite, if_pos rfl, upd_same]
  exact At.plain (loc := some (w.heap.size, 0)) (t := t) (p := []) (o := 0) (t' := t) (by simp [offs])

theorem take_agg : ∀ (v : SV) {A A' : St} {r : Sigma Val} {w S G cs}, take v A = some (r, A') → SC w S A.site G v cs → aggSV v = isAgg r.1
  | .val t x, A, A', r, w, S, G, cs, h, hv => by
    simp only [take, Option.some.injEq, Prod.mk.injEq] at h
    obtain ⟨rfl, rfl⟩ := h; rfl
  | .pr x y, A, A', r, w, S, G, cs, h, hv => by
    rw [take] at h
    split at h
    · cases h
    · split at h
      · split at h
        · simp only [Option.some.injEq, Prod.mk.injEq] at h
          obtain ⟨rfl, rfl⟩ := h; rfl
        · cases h
      · cases h
  | .ref s p, A, A', r, w, S, G, cs, h, hv => by
    rcases take_ref h with ⟨t, x, e, rfl, rfl, _⟩ | ⟨t, x, e1, u, y, t', x', _, _, _, rfl, _⟩
    · simp only [SC] at hv
      obtain ⟨e0, t0, loc', hAt⟩ := hv
      rw [e] at hAt
      obtain ⟨rfl, _, _⟩ := At_nil hAt rfl
      rfl
    · rfl
  | .dead, A, A', r, w, S, G, cs, h, hv => by simp [take] at h
  | .ptr s p, A, A', r, w, S, G, cs, h, hv => by simp [take] at h
  | .ro t x, A, A', r, w, S, G, cs, h, hv => by simp [take] at h
  | .nilp, A, A', r, w, S, G, cs, h, hv => by simp [take] at h
  | .fn f c, A, A', r, w, S, G, cs, h, hv => by simp [take] at h
  | .tnil, A, A', r, w, S, G, cs, h, hv => by simp [take] at h
  | .tcons x y, A, A', r, w, S, G, cs, h, hv => by simp [take] at h

/-- A slot's value, taken. -/
theorem taken_value {v : SV} {u : Value} {A A' : St} {r : Sigma Val} (htk : take v A = some (r, A')) {C a w G L} (h : RelG C A a w G L) (hv : SVr w (Sof C w G L) A.site G v u) :
    ∃ cs, u = aggV (isAgg r.1) cs ∧ Taken C A A' a w G L v r cs := by
  obtain ⟨cs, h1, h2⟩ := hv
  exact ⟨cs, by rw [h2, take_agg v htk h1], take_sound v htk h h1⟩

theorem zero_run {i : TI} {T'} (hF : TF P Γ T' i) (hh : i.ty ≠ .hole) (w : World) : (zeroValue T').run P w = .ok (aggV (isAgg i.ty) (zeroCells i.ty)) w := by
  obtain ⟨inf, h1, h2⟩ := hF.zero hh
  simp [zeroValue, typeInfo, h1, h2]

theorem eff_alloc {T'} (hT : tysOk P Γ = true) (ho : o.op = .alloc T') (h : RelG C A a w G []) (hk : opK Γ Φ act o A K = some r) : Eff P o C A a w G T K r := by
  unfold opK at hk
  rw [ho] at hk
  dsimp only at hk
  split at hk
  · rename_i d i hd hi
    split at hk
    · rename_i hn
      split at hk
      · cases hk
      · rename_i hh
        have hR := R_dflt (w := w) (S := Sof C w G []) i.ty
        obtain ⟨G', k1, k2, k3⟩ := newVar_sound (L := []) (F := []) (T := T') (by simpa using h) (by simpa using hR) hn
        have hz := zero_run (tf_of hT hi) hh w
        have hc := aggV_cells (R_len _ _ _ _ hR) (R_ones _ _ _ _ hR)
        refine eff_value (v := .pointer (some ⟨w.heap.size, 0, none⟩)) (w' := w.alloc (.cells (zeroCells i.ty).toArray T')) ?_ ⟨_, G', hk, by rw [hd]; exact k1, fun b hb => k2 b (by simpa using hb), k3 T⟩
        simp [execOp, ho, Instr.alloc, hz, run_newVar, hc]
    · cases hk
  · cases hk

theorem eff_box {T' x} (hT : tysOk P Γ = true) (ho : o.op = .box T' x) (h : RelG C A a w G []) (hTn : ∀ s, T s = false → (opd Γ T' A x).names s = false) (hk : opK Γ Φ act o A K = some r) : Eff P o C A a w G T K r := by
  unfold opK at hk
  rw [ho] at hk
  dsimp only at hk
  have hx := opd_sound Γ T' h x
  split at hk
  · rename_i d i t y A1 hd hi htk
    split at hk
    · rename_i hn
      split at hk
      · rename_i hc
        obtain ⟨cs, hv, G1, F, k1, k2, k3, _, k5⟩ := taken_value htk h hx
        have k2 : R w (Sof C w G1 ([] ++ F)) t y cs F := k2
        obtain ⟨G', m1, m2, m3⟩ := newVar_sound (T := T') k1 k2 hn
        have hcc := aggV_cells (R_len _ _ _ _ k2) (R_ones _ _ _ _ k2)
        refine eff_value (v := .pointer (some ⟨w.heap.size, 0, none⟩)) (w' := w.alloc (.cells cs.toArray T')) ?_ ⟨_, G', hk, by rw [hd]; exact m1, fun b hb => ⟨(m2 b (k3 b hb)).1, (m2 b (k3 b hb)).2⟩, (k5.mono hTn).trans (m3 T)⟩
        simp [execOp, ho, Instr.box, run_newVar, hv, hcc]
      · cases hk
    · cases hk
  · cases hk
end
end Go.Am
/- Am, part 18: stores. -/
set_option linter.unusedVariables false
set_option linter.unusedSimpArgs false
namespace Go.Am

section
variable {β : Type} {P : Program} {Γ : Env} {C : Ctx} {A : St} {a : Act} {w : World} {G : Nat → GS} {L : List Nat} {K : St → Option β} {r : β} {o : Oper} {B : Nat → Prop}
variable {Φ : Prog} {act : Option Ty} {T : Nat → Bool}

theorem eff_skip {w' : World} (hr : (execOp a.eval o).run P w = .ok .skip w')
    (h : ∃ A' G', K A' = some r ∧ RelG C A' (a.put o.dst undef) w' G' [] ∧ Mono C w G [] w' G' [] ∧ Frm w w' A A' G G' T) : Eff P o C A a w G T K r := by
  intro Q
  unfold Oper.wp
  rw [hr]
  exact h

theorem map_same (l : List SV) (k : SV → Bool) (h : ∀ v, k v = false) : l.map (fun v => if k v then SV.dead else v) = l := by
  induction l with
  | nil => rfl
  | cons x l ih => simp [h, ih]

theorem write_sound {F : List Nat} {s : Nat} {p : Path} {t0 u : Ty} {y : Val u} {cs cs0 : List Value} {b o' : Nat} {A2 : St}
    (h : RelG C A a w G F) (hr : R w (Sof C w G F) u y cs F) (hAt : AtS w (A.site s) (G s) p t0 cs0 (some (b, o'))) (hw : writeAt s p t0 u y A = some A2) :
    ∃ cur T', w.heap[b]? = some (.cells cur T' (0, 0)) ∧ o' + cs.length ≤ cur.size ∧ cs.length = cells t0 ∧ isAgg u = isAgg t0 ∧
      ∃ G', RelG C A2 a (w.setRow b (cur.toList.take o' ++ cs ++ cur.toList.drop (o' + cs.length)).toArray) G' [] ∧
        Mono C w G F (w.setRow b (cur.toList.take o' ++ cs ++ cur.toList.drop (o' + cs.length)).toArray) G' [] ∧
        (∀ T : Nat → Bool, T s = true → Frm w (w.setRow b (cur.toList.take o' ++ cs ++ cur.toList.drop (o' + cs.length)).toArray) A A2 G G' T) ∧ (G' s).blk = (G s).blk := by
  unfold writeAt at hw
  split at hw
  rotate_left
  · cases hw
  rename_i t x ht
  split at hw
  rotate_left
  · cases hw
  rename_i t' x' hset
  simp only [Option.some.injEq] at hw
  obtain ⟨x0, F0, g1, g2, g3, g4, g5, g6⟩ := part h ht hAt
  obtain ⟨hb1, hb2, cur, T', hb3, hb4, hb5⟩ := g5 b o' rfl
  obtain ⟨tp, xp, hp1, hp2, hp3⟩ := setAt_part _ _ _ _ _ _ hset
  rw [g1] at hp1
  simp only [Option.some.injEq, Sigma.mk.injEq] at hp1
  obtain ⟨rfl, _⟩ := hp1
  have hlen := R_len _ _ _ _ hr
  rw [hp2] at hlen
  have hbF : b ∉ F := h.lapart _ _ hb1
  refine ⟨cur, T', hb3, by omega, hlen, hp3, ?_⟩
  have other : ∀ c, c ≠ b → (w.setRow b (cur.toList.take o' ++ cs ++ cur.toList.drop (o' + cs.length)).toArray).heap[c]? = w.heap[c]? := fun c hc => setRow_other w b c _ hc
  have hLn : F.Nodup := h.lnodup
  obtain ⟨g, q1, q2, q3, q4⟩ := g6 (w' := w.setRow b (cur.toList.take o' ++ cs ++ cur.toList.drop (o' + cs.length)).toArray) (cs'' := cs) (F'' := F) (L' := [])
    (fun v => if u = t0 ∧ noOwn t0 = true then false else v.beneath s p) hset (Goes.setRow _ _ _)
    (fun c _ _ hc => other c (hc b o' rfl))
    (fun c hc => other c (fun e => hbF (e ▸ hc)))
    (fun b2 o2 e cur2 T2 hb => by
      simp only [Option.some.injEq, Prod.mk.injEq] at e
      obtain ⟨rfl, rfl⟩ := e
      rw [hb3] at hb
      simp only [Option.some.injEq, Obj.cells.injEq, and_true] at hb
      obtain ⟨rfl, rfl⟩ := hb
      rw [hlen]
      exact setRow_heap w b cur _ T' _ hb3)
    (fun e => by cases e) (fun c hc => hc) hLn (by simp) (by simp) (by simp)
    (fun S' hS' _ => R_frame hS' _ _ _ _ (fun c hc => other c (fun e => hbF (e ▸ hc))) hr)
    (by
      by_cases hc : u = t0 ∧ noOwn t0 = true
      · exact .inl ⟨hc.2, hc.1⟩
      · refine .inr fun v hv => beneath_every v ?_
        rwa [if_neg hc] at hv)
    (by split <;> rfl)
  have hA2 : A2 = { (A.setSite s ((A.site s).with t' x')) with slots := A.slots.map fun v => if (if u = t0 ∧ noOwn t0 = true then false else v.beneath s p) = true then .dead else v } := by
    rw [← hw]
    by_cases hc : u = t0 ∧ noOwn t0 = true
    · rw [if_pos hc]
      have := map_same A.slots (fun v => if u = t0 ∧ noOwn t0 = true then false else v.beneath s p) (fun v => by rw [if_pos hc])
      rw [this]; rfl
    · rw [if_neg hc]
      simp only [if_neg hc]; rfl
  rw [hA2]
  refine ⟨_, q1, fun c hc => ⟨⟨?_, hc.2.1, fun s' => ?_, by simp⟩, ?_⟩, fun T hT => Frm.site s _ (.inl hT) (fun s' hne => by show (A.setSite s _).site s' = _; rw [site_setSite, if_neg hne]) (fun s' hne c hc => ?_), by rw [upd_same]; exact q4⟩
  · have := hc.1; simpa [World.setRow] using this
  · by_cases e : s' = s
    · subst e; rw [upd_same]
      intro hm
      rcases q2 c hm with hm | hm
      · exact hc.2.2.1 _ hm
      · exact hc.2.2.2 hm
    · rw [upd_ne _ _ e]; exact hc.2.2.1 s'
  · exact other c (fun e => hc.2.2.1 s (e ▸ hb1))
  · exact other c (fun e => h.apart s' s hne c hc (e ▸ hb1))

theorem store_run {T' : TypeId} {t : Ty} (hs : Sized P T' t) {b o' : Nat} {cur : Array Value} {Tb : TypeId} {cs : List Value} (hb : w.heap[b]? = some (.cells cur Tb (0, 0))) (hle : o' + cs.length ≤ cur.size) (hlen : cs.length = cells t)
    (h1 : ∀ c ∈ cs, c.oneCell' = true) {v : Value} (hv : v.cells = cs.toArray) :
    (storeVar T' ⟨b, o', none⟩ v).run P w = .ok () (w.setRow b (cur.toList.take o' ++ cs ++ cur.toList.drop (o' + cs.length)).toArray) := by
  have := run_storeCells_at P b o' Tb cs 0 cur w hb (by simpa using hle) h1
  simp only [Nat.add_zero] at this
  simp [storeVar, sizeOf_run hs, hv, hlen, this]

theorem eff_store {T' x y} (hT : tysOk P Γ = true) (ho : o.op = .store T' x y) (h : RelG C A a w G []) (hTn : ∀ s, T s = false → (opd Γ 0 A x).names s = false ∧ (opd Γ T' A y).names s = false) (hk : opK Γ Φ act o A K = some r) : Eff P o C A a w G T K r := by
  unfold opK at hk
  rw [ho] at hk
  dsimp only at hk
  have hx := opd_sound Γ 0 h x
  have hy := opd_sound Γ T' h y
  split at hk
  rotate_left
  · cases hk
  rename_i i hi
  have hs := (tf_of hT hi).sized
  generalize opd Γ 0 A x = sx at *
  generalize opd Γ T' A y = sy at *
  unfold storeK at hk
  split at hk
  rotate_left
  · cases hk
  rename_i s p
  split at hk
  · cases hk
  rename_i hcl
  split at hk
  · cases hk
  rename_i u z A1 htk
  split at hk
  · cases hk
  rename_i t0 z0 hrow
  split at hk
  rotate_left
  · cases hk
  rename_i hsh
  have hsh' := shape_same hsh
  obtain ⟨cs, hv, G1, F, k1, k2, k3, k4, k5⟩ := taken_value htk h hy
  have k2 : R w (Sof C w G1 ([] ++ F)) u z cs F := k2
  rw [List.nil_append] at k1 k2
  obtain ⟨cx, hx1, hx2⟩ := hx
  have hx3 := k4 (.ptr s p) (by simpa using hcl) cx hx1
  rw [List.nil_append] at hx3
  obtain ⟨cs', b, o', F', cur', T2, g1, g2, g3, g4, g5, g6, g7⟩ := ptr_at k1 ⟨cx, hx3, hx2⟩ rfl hrow
  have hTs : T s = true := by
    cases e : T s with
    | true => rfl
    | false => have := (hTn s e).1; simp [SV.names] at this
  have fin : ∀ {u' : Ty} {z' : Val u'} {F1 : List Nat} {A2 : St}, isAgg u' = isAgg u → RelG C A1 a w G1 F1 → R w (Sof C w G1 F1) u' z' cs F1 → (∀ c, Sof C w G1 F c → Sof C w G1 F1 c) → writeAt s p t0 u' z' A1 = some A2 → K (A2.put o.dst .dead) = some r → Eff P o C A a w G T K r := by
    intro u' z' F1 A2 hag j1 j2 j3 hw hk
    obtain ⟨cur, T3, m1, m2, m3, m4, G', m5, m6, m7, _⟩ := write_sound j1 j2 g1 hw
    have hcc := aggV_cells (R_len _ _ _ _ j2) (R_ones _ _ _ _ j2)
    rw [hag] at hcc
    refine eff_skip (w' := w.setRow b (cur.toList.take o' ++ cs ++ cur.toList.drop (o' + cs.length)).toArray) ?_ ⟨_, G', hk, m5.put _ _ _ (SVr_dead _ _ _ _ _), fun c hc => ⟨(m6 c (j3 c (by simpa using k3 c hc))).1, (m6 c (j3 c (by simpa using k3 c hc))).2⟩, ?_⟩
    · have := store_run hs m1 m2 (by rw [m3, hsh'.1]) (R_ones _ _ _ _ j2) hcc
      simp [execOp, ho, Instr.storeAt, Instr.sureAddr, g3, hv, this]
    · refine (k5.mono fun s hs => (hTn s hs).2).trans ?_
      exact (m7 T hTs).trans (fun s _ _ => ⟨by simp, rfl, fun _ _ => rfl⟩)
  split at hk
  · rename_i y' hc
    split at hk
    · rename_i A2 hw
      obtain ⟨F1, j1, j2, j3, j4⟩ := coe_sound (L := []) (F := F) (by simpa using k1) (by simpa using k2) hc
      rw [List.nil_append] at j1 j2
      exact fin (coeV_agg _ _ _ _ hc).1 j1 j2 (fun c hc => by have := (j3 c (by simpa using hc)).1; simpa using this) hw hk
    · cases hk
  · split at hk
    · rename_i A2 hw
      exact fin rfl k1 k2 (fun c hc => hc) hw hk
    · cases hk

theorem plain_coe : ∀ (u : Ty), plainTy u = true → coeB u u = true := by
  intro u
  induction u with
  | int k => intro _; simp [coeB]
  | bool => intro _; rfl
  | unit => intro _; rfl
  | pair a b iha ihb => intro h; simp only [plainTy, Bool.and_eq_true] at h; simp only [coeB, Bool.and_eq_true]; exact ⟨iha h.1, ihb h.2⟩
  | _ => intro h; simp [plainTy] at h
theorem coeV_self : ∀ (u : Ty) (z : Val u), coeB u u = true → coeV? u z u = some z := by
  intro u z h
  cases u <;> unfold coeV? <;> rw [dif_pos h] <;> rfl
theorem plain_noOwn : ∀ (u : Ty), plainTy u = true → noOwn u = true := by
  intro u
  induction u with
  | pair a b iha ihb => intro h; simp only [plainTy, Bool.and_eq_true] at h; simp only [noOwn, Bool.and_eq_true]; exact ⟨iha h.1, ihb h.2⟩
  | _ => simp [plainTy, noOwn]

/-- A store of a plain value into an element of a variable's row: the variable's own cells stay. -/
theorem eff_storeIn {T' x y} (hT : tysOk P Γ = true) (ho : o.op = .store T' x y) (h : RelG C A a w G []) {s : Nat} {p : Path} {u : Ty} {z : Val u} (hx : opd Γ 0 A x = .ptr s p) (hy : opd Γ T' A y = .val u z) {Tv : TypeId} {t : Ty} {tx : Val t} (hs : A.site s = .var Tv t tx) (hoff : offs t p = none) (hu : plainTy u = true)
    (hrow : ∀ t0 z0, rowAt A s p = some ⟨t0, z0⟩ → t0 = u) (hk : opK Γ Φ act o A K = some r) :
    ∀ Q, o.wp P a w (fun a' w' => ∃ A' G', K A' = some r ∧ RelG C A' a' w' G' [] ∧ Mono C w G [] w' G' [] ∧ Frm w w' A A' G G' (fun s' => s' == s) ∧
      (∃ t' tx', A'.site s = .var Tv t' tx') ∧ (G' s).blk = (G s).blk ∧ w'.heap[(G s).blk]? = w.heap[(G s).blk]?) Q := by
  unfold opK at hk
  rw [ho] at hk
  dsimp only at hk
  have hxs := opd_sound Γ 0 h x
  have hys := opd_sound Γ T' h y
  split at hk
  rotate_left
  · cases hk
  rename_i i hi
  have hsz := (tf_of hT hi).sized
  rw [hx] at hk hxs
  rw [hy] at hk hys
  unfold storeK at hk
  simp only [SV.clash, SV.hits, Bool.false_eq_true, if_false, take] at hk
  split at hk
  · cases hk
  rename_i t0 z0 hr0
  obtain rfl := hrow _ _ hr0
  split at hk
  rotate_left
  · cases hk
  rename_i hsh
  have hsh' := shape_same hsh
  rw [coeV_self _ _ (plain_coe _ hu)] at hk
  dsimp only at hk
  split at hk
  rotate_left
  · cases hk
  rename_i A2 hw
  obtain ⟨cs, hR, hv⟩ := SVr_valR.1 hys
  obtain ⟨cs', b, o', F', cur', T2, g1, g2, g3, g4, g5, g6, g7⟩ := ptr_at h hxs rfl hr0
  have hblk : b ≠ (G s).blk := by
    have hsite := h.sites s
    have g1' := g1
    rw [hs] at hsite g1'
    obtain ⟨F0, e1, e2, e3⟩ := hsite
    obtain ⟨b2, o2, e4, e5⟩ := block_in g1' _ _ e3 hoff
    simp only [Option.some.injEq, Prod.mk.injEq] at e4
    obtain ⟨rfl, _⟩ := e4
    rintro rfl
    have hn := h.nodup s
    rw [e1] at hn
    exact (List.nodup_cons.1 hn).1 e5
  obtain ⟨cur, T3, m1, m2, m3, m4, G', m5, m6, m7, m8⟩ := write_sound (F := []) h hR g1 hw
  have hcc := aggV_cells (R_len _ _ _ _ hR) (R_ones _ _ _ _ hR)
  intro Q
  unfold Oper.wp
  have hrun : (execOp a.eval o).run P w = .ok .skip (w.setRow b (cur.toList.take o' ++ cs ++ cur.toList.drop (o' + cs.length)).toArray) := by
    have := store_run hsz m1 m2 (by rw [m3, hsh'.1]) (R_ones _ _ _ _ hR) hcc
    simp [execOp, ho, Instr.storeAt, Instr.sureAddr, g3, hv, this]
  rw [hrun]
  refine ⟨_, G', hk, m5.put _ _ _ (SVr_dead _ _ _ _ _), m6, (m7 (fun s' => s' == s) (by simp)).trans (fun s _ _ => ⟨by simp, rfl, fun _ _ => rfl⟩), ?_, m8, setRow_other w b _ _ (fun e => hblk e.symm)⟩
  unfold writeAt at hw
  split at hw
  rotate_left
  · cases hw
  split at hw
  rotate_left
  · cases hw
  rename_i t' x' hset
  simp only [Option.some.injEq] at hw
  refine ⟨t', x', ?_⟩
  rw [site_put, ← hw, if_pos (by simp [plain_noOwn _ hu]), site_setSite, if_pos rfl, hs]
  rfl
end
end Go.Am
/- Am, part 19: structs that are built. -/
set_option linter.unusedVariables false
set_option linter.unusedSimpArgs false
namespace Go.Am

theorem fold_set (off : Nat) : ∀ (vs : List Value) (k : Nat) (cur : Array Value), off + k + vs.length ≤ cur.size →
    (vs.zipIdx k).foldl (fun cs (q : Value × Nat) => cs.setIfInBounds (off + q.2) q.1) cur = (cur.toList.take (off + k) ++ vs ++ cur.toList.drop (off + k + vs.length)).toArray
  | [], k, cur, _ => by simp
  | v :: rest, k, cur, h => by
    simp only [List.length_cons] at h
    rw [List.zipIdx_cons, List.foldl_cons, fold_set off rest (k + 1) _ (by simp; omega)]
    have e := list_seg_step cur.toList (off + k) v rest (by simp; omega)
    simp only [Array.toList_setIfInBounds]
    simpa [Nat.add_assoc] using e

theorem fill_part {place : Nat → Option (Nat × Nat)} {cur : Array Value} {i off : Nat} {v : Value} {vs : List Value} {rest : List (Nat × Value)} (hp : place i = some (off, vs.length)) (hv : v.cells = vs.toArray) (hle : off + vs.length ≤ cur.size) :
    Instr.fill place cur ((i, v) :: rest) = Instr.fill place (cur.toList.take off ++ vs ++ cur.toList.drop (off + vs.length)).toArray rest := by
  rw [Instr.fill]
  simp only [hp, hv]
  have h1 : ¬ ((decide (vs.toArray.size ≠ vs.length) || decide (off + vs.toArray.size > cur.size)) = true) := by simp; omega
  rw [if_neg h1]
  have := fold_set off vs 0 cur (by omega)
  simp only [Nat.add_zero] at this
  rw [← this]
  rw [← Array.foldl_toList, Array.toList_zipIdx]

section
variable {β : Type} {P : Program} {Γ : Env} {C : Ctx} {A : St} {a : Act} {w : World} {G : Nat → GS} {L : List Nat} {K : St → Option β} {r : β} {o : Oper} {B : Nat → Prop}
variable {Φ : Prog} {act : Option Ty} {T : Nat → Bool}

/-- Slots are as they were, or dead. -/
def Sub (A A1 : St) : Prop := ∀ i, A1.slot i = A.slot i ∨ A1.slot i = .dead
theorem Sub.refl (A : St) : Sub A A := fun _ => .inl rfl
theorem Sub.trans {A A1 A2 : St} (h : Sub A A1) (k : Sub A1 A2) : Sub A A2 := fun i => by
  rcases k i with e | e
  · rw [e]; exact h i
  · exact .inr e
theorem sub_map (A : St) (k : SV → Bool) (x : St) (hx : x.slots = A.slots.map fun v => if k v then .dead else v) : Sub A x := fun i => by
  have := slot_map A (fun v => if k v then .dead else v) (by simp) i
  have e : x.slot i = (if k (A.slot i) then .dead else A.slot i) := by rw [← this]; simp [St.slot, hx]
  rw [e]; split <;> simp
theorem take_sub : ∀ (v : SV) {A A' : St} {r : Sigma Val}, take v A = some (r, A') → Sub A A'
  | .val t x, A, A', r, h => by
    simp only [take, Option.some.injEq, Prod.mk.injEq] at h
    obtain ⟨rfl, rfl⟩ := h; exact Sub.refl _
  | .pr x y, A, A', r, h => by
    rw [take] at h
    split at h
    · cases h
    · split at h
      · rename_i e1
        split at h
        · rename_i e2
          simp only [Option.some.injEq, Prod.mk.injEq] at h
          obtain ⟨rfl, rfl⟩ := h
          exact (take_sub x e1).trans (take_sub y e2)
        · cases h
      · cases h
  | .ref s p, A, A', r, h => by
    rcases take_ref h with ⟨t, x, e, rfl, rfl, rfl⟩ | ⟨t, x, e1, u, y, t', x', _, _, _, rfl, rfl⟩
    · exact sub_map A (fun v => v.names s) _ rfl
    · exact sub_map A (fun v => v.beneath s p) _ rfl
  | .dead, A, A', r, h => by simp [take] at h
  | .ptr s p, A, A', r, h => by simp [take] at h
  | .ro t x, A, A', r, h => by simp [take] at h
  | .nilp, A, A', r, h => by simp [take] at h
  | .fn f c, A, A', r, h => by simp [take] at h
  | .tnil, A, A', r, h => by simp [take] at h
  | .tcons x y, A, A', r, h => by simp [take] at h
theorem opd_sub {A A1 : St} (h : Sub A A1) (t : TypeId) (x : Operand) (s : Nat) (hn : (opd Γ t A x).names s = false) : (opd Γ t A1 x).names s = false := by
  cases x with
  | tmp i =>
    rcases h i with e | e
    · simp only [opd] at *; rw [e]; exact hn
    · simp only [opd]; rw [e]; rfl
  | const v => exact hn
  | global g => exact hn
  | func f => exact hn

/-- A part is put into a tree in the making. -/
theorem set_part {F F2 : List Nat} {t u tn tq : Ty} {x : Val t} {y : Val u} {xn : Val tn} {cs cs2 : List Value} {p : Path} {off : Nat}
    (h : RelG C A a w G (F ++ F2)) (hr : R w (Sof C w G (F ++ F2)) t x cs F) (hr2 : R w (Sof C w G (F ++ F2)) u y cs2 F2) (ho : offs t p = some (off, tq)) (hset : setAt t x p u y = some ⟨tn, xn⟩) :
    ∃ F', RelG C A a w G F' ∧ R w (Sof C w G F') tn xn (cs.take off ++ cs2 ++ cs.drop (off + cells tq)) F' ∧ (∀ b, Sof C w G (F ++ F2) b → Sof C w G F' b) ∧ cs2.length = cells tq ∧ off + cells tq ≤ cs.length := by
  have hn := List.nodup_append.1 h.lnodup
  obtain ⟨x', F1, F', F3, h1, h2, h3, h4⟩ := At_focus (At.plain (w := w) (cs := cs) (loc := none) ho) x F hr hn.1
  obtain ⟨tp, xp, hp1, hp2, hp3⟩ := setAt_part _ _ _ _ _ _ hset
  rw [h1] at hp1
  simp only [Option.some.injEq, Sigma.mk.injEq] at hp1
  obtain ⟨rfl, _⟩ := hp1
  rcases h4 with ⟨o2, q1, _, q3, q4⟩ | ⟨b, o2, cur, e, q1, _⟩
  · rw [ho] at q1
    simp only [Option.some.injEq, Prod.mk.injEq, and_true] at q1
    subst q1
    have hsub : ∀ b ∈ F1 ++ F2 ++ F3, b ∈ F ++ F2 := by
      intro b hb
      simp only [List.mem_append] at hb ⊢
      rcases hb with (hb | hb) | hb
      · left; rw [h2]; simp [hb]
      · exact .inr hb
      · left; rw [h2]; simp [hb]
    have hnd : (F1 ++ F2 ++ F3).Nodup := by
      have hF := hn.1
      rw [h2] at hF
      have a1 := List.nodup_append.1 hF
      have a2 := List.nodup_append.1 a1.1
      refine List.nodup_append.2 ⟨List.nodup_append.2 ⟨a2.1, hn.2.1, fun b hb c hc e => hn.2.2 b (by rw [h2]; simp [hb]) c hc e⟩, a1.2.1, fun b hb c hc e => ?_⟩
      rcases List.mem_append.1 hb with hb | hb
      · exact a1.2.2 b (by simp [hb]) c hc e
      · exact hn.2.2 c (by rw [h2]; simp [hc]) b hb e.symm
    refine ⟨F1 ++ F2 ++ F3, h.drop hsub hnd, ?_, fun b hb => Sof_drop hsub b hb, ?_, ?_⟩
    · exact q4 w _ u y cs2 F2 tn xn hset (R_frame (fun b hb => ⟨Sof_drop hsub b hb, rfl⟩) _ _ _ _ (fun _ _ => rfl) hr2) (fun b hb => ⟨Sof_drop hsub b hb, rfl⟩) (fun _ _ => rfl)
    · rw [R_len _ _ _ _ hr2, hp2]
    · rw [R_len _ _ _ _ hr]; exact offs_le _ _ _ _ ho
  · simp at q1

theorem buildParts_sound {ti : TI} {T'} (hF : TF P Γ T' ti) {fs : Array Field} (hu : P.underlying T' = some (.struct fs)) {places : List (Nat × Nat)} (hpl : fs.toList.mapM (fun f => (P.info? f.type).map fun i => (f.offset, i.size)) = some places)
    {T : Nat → Bool} : ∀ (parts : List (Nat × Operand)) (A : St) (G : Nat → GS) (t : Ty) (x : Val t) (cs : List Value) (F : List Nat) {t' : Ty} {x' : Val t'} {A' : St},
      (∀ q ∈ parts, ∀ s, T s = false → (opd Γ 0 A q.2).names s = false) → RelG C A a w G F → R w (Sof C w G F) t x cs F → sameShape t ti.ty = true → buildParts Γ A ti parts t x = some (⟨t', x'⟩, A') →
      ∃ G' cs' F', RelG C A' a w G' F' ∧ R w (Sof C w G' F') t' x' cs' F' ∧ Instr.fill (places.toArray[·]?) cs.toArray (parts.map fun q => (q.1, a.eval q.2)) = some cs'.toArray ∧ (∀ b, Sof C w G F b → Sof C w G' F' b) ∧ sameShape t' ti.ty = true ∧ Frm w w A A' G G' T
  | [], A, G, t, x, cs, F, t', x', A', hN, h, hr, hsh, hb => by
    simp only [buildParts, Option.some.injEq, Prod.mk.injEq, Sigma.mk.injEq] at hb
    obtain ⟨⟨rfl, hb⟩, rfl⟩ := hb
    obtain rfl := eq_of_heq hb
    exact ⟨G, cs, F, h, hr, by simp [Instr.fill], fun b hb => hb, hsh, Frm.refl _ _ _ _⟩
  | (i, op) :: parts, A, G, t, x, cs, F, t', x', A', hN, h, hr, hsh, hb => by
    rw [buildParts] at hb
    split at hb
    rotate_left
    · cases hb
    rename_i u y A1 q htk hq
    split at hb
    rotate_left
    · cases hb
    rename_i tn xn hset
    split at hb
    rotate_left
    · cases hb
    rename_i hsh2
    have hx := opd_sound Γ 0 h op
    obtain ⟨cs2, hv, G1, F2, k1, k2, k3, _, k5⟩ := taken_value htk h hx
    have k2 : R w (Sof C w G1 (F ++ F2)) u y cs2 F2 := k2
    obtain ⟨fs', f, tq, m1, m2, m3, m4, m5⟩ := field_fact' hF hq hsh
    rw [hu] at m1
    simp only [Option.some.injEq, TypeDesc.struct.injEq] at m1
    subst m1
    obtain ⟨F3, n1, n2, n3, n4, n5⟩ := set_part k1 (R_frame (fun b hb => ⟨k3 b hb, rfl⟩) _ _ _ _ (fun _ _ => rfl) hr) k2 m3 hset
    obtain ⟨G', cs', F', p1, p2, p3, p4, p5, p6⟩ := buildParts_sound (T := T) hF hu hpl parts A1 G1 tn xn _ F3 (fun q hq s hs => opd_sub (take_sub _ htk) _ _ _ (hN q (by simp [hq]) s hs)) n1 n2 hsh2 hb
    refine ⟨G', cs', F', p1, p2, ?_, fun b hb => p4 b (n3 b (k3 b hb)), p5, (k5.mono fun s hs => hN (i, op) (by simp) s hs).trans p6⟩
    rw [List.map_cons, fill_part (vs := cs2) (off := f.offset) ?_ ?_ (by simp; omega)]
    · rw [← p3, n4]
    · obtain ⟨inf, i1, i2⟩ := m4.info
      have key : ∀ (l : List Field) (pl : List (Nat × Nat)) (i : Nat) (f : Field), l.mapM (fun f => (P.info? f.type).map fun i => (f.offset, i.size)) = some pl → l[i]? = some f → pl[i]? = (P.info? f.type).map fun i => (f.offset, i.size) := by
        intro l
        induction l with
        | nil => intro pl i f _ hf; simp at hf
        | cons g l ih =>
          intro pl i f hm hf
          rw [List.mapM_cons] at hm
          cases hg : P.info? g.type with
          | none => simp [hg] at hm
          | some ig =>
            cases hl : l.mapM (fun f => (P.info? f.type).map fun i => (f.offset, i.size)) with
            | none => simp [hg, hl] at hm
            | some pl' =>
              simp [hg, hl] at hm
              subst hm
              cases i with
              | zero => simp at hf; subst hf; simp [hg]
              | succ i => simpa using ih _ i f hl (by simpa using hf)
      have := key fs.toList places i f hpl (by simpa using m2)
      simp only [List.getElem?_toArray, this, i1, Option.map_some, i2, n4]
    · have hcc := aggV_cells (R_len _ _ _ _ k2) (R_ones _ _ _ _ k2)
      rw [hv]; exact hcc

theorem mapM_some {α γ : Type} {f : α → Option γ} : ∀ (l : List α), (∀ x ∈ l, (f x).isSome = true) → ∃ r, l.mapM f = some r
  | [], _ => ⟨[], rfl⟩
  | x :: l, h => by
    obtain ⟨y, hy⟩ := Option.isSome_iff_exists.1 (h x (by simp))
    obtain ⟨r, hr⟩ := mapM_some l (fun z hz => h z (by simp [hz]))
    exact ⟨y :: r, by simp [List.mapM_cons, hy, hr]⟩

theorem struct_fact {i : TI} {T'} (hF : TF P Γ T' i) (hs : structy i.ty = true) : ∃ fs places, P.underlying T' = some (.struct fs) ∧ fs.toList.mapM (fun f => (P.info? f.type).map fun i => (f.offset, i.size)) = some places ∧ isAgg i.ty = true := by
  obtain ⟨d, h1, h2⟩ := hF.kind
  unfold structy at hs
  split at hs
  · rename_i x y e
    rw [e] at h2
    simp only [kindOk] at h2
    split at h2
    · rename_i fs
      simp only [Bool.and_eq_true, beq_iff_eq, List.all_eq_true, List.mem_range] at h2
      obtain ⟨r, hr⟩ := mapM_some (f := fun f : Field => (P.info? f.type).map fun i => (f.offset, i.size)) fs.toList (fun f hf => by
        obtain ⟨k, hk, rfl⟩ := List.getElem_of_mem hf
        have hk' : k < fs.size := by simpa using hk
        have := h2.2 k (by rw [h2.1]; exact hk')
        have hg : fs[k]? = some fs[k] := by simp [hk']
        rw [hg] at this
        split at this
        · rename_i f' o' t' e1 e2
          simp only [Bool.and_eq_true] at this
          simp only [Option.some.injEq] at e1
          subst e1
          obtain ⟨inf, j1, _⟩ := (sized_of this.1.2).info
          simp [j1]
        · cases this)
      exact ⟨fs, r, h1, hr, by rw [e]; rfl⟩
    · cases h2
  · rename_i e
    rw [e] at h2
    simp only [kindOk] at h2
    split at h2
    · rename_i fs
      simp only [Bool.and_eq_true, beq_iff_eq] at h2
      have : fs = #[] := Array.eq_empty_of_size_eq_zero h2.2
      subst this
      exact ⟨#[], [], h1, rfl, by rw [e]; rfl⟩
    · cases h2
  · cases hs

theorem eff_build {T' parts} (hT : tysOk P Γ = true) (ho : o.op = .build T' parts) (h : RelG C A a w G []) (hTn : ∀ q ∈ parts.toList, ∀ s, T s = false → (opd Γ 0 A q.2).names s = false) (hk : opK Γ Φ act o A K = some r) : Eff P o C A a w G T K r := by
  unfold opK at hk
  rw [ho] at hk
  dsimp only at hk
  split at hk
  · rename_i d i hd hi
    split at hk
    rotate_left
    · cases hk
    rename_i hself
    rw [Bool.and_eq_true] at hself
    obtain ⟨hst, hself⟩ := hself
    split at hk
    · rename_i t x A1 hb
      have hF := tf_of hT hi
      obtain ⟨fs, places, hu, hpl, hagg⟩ := struct_fact hF hst
      have hne : i.ty ≠ .hole := by intro e; rw [e] at hagg; cases hagg
      have hR := R_dflt (w := w) (S := Sof C w G []) i.ty
      obtain ⟨G1, cs', F', p1, p2, p3, p4, p5, p6⟩ := buildParts_sound (T := T) hF hu hpl parts.toList A G i.ty (dflt i.ty) _ [] hTn h hR hself hb
      obtain ⟨A', G', q1, q2, q3, q4⟩ := finK_sound (L := []) (F := F') (by simpa using p1) (by simpa using p2) hk
      have hz := zero_run hF hne w
      have hzc := aggV_cells (R_len _ _ _ _ hR) (R_ones _ _ _ _ hR)
      have ht : isAgg t = true := by rw [(shape_same p5).2, hagg]
      rw [ht] at q2
      refine eff_value (v := .agg cs'.toArray) (w' := w) ?_ ⟨A', G', q1, by rw [hd]; exact q2, fun b hb => ⟨(q3 b (by simpa using p4 b hb)).1, rfl⟩, p6.trans (q4 T)⟩
      have hbt : P.built T' (parts.map fun (q : Nat × Operand) => (q.1, a.eval q.2)).toList = some cs'.toArray := by
        obtain ⟨inf, j1, j2⟩ := hF.zero hne
        simp only [Program.built, j1, hu, j2, hpl, hzc]
        rw [Array.toList_map]; exact p3
      simp [execOp, ho, run_build w T' _ _ hbt]
    · cases hk
  · cases hk
end
end Go.Am
/- Am, part 20: rows that are made. -/
set_option linter.unusedVariables false
set_option linter.unusedSimpArgs false
namespace Go.Am

theorem made_cells (z : Array Value) : ∀ n : Nat, ((Array.range (n * z.size)).map (z[· % z.size]!)) = (List.replicate n z.toList).flatten.toArray := by
  have key : ∀ n : Nat, (List.range (n * z.size)).map (fun i => z[i % z.size]!) = (List.replicate n z.toList).flatten := by
    intro n
    induction n with
    | zero => simp
    | succ n ih =>
      rw [Nat.succ_mul, Nat.add_comm, List.range_add, List.map_append, List.map_map, List.replicate_succ, List.flatten_cons, ← ih]
      congr 1
      · apply List.ext_getElem
        · simp
        · intro i h1 h2
          simp at h1
          simp [Nat.mod_eq_of_lt h1, h1]
      · apply List.map_congr_left
        intro i hi
        simp
  intro n
  rw [← key n]
  apply Array.ext'
  simp [Array.toList_range]

theorem shape_zero : ∀ {u t : Ty}, sameShape u t = true → zeroCells u = zeroCells t := by
  intro u
  induction u with
  | pair a b iha ihb =>
    intro t h
    cases t <;> simp [sameShape] at h
    simp only [zeroCells]; rw [iha h.1, ihb h.2]
  | arr n t ih =>
    intro t' h
    cases t' <;> simp [sameShape] at h
    simp only [zeroCells]; rw [ih h.2, h.1]
  | int k => intro t h; cases t <;> simp [sameShape] at h; subst h; rfl
  | bool => intro t h; cases t <;> simp [sameShape] at h; rfl
  | str => intro t h; cases t <;> simp [sameShape] at h; rfl
  | unit => intro t h; cases t <;> simp [sameShape] at h; rfl
  | hole => intro t h; cases t <;> simp [sameShape] at h <;> rfl
  | sh e t ih => intro t h; cases t <;> simp [sameShape] at h <;> rfl
  | ow e t ih => intro t h; cases t <;> simp [sameShape] at h <;> rfl

section
variable {β : Type} {P : Program} {Γ : Env} {C : Ctx} {A : St} {a : Act} {w : World} {G : Nat → GS} {L : List Nat} {K : St → Option β} {r : β} {o : Oper} {B : Nat → Prop}
variable {Φ : Prog} {act : Option Ty} {T : Nat → Bool}

/-- A row in a new block. -/
theorem newRow_sound {F : List Nat} {e : TypeId} {t : Ty} {l : List (Val t)} {cs : List Value} (h : RelG C A a w G F) (hr : Rl (R w (Sof C w G F) t) l cs F) (hm : l.length ≤ maxLen) (cap : Nat) (hcap : l.length ≤ cap) (hcm : cap ≤ maxLen) (tl : List Value) (htl : (cs ++ tl).length = cap * cells t) :
    RelG C A a (w.alloc (.cells (cs ++ tl).toArray e)) G (w.heap.size :: F) ∧ R (w.alloc (.cells (cs ++ tl).toArray e)) (Sof C (w.alloc (.cells (cs ++ tl).toArray e)) G (w.heap.size :: F)) (.ow e t) l [.slice (some ⟨w.heap.size, 0, none⟩) l.length cap] (w.heap.size :: F) ∧
      (∀ b, Sof C w G F b → Sof C (w.alloc (.cells (cs ++ tl).toArray e)) G (w.heap.size :: F) b ∧ (w.alloc (.cells (cs ++ tl).toArray e)).heap[b]? = w.heap[b]?) := by
  have hS : ∀ b, Sof C w G F b → Sof C (w.alloc (.cells (cs ++ tl).toArray e)) G (w.heap.size :: F) b ∧ (w.alloc (.cells (cs ++ tl).toArray e)).heap[b]? = w.heap[b]? := fun b hb =>
    ⟨⟨by rw [size_alloc]; have := hb.1; omega, hb.2.1, hb.2.2.1, by
      intro hm; rcases List.mem_cons.1 hm with rfl | hm
      · have := hb.1; omega
      · exact hb.2.2.2 hm⟩, heap_alloc_old w _ b hb.1⟩
  refine ⟨h.alloc _, .inr ⟨w.heap.size, cap, (cs ++ tl).toArray, F, rfl, rfl, heap_alloc_new w _, hcap, hcm, by simpa using htl, ?_⟩, hS⟩
  have hl : cs.length = l.length * cells t := Rl_len (R_len t) _ _ _ hr
  rw [List.toList_toArray, List.take_append_of_le_length (by rw [hl]; exact Nat.le_refl _), List.take_of_length_le (by rw [hl]; exact Nat.le_refl _)]
  exact Rl_monoF (G := fun b => b ∈ F) (fun x cs F' hF' hx => R_frame hS _ _ _ _ (fun b hb => heap_alloc_old w _ b (h.lmine b (hF' b hb)).2) hx) l _ _ (fun b hb => hb) hr

/-- An element is put into a row in the making. -/
theorem set_elem {F F2 : List Nat} {u : Ty} {y : Val u} {l : List (Val u)} {cs cs2 : List Value} {i : Nat}
    (h : RelG C A a w G (F ++ F2)) (hr : Rl (R w (Sof C w G (F ++ F2)) u) l cs F) (hr2 : R w (Sof C w G (F ++ F2)) u y cs2 F2) (hi : i < l.length) :
    ∃ F', RelG C A a w G F' ∧ Rl (R w (Sof C w G F') u) (l.set i y) (cs.take (i * cells u) ++ cs2 ++ cs.drop (i * cells u + cells u)) F' ∧ (∀ b, Sof C w G (F ++ F2) b → Sof C w G F' b) ∧ cs2.length = cells u ∧ i * cells u + cells u ≤ cs.length := by
  have hn := List.nodup_append.1 h.lnodup
  obtain ⟨F1, F', F3, h2, h3, h4⟩ := Rl_at (R_len u) (dflt u) l cs F hr i hi
  have hsub : ∀ b ∈ F1 ++ F2 ++ F3, b ∈ F ++ F2 := by
    intro b hb
    simp only [List.mem_append] at hb ⊢
    rcases hb with (hb | hb) | hb
    · left; rw [h2]; simp [hb]
    · exact .inr hb
    · left; rw [h2]; simp [hb]
  have hnd : (F1 ++ F2 ++ F3).Nodup := by
    have hF := hn.1
    rw [h2] at hF
    have a1 := List.nodup_append.1 hF
    have a2 := List.nodup_append.1 a1.1
    refine List.nodup_append.2 ⟨List.nodup_append.2 ⟨a2.1, hn.2.1, fun b hb c hc e => hn.2.2 b (by rw [h2]; simp [hb]) c hc e⟩, a1.2.1, fun b hb c hc e => ?_⟩
    rcases List.mem_append.1 hb with hb | hb
    · exact a1.2.2 b (by simp [hb]) c hc e
    · exact hn.2.2 c (by rw [h2]; simp [hc]) b hb e.symm
  refine ⟨F1 ++ F2 ++ F3, h.drop hsub hnd, ?_, fun b hb => Sof_drop hsub b hb, R_len _ _ _ _ hr2, ?_⟩
  · exact h4 _ y cs2 F2 (fun x cs F _ hx => R_frame (fun b hb => ⟨Sof_drop hsub b hb, rfl⟩) _ _ _ _ (fun _ _ => rfl) hx) (R_frame (fun b hb => ⟨Sof_drop hsub b hb, rfl⟩) _ _ _ _ (fun _ _ => rfl) hr2)
  · rw [Rl_len (R_len u) _ _ _ hr]
    calc i * cells u + cells u = (i + 1) * cells u := by rw [Nat.succ_mul]
      _ ≤ l.length * cells u := Nat.mul_le_mul_right _ hi

theorem rowParts_sound {u : Ty} {T : Nat → Bool} : ∀ (parts : List (Nat × Operand)) (A : St) (G : Nat → GS) (l : List (Val u)) (cs : List Value) (F : List Nat) {l' : List (Val u)} {A' : St},
      (∀ q ∈ parts, ∀ s, T s = false → (opd Γ 0 A q.2).names s = false) → RelG C A a w G F → Rl (R w (Sof C w G F) u) l cs F → rowParts Γ A u l parts = some (l', A') →
      ∃ G' cs' F', RelG C A' a w G' F' ∧ Rl (R w (Sof C w G' F') u) l' cs' F' ∧ Instr.fill (fun i => some (i * cells u, cells u)) cs.toArray (parts.map fun q => (q.1, a.eval q.2)) = some cs'.toArray ∧ (∀ b, Sof C w G F b → Sof C w G' F' b) ∧ l'.length = l.length ∧ Frm w w A A' G G' T
  | [], A, G, l, cs, F, l', A', hN, h, hr, hb => by
    simp only [rowParts, Option.some.injEq, Prod.mk.injEq] at hb
    obtain ⟨rfl, rfl⟩ := hb
    exact ⟨G, cs, F, h, hr, by simp [Instr.fill], fun b hb => hb, rfl, Frm.refl _ _ _ _⟩
  | (i, op) :: parts, A, G, l, cs, F, l', A', hN, h, hr, hb => by
    rw [rowParts] at hb
    split at hb
    rotate_left
    · cases hb
    rename_i t x A1 htk
    split at hb
    rotate_left
    · cases hb
    rename_i y hc
    split at hb
    rotate_left
    · cases hb
    rename_i hi
    have hx := opd_sound Γ 0 h op
    obtain ⟨cs2, hv, G1, F2, k1, k2, k3, _, k5⟩ := taken_value htk h hx
    have k2 : R w (Sof C w G1 (F ++ F2)) t x cs2 F2 := k2
    obtain ⟨F4, j1, j2, j3, j4⟩ := coe_sound k1 k2 hc
    obtain ⟨F3, n1, n2, n3, n4, n5⟩ := set_elem j1 (Rl_mono l (fun x _ cs F hx => R_frame (fun b hb => ⟨(j3 b (k3 b hb)).1, rfl⟩) _ _ _ _ (fun _ _ => rfl) hx) _ _ hr) j2 hi
    obtain ⟨G', cs', F', p1, p2, p3, p4, p5, p6⟩ := rowParts_sound (T := T) parts A1 G1 _ _ F3 (fun q hq s hs => opd_sub (take_sub _ htk) _ _ _ (hN q (by simp [hq]) s hs)) n1 n2 hb
    refine ⟨G', cs', F', p1, p2, ?_, fun b hb => p4 b (n3 b (j3 b (k3 b hb)).1), by rw [p5, List.length_set], (k5.mono fun s hs => hN (i, op) (by simp) s hs).trans p6⟩
    rw [List.map_cons, fill_part (vs := cs2) (off := i * cells u) ?_ ?_ (by simp; omega)]
    · rw [← p3, n4]
    · rw [n4]
    · have hcc := aggV_cells (R_len _ _ _ _ k2) (R_ones _ _ _ _ k2)
      rw [hv]; exact hcc

theorem eff_row {e : TypeId} {t : Ty} {l : List (Val t)} {cs tl : List Value} {F : List Nat} {A1 : St} {G1 : Nat → GS} {d cap : Nat} {Tf : Nat → Bool} (h : RelG C A1 a w G1 F) (hr : Rl (R w (Sof C w G1 F) t) l cs F) (hd : o.dst = some d) (hcap : l.length ≤ cap) (hcm : cap ≤ maxLen) (htl : (cs ++ tl).length = cap * cells t)
    (hM : ∀ b, Sof C w G [] b → Sof C w G1 F b) (hFr : Frm w w A A1 G G1 Tf) (hx : (execOp a.eval o).run P w = .ok (.value (.slice (some ⟨w.heap.size, 0, none⟩) l.length cap)) (w.alloc (.cells (cs ++ tl).toArray e)))
    (hk : finK act d (.ow e t) l A1 K = some r) : Eff P o C A a w G Tf K r := by
  obtain ⟨n1, n2, n3⟩ := newRow_sound (e := e) h hr (by omega) cap hcap hcm tl htl
  obtain ⟨A', G', q1, q2, q3, q4⟩ := finK_sound (L := []) (F := w.heap.size :: F) n1 n2 hk
  refine eff_value hx ⟨A', G', q1, by rw [hd]; exact q2, fun b hb => ⟨(q3 b (n3 b (hM b hb)).1).1, (n3 b (hM b hb)).2⟩, ?_⟩
  have hnew : Frm w (w.alloc (.cells (cs ++ tl).toArray e)) A1 A1 G1 G1 Tf := fun s _ _ => ⟨rfl, rfl, fun b hb => heap_alloc_old w _ b (h.mine s b hb).2⟩
  exact (hFr.trans hnew).trans (q4 Tf)

theorem eff_buildSlice {T' n parts} (hT : tysOk P Γ = true) (ho : o.op = .buildSlice T' n parts) (h : RelG C A a w G []) (hTn : ∀ q ∈ parts.toList, ∀ s, T s = false → (opd Γ 0 A q.2).names s = false) (hk : opK Γ Φ act o A K = some r) : Eff P o C A a w G T K r := by
  unfold opK at hk
  rw [ho] at hk
  dsimp only at hk
  split at hk
  rotate_left
  · cases hk
  rename_i d i hd hi
  split at hk
  rotate_left
  · cases hk
  rename_i e t0 hty
  split at hk
  rotate_left
  · cases hk
  rename_i hsz
  obtain ⟨hu, _, hs, hpos, ie, hie, hby, hz⟩ := under_ow (tf_of hT hi) hty
  have hR := R_dflt (w := w) (S := Sof C w G []) t0
  have hzc := aggV_cells (R_len _ _ _ _ hR) (R_ones _ _ _ _ hR)
  have hzl := R_len _ _ _ _ hR
  have hisz : ie.size = cells t0 := by
    obtain ⟨inf, j1, j2⟩ := hs.info
    rw [hie] at j1
    simp only [Option.some.injEq] at j1
    rw [j1]; exact j2
  split at hk
  · rename_i hparts
    split at hk
    rotate_left
    · cases hk
    rename_i hn
    subst hn
    have hp : parts = #[] := by rw [← Array.toArray_toList (xs := parts), hparts]
    subst hp
    refine eff_row (cs := []) (tl := []) (l := ([] : List (Val t0))) (cap := 0) h ⟨rfl, rfl⟩ hd (Nat.le_refl _) (Nat.zero_le _) (by simp) (fun b hb => hb) (Frm.refl _ _ _ _) ?_ hk
    have e0 : (Array.map (fun _ => (default : Value)) (Array.range 0)) = #[] := by apply Array.ext'; simp [Array.toList_range]
    simp [execOp, ho, Instr.buildSlice, run_underlying hu, sizeOf_run hs, Instr.fill, newRow, newObj, Sem.run, e0]
  · rename_i j x rest hparts
    split at hk
    rotate_left
    · cases hk
    rename_i u y A1 htk
    split at hk
    rotate_left
    · cases hk
    rename_i hsh
    obtain ⟨hsh, hj⟩ := hsh
    split at hk
    rotate_left
    · cases hk
    rename_i l A2 hrow
    have hsh' := shape_same hsh
    have hx := opd_sound Γ 0 h x
    have hNx := hTn (j, x) (by rw [hparts]; simp)
    obtain ⟨cs2, hv, G1, F2, k1, k2, k3, _, k5⟩ := taken_value htk h hx
    have k2 : R w (Sof C w G1 ([] ++ F2)) u y cs2 F2 := k2
    have hrep : Rl (R w (Sof C w G1 ([] ++ F2)) u) (List.replicate n (dflt u)) (List.replicate n (zeroCells t0)).flatten [] := by
      rw [← shape_zero hsh]; exact Rl_replicate (R_dflt u) n
    obtain ⟨F3, n1, n2, n3, n4, n5⟩ := set_elem k1 hrep k2 (by simpa using hj)
    obtain ⟨G', cs', F', p1, p2, p3, p4, p5, p6⟩ := rowParts_sound (T := T) rest A1 G1 _ _ F3 (fun q hq s hs => opd_sub (take_sub _ htk) _ _ _ (hTn q (by rw [hparts]; simp [hq]) s hs)) n1 n2 hrow
    have hll : l.length = n := by rw [p5]; simp
    have hcl : cs'.length = n * cells u := by rw [Rl_len (R_len u) _ _ _ p2, hll]
    have hnm : n ≤ maxLen := by
      have : n ≤ n * cells t0 := Nat.le_mul_of_pos_right _ hpos
      simp only [maxLen]; omega
    refine eff_row (cs := cs') (tl := []) (l := l) (cap := n) p1 p2 hd (by omega) hnm (by simpa using hcl) (fun b hb => p4 b (n3 b (k3 b hb))) ((k5.mono hNx).trans p6) ?_ hk
    have hfill : Instr.fill (fun i => some (i * ie.size, ie.size)) ((Array.range (n * ie.size)).map ((aggV (isAgg t0) (zeroCells t0)).cells[· % (aggV (isAgg t0) (zeroCells t0)).cells.size]!)) ((parts.map fun (q : Nat × Operand) => (q.1, a.eval q.2)).toList) = some cs'.toArray := by
      have hzs : (zeroCells t0).toArray.size = cells t0 := by simpa using hzl
      have hm := made_cells (zeroCells t0).toArray n
      rw [hzs] at hm
      rw [hzc, hzs, hisz, hm, Array.toList_map, hparts, List.map_cons, ← hsh'.1]
      rw [fill_part (vs := cs2) (off := j * cells u) ?_ ?_ ?_]
      · rw [← p3, n4, List.toList_toArray]
      · rw [n4]
      · have hcc := aggV_cells (R_len _ _ _ _ k2) (R_ones _ _ _ _ k2)
        rw [hv]; exact hcc
      · rw [n4]; simpa using n5
    have hnz : ¬ n * ie.size = 0 := by
      rw [hisz]; have : 0 < n * cells t0 := Nat.mul_pos (by omega) hpos
      omega
    have := run_buildSlice (P := P) w T' e n (parts.map fun (q : Nat × Operand) => (q.1, a.eval q.2)) cs'.toArray ie _ hu hie hz (by rw [hisz]; omega) hnz hfill
    simp [execOp, ho, this, hll]

theorem eff_makeSlice {T' x y} (hT : tysOk P Γ = true) (ho : o.op = .makeSlice T' x y) (h : RelG C A a w G []) (hk : opK Γ Φ act o A K = some r) : Eff P o C A a w G T K r := by
  unfold opK at hk
  rw [ho] at hk
  dsimp only at hk
  split at hk
  rotate_left
  · cases hk
  rename_i d i n m hd hi hx hy
  have hx' := opd_sound Γ 0 h x
  have hy' := opd_sound Γ 0 h y
  rw [hx, SVr_int] at hx'
  rw [hy, SVr_int] at hy'
  split at hk
  rotate_left
  · cases hk
  rename_i e t hty
  split at hk
  rotate_left
  · cases hk
  rename_i heq
  split at hk
  rotate_left
  · cases hk
  rename_i h0
  split at hk
  rotate_left
  · cases hk
  rename_i hb
  obtain ⟨hu, _, hs, hpos, ie, hie, hby, hz⟩ := under_ow (tf_of hT hi) hty
  have hR := R_dflt (w := w) (S := Sof C w G []) t
  have hzc := aggV_cells (R_len _ _ _ _ hR) (R_ones _ _ _ _ hR)
  have hzl := R_len _ _ _ _ hR
  have hisz : ie.size = cells t := by
    obtain ⟨inf, j1, j2⟩ := hs.info
    rw [hie] at j1
    simp only [Option.some.injEq] at j1
    rw [j1]; exact j2
  have heq : toI n = toI m := heq
  have h0 : 0 ≤ toI n := h0
  have hb : toI n * (i.bytes : Int) ≤ 140737488355328 := hb
  obtain ⟨k, hk'⟩ : ∃ k : Nat, toI n = k := ⟨(toI n).toNat, by omega⟩
  rw [hk'] at hb
  have hbn : k * i.bytes ≤ 140737488355328 := by
    have : ((k * i.bytes : Nat) : Int) ≤ 140737488355328 := by rw [Int.natCast_mul]; exact hb
    omega
  have hib : (ie.bytes : Int) * (k : Int) ≤ 281474976710656 := by
    rw [hby.1, Int.mul_comm]; omega
  have hkn : k ≤ k * i.bytes := Nat.le_mul_of_pos_right _ hby.2
  have hrun := run_make (P := P) w T' e ie _ hu hie hz .i64 .i64 (k : Int) (k : Int) (by omega) (Int.le_refl _) hib (by omega)
  simp only [Int.toNat_natCast] at hrun
  have hzs : (zeroCells t).toArray.size = cells t := by simpa using hzl
  have hm := made_cells (zeroCells t).toArray k
  rw [hzs] at hm
  have hmc : madeCells (aggV (isAgg t) (zeroCells t)).cells (k * ie.size) = (List.replicate k (zeroCells t)).flatten.toArray := by
    rw [hzc, hisz]; unfold madeCells; rw [hzs]; exact hm
  rw [hmc] at hrun
  have hkk : (toI n).toNat = k := by omega
  rw [hkk] at hk
  have hll : (List.replicate k (dflt t)).length = k := by simp
  refine eff_row (cs := (List.replicate k (zeroCells t)).flatten) (tl := []) (l := List.replicate k (dflt t)) (cap := k) (e := e) h (Rl_replicate (R_dflt t) k) hd (by simp) (by simp only [maxLen]; omega) ?_ (fun b hb => hb) (Frm.refl _ _ _ _) ?_ hk
  · have := Rl_len (R_len t) _ _ _ (Rl_replicate (P := R w (Sof C w G []) t) (R_dflt t) k)
    rw [List.append_nil, this, hll]
  · rw [List.append_nil, hll]
    rw [← heq, hk'] at hy'
    rw [hk'] at hx'
    simp [execOp, ho, hx', hy', hrun]
end
end Go.Am
/- Am, part 21: rows that are cut, rows that grow. -/
set_option linter.unusedVariables false
set_option linter.unusedSimpArgs false
namespace Go.Am

section
variable {β : Type} {P : Program} {Γ : Env} {C : Ctx} {A : St} {a : Act} {w : World} {G : Nat → GS} {L : List Nat} {K : St → Option β} {r : β} {o : Oper} {B : Nat → Prop}
variable {Φ : Prog} {act : Option Ty} {T : Nat → Bool}

theorem ow_take {S : Nat → Prop} {e : TypeId} {t : Ty} {l : Val (.ow e t)} {cs F} (hr : R w S (.ow e t) l cs F) {b : Nat} (hb : b ≤ List.length (α := Val t) l) :
    ∃ ad cap F1, cs = [.slice ad (List.length (α := Val t) l) cap] ∧ List.length (α := Val t) l ≤ cap ∧ R w S (.ow e t) (List.take (α := Val t) b l) [.slice ad b cap] F1 ∧ F1.Sublist F := by
  rcases hr with ⟨h1, rfl, rfl⟩ | ⟨g, cap, cur, F', rfl, rfl, hg, h1, h2, h3, h4⟩
  · have hb0 : b = 0 := by omega
    subst hb0
    exact ⟨none, 0, [], by rw [h1], by omega, .inl ⟨by simp, rfl, rfl⟩, List.Sublist.refl _⟩
  · have h5 := h4
    have hspl : l = List.take (α := Val t) b l ++ List.drop (α := Val t) b l := (List.take_append_drop b l).symm
    rw [hspl, Rl_append] at h5
    obtain ⟨c1, c2, F1, F2, e1, rfl, k1, k2⟩ := h5
    have hl1 := Rl_len (R_len t) _ _ _ k1
    have hlt : (List.take (α := Val t) b l).length = b := by rw [List.length_take]; omega
    rw [hlt] at hl1
    refine ⟨_, cap, g :: F1, rfl, h1, .inr ⟨g, cap, cur, F1, ?_, rfl, hg, ?_, h2, h3, ?_⟩, (List.sublist_append_left F1 F2).cons_cons g⟩
    · rw [hlt]
    · rw [hlt]; omega
    · rw [hlt]
      have : cur.toList.take (b * cells t) = c1 := by
        rw [← hspl] at e1
        have e2 : (cur.toList.take (List.length (α := Val t) l * cells t)).take (b * cells t) = c1 := by
          rw [e1, List.take_append_of_le_length (by omega), List.take_of_length_le (by omega)]
        rwa [List.take_take, Nat.min_eq_left (Nat.mul_le_mul_right _ hb)] at e2
      rw [this]; exact k1

theorem keep_slot {s : Nat} {keep : List Nat} : ∀ (l : List SV) (i j : Nat), nth .dead (killBut s keep l i) j = .dead ∨ (nth .dead (killBut s keep l i) j = nth .dead l j ∧ (keep.contains (i + j) = true ∨ (nth .dead l j).names s = false))
  | [], _, _ => .inl rfl
  | v :: r, i, 0 => by
    simp only [killBut, nth]
    split
    · rename_i hc; exact .inr ⟨rfl, .inl (by simpa using hc)⟩
    · split
      · exact .inl rfl
      · rename_i hn; exact .inr ⟨rfl, .inr (by simpa using hn)⟩
  | v :: r, i, j + 1 => by
    simp only [killBut, nth]
    have := keep_slot (s := s) (keep := keep) r (i + 1) j
    rw [show i + 1 + j = i + (j + 1) by omega] at this
    exact this
theorem killBut_length {s : Nat} {keep : List Nat} : ∀ (l : List SV) (i : Nat), (killBut s keep l i).length = l.length
  | [], _ => rfl
  | v :: r, i => by simp only [killBut, List.length_cons, killBut_length r (i + 1)]
theorem inRow_some {A : St} {s n : Nat} {k : Option β} : ∀ (keep : List Nat), inRow A s n keep k = some r → k = some r ∧ ∀ j ∈ keep, ∃ i q, A.slot j = .ptr s (.idx i :: q) ∧ i < n
  | [], h => ⟨h, by simp⟩
  | j :: keep, h => by
    unfold inRow at h
    split at h
    · rename_i s' i q hs
      split at h
      · rename_i e; subst e
        split at h
        · rename_i hi
          obtain ⟨h1, h2⟩ := inRow_some keep h
          refine ⟨h1, fun j' hj => ?_⟩
          rcases List.mem_cons.1 hj with rfl | hj
          · exact ⟨i, q, hs, hi⟩
          · exact h2 j' hj
        · cases h
      · cases h
    · cases h
theorem at_cut {e : TypeId} {t : Ty} {ad : Option Addr} {n c b i : Nat} {q : Path} {t' cs' loc'} (hi : i < b) (h : At w (.ow e t) [.slice ad n c] none (.idx i :: q) t' cs' loc') : At w (.ow e t) [.slice ad b c] none (.idx i :: q) t' cs' loc' := by
  generalize hp : (Step.idx i :: q : Path) = p at h
  generalize hcs : ([.slice ad n c] : List Value) = cs at h
  cases h with
  | plain h => subst hp; simp [offs] at h
  | @own _ _ _ p0 o0 e1 t1 b0 n0 cap0 cur0 i0 q0 _ _ _ h hc hb hi' hq =>
    match p0, hp, h with
    | [], hp, h =>
      simp only [offs, Option.some.injEq, Prod.mk.injEq, Ty.ow.injEq] at h
      obtain ⟨rfl, rfl, rfl⟩ := h
      simp only [List.nil_append, List.cons.injEq, Step.idx.injEq] at hp
      obtain ⟨rfl, rfl⟩ := hp
      subst hcs
      simp only [List.getElem?_cons_zero, Option.some.injEq, Value.slice.injEq] at hc
      obtain ⟨rfl, rfl, rfl⟩ := hc
      exact At.own (p := []) (t := .ow e t) (o := 0) rfl rfl hb hi hq
    | .idx _ :: _, hp, h => simp [offs] at h
    | .fst :: _, hp, h => simp [offs] at h
    | .snd :: _, hp, h => simp [offs] at h
theorem eff_cut {T' x q d e'} (ho : o.op = .slice T' x none (some q) none) (hd : o.dst = some d) (h : RelG C A a w G []) {s : Nat} {e : TypeId} {t : Ty} {l : List (Val t)} (hc : opd Γ 0 A x = .ref s []) (hs : A.site s = .tmp (.ow e t) l)
    (hu : P.underlying T' = some (.slice e')) (he : e' = e) (hz : Sized P e t) {b : Int} (hb : intOf (opd Γ 0 A q) = some b) (h0 : 0 ≤ b) (h1 : b ≤ lenL t l) {keep : List Nat} (hk : cutK A s e t l b.toNat keep d K = some r) (hTn : T s = true) : Eff P o C A a w G T K r := by
  subst he
  unfold cutK at hk
  obtain ⟨hk, hkeep⟩ := inRow_some keep hk
  have hr := h.tmpR hs
  have h1' : b ≤ ((List.length (α := Val t) l : Nat) : Int) := h1
  obtain ⟨ad, cap, F1, c0, c1, c2, c3⟩ := ow_take hr (b := b.toNat) (by omega)
  have hrel := h.site (A' := ⟨killBut s keep A.slots 0, (A.setSite s (.tmp (.ow e' t) (List.take (α := Val t) b.toNat l))).sites⟩) (L' := []) s ⟨[.slice ad b.toNat cap], F1, 0⟩ (Goes.refl w) (fun _ _ _ _ => rfl)
    (fun s' hs' => by show (A.setSite s _).site s' = _; rw [site_setSite, if_neg hs']) (killBut_length _ _)
    (fun b hb => ⟨.inl (c3.subset hb), (h.mine s b (c3.subset hb)).2⟩) ((h.nodup s).sublist c3) (by simp) (by simp) (by simp)
    (fun S' hS' _ => by
      show SiteR w S' ((A.setSite s _).site s) _
      rw [site_setSite, if_pos rfl]
      exact R_frame hS' _ _ _ _ (fun _ _ => rfl) c2)
    (fun i => by
      rcases keep_slot (s := s) (keep := keep) A.slots 0 i with e1 | ⟨e1, e2⟩
      · exact .inl e1
      · refine .inr ⟨e1, ?_⟩
        by_cases hn : (A.slot i).names s = false
        · exact names_every (fun s' _ => h.sites s') (fun _ _ _ _ => rfl) (fun s' hne => by show (A.setSite s _).site s' = _; rw [site_setSite, if_neg hne]) _ hn
        · rcases e2 with e2 | e2
          · obtain ⟨j, q', hj, hjb⟩ := hkeep i (by simpa using e2)
            rw [hj]
            show Lives w w (A.site s) ((A.setSite s _).site s) (G s) (upd G s _ s) false _
            rw [site_setSite, if_pos rfl, upd_same, hs]
            intro t2 cs2 loc2 hat _
            refine ⟨t2, cs2, ?_, by simp⟩
            have hat : At w (.ow e' t) (G s).cs none (.idx j :: q') t2 cs2 loc2 := hat
            rw [c0] at hat
            exact at_cut hjb hat
          · exact absurd e2 hn)
    (fun p hp hps => h.nopin (s := s) (fun T t x => by rw [hs]; simp) p hp hps)
  have hx := opd_sound Γ 0 h x
  rw [hc] at hx
  obtain ⟨cs, ⟨e2, t2, loc2, hat⟩, hv⟩ := hx
  have hat : At w (.ow e' t) (G s).cs none [] (.ow e2 t2) cs loc2 := by rw [hs] at hat; exact hat
  obtain ⟨_, hcs, _⟩ := At_nil hat rfl
  rw [c0] at hcs
  have hv' : a.eval x = .slice ad (List.length (α := Val t) l) cap := by rw [hv, hcs]; rfl
  obtain ⟨k, hk'⟩ := int_opd h hb
  have hsb : (Instr.sliceBounds true (List.length (α := Val t) l) cap none (some (.int k b)) none).run P w = .ok (0, b.toNat, cap) w := by
    simp [Instr.sliceBounds, run_sliceBound w k b cap _ h0 (by omega)]
  have hrun := slice_run hu hz (ad := ad) hsb
  have e0 : (if cap = 0 then ad else ad.map (·.add (0 * cells t))) = ad := by
    split
    · rfl
    · cases ad <;> simp [Addr.add]
  rw [e0] at hrun
  rw [← hd] at hk
  refine eff_value (v := .slice ad b.toNat cap) (w' := w) (by simp [execOp, ho, hv', hk', hrun]) ⟨_, _, hk, hrel.put _ _ _ ⟨[.slice ad b.toNat cap], ?_, rfl⟩, fun b' hb' => ⟨?_, rfl⟩, ?_⟩
  · refine ⟨e', t, none, ?_⟩
    show AtS w ((A.setSite s _).site s) (upd G s _ s) [] _ _ _
    rw [site_setSite, if_pos rfl, upd_same]
    exact At.plain (w := w) (t := .ow e' t) (cs := [.slice ad b.toNat cap]) (loc := none) (p := []) (o := 0) (t' := .ow e' t) rfl
  · obtain ⟨k1, k2, k3, k4⟩ := hb'
    exact ⟨k1, k2, fun s' hm => by
      by_cases hse : s' = s
      · subst hse; rw [upd_same] at hm; exact k3 _ (c3.subset hm)
      · rw [upd_ne _ _ hse] at hm; exact k3 _ hm, k4⟩
  · exact Frm.site s _ (.inl hTn) (fun s' hs' => by
      show (St.put _ _ _).site s' = _
      rw [site_put]
      show (A.setSite s _).site s' = _
      rw [site_setSite, if_neg hs']) (fun _ _ _ _ => rfl)

theorem eff_slice {T' x lo hi mx} (hT : tysOk P Γ = true) (ho : o.op = .slice T' x lo hi mx) (h : RelG C A a w G []) (hTn : ∀ s, T s = false → (opd Γ 0 A x).names s = false) (hk : opK Γ Φ act o A K = some r) : Eff P o C A a w G T K r := by
  cases hown : cutsOwn Γ A x with
  | false => exact eff_quiet (B := fun _ => True) h (quiet_slice hT ho hown h hk) trivial
  | true =>
    unfold opK at hk
    rw [ho] at hk
    dsimp only at hk
    have hx := opd_sound Γ 0 h x
    split at hk
    · cases hk
    rename_i i hi'
    unfold cutsOwn at hown
    split at hk
    · rename_i e' t' e t l hty hc
      rw [hc] at hown; cases hown
    · rename_i l hty hc
      rw [hc] at hown; cases hown
    · rename_i e' t' s p hty hc
      split at hk
      rotate_left
      · cases hk
      rename_i d q hd
      split at hk
      · rename_i j kr
        split at hk
        rotate_left
        · cases hk
        rename_i e t l b hs hb
        split at hk
        rotate_left
        · cases hk
        rename_i hsh
        obtain ⟨rfl, hsh⟩ := hsh
        split at hk
        rotate_left
        · cases hk
        rename_i h0
        split at hk
        rotate_left
        · cases hk
        rename_i h1
        obtain ⟨hu, _, hs2, _⟩ := under_ow (tf_of hT hi') hty
        have hTs : T s = true := by
          cases hT2 : T s with
          | true => rfl
          | false => have := hTn s hT2; rw [hc] at this; simp [SV.names] at this
        exact eff_cut ho hd h hc hs hu rfl (sized_shape hs2 hsh) hb h0 h1 hk hTs
      split at hk
      rotate_left
      · cases hk
      rename_i b e t l A1 hb htk
      split at hk
      rotate_left
      · cases hk
      rename_i hsh
      obtain ⟨rfl, hsh⟩ := hsh
      split at hk
      rotate_left
      · cases hk
      rename_i h0
      split at hk
      rotate_left
      · cases hk
      rename_i h1
      rw [hc] at hx
      have hTn' : ∀ s', T s' = false → SV.names s' (.ref s p) = false := fun s' hs' => by have := hTn s' hs'; rwa [hc] at this
      obtain ⟨hu, _, hs, _⟩ := under_ow (tf_of hT hi') hty
      have hs' := sized_shape hs hsh
      obtain ⟨cs, hv, G1, F, k1, k2, k3, _, k5⟩ := taken_value htk h hx
      have k2 : R w (Sof C w G1 ([] ++ F)) (.ow e' t) l cs F := k2
      rw [List.nil_append] at k1 k2
      have h1' : b ≤ ((List.length (α := Val t) l : Nat) : Int) := h1
      obtain ⟨ad, cap, F1, rfl, c1, c2, c3⟩ := ow_take k2 (b := b.toNat) (by omega)
      have hn1 : F1.Nodup := k1.lnodup.sublist c3
      have hsub : ∀ b ∈ F1, b ∈ F := fun b hb => c3.subset hb
      have hrel := k1.drop hsub hn1
      obtain ⟨A', G', q1, q2, q3, q4⟩ := finK_sound (L := []) (F := F1) hrel (R_frame (fun b hb => ⟨Sof_drop hsub b hb, rfl⟩) _ _ _ _ (fun _ _ => rfl) c2) hk
      refine eff_value (v := .slice ad b.toNat cap) (w' := w) ?_ ⟨A', G', q1, by rw [hd]; exact q2, fun b hb => ⟨(q3 b (Sof_drop hsub b (by simpa using k3 b hb))).1, rfl⟩, (k5.mono hTn').trans (q4 T)⟩
      obtain ⟨k, hk'⟩ := int_opd h hb
      have hsb : (Instr.sliceBounds true (List.length (α := Val t) l) cap none (some (.int k b)) none).run P w = .ok (0, b.toNat, cap) w := by
        simp [Instr.sliceBounds, run_sliceBound w k b cap _ h0 (by omega)]
      have hv' : a.eval x = .slice ad (List.length (α := Val t) l) cap := hv
      have := slice_run hu hs' (ad := ad) hsb
      have e0 : (if cap = 0 then ad else ad.map (·.add (0 * cells t))) = ad := by
        split
        · rfl
        · cases ad <;> simp [Addr.add]
      rw [e0] at this
      simp [execOp, ho, hv', hk', this]
    · cases hk

/-- What an appended row's cells are. -/
def News (w : World) (vm : Value) (m k : Nat) (news : List Value) : Prop :=
  news.length = m * k ∧ (∀ u ∈ news, u.oneCell' = true) ∧ ((m = 0 ∧ ∃ c, vm = .slice none 0 c) ∨ ∃ ad c, vm = .slice (some ad) m c ∧ ∀ j u, news[j]? = some u → w.cell? (ad.add j) = some u)

theorem append_run {T' e : TypeId} {ie : TypeInfo} {z : Value} {k : Nat} (hu : P.underlying T' = some (.slice e)) (hie : P.info? e = some ie) (hz : ie.zero = some z) (hk : ie.size = k) (hzs : z.cells.size = k) (hk0 : 0 < k)
    {n m : Nat} {v vm : Value} {xs news : List Value} {F : List Nat} (hb : (n + m) * ie.bytes ≤ 140737488355328) (hby : 0 < ie.bytes)
    (h : RelG C A a w G F) (hxl : xs.length = n * k)
    (hv : (n = 0 ∧ v = .slice none 0 0) ∨ ∃ g cap cur, v = .slice (some ⟨g, 0, none⟩) n cap ∧ g ∈ F ∧ w.heap[g]? = some (.cells cur e (0, 0)) ∧ n ≤ cap ∧ cap ≤ maxLen ∧ cur.size = cap * k ∧ cur.toList.take (n * k) = xs)
    (hm : News w vm m k news) (ty : TypeId) :
    ∃ v' w' L', (Builtin.append_ #[T', T'] ty #[v, vm]).run P w = .ok v' w' ∧ RelG C A a w' G (L' ++ F) ∧ (∀ b, b < w.heap.size → (∀ c n, v ≠ .slice (some ⟨b, 0, none⟩) n c) → w'.heap[b]? = w.heap[b]?) ∧
      w.heap.size ≤ w'.heap.size ∧ (∀ b ∈ L', w.heap.size ≤ b) ∧
      ((n + m = 0 ∧ v' = .slice none 0 0) ∨ ∃ g cap cur, v' = .slice (some ⟨g, 0, none⟩) (n + m) cap ∧ (g ∈ L' ∨ ∃ c, v = .slice (some ⟨g, 0, none⟩) n c) ∧ w'.heap[g]? = some (.cells cur e (0, 0)) ∧ n + m ≤ cap ∧ cap ≤ maxLen ∧ cur.size = cap * k ∧ cur.toList.take ((n + m) * k) = xs ++ news) := by
  have hnm : n + m ≤ maxLen := by
    have : n + m ≤ (n + m) * ie.bytes := Nat.le_mul_of_pos_right _ hby
    simp only [maxLen]; omega
  have hown : ∀ base, (∀ g, (∃ c, v = .slice (some ⟨g, 0, none⟩) n c) → base ≤ g) → w.ownsRow base e k v n xs := by
    intro base hbase
    refine ⟨hxl, ?_⟩
    rcases hv with ⟨h1, h2⟩ | ⟨g, cap, cur, h1, _, h2, h3, h4, h5, h6⟩
    · exact .inl ⟨h2, h1⟩
    · exact .inr ⟨g, cap, cur, h1, hbase g ⟨cap, h1⟩, h2, h3, h4, h5, h6⟩
  obtain ⟨hnl, hn1, hm⟩ := hm
  rcases hm with ⟨rfl, c, rfl⟩ | ⟨ad, c, rfl, hcell⟩
  · -- nothing comes
    have hr : (Builtin.append_ #[T', T'] ty #[v, .slice none 0 c]).run P w = .ok v w := by
      rcases hv with ⟨rfl, rfl⟩ | ⟨g, cap, cur, rfl, _, _, hnc, _⟩
      · simp [Builtin.append_, run_underlying hu, sizeOf, typeInfo, hie, Builtin.lenOf, Builtin.firstCells]
      · simp [Builtin.append_, run_underlying hu, sizeOf, typeInfo, hie, Builtin.lenOf, Builtin.firstCells, hnc, storeCells]
    have hnews : news = [] := List.eq_nil_of_length_eq_zero (by simpa using hnl)
    subst hnews
    refine ⟨v, w, [], hr, by simpa using h, fun _ _ _ => rfl, Nat.le_refl _, by simp, ?_⟩
    rcases hv with ⟨h1, h2⟩ | ⟨g, cap, cur, h1, _, h2, h3, h4, h5, h6⟩
    · exact .inl ⟨by omega, h2⟩
    · exact .inr ⟨g, cap, cur, h1, .inr ⟨cap, h1⟩, h2, h3, h4, h5, by simpa using h6⟩
  · rcases hv with ⟨rfl, rfl⟩ | ⟨g, cap, cur, rfl, hgF, hg, h3, h4, h5, h6⟩
    · -- onto nil
      obtain ⟨v', w', hr, ho', hgr, _⟩ := run_append_own (P := P) w w.heap.size T' ty e ie z k ie.bytes hu hie hz hk rfl hzs hk0 (.slice none 0 0) 0 xs (hown w.heap.size (by rintro g ⟨c, hc⟩; simp at hc)) ad m c news hnl hcell hn1 hnm hb (Nat.le_refl _)
      have hgo : Goes w w' := ⟨hgr.os, hgr.tape, hgr.output, hgr.size⟩
      rcases ho'.2 with ⟨rfl, h0⟩ | ⟨g, cap, cur, rfl, hbg, hg, h3, h4, h5, h6⟩
      · exact ⟨_, w', [], hr, h.limbo w' _ hgo (fun b hb _ => hgr.block b hb (by simp [Value.ownBlock])) (fun b hb => ⟨.inl hb, Nat.lt_of_lt_of_le (h.lmine b hb).2 hgr.size⟩) h.lnodup, fun b hb _ => hgr.block b hb (by simp [Value.ownBlock]), hgr.size, by simp, .inl ⟨h0, rfl⟩⟩
      · have hlt : g < w'.heap.size := (Array.getElem?_eq_some_iff.1 hg).1
        refine ⟨_, w', [g], hr, h.limbo w' _ hgo (fun b hb _ => hgr.block b hb (by simp [Value.ownBlock])) (fun b hb => ?_) (List.nodup_cons.2 ⟨fun hm => by have := (h.lmine g (by simpa using hm)).2; omega, h.lnodup⟩), fun b hb _ => hgr.block b hb (by simp [Value.ownBlock]), hgr.size, fun b hb => by simp at hb; omega, .inr ⟨g, cap, cur, rfl, .inl (by simp), hg, h3, h4, h5, h6⟩⟩
        rcases List.mem_cons.1 hb with rfl | hb
        · exact ⟨.inr hbg, hlt⟩
        · exact ⟨.inl hb, Nat.lt_of_lt_of_le (h.lmine b hb).2 hgr.size⟩
    · by_cases hroom : n + m ≤ cap
      · -- in its own block
        obtain ⟨w', hr, ho', hgr⟩ := run_append_fits (P := P) w 0 T' ty e ie k hu hie hk g n cap xs (hown 0 fun _ _ => Nat.zero_le _) ad m c news hnl hcell hn1 hroom
        have hgo : Goes w w' := ⟨hgr.os, hgr.tape, hgr.output, hgr.size⟩
        refine ⟨_, w', [], hr, h.limbo w' _ hgo (fun b hb hnb => hgr.block b hb (by rintro ⟨rfl⟩; exact hnb hgF)) (fun b hb => ⟨.inl hb, Nat.lt_of_lt_of_le (h.lmine b hb).2 hgr.size⟩) h.lnodup, fun b hb hne => hgr.block b hb (by rintro ⟨rfl⟩; exact hne cap n rfl), hgr.size, by simp, .inr ?_⟩
        rcases ho'.2 with ⟨h7, _⟩ | ⟨g', cap', cur', h7, _, h8, h9, h10, h11, h12⟩
        · simp at h7
        · simp only [Value.slice.injEq, Option.some.injEq, Addr.mk.injEq, and_true, true_and] at h7
          obtain ⟨rfl, rfl⟩ := h7
          exact ⟨g, cap, cur', rfl, .inr ⟨cap, rfl⟩, h8, h9, h10, h11, h12⟩
      · -- in a new one
        have holds : ∀ j u, xs[j]? = some u → w.cell? ((⟨g, 0, none⟩ : Addr).add j) = some u := (hown 0 fun _ _ => Nat.zero_le _).cells (g := g) rfl
        have hn63 : ((n + m : Nat) : Int) ≤ 9223372036854775807 := by simp only [maxLen] at hnm; omega
        have hr := run_append_grow (P := P) w T' ty e ie z hu hie hz ⟨g, 0, none⟩ n cap xs (by rw [hk]; exact hxl) holds ad m c news (by rw [hk]; exact hnl) hcell (by omega) hn63 (growslice_fits (by omega) hb)
        have hge := grownCap_ge w (n + m) cap e
        have hcm := grownCap_le_maxLen w (n + m) cap e hnm
        refine ⟨_, _, [w.heap.size], hr, (h.drew (w.drawn + 1)).alloc _, fun b hb _ => heap_alloc_old w.drew _ b hb, by simp, by simp, .inr ⟨w.heap.size, _, _, rfl, .inl (by simp), heap_alloc_new w.drew _, hge, hcm, ?_, ?_⟩⟩
        · simp only [Array.size_append, List.size_toArray, size_zeroCells, hzs, hxl, hnl, ← Nat.add_mul]
          congr 1
          omega
        · have hlen : (xs ++ news).length = (n + m) * k := by rw [List.length_append, hxl, hnl, Nat.add_mul]
          simp only [Array.toList_append, List.append_assoc]
          rw [← List.append_assoc, ← hlen]
          exact List.take_left

theorem news_ow {S : Nat → Prop} {e : TypeId} {t : Ty} {m : Val (.ow e t)} {vm : Value} {F : List Nat} (hr : R w S (.ow e t) m [vm] F) :
    ∃ news H, Rl (R w S t) m news H ∧ News w vm (List.length (α := Val t) m) (cells t) news ∧ H.Sublist F := by
  rcases hr with ⟨h1, h2, rfl⟩ | ⟨g, cap, cur, F', h2, rfl, hg, h3, h4, h5, h6⟩
  · have hm : m = ([] : List (Val t)) := List.eq_nil_of_length_eq_zero h1
    subst hm
    simp only [List.cons.injEq, and_true] at h2
    subst h2
    exact ⟨[], [], ⟨rfl, rfl⟩, ⟨by simp, by simp, .inl ⟨rfl, 0, rfl⟩⟩, List.Sublist.refl _⟩
  · simp only [List.cons.injEq, and_true] at h2
    subst h2
    refine ⟨_, F', h6, ⟨Rl_len (R_len t) _ _ _ h6, ?_, .inr ⟨⟨g, 0, none⟩, cap, rfl, fun j u hu => ?_⟩⟩, List.sublist_cons_self _ _⟩
    · exact Rl_ones (fun x cs F => R_ones t x cs F) _ _ _ h6
    · rw [← List.drop_zero (l := cur.toList)] at hu
      exact row_cells hg j u hu

theorem news_sh {S : Nat → Prop} {e : TypeId} {t : Ty} {m : Val (.sh e t)} {vm : Value} {F : List Nat} (hr : R w S (.sh e t) m [vm] F) :
    F = [] ∧ ∃ news, Rl (R w S t) m news [] ∧ News w vm (List.length (α := Val t) m) (cells t) news := by
  obtain ⟨rfl, ad, cap, h2, h3, h4, h5⟩ := hr
  simp only [List.cons.injEq, and_true] at h2
  subst h2
  refine ⟨rfl, ?_⟩
  rcases h5 with h5 | ⟨d, ccs, rfl, hS, h6, h7⟩
  · have hm : m = ([] : List (Val t)) := List.eq_nil_of_length_eq_zero h5
    subst hm
    refine ⟨[], ⟨rfl, rfl⟩, by simp, by simp, ?_⟩
    cases ad with
    | none => exact .inl ⟨rfl, cap, rfl⟩
    | some d => exact .inr ⟨d, cap, rfl, by simp⟩
  · exact ⟨ccs, h6, Rl_len (R_len t) _ _ _ h6, Rl_ones (fun x cs F => R_ones t x cs F) _ _ _ h6, .inr ⟨d, cap, rfl, h7⟩⟩

theorem ow_nil {S : Nat → Prop} {e : TypeId} {t u : Ty} {cs F} (hr : R w S (.ow e t) ([] : List (Val t)) cs F) (hc : cells t = cells u) : R w S (.ow e u) ([] : List (Val u)) cs F := by
  rcases hr with ⟨_, h2, h3⟩ | ⟨g, cap, cur, F', h2, rfl, hg, h3, h4, h5, h6⟩
  · exact .inl ⟨rfl, h2, h3⟩
  · obtain ⟨_, rfl⟩ := h6
    exact .inr ⟨g, cap, cur, [], h2, rfl, hg, h3, h4, by rw [← hc]; exact h5, by simp [Rl]⟩

theorem append_fin {T' e : TypeId} {ie : TypeInfo} {t : Ty} {z : Value} (hu : P.underlying T' = some (.slice e)) (hie : P.info? e = some ie) (hz : ie.zero = some z) (hk : ie.size = cells t) (hzs : z.cells.size = cells t) (hk0 : 0 < cells t) (hby : 0 < ie.bytes)
    {l m : List (Val t)} {v vm : Value} {news : List Value} {F1 F2 H2 : List Nat} (hb : (l.length + m.length) * ie.bytes ≤ 140737488355328)
    (h : RelG C A a w G (F1 ++ F2)) (hl : R w (Sof C w G (F1 ++ F2)) (.ow e t) l [v] F1) (hm : Rl (R w (Sof C w G (F1 ++ F2)) t) m news H2) (hN : News w vm m.length (cells t) news) (hH : H2.Sublist F2) (ty : TypeId) :
    ∃ v' w' F', (Builtin.append_ #[T', T'] ty #[v, vm]).run P w = .ok v' w' ∧ RelG C A a w' G F' ∧ R w' (Sof C w' G F') (.ow e t) (l ++ m) [v'] F' ∧ (∀ b, Sof C w G (F1 ++ F2) b → Sof C w' G F' b ∧ w'.heap[b]? = w.heap[b]?) ∧ ∀ s, ∀ b ∈ (G s).F, w'.heap[b]? = w.heap[b]? := by
  have hn := List.nodup_append.1 h.lnodup
  obtain ⟨xs, H1, hx, hxl, hv, hH1⟩ : ∃ xs H1, Rl (R w (Sof C w G (F1 ++ F2)) t) l xs H1 ∧ xs.length = l.length * cells t ∧ ((l.length = 0 ∧ v = .slice none 0 0) ∨ ∃ g cap cur, v = .slice (some ⟨g, 0, none⟩) l.length cap ∧ F1 = g :: H1 ∧ w.heap[g]? = some (.cells cur e (0, 0)) ∧ l.length ≤ cap ∧ cap ≤ maxLen ∧ cur.size = cap * cells t ∧ cur.toList.take (l.length * cells t) = xs) ∧ H1.Sublist F1 := by
    rcases hl with ⟨h1, h2, rfl⟩ | ⟨g, cap, cur, F', h2, rfl, hg, h3, h4, h5, h6⟩
    · have hm : l = ([] : List (Val t)) := List.eq_nil_of_length_eq_zero h1
      subst hm
      simp only [List.cons.injEq, and_true] at h2
      exact ⟨[], [], ⟨rfl, rfl⟩, by simp, .inl ⟨rfl, h2⟩, List.Sublist.refl _⟩
    · simp only [List.cons.injEq, and_true] at h2
      exact ⟨_, F', h6, Rl_len (R_len t) _ _ _ h6, .inr ⟨g, cap, cur, h2, rfl, hg, h3, h4, h5, rfl⟩, List.sublist_cons_self _ _⟩
  obtain ⟨v', w', L', hr, hrel, hsame, hsize, hL', hres⟩ := append_run hu hie hz hk hzs hk0 hb hby h hxl
    (by
      rcases hv with hv | ⟨g, cap, cur, h1, h2, h3⟩
      · exact .inl hv
      · exact .inr ⟨g, cap, cur, h1, by simp [h2], h3⟩) hN ty
  have hvF : ∀ b c n, v = .slice (some ⟨b, 0, none⟩) n c → b ∈ F1 ∧ b ∉ H1 := by
    rintro b c n rfl
    rcases hv with ⟨_, hv⟩ | ⟨g, cap, cur, h1, h2, _⟩
    · simp at hv
    · simp only [Value.slice.injEq, Option.some.injEq, Addr.mk.injEq, and_true] at h1
      obtain ⟨rfl, _⟩ := h1
      have := hn.1
      rw [h2] at this ⊢
      exact ⟨by simp, (List.nodup_cons.1 this).1⟩
  have hS : ∀ b, Sof C w G (F1 ++ F2) b → w'.heap[b]? = w.heap[b]? ∧ ∀ L, (∀ c ∈ L, c ∈ L' ++ (F1 ++ F2)) → Sof C w' G L b := by
    intro b hb
    refine ⟨hsame b hb.1 fun c n e => hb.2.2.2 (by simp [(hvF b c n e).1]), fun L hL => ⟨Nat.lt_of_lt_of_le hb.1 hsize, hb.2.1, hb.2.2.1, fun hm => ?_⟩⟩
    rcases List.mem_append.1 (hL b hm) with hm | hm
    · have := hL' b hm; have := hb.1; omega
    · exact hb.2.2.2 hm
  have hother : ∀ b ∈ H1 ++ H2, w'.heap[b]? = w.heap[b]? := by
    intro b hbm
    rcases List.mem_append.1 hbm with hbm | hbm
    · exact hsame b (h.lmine b (by simp [hH1.subset hbm])).2 fun c n e => (hvF b c n e).2 hbm
    · exact hsame b (h.lmine b (by simp [hH.subset hbm])).2 fun c n e => hn.2.2 b (hvF b c n e).1 b (hH.subset hbm) rfl
  have hRl : ∀ L, (∀ c ∈ L, c ∈ L' ++ (F1 ++ F2)) → Rl (R w' (Sof C w' G L) t) (l ++ m) (xs ++ news) (H1 ++ H2) := by
    intro L hL
    refine (Rl_append l m _ _).2 ⟨xs, news, H1, H2, rfl, rfl, ?_, ?_⟩
    · exact Rl_monoF (G := fun b => b ∈ H1) (fun x cs F hF hx => R_frame (fun b hb => ⟨(hS b hb).2 L hL, (hS b hb).1⟩) _ _ _ _ (fun b hb => hother b (by simp [hF b hb])) hx) l _ _ (fun b hb => hb) hx
    · exact Rl_monoF (G := fun b => b ∈ H2) (fun x cs F hF hx => R_frame (fun b hb => ⟨(hS b hb).2 L hL, (hS b hb).1⟩) _ _ _ _ (fun b hb => hother b (by simp [hF b hb])) hx) m _ _ (fun b hb => hb) hm
  have hHH : (H1 ++ H2).Nodup := List.nodup_append.2 ⟨hn.1.sublist hH1, hn.2.1.sublist hH, fun b hb c hc e => hn.2.2 b (hH1.subset hb) c (hH.subset hc) e⟩
  have hsites : ∀ s, ∀ b ∈ (G s).F, w'.heap[b]? = w.heap[b]? := fun s b hb => hsame b (h.mine s b hb).2 fun c n e => h.lapart s b hb (by simp [(hvF b c n e).1])
  rcases hres with ⟨h0, rfl⟩ | ⟨g, cap, cur, rfl, hgm, hg, h3, h4, h5, h6⟩
  · have hl0 : l = [] := List.eq_nil_of_length_eq_zero (by omega)
    have hm0 : m = [] := List.eq_nil_of_length_eq_zero (by omega)
    subst hl0; subst hm0
    refine ⟨_, w', [], hr, hrel.drop (by simp) (by simp), .inl ⟨rfl, rfl, rfl⟩, fun b hb => ⟨(hS b hb).2 [] (by simp), (hS b hb).1⟩, hsites⟩
  · have hgsub : g ∈ L' ++ (F1 ++ F2) := by
      rcases hgm with hgm | ⟨c, hc⟩
      · simp [hgm]
      · simp [(hvF g c _ hc).1]
    have hgn : g ∉ H1 ++ H2 := by
      intro hm
      rcases hgm with hgm | ⟨c, hc⟩
      · have h1 := hL' g hgm
        have : g < w.heap.size := by
          rcases List.mem_append.1 hm with hm | hm
          · exact (h.lmine g (by simp [hH1.subset hm])).2
          · exact (h.lmine g (by simp [hH.subset hm])).2
        omega
      · obtain ⟨k1, k2⟩ := hvF g c _ hc
        rcases List.mem_append.1 hm with hm | hm
        · exact k2 hm
        · exact hn.2.2 g k1 g (hH.subset hm) rfl
    have hsub : ∀ b ∈ g :: (H1 ++ H2), b ∈ L' ++ (F1 ++ F2) := by
      intro b hb
      rcases List.mem_cons.1 hb with rfl | hb
      · exact hgsub
      · rcases List.mem_append.1 hb with hb | hb
        · simp [hH1.subset hb]
        · simp [hH.subset hb]
    refine ⟨_, w', g :: (H1 ++ H2), hr, hrel.drop hsub (List.nodup_cons.2 ⟨hgn, hHH⟩), .inr ⟨g, cap, cur, H1 ++ H2, ?_, rfl, hg, ?_, h4, h5, ?_⟩, fun b hb => ⟨(hS b hb).2 _ hsub, (hS b hb).1⟩, hsites⟩
    · rw [List.length_append]
    · rw [List.length_append]; exact h3
    · rw [List.length_append, h6]; exact hRl _ hsub
end
end Go.Am
/- Am, part 22: append. -/
set_option linter.unusedVariables false
set_option linter.unusedSimpArgs false
namespace Go.Am

section
variable {β : Type} {P : Program} {Γ : Env} {C : Ctx} {A : St} {a : Act} {w : World} {G : Nat → GS} {L : List Nat} {K : St → Option β} {r : β} {o : Oper} {B : Nat → Prop}
variable {Φ : Prog} {act : Option Ty} {T : Nat → Bool}

theorem one_of_R {S : Nat → Prop} {t : Ty} {x : Val t} {cs F} (hr : R w S t x cs F) (hg : isAgg t = false) : ∃ v, cs = [v] := by
  have := R_len _ _ _ _ hr
  rw [one_cell hg] at this
  exact List.length_eq_one_iff.1 this

theorem three_args {args : Array Operand} {x y} (h : args.toList = [x, y]) : args = #[x, y] := by
  rw [← Array.toArray_toList (xs := args), h]

theorem eff_append {args tys} (hT : tysOk P Γ = true) (ho : o.op = .call { callee := .builtin .append, args, argTypes := tys }) (h : RelG C A a w G []) (hTn : ∀ x ∈ args.toList, ∀ t s, T s = false → (opd Γ t A x).names s = false) (hk : opK Γ Φ act o A K = some r) : Eff P o C A a w G T K r := by
  unfold opK at hk
  rw [ho] at hk
  dsimp only at hk
  split at hk
  rotate_left
  · cases hk
  rename_i d s x T0 T1 hd hargs htys
  split at hk
  rotate_left
  · cases hk
  rename_i hTT
  subst hTT
  split at hk
  rotate_left
  · cases hk
  rename_i i hi
  split at hk
  rotate_left
  · cases hk
  rename_i e0 t0 e t l A1 hty htk1
  split at hk
  rotate_left
  · cases hk
  rename_i hsh
  obtain ⟨rfl, hsh⟩ := hsh
  rw [two_args hargs, show tys = #[T1, T1] by rw [← Array.toArray_toList (xs := tys), htys]] at ho
  obtain ⟨hu, _, hs, hpos, ie, hie, hby, hz⟩ := under_ow (tf_of hT hi) hty
  have hR := R_dflt (w := w) (S := Sof C w G []) t0
  have hzc := aggV_cells (R_len _ _ _ _ hR) (R_ones _ _ _ _ hR)
  have hzl := R_len _ _ _ _ hR
  have hisz : ie.size = cells t0 := by
    obtain ⟨inf, j1, j2⟩ := hs.info
    rw [hie] at j1
    simp only [Option.some.injEq] at j1
    rw [j1]; exact j2
  have hsh' := shape_same hsh
  have hx1 := opd_sound Γ T1 h s
  obtain ⟨cs1, hv1, G1, F1, k1, k2, k3, _, k5⟩ := taken_value htk1 h hx1
  have k2 : R w (Sof C w G1 ([] ++ F1)) (.ow e0 t) l cs1 F1 := k2
  rw [List.nil_append] at k1 k2
  obtain ⟨v, rfl⟩ := one_of_R k2 rfl
  have hv1 : a.eval s = v := hv1
  have hx2 := opd_sound Γ T1 k1 x
  have hN1 := fun s' hs' => hTn s (by rw [hargs]; simp) T1 s' hs'
  have hN2 := fun s' hs' => opd_sub (take_sub _ htk1) T1 x s' (hTn x (by rw [hargs]; simp) T1 s' hs')
  -- the end, given the two rows at one type
  have fin : ∀ {t' : Ty} {l' m' : List (Val t')} {A2 : St} {G2 : Nat → GS} {F2 H2 : List Nat} {vm : Value} {news : List Value}, cells t' = cells t →
      (∀ b, Sof C w G [] b → Sof C w G2 (F1 ++ F2) b) → Frm w w A A2 G G2 T → RelG C A2 a w G2 (F1 ++ F2) → R w (Sof C w G2 (F1 ++ F2)) (.ow e0 t') l' [v] F1 → Rl (R w (Sof C w G2 (F1 ++ F2)) t') m' news H2 → News w vm m'.length (cells t') news → H2.Sublist F2 → a.eval x = vm →
      (l'.length + m'.length) * i.bytes ≤ 140737488355328 → finK act d (.ow e0 t') (List.append l' m') A2 K = some r → Eff P o C A a w G T K r := by
    intro t' l' m' A2 G2 F2 H2 vm news hc hM hFr hrel hl hm hN hH hvm hb hfin
    obtain ⟨v', w', F', q1, q2, q3, q4, q5⟩ := append_fin (e := e0) hu hie hz (by rw [hisz, hc, hsh'.1]) (by rw [hzc, hc, hsh'.1]; simpa using hzl) (by rw [hc, hsh'.1]; exact hpos) (by rw [hby.1]; exact hby.2) (by rw [hby.1]; exact hb) hrel hl hm hN hH o.type
    obtain ⟨A', G', p1, p2, p3, p4⟩ := finK_sound (L := []) (F := F') q2 q3 hfin
    refine eff_value (v := v') (w' := w') ?_ ⟨A', G', p1, by rw [hd]; exact p2, fun b hb => ⟨(p3 b (q4 b (hM b hb)).1).1, (q4 b (hM b hb)).2⟩, ?_⟩
    · simp [execOp, ho, resolve, invoke, builtin, hv1, hvm, q1]
    · have hnew : Frm w w' A2 A2 G2 G2 T := fun s _ _ => ⟨rfl, rfl, q5 s⟩
      exact (hFr.trans hnew).trans (p4 T)
  split at hk
  · -- an owned row comes
    rename_i e' u m A2 htk2
    obtain ⟨cs2, hv2, G2, F2, j1, j2, j3, _, j5⟩ := taken_value htk2 k1 hx2
    have j2 : R w (Sof C w G2 (F1 ++ F2)) (.ow e' u) m cs2 F2 := j2
    have hFr : Frm w w A A2 G G2 T := (k5.mono hN1).trans (j5.mono hN2)
    have hM : ∀ b, Sof C w G [] b → Sof C w G2 (F1 ++ F2) b := fun b hb => j3 b (by simpa using k3 b hb)
    have k2' := R_frame (w' := w) (S' := Sof C w G2 (F1 ++ F2)) (fun b hb => ⟨j3 b hb, rfl⟩) _ _ _ _ (fun _ _ => rfl) k2
    obtain ⟨vm, rfl⟩ := one_of_R j2 rfl
    unfold opK.appK at hk
    split at hk
    · rename_i hco
      dsimp only at hk
      split at hk
      · rename_i hb
        have hco' : coeV? (.ow e' u) m (.ow e0 t) = some (cast (coe_val hco) m) := by rw [coeV?]; simp [hco]
        obtain ⟨F3, n1, n2, n3, n4⟩ := coe_sound j1 j2 hco'
        obtain ⟨news, H, g1, g2, g3⟩ := news_ow n2
        have k2'' := R_frame (w' := w) (S' := Sof C w G2 (F1 ++ F3)) (fun b hb => ⟨(n3 b hb).1, rfl⟩) _ _ _ _ (fun _ _ => rfl) k2'
        exact fin rfl (fun b hb => (n3 b (hM b hb)).1) hFr n1 k2'' g1 g2 g3 hv2 hb hk
      · cases hk
    · split at hk
      · split at hk
        · rename_i he
          obtain ⟨rfl, hcu⟩ := he
          split at hk
          · rename_i hb
            obtain ⟨news, H, g1, g2, g3⟩ := news_ow j2
            exact fin (t' := u) (l' := []) hcu.symm hM hFr j1 (ow_nil k2' hcu) g1 g2 g3 hv2 (by simpa using hb) hk
          · cases hk
        · cases hk
      · cases hk
  · -- a shared row comes
    rename_i e' u m A2 htk2
    obtain ⟨cs2, hv2, G2, F2, j1, j2, j3, _, j5⟩ := taken_value htk2 k1 hx2
    have j2 : R w (Sof C w G2 (F1 ++ F2)) (.sh e' u) m cs2 F2 := j2
    have hFr : Frm w w A A2 G G2 T := (k5.mono hN1).trans (j5.mono hN2)
    have hM : ∀ b, Sof C w G [] b → Sof C w G2 (F1 ++ F2) b := fun b hb => j3 b (by simpa using k3 b hb)
    have k2' := R_frame (w' := w) (S' := Sof C w G2 (F1 ++ F2)) (fun b hb => ⟨j3 b hb, rfl⟩) _ _ _ _ (fun _ _ => rfl) k2
    obtain ⟨vm, rfl⟩ := one_of_R j2 rfl
    unfold opK.appS at hk
    split at hk
    · rename_i hut
      subst hut
      dsimp only at hk
      split at hk
      · rename_i he
        subst he
        split at hk
        · rename_i hb
          obtain ⟨hF2, news, g1, g2⟩ := news_sh j2
          exact fin rfl hM hFr j1 k2' g1 g2 (List.nil_sublist _) hv2 hb hk
        · cases hk
      · cases hk
    · split at hk
      · split at hk
        · rename_i he
          obtain ⟨rfl, hcu⟩ := he
          split at hk
          · rename_i hb
            obtain ⟨hF2, news, g1, g2⟩ := news_sh j2
            exact fin (t' := u) (l' := []) hcu.symm hM hFr j1 (ow_nil k2' hcu) g1 g2 (List.nil_sublist _) hv2 (by simpa using hb) hk
          · cases hk
        · cases hk
      · cases hk
  · cases hk
end
end Go.Am
/- Am, part 23: several sites change at once. -/
set_option linter.unusedVariables false
set_option linter.unusedSimpArgs false
namespace Go.Am

theorem RelG.many {C : Ctx} {A A' : St} {a : Act} {w w' : World} {G G' : Nat → GS} {L L' : List Nat} (h : RelG C A a w G L) (N : Nat → Prop) (hgo : Goes w w')
    (hsame : ∀ b, b < w.heap.size → (∀ s, N s → b ∉ (G s).F) → b ∉ L → w'.heap[b]? = w.heap[b]?)
    (hsite : ∀ s', ¬ N s' → A'.site s' = A.site s' ∧ G' s' = G s') (hlen : A'.slots.length = A.slots.length)
    (hg : ∀ s, N s → ∀ b ∈ (G' s).F, ((∃ s', N s' ∧ b ∈ (G s').F) ∨ b ∈ L ∨ w.heap.size ≤ b) ∧ b < w'.heap.size) (hgn : ∀ s, N s → (G' s).F.Nodup)
    (hgg : ∀ s s', N s → N s' → s ≠ s' → ∀ b ∈ (G' s).F, b ∉ (G' s').F)
    (hL : ∀ b ∈ L', ((∃ s', N s' ∧ b ∈ (G s').F) ∨ b ∈ L ∨ w.heap.size ≤ b) ∧ b < w'.heap.size) (hLn : L'.Nodup) (hgL : ∀ s, N s → ∀ b ∈ (G' s).F, b ∉ L')
    (hX : ∀ S' : Nat → Prop, (∀ b, Sof C w G L b → S' b ∧ w'.heap[b]? = w.heap[b]?) →
      (∀ b, ((∃ s', N s' ∧ b ∈ (G s').F) ∨ b ∈ L ∨ w.heap.size ≤ b) → b < w'.heap.size → (∀ s, N s → b ∉ (G' s).F) → b ∉ L' → S' b) → ∀ s, N s → SiteR w' S' (A'.site s) (G' s))
    (hk : Kept w w' A A' G G') (hp : ∀ q : Nat × Nat, q ∈ C.pins → N q.1 → (∃ T t x, A'.site q.1 = .var T t x) ∧ (G' q.1).blk = q.2) : RelG C A' a w' G' L' ∧ (∀ b, Sof C w G L b → Sof C w' G' L' b ∧ w'.heap[b]? = w.heap[b]?) ∧
      (∀ b, ((∃ s', N s' ∧ b ∈ (G s').F) ∨ b ∈ L ∨ w.heap.size ≤ b) → b < w'.heap.size → (∀ s, N s → b ∉ (G' s).F) → b ∉ L' → Sof C w' G' L' b) := by
  have hnew : ∀ b, (∃ s', N s' ∧ b ∈ (G s').F) ∨ b ∈ L ∨ w.heap.size ≤ b → (C.w0.heap.size ≤ b ∨ b ∈ C.M0) := by
    rintro b (⟨s', _, hb⟩ | hb | hb)
    · exact (h.mine _ _ hb).1
    · exact (h.lmine _ hb).1
    · exact .inl (Nat.le_trans h.size hb)
  -- a block of another site is none of these
  have hapart : ∀ s', ¬ N s' → ∀ b ∈ (G s').F, ¬ ((∃ s'', N s'' ∧ b ∈ (G s'').F) ∨ b ∈ L ∨ w.heap.size ≤ b) := by
    rintro s' hn b hb (⟨s'', hs'', hb'⟩ | hb' | hb')
    · exact h.apart s' s'' (fun e => hn (e ▸ hs'')) b hb hb'
    · exact h.lapart _ _ hb hb'
    · have := (h.mine _ _ hb).2; omega
  have hS : ∀ b, Sof C w G L b → Sof C w' G' L' b ∧ w'.heap[b]? = w.heap[b]? := by
    rintro b ⟨h1, h2, h3, h4⟩
    have hno : ¬ ((∃ s'', N s'' ∧ b ∈ (G s'').F) ∨ b ∈ L ∨ w.heap.size ≤ b) := by
      rintro (⟨s'', _, hb'⟩ | hb' | hb')
      · exact h3 _ hb'
      · exact h4 hb'
      · omega
    refine ⟨⟨Nat.lt_of_lt_of_le h1 hgo.size, h2, fun s' hb => ?_, fun hb => hno (hL b hb).1⟩, hsame b h1 (fun s _ => h3 s) h4⟩
    by_cases e : N s'
    · exact hno (hg s' e b hb).1
    · rw [(hsite s' e).2] at hb; exact h3 s' hb
  have hfree : ∀ b, ((∃ s', N s' ∧ b ∈ (G s').F) ∨ b ∈ L ∨ w.heap.size ≤ b) → b < w'.heap.size → (∀ s, N s → b ∉ (G' s).F) → b ∉ L' → Sof C w' G' L' b := by
    intro b hb hlt h1 h2
    refine ⟨hlt, ?_, fun s' hm => ?_, h2⟩
    · rcases hnew b hb with h | h
      · exact .inr (.inl h)
      · exact .inr (.inr h)
    · by_cases e : N s'
      · exact h1 s' e hm
      · rw [(hsite s' e).2] at hm; exact hapart s' e b hm hb
  have hother : ∀ s', ¬ N s' → ∀ b ∈ (G s').F, w'.heap[b]? = w.heap[b]? := fun s' e b hb =>
    hsame b (h.mine _ _ hb).2 (fun s hs hb' => hapart s' e b hb (.inl ⟨s, hs, hb'⟩)) (h.lapart _ _ hb)
  refine ⟨⟨fun i => ?_, fun s' => ?_, fun s' => ?_, ?_, fun s' b hb => ?_, hLn, fun s' b hb => ?_, fun b hb => ⟨hnew b (hL b hb).1, (hL b hb).2⟩, h.s0,
    hgo.os.trans h.os, hgo.tape.trans h.tape, hgo.output.trans h.output, Nat.le_trans h.size hgo.size, fun b hb hm => ?_, h.defers, by rw [hlen]; exact h.len, fun q hq => by rw [hlen]; exact h.pinlen q hq, fun q hq => by
      by_cases e : N q.1
      · exact hp q hq e
      · rw [(hsite _ e).1, (hsite _ e).2]; exact h.pin q hq⟩, hS, hfree⟩
  · rcases hk i with e | ⟨e, hl⟩
    · rw [e]; exact ⟨[a.tmps.getD i undef], by simp [SC], rfl⟩
    · rw [e]
      obtain ⟨cs, h1, h2⟩ := h.slots i
      exact ⟨cs, SC_frame hS _ _ hl h1, h2⟩
  · by_cases e : N s'
    · exact hX _ hS hfree s' e
    · rw [(hsite s' e).2, (hsite s' e).1]
      exact SiteR_frame hS (hother s' e) (h.sites s')
  · by_cases e : N s'
    · exact hgn s' e
    · rw [(hsite s' e).2]; exact h.nodup s'
  · intro s1 s2 hne b hb hb'
    by_cases e1 : N s1 <;> by_cases e2 : N s2
    · exact hgg s1 s2 e1 e2 hne b hb hb'
    · rw [(hsite s2 e2).2] at hb'; exact hapart s2 e2 b hb' (hg s1 e1 b hb).1
    · rw [(hsite s1 e1).2] at hb; exact hapart s1 e1 b hb (hg s2 e2 b hb').1
    · rw [(hsite s1 e1).2] at hb; rw [(hsite s2 e2).2] at hb'; exact h.apart s1 s2 hne b hb hb'
  · by_cases e : N s'
    · exact ⟨hnew b (hg s' e b hb).1, (hg s' e b hb).2⟩
    · rw [(hsite s' e).2] at hb
      have := h.mine _ _ hb
      exact ⟨this.1, Nat.lt_of_lt_of_le this.2 hgo.size⟩
  · by_cases e : N s'
    · exact hgL s' e b hb
    · rw [(hsite s' e).2] at hb
      exact fun hb' => hapart s' e b hb (hL b hb').1
  · have hsz := h.size
    rw [hsame b (by omega) ?_ ?_]
    · exact h.frame b hb hm
    · intro s _ hb'
      rcases (h.mine _ _ hb').1 with h | h
      · omega
      · exact hm h
    · intro hb'
      rcases (h.lmine _ hb').1 with h | h
      · omega
      · exact hm h

/-! ### What a function's contract says -/
section
variable (w : World) (S : Nat → Prop) (vb : List Nat)
def CapR : Cap → Value → Prop
  | .v t x, v => ∃ cs, v = aggV (isAgg t) cs ∧ R w S t x cs []
  | .p j, v => ∃ b, vb[j]? = some b ∧ v = .pointer (some ⟨b, 0, none⟩)
def CapsR : List Cap → List Value → Prop
  | [], vs => vs = []
  | c :: cs, vs => ∃ v vs', vs = v :: vs' ∧ CapR w S vb c v ∧ CapsR cs vs'
def ArgR : CArg → Value → List Nat → Prop
  | .v t x, v, F => ∃ cs, v = aggV (isAgg t) cs ∧ R w S t x cs F
  | .p j, v, F => F = [] ∧ ∃ b, vb[j]? = some b ∧ v = .pointer (some ⟨b, 0, none⟩)
  | .nilp, v, F => F = [] ∧ v = .pointer none
  | .fn f caps, v, F => F = [] ∧ ∃ vs, v = .func (.func f) #[] vs.toArray ∧ CapsR w S vb caps vs
def ArgsR : List CArg → List Value → List Nat → Prop
  | [], vs, F => vs = [] ∧ F = []
  | a :: as, vs, F => ∃ v vs' F1 F2, vs = v :: vs' ∧ F = F1 ++ F2 ∧ ArgR w S vb a v F1 ∧ ArgsR as vs' F2
def VarR (c : CVar) (b : Nat) (F : List Nat) : Prop := ∃ cs F', F = b :: F' ∧ w.heap[b]? = some (.cells cs.toArray c.T (0, 0)) ∧ R w S c.t c.x cs F'
def VarsR : List CVar → List Nat → List Nat → Prop
  | [], bs, F => bs = [] ∧ F = []
  | c :: cs, bs, F => ∃ b bs' F1 F2, bs = b :: bs' ∧ F = F1 ++ F2 ∧ VarR w S c b F1 ∧ VarsR cs bs' F2
def CResR : CRes → Value → List Nat → Prop
  | .v t x, v, F => ∃ cs, v = aggV (isAgg t) cs ∧ R w S t x cs F
  | .new T t x, v, F => ∃ b, v = .pointer (some ⟨b, 0, none⟩) ∧ VarR w S ⟨T, t, x⟩ b F
  | .nilp, v, F => F = [] ∧ v = .pointer none
def CRessR : List CRes → List Value → List Nat → Prop
  | [], vs, F => vs = [] ∧ F = []
  | a :: as, vs, F => ∃ v vs' F1 F2, vs = v :: vs' ∧ F = F1 ++ F2 ∧ CResR w S a v F1 ∧ CRessR as vs' F2
def ResV : List CRes → Value → List Nat → Prop
  | [r], v, F => CResR w S r v F
  | rs, v, F => ∃ vs, v = .tuple vs.toArray ∧ CRessR w S rs vs F
end

/-- What stays behind a call: what stayed before it, what is new, what went in; but for what is owned now. -/
def After (w w' : World) (S : Nat → Prop) (M M' : List Nat) (b : Nat) : Prop := b < w'.heap.size ∧ (S b ∨ w.heap.size ≤ b ∨ b ∈ M) ∧ b ∉ M'

def SoundF (P : Program) (f : FuncId) (φ : Den) : Prop :=
  ∀ args vars res vars', φ args vars = some (res, vars') → ∀ (w : World) (S : Nat → Prop) (vals : List Value) (vb Fa Fv : List Nat), (∀ b, S b → b < w.heap.size ∧ b ∉ Fa ++ Fv) →
    ArgsR w S vb args vals Fa → VarsR w S vars vb Fv → (Fa ++ Fv).Nodup → (∀ b ∈ Fa ++ Fv, b < w.heap.size) →
    Calls P f vals.toArray w fun e w' => ∃ v Fr Fv', e = .returned v ∧ Goes w w' ∧ (∀ b, b < w.heap.size → b ∉ Fa ++ Fv → w'.heap[b]? = w.heap[b]?) ∧ (Fr ++ Fv').Nodup ∧
      (∀ b ∈ Fr ++ Fv', (b ∈ Fa ++ Fv ∨ w.heap.size ≤ b) ∧ b < w'.heap.size) ∧ ResV w' (After w w' S (Fa ++ Fv) (Fr ++ Fv')) res v Fr ∧ VarsR w' (After w w' S (Fa ++ Fv) (Fr ++ Fv')) vars' vb Fv'

end Go.Am
/- Am, part 24: what goes into a call. -/
set_option linter.unusedVariables false
set_option linter.unusedSimpArgs false
namespace Go.Am

theorem indexOf_get : ∀ (N : List Nat) (s : Nat), N.contains s = true → N[indexOf s N]? = some s
  | [], s, h => by simp at h
  | n :: N, s, h => by
    unfold indexOf
    by_cases e : s = n
    · subst e; simp
    · have e' : (s == n) = false := by simpa using e
      rw [e']
      have : N.contains s = true := by simpa [e] using h
      simpa using indexOf_get N s this

theorem addSite_spec (s : Nat) (N : List Nat) : (addSite s N).2[(addSite s N).1]? = some s ∧ (∃ M, (addSite s N).2 = N ++ M ∧ ∀ x ∈ M, x = s) ∧ (N.Nodup → (addSite s N).2.Nodup) := by
  unfold addSite
  split
  · rename_i h; exact ⟨indexOf_get N s h, ⟨[], by simp, by simp⟩, id⟩
  · rename_i h
    refine ⟨by simp, ⟨[s], rfl, by simp⟩, fun hn => List.nodup_append.2 ⟨hn, by simp, ?_⟩⟩
    rintro b hb c hc rfl
    simp at hc; subst hc
    exact h (by simpa using hb)

section
variable {P : Program} {Γ : Env} {C : Ctx} {a : Act} {w : World}

theorem isVar_spec {A : St} {s : Nat} (h : isVar A s = true) : ∃ T t x, A.site s = .var T t x := by
  unfold isVar at h
  split at h
  · rename_i T t x e; exact ⟨T, t, x, e⟩
  · cases h

def blks (G : Nat → GS) (N : List Nat) : List Nat := N.map fun s => (G s).blk

theorem blks_get {G : Nat → GS} {N : List Nat} {j s : Nat} (h : N[j]? = some s) : (blks G N)[j]? = some (G s).blk := by simp [blks, h]

theorem ptr_blk {A : St} {G : Nat → GS} {S : Nat → Prop} {s : Nat} {v : Value} (hv : isVar A s = true) (h : SVr w S A.site G (.ptr s []) v) : v = .pointer (some ⟨(G s).blk, 0, none⟩) := by
  obtain ⟨T, t, x, e⟩ := isVar_spec hv
  obtain ⟨t', cs', b, o, hAt, rfl⟩ := SVr_ptr.1 h
  rw [e] at hAt
  obtain ⟨_, _, hl⟩ := At_nil hAt rfl
  simp only [Option.map_some, Option.some.injEq, Prod.mk.injEq] at hl
  obtain ⟨rfl, rfl⟩ := hl
  rfl

/-- More sites go along. -/
def Ext (A : St) (N N' : List Nat) (T : Nat → Bool) : Prop := (∃ M, N' = N ++ M ∧ ∀ s ∈ M, isVar A s = true ∧ T s = true) ∧ (N.Nodup → N'.Nodup)
theorem Ext.refl (A : St) (N : List Nat) (T : Nat → Bool) : Ext A N N T := ⟨⟨[], by simp, by simp⟩, id⟩
theorem Ext.trans {A : St} {N N' N'' : List Nat} {T : Nat → Bool} (h : Ext A N N' T) (k : Ext A N' N'' T) : Ext A N N'' T := by
  obtain ⟨⟨M, rfl, h1⟩, h2⟩ := h
  obtain ⟨⟨M', rfl, k1⟩, k2⟩ := k
  refine ⟨⟨M ++ M', by simp, fun s hs => ?_⟩, fun hn => k2 (h2 hn)⟩
  rcases List.mem_append.1 hs with hs | hs
  · exact h1 s hs
  · exact k1 s hs
theorem Ext.add {A : St} {s : Nat} {N : List Nat} {T : Nat → Bool} (hv : isVar A s = true) (hT : T s = true) : Ext A N (addSite s N).2 T := by
  obtain ⟨_, ⟨M, h1, h2⟩, h3⟩ := addSite_spec s N
  exact ⟨⟨M, h1, fun x hx => by rw [h2 x hx]; exact ⟨hv, hT⟩⟩, h3⟩
theorem Ext.get {A : St} {N N' : List Nat} {T : Nat → Bool} (h : Ext A N N' T) {j s : Nat} (hj : N[j]? = some s) : N'[j]? = some s := by
  obtain ⟨⟨M, rfl, _⟩, _⟩ := h
  rw [List.getElem?_append_left (List.getElem?_eq_some_iff.1 hj).1]; exact hj

theorem giveCaps_sound {A : St} {G : Nat → GS} {L : List Nat} {T : Nat → Bool} (h : RelG C A a w G L) : ∀ (caps : SV) {N : List Nat} {l : List Cap} {N' : List Nat} {vs : List Value},
    (∀ s, T s = false → caps.names s = false) → giveCaps A caps N = some (l, N') → SL w (Sof C w G L) A.site G caps vs → Ext A N N' T ∧ ∀ N'', Ext A N' N'' T → CapsR w (Sof C w G L) (blks G N'') l vs := by
  intro caps
  induction caps with
  | tnil =>
    intro N l N' vs hT hg hs
    simp only [giveCaps, Option.some.injEq, Prod.mk.injEq] at hg
    obtain ⟨rfl, rfl⟩ := hg
    simp only [SL] at hs
    exact ⟨Ext.refl _ _ _, fun _ _ => hs⟩
  | tcons b r ihb ih =>
    clear ihb
    intro N l N' vs hT hg hs
    simp only [SL] at hs
    obtain ⟨v, vs', rfl, hb, hr⟩ := hs
    have hTr : ∀ s, T s = false → r.names s = false := fun s hs => by have := hT s hs; simp only [SV.names, Bool.or_eq_false_iff] at this; exact this.2
    unfold giveCaps at hg
    split at hg
    · rename_i t x
      split at hg
      · rename_i l' N1 e
        simp only [Option.some.injEq, Prod.mk.injEq] at hg
        obtain ⟨rfl, rfl⟩ := hg
        obtain ⟨h1, h2⟩ := ih hTr e hr
        refine ⟨h1, fun N'' hN => ?_⟩
        simp only [CapsR]
        exact ⟨v, vs', rfl, by simpa only [CapR] using (by obtain ⟨cs, q1, q2⟩ := SVr_valR.1 (show SVr w (Sof C w G L) A.site G (.val t x) v from hb); exact ⟨cs, q2, q1⟩), h2 N'' hN⟩
      · cases hg
    · rename_i s
      split at hg
      rotate_left
      · cases hg
      rename_i hv
      split at hg
      · rename_i l' N1 e
        simp only [Option.some.injEq, Prod.mk.injEq] at hg
        obtain ⟨rfl, rfl⟩ := hg
        obtain ⟨h1, h2⟩ := ih hTr e hr
        have hTs : T s = true := by
          cases e : T s with
          | true => rfl
          | false => have := hT s e; simp [SV.names] at this
        refine ⟨(Ext.add hv hTs).trans h1, fun N'' hN => ?_⟩
        simp only [CapsR]
        refine ⟨v, vs', rfl, ?_, h2 N'' hN⟩
        have := (h1.trans hN).get (addSite_spec s N).1
        simp only [CapR]
        exact ⟨_, blks_get this, ptr_blk hv hb⟩
      · cases hg
    · cases hg
  | dead => intro N l N' vs hT hg hs; simp [giveCaps] at hg
  | val t x => intro N l N' vs hT hg hs; simp [giveCaps] at hg
  | pr a b _ _ => intro N l N' vs hT hg hs; simp [giveCaps] at hg
  | ref s p => intro N l N' vs hT hg hs; simp [giveCaps] at hg
  | ptr s p => intro N l N' vs hT hg hs; simp [giveCaps] at hg
  | ro t x => intro N l N' vs hT hg hs; simp [giveCaps] at hg
  | nilp => intro N l N' vs hT hg hs; simp [giveCaps] at hg
  | fn f c _ => intro N l N' vs hT hg hs; simp [giveCaps] at hg

theorem capArgs_sound {S : Nat → Prop} {vb : List Nat} : ∀ (l : List Cap) (vs : List Value), CapsR w S vb l vs → ArgsR w S vb (capArgs l) vs []
  | [], vs, h => by simp only [CapsR] at h; subst h; simp [capArgs, ArgsR]
  | .v t x :: l, vs, h => by
    simp only [CapsR] at h
    obtain ⟨v, vs', rfl, hc, hr⟩ := h
    simp only [capArgs, ArgsR]
    exact ⟨v, vs', [], [], rfl, rfl, by simpa only [ArgR, CapR] using hc, capArgs_sound l vs' hr⟩
  | .p j :: l, vs, h => by
    simp only [CapsR] at h
    obtain ⟨v, vs', rfl, hc, hr⟩ := h
    simp only [capArgs, ArgsR]
    exact ⟨v, vs', [], [], rfl, rfl, by simp only [ArgR]; exact ⟨by first | rfl | trivial, by simpa only [CapR] using hc⟩, capArgs_sound l vs' hr⟩

theorem ArgR_frame {S S' : Nat → Prop} {vb vb' : List Nat} (hS : ∀ b, S b → S' b) (hvb : ∀ (j b : Nat), vb[j]? = some b → vb'[j]? = some b) : ∀ (arg : CArg) v F, ArgR w S vb arg v F → ArgR w S' vb' arg v F := by
  intro arg v F h
  cases arg with
  | v t x => simp only [ArgR] at h ⊢; obtain ⟨cs, h1, h2⟩ := h; exact ⟨cs, h1, R_frame (fun b hb => ⟨hS b hb, rfl⟩) _ _ _ _ (fun _ _ => rfl) h2⟩
  | p j => simp only [ArgR] at h ⊢; obtain ⟨h1, b, h2, h3⟩ := h; exact ⟨h1, b, hvb j b h2, h3⟩
  | nilp => simpa only [ArgR] using h
  | fn f caps =>
    simp only [ArgR] at h ⊢
    obtain ⟨h1, vs, h2, h3⟩ := h
    refine ⟨h1, vs, h2, ?_⟩
    clear h2
    induction caps generalizing vs with
    | nil => simpa only [CapsR] using h3
    | cons c cs ih =>
      simp only [CapsR] at h3 ⊢
      obtain ⟨v, vs', e, h4, h5⟩ := h3
      refine ⟨v, vs', e, ?_, ih vs' h5⟩
      cases c with
      | v t x => simp only [CapR] at h4 ⊢; obtain ⟨cs, h1, h2⟩ := h4; exact ⟨cs, h1, R_frame (fun b hb => ⟨hS b hb, rfl⟩) _ _ _ _ (fun _ _ => rfl) h2⟩
      | p j => simp only [CapR] at h4 ⊢; obtain ⟨b, h2, h3⟩ := h4; exact ⟨b, hvb j b h2, h3⟩

theorem Ext_blks {A : St} {G : Nat → GS} {N N' : List Nat} {T : Nat → Bool} (h : Ext A N N' T) (j b : Nat) (hj : (blks G N)[j]? = some b) : (blks G N')[j]? = some b := by
  obtain ⟨⟨M, rfl, _⟩, _⟩ := h
  have : blks G (N ++ M) = blks G N ++ blks G M := by simp [blks]
  rw [this, List.getElem?_append_left (List.getElem?_eq_some_iff.1 hj).1]; exact hj

theorem give_sound {A A1 : St} {G : Nat → GS} {L : List Nat} {T : Nat → Bool} {m : PM} {sv : SV} {v : Value} {N N1 : List Nat} {arg : CArg} (h : RelG C A a w G L) (hv : SVr w (Sof C w G L) A.site G sv v) (hT : ∀ s, T s = false → sv.names s = false)
    (hN : ∀ s ∈ N, isVar A s = true) (hg : give m sv A N = some (arg, A1, N1)) :
    ∃ G1 F, RelG C A1 a w G1 (L ++ F) ∧ ArgR w (Sof C w G1 (L ++ F)) (blks G1 N1) arg v F ∧ (∀ b, Sof C w G L b → Sof C w G1 (L ++ F) b) ∧ Frm w w A A1 G G1 T ∧ Sub A A1 ∧ Ext A1 N N1 T ∧ (∀ s ∈ N1, isVar A1 s = true) ∧ blks G1 N = blks G N := by
  unfold give at hg
  split at hg
  · rename_i t
    split at hg
    · cases hg
    rename_i hno
    split at hg
    rotate_left
    · cases hg
    rename_i t0 x A2 htk
    split at hg
    rotate_left
    · cases hg
    rename_i y hc
    simp only [Option.some.injEq, Prod.mk.injEq] at hg
    obtain ⟨rfl, rfl, rfl⟩ := hg
    obtain ⟨cs, hvv, G1, F, k1, k2, k3, _, k5⟩ := taken_value htk h hv
    have k2 : R w (Sof C w G1 (L ++ F)) t0 x cs F := k2
    obtain ⟨F', j1, j2, j3, _⟩ := coe_sound k1 k2 hc
    have hNs : ∀ s ∈ N, A2.site s = A.site s ∧ G1 s = G s := by
      intro s hs
      obtain ⟨T', t', x', e⟩ := isVar_spec (hN s hs)
      have hns : sv.names s = false := by
        cases e : sv.names s with
        | false => rfl
        | true => exact absurd (List.any_eq_true.2 ⟨s, hs, e⟩) (by simpa using hno)
      obtain ⟨q1, q2, _⟩ := k5 s hns (by rw [e]; simp)
      exact ⟨q1, q2⟩
    refine ⟨G1, F', j1, ?_, fun b hb => (j3 b (k3 b hb)).1, k5.mono hT, take_sub _ htk, Ext.refl _ _ _, fun s hs => by have := hN s hs; unfold isVar at this ⊢; rw [(hNs s hs).1]; exact this, ?_⟩
    · simp only [ArgR]
      exact ⟨cs, by rw [hvv, (coeV_agg _ _ _ _ hc).1], j2⟩
    · unfold blks; exact List.map_congr_left fun s hs => by rw [(hNs s hs).2]
  · split at hg
    · simp only [Option.some.injEq, Prod.mk.injEq] at hg
      obtain ⟨rfl, rfl, rfl⟩ := hg
      exact ⟨G, [], by simpa using h, by simp only [ArgR]; exact ⟨by first | rfl | trivial, SVr_nilp.1 hv⟩, fun b hb => by simpa using hb, Frm.refl _ _ _ _, Sub.refl _, Ext.refl _ _ _, hN, rfl⟩
    · rename_i s
      split at hg
      rotate_left
      · cases hg
      rename_i hvar
      simp only [Option.some.injEq, Prod.mk.injEq] at hg
      obtain ⟨rfl, rfl, rfl⟩ := hg
      have hTs : T s = true := by
        cases e : T s with
        | true => rfl
        | false => have := hT s e; simp [SV.names] at this
      have hE : Ext A N (addSite s N).2 T := Ext.add hvar hTs
      refine ⟨G, [], by simpa using h, ?_, fun b hb => by simpa using hb, Frm.refl _ _ _ _, Sub.refl _, hE, fun x hx => ?_, rfl⟩
      · simp only [ArgR]
        exact ⟨by first | rfl | trivial, _, blks_get (addSite_spec s N).1, ptr_blk hvar hv⟩
      · obtain ⟨⟨M, e, hM⟩, _⟩ := hE
        rw [e] at hx
        rcases List.mem_append.1 hx with hx | hx
        · exact hN x hx
        · exact (hM x hx).1
    · rename_i f caps
      split at hg
      rotate_left
      · cases hg
      rename_i l N' e
      simp only [Option.some.injEq, Prod.mk.injEq] at hg
      obtain ⟨rfl, rfl, rfl⟩ := hg
      obtain ⟨cs, hv1, rfl⟩ := hv
      simp only [SC] at hv1
      obtain ⟨vs, rfl, hsl⟩ := hv1
      obtain ⟨hE, hcr⟩ := giveCaps_sound (T := T) h caps (fun s hs => by simpa [SV.names] using hT s hs) e hsl
      refine ⟨G, [], by simpa using h, ?_, fun b hb => by simpa using hb, Frm.refl _ _ _ _, Sub.refl _, hE, fun x hx => ?_, rfl⟩
      · simp only [ArgR]
        refine ⟨by first | rfl | trivial, vs, rfl, ?_⟩
        rw [List.append_nil]
        exact hcr _ (Ext.refl _ _ _)
      · obtain ⟨⟨M, e, hM⟩, _⟩ := hE
        rw [e] at hx
        rcases List.mem_append.1 hx with hx | hx
        · exact hN x hx
        · exact (hM x hx).1
    · cases hg
end
end Go.Am
/- Am, part 25: all arguments; the variables that go along. -/
set_option linter.unusedVariables false
set_option linter.unusedSimpArgs false
namespace Go.Am

section
variable {P : Program} {Γ : Env} {C : Ctx} {a : Act} {w : World}

theorem ArgsR_frame {S S' : Nat → Prop} {vb vb' : List Nat} (hS : ∀ b, S b → S' b) (hvb : ∀ (j b : Nat), vb[j]? = some b → vb'[j]? = some b) : ∀ (args : List CArg) vs F, ArgsR w S vb args vs F → ArgsR w S' vb' args vs F
  | [], vs, F, h => by simpa only [ArgsR] using h
  | x :: xs, vs, F, h => by
    simp only [ArgsR] at h ⊢
    obtain ⟨v, vs', F1, F2, h1, h2, h3, h4⟩ := h
    exact ⟨v, vs', F1, F2, h1, h2, ArgR_frame hS hvb _ _ _ h3, ArgsR_frame hS hvb xs vs' F2 h4⟩

theorem ArgsR_append {S : Nat → Prop} {vb : List Nat} : ∀ (l m : List CArg) vs ws F F', ArgsR w S vb l vs F → ArgsR w S vb m ws F' → ArgsR w S vb (l ++ m) (vs ++ ws) (F ++ F')
  | [], m, vs, ws, F, F', h, k => by simp only [ArgsR] at h; obtain ⟨rfl, rfl⟩ := h; simpa using k
  | x :: l, m, vs, ws, F, F', h, k => by
    simp only [ArgsR] at h
    obtain ⟨v, vs', F1, F2, rfl, rfl, h3, h4⟩ := h
    simp only [List.cons_append, ArgsR]
    exact ⟨v, vs' ++ ws, F1, F2 ++ F', rfl, by simp, h3, ArgsR_append l m vs' ws F2 F' h4 k⟩

theorem isVar_of {A A1 : St} {G G1 : Nat → GS} {w' : World} {T : Nat → Bool} (h : Frm w w' A A1 G G1 T) {s : Nat} (hv : isVar A s = true) (hT : T s = false) : isVar A1 s = true ∧ G1 s = G s := by
  obtain ⟨T', t', x', e⟩ := isVar_spec hv
  obtain ⟨q1, q2, _⟩ := h s hT (by rw [e]; simp)
  exact ⟨by unfold isVar at hv ⊢; rw [q1]; exact hv, q2⟩

theorem giveAll_sound {T : Nat → Bool} : ∀ (xs : List (Operand × TypeId)) (ms : List PM) {A A1 : St} {G : Nat → GS} {L : List Nat} {N N1 : List Nat} {args : List CArg},
    RelG C A a w G L → (∀ x ∈ xs, ∀ s, T s = false → (opd Γ x.2 A x.1).names s = false) → (∀ s ∈ N, isVar A s = true) → giveAll Γ ms xs A N = some (args, A1, N1) →
    ∃ G1 F, RelG C A1 a w G1 (L ++ F) ∧ ArgsR w (Sof C w G1 (L ++ F)) (blks G1 N1) args (xs.map fun x => a.eval x.1) F ∧ (∀ b, Sof C w G L b → Sof C w G1 (L ++ F) b) ∧ Frm w w A A1 G G1 T ∧ Sub A A1 ∧ ((∃ M, N1 = N ++ M ∧ ∀ s ∈ M, T s = true) ∧ (N.Nodup → N1.Nodup)) ∧ (∀ s ∈ N1, isVar A1 s = true) ∧ blks G1 N = blks G N
  | [], ms, A, A1, G, L, N, N1, args, h, hT, hN, hg => by
    have hg' : some (([] : List CArg), A, N) = some (args, A1, N1) := by
      rw [← hg]; cases ms <;> rfl
    simp only [Option.some.injEq, Prod.mk.injEq] at hg'
    obtain ⟨rfl, rfl, rfl⟩ := hg'
    exact ⟨G, [], by simpa using h, by simp [ArgsR], fun b hb => by simpa using hb, Frm.refl _ _ _ _, Sub.refl _, ⟨⟨[], by simp, by simp⟩, id⟩, hN, rfl⟩
  | x :: xs, [], A, A1, G, L, N, N1, args, h, hT, hN, hg => by simp [giveAll] at hg
  | x :: xs, m :: ms, A, A1, G, L, N, N1, args, h, hT, hN, hg => by
    rw [giveAll] at hg
    split at hg
    rotate_left
    · cases hg
    rename_i arg A2 N2 e1
    split at hg
    rotate_left
    · cases hg
    rename_i l A3 N3 e2
    simp only [Option.some.injEq, Prod.mk.injEq] at hg
    obtain ⟨rfl, rfl, rfl⟩ := hg
    obtain ⟨G2, F2, k1, k2, k3, k4, k5, k6, k7, k8⟩ := give_sound (T := T) h (opd_sound Γ x.2 h x.1) (hT x (by simp)) hN e1
    obtain ⟨G3, F3, j1, j2, j3, j4, j5, j6, j7, j8⟩ := giveAll_sound (T := T) xs ms k1 (fun y hy s hs => opd_sub k5 _ _ _ (hT y (by simp [hy]) s hs)) k7 e2
    refine ⟨G3, F2 ++ F3, by rw [← List.append_assoc]; exact j1, ?_, fun b hb => by rw [← List.append_assoc]; exact j3 b (k3 b hb), k4.trans j4, k5.trans j5, ?_, j7, ?_⟩
    · rw [← List.append_assoc]
      simp only [List.map_cons, ArgsR]
      refine ⟨_, _, F2, F3, rfl, rfl, ArgR_frame (fun b hb => j3 b hb) (fun i b hb => ?_) _ _ _ k2, j2⟩
      obtain ⟨⟨M, e, _⟩, _⟩ := j6
      have e2 : blks G3 (N2 ++ M) = blks G3 N2 ++ blks G3 M := by simp [blks]
      rw [← j8] at hb
      rw [e, e2, List.getElem?_append_left (List.getElem?_eq_some_iff.1 hb).1]; exact hb
    · obtain ⟨⟨M, e3, hM⟩, hn⟩ := k6
      obtain ⟨⟨M', e4, hM'⟩, hn'⟩ := j6
      refine ⟨⟨M ++ M', by rw [e4, e3]; simp, fun s hs => ?_⟩, fun hn0 => hn' (hn hn0)⟩
      rcases List.mem_append.1 hs with hs | hs
      · exact (hM s hs).2
      · exact hM' s hs
    · obtain ⟨⟨M, e3, hM⟩, hn⟩ := k6
      have : blks G3 (N ++ M) = blks G2 (N ++ M) := by rw [← e3]; exact j8
      have e5 : blks G3 N = blks G2 N := by
        simp only [blks, List.map_append] at this
        exact (List.append_inj this (by simp)).1
      rw [e5, k8]

/-- The variables, read. -/
theorem readVars_sound {A : St} {G : Nat → GS} {S : Nat → Prop} (hs : ∀ s, SiteR w S (A.site s) (G s)) : ∀ (N : List Nat) {V : List CVar}, readVars A N = some V → VarsR w S V (blks G N) (N.flatMap fun s => (G s).F)
  | [], V, h => by simp only [readVars, Option.some.injEq] at h; subst h; simp [VarsR, blks]
  | s :: N, V, h => by
    rw [readVars] at h
    split at h
    · rename_i T t x l e1 e2
      simp only [Option.some.injEq] at h
      subst h
      have := hs s
      rw [e1] at this
      obtain ⟨F', h1, h2, h3⟩ := this
      simp only [VarsR]
      refine ⟨(G s).blk, blks G N, (G s).F, N.flatMap fun s => (G s).F, by simp [blks], by simp, ?_, readVars_sound hs N e2⟩
      exact ⟨(G s).cs, F', h1, h2, h3⟩
    · cases h

/-- The memory of the sites N afterwards. -/
def backG (G : Nat → GS) : List Nat → List GS → Nat → GS
  | s :: ss, g :: gs, s' => if s' = s then g else backG G ss gs s'
  | _, _, s' => G s'

theorem backG_other (G : Nat → GS) : ∀ (N : List Nat) (gs : List GS) (s : Nat), s ∉ N → backG G N gs s = G s
  | [], _, _, _ => by simp [backG]
  | n :: N, [], _, _ => by simp [backG]
  | n :: N, g :: gs, s, h => by
    simp only [List.mem_cons, not_or] at h
    simp only [backG, if_neg h.1]; exact backG_other G N gs s h.2

/-- What comes back of the variables, site by site. -/
theorem VarsR_sites {S : Nat → Prop} : ∀ (V : List CVar) (vb F : List Nat), VarsR w S V vb F → ∃ gs : List GS, gs.length = vb.length ∧ F = gs.flatMap (·.F) ∧ gs.map (·.blk) = vb ∧ V.length = vb.length ∧
    ∀ (i : Nat) (c : CVar) (g : GS), V[i]? = some c → gs[i]? = some g → SiteR w S (.var c.T c.t c.x) g
  | [], vb, F, h => by
    simp only [VarsR] at h
    obtain ⟨rfl, rfl⟩ := h
    exact ⟨[], rfl, rfl, rfl, rfl, by simp⟩
  | c :: V, vb, F, h => by
    simp only [VarsR] at h
    obtain ⟨b, bs, F1, F2, rfl, rfl, ⟨cs, F', rfl, h1, h2⟩, h3⟩ := h
    obtain ⟨gs, k1, k2, k3, k4, k5⟩ := VarsR_sites V bs F2 h3
    refine ⟨⟨cs, b :: F', b⟩ :: gs, by simp [k1], by simp [← k2], by simp [k3], by simp [k4], fun i c' g hc hg => ?_⟩
    cases i with
    | zero =>
      simp only [List.getElem?_cons_zero, Option.some.injEq] at hc hg
      subst hc; subst hg
      exact ⟨F', rfl, h1, h2⟩
    | succ i => exact k5 i c' g (by simpa using hc) (by simpa using hg)
end
end Go.Am
/- Am, part 26: what comes back of a call. -/
set_option linter.unusedVariables false
set_option linter.unusedSimpArgs false
namespace Go.Am

theorem slot_kill (A : St) (k : SV → Bool) (hk : k .dead = false) (i : Nat) : (St.slot { A with slots := A.slots.map fun v => if k v then .dead else v } i) = if k (A.slot i) then .dead else A.slot i := by
  have := slot_map A (fun v => if k v then .dead else v) (by simp [hk]) i
  exact this

theorem every_and {P Q : Bool → Nat → Path → Prop} : ∀ v : SV, v.every P → v.every Q → v.every fun r s p => P r s p ∧ Q r s p
  | .ref s p, h, k => ⟨h, k⟩
  | .ptr s p, h, k => ⟨h, k⟩
  | .pr a b, h, k => ⟨every_and a h.1 k.1, every_and b h.2 k.2⟩
  | .tcons a b, h, k => ⟨every_and a h.1 k.1, every_and b h.2 k.2⟩
  | .fn _ c, h, k => every_and c h k
  | .dead, _, _ => trivial
  | .val _ _, _, _ => trivial
  | .ro _ _, _, _ => trivial
  | .nilp, _, _ => trivial
  | .tnil, _, _ => trivial
theorem every_all {P : Bool → Nat → Path → Prop} (h : ∀ r s p, P r s p) : ∀ v : SV, v.every P
  | .ref s p => h _ _ _
  | .ptr s p => h _ _ _
  | .pr a b => ⟨every_all h a, every_all h b⟩
  | .tcons a b => ⟨every_all h a, every_all h b⟩
  | .fn _ c => every_all h c
  | .dead => trivial
  | .val _ _ => trivial
  | .ro _ _ => trivial
  | .nilp => trivial
  | .tnil => trivial

theorem giveBack_spec : ∀ (N : List Nat) (V : List CVar) (A A2 : St), N.Nodup → giveBack N V A = some A2 →
    N.length = V.length ∧ (∀ s, s ∉ N → A2.site s = A.site s) ∧ A2.slots.length = A.slots.length ∧
    (∀ (i s : Nat) (c : CVar), N[i]? = some s → V[i]? = some c → A2.site s = .var c.T c.t c.x ∧ ∃ t x, A.site s = .var c.T t x ∧ cells t = cells c.t ∧ isAgg t = isAgg c.t) ∧
    (∀ j, A2.slot j = .dead ∨ (A2.slot j = A.slot j ∧ (A.slot j).every fun r s' q => ∀ (i : Nat) (c : CVar) (T' : TypeId) (t : Ty) (x : Val t), N[i]? = some s' → V[i]? = some c → A.site s' = .var T' t x → (t = c.t ∧ noOwn t = true) ∨ (r = false ∧ q = [])))
  | [], [], A, A2, hn, h => by
    simp only [giveBack, Option.some.injEq] at h
    subst h
    exact ⟨rfl, fun _ _ => rfl, rfl, by simp, fun j => .inr ⟨rfl, every_all (by simp) _⟩⟩
  | [], _ :: _, A, A2, hn, h => by simp [giveBack] at h
  | _ :: _, [], A, A2, hn, h => by simp [giveBack] at h
  | s0 :: N, c0 :: V, A, A2, hn, h => by
    rw [giveBack] at h
    split at h
    rotate_left
    · cases h
    rename_i T t x e
    split at h
    rotate_left
    · cases h
    rename_i hTT
    subst hTT
    split at h
    rotate_left
    · cases h
    rename_i hc
    obtain ⟨hn1, hn2⟩ := List.nodup_cons.1 hn
    generalize hA1 : (if t = c0.t ∧ noOwn t = true then A.setSite s0 (.var c0.T c0.t c0.x) else (A.setSite s0 (.var c0.T c0.t c0.x)).killBelow s0 []) = A1 at h
    obtain ⟨h1, h2, h3, h4, h5⟩ := giveBack_spec N V A1 A2 hn2 h
    have hs1 : ∀ s, A1.site s = if s = s0 then .var c0.T c0.t c0.x else A.site s := by
      intro s
      rw [← hA1]
      split <;> exact site_setSite _ _ _ _
    have hl1 : A1.slots.length = A.slots.length := by
      rw [← hA1]
      split
      · rfl
      · simp [St.killBelow]
    have hk1 : ∀ j, A1.slot j = .dead ∨ (A1.slot j = A.slot j ∧ (A.slot j).every fun r s' q => s' = s0 → (t = c0.t ∧ noOwn t = true) ∨ (r = false ∧ q = [])) := by
      intro j
      rw [← hA1]
      split
      · rename_i hh
        exact .inr ⟨rfl, every_all (fun _ _ _ _ => .inl hh) _⟩
      · have := slot_kill (A.setSite s0 (.var c0.T c0.t c0.x)) (fun v => v.beneath s0 []) rfl j
        rw [slots_setSite, slot_setSite] at this
        have e2 : ((A.setSite s0 (.var c0.T c0.t c0.x)).killBelow s0 []).slot j = if (A.slot j).beneath s0 [] then .dead else A.slot j := this
        rw [e2]
        split
        · exact .inl rfl
        · rename_i hb
          refine .inr ⟨rfl, every_mono (fun r s' q hq hs => ?_) _ (beneath_every (s := s0) (p := []) _ (by simpa using hb))⟩
          rcases hq hs with hq | hq
          · exact .inr hq
          · simp [shapePre] at hq
    refine ⟨by simp [h1], fun s hs => ?_, by rw [h3, hl1], fun i s c hi hcv => ?_, fun j => ?_⟩
    · simp only [List.mem_cons, not_or] at hs
      rw [h2 s hs.2, hs1, if_neg hs.1]
    · cases i with
      | zero =>
        simp only [List.getElem?_cons_zero, Option.some.injEq] at hi hcv
        subst hi; subst hcv
        refine ⟨by rw [h2 _ hn1, hs1, if_pos rfl], t, x, e, hc.1, hc.2⟩
      | succ i =>
        have hi' : N[i]? = some s := by simpa using hi
        have hne : s ≠ s0 := by rintro rfl; exact hn1 (List.mem_of_getElem? hi')
        obtain ⟨q1, t', x', q2, q3⟩ := h4 i s c hi' (by simpa using hcv)
        rw [hs1, if_neg hne] at q2
        exact ⟨q1, t', x', q2, q3⟩
    · rcases h5 j with e2 | ⟨e2, hev⟩
      · exact .inl e2
      · rcases hk1 j with e3 | ⟨e3, hev1⟩
        · exact .inl (e2.trans e3)
        · rw [e3] at hev e2
          refine .inr ⟨e2, every_mono (fun r s' q hq i c T' t' x' hi hcv hst => ?_) _ (every_and _ hev hev1)⟩
          cases i with
          | zero =>
            simp only [List.getElem?_cons_zero, Option.some.injEq] at hi hcv
            subst hi; subst hcv
            rw [e] at hst
            simp only [Site.var.injEq] at hst
            obtain ⟨_, rfl, _⟩ := hst
            exact hq.2 rfl
          | succ i =>
            have hi' : N[i]? = some s' := by simpa using hi
            have hne : s' ≠ s0 := by rintro rfl; exact hn1 (List.mem_of_getElem? hi')
            exact hq.1 i c T' t' x' hi' (by simpa using hcv) (by rw [hs1, if_neg hne]; exact hst)

theorem At_noOwn {w : World} {t cs loc p t' cs' loc'} (h : At w t cs loc p t' cs' loc') (hn : noOwn t = true) : ∃ o, offs t p = some (o, t') ∧ loc' = loc.map (fun q => (q.1, q.2 + o)) ∧ noOwn t' = true := by
  cases h with
  | plain h => exact ⟨_, h, rfl, offs_noOwn _ _ _ _ h hn⟩
  | own h hc hb hi hq => have := offs_noOwn _ _ _ _ h hn; simp [noOwn] at this

theorem backG_at (G : Nat → GS) : ∀ (N : List Nat) (gs : List GS) (i s : Nat) (g : GS), N.Nodup → N[i]? = some s → gs[i]? = some g → backG G N gs s = g
  | [], _, i, s, g, _, h, _ => by simp at h
  | n :: N, [], i, s, g, _, _, h => by simp at h
  | n :: N, g0 :: gs, 0, s, g, hn, h, k => by
    simp only [List.getElem?_cons_zero, Option.some.injEq] at h k
    subst h; subst k; simp [backG]
  | n :: N, g0 :: gs, i + 1, s, g, hn, h, k => by
    have h' : N[i]? = some s := by simpa using h
    have hne : s ≠ n := by rintro rfl; exact (List.nodup_cons.1 hn).1 (List.mem_of_getElem? h')
    simp only [backG, if_neg hne]
    exact backG_at G N gs i s g (List.nodup_cons.1 hn).2 h' (by simpa using k)

theorem flat_apart {gs : List GS} (hn : (gs.flatMap (·.F)).Nodup) : ∀ (i j : Nat) (g g' : GS), gs[i]? = some g → gs[j]? = some g' → i ≠ j → ∀ b ∈ g.F, b ∉ g'.F := by
  induction gs with
  | nil => intro i j g g' h; simp at h
  | cons g0 gs ih =>
    intro i j g g' hi hj hne b hb hb'
    simp only [List.flatMap_cons] at hn
    have hn' := List.nodup_append.1 hn
    cases i with
    | zero =>
      cases j with
      | zero => exact hne rfl
      | succ j =>
        simp only [List.getElem?_cons_zero, Option.some.injEq] at hi
        subst hi
        exact hn'.2.2 b hb b (List.mem_flatMap.2 ⟨g', List.mem_of_getElem? (by simpa using hj), hb'⟩) rfl
    | succ i =>
      cases j with
      | zero =>
        simp only [List.getElem?_cons_zero, Option.some.injEq] at hj
        subst hj
        exact hn'.2.2 b hb' b (List.mem_flatMap.2 ⟨g, List.mem_of_getElem? (by simpa using hi), hb⟩) rfl
      | succ j => exact ih hn'.2.1 i j g g' (by simpa using hi) (by simpa using hj) (by omega) b hb hb'
end Go.Am
