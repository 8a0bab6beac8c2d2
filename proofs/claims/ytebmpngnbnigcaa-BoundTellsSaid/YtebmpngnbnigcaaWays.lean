/- Ways: a step goes on to a cut, or gives; which, need not be said. -/
import Derived.Test.YtebmpngnbnigcaaCfgA
set_option linter.unusedVariables false
namespace Go.Am
section
variable {P R : Type} {Q : P → Prop} {Y : R → Prop}
/-- What is done goes on at a cut of Q, or gives a value of Y. -/
def Way (Q : P → Prop) (Y : R → Prop) (e : (P → Option R) → Option R) : Prop := (∃ q, Q q ∧ ∀ k, e k = k q) ∨ ∃ y, Y y ∧ ∀ k, e k = some y
theorem way_k {q : P} (h : Q q) : Way Q Y fun k => k q := .inl ⟨q, h, fun _ => rfl⟩
theorem way_r {y : R} (h : Y y) : Way Q Y fun _ => some y := .inr ⟨y, h, fun _ => rfl⟩
theorem way_cond {b : Bool} {e1 e2 : (P → Option R) → Option R} (h1 : b = true → Way Q Y e1) (h2 : b = false → Way Q Y e2) : Way Q Y fun k => cond b (e1 k) (e2 k) := by
  cases b with
  | true => exact h1 rfl
  | false => exact h2 rfl
theorem way_true {e1 e2 : (P → Option R) → Option R} (h1 : Way Q Y e1) : Way Q Y fun k => cond true (e1 k) (e2 k) := h1
theorem way_false {e1 e2 : (P → Option R) → Option R} (h1 : Way Q Y e2) : Way Q Y fun k => cond false (e1 k) (e2 k) := h1
theorem way_pos {c : Prop} [Decidable c] {e1 e2 : (P → Option R) → Option R} (h : c) (h1 : Way Q Y e1) : Way Q Y fun k => if c then e1 k else e2 k := by
  have : (fun k => if c then e1 k else e2 k) = e1 := funext fun k => if_pos h
  rw [this]; exact h1
theorem way_neg {c : Prop} [Decidable c] {e1 e2 : (P → Option R) → Option R} (h : ¬ c) (h1 : Way Q Y e2) : Way Q Y fun k => if c then e1 k else e2 k := by
  have : (fun k => if c then e1 k else e2 k) = e2 := funext fun k => if_neg h
  rw [this]; exact h1
/-- A step that goes some way. -/
def EvW (t : Nat → Steps P R) (p : P) (Q : P → Prop) (Y : R → Prop) : Prop := (∃ q, Q q ∧ EvL t p q) ∨ ∃ y, Y y ∧ EvG t p y
variable {t : Nat → Steps P R} {p q : P}
theorem EvW.of {A : Nat → Prop} (h : Ev A) {e : (P → Option R) → Option R} (he : ∀ n, A n → ∀ k, t n R p k some = e k) (w : Way Q Y e) : EvW t p Q Y := by
  rcases w with ⟨q, h1, h2⟩ | ⟨y, h1, h2⟩
  · exact .inl ⟨q, h1, EvL.of h fun n f hn => by rw [flow_succ, he n hn, h2]⟩
  · exact .inr ⟨y, h1, EvG.of h fun n f hn => by rw [flow_succ, he n hn, h2]⟩
theorem EvW.one {e : (P → Option R) → Option R} (he : ∀ n k, t n R p k some = e k) (w : Way Q Y e) : EvW t p Q Y := EvW.of (A := fun _ => True) (Ev.all fun _ => trivial) (fun n _ => he n) w
theorem EvW.from (h : EvL t p q) (w : EvW t q Q Y) : EvW t p Q Y := by
  rcases w with ⟨q, h1, h2⟩ | ⟨y, h1, h2⟩
  · exact .inl ⟨q, h1, h.trans h2⟩
  · exact .inr ⟨y, h1, h.gives h2⟩
theorem EvW.then {Q' : P → Prop} (w : EvW t p Q' Y) (h : ∀ q, Q' q → EvW t q Q Y) : EvW t p Q Y := by
  rcases w with ⟨q, h1, h2⟩ | ⟨y, h1, h2⟩
  · exact EvW.from h2 (h q h1)
  · exact .inr ⟨y, h1, h2⟩
theorem EvW.at (h : Q p) : EvW t p Q Y := .inl ⟨p, h, EvL.refl⟩
theorem EvW.gives (w : EvW t p (fun _ => False) Y) : ∃ y, Y y ∧ EvG t p y := by
  rcases w with ⟨q, h1, _⟩ | h
  · exact h1.elim
  · exact h
/-- Rounds. -/
theorem EvW.rounds (head : Nat → P) (N : Nat) (step : ∀ i, i < N → EvW t (head i) (· = head (i + 1)) Y) (last : EvW t (head N) Q Y) : ∀ (k i : Nat), i + k = N → EvW t (head i) Q Y
  | 0, i, e => by
    have e : i = N := by omega
    subst e; exact last
  | k + 1, i, e => (step i (by omega)).then fun q hq => by
    subst hq
    exact EvW.rounds head N step last k (i + 1) (by omega)
end
end Go.Am
