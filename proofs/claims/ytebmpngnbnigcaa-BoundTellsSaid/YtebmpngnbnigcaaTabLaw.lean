/- Tables as forests: sizes, children, depth, ticks, leaves. Plain Lean, no program in sight. -/
import Derived.Test.YtebmpngnbnigcaaFrLaw
set_option linter.unusedVariables false
namespace Go.Am.Tab
open Fr

abbrev Node := Int × (Int × Int)
/-- A row of trees: each a node, its children, and the trees behind it. -/
inductive Fo where
  | nil
  | node (x : Node) (kids rest : Fo)
def arity (x : Node) : Int := if x.1 = 3 then x.2.2 else if x.1 = 4 then 1 else 0
def flat : Fo → List Node
  | .nil => []
  | .node x k r => x :: (flat k ++ flat r)
def count : Fo → Nat
  | .nil => 0
  | .node _ _ r => count r + 1
def fine (x : Node) : Prop := (x.1 = 1 ∧ 0 ≤ x.2.1 ∧ x.2.1 < 6 ∧ 1 ≤ x.2.2) ∨ (x.1 = 2 ∧ x.2.1 = 0 ∧ 1 ≤ x.2.2) ∨ (x.1 = 4 ∧ x.2.1 = 0 ∧ 1 ≤ x.2.2) ∨ (x.1 = 3 ∧ x.2.1 = 0 ∧ 1 ≤ x.2.2 ∧ x.2.2 ≤ 128)
def Good : Fo → Prop
  | .nil => True
  | .node x k r => fine x ∧ (count k : Int) = arity x ∧ Good k ∧ Good r
/-- One tree. -/
def one (x : Node) (k : Fo) : Fo := .node x k .nil
def len (F : Fo) : Nat := (flat F).length
theorem len_node (x : Node) (k r : Fo) : len (.node x k r) = len k + len r + 1 := by simp [len, flat]
theorem count_le : ∀ F : Fo, count F ≤ len F
  | .nil => by simp [count]
  | .node x k r => by have := count_le r; rw [len_node]; simp only [count]; omega
theorem good_nokids {x : Node} {k : Fo} (h : (count k : Int) = arity x) (h3 : x.1 ≠ 3) (h4 : x.1 ≠ 4) : k = .nil := by
  unfold arity at h
  rw [if_neg h3, if_neg h4] at h
  cases k with
  | nil => rfl
  | node _ _ r => simp only [count] at h; omega
/-- Where the trees begin. -/
def posn : Nat → Fo → List Int
  | _, .nil => []
  | p, .node _ k r => (p : Int) :: posn (p + len k + 1) r
theorem posn_length : ∀ (p : Nat) (F : Fo), (posn p F).length = count F
  | _, .nil => rfl
  | p, .node _ k r => by simp [posn, count, posn_length _ r]
def dep : Fo → Nat
  | .nil => 0
  | .node _ k r => max (dep k + 1) (dep r)
def own (x : Node) (s : Int) : Int := if x.1 = 3 then s else if x.1 = 4 then s * x.2.2 else x.2.2
def ticks : Fo → Int
  | .nil => 0
  | .node x k r => own x (ticks k) + ticks r
def reps {α : Type} (l : List α) : Nat → List α
  | 0 => []
  | n + 1 => l ++ reps l n
def lv : Fo → List Run
  | .nil => []
  | .node x k r => (if x.1 = 1 then [(x.2.1, x.2.2)] else if x.1 = 2 then [(-1, x.2.2)] else if x.1 = 4 then reps (lv k) x.2.2.toNat else lv k) ++ lv r
theorem ticks_pos : ∀ {F : Fo}, Good F → 0 ≤ ticks F
  | .nil, _ => by simp [ticks]
  | .node x k r, h => by
    obtain ⟨h1, h2, h3, h4⟩ := h
    have i1 := ticks_pos h3
    have i2 := ticks_pos h4
    have : 0 ≤ own x (ticks k) := by
      unfold own
      split
      · exact i1
      · split
        · exact Int.mul_nonneg i1 (by unfold fine at h1; omega)
        · unfold fine at h1; omega
    simp only [ticks]; omega

/-- Sums that are held at 4097. -/
theorem cap_add {a b : Int} (ha : 0 ≤ a) (hb : 0 ≤ b) : min (min a 4097 + min b 4097) 4097 = min (a + b) 4097 := by omega
theorem cap_mul {s n : Int} (hs : 0 ≤ s) (hn : 1 ≤ n) : min (min s 4097 * min n 4097) 4097 = min (s * n) 4097 := by
  by_cases h1 : s ≤ 4097
  · have e1 : min s 4097 = s := by omega
    rw [e1]
    by_cases h2 : n ≤ 4097
    · have e2 : min n 4097 = n := by omega
      rw [e2]
    · have e2 : min n 4097 = 4097 := by omega
      rw [e2]
      by_cases h0 : s = 0
      · subst h0; simp
      · have e3 : 1 * 4097 ≤ s * 4097 := Int.mul_le_mul_of_nonneg_right (by omega) (by omega)
        have e4 : s * 4097 ≤ s * n := Int.mul_le_mul_of_nonneg_left (by omega) hs
        omega
  · have e1 : min s 4097 = 4097 := by omega
    rw [e1]
    have e3 : 4097 * 1 ≤ 4097 * min n 4097 := Int.mul_le_mul_of_nonneg_left (by omega) (by omega)
    have e4 : s * 1 ≤ s * n := Int.mul_le_mul_of_nonneg_left hn hs
    omega
theorem cap_mul_in {s n : Int} (hs : 0 ≤ s) (hs2 : s ≤ 4097) (hn : 1 ≤ n) : 0 ≤ s * min n 4097 ∧ s * min n 4097 ≤ 16785409 := by
  have e0 : 0 ≤ s * min n 4097 := Int.mul_nonneg hs (by omega)
  have e1 : s * min n 4097 ≤ 4097 * min n 4097 := Int.mul_le_mul_of_nonneg_right hs2 (by omega)
  have e2 : 4097 * min n 4097 ≤ 4097 * 4097 := Int.mul_le_mul_of_nonneg_left (by omega) (by omega)
  omega
end Go.Am.Tab
