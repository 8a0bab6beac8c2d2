/- Walks: what is asked of a tape's frames they hold. -/
import Derived.Test.YtebmpngnbnigcaaCfgC
set_option linter.unusedVariables false
set_option linter.unusedSimpArgs false
namespace Go.Am.Fr
theorem dist_le {l : List Run} {p : Int} (h : Ok l) (hb : spans 0 l p ≠ []) {t : Int} (h0 : 0 ≤ t) (ht : t < total l) : dist (spans 0 l p) (total l) t ≤ total l := by
  have hin := spans_in (a := 0) (p := p) h
  unfold dist nextS
  split
  · rename_i s hs
    have := hin s (List.mem_of_find?_eq_some hs)
    omega
  · rename_i hs
    cases hc : spans 0 l p with
    | nil => exact absurd hc hb
    | cons s r =>
      have h1 := List.find?_eq_none.1 hs s (by rw [hc]; simp)
      have h2 := hin s (by rw [hc]; simp)
      simp only [decide_eq_true_eq] at h1
      simp only [List.getD_cons_zero]
      omega
theorem late_le {l : List Run} (f to : Int) (h : Ok l) : lateR l f to ≤ total l := by
  have h0 := total_nonneg h
  unfold lateR
  split
  · exact h0
  · split
    · omega
    · rename_i h1 h2
      refine (worstR_le l f to (total l) _).2 ⟨h0, fun t ht _ => ?_⟩
      refine dist_le h ((mem_words h).1 (Decidable.not_not.1 h2)) (by omega) ?_
      have := words_length h
      omega
end Go.Am.Fr
namespace Go.Am
theorem ix_set {α : Type} (l : List α) (i : Nat) (h : i < l.length) (a d : α) : (l.set (Int.toNat (i : Int)) a).getD (Int.toNat (i : Int)) d = a := by
  rw [Int.toNat_natCast, List.getD_eq_getElem?_getD, List.getElem?_set_self h]; rfl
theorem ix_len {α : Type} (l : List α) (i : Nat) (a : α) : (l.set (Int.toNat (i : Int)) a).length = l.length := List.length_set
theorem ix_set2 {α : Type} (l : List α) (i : Nat) (a b : α) : (l.set (Int.toNat (i : Int)) a).set (Int.toNat (i : Int)) b = l.set i b := by
  rw [Int.toNat_natCast, List.set_set]
theorem forall_set {α : Type} {l : List α} {i : Nat} {a : α} {p : α → Prop} (h : ∀ x ∈ l, p x) (ha : p a) : ∀ x ∈ l.set i a, p x := fun x hx => by
  rcases List.mem_or_eq_of_mem_set hx with hx | rfl
  · exact h x hx
  · exact ha
end Go.Am
namespace Go.Am.Tab
open Fr
/-- What is asked of channels all these runs hold. -/
def ChansIn (L : List (List Run)) (C : List ChanT) : Prop := ∀ x ∈ C, ∀ l ∈ L, ¬ chanBad l x
def PartsInL (L : List (List Run)) (C : List PartT) : Prop := ∀ (i : Nat) p, C[i]? = some p → ∀ l ∈ L, ¬ partBad l (i : Int) p
theorem chansIn_false {l : List Run} : ∀ {C : List ChanT}, (∀ x ∈ C, ¬ chanBad l x) → chansBad l C = false
  | [], _ => rfl
  | x :: C, h => by
    rw [chansBad_cons, if_neg (h x (by simp))]
    exact chansIn_false fun y hy => h y (by simp [hy])
theorem partsIn_false {l : List Run} : ∀ {C : List PartT} {a : Int}, (∀ (i : Nat) p, C[i]? = some p → ¬ partBad l (a + i) p) → partsBad l a C = false
  | [], _, _ => rfl
  | x :: C, a, h => by
    have h0 := h 0 x (by simp)
    rw [show a + ((0 : Nat) : Int) = a by omega] at h0
    rw [partsBad_cons, if_neg h0]
    refine partsIn_false fun i p hp => ?_
    have := h (i + 1) p (by simpa using hp)
    rwa [show a + ((i + 1 : Nat) : Int) = a + 1 + (i : Int) by omega] at this
theorem holds_zero {L : List (List Run)} {c : ConfT} (h1 : ChansIn L c.2.1) (h2 : PartsInL L c.1) : ∀ l ∈ L, holdsS c l = 0 := fun l hl => by
  unfold holdsS
  rw [chansIn_false fun x hx => h1 x hx l hl, partsIn_false fun i p hp => by rw [Int.zero_add]; exact h2 i p hp l hl]
  rfl
/-- Runs as frames have them. -/
def ShortL (L : List (List Run)) : Prop := (L.length : Int) ≤ 1000 ∧ ∀ l ∈ L, Fr.Ok l ∧ total l ≤ 90
end Go.Am.Tab
