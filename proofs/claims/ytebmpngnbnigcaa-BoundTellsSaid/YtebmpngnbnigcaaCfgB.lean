/- Walks: what is asked of a frame: both Holds give the same. -/
import Derived.Test.YtebmpngnbnigcaaCfgA
import Derived.Test.YtebmpngnbnigcaaBnRef
import Derived.Test.YtebmpngnbnigcaaG4b
import Derived.Test.YtebmpngnbnigcaaG4c
import Derived.Test.YtebmpngnbnigcaaG4d
set_option linter.unusedVariables false
set_option linter.unusedSimpArgs false
namespace Go.Am.Tab
open Fr
abbrev PartT := List UInt8 × (Int × (Int × (Bool × (Bool × ((List (Int × Int)) × (List Int))))))
abbrev ChanT := Int × (Int × (Bool × (Int × (Int × Int))))
abbrev ConfT := List PartT × (List ChanT × List (List Node))
def chanBad (l : List Run) (x : ChanT) : Prop := 0 < x.2.2.2.2.2 ∧ (lateR l x.1 x.2.1 < 0 ∨ x.2.2.2.2.2 < lateR l x.1 x.2.1)
instance (l : List Run) (x : ChanT) : Decidable (chanBad l x) := by unfold chanBad; infer_instance
def partBad (l : List Run) (i : Int) (p : PartT) : Prop := 0 < p.2.1 ∧ budget l i p.2.2.1 < p.2.1
instance (l : List Run) (i : Int) (p : PartT) : Decidable (partBad l i p) := by unfold partBad; infer_instance
def chansBad (l : List Run) : List ChanT → Bool
  | [] => false
  | x :: r => if chanBad l x then true else chansBad l r
def partsBad (l : List Run) : Int → List PartT → Bool
  | _, [] => false
  | i, x :: r => if partBad l i x then true else partsBad l (i + 1) r
theorem chansBad_cons (l : List Run) (x : ChanT) (r : List ChanT) : chansBad l (x :: r) = if chanBad l x then true else chansBad l r := rfl
theorem partsBad_cons (l : List Run) (i : Int) (x : PartT) (r : List PartT) : partsBad l i (x :: r) = if partBad l i x then true else partsBad l (i + 1) r := rfl
/-- Why a frame may not be. -/
def holdsS (c : ConfT) (l : List Run) : Int := if chansBad l c.2.1 then 19 else if partsBad l 0 c.1 then 20 else 0
/-- bound.Holds -/
theorem holds_chans {l : List Run} (ho : Fr.Ok l) (h : total l ≤ 8192) (C : List ChanT) (hC : (C.length : Int) ≤ 100000) (a b c : _) : ∀ (C2 pre : List ChanT), C = pre ++ C2 →
    (chansBad l C2 = true → EvG s27 (.L0 l C C.length pre.length a b c) 19) ∧ (chansBad l C2 = false → EvL s27 (.L0 l C C.length pre.length a b c) (.E0 l a b c))
  | [], pre, e => ⟨(fun h => by cases h), fun _ => EvL.one fun n f => by
    have := at_end e
    simp only [flow_succ, s27]
    rw [ltB_f (by omega)]; rfl⟩
  | x :: C2, pre, e => by
    have ih := holds_chans ho h C hC a b c C2 (pre ++ [x]) (at_next e)
    have h3 := at_lt e
    have hv := (late_ev x.1 x.2.1 ho (by omega))
    by_cases hb : chanBad l x
    · rw [chansBad_cons, if_pos hb]
      refine ⟨fun _ => EvG.of hv fun n f hn => ?_, fun h => by cases h⟩
      obtain ⟨b1, b2⟩ := hb
      simp only [flow_succ, s27]
      rw [ltB_t h3, at_get e, hn]
      simp only [cond_true, Option.bind_some]
      rw [if_pos (by omega), if_pos h3, ltB_t b1]
      simp only [cond_true]
      rw [late_same ho]
      rcases Decidable.em (x.2.2.2.2.2 < lateR l x.1 x.2.1) with b3 | b3
      · rw [ltB_t b3]; rfl
      · rw [ltB_f (by omega), eqB_t (by have := (worstR_in ho h x.1 x.2.1).2; omega)]; rfl
    · rw [chansBad_cons, if_neg hb]
      have st : EvL s27 (.L0 l C C.length pre.length a b c) (.L0 l C C.length (pre ++ [x]).length a b c) := by
        refine EvL.of hv fun n f hn => ?_
        simp only [flow_succ, s27]
        rw [ltB_t h3, at_get e, hn, at_succ pre x (by omega)]
        simp only [cond_true, Option.bind_some]
        rw [if_pos (by omega), if_pos h3]
        by_cases b1 : 0 < x.2.2.2.2.2
        · have b2 : ¬ (lateR l x.1 x.2.1 < 0 ∨ x.2.2.2.2.2 < lateR l x.1 x.2.1) := fun q => hb ⟨b1, q⟩
          rw [ltB_t b1]
          simp only [cond_true]
          rw [late_same ho, ltB_f (by omega), eqB_f (by omega)]; rfl
        · rw [ltB_f (by omega)]; rfl
      exact ⟨fun q => st.gives (ih.1 q), fun q => st.trans (ih.2 q)⟩
theorem holds_parts {l : List Run} (ho : Fr.Ok l) (h : total l ≤ 8192) (C : List PartT) (hC : (C.length : Int) ≤ 100000) : ∀ (C2 pre : List PartT), C = pre ++ C2 →
    (partsBad l pre.length C2 = true → EvG s27 (.L2 l C C.length pre.length) 20) ∧ (partsBad l pre.length C2 = false → EvL s27 (.L2 l C C.length pre.length) .E2)
  | [], pre, e => ⟨(fun h => by cases h), fun _ => EvL.one fun n f => by
    have := at_end e
    simp only [flow_succ, s27]
    rw [ltB_f (by omega)]; rfl⟩
  | x :: C2, pre, e => by
    have ih := holds_parts ho h C hC C2 (pre ++ [x]) (at_next e)
    have h3 := at_lt e
    have hv := (budget_ev pre.length x.2.2.1 ho (by omega))
    have el : ((pre ++ [x]).length : Int) = (pre.length : Int) + 1 := by simp
    rw [el] at ih
    by_cases hb : partBad l pre.length x
    · rw [partsBad_cons, if_pos hb]
      refine ⟨fun _ => EvG.of hv fun n f hn => ?_, fun h => by cases h⟩
      obtain ⟨b1, b2⟩ := hb
      simp only [flow_succ, s27]
      rw [ltB_t h3, at_get e, hn]
      simp only [cond_true, Option.bind_some]
      rw [if_pos (by omega), if_pos h3, ltB_t b1, ltB_t b2]; rfl
    · rw [partsBad_cons, if_neg hb]
      have st : EvL s27 (.L2 l C C.length pre.length) (.L2 l C C.length ((pre.length : Int) + 1)) := by
        refine EvL.of hv fun n f hn => ?_
        simp only [flow_succ, s27]
        rw [ltB_t h3, at_get e, hn, w64_id (x := (pre.length : Int) + 1) (by omega) (by omega)]
        simp only [cond_true, Option.bind_some]
        rw [if_pos (by omega), if_pos h3]
        by_cases b1 : 0 < x.2.1
        · have b2 : ¬ (budget l pre.length x.2.2.1 < x.2.1) := fun q => hb ⟨b1, q⟩
          rw [ltB_t b1, ltB_f (by omega)]; rfl
        · rw [ltB_f (by omega)]; rfl
      exact ⟨fun q => st.gives (ih.1 q), fun q => st.trans (ih.2 q)⟩
theorem holds_ev {l : List Run} (ho : Fr.Ok l) (h : total l ≤ 8192) (c : ConfT) (h1 : (c.1.length : Int) ≤ 100000) (h2 : (c.2.1.length : Int) ≤ 100000) : Ev fun n => p27 n c l = some (holdsS c l) := by
  have k1 := holds_chans ho h c.2.1 h2 c.1 c.2.1 c.2.2 c.2.1 [] rfl
  have k2 := holds_parts ho h c.1 h1 c.1 [] rfl
  have st : EvL s27 (.F c l) (.L0 l c.2.1 c.2.1.length 0 c.1 c.2.1 c.2.2) := EvL.one fun n f => by
    simp only [flow_succ, s27] <;> rfl
  unfold holdsS
  cases e1 : chansBad l c.2.1 with
  | true => exact EvG.ev (st.gives (k1.1 e1))
  | false =>
    have st2 : EvL s27 (.E0 l c.1 c.2.1 c.2.2) (.L2 l c.1 c.1.length 0) := EvL.one fun n f => by
      simp only [flow_succ, s27] <;> rfl
    have st3 := (st.trans (k1.2 e1)).trans st2
    simp only [Bool.false_eq_true, if_false]
    cases e2 : partsBad l 0 c.1 with
    | true => exact EvG.ev (st3.gives (k2.1 e2))
    | false =>
      refine EvG.ev (st3.gives ((k2.2 e2).gives (EvG.one fun n f => ?_)))
      simp only [flow_succ, s27] <;> rfl
/-- The document's Holds -/
theorem holdsR_chans {l : List Run} (ho : Fr.Ok l) (h : total l ≤ 8192) (C : List ChanT) (hC : (C.length : Int) ≤ 100000) (a b c : _) : ∀ (C2 pre : List ChanT), C = pre ++ C2 →
    (chansBad l C2 = true → EvG s28 (.L0 l C C.length pre.length a b c) 19) ∧ (chansBad l C2 = false → EvL s28 (.L0 l C C.length pre.length a b c) (.E0 l a b c))
  | [], pre, e => ⟨(fun h => by cases h), fun _ => EvL.one fun n f => by
    have := at_end e
    simp only [flow_succ, s28]
    rw [ltB_f (by omega)]; rfl⟩
  | x :: C2, pre, e => by
    have ih := holdsR_chans ho h C hC a b c C2 (pre ++ [x]) (at_next e)
    have h3 := at_lt e
    have hv := (late_ref_ev x.1 x.2.1 ho h)
    by_cases hb : chanBad l x
    · rw [chansBad_cons, if_pos hb]
      refine ⟨fun _ => EvG.of hv fun n f hn => ?_, fun h => by cases h⟩
      obtain ⟨b1, b2⟩ := hb
      simp only [flow_succ, s28]
      rw [ltB_t h3, at_get e, hn]
      simp only [cond_true, Option.bind_some]
      rw [if_pos (by omega), if_pos h3, ltB_t b1]
      simp only [cond_true]
      rcases Decidable.em (lateR l x.1 x.2.1 < 0) with b3 | b3
      · rw [ltB_t b3]; rfl
      · rw [ltB_f (by omega), ltB_t (by omega)]; rfl
    · rw [chansBad_cons, if_neg hb]
      have st : EvL s28 (.L0 l C C.length pre.length a b c) (.L0 l C C.length (pre ++ [x]).length a b c) := by
        refine EvL.of hv fun n f hn => ?_
        simp only [flow_succ, s28]
        rw [ltB_t h3, at_get e, hn, at_succ pre x (by omega)]
        simp only [cond_true, Option.bind_some]
        rw [if_pos (by omega), if_pos h3]
        by_cases b1 : 0 < x.2.2.2.2.2
        · have b2 : ¬ (lateR l x.1 x.2.1 < 0 ∨ x.2.2.2.2.2 < lateR l x.1 x.2.1) := fun q => hb ⟨b1, q⟩
          rw [ltB_t b1]
          simp only [cond_true]
          rw [ltB_f (by omega), ltB_f (by omega)]; rfl
        · rw [ltB_f (by omega)]; rfl
      exact ⟨fun q => st.gives (ih.1 q), fun q => st.trans (ih.2 q)⟩
theorem holdsR_parts {l : List Run} (ho : Fr.Ok l) (h : total l ≤ 8192) (C : List PartT) (hC : (C.length : Int) ≤ 100000) : ∀ (C2 pre : List PartT), C = pre ++ C2 →
    (partsBad l pre.length C2 = true → EvG s28 (.L2 l C C.length pre.length) 20) ∧ (partsBad l pre.length C2 = false → EvL s28 (.L2 l C C.length pre.length) .E2)
  | [], pre, e => ⟨(fun h => by cases h), fun _ => EvL.one fun n f => by
    have := at_end e
    simp only [flow_succ, s28]
    rw [ltB_f (by omega)]; rfl⟩
  | x :: C2, pre, e => by
    have ih := holdsR_parts ho h C hC C2 (pre ++ [x]) (at_next e)
    have h3 := at_lt e
    have hv := (budget_ref_ev pre.length (d := x.2.2.1) ho h)
    have el : ((pre ++ [x]).length : Int) = (pre.length : Int) + 1 := by simp
    rw [el] at ih
    by_cases hb : partBad l pre.length x
    · rw [partsBad_cons, if_pos hb]
      refine ⟨fun _ => EvG.of hv fun n f hn => ?_, fun h => by cases h⟩
      obtain ⟨b1, b2⟩ := hb
      simp only [flow_succ, s28]
      rw [ltB_t h3, at_get e, hn]
      simp only [cond_true, Option.bind_some]
      rw [if_pos (by omega), if_pos h3, ltB_t b1, ltB_t b2]; rfl
    · rw [partsBad_cons, if_neg hb]
      have st : EvL s28 (.L2 l C C.length pre.length) (.L2 l C C.length ((pre.length : Int) + 1)) := by
        refine EvL.of hv fun n f hn => ?_
        simp only [flow_succ, s28]
        rw [ltB_t h3, at_get e, hn, w64_id (x := (pre.length : Int) + 1) (by omega) (by omega)]
        simp only [cond_true, Option.bind_some]
        rw [if_pos (by omega), if_pos h3]
        by_cases b1 : 0 < x.2.1
        · have b2 : ¬ (budget l pre.length x.2.2.1 < x.2.1) := fun q => hb ⟨b1, q⟩
          rw [ltB_t b1, ltB_f (by omega)]; rfl
        · rw [ltB_f (by omega)]; rfl
      exact ⟨fun q => st.gives (ih.1 q), fun q => st.trans (ih.2 q)⟩
theorem holdsR_ev {l : List Run} (ho : Fr.Ok l) (h : total l ≤ 8192) (c : ConfT) (h1 : (c.1.length : Int) ≤ 100000) (h2 : (c.2.1.length : Int) ≤ 100000) : Ev fun n => p28 n c l = some (holdsS c l) := by
  have k1 := holdsR_chans ho h c.2.1 h2 c.1 c.2.1 c.2.2 c.2.1 [] rfl
  have k2 := holdsR_parts ho h c.1 h1 c.1 [] rfl
  have st : EvL s28 (.F c l) (.L0 l c.2.1 c.2.1.length 0 c.1 c.2.1 c.2.2) := EvL.one fun n f => by
    simp only [flow_succ, s28] <;> rfl
  unfold holdsS
  cases e1 : chansBad l c.2.1 with
  | true => exact EvG.ev (st.gives (k1.1 e1))
  | false =>
    have st2 : EvL s28 (.E0 l c.1 c.2.1 c.2.2) (.L2 l c.1 c.1.length 0) := EvL.one fun n f => by
      simp only [flow_succ, s28] <;> rfl
    have st3 := (st.trans (k1.2 e1)).trans st2
    simp only [Bool.false_eq_true, if_false]
    cases e2 : partsBad l 0 c.1 with
    | true => exact EvG.ev (st3.gives (k2.1 e2))
    | false =>
      refine EvG.ev (st3.gives ((k2.2 e2).gives (EvG.one fun n f => ?_)))
      simp only [flow_succ, s28] <;> rfl
end Go.Am.Tab
