/- Walks: what is asked of partitions. -/
import Derived.Test.YtebmpngnbnigcaaCfgE
set_option linter.unusedVariables false
set_option linter.unusedSimpArgs false
namespace Go.Am.Tab
open Fr
theorem asks_least {L : List (List Run)} (hL : ShortL L) {A : List PartT} {C : List ChanT} {X : List (List Node)} (a : List PartT) (b : List ChanT) (c : List (List Node)) (T : List Int) (p per i m : Int) :
    ∃ w, (w ≤ 4096 ∧ ∀ r ∈ L, w ≤ budget r i per) ∧ EvL s83 (.L10 L per i 4096 m i L L.length 0 A C X a b c T p) (.E10 L per i w m i A C X a b c T p) := by
  obtain ⟨w, ⟨hw1, hw⟩, hl⟩ := EvL.range (t := s83) (σ := Int) (fun j w => .L10 L per i w m i L L.length ((j : Nat) : Int) A C X a b c T p) (fun j w => w ≤ 4096 ∧ ∀ j' r, j' < j → L[j']? = some r → w ≤ budget r i per) L.length (by
    intro j w hj hw
    obtain ⟨o1, o2⟩ := hL.2 L[j] (List.getElem_mem hj)
    have hsz := hL.1
    have hv := budget_ref_ev i (d := per) o1 (by omega)
    refine ⟨min w (budget L[j] i per), ⟨by omega, fun j' r hj' hr => ?_⟩, EvL.of hv fun n f hn => ?_⟩
    · by_cases e : j' = j
      · subst e
        rw [List.getElem?_eq_getElem hj] at hr
        cases hr
        omega
      · have := hw.2 j' r (by omega) hr
        omega
    · simp only [flow_succ, s83]
      rw [ltB_t (by omega), ix_get L j hj, hn, ix_succ j (by omega)]
      simp only [cond_true, Option.bind_some]
      rw [if_pos (by omega), if_pos (by omega)]) L.length 0 4096 (by omega) ⟨Int.le_refl _, fun j' r h => by omega⟩
  refine ⟨w, ⟨hw1, fun r hr => ?_⟩, hl.trans (EvL.one fun n f => ?_)⟩
  · obtain ⟨j, hj, rfl⟩ := List.mem_iff_getElem.1 hr
    exact hw j _ hj (List.getElem?_eq_getElem hj)
  · simp only [flow_succ, s83]
    rw [ltB_f (by omega), cond_false]
def NamesOk (A : List PartT) : Prop := ∀ p ∈ A, (p.1.length : Int) ≤ 100000
theorem partsInL_set {L : List (List Run)} {A : List PartT} {i : Nat} {x : PartT} (h : PartsInL L A) (hx : ∀ l ∈ L, ¬ partBad l (i : Int) x) : PartsInL L (A.set i x) := fun j p hp => by
  by_cases e : j = i
  · subst e
    rw [List.getElem?_set] at hp
    rw [if_pos rfl] at hp
    split at hp
    · cases hp; exact hx
    · cases hp
  · rw [List.getElem?_set_ne (Ne.symm e)] at hp
    exact h j p hp
theorem asks_part {L : List (List Run)} (hL : ShortL L) {A : List PartT} {C : List ChanT} {X : List (List Node)} (a : List PartT) (b : List ChanT) (c : List (List Node)) (T : List Int) (p per : Int) (ht : TOk (T, p)) (i : Nat) (hi : i < A.length) (m : Nat) (hm : A.length = m) (hm2 : (m : Int) ≤ 1000) (hA : PartsInL L A) (hN : NamesOk A) :
    ∃ A' p', PartsInL L A' ∧ NamesOk A' ∧ A'.length = m ∧ TOk (T, p') ∧ EvL s83 (.L8 L per m i A C X a b c T p) (.L8 L per m ((i + 1 : Nat) : Int) A' C X a b c T p') := by
  obtain ⟨w, ⟨w1, w2⟩, hl⟩ := asks_least hL (A := A) (C := C) (X := X) a b c T p per i m
  obtain ⟨v, q, n1, n2, n3, n4⟩ := next_ev ht (a := 2) (by omega)
  obtain ⟨u, q2, u1, u2, u3, u4⟩ := next_ev n3 (a := 2) (by omega)
  have hst : EvL s83 (.L8 L per m i A C X a b c T p) (.E10 L per i w m i A C X a b c T p) := by
    refine EvL.trans (EvL.one (q := .Q31 L per m i A C X a b c T p) fun n f => ?_) (EvL.trans (EvL.one (q := .L10 L per i 4096 m i L L.length 0 A C X a b c T p) fun n f => ?_) hl)
    · simp only [flow_succ, s83]
      rw [ltB_t (by omega), cond_true]
    · simp only [flow_succ, s83]
  by_cases c1 : 0 < w
  · by_cases c2 : v = 0
    · refine ⟨A.set i (A[i].1, (max (w - u) 1, (per, A[i].2.2.2))), q2, partsInL_set hA (fun l hl hb => ?_), forall_set hN (hN A[i] (List.getElem_mem hi)), by rw [List.length_set]; exact hm, u3, hst.trans (EvL.of (n4.and u4) fun n f hn => ?_)⟩
      · obtain ⟨b1, b2⟩ := hb
        have := w2 l hl
        simp only at b1 b2
        omega
      · simp only [flow_succ, s83]
        rw [ltB_t c1, hn.1, ix_succ i (by omega)]
        simp only [cond_true, Option.bind_some]
        rw [eqB_t c2, hn.2]
        simp only [cond_true, Option.bind_some, ix_len, ix_set2]
        rw [if_pos (by omega), if_pos (by omega), if_pos (by omega), if_pos (by omega)]
        simp only [ix_set A i hi, ix_get A i hi]
        rw [w64_id (x := w - u) (by omega) (by omega)]
    · refine ⟨A, q, hA, hN, hm, n3, hst.trans (EvL.of n4 fun n f hn => ?_)⟩
      simp only [flow_succ, s83]
      rw [ltB_t c1, hn, ix_succ i (by omega)]
      simp only [cond_true, Option.bind_some]
      rw [eqB_f c2]; rfl
  · refine ⟨A, p, hA, hN, hm, ht, hst.trans (EvL.one fun n f => ?_)⟩
    simp only [flow_succ, s83]
    rw [ltB_f (by omega), ix_succ i (by omega)]; rfl
theorem asks_parts {L : List (List Run)} (hL : ShortL L) {A : List PartT} {C : List ChanT} {X : List (List Node)} (a : List PartT) (b : List ChanT) (c : List (List Node)) (T : List Int) (p per : Int) (ht : TOk (T, p)) (m : Nat) (hm : A.length = m) (hm2 : (m : Int) ≤ 1000) (hA : PartsInL L A) (hN : NamesOk A) :
    ∃ A' p', PartsInL L A' ∧ NamesOk A' ∧ A'.length = m ∧ TOk (T, p') ∧ EvL s83 (.L8 L per m 0 A C X a b c T p) (.E8 A' C X a b c T p') := by
  obtain ⟨s, ⟨h1, h0, h2, h3⟩, hl⟩ := EvL.range (t := s83) (σ := List PartT × Int) (fun i s => .L8 L per m ((i : Nat) : Int) s.1 C X a b c T s.2) (fun _ s => PartsInL L s.1 ∧ NamesOk s.1 ∧ s.1.length = m ∧ TOk (T, s.2)) m (by
    rintro i s hi ⟨h1, h0, h2, h3⟩
    obtain ⟨C', p', a1, a0, a2, a3, a4⟩ := asks_part hL (C := C) (X := X) a b c T s.2 per h3 i (by omega) m h2 hm2 h1 h0
    exact ⟨(C', p'), ⟨a1, a0, a2, a3⟩, a4⟩) m 0 (A, p) (by omega) ⟨hA, hN, hm, ht⟩
  refine ⟨s.1, s.2, h1, h0, h2, h3, hl.trans (EvL.one fun n f => ?_)⟩
  simp only [flow_succ, s83]
  rw [ltB_f (by omega), cond_false]
/-- All that was asked of partitions is taken back. -/
theorem asks_clear {L : List (List Run)} {A : List PartT} {C : List ChanT} {X : List (List Node)} (a : List PartT) (b : List ChanT) (c : List (List Node)) (T : List Int) (p : Int) (m : Nat) (hm : A.length = m) (hm2 : (m : Int) ≤ 1000) (hA : PartsInL L A) (hN : NamesOk A) :
    ∃ A', PartsInL L A' ∧ NamesOk A' ∧ A'.length = m ∧ EvL s83 (.L12 m 0 A C X a b c T p) (.E12 A' C X a b c T p) := by
  obtain ⟨s, ⟨h1, h0, h2⟩, hl⟩ := EvL.range (t := s83) (σ := List PartT) (fun i s => .L12 m ((i : Nat) : Int) s C X a b c T p) (fun _ s => PartsInL L s ∧ NamesOk s ∧ s.length = m) m (by
    rintro i s hi ⟨h1, h0, h2⟩
    have hi : i < s.length := by omega
    refine ⟨s.set i (s[i].1, (0, (0, s[i].2.2.2))), ⟨partsInL_set h1 (fun l _ hb => by have := hb.1; simp only at this; omega), forall_set h0 (h0 s[i] (List.getElem_mem hi)), by rw [List.length_set]; exact h2⟩, EvL.one fun n f => ?_⟩
    simp only [flow_succ, s83]
    rw [ltB_t (by omega), ix_succ i (by omega)]
    simp only [cond_true, ix_len, ix_set2]
    rw [if_pos (by omega), if_pos (by omega), if_pos (by omega), if_pos (by omega)]
    simp only [ix_set s i hi, ix_get s i hi]) m 0 A (by omega) ⟨hA, hN, hm⟩
  refine ⟨s, h1, h0, h2, hl.trans (EvL.one fun n f => ?_)⟩
  simp only [flow_succ, s83]
  rw [ltB_f (by omega), cond_false]
end Go.Am.Tab
