/- Walks: what is asked of channels. -/
import Derived.Test.YtebmpngnbnigcaaCfgD
set_option linter.unusedVariables false
set_option linter.unusedSimpArgs false
namespace Go.Am.Tab
open Fr
theorem asks_worst {L : List (List Run)} (hL : ShortL L) {A : List PartT} {C : List ChanT} {X : List (List Node)} (a : List PartT) (b : List ChanT) (c : List (List Node)) (T : List Int) (p : Int) (i : Nat) (hi : i < C.length) (m : Int) :
    ∃ w, (w = -1 ∨ (0 ≤ w ∧ w ≤ 90 ∧ ∀ r ∈ L, 0 ≤ lateR r C[i].1 C[i].2.1 ∧ lateR r C[i].1 C[i].2.1 ≤ w)) ∧ EvL s83 (.L4 L i 0 m i L L.length 0 A C X a b c T p) (.E4 L i w m i A C X a b c T p) := by
  obtain ⟨w, hw, hl⟩ := EvL.range (t := s83) (σ := Int) (fun j w => .L4 L i w m i L L.length ((j : Nat) : Int) A C X a b c T p) (fun j w => w = -1 ∨ (0 ≤ w ∧ w ≤ 90 ∧ ∀ j' r, j' < j → L[j']? = some r → 0 ≤ lateR r C[i].1 C[i].2.1 ∧ lateR r C[i].1 C[i].2.1 ≤ w)) L.length (by
    intro j w hj hw
    obtain ⟨o1, o2⟩ := hL.2 L[j] (List.getElem_mem hj)
    have hsz := hL.1
    have hle := late_le C[i].1 C[i].2.1 o1
    have hlo := (worstR_in o1 (by omega) C[i].1 C[i].2.1).2
    have hv := late_ref_ev C[i].1 C[i].2.1 o1 (by omega)
    have hgi := fun d => ix_get C i hi d
    have hgj := fun d => ix_get L j hj d
    by_cases c1 : lateR L[j] C[i].1 C[i].2.1 < 0
    · refine ⟨-1, .inl rfl, EvL.of hv fun n f hn => ?_⟩
      simp only [flow_succ, s83]
      rw [ltB_t (by omega), hgj, hgi, hn, ix_succ j (by omega)]
      simp only [cond_true, Option.bind_some]
      rw [if_pos (by omega), if_pos (by omega), if_pos (by omega), if_pos (by omega), if_pos (by omega), if_pos (by omega), ltB_t c1]; rfl
    by_cases c2 : w < 0
    · refine ⟨-1, .inl rfl, EvL.of hv fun n f hn => ?_⟩
      simp only [flow_succ, s83]
      rw [ltB_t (by omega), hgj, hgi, hn, ix_succ j (by omega)]
      simp only [cond_true, Option.bind_some]
      rw [if_pos (by omega), if_pos (by omega), if_pos (by omega), if_pos (by omega), if_pos (by omega), if_pos (by omega), ltB_f (by omega), ltB_t c2]; rfl
    · refine ⟨max w (lateR L[j] C[i].1 C[i].2.1), ?_, EvL.of hv fun n f hn => ?_⟩
      · rcases hw with hw | ⟨w1, w2, w3⟩
        · omega
        refine .inr ⟨by omega, by omega, fun j' r hj' hr => ?_⟩
        by_cases e : j' = j
        · subst e
          rw [List.getElem?_eq_getElem hj] at hr
          cases hr
          exact ⟨by omega, by omega⟩
        · have := w3 j' r (by omega) hr
          exact ⟨this.1, by omega⟩
      · simp only [flow_succ, s83]
        rw [ltB_t (by omega), hgj, hgi, hn, ix_succ j (by omega)]
        simp only [cond_true, Option.bind_some]
        rw [if_pos (by omega), if_pos (by omega), if_pos (by omega), if_pos (by omega), if_pos (by omega), if_pos (by omega), ltB_f (by omega), ltB_f (by omega)]; rfl) L.length 0 0 (by omega) (.inr ⟨Int.le_refl _, by omega, fun j' r h => by omega⟩)
  refine ⟨w, ?_, hl.trans (EvL.one fun n f => ?_)⟩
  · rcases hw with hw | ⟨w1, w2, w3⟩
    · exact .inl hw
    · refine .inr ⟨w1, w2, fun r hr => ?_⟩
      obtain ⟨j, hj, rfl⟩ := List.mem_iff_getElem.1 hr
      exact w3 j _ hj (List.getElem?_eq_getElem hj)
  · simp only [flow_succ, s83]
    rw [ltB_f (by omega), cond_false]
/-- What is asked of one channel. -/
theorem asks_chan {L : List (List Run)} (hL : ShortL L) {A : List PartT} {C : List ChanT} {X : List (List Node)} (a : List PartT) (b : List ChanT) (c : List (List Node)) (T : List Int) (p : Int) (ht : TOk (T, p)) (i : Nat) (hi : i < C.length) (m : Nat) (hm : C.length = m) (hm2 : (m : Int) ≤ 1000) (hC : ChansIn L C) :
    ∃ C' p', ChansIn L C' ∧ C'.length = m ∧ TOk (T, p') ∧ EvL s83 (.L2 L m i A C X a b c T p) (.L2 L m ((i + 1 : Nat) : Int) A C' X a b c T p') := by
  obtain ⟨w, hw, hl⟩ := asks_worst hL (A := A) (X := X) a b c T p i hi m
  obtain ⟨v, q, n1, n2, n3, n4⟩ := next_ev ht (a := 3) (by omega)
  obtain ⟨u, q2, u1, u2, u3, u4⟩ := next_ev n3 (a := 6) (by omega)
  have hst : EvL s83 (.L2 L m i A C X a b c T p) (.E4 L i w m i A C X a b c T p) := by
    refine EvL.trans (EvL.one (q := .Q10 L m i A C X a b c T p) fun n f => ?_) (EvL.trans (EvL.one (q := .L4 L i 0 m i L L.length 0 A C X a b c T p) fun n f => ?_) hl)
    · simp only [flow_succ, s83]
      rw [ltB_t (by omega), cond_true]
    · simp only [flow_succ, s83]
  by_cases c1 : 0 < w
  · by_cases c2 : 0 < v
    · rcases hw with hw | ⟨w1, w2, w3⟩
      · omega
      refine ⟨C.set i (C[i].1, (C[i].2.1, (C[i].2.2.1, (C[i].2.2.2.1, (C[i].2.2.2.2.1, min (w + u) 4096))))), q2, forall_set hC (fun l hl hb => ?_), by rw [List.length_set]; exact hm, u3, hst.trans (EvL.of (n4.and u4) fun n f hn => ?_)⟩
      · obtain ⟨b1, b2⟩ := hb
        have := w3 l hl
        simp only at b1 b2
        omega
      · simp only [flow_succ, s83]
        rw [ltB_t c1, hn.1, ix_succ i (by omega)]
        simp only [cond_true, Option.bind_some]
        rw [ltB_t c2, hn.2]
        simp only [cond_true, Option.bind_some]
        rw [if_pos (by omega), if_pos (by omega), ix_get C i hi, w64_id (x := w + u) (by omega) (by omega), Int.toNat_natCast]
    · refine ⟨C, q, hC, hm, n3, hst.trans (EvL.of n4 fun n f hn => ?_)⟩
      simp only [flow_succ, s83]
      rw [ltB_t c1, hn, ix_succ i (by omega)]
      simp only [cond_true, Option.bind_some]
      rw [ltB_f (by omega)]; rfl
  · refine ⟨C, p, hC, hm, ht, hst.trans (EvL.one fun n f => ?_)⟩
    simp only [flow_succ, s83]
    rw [ltB_f (by omega), ix_succ i (by omega)]; rfl
theorem asks_chans {L : List (List Run)} (hL : ShortL L) {A : List PartT} {C : List ChanT} {X : List (List Node)} (a : List PartT) (b : List ChanT) (c : List (List Node)) (T : List Int) (p : Int) (ht : TOk (T, p)) (m : Nat) (hm : C.length = m) (hm2 : (m : Int) ≤ 1000) (hC : ChansIn L C) :
    ∃ C' p', ChansIn L C' ∧ C'.length = m ∧ TOk (T, p') ∧ EvL s83 (.L2 L m 0 A C X a b c T p) (.E2 L A C' X a b c T p') := by
  obtain ⟨s, ⟨h1, h2, h3⟩, hl⟩ := EvL.range (t := s83) (σ := List ChanT × Int) (fun i s => .L2 L m ((i : Nat) : Int) A s.1 X a b c T s.2) (fun _ s => ChansIn L s.1 ∧ s.1.length = m ∧ TOk (T, s.2)) m (by
    rintro i s hi ⟨h1, h2, h3⟩
    obtain ⟨C', p', a1, a2, a3, a4⟩ := asks_chan hL (A := A) (X := X) a b c T s.2 h3 i (by omega) m h2 hm2 h1
    exact ⟨(C', p'), ⟨a1, a2, a3⟩, a4⟩) m 0 (C, p) (by omega) ⟨hC, hm, ht⟩
  refine ⟨s.1, s.2, h1, h2, h3, hl.trans (EvL.one fun n f => ?_)⟩
  simp only [flow_succ, s83]
  rw [ltB_f (by omega), cond_false]
end Go.Am.Tab
