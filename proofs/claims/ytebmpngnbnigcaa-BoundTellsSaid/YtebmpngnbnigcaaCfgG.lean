/- Walks: a configuration of a tape: what is asked of its frames they hold. -/
import Derived.Test.YtebmpngnbnigcaaCfgF
set_option linter.unusedVariables false
set_option linter.unusedSimpArgs false
namespace Go.Am.Tab
open Fr
def FramesOk (P : Int) (X : List (List Node)) : Prop := ∀ t ∈ X, ∃ x k, t = flat (one x k) ∧ FrameOk P x k
theorem frames_tabs {P : Int} {X : List (List Node)} (h : FramesOk P X) : TabsOk X := fun t ht => by
  obtain ⟨x, k, e, h1, _, h3, _⟩ := h t ht
  exact ⟨x, k, e, h1, by omega⟩
/-- The runs of tables, one by one. -/
def RunsOf (X : List (List Node)) (L : List (List Run)) : Prop := L.length = X.length ∧ ∀ (j : Nat) t, X[j]? = some t → ∃ r, L[j]? = some r ∧ Ev fun n => p26 n t = some (r, 0)
theorem asks_runs {P : Int} {X : List (List Node)} (hX : FramesOk P X) (hX2 : (X.length : Int) ≤ 1000) {A : List PartT} {C : List ChanT} (a : List PartT) (b : List ChanT) (c : List (List Node)) (T : List Int) (p : Int) :
    ∃ L, ShortL L ∧ RunsOf X L ∧ EvL s83 (.L0 X.length 0 A C X a b c [] T p) (.E0 L A C X a b c T p) := by
  obtain ⟨L, ⟨h1, h2, h3⟩, hl⟩ := EvL.range (t := s83) (σ := List (List Run)) (fun i s => .L0 X.length ((i : Nat) : Int) A C X a b c s T p) (fun i s => s.length = i ∧ (∀ l ∈ s, Fr.Ok l ∧ total l ≤ 90) ∧ ∀ (j : Nat) t, j < i → X[j]? = some t → ∃ r, s[j]? = some r ∧ Ev fun n => p26 n t = some (r, 0)) X.length (by
    rintro i s hi ⟨h1, h2, h3⟩
    obtain ⟨x, k, e, hG, _, hlen, h0, ho, ht⟩ := hX X[i] (List.getElem_mem hi)
    have hof := of_ev e hG (by rw [e]; show ((len (one x k) : Nat) : Int) ≤ _; omega)
    refine ⟨s ++ [(ofS x k).1], ⟨by simp [h1], fun l hl => ?_, fun j t hj ht' => ?_⟩, EvL.of hof fun n f hn => ?_⟩
    · rcases List.mem_append.1 hl with hl | hl
      · exact h2 l hl
      · rw [List.mem_singleton] at hl; subst hl; exact ⟨ho, ht⟩
    · by_cases e2 : j = i
      · subst e2
        rw [List.getElem?_eq_getElem hi] at ht'
        cases ht'
        refine ⟨(ofS x k).1, ?_, hof.mono fun n hn => by rw [hn, ← h0]⟩
        rw [List.getElem?_append_right (by omega), h1]; simp
      · obtain ⟨r, r1, r2⟩ := h3 j t (by omega) ht'
        exact ⟨r, by rw [List.getElem?_append_left (by omega)]; exact r1, r2⟩
    · simp only [flow_succ, s83]
      rw [ltB_t (by omega), ix_get X i hi, hn, ix_succ i (by omega)]
      simp only [cond_true, Option.bind_some]
      rw [if_pos (by omega), if_pos (by omega), if_pos (by simp only [List.length_cons, List.length_nil]; omega)]) X.length 0 [] (by omega) ⟨rfl, (fun l hl => by cases hl), fun j t hj => by omega⟩
  refine ⟨L, ⟨by omega, h2⟩, ⟨h1, fun j t ht => h3 j t (List.getElem?_eq_some_iff.1 ht).1 ht⟩, hl.trans (EvL.one fun n f => ?_)⟩
  simp only [flow_succ, s83]
  rw [ltB_f (by omega), cond_false]
theorem asks_period {L : List (List Run)} {A : List PartT} {C : List ChanT} {X : List (List Node)} (a : List PartT) (b : List ChanT) (c : List (List Node)) (T : List Int) (p tot : Int) (B : Int) (hB : B = 1000) : ∀ k : Nat, (k : Int) ≤ B →
    ∃ per, EvL s83 (.L6 L tot (k : Int) A C X a b c T p) (.E6 L per A C X a b c T p)
  | 0, _ => ⟨tot, EvL.one fun n f => by
    simp only [flow_succ, s83]
    rw [ltB_f (by omega), cond_false]⟩
  | k + 1, h => by
    by_cases c1 : 1 < ((k + 1 : Nat) : Int)
    · by_cases c2 : Int.tmod tot ((k + 1 : Nat) : Int) = 0
      · refine ⟨w64 (Int.tdiv tot ((k + 1 : Nat) : Int)), EvL.one fun n f => ?_⟩
        simp only [flow_succ, s83]
        rw [ltB_t c1, cond_true, if_neg (by omega), eqB_t c2, cond_true, if_neg (by omega)]
      · obtain ⟨per, hl⟩ := asks_period (L := L) (A := A) (C := C) (X := X) a b c T p tot B hB k (by omega)
        refine ⟨per, EvL.trans (EvL.one fun n f => ?_) hl⟩
        simp only [flow_succ, s83]
        rw [ltB_t c1, cond_true, if_neg (by omega), eqB_f c2, cond_false, w64_id (by omega) (by omega), show ((k + 1 : Nat) : Int) - 1 = (k : Int) by omega]
    · refine ⟨tot, EvL.one fun n f => ?_⟩
      simp only [flow_succ, s83]
      rw [ltB_f (by omega), cond_false]
/-- asks: what it asks all the tables hold. -/
theorem asks_ev {P : Int} {A : List PartT} {C : List ChanT} {X : List (List Node)} (hX : FramesOk P X) (hX1 : X ≠ []) (hX2 : (X.length : Int) ≤ 1000) (hA2 : (A.length : Int) ≤ 1000) (hC2 : (C.length : Int) ≤ 1000) (hN : NamesOk A)
    (hA : ∀ x ∈ A, x.2.1 = 0) (hC : ∀ x ∈ C, x.2.2.2.2.2 = 0) (T : List Int) (p : Int) (ht : TOk (T, p)) :
    ∃ L A' C' p', ShortL L ∧ RunsOf X L ∧ PartsInL L A' ∧ ChansIn L C' ∧ NamesOk A' ∧ A'.length = A.length ∧ C'.length = C.length ∧ TOk (T, p') ∧ Ev fun n => p83 n (A, (C, X)) (T, p) = some ((A', (C', X)), (T, p')) := by
  obtain ⟨L, hL, hR, h1⟩ := asks_runs hX hX2 (A := A) (C := C) [] [] [] T p
  obtain ⟨C', p1, c1, c2, c3, h2⟩ := asks_chans hL (A := A) (X := X) [] [] [] T p ht C.length rfl hC2 (fun x hx l _ hb => by have := hb.1; rw [hC x hx] at this; omega)
  have hL0 : 0 < L.length := by
    have := hR.1
    have : X.length ≠ 0 := fun e => hX1 (List.length_eq_zero_iff.1 e)
    omega
  obtain ⟨o1, o2⟩ := hL.2 L[0] (List.getElem_mem hL0)
  have htot := total_ev o1 (by omega)
  obtain ⟨v, p2, n1, n2, n3, n4⟩ := next_ev c3 (a := 3) (by omega)
  obtain ⟨per, h3⟩ := asks_period (L := L) (A := A) (C := C') (X := X) [] [] [] T p2 (total L[0]) 1000 rfl (2 + v).toNat (by omega)
  obtain ⟨A', p3, a1, a2, a3, a4, h4⟩ := asks_parts hL (C := C') (X := X) [] [] [] T p2 per n3 A.length rfl hA2 (fun i x hx l _ hb => by have := hb.1; rw [hA x (List.mem_of_getElem? hx)] at this; omega) hN
  obtain ⟨y, hy⟩ := right_tot (A', (C', X)) ⟨by simp only; omega, by simp only; omega, hX2, a2, frames_tabs hX⟩
  obtain ⟨A2, b1, b2, b3, h5⟩ := asks_clear (L := L) (A := A') (C := C') (X := X) [] [] [] T p3 A'.length rfl (by omega) a1 a2
  have st : EvL s83 (.F (A, (C, X)) (T, p)) (.E8 A' C' X [] [] [] T p3) := by
    refine EvL.trans (EvL.one fun n f => ?_) (EvL.trans h1 (EvL.trans (EvL.one fun n f => ?_) (EvL.trans h2 (EvL.trans (EvL.of (htot.and n4) fun n f hn => ?_) (EvL.trans h3 (EvL.trans (EvL.one fun n f => ?_) h4))))))
    · simp only [flow_succ, s83]
    · simp only [flow_succ, s83]
    · simp only [flow_succ, s83]
      have e0 : L.getD 0 ([] : List (Int × Int)) = L[0] := by rw [List.getD_eq_getElem?_getD, List.getElem?_eq_getElem hL0]; rfl
      rw [if_pos (by omega), if_pos (by omega), e0, hn.1, Option.bind_some, hn.2, Option.bind_some, w64_id (by omega) (by omega), show ((2 + v).toNat : Int) = 2 + v by omega]
    · simp only [flow_succ, s83]
  by_cases cy : y = 0
  · refine ⟨L, A', C', p3, hL, hR, a1, c1, a2, a3, c2, a4, EvG.ev (st.gives (EvG.of hy fun n f hn => ?_))⟩
    simp only [flow_succ, s83, hn, Option.bind_some]
    rw [eqB_t cy]; rfl
  · refine ⟨L, A2, C', p3, hL, hR, b1, c1, b2, by omega, c2, a4, EvG.ev (st.gives (EvL.gives (EvL.of hy fun n f hn => ?_) (EvL.gives h5 (EvG.one fun n f => ?_))))⟩
    · simp only [flow_succ, s83, hn, Option.bind_some]
      rw [eqB_f cy]; rfl
    · simp only [flow_succ, s83]
end Go.Am.Tab
