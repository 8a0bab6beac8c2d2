/- BoundTells: whatever the input it gives true. -/
import Derived.Test.YtebmpngnbnigcaaCfgH
import Derived.Test.YtebmpngnbnigcaaG19
set_option linter.unusedVariables false
set_option linter.unusedSimpArgs false
namespace Go.Am.Tab
open Fr
theorem w64_le (x : Int) : w64 x ≤ 9223372036854775807 := by
  unfold w64
  rw [Go.IntWalk.i64_left]
  unfold RowKit.wrap64
  first | omega | (split <;> omega)
theorem known29 (n : Nat) : p29 n = some true := rfl
theorem bt_late (a b per late bud tot : Int) (l : List Run) (A : List PartT) (X : List (List Node)) (T : List Int) (p : Int) (m : Nat) (hm2 : (m : Int) ≤ 1000) (C : List ChanT) (hm : C.length = m) :
    ∃ C', C'.length = m ∧ EvL s4 (.L0 a b per late bud tot m 0 l A C X T p) (.E0 a b per bud tot l A C' X T p) := by
  obtain ⟨s, h1, hl⟩ := EvL.range (t := s4) (σ := List ChanT) (fun i s => .L0 a b per late bud tot m ((i : Nat) : Int) l A s X T p) (fun _ s => s.length = m) m (by
    intro i s hi h1
    have hi2 : i < s.length := by omega
    refine ⟨s.set i (s[i].1, (s[i].2.1, (s[i].2.2.1, (s[i].2.2.2.1, (s[i].2.2.2.2.1, bitOp .i64 .and late 31))))), by rw [List.length_set]; exact h1, EvL.one fun n f => ?_⟩
    simp only [flow_succ, s4]
    rw [ltB_t (by omega), cond_true, if_pos (by omega), if_pos (by omega), ix_succ i (by omega)]
    simp only [ix_get s i hi2]
    simp only [Int.toNat_natCast]) m 0 C (by omega) hm
  refine ⟨s, h1, hl.trans (EvL.one fun n f => ?_)⟩
  simp only [flow_succ, s4]
  rw [ltB_f (by omega), cond_false]
theorem bt_period (a b per tot : Int) (l : List Run) (A : List PartT) (C : List ChanT) (X : List (List Node)) (A2 : List PartT) (C2 : List ChanT) (X2 : List (List Node)) (r : List Run) (B : Int) (hB : B = 9223372036854775807) : ∀ k : Nat, (k : Int) ≤ B →
    ∃ d, EvL s4 (.L2 a b per tot (k : Int) l A C X A2 C2 X2 r) (.E2 a b per d l A C X A2 C2 X2 r)
  | 0, _ => ⟨0, EvL.one fun n f => by
    simp only [flow_succ, s4]
    rw [ltB_f (by omega), cond_false]; rfl⟩
  | k + 1, h => by
    by_cases c1 : 1 < ((k + 1 : Nat) : Int)
    · by_cases c2 : Int.tmod tot ((k + 1 : Nat) : Int) = 0
      · refine ⟨((k + 1 : Nat) : Int), EvL.one fun n f => ?_⟩
        simp only [flow_succ, s4]
        rw [ltB_t c1, cond_true, if_neg (by omega), eqB_t c2]; rfl
      · obtain ⟨d, hl⟩ := bt_period a b per tot l A C X A2 C2 X2 r B hB k (by omega)
        refine ⟨d, EvL.trans (EvL.one fun n f => ?_) hl⟩
        simp only [flow_succ, s4]
        rw [ltB_t c1, cond_true, if_neg (by omega), eqB_f c2, Bool.not_false, cond_true, w64_id (by omega) (by omega), show ((k + 1 : Nat) : Int) - 1 = (k : Int) by omega]
    · refine ⟨((k + 1 : Nat) : Int), EvL.one fun n f => ?_⟩
      simp only [flow_succ, s4]
      rw [ltB_f (by omega), cond_false]
theorem bt_period' (a b per tot d0 : Int) (h0 : d0 ≤ 9223372036854775807) (l : List Run) (A : List PartT) (C : List ChanT) (X : List (List Node)) (A2 : List PartT) (C2 : List ChanT) (X2 : List (List Node)) (r : List Run) :
    ∃ d, EvL s4 (.L2 a b per tot d0 l A C X A2 C2 X2 r) (.E2 a b per d l A C X A2 C2 X2 r) := by
  by_cases h : 0 ≤ d0
  · obtain ⟨k, rfl⟩ := Int.eq_ofNat_of_zero_le h
    exact bt_period a b per tot l A C X A2 C2 X2 r 9223372036854775807 rfl k h0
  · refine ⟨d0, EvL.one fun n f => ?_⟩
    simp only [flow_succ, s4]
    rw [ltB_f (by omega), cond_false]
theorem tells_ev (t : List Int) (ht : (t.length : Int) ≤ 9223372036854775807) (a b per late bud : Int) : Ev fun n => p4 n t a b per late bud = some true := by
  obtain ⟨l, q, hq, ⟨r1, r2, _⟩, _, r3, hl⟩ := runs_ev (parts := 4) (most := 14) (by omega) (by omega) (by omega) (by omega) t 0 ⟨Int.le_refl _, by simp only; omega, ht⟩
  obtain ⟨N, A, C, X, L, q2, k1, k2, k3, k4, k5, k6, k7, k8, k9, k10, k11, k12, hq2, hc⟩ := config_ev t q hq
  obtain ⟨N2, A2, C2, X2, L2, q3, m1, m2, m3, m4, m5, m6, m7, m8, m9, m10, m11, m12, hq3, hc2⟩ := config_ev t q2 hq2
  have htot := total_ev r1 (by omega)
  obtain ⟨C', j1, j2⟩ := bt_late a b per late bud (total l) l A X t q2 C.length (by omega) C rfl
  cases X2 with
  | nil => exact absurd rfl m6
  | cons t0 X3 =>
  obtain ⟨r, s1, s2⟩ := m9.2 0 t0 rfl
  have hr : r ∈ L2 := List.mem_of_getElem? s1
  obtain ⟨o1, o2⟩ := m8.2 r hr
  have hz : holdsS (A2, (C2, t0 :: X3)) r = 0 := holds_zero (c := (A2, (C2, t0 :: X3))) m11 m10 r hr
  cases A with
  | nil => simp at k3; omega
  | cons x A' =>
  have hd : w64 (1 + bitOp .i64 .and per 63) ≤ 9223372036854775807 := w64_le _
  obtain ⟨d, e1⟩ := bt_period' a b per (total l) _ hd l ((x.1, (bitOp .i64 .and bud 7, (w64 (1 + bitOp .i64 .and per 15), x.2.2.2))) :: A') C' X A2 C2 (t0 :: X3) r
  simp only [List.length_cons] at k3
  have g1 := same_ev (w64 (bitOp .i64 .and a 7 - 1)) (w64 (bitOp .i64 .and b 7 - 1)) (d := per) r1 (by omega)
  have g2 := same_ev (bitOp .i64 .and a 3) (bitOp .i64 .and b 3) (d := d) r1 (by omega)
  generalize hA1 : ((x.1, (bitOp .i64 .and bud 7, (w64 (1 + bitOp .i64 .and per 15), x.2.2.2))) :: A' : List PartT) = A1 at *
  have hl1 : (A1.length : Int) ≤ 1000 := by rw [← hA1]; simp only [List.length_cons]; omega
  have g3 := holds_ev r1 (by omega) (A1, (C', X)) (by simp only; omega) (by simp only; omega)
  have g4 := holdsR_ev r1 (by omega) (A1, (C', X)) (by simp only; omega) (by simp only; omega)
  have g5 := holds_ev o1 (by omega) (A1, (C', X)) (by simp only; omega) (by simp only; omega)
  have g6 := holdsR_ev o1 (by omega) (A1, (C', X)) (by simp only; omega) (by simp only; omega)
  have g7 := holds_ev o1 (by omega) (A2, (C2, t0 :: X3)) (by simp only; omega) (by simp only; omega)
  rw [hz] at g7
  refine EvG.ev (EvL.gives (EvL.of (hl.and (hc.and htot)) fun n f hn => ?_) (EvL.gives j2 (EvL.gives (EvL.of (hc2.and s2) fun n f hn => ?_) (EvL.gives e1 (EvG.of (g1.and (g2.and (g3.and (g4.and (g5.and (g6.and g7)))))) fun n f hn => ?_)))))
  · simp only [flow_succ, s4]
    rw [hn.1, Option.bind_some, hn.2.1, Option.bind_some, hn.2.2, Option.bind_some]
  · simp only [flow_succ, s4]
    rw [hn.1]
    simp only [Option.bind_some, List.length_cons, List.getD_cons_zero, List.set_cons_zero]
    rw [if_pos (by omega), if_pos (by omega), if_pos (by omega), if_pos (by omega), if_pos (by omega), if_pos (by omega), hn.2, Option.bind_some, hA1]
  · obtain ⟨y1, y2, y3, y4, y5, y6, y7⟩ := hn
    simp only [flow_succ, s4]
    rw [y1, Option.bind_some, cond_true, y2, Option.bind_some, cond_true, y3, Option.bind_some, y4, Option.bind_some, eqB_t rfl, cond_true, y5, Option.bind_some, y6, Option.bind_some, eqB_t rfl, cond_true, y7, Option.bind_some, eqB_t rfl, cond_true, known29]; rfl
end Go.Am.Tab
