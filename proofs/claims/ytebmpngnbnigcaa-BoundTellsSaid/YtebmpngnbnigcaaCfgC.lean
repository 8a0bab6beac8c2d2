/- Walks: the document's Right of a configuration gives an answer. -/
import Derived.Test.YtebmpngnbnigcaaCfgB
import Derived.Test.YtebmpngnbnigcaaWays
set_option linter.unusedVariables false
set_option linter.unusedSimpArgs false
namespace Go.Am.Tab
open Fr
theorem name_tot (l : List UInt8) (hl : (l.length : Int) ≤ 100000) : ∃ b, Ev fun n => p66 n l = some b := by
  have step : ∀ i, i < l.length → EvW s66 (.L0 l ((i : Nat) : Int)) (· = .L0 l ((i + 1 : Nat) : Int)) (fun _ => True) := by
    intro i hi
    refine EvW.then (Q' := (· = .Q3 l (i : Int))) ?_ ?_
    · apply EvW.one
      · intro n k
        simp only [s66]
        rw [ltB_t (by omega)]
      · repeat' first | exact way_k rfl | exact way_r trivial | with_reducible apply way_true | with_reducible apply way_false | (refine way_pos (by omega) ?_) | (refine way_cond (fun _ => ?_) (fun _ => ?_))
    · rintro q rfl
      apply EvW.one
      · intro n k
        simp only [s66]
        rw [ix_succ i (by omega)]
      · exact way_k rfl
  have h := EvW.rounds (t := s66) (Q := fun _ => False) (Y := fun _ => True) (fun i => .L0 l ((i : Nat) : Int)) l.length step (by
    refine EvW.then (Q' := (· = .E0 l)) ?_ ?_
    · apply EvW.one
      · intro n k
        simp only [s66]
        rw [ltB_f (by omega)]
      · exact way_k rfl
    · rintro q rfl
      apply EvW.one
      · intro n k
        simp only [s66]
        rfl
      · repeat' first | exact way_k rfl | exact way_r trivial | with_reducible apply way_true | with_reducible apply way_false | (refine way_pos (by omega) ?_) | (refine way_cond (fun _ => ?_) (fun _ => ?_))) l.length 0 (by omega)
  obtain ⟨y, _, hy⟩ := h.gives
  refine ⟨y, EvG.ev (EvL.gives (EvL.one fun n f => ?_) hy)⟩
  simp only [flow_succ, s66] <;> rfl

theorem chan_tot (x : ChanT) (m : Int) : ∃ b, Ev fun n => p150 n x m = some b := by
  have h : EvW s150 (.F x m) (fun _ => False) (fun _ => True) := by
    apply EvW.one
    · intro n k
      simp only [s150]
      rfl
    · repeat' first | exact way_k rfl | exact way_r trivial | with_reducible apply way_true | with_reducible apply way_false | (refine way_pos (by omega) ?_) | (refine way_cond (fun _ => ?_) (fun _ => ?_))
  obtain ⟨y, _, hy⟩ := h.gives
  exact ⟨y, EvG.ev hy⟩
theorem part_tot (x : PartT) : ∃ b, Ev fun n => p149 n x = some b := by
  by_cases c1 : (x.2.2.2.2.2.1.length : Int) < 1
  · refine ⟨false, EvG.ev (EvG.one fun n f => ?_)⟩
    simp only [flow_succ, s149]
    rw [ltB_t c1]; rfl
  by_cases c2 : 3 < (x.2.2.2.2.2.1.length : Int)
  · refine ⟨false, EvG.ev (EvG.one fun n f => ?_)⟩
    simp only [flow_succ, s149]
    rw [ltB_f (by omega), ltB_t c2]; rfl
  have e2 : EvW s149 (.E2 x.1 x.2.1 x.2.2.1 x.2.2.2.1 x.2.2.2.2.1 x.2.2.2.2.2.1 x.2.2.2.2.2.2) (fun _ => False) (fun _ => True) := by
    apply EvW.one
    · intro n k
      simp only [s149]
      rfl
    · repeat' first | exact way_k rfl | exact way_r trivial | with_reducible apply way_true | with_reducible apply way_false | (refine way_pos (by omega) ?_) | (refine way_cond (fun _ => ?_) (fun _ => ?_))
  have h2 := EvW.rounds (t := s149) (Q := fun _ => False) (Y := fun _ => True) (fun i => .L2 x.2.2.2.2.2.2 ((i : Nat) : Int) x.1 x.2.1 x.2.2.1 x.2.2.2.1 x.2.2.2.2.1 x.2.2.2.2.2.1 x.2.2.2.2.2.2) 5 (by
    intro i hi
    apply EvW.one
    · intro n k
      simp only [s149]
      rw [ltB_t (by omega), ix_succ i (by omega)]
    · repeat' first | exact way_k rfl | exact way_r trivial | with_reducible apply way_true | with_reducible apply way_false | (refine way_pos (by omega) ?_) | (refine way_cond (fun _ => ?_) (fun _ => ?_))) (EvW.then (Q' := (· = .E2 x.1 x.2.1 x.2.2.1 x.2.2.2.1 x.2.2.2.2.1 x.2.2.2.2.2.1 x.2.2.2.2.2.2)) (by
      apply EvW.one
      · intro n k
        simp only [s149]
        rw [ltB_f (by omega)]
      · repeat' first | exact way_k rfl | exact way_r trivial | with_reducible apply way_true | with_reducible apply way_false | (refine way_pos (by omega) ?_) | (refine way_cond (fun _ => ?_) (fun _ => ?_))) (by rintro q rfl; exact e2)) 5 0 rfl
  have h1 := EvW.rounds (t := s149) (Q := fun _ => False) (Y := fun _ => True) (fun i => .L0 x.2.2.2.2.2.1 x.2.2.2.2.2.1.length ((i : Nat) : Int) x.1 x.2.1 x.2.2.1 x.2.2.2.1 x.2.2.2.2.1 x.2.2.2.2.2.1 x.2.2.2.2.2.2) x.2.2.2.2.2.1.length (by
    intro i hi
    apply EvW.one
    · intro n k
      simp only [s149]
      rw [ltB_t (by omega), ix_succ i (by omega)]
    · repeat' first | exact way_k rfl | exact way_r trivial | with_reducible apply way_true | with_reducible apply way_false | (refine way_pos (by omega) ?_) | (refine way_cond (fun _ => ?_) (fun _ => ?_))) (EvW.then (Q' := (· = .E0 x.1 x.2.1 x.2.2.1 x.2.2.2.1 x.2.2.2.2.1 x.2.2.2.2.2.1 x.2.2.2.2.2.2)) (by
      apply EvW.one
      · intro n k
        simp only [s149]
        rw [ltB_f (by omega)]
      · repeat' first | exact way_k rfl | exact way_r trivial | with_reducible apply way_true | with_reducible apply way_false | (refine way_pos (by omega) ?_) | (refine way_cond (fun _ => ?_) (fun _ => ?_))) (by
      rintro q rfl
      refine EvW.from (EvL.one fun n f => ?_) h2
      simp only [flow_succ, s149]
      rfl)) x.2.2.2.2.2.1.length 0 (by omega)
  obtain ⟨y, _, hy⟩ := h1.gives
  refine ⟨y, EvG.ev (EvL.gives (EvL.one fun n f => ?_) hy)⟩
  simp only [flow_succ, s149]
  rw [ltB_f (by omega), ltB_f (by omega)]; rfl
/-- Tables that are trees. -/
def TabsOk (l : List (List Node)) : Prop := ∀ t ∈ l, ∃ x k, t = flat (one x k) ∧ Good (one x k) ∧ ((len (one x k) : Nat) : Int) ≤ 100000
def SmallC (c : ConfT) : Prop := (c.1.length : Int) ≤ 1000 ∧ (c.2.1.length : Int) ≤ 1000 ∧ (c.2.2.length : Int) ≤ 1000 ∧ (∀ p ∈ c.1, (p.1.length : Int) ≤ 100000) ∧ TabsOk c.2.2
theorem where_tot (c : ConfT) (h : SmallC c) : ∃ y, Ev fun n => p113 n c = some y := by
  obtain ⟨h1, h2, h3, hn, ht⟩ := h
  -- tables
  have tab : ∀ i : Nat, i < c.2.2.length → EvW s113 (.L6 c.2.2 c.2.2.length (i : Int) c.1 c.2.1 c.2.2) (· = .L6 c.2.2 c.2.2.length ((i + 1 : Nat) : Int) c.1 c.2.1 c.2.2) (fun _ => True) := by
    intro i hi
    refine EvW.then (Q' := (· = .Q24 c.2.2 c.2.2.length (i : Int) c.1 c.2.1 c.2.2)) ?_ ?_
    · apply EvW.one
      · intro n k
        simp only [s113]
        rw [ltB_t (by omega)]
      · repeat' first | exact way_k rfl | exact way_r trivial | with_reducible apply way_true | with_reducible apply way_false | (refine way_pos (by omega) ?_) | (refine way_cond (fun _ => ?_) (fun _ => ?_))
    rintro q rfl
    obtain ⟨x, k, e, hG, hl⟩ := ht c.2.2[i] (List.getElem_mem hi)
    have hof := of_ev e hG (by rw [e]; exact hl)
    obtain ⟨o1, _, o3⟩ := ofS_ok hG
    have hle := length_le_total o1
    have hho := holdsR_ev o1 (by omega) c (by omega) (by omega)
    generalize (ofS x k) = o at *
    refine EvW.then (Q' := (· = .L8 (i : Int) o.1 c.2.2 c.2.2.length (i : Int) o.1 o.1.length 0 c.1 c.2.1 c.2.2)) ?_ ?_
    · apply EvW.of hof
      · intro n hn k
        simp only [s113]
        rw [ix_get c.2.2 i hi, hn, Option.bind_some]
      · repeat' first | exact way_k rfl | exact way_r trivial | with_reducible apply way_true | with_reducible apply way_false | (refine way_pos (by omega) ?_) | (refine way_cond (fun _ => ?_) (fun _ => ?_))
    rintro q rfl
    refine EvW.rounds (t := s113) (fun j => .L8 (i : Int) o.1 c.2.2 c.2.2.length (i : Int) o.1 o.1.length ((j : Nat) : Int) c.1 c.2.1 c.2.2) o.1.length ?_ ?_ o.1.length 0 (by omega)
    · intro j hj
      apply EvW.one
      · intro n k
        simp only [s113]
        rw [ltB_t (by omega), ix_succ j (by omega)]
      · repeat' first | exact way_k rfl | exact way_r trivial | with_reducible apply way_true | with_reducible apply way_false | (refine way_pos (by omega) ?_) | (refine way_cond (fun _ => ?_) (fun _ => ?_))
    · refine EvW.then (Q' := (· = .E8 (i : Int) o.1 c.2.2 c.2.2.length (i : Int) c.1 c.2.1 c.2.2)) ?_ ?_
      · apply EvW.one
        · intro n k
          simp only [s113]
          rw [ltB_f (by omega)]
        · repeat' first | exact way_k rfl | exact way_r trivial | with_reducible apply way_true | with_reducible apply way_false | (refine way_pos (by omega) ?_) | (refine way_cond (fun _ => ?_) (fun _ => ?_))
      rintro q rfl
      apply EvW.of hho
      · intro n hn k
        simp only [s113]
        rw [show (c.1, (c.2.1, c.2.2)) = c from rfl, hn, Option.bind_some, ix_succ i (by omega)]
      · repeat' first | exact way_k rfl | exact way_r trivial | with_reducible apply way_true | with_reducible apply way_false | (refine way_pos (by omega) ?_) | (refine way_cond (fun _ => ?_) (fun _ => ?_))
  have tabs := EvW.rounds (t := s113) (Q := fun _ => False) (Y := fun _ => True) (fun i => .L6 c.2.2 c.2.2.length ((i : Nat) : Int) c.1 c.2.1 c.2.2) c.2.2.length tab (EvW.then (Q' := (· = .E6)) (by
    apply EvW.one
    · intro n k
      simp only [s113]
      rw [ltB_f (by omega)]
    · repeat' first | exact way_k rfl | exact way_r trivial | with_reducible apply way_true | with_reducible apply way_false | (refine way_pos (by omega) ?_) | (refine way_cond (fun _ => ?_) (fun _ => ?_))) (by
    rintro q rfl
    apply EvW.one
    · intro n k
      simp only [s113]
      rfl
    · repeat' first | exact way_k rfl | exact way_r trivial | with_reducible apply way_true | with_reducible apply way_false | (refine way_pos (by omega) ?_) | (refine way_cond (fun _ => ?_) (fun _ => ?_)))) c.2.2.length 0 (by omega)
  -- channels
  have chans := EvW.rounds (t := s113) (Q := fun _ => False) (Y := fun _ => True) (fun i => .L4 c.2.1 c.2.1.length ((i : Nat) : Int) c.1 c.2.1 c.2.2) c.2.1.length (by
    intro i hi
    obtain ⟨b, hb⟩ := chan_tot c.2.1[i] c.1.length
    apply EvW.of hb
    · intro n hn k
      simp only [s113]
      rw [ltB_t (by omega), ix_get c.2.1 i hi, hn, Option.bind_some, ix_succ i (by omega)]
    · repeat' first | exact way_k rfl | exact way_r trivial | with_reducible apply way_true | with_reducible apply way_false | (refine way_pos (by omega) ?_) | (refine way_cond (fun _ => ?_) (fun _ => ?_))) (EvW.then (Q' := (· = .E4 c.1 c.2.1 c.2.2)) (by
    apply EvW.one
    · intro n k
      simp only [s113]
      rw [ltB_f (by omega), cond_false]
    · repeat' first | exact way_k rfl | exact way_r trivial | with_reducible apply way_true | with_reducible apply way_false | (refine way_pos (by omega) ?_) | (refine way_cond (fun _ => ?_) (fun _ => ?_))) (by
    rintro q rfl
    refine EvW.from (EvL.one fun n f => ?_) tabs
    simp only [flow_succ, s113]
    rfl)) c.2.1.length 0 (by omega)
  -- partitions
  have part : ∀ i : Nat, i < c.1.length → EvW s113 (.L0 c.1 c.1.length (i : Int) c.1 c.2.1 c.2.2) (· = .L0 c.1 c.1.length ((i + 1 : Nat) : Int) c.1 c.2.1 c.2.2) (fun _ => True) := by
    intro i hi
    refine EvW.then (Q' := (· = .Q5 c.1 c.1.length (i : Int) c.1 c.2.1 c.2.2)) ?_ ?_
    · apply EvW.one
      · intro n k
        simp only [s113]
        rw [ltB_t (by omega)]
      · repeat' first | exact way_k rfl | exact way_r trivial | with_reducible apply way_true | with_reducible apply way_false | (refine way_pos (by omega) ?_) | (refine way_cond (fun _ => ?_) (fun _ => ?_))
    rintro q rfl
    have hg := fun d => ix_get c.1 i hi d
    have hmem := List.getElem_mem hi
    generalize c.1[i] = p at *
    obtain ⟨b, hb⟩ := name_tot p.1 (hn p hmem)
    obtain ⟨b2, hb2⟩ := part_tot p
    refine EvW.then (Q' := (· = .L2 (i : Int) ((0 : Nat) : Int) c.1 c.1.length (i : Int) c.1 c.2.1 c.2.2 p.1 p.2.1 p.2.2.1 p.2.2.2.1 p.2.2.2.2.1 p.2.2.2.2.2.1 p.2.2.2.2.2.2)) ?_ ?_
    · apply EvW.of hb
      · intro n hn k
        simp only [s113, hg, hn, Option.bind_some]
        rfl
      · repeat' first | exact way_k rfl | exact way_r trivial | with_reducible apply way_true | with_reducible apply way_false | (refine way_pos (by omega) ?_) | (refine way_cond (fun _ => ?_) (fun _ => ?_))
    rintro q rfl
    refine EvW.rounds (t := s113) (fun j => .L2 (i : Int) ((j : Nat) : Int) c.1 c.1.length (i : Int) c.1 c.2.1 c.2.2 p.1 p.2.1 p.2.2.1 p.2.2.2.1 p.2.2.2.2.1 p.2.2.2.2.2.1 p.2.2.2.2.2.2) i ?_ ?_ i 0 (by omega)
    · intro j hj
      apply EvW.one
      · intro n k
        simp only [s113]
        rw [ltB_t (by omega), ix_succ j (by omega)]
      · repeat' first | exact way_k rfl | exact way_r trivial | with_reducible apply way_true | with_reducible apply way_false | (refine way_pos (by omega) ?_) | (refine way_cond (fun _ => ?_) (fun _ => ?_))
    · refine EvW.then (Q' := (· = .E2 (i : Int) c.1 c.1.length (i : Int) c.1 c.2.1 c.2.2 p.1 p.2.1 p.2.2.1 p.2.2.2.1 p.2.2.2.2.1 p.2.2.2.2.2.1 p.2.2.2.2.2.2)) ?_ ?_
      · apply EvW.one
        · intro n k
          simp only [s113]
          rw [ltB_f (by omega)]
        · repeat' first | exact way_k rfl | exact way_r trivial | with_reducible apply way_true | with_reducible apply way_false | (refine way_pos (by omega) ?_) | (refine way_cond (fun _ => ?_) (fun _ => ?_))
      rintro q rfl
      apply EvW.of hb2
      · intro n hn k
        simp only [s113]
        rw [show (p.1, (p.2.1, (p.2.2.1, (p.2.2.2.1, (p.2.2.2.2.1, (p.2.2.2.2.2.1, p.2.2.2.2.2.2)))))) = p from rfl, hn, Option.bind_some, ix_succ i (by omega)]
      · repeat' first | exact way_k rfl | exact way_r trivial | with_reducible apply way_true | with_reducible apply way_false | (refine way_pos (by omega) ?_) | (refine way_cond (fun _ => ?_) (fun _ => ?_))
  have parts := EvW.rounds (t := s113) (Q := fun _ => False) (Y := fun _ => True) (fun i => .L0 c.1 c.1.length ((i : Nat) : Int) c.1 c.2.1 c.2.2) c.1.length part (EvW.then (Q' := (· = .E0 c.1 c.2.1 c.2.2)) (by
    apply EvW.one
    · intro n k
      simp only [s113]
      rw [ltB_f (by omega)]
    · repeat' first | exact way_k rfl | exact way_r trivial | with_reducible apply way_true | with_reducible apply way_false | (refine way_pos (by omega) ?_) | (refine way_cond (fun _ => ?_) (fun _ => ?_))) (by
    rintro q rfl
    refine EvW.from (EvL.one fun n f => ?_) chans
    simp only [flow_succ, s113]
    rfl)) c.1.length 0 (by omega)
  have all : EvW s113 (.F c) (fun _ => False) (fun _ => True) := EvW.then (Q' := (· = .L0 c.1 c.1.length ((0 : Nat) : Int) c.1 c.2.1 c.2.2)) (by
    apply EvW.one
    · intro n k
      simp only [s113]
      rfl
    · repeat' first | exact way_k rfl | exact way_r trivial | with_reducible apply way_true | with_reducible apply way_false | (refine way_pos (by omega) ?_) | (refine way_cond (fun _ => ?_) (fun _ => ?_))) (by rintro q rfl; exact parts)
  obtain ⟨y, _, hy⟩ := all.gives
  exact ⟨y, EvG.ev hy⟩
theorem right_tot (c : ConfT) (h : SmallC c) : ∃ y, Ev fun n => p134 n c = some y := by
  obtain ⟨y, hy⟩ := where_tot c h
  refine ⟨y.1, EvG.ev (EvG.of hy fun n f hn => ?_)⟩
  simp only [flow_succ, s134, hn, Option.bind_some]
end Go.Am.Tab
