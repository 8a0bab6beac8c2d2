/- Walks: what all of a run of rounds keeps; how long runs are; runs of a tape; frames of a tape. -/
import Derived.Test.YtebmpngnbnigcaaTabTape
import Derived.Test.YtebmpngnbnigcaaG4a
import Derived.Test.YtebmpngnbnigcaaG8
set_option linter.unusedVariables false
set_option linter.unusedSimpArgs false
namespace Go.Am
section
variable {P R σ : Type} {t : Nat → Steps P R}
/-- Round by round. -/
theorem EvL.range (head : Nat → σ → P) (inv : Nat → σ → Prop) (N : Nat) (step : ∀ i s, i < N → inv i s → ∃ s', inv (i + 1) s' ∧ EvL t (head i s) (head (i + 1) s')) : ∀ (k i : Nat) (s : σ), i + k = N → inv i s → ∃ s', inv N s' ∧ EvL t (head i s) (head N s')
  | 0, i, s, e, h => by
    have e : i = N := by omega
    subst e
    exact ⟨s, h, EvL.refl⟩
  | k + 1, i, s, e, h => by
    obtain ⟨s1, h1, h2⟩ := step i s (by omega) h
    obtain ⟨s', h3, h4⟩ := EvL.range head inv N step k (i + 1) s1 (by omega) h1
    exact ⟨s', h3, h2.trans h4⟩
theorem EvL.rangeOr (Q : R → Prop) (head : Nat → σ → P) (inv : Nat → σ → Prop) (N : Nat) (step : ∀ i s, i < N → inv i s → (∃ s', inv (i + 1) s' ∧ EvL t (head i s) (head (i + 1) s')) ∨ ∃ y, Q y ∧ EvG t (head i s) y) : ∀ (k i : Nat) (s : σ), i + k = N → inv i s → (∃ s', inv N s' ∧ EvL t (head i s) (head N s')) ∨ ∃ y, Q y ∧ EvG t (head i s) y
  | 0, i, s, e, h => by
    have e : i = N := by omega
    subst e
    exact .inl ⟨s, h, EvL.refl⟩
  | k + 1, i, s, e, h => by
    rcases step i s (by omega) h with ⟨s1, h1, h2⟩ | ⟨y, h1, h2⟩
    · rcases EvL.rangeOr Q head inv N step k (i + 1) s1 (by omega) h1 with ⟨s', h3, h4⟩ | ⟨y, h3, h4⟩
      · exact .inl ⟨s', h3, h2.trans h4⟩
      · exact .inr ⟨y, h3, h2.gives h4⟩
    · exact .inr ⟨y, h1, h2⟩
end
theorem ix_get {α : Type} (l : List α) (i : Nat) (h : i < l.length) (d : α) : l.getD (Int.toNat (i : Int)) d = l[i] := by
  rw [Int.toNat_natCast, List.getD_eq_getElem?_getD, List.getElem?_eq_getElem h]; rfl
theorem ix_succ (i : Nat) (h : (i : Int) ≤ 1000000000000) : w64 ((i : Int) + 1) = ((i + 1 : Nat) : Int) := by
  rw [w64_id (by omega) (by omega)]; omega
end Go.Am
namespace Go.Am.Tab
open Fr

theorem total_loop (l : List Run) (hl : (l.length : Int) ≤ 1000000) : ∀ (l2 pre : List Run) (a : Int), l = pre ++ l2 → Fr.Ok l2 → 0 ≤ a → a + total l2 ≤ 9223372036854775807 → EvL s21 (.L0 a l l.length pre.length) (.E0 (a + total l2))
  | [], pre, a, e, _, _, _ => EvL.one fun n f => by
    have := at_end e
    simp only [flow_succ, s21]
    rw [ltB_f (by omega)]
    simp [total]
  | r :: l2, pre, a, e, ho, ha, hb => by
    have h1 := ho.head
    have h2 := total_nonneg ho.tail
    simp only [total] at hb
    have ih := total_loop l hl l2 (pre ++ [r]) (a + r.2) (at_next e) ho.tail (by omega) (by omega)
    have e2 : a + total (r :: l2) = a + r.2 + total l2 := by simp only [total]; omega
    rw [e2]
    refine EvL.trans (EvL.of (sum_ev (a := a) (b := r.2) ha (by omega) (by omega)) fun n f hn => ?_) ih
    simp only [flow_succ, s21]
    have h3 := at_lt e
    rw [ltB_t h3, at_get e, hn, at_succ pre r (by omega)]
    simp only [cond_true, Option.bind_some]
    rw [if_pos (by omega), if_pos h3]
theorem total_ev {l : List Run} (ho : Fr.Ok l) (h : total l ≤ 1000000) : Ev fun n => p21 n l = some (total l) := by
  have := length_le_total ho
  have h1 := total_loop l (by omega) l [] 0 rfl ho (by omega) (by omega)
  rw [Int.zero_add] at h1
  refine EvG.ev (EvL.gives (EvL.one fun n f => ?_) (EvL.gives h1 (EvG.one fun n f => ?_)))
  · simp only [flow_succ, s21]; rfl
  · simp only [flow_succ, s21]

/-- Runs of a tape. -/
def RunsOk (parts : Int) (l : List Run) : Prop := Fr.Ok l ∧ total l ≤ 4 * l.length ∧ ∀ r ∈ l, -1 ≤ r.1 ∧ r.1 < parts
theorem runs_loop {parts : Int} (hp : 1 ≤ parts) (hp2 : parts ≤ 1000) (T : List Int) : ∀ (m : Nat) (acc : List Run) (p : Int), TOk (T, p) → m + acc.length ≤ 1000 → RunsOk parts acc →
    ∃ l p', TOk (T, p') ∧ RunsOk parts l ∧ l.length = acc.length + m ∧ EvL s20 (.L0 parts m acc T p) (.E0 l T p')
  | 0, acc, p, ht, hm, ha => ⟨acc, p, ht, ha, rfl, EvL.one fun n f => by
    simp only [flow_succ, s20]
    rw [ltB_f (by omega)]; rfl⟩
  | m + 1, acc, p, ht, hm, ⟨a1, a2, a3⟩ => by
    obtain ⟨v, p1, b1, b2, b3, b4⟩ := next_ev ht (a := parts + 1) (by omega)
    obtain ⟨u, p2, c1, c2, c3, c4⟩ := next_ev b3 (a := 4) (by omega)
    obtain ⟨l, p', d1, d2, d3, d4⟩ := runs_loop hp hp2 T m (acc ++ [(v - 1, 1 + u)]) p2 c3 (by simp; omega) ⟨ok_append a1 (fun r hr => by
      rw [List.mem_singleton] at hr; subst hr; simp only; omega), by rw [total_append]; simp [total]; omega, fun r hr => by
      rcases List.mem_append.1 hr with hr | hr
      · exact a3 r hr
      · rw [List.mem_singleton] at hr; subst hr; simp only; omega⟩
    refine ⟨l, p', d1, d2, by rw [d3]; simp; omega, EvL.trans (EvL.of (b4.and c4) fun n f hn => ?_) d4⟩
    simp only [flow_succ, s20]
    rw [ltB_t (by omega), w64_id (x := parts + 1) (by omega) (by omega), hn.1]
    simp only [cond_true, Option.bind_some]
    rw [hn.2, Option.bind_some, if_pos (by simp only [List.length_cons, List.length_nil]; omega), w64_id (x := v - 1) (by omega) (by omega), w64_id (x := 1 + u) (by omega) (by omega), w64_id (by omega) (by omega), show ((m + 1 : Nat) : Int) - 1 = (m : Int) by omega]
theorem runs_ev {parts most : Int} (hp : 1 ≤ parts) (hp2 : parts ≤ 1000) (hm : 1 ≤ most) (hm2 : most ≤ 1000) (T : List Int) (p : Int) (ht : TOk (T, p)) :
    ∃ l p', TOk (T, p') ∧ RunsOk parts l ∧ 1 ≤ l.length ∧ (l.length : Int) ≤ most ∧ Ev fun n => p20 n parts most (T, p) = some (l, (T, p')) := by
  obtain ⟨v, p1, b1, b2, b3, b4⟩ := next_ev ht hm
  obtain ⟨l, p', d1, d2, d3, d4⟩ := runs_loop hp hp2 T (1 + v).toNat [] p1 b3 (by simp; omega) ⟨(fun r hr => by cases hr), by simp [total], (fun r hr => by cases hr)⟩
  simp only [List.length_nil, Nat.zero_add] at d3
  refine ⟨l, p', d1, d2, by omega, by omega, EvG.ev (EvL.gives (EvL.of b4 fun n f hn => ?_) (EvL.gives d4 (EvG.one fun n f => ?_)))⟩
  · simp only [flow_succ, s20, hn, Option.bind_some]
    rw [w64_id (x := 1 + v) (by omega) (by omega), show ((1 + v).toNat : Int) = 1 + v by omega]
  · simp only [flow_succ, s20]

/-! ### Frames -/
/-- A table that is right, of partitions that there are, not too long. -/
def FrameOk (P : Int) (x : Node) (k : Fo) : Prop := Good (one x k) ∧ PartsIn P (one x k) ∧ (len (one x k) : Int) ≤ 1000 ∧ (ofS x k).2 = 0 ∧ Fr.Ok (ofS x k).1 ∧ total (ofS x k).1 ≤ 90
theorem right_own {x : Node} {k : Fo} (h : rightS x k = 0) : own x (ticks k) ≤ 4096 := by
  unfold rightS at h
  split at h
  · cases h
  · split at h
    · cases h
    · split at h
      · assumption
      · cases h
theorem ofS_ok {x : Node} {k : Fo} (hG : Good (one x k)) : Fr.Ok (ofS x k).1 ∧ ((ofS x k).2 = 0 → total (ofS x k).1 = own x (ticks k) ∧ rightS x k = 0) ∧ total (ofS x k).1 ≤ 4096 := by
  obtain ⟨o1, o2⟩ := lv_ok hG
  have o2 : total (lv (one x k)) = own x (ticks k) := by rw [o2]; simp [one, ticks]
  obtain ⟨t1, t2⟩ := tidy_ok o1
  have hn : Fr.Ok [] := fun r hr => by cases hr
  unfold ofS
  by_cases h1 : rightS x k = 0
  · rw [if_neg (by simpa using h1)]
    by_cases h2 : 96 < (tidy (lv (one x k))).length
    · rw [if_pos h2]; exact ⟨hn, (fun h => by cases h), by simp [total]⟩
    · rw [if_neg h2]
      have := right_own h1
      exact ⟨t1, fun _ => ⟨by rw [t2, o2], h1⟩, by simp only; omega⟩
  · rw [if_pos h1]
    exact ⟨hn, fun h => absurd h h1, by simp [total]⟩
/-- The frame that is always right. -/
def dfo (v : Int) : Fo := .node (1, (v, 3)) .nil (.node (2, (0, 2)) .nil .nil)
theorem dframe {P v : Int} (h0 : 0 ≤ v) (h1 : v < P) (hP : P ≤ 6) : FrameOk P (3, (0, 2)) (dfo v) := by
  have hl : len (one (3, (0, 2)) (dfo v)) = 3 := rfl
  have hd : dep (dfo v) = 1 := rfl
  have ht : own (3, (0, 2)) (ticks (dfo v)) = 5 := by simp [own, dfo, ticks]
  have hr : rightS (3, (0, 2)) (dfo v) = 0 := by
    unfold rightS
    rw [hl, hd, ht]; decide
  have hlv : tidy (lv (one (3, (0, 2)) (dfo v))) = [(v, 3), (-1, 2)] := by
    have e : lv (one (3, (0, 2)) (dfo v)) = [(v, 3), (-1, 2)] := by simp [lv, one, dfo]
    rw [e]
    show tstep (tstep [] (v, 3)) (-1, 2) = _
    rw [tstep_nil]
    have := tstep_snoc [] (v, 3) (-1, 2)
    rw [List.nil_append, if_neg (by simp only; omega)] at this
    exact this
  have hof : ofS (3, (0, 2)) (dfo v) = ([(v, 3), (-1, 2)], 0) := by
    unfold ofS
    rw [if_neg (by simpa using hr), hlv]; rfl
  refine ⟨⟨.inr (.inr (.inr ⟨rfl, rfl, by decide, by decide⟩)), rfl, ⟨.inl ⟨rfl, h0, by simp only; omega, by simp only; omega⟩, rfl, trivial, .inr (.inl ⟨rfl, rfl, by decide⟩), rfl, trivial, trivial⟩, trivial⟩, ⟨(fun h => by cases h), ⟨fun _ => h1, trivial, (fun h => by cases h), trivial, trivial⟩, trivial⟩, by rw [hl]; decide, by rw [hof], by rw [hof]; intro r hr; simp at hr; rcases hr with rfl | rfl <;> simp only <;> omega, by rw [hof]; simp [total]⟩
theorem frame_ev {P : Int} (hP : 1 ≤ P) (hP2 : P ≤ 6) (T : List Int) (p : Int) (ht : TOk (T, p)) : ∃ x k q, FrameOk P x k ∧ TOk (T, q) ∧ Ev fun n => p82 n P (T, p) = some (flat (one x k), (T, q)) := by
  obtain ⟨x, k, q, ⟨g1, g2, g3⟩, t1, he⟩ := table_ev hP hP2 T 4 (by decide) p ht
  have hL : LB 4 = 341 := by decide
  have hof := of_ev rfl g1 (by show ((len (one x k) : Nat) : Int) ≤ _; omega)
  obtain ⟨o1, o2, o3⟩ := ofS_ok g1
  obtain ⟨v, q', n1, n2, n3, n4⟩ := next_ev t1 hP
  have htot := total_ev o1 (by omega)
  have ef : flat (one (3, (0, 2)) (dfo v)) = [((3 : Int), ((0 : Int), (2 : Int))), ((1 : Int), (v, (3 : Int))), ((2 : Int), ((0 : Int), (2 : Int)))] := rfl
  by_cases c1 : (ofS x k).2 = 0
  · by_cases c2 : 24 < ((ofS x k).1.length : Int)
    · refine ⟨_, _, q', dframe n1 n2 hP2, n3, EvG.ev (EvG.of ((he.and hof).and n4) fun n f hn => ?_)⟩
      obtain ⟨⟨x1, x2⟩, x3⟩ := hn
      simp only [flow_succ, s82]
      rw [show (4 : Int) = ((4 : Nat) : Int) from rfl, x1]
      simp only [Option.bind_some, x2, x3]
      rw [eqB_t c1, ltB_t c2, ef]; rfl
    · by_cases c3 : 90 < total (ofS x k).1
      · refine ⟨_, _, q', dframe n1 n2 hP2, n3, EvG.ev (EvG.of (((he.and hof).and n4).and htot) fun n f hn => ?_)⟩
        obtain ⟨⟨⟨x1, x2⟩, x3⟩, x4⟩ := hn
        simp only [flow_succ, s82]
        rw [show (4 : Int) = ((4 : Nat) : Int) from rfl, x1]
        simp only [Option.bind_some, x2, x3, x4]
        rw [eqB_t c1, ltB_f (by omega), ltB_t c3, ef]; rfl
      · refine ⟨x, k, q, ⟨g1, g2, by omega, c1, o1, by omega⟩, t1, EvG.ev (EvG.of ((he.and hof).and htot) fun n f hn => ?_)⟩
        obtain ⟨⟨x1, x2⟩, x4⟩ := hn
        simp only [flow_succ, s82]
        rw [show (4 : Int) = ((4 : Nat) : Int) from rfl, x1]
        simp only [Option.bind_some, x2, x4]
        rw [eqB_t c1, ltB_f (by omega), ltB_f (by omega)]; rfl
  · refine ⟨_, _, q', dframe n1 n2 hP2, n3, EvG.ev (EvG.of ((he.and hof).and n4) fun n f hn => ?_)⟩
    obtain ⟨⟨x1, x2⟩, x3⟩ := hn
    simp only [flow_succ, s82]
    rw [show (4 : Int) = ((4 : Nat) : Int) from rfl, x1]
    simp only [Option.bind_some, x2, x3]
    rw [eqB_f c1, ef]; rfl
end Go.Am.Tab
