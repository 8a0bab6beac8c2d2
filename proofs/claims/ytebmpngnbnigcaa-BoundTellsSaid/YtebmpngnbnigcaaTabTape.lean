/- Walks: numbers of a tape, tables of a tape. -/
import Derived.Test.YtebmpngnbnigcaaTabOf
set_option linter.unusedVariables false
set_option linter.unusedSimpArgs false
namespace Go.Am.Tab
open Fr

/-- A tape, somewhere. -/
def TOk (t : List Int × Int) : Prop := 0 ≤ t.2 ∧ t.2 ≤ t.1.length ∧ (t.1.length : Int) ≤ 9223372036854775807
theorem within_ev (v hi : Int) (h0 : 0 ≤ hi) (h1 : hi ≤ 1000000000000) : ∃ y, 0 ≤ y ∧ y ≤ hi ∧ (0 ≤ v → v ≤ hi → y = v) ∧ Ev fun n => p35 n v 0 hi = some y := by
  have hu : w64 (w64 (hi - 0) + 1) = hi + 1 := by rw [w64_id (x := hi - 0) (by omega) (by omega), w64_id (by omega) (by omega)]; omega
  have hm : -(hi + 1) < Int.tmod v (hi + 1) ∧ Int.tmod v (hi + 1) < hi + 1 := by
    constructor
    · have := Int.lt_tmod_of_pos v (show 0 < hi + 1 by omega); omega
    · exact Int.tmod_lt_of_pos v (by omega)
  by_cases c : 0 ≤ v ∧ v ≤ hi
  · refine ⟨v, c.1, c.2, fun _ _ => rfl, EvG.ev (EvG.one fun n f => ?_)⟩
    simp only [flow_succ, s35]
    rw [leB_t c.1, leB_t c.2]; rfl
  by_cases d : Int.tmod v (hi + 1) < 0
  · refine ⟨Int.tmod v (hi + 1) + hi + 1, by omega, by omega, fun a b => absurd ⟨a, b⟩ c, EvG.ev (EvG.one fun n f => ?_)⟩
    simp only [flow_succ, s35, hu]
    rw [if_neg (by omega), ltB_t d, w64_id (x := Int.tmod v (hi + 1) + hi) (by omega) (by omega), w64_id (x := Int.tmod v (hi + 1) + hi - 0) (by omega) (by omega), w64_id (x := Int.tmod v (hi + 1) + hi - 0 + 1) (by omega) (by omega), w64_id (by omega) (by omega)]
    by_cases e : 0 ≤ v
    · rw [leB_t e, leB_f (by omega)]; simp only [cond_true, cond_false]; congr 1; omega
    · rw [leB_f (by omega)]; simp only [cond_true, cond_false]; congr 1; omega
  · refine ⟨Int.tmod v (hi + 1), by omega, by omega, fun a b => absurd ⟨a, b⟩ c, EvG.ev (EvG.one fun n f => ?_)⟩
    simp only [flow_succ, s35, hu]
    rw [if_neg (by omega), ltB_f (by omega), w64_id (x := 0 + Int.tmod v (hi + 1)) (by omega) (by omega)]
    by_cases e : 0 ≤ v
    · rw [leB_t e, leB_f (by omega)]; simp only [cond_true, cond_false]; congr 1; omega
    · rw [leB_f (by omega)]; simp only [cond_true, cond_false]; congr 1; omega
/-- Next: a number below a. -/
theorem next_ev {t : List Int × Int} (h : TOk t) {a : Int} (ha : 1 ≤ a) : ∃ v p, 0 ≤ v ∧ v < a ∧ TOk (t.1, p) ∧ Ev fun n => p74 n a t = some (v, (t.1, p)) := by
  obtain ⟨h1, h2, h3⟩ := h
  by_cases c : (t.1.length : Int) ≤ t.2
  · refine ⟨0, t.2, by omega, by omega, ⟨h1, h2, h3⟩, EvG.ev (EvG.one fun n f => ?_)⟩
    simp only [flow_succ, s74]
    rw [leB_t c]; rfl
  · obtain ⟨y, y1, y2, _, hy⟩ := within_ev (t.1.getD (Int.toNat t.2) 0) 1073741824 (by omega) (by omega)
    have hm := Int.tmod_lt_of_pos y (show 0 < a by omega)
    have hn := Int.tmod_nonneg a y1
    refine ⟨Int.tmod y a, t.2 + 1, hn, hm, ⟨by simp only; omega, by simp only; omega, h3⟩, EvG.ev (EvG.of hy fun n f hn => ?_)⟩
    simp only [flow_succ, s74]
    rw [leB_f (by omega), ltB_f (by omega), w64_id (x := t.2 + 1) (by omega) (by omega), w64_id (x := t.2 + 1 - 1) (by omega) (by omega), show t.2 + 1 - 1 = t.2 by omega]
    simp only [cond_false]
    rw [if_pos h1, if_pos (by omega), hn, Option.bind_some, if_neg (by omega)]

/-- Windows are of partitions that there are. -/
def PartsIn (P : Int) : Fo → Prop
  | .nil => True
  | .node x k r => (x.1 = 1 → x.2.1 < P) ∧ PartsIn P k ∧ PartsIn P r
def LB : Nat → Nat
  | 0 => 1
  | d + 1 => 1 + 4 * LB d
theorem LB_pos : ∀ d, 1 ≤ LB d
  | 0 => Nat.le_refl _
  | d + 1 => by simp only [LB]; omega
/-- What a table of a tape is. -/
def TabOk (P : Int) (d : Nat) (x : Node) (k : Fo) : Prop := Good (one x k) ∧ PartsIn P (one x k) ∧ len (one x k) ≤ LB d
theorem win_ok {P p n : Int} (hP : P ≤ 6) (hp : 0 ≤ p) (hp2 : p < P) (hn : 1 ≤ n) (d : Nat) : TabOk P d (1, (p, n)) .nil :=
  ⟨⟨.inl ⟨rfl, hp, by simp only; omega, hn⟩, by simp [count, arity], trivial, trivial⟩, ⟨fun _ => hp2, trivial, trivial⟩, by have := LB_pos d; simp [len, flat, one]; omega⟩
theorem idle_ok {P n : Int} (hn : 1 ≤ n) (d : Nat) : TabOk P d (2, (0, n)) .nil :=
  ⟨⟨.inr (.inl ⟨rfl, rfl, hn⟩), by simp [count, arity], trivial, trivial⟩, ⟨(fun h => by cases h), trivial, trivial⟩, by have := LB_pos d; simp [len, flat, one]; omega⟩

theorem table_leaf {P : Int} (hP : 1 ≤ P) (hP2 : P ≤ 6) (dd : Int) {t : List Int × Int} (ht : TOk t) {v p : Int} (hv : 0 ≤ v) (ht1 : TOk (t.1, p)) (h74 : Ev fun n => p74 n 7 t = some (v, (t.1, p))) (hd : dd < 1 ∨ v < 2) (d : Nat) (slf : Nat → Int → Int → List Int × Int → Option (List Node × (List Int × Int))) :
    ∃ x q, TabOk P d x .nil ∧ TOk (t.1, q) ∧ EvG (fun i => s31 i (slf i)) (.F P dd t) (flat (one x .nil), (t.1, q)) := by
  by_cases c : v = 0
  · obtain ⟨n1, q, b1, b2, b3, b4⟩ := next_ev ht1 (a := 4) (by omega)
    refine ⟨(2, (0, 1 + n1)), q, idle_ok (by omega) d, b3, EvG.of (h74.and b4) fun n f hn => ?_⟩
    simp only [flow_succ, s31, hn.1, hn.2, Option.bind_some]
    rw [w64_id (x := 1 + n1) (by omega) (by omega), eqB_t c]
    by_cases e : dd < 1
    · rw [ltB_t e]; rfl
    · rw [ltB_f (by omega), ltB_t (by omega)]; rfl
  · obtain ⟨n0, q0, a1, a2, a3, a4⟩ := next_ev ht1 hP
    obtain ⟨n1, q, b1, b2, b3, b4⟩ := next_ev a3 (a := 4) (by omega)
    refine ⟨(1, (n0, 1 + n1)), q, win_ok hP2 a1 a2 (by omega) d, b3, EvG.of (h74.and (a4.and b4)) fun n f hn => ?_⟩
    simp only [flow_succ, s31, hn.1, hn.2.1, hn.2.2, Option.bind_some]
    rw [w64_id (x := 1 + n1) (by omega) (by omega), eqB_f c]
    by_cases e : dd < 1
    · rw [ltB_t e]; rfl
    · rw [ltB_f (by omega), ltB_t (by omega)]; rfl

theorem table_kids {P : Int} {d : Nat} (hd : d ≤ 100) {L : List Int} (IH : ∀ p, TOk (L, p) → ∃ x k q, TabOk P d x k ∧ TOk (L, q) ∧ Ev fun i => p31 i P d (L, p) = some (flat (one x k), (L, q))) (hLB : LB d ≤ 100000) (N : Int) :
    ∀ (m : Nat) (j : Int) (out : List Node) (p : Int), TOk (L, p) → 0 ≤ j → j + m = N → N ≤ 4 → out.length + m * LB d ≤ 1000000 → ∃ K q, count K = m ∧ Good K ∧ PartsIn P K ∧ len K ≤ m * LB d ∧ TOk (L, q) ∧ EvL (fun i => s31 i (p31 i)) (.L0 P ((d : Int) + 1) N j out L p) (.E0 (out ++ flat K) L q)
  | 0, j, out, p, hp, h0, h1, h2, h3 => ⟨.nil, p, rfl, trivial, trivial, by simp [len, flat], hp, EvL.one fun n f => by
    simp only [flow_succ, s31]
    rw [ltB_f (by omega)]; simp [flat]⟩
  | m + 1, j, out, p, hp, h0, h1, h2, h3 => by
    obtain ⟨x, k, q, ⟨g1, g2, g3⟩, tq, he⟩ := IH p hp
    rw [Nat.succ_mul] at h3
    have hfl : (flat (one x k)).length ≤ LB d := g3
    obtain ⟨K, q', c1, c2, c3, c4, c5, c6⟩ := table_kids hd IH hLB N m (j + 1) (out ++ flat (one x k)) q tq (by omega) (by omega) h2 (by rw [List.length_append]; omega)
    refine ⟨.node x k K, q', by simp [count, c1], ⟨g1.1, g1.2.1, g1.2.2.1, c2⟩, ⟨g2.1, g2.2.1, c3⟩, ?_, c5, ?_⟩
    · rw [len_node, Nat.succ_mul]
      have : len (one x k) = len k + 1 := by rw [one, len_node]; simp [len, flat]
      omega
    · rw [List.append_assoc, show flat (one x k) ++ flat K = flat (.node x k K) by simp [flat, one]] at c6
      refine EvL.trans (EvL.of he fun n f hn => ?_) c6
      simp only [flow_succ, s31]
      rw [ltB_t (by omega), w64_id (x := (d : Int) + 1 - 1) (by omega) (by omega), w64_id (x := j + 1) (by omega) (by omega), show (d : Int) + 1 - 1 = d by omega, hn]
      simp only [cond_true, Option.bind_some]
      rw [if_pos (by omega)]
theorem table_ev {P : Int} (hP : 1 ≤ P) (hP2 : P ≤ 6) (L : List Int) : ∀ d : Nat, d ≤ 5 → ∀ p, TOk (L, p) → ∃ x k q, TabOk P d x k ∧ TOk (L, q) ∧ Ev fun i => p31 i P d (L, p) = some (flat (one x k), (L, q))
  | 0, _, p, hp => by
    obtain ⟨v, q, a1, a2, a3, a4⟩ := next_ev hp (a := 7) (by omega)
    obtain ⟨x, q', b1, b2, b3⟩ := table_leaf hP hP2 0 hp a1 a3 a4 (.inl (by omega)) 0 (fun i => p31 i)
    exact ⟨x, .nil, q', b1, b2, Ev.rec (p := fun n m => p31' n m P 0 (L, p)) (fun h h' => up31' h h' _ _ _) (EvG.ev b3)⟩
  | d + 1, hd, p, hp => by
    have IH := fun p hp => table_ev hP hP2 L d (by omega) p hp
    have hLB : LB d ≤ 1000 := by
      match d, hd with
      | 0, _ => decide
      | 1, _ => decide
      | 2, _ => decide
      | 3, _ => decide
      | 4, _ => decide
    have ed : ((d + 1 : Nat) : Int) = (d : Int) + 1 := by omega
    obtain ⟨v, q, a1, a2, a3, a4⟩ := next_ev hp (a := 7) (by omega)
    by_cases c2 : v < 2
    · obtain ⟨x, q', b1, b2, b3⟩ := table_leaf hP hP2 ((d + 1 : Nat) : Int) hp a1 a3 a4 (.inr c2) (d + 1) (fun i => p31 i)
      exact ⟨x, .nil, q', b1, b2, Ev.rec (p := fun n m => p31' n m P ((d + 1 : Nat) : Int) (L, p)) (fun h h' => up31' h h' _ _ _) (EvG.ev b3)⟩
    by_cases c3 : v = 2
    · obtain ⟨n1, q1, b1, b2, b3, b4⟩ := next_ev a3 (a := 3) (by omega)
      obtain ⟨x, k, q2, ⟨g1, g2, g3⟩, t2, he⟩ := IH q1 b3
      have eo : len (one x k) = len k + 1 := by rw [one, len_node]; simp [len, flat]
      refine ⟨(4, (0, 1 + n1)), one x k, q2, ⟨⟨.inr (.inr (.inl ⟨rfl, rfl, by simp only; omega⟩)), by simp [count, one, arity], g1, trivial⟩, ⟨(fun h => by cases h), g2, trivial⟩, ?_⟩, t2, Ev.rec (p := fun n m => p31' n m P ((d + 1 : Nat) : Int) (L, p)) (fun h h' => up31' h h' _ _ _) ?_⟩
      · rw [one, len_node, show len Fo.nil = 0 from rfl]; simp only [LB]; omega
      · refine EvG.ev (t := fun i => s31 i (p31 i)) (EvG.of (a4.and (b4.and he)) fun n f hn => ?_)
        obtain ⟨x1, x2, x3⟩ := hn
        have hfl : (flat (one x k)).length ≤ LB d := g3
        simp only [flow_succ, s31, x1, x2, Option.bind_some]
        rw [ed, ltB_f (by omega), ltB_f (by omega), eqB_t c3, w64_id (x := (d : Int) + 1 - 1) (by omega) (by omega), show (d : Int) + 1 - 1 = d by omega, w64_id (x := 1 + n1) (by omega) (by omega), x3]
        simp only [cond_true, cond_false, Option.bind_some]
        rw [if_pos (by simp; omega)]
        simp [flat, one]
    · obtain ⟨n1, q1, b1, b2, b3, b4⟩ := next_ev a3 (a := 4) (by omega)
      obtain ⟨K, q2, k1, k2, k3, k4, k5, k6⟩ := table_kids (d := d) (by omega) IH (by omega) (1 + n1) (1 + n1).toNat 0 [(3, (0, 1 + n1))] q1 b3 (Int.le_refl _) (by omega) (by omega) (by
        have : (1 + n1).toNat * LB d ≤ 4 * LB d := Nat.mul_le_mul_right _ (by omega)
        simp; omega)
      have hk : (1 + n1).toNat * LB d ≤ 4 * LB d := Nat.mul_le_mul_right _ (by omega)
      refine ⟨(3, (0, 1 + n1)), K, q2, ⟨⟨.inr (.inr (.inr ⟨rfl, rfl, by simp only; omega, by simp only; omega⟩)), by rw [k1]; unfold arity; rw [if_pos rfl]; simp only; omega, k2, trivial⟩, ⟨(fun h => by cases h), k3, trivial⟩, ?_⟩, k5, Ev.rec (p := fun n m => p31' n m P ((d + 1 : Nat) : Int) (L, p)) (fun h h' => up31' h h' _ _ _) ?_⟩
      · rw [one, len_node, show len Fo.nil = 0 from rfl]; simp only [LB]; omega
      · refine EvG.ev (t := fun i => s31 i (p31 i)) (EvL.gives (EvL.of (a4.and b4) fun n f hn => ?_) (EvL.gives k6 (EvG.one fun n f => ?_)))
        · obtain ⟨x1, x2⟩ := hn
          simp only [flow_succ, s31, x1, x2, Option.bind_some]
          rw [ed, ltB_f (by omega), ltB_f (by omega), eqB_f c3, w64_id (x := 1 + n1) (by omega) (by omega)]; rfl
        · simp only [flow_succ, s31]
          simp [flat, one]
end Go.Am.Tab
