/- Walks through the program's cursor over tables: down, step, New, Next, Tick: what is left comes leaf by leaf. -/
import Derived.Test.YtebmpngnbnigcaaNodeWalk
import Derived.Test.YtebmpngnbnigcaaG11
set_option linter.unusedVariables false
set_option linter.unusedSimpArgs false
namespace Go.Am.Tab
open Fr

/-- A leaf as a run. -/
def lrun (y : Node) : Run := (if y.1 = 2 then -1 else y.2.1, y.2.2)
def isLeaf (y : Node) : Prop := y.1 = 1 ∨ y.1 = 2
/-- What comes behind a place, where one is in so many nodes (the inner ones first). -/
def Rest (l : List Node) : List (Int × Int) → Nat → List Run → Prop
  | [], _, R => R = []
  | (a, left) :: rs, pos, R => ∃ (p : Nat) (y : Node), a = p ∧ l[p]? = some y ∧ 1 ≤ left ∧ left ≤ y.2.2 ∧ rs.length ≤ p ∧ p < pos ∧ y.2.2 ≤ 1000000 ∧
      ((y.1 = 3 ∧ ∃ (r : Fo) (pre post : List Node) (R' : List Run), (count r : Int) = left - 1 ∧ l = pre ++ flat r ++ post ∧ pre.length = pos ∧ Good r ∧ R = lv r ++ R' ∧ Rest l rs (pos + len r) R') ∨
       (y.1 = 4 ∧ ∃ (x : Node) (k : Fo) (pre post : List Node) (R' : List Run), l = pre ++ flat (one x k) ++ post ∧ pre.length = p + 1 ∧ Good (one x k) ∧ pos = p + 1 + len (one x k) ∧ R = reps (lv (one x k)) (left - 1).toNat ++ R' ∧ Rest l rs pos R'))
abbrev Cur := List Node × (List (Int × Int) × (Int × (Int × Int)))

theorem getD_of {l : List Node} {p : Nat} {y : Node} (h : l[p]? = some y) (d : Node) : l.getD (Int.toNat (p : Int)) d = y := by
  rw [show Int.toNat (p : Int) = p by omega, List.getD_eq_getElem?_getD, h]; rfl
theorem lt_of_get {l : List Node} {p : Nat} {y : Node} (h : l[p]? = some y) : (p : Int) < l.length := by
  have := (List.getElem?_eq_some_iff.1 h).1; omega
theorem get_mid {pre l2 : List Node} {y : Node} {l : List Node} (e : l = pre ++ y :: l2) : l[pre.length]? = some y := by
  rw [e, List.getElem?_append_right (Nat.le_refl _)]; simp
theorem lv_leaf {x : Node} {k : Fo} (h : isLeaf x) : lv (one x k) = [lrun x] := by
  unfold isLeaf at h
  rcases h with h | h
  · simp [lv, one, lrun, h]
  · simp [lv, one, lrun, h]
theorem reps_succ {α : Type} (l : List α) (n : Nat) (h : 1 ≤ n) : reps l n = l ++ reps l (n - 1) := by
  obtain ⟨m, rfl⟩ : ∃ m, n = m + 1 := ⟨n - 1, by omega⟩
  rfl

/-- Down to the first leaf of a tree. -/
theorem down_loop {l : List Node} (hl : (l.length : Int) ≤ 100000) (lf g t : Int) : ∀ (F : Fo) (pre post : List Node) (rs : List (Int × Int)) (R : List Run), l = pre ++ flat F ++ post → Good F → (∀ y, y ∈ flat F → y.2.2 ≤ 1000000) → rs.length ≤ pre.length → 1 ≤ count F →
    (match F with | .nil => True | .node x k r => Rest l rs (pre.length + len k + 1) R) →
    ∃ (p : Nat) (y : Node) (rs' : List (Int × Int)) (R' : List Run), l[p]? = some y ∧ isLeaf y ∧ Tab.fine y ∧ rs'.length ≤ p ∧ Rest l rs' (p + 1) R' ∧ (match F with | .nil => [] | .node x k _ => lv (one x k)) ++ R = lrun y :: R' ∧
      EvL s91 (.L0 pre.length l rs.reverse lf g t) (.E0 p l rs'.reverse lf g t)
  | .nil, _, _, _, _, _, _, _, _, hc, _ => by simp [count] at hc
  | .node x k r, pre, post, rs, R, e, hG, hN, hrs, _, hR => by
    obtain ⟨h1, h2, h3, h4⟩ := hG
    have e0 : l = pre ++ x :: (flat k ++ flat r ++ post) := by rw [e]; simp [flat]
    have e2 : l = (pre ++ [x]) ++ flat k ++ (flat r ++ post) := by rw [e]; simp [flat]
    have hb := at_lt e0
    have hg := get_mid e0
    have el : (pre ++ [x]).length = pre.length + 1 := by simp
    have hxN : x.2.2 ≤ 1000000 := hN x (by simp [flat])
    have hkN : ∀ y, y ∈ flat k → y.2.2 ≤ 1000000 := fun y hy => hN y (by simp [flat, hy])
    have hx1 : 1 ≤ x.2.2 := by unfold Tab.fine at h1; omega
    by_cases c3 : x.1 = 3
    · have hc : (count k : Int) = x.2.2 := by unfold arity at h2; rw [if_pos c3] at h2; exact h2
      match k, hc, h3, e, e0, e2, hkN, h2, hR with
      | .nil, hc, _, _, _, _, _, _, _ => simp [count] at hc; omega
      | .node x' k' r', hc, h3, e, e0, e2, hkN, h2, hR =>
        have hR : Rest l rs (pre.length + len (.node x' k' r') + 1) R := hR
        obtain ⟨g1, g2, g3, g4⟩ := h3
        have i1 := down_loop hl lf g t (.node x' k' r') (pre ++ [x]) (flat r ++ post) (((pre.length : Int), x.2.2) :: rs) (lv r' ++ R) e2 ⟨g1, g2, g3, g4⟩ hkN (by simp; omega) (by simp [count]) (by
          refine ⟨pre.length, x, rfl, hg, hx1, Int.le_refl _, hrs, by rw [el]; omega, hxN, .inl ⟨c3, r', (pre ++ [x]) ++ flat (one x' k'), flat r ++ post, R, ?_, ?_, ?_, g4, rfl, ?_⟩⟩
          · simp only [count] at hc; omega
          · rw [e]; simp [flat, one]
          · simp [flat, one, len]; omega
          · rw [len_node] at hR
            rw [show (pre ++ [x]).length + len k' + 1 + len r' = pre.length + (len k' + len r' + 1) + 1 by rw [el]; omega]
            exact hR)
        obtain ⟨p, y, rs', R', q1, q2, q3, q4, q5, q6, q7⟩ := i1
        refine ⟨p, y, rs', R', q1, q2, q3, q4, q5, ?_, EvL.trans (EvL.one fun n f => ?_) q7⟩
        · rw [← q6]
          simp only [one, lv]
          rw [if_neg (by omega), if_neg (by omega), if_neg (by omega)]
          simp
        · simp only [flow_succ, s91]
          rw [at_get e0, if_pos (by omega), if_pos hb, eqB_t c3, w64_id (by omega) (by omega)]
          simp only [cond_true]
          rw [if_pos (by omega), if_pos hb, if_pos (by simp; omega), List.reverse_cons, el]
          simp
    by_cases c4 : x.1 = 4
    · have hc : count k = 1 := by unfold arity at h2; rw [if_neg c3, if_pos c4] at h2; omega
      match k, hc, h3, e, e0, e2, hkN, h2, hR with
      | .nil, hc, _, _, _, _, _, _, _ => simp [count] at hc
      | .node _ _ (.node _ _ _), hc, _, _, _, _, _, _, _ => simp [count] at hc
      | .node x' k' .nil, hc, h3, e, e0, e2, hkN, h2, hR =>
        have hR : Rest l rs (pre.length + len (one x' k') + 1) R := hR
        have eo : len (one x' k') = len k' + 1 := by rw [one, len_node]; simp [len, flat]
        have i1 := down_loop hl lf g t (one x' k') (pre ++ [x]) (flat r ++ post) (((pre.length : Int), x.2.2) :: rs) (reps (lv (one x' k')) (x.2.2 - 1).toNat ++ R) e2 h3 hkN (by simp; omega) (by simp [count, one]) (by
          refine ⟨pre.length, x, rfl, hg, hx1, Int.le_refl _, hrs, by rw [el]; omega, hxN, .inr ⟨c4, x', k', pre ++ [x], flat r ++ post, R, e2, el, h3, by rw [el, eo]; omega, rfl, ?_⟩⟩
          rw [show (pre ++ [x]).length + len k' + 1 = pre.length + len (one x' k') + 1 by rw [el, eo]; omega]
          exact hR)
        obtain ⟨p, y, rs', R', q1, q2, q3, q4, q5, q6, q7⟩ := i1
        refine ⟨p, y, rs', R', q1, q2, q3, q4, q5, ?_, EvL.trans (EvL.one fun n f => ?_) q7⟩
        · rw [← q6]
          have : lv (one x (one x' k')) = reps (lv (one x' k')) x.2.2.toNat := by
            rw [show lv (one x (one x' k')) = (if x.1 = 1 then [(x.2.1, x.2.2)] else if x.1 = 2 then [(-1, x.2.2)] else if x.1 = 4 then reps (lv (one x' k')) x.2.2.toNat else lv (one x' k')) ++ lv .nil from rfl]
            rw [if_neg (by omega), if_neg (by omega), if_pos c4]; simp [lv]
          show lv (one x (one x' k')) ++ R = lv (one x' k') ++ (reps (lv (one x' k')) (x.2.2 - 1).toNat ++ R)
          rw [this, reps_succ _ _ (by omega), List.append_assoc, show (x.2.2 - 1).toNat = x.2.2.toNat - 1 by omega]
        · simp only [flow_succ, s91]
          rw [at_get e0, if_pos (by omega), if_pos hb, eqB_f c3, w64_id (by omega) (by omega)]
          simp only [cond_false]
          rw [if_pos (by omega), if_pos hb, eqB_t c4]
          simp only [cond_true]
          rw [if_pos (by omega), if_pos hb, if_pos (by simp; omega), List.reverse_cons, el]
          simp
    · have hlf : isLeaf x := by unfold isLeaf; unfold Tab.fine at h1; omega
      have hkn := good_nokids h2 c3 c4
      subst hkn
      have hR : Rest l rs (pre.length + len Fo.nil + 1) R := hR
      refine ⟨pre.length, x, rs, R, hg, hlf, h1, hrs, by simpa [len, flat] using hR, by show lv (one x .nil) ++ R = _; rw [lv_leaf hlf]; rfl, EvL.one fun n f => ?_⟩
      simp only [flow_succ, s91]
      rw [at_get e0, if_pos (by omega), if_pos hb, eqB_f c3]
      simp only [cond_false]
      rw [if_pos (by omega), if_pos hb, eqB_f c4]
      simp only [cond_false]
theorem down_ev {l : List Node} (hl : (l.length : Int) ≤ 100000) (lf g t : Int) {x : Node} {k : Fo} {pre post : List Node} {rs : List (Int × Int)} {R : List Run} (e : l = pre ++ flat (one x k) ++ post) (hG : Good (one x k)) (hN : ∀ y, y ∈ flat (one x k) → y.2.2 ≤ 1000000) (hrs : rs.length ≤ pre.length)
    (hR : Rest l rs (pre.length + len (one x k)) R) : ∃ (p : Nat) (y : Node) (rs' : List (Int × Int)) (R' : List Run), l[p]? = some y ∧ isLeaf y ∧ Tab.fine y ∧ rs'.length ≤ p ∧ Rest l rs' (p + 1) R' ∧ lv (one x k) ++ R = lrun y :: R' ∧
      Ev fun n => p91 n pre.length (l, (rs.reverse, (lf, (g, t)))) = some (l, (rs'.reverse, ((p : Int), (g, t)))) := by
  have eo : len (one x k) = len k + 1 := by rw [one, len_node]; simp [len, flat]
  obtain ⟨p, y, rs', R', q1, q2, q3, q4, q5, q6, q7⟩ := down_loop hl lf g t (one x k) pre post rs R e hG hN hrs (by simp [count, one]) (by
    show Rest l rs (pre.length + len k + 1) R
    rw [eo, ← Nat.add_assoc] at hR; exact hR)
  refine ⟨p, y, rs', R', q1, q2, q3, q4, q5, q6, EvG.ev (EvL.gives (EvL.one fun n f => ?_) (EvL.gives q7 (EvG.one fun n f => ?_)))⟩
  · simp only [flow_succ, s91]
  · simp only [flow_succ, s91]

/-- To the next leaf, or to the end. -/
theorem step_loop {l : List Node} (hl : (l.length : Int) ≤ 100000) (hN : ∀ y, y ∈ l → y.2.2 ≤ 1000000) (lf t B : Int) (hB : B = 100000) : ∀ (rs : List (Int × Int)) (pos : Nat) (R : List Run), (pos : Int) ≤ B → (rs.length : Int) ≤ B → Rest l rs pos R →
    (R = [] ∧ EvG s90 (.L0 pos l rs.reverse lf 0 t) (l, ([], ((l.length : Int), ((0 : Int), t))))) ∨
    ∃ (p : Nat) (y : Node) (rs' : List (Int × Int)) (R' : List Run), l[p]? = some y ∧ isLeaf y ∧ Tab.fine y ∧ rs'.length ≤ p ∧ Rest l rs' (p + 1) R' ∧ R = lrun y :: R' ∧ EvG s90 (.L0 pos l rs.reverse lf 0 t) (l, (rs'.reverse, ((p : Int), ((0 : Int), t))))
  | [], pos, R, hp, _, hR => by
    refine .inl ⟨hR, EvL.gives (EvL.one (q := .E0 l [] lf 0 t) fun n f => ?_) (EvG.one fun n f => ?_)⟩
    · simp only [flow_succ, s90]
      rw [ltB_f (by simp)]; rfl
    · simp only [flow_succ, s90]
  | (a, left) :: rs, pos, R, hp, hrl, hR => by
    obtain ⟨p, y, rfl, hy, hl1, hl2, hrp, hpp, hyN, hk⟩ := hR
    have hlt := lt_of_get hy
    simp only [List.length_cons] at hrl
    have eS : ((rs.reverse ++ [((p : Int), left)]).length : Int) = rs.length + 1 := by simp
    have eS' : ((rs.reverse ++ [((p : Int), left - 1)]).length : Int) = rs.length + 1 := by simp
    have e1 : rs.reverse.length = rs.length := by simp
    have w1 : w64 (((rs.reverse ++ [((p : Int), left)]).length : Int) - 1) = (rs.reverse.length : Int) := by rw [w64_id (by omega) (by omega)]; omega
    have w1' : w64 (((rs.reverse ++ [((p : Int), left - 1)]).length : Int) - 1) = (rs.reverse.length : Int) := by rw [w64_id (by omega) (by omega)]; omega
    have g2 : ∀ (z d : Int × Int), (rs.reverse ++ [z]).getD rs.reverse.length d = z := fun z d => getD_mid rs.reverse z [] d
    have g3 : ∀ z v : Int × Int, (rs.reverse ++ [z]).set rs.reverse.length v = rs.reverse ++ [v] := fun z v => set_mid rs.reverse z v []
    have g4 : (rs.reverse ++ [((p : Int), left - 1)]).take rs.reverse.length = rs.reverse := List.take_left
    rw [List.reverse_cons]
    by_cases hc : left - 1 = 0
    · -- out of it
      have hRR : Rest l rs pos R := by
        rcases hk with ⟨_, r, pre, post, R', q1, q2, q3, q4, q5, q6⟩ | ⟨_, x, k, pre, post, R', q1, q2, q3, q4, q5, q6⟩
        · have hrn : r = .nil := by cases r with | nil => rfl | node _ _ _ => simp only [count] at q1; omega
          subst hrn
          rw [q5]; simpa [lv, len, flat] using q6
        · rw [q5, hc]; simpa [reps] using q6
      have stp : EvL s90 (.L0 pos l (rs.reverse ++ [((p : Int), left)]) lf 0 t) (.L0 pos l rs.reverse lf 0 t) := EvL.one fun n f => by
        simp only [flow_succ, s90]
        rw [ltB_t (by omega), w1]
        simp only [toNat_len, g2, g3, cond_true]
        rw [if_pos (by omega), if_pos (by omega), w64_id (x := left - 1) (by omega) (by omega), w1']
        simp only [toNat_len, g2, g4]
        rw [ltB_f (by omega)]
        simp only [cond_false]
        rw [if_pos (by omega), if_pos (by omega)]
      rcases step_loop hl hN lf t B hB rs pos R hp (by omega) hRR with ⟨h1, h2⟩ | ⟨p', y', rs', R', h1, h2, h3, h4, h5, h6, h7⟩
      · exact .inl ⟨h1, EvL.gives stp h2⟩
      · exact .inr ⟨p', y', rs', R', h1, h2, h3, h4, h5, h6, EvL.gives stp h7⟩
    · right
      rcases hk with ⟨c3, r, pre, post, R', q1, q2, q3, q4, q5, q6⟩ | ⟨c4, x, k, pre, post, R', q1, q2, q3, q4, q5, q6⟩
      · match r, q1, q2, q4, q5, q6 with
        | .nil, q1, _, _, _, _ => simp only [count] at q1; omega
        | .node x k r', q1, q2, q4, q5, q6 =>
          obtain ⟨g1, g2', g3', g4'⟩ := q4
          have e1' : l = pre ++ flat (one x k) ++ (flat r' ++ post) := by rw [q2]; simp [flat, one]
          have hNk : ∀ z, z ∈ flat (one x k) → z.2.2 ≤ 1000000 := fun z hz => hN z (by rw [e1']; simp [hz])
          have eo : len (one x k) = len k + 1 := by rw [one, len_node]; simp [len, flat]
          obtain ⟨p', y', rs', R2, h1, h2, h3, h4, h5, h6, h7⟩ := down_ev hl lf 0 t (rs := (((p : Int), left - 1) :: rs)) (R := lv r' ++ R') e1' ⟨g1, g2', g3', trivial⟩ hNk (by simp; omega) (by
            refine ⟨p, y, rfl, hy, by omega, by omega, hrp, by omega, hyN, .inl ⟨c3, r', pre ++ flat (one x k), post, R', ?_, ?_, ?_, g4', rfl, ?_⟩⟩
            · simp only [count] at q1; omega
            · rw [q2]; simp [flat, one]
            · simp [len]
            · rw [len_node] at q6
              rw [show pre.length + len (one x k) + len r' = pos + (len k + len r' + 1) by rw [eo]; omega]
              exact q6)
          refine ⟨p', y', rs', R2, h1, h2, h3, h4, h5, ?_, EvG.of h7 fun n f hn => ?_⟩
          · rw [q5, lv_cons, List.append_assoc]; exact h6
          · simp only [flow_succ, s90]
            rw [ltB_t (by omega), w1]
            simp only [toNat_len, g2, g3, cond_true]
            rw [if_pos (by omega), if_pos (by omega), w64_id (x := left - 1) (by omega) (by omega), ltB_t (by omega)]
            simp only [cond_true]
            rw [if_pos (by omega), if_pos hlt, getD_of hy, eqB_f (by omega)]
            simp only [cond_false]
            rw [List.reverse_cons, q3] at hn
            rw [hn, Option.bind_some]
      · have hNk : ∀ z, z ∈ flat (one x k) → z.2.2 ≤ 1000000 := fun z hz => hN z (by rw [q1]; simp [hz])
        obtain ⟨p', y', rs', R2, h1, h2, h3, h4, h5, h6, h7⟩ := down_ev hl lf 0 t (rs := (((p : Int), left - 1) :: rs)) (R := reps (lv (one x k)) (left - 2).toNat ++ R') q1 q3 hNk (by simp; omega) (by
          refine ⟨p, y, rfl, hy, by omega, by omega, hrp, by rw [q2]; omega, hyN, .inr ⟨c4, x, k, pre, post, R', q1, q2, q3, by rw [q2], ?_, ?_⟩⟩
          · rw [show left - 1 - 1 = left - 2 by omega]
          · rw [q2, ← q4]; exact q6)
        refine ⟨p', y', rs', R2, h1, h2, h3, h4, h5, ?_, EvG.of h7 fun n f hn => ?_⟩
        · rw [q5, reps_succ _ _ (by omega), List.append_assoc, show (left - 1).toNat - 1 = (left - 2).toNat by omega]; exact h6
        · simp only [flow_succ, s90]
          rw [ltB_t (by omega), w1]
          simp only [toNat_len, g2, g3, cond_true]
          rw [if_pos (by omega), if_pos (by omega), w64_id (x := left - 1) (by omega) (by omega), ltB_t (by omega)]
          simp only [cond_true]
          rw [if_pos (by omega), if_pos hlt, getD_of hy, eqB_t c4, w64_id (x := (p : Int) + 1) (by omega) (by omega)]
          simp only [cond_true]
          rw [List.reverse_cons, q2] at hn
          rw [show (p : Int) + 1 = ((p + 1 : Nat) : Int) by omega, hn, Option.bind_some]

/-- A cursor at a leaf of which some ticks are gone, and what comes; or at the end. -/
def CurAt (l : List Node) (c : Cur) (at_ : Int) (R : List Run) : Prop :=
  (R = [] ∧ c = (l, ([], ((l.length : Int), ((0 : Int), at_))))) ∨
  ∃ (p : Nat) (y : Node) (rs : List (Int × Int)) (g : Int) (R' : List Run), l[p]? = some y ∧ isLeaf y ∧ Tab.fine y ∧ rs.length ≤ p ∧ Rest l rs (p + 1) R' ∧ 0 ≤ g ∧ g < y.2.2 ∧ R = ((lrun y).1, y.2.2 - g) :: R' ∧ c = (l, (rs.reverse, ((p : Int), (g, at_))))
theorem part_ev (y : Node) : Ev fun n => p89 n y = some (lrun y).1 := EvG.ev (EvG.one fun n f => by
  simp only [flow_succ, s89, lrun]
  by_cases h : y.1 = 2
  · rw [eqB_t h, if_pos h]; rfl
  · rw [eqB_f h, if_neg h]; rfl)
theorem step_ev {l : List Node} (hl : (l.length : Int) ≤ 100000) (hN : ∀ y, y ∈ l → y.2.2 ≤ 1000000) {p : Nat} {y : Node} (hy : l[p]? = some y) {rs : List (Int × Int)} (hrs : rs.length ≤ p) {R : List Run} (hR : Rest l rs (p + 1) R) (g t : Int) :
    ∃ c, CurAt l c t R ∧ Ev fun n => p90 n (l, (rs.reverse, ((p : Int), (g, t)))) = some c := by
  have hlt := lt_of_get hy
  have hst : ∀ {y' : Cur}, EvG s90 (.L0 ((p + 1 : Nat) : Int) l rs.reverse p 0 t) y' → Ev fun n => p90 n (l, (rs.reverse, ((p : Int), (g, t)))) = some y' := fun h => EvG.ev (EvL.gives (EvL.one fun n f => by
    simp only [flow_succ, s90]
    rw [w64_id (by omega) (by omega), show (p : Int) + 1 = ((p + 1 : Nat) : Int) by omega]) h)
  rcases step_loop hl hN p t 100000 rfl rs (p + 1) R (by omega) (by omega) hR with ⟨h1, h2⟩ | ⟨p', y', rs', R', h1, h2, h3, h4, h5, h6, h7⟩
  · exact ⟨_, .inl ⟨h1, rfl⟩, hst h2⟩
  · exact ⟨_, .inr ⟨p', y', rs', 0, R', h1, h2, h3, h4, h5, Int.le_refl _, by unfold Tab.fine at h3; omega, by rw [h6, Int.sub_zero]; rfl, rfl⟩, hst h7⟩
/-- Next gives what is left of the first that comes. -/
theorem cnext_ev {l : List Node} (hl : (l.length : Int) ≤ 100000) (hN : ∀ y, y ∈ l → y.2.2 ≤ 1000000) {c : Cur} {t : Int} {r : Run} {R : List Run} (h : CurAt l c t (r :: R)) (ht : 0 ≤ t) (ht2 : t ≤ 1000000000000) : ∃ c', CurAt l c' (t + r.2) R ∧ Ev fun n => p43 n c = some (r, true, c') := by
  rcases h with ⟨h, _⟩ | ⟨p, y, rs, g, R', h1, h2, h3, h4, h5, h6, h7, h8, rfl⟩
  · cases h
  obtain ⟨rfl, rfl⟩ := List.cons.inj h8
  have hlt := lt_of_get h1
  have hyN := hN y (List.mem_of_getElem? h1)
  obtain ⟨c', k1, k2⟩ := step_ev hl hN h1 h4 h5 g (t + (y.2.2 - g))
  refine ⟨c', k1, EvG.ev (EvG.of ((part_ev y).and k2) fun n f hn => ?_)⟩
  simp only [flow_succ, s43]
  rw [leB_f hlt, getD_of h1, w64_id (x := y.2.2 - g) (by omega) (by omega), w64_id (x := t + (y.2.2 - g)) (by omega) (by omega), hn.1, hn.2]
  simp only [cond_false, Option.bind_some]
  rw [if_pos (by omega), if_pos hlt, if_pos (by omega), if_pos hlt]
theorem cnext_end {l : List Node} {c : Cur} {t : Int} (h : CurAt l c t []) : Ev fun n => p43 n c = some ((0, 0), false, c) := by
  rcases h with ⟨_, rfl⟩ | ⟨p, y, rs, g, R', h1, h2, h3, h4, h5, h6, h7, h8, rfl⟩
  · refine EvG.ev (EvG.one fun n f => ?_)
    simp only [flow_succ, s43]
    rw [leB_t (Int.le_refl _)]; rfl
  · cases h8
/-- Tick takes one. -/
theorem ctick_ev {l : List Node} (hl : (l.length : Int) ≤ 100000) (hN : ∀ y, y ∈ l → y.2.2 ≤ 1000000) {c : Cur} {t : Int} {r : Run} {R : List Run} (h : CurAt l c t (r :: R)) (ht : 0 ≤ t) (ht2 : t ≤ 1000000000000) : ∃ c', CurAt l c' (t + 1) (if r.2 = 1 then R else (r.1, r.2 - 1) :: R) ∧ Ev fun n => p41 n c = some (r.1, true, c') := by
  rcases h with ⟨h, _⟩ | ⟨p, y, rs, g, R', h1, h2, h3, h4, h5, h6, h7, h8, rfl⟩
  · cases h
  obtain ⟨rfl, rfl⟩ := List.cons.inj h8
  have hlt := lt_of_get h1
  have hyN := hN y (List.mem_of_getElem? h1)
  by_cases hc : y.2.2 - g = 1
  · obtain ⟨c', k1, k2⟩ := step_ev hl hN h1 h4 h5 (g + 1) (t + 1)
    refine ⟨c', by simp only; rw [if_pos hc]; exact k1, EvG.ev (EvG.of ((part_ev y).and k2) fun n f hn => ?_)⟩
    simp only [flow_succ, s41]
    rw [leB_f hlt, getD_of h1, w64_id (x := g + 1) (by omega) (by omega), w64_id (x := t + 1) (by omega) (by omega), hn.1, hn.2]
    simp only [cond_false, Option.bind_some]
    rw [if_pos (by omega), if_pos hlt, if_pos (by omega), if_pos hlt, eqB_t (by omega)]; rfl
  · refine ⟨(l, (rs.reverse, ((p : Int), (g + 1, t + 1)))), by simp only; rw [if_neg hc]; exact .inr ⟨p, y, rs, g + 1, R, h1, h2, h3, h4, h5, by omega, by omega, by rw [show y.2.2 - g - 1 = y.2.2 - (g + 1) by omega], rfl⟩, EvG.ev (EvG.of (part_ev y) fun n f hn => ?_)⟩
    simp only [flow_succ, s41]
    rw [leB_f hlt, getD_of h1, w64_id (x := g + 1) (by omega) (by omega), w64_id (x := t + 1) (by omega) (by omega), hn]
    simp only [cond_false, Option.bind_some]
    rw [if_pos (by omega), if_pos hlt, if_pos (by omega), if_pos hlt, eqB_f (by omega)]; rfl
theorem ctick_end {l : List Node} {c : Cur} {t : Int} (h : CurAt l c t []) : Ev fun n => p41 n c = some (-1, false, c) := by
  rcases h with ⟨_, rfl⟩ | ⟨p, y, rs, g, R', h1, h2, h3, h4, h5, h6, h7, h8, rfl⟩
  · refine EvG.ev (EvG.one fun n f => ?_)
    simp only [flow_succ, s41]
    rw [leB_t (Int.le_refl _)]; rfl
  · cases h8
theorem cat_ev {l : List Node} {c : Cur} {t : Int} {R : List Run} (h : CurAt l c t R) : Ev fun n => p44 n c = some (t, c) := by
  refine EvG.ev (EvG.one fun n f => ?_)
  rcases h with ⟨_, rfl⟩ | ⟨p, y, rs, g, R', h1, h2, h3, h4, h5, h6, h7, h8, rfl⟩ <;> simp only [flow_succ, s44]

/-! ### Reset, New -/
theorem reset_ev {l : List Node} {x : Node} {k : Fo} (e : l = flat (one x k)) (hG : Good (one x k)) (hl : (l.length : Int) ≤ 100000) (hN : ∀ y, y ∈ l → y.2.2 ≤ 1000000) (stk : List (Int × Int)) (lf g t : Int) : ∃ c, CurAt l c 0 (lv (one x k)) ∧ Ev fun n => p42 n (l, (stk, (lf, (g, t)))) = some c := by
  obtain ⟨p, y, rs', R', h1, h2, h3, h4, h5, h6, h7⟩ := down_ev hl lf 0 0 (pre := []) (post := []) (rs := []) (R := []) (by simp [e]) hG (by rw [← e]; exact hN) (by simp) rfl
  rw [List.append_nil] at h6
  refine ⟨_, .inr ⟨p, y, rs', 0, R', h1, h2, h3, h4, h5, Int.le_refl _, by unfold Tab.fine at h3; omega, by rw [h6, Int.sub_zero]; rfl, rfl⟩, EvG.ev (EvG.of h7 fun n f hn => ?_)⟩
  simp only [List.length_nil, Int.natCast_zero, List.reverse_nil] at hn
  simp only [flow_succ, s42, hn, Option.bind_some]
theorem clone_ev {l : List Node} (hl : (l.length : Int) ≤ 1000000) : Ev fun n => p88 n l = some l := by
  refine EvG.ev (EvG.one fun n f => ?_)
  simp only [flow_succ, s88]
  rw [if_pos (by simp; omega)]
theorem ticks_N : ∀ {F : Fo}, Good F → ticks F ≤ 1000000 → ∀ y, y ∈ flat F → y.2.2 ≤ 1000000
  | .nil, _, _, y, hy => by simp [flat] at hy
  | .node x k r, hG, ht, y, hy => by
    obtain ⟨h1, h2, h3, h4⟩ := hG
    have hk := ticks_pos h3
    have hr := ticks_pos h4
    have ho := ticks_pos (F := one x k) ⟨h1, h2, h3, trivial⟩
    have e1 : ticks (one x k) = own x (ticks k) := by simp [one, ticks]
    rw [e1] at ho
    simp only [ticks] at ht
    have hlk := length_le_total (lv_ok h3).1
    rw [(lv_ok h3).2] at hlk
    have hck := lv_count h3
    have hx1 : 1 ≤ x.2.2 := by unfold Tab.fine at h1; omega
    have hox : own x (ticks k) ≤ 1000000 := by omega
    have hkk : ticks k ≤ 1000000 ∧ x.2.2 ≤ 1000000 := by
      unfold own at hox
      by_cases c3 : x.1 = 3
      · rw [if_pos c3] at hox
        unfold Tab.fine at h1; omega
      · rw [if_neg c3] at hox
        by_cases c4 : x.1 = 4
        · rw [if_pos c4] at hox
          have hc : count k = 1 := by unfold arity at h2; rw [if_neg c3, if_pos c4] at h2; omega
          have e3 : ticks k * 1 ≤ ticks k * x.2.2 := Int.mul_le_mul_of_nonneg_left hx1 hk
          have e4 : 1 * x.2.2 ≤ ticks k * x.2.2 := Int.mul_le_mul_of_nonneg_right (by omega) (by omega)
          omega
        · rw [if_neg c4] at hox
          have := good_nokids h2 c3 c4
          subst this
          simp only [ticks]; omega
    simp only [flat, List.mem_cons, List.mem_append] at hy
    rcases hy with rfl | hy | hy
    · exact hkk.2
    · exact ticks_N h3 hkk.1 y hy
    · exact ticks_N h4 (by omega) y hy
/-- New: a cursor at the beginning of a table that is right; else none. -/
theorem new_ev {l : List Node} {x : Node} {k : Fo} (e : l = flat (one x k)) (hG : Good (one x k)) (hl : (l.length : Int) ≤ 100000) :
    (rightS x k ≠ 0 → Ev fun n => p40 n l = some none) ∧ (rightS x k = 0 → (∀ y, y ∈ l → y.2.2 ≤ 1000000) ∧ ∃ c, CurAt l c 0 (lv (one x k)) ∧ Ev fun n => p40 n l = some (some c)) := by
  constructor
  · intro hr
    refine EvG.ev (EvG.of (nright_ev e hG hl) fun n f hn => ?_)
    simp only [flow_succ, s40, hn, Option.bind_some]
    rw [eqB_f hr]; rfl
  · intro hr
    have ht : own x (ticks k) ≤ 4096 := by
      unfold rightS at hr
      split at hr
      · cases hr
      · split at hr
        · cases hr
        · split at hr
          · assumption
          · cases hr
    have hN : ∀ y, y ∈ l → y.2.2 ≤ 1000000 := by rw [e]; exact ticks_N hG (by simp [one, ticks]; omega)
    obtain ⟨c, h1, h2⟩ := reset_ev e hG hl hN [] 0 0 0
    refine ⟨hN, c, h1, EvG.ev (EvG.of ((nright_ev e hG hl).and ((clone_ev (l := l) (by omega)).and h2)) fun n f hn => ?_)⟩
    obtain ⟨a1, a2, a3⟩ := hn
    simp only [flow_succ, s40, a1, Option.bind_some]
    rw [eqB_t hr]
    simp only [Bool.not_true, cond_false, a2, Option.bind_some, a3]
end Go.Am.Tab
