/- Law 9: the walks through bound's functions and the document's: each gives what FrLaw says. -/
import Derived.Test.YtebmpngnbnigcaaG14
import Derived.Test.YtebmpngnbnigcaaFrLaw
set_option linter.unusedVariables false
set_option linter.unusedSimpArgs false
namespace Go.Am.Fr

/-! ### runs.Add, Length -/
theorem add_ev {a b : Int} (ha : 0 ≤ a) (hb : 0 ≤ b) (h : a + b ≤ 9223372036854775807) : Ev fun n => p103 n a b = some (a + b) :=
  EvG.ev (EvG.one fun n f => by
    simp only [flow_succ, s103]
    rw [Int.max_eq_right ha, Int.max_eq_right hb, w64_id (by omega) (by omega), ltB_f (by omega), w64_id (by omega) (by omega)]
    rfl)
theorem length_loop (l : List Run) (hl : (l.length : Int) ≤ 100000) : ∀ (l2 pre : List Run) (a : Int), l = pre ++ l2 → Ok l2 → 0 ≤ a → a + total l2 ≤ 9223372036854775807 → EvL s58 (.L0 a l l.length pre.length) (.E0 (a + total l2))
  | [], pre, a, e, _, _, _ => EvL.one fun n f => by
    have := at_end e
    simp only [flow_succ, s58]
    rw [ltB_f (by omega)]
    simp [total]
  | r :: l2, pre, a, e, ho, ha, hb => by
    have h1 := ho.head
    have h2 := total_nonneg ho.tail
    simp only [total] at hb
    have ih := length_loop l hl l2 (pre ++ [r]) (a + r.2) (at_next e) ho.tail (by omega) (by omega)
    have e2 : a + total (r :: l2) = a + r.2 + total l2 := by simp only [total]; omega
    rw [e2]
    refine EvL.trans (EvL.of (add_ev (a := a) (b := r.2) ha (by omega) (by omega)) fun n f hn => ?_) ih
    simp only [flow_succ, s58]
    have h3 := at_lt e
    rw [ltB_t h3, at_get e, hn, at_succ pre r (by omega)]
    simp only [cond_true, Option.bind_some]
    rw [if_pos (by omega), if_pos h3]
theorem length_ev {l : List Run} (ho : Ok l) (h : total l ≤ 100000) : Ev fun n => p58 n l = some (total l) := by
  have := length_le_total ho
  have h1 := length_loop l (by omega) l [] 0 rfl ho (by omega) (by omega)
  rw [Int.zero_add] at h1
  refine EvG.ev (EvL.gives (EvL.one fun n f => ?_) (EvL.gives h1 (EvG.one fun n f => ?_)))
  · simp only [flow_succ, s58]; rfl
  · simp only [flow_succ, s58]

/-! ### bound.spans, next -/
theorem spans_loop (l : List Run) (p : Int) (hl : (l.length : Int) ≤ 100000) : ∀ (l2 pre : List Run) (a : Int) (acc : List (Int × Int)), l = pre ++ l2 → Ok l2 → 0 ≤ a → a + total l2 ≤ 9223372036854775807 → (acc.length : Int) ≤ pre.length →
    EvL s80 (.L0 p a l l.length pre.length acc) (.E0 (acc ++ spans a l2 p))
  | [], pre, a, acc, e, _, _, _, _ => EvL.one fun n f => by
    have := at_end e
    simp only [flow_succ, s80]
    rw [ltB_f (by omega)]
    simp [spans]
  | r :: l2, pre, a, acc, e, ho, ha, hb, hacc => by
    have h1 := ho.head
    have h2 := total_nonneg ho.tail
    simp only [total] at hb
    have h3 := at_lt e
    have ih := fun acc' h => spans_loop l p hl l2 (pre ++ [r]) (a + r.2) acc' (at_next e) ho.tail (by omega) (by omega) h
    rw [spans_cons]
    by_cases hc : r.1 = p
    · rw [if_pos hc]
      have ih := ih (acc ++ [(a, a + r.2)]) (by simp; omega)
      rw [List.append_assoc, List.singleton_append] at ih
      refine EvL.trans (EvL.of (add_ev (a := a) (b := r.2) ha (by omega) (by omega)) fun n f hn => ?_) ih
      simp only [flow_succ, s80]
      rw [ltB_t h3, at_get e, hn, at_succ pre r (by omega)]
      simp only [cond_true, Option.bind_some]
      rw [if_pos (by omega), if_pos h3, eqB_t hc, ltB_t (by omega)]
      simp only [cond_true]
      rw [if_pos (by simp; omega)]
    · rw [if_neg hc]
      refine EvL.trans (EvL.of (add_ev (a := a) (b := r.2) ha (by omega) (by omega)) fun n f hn => ?_) (ih acc (by simp; omega))
      simp only [flow_succ, s80]
      rw [ltB_t h3, at_get e, hn, at_succ pre r (by omega)]
      simp only [cond_true, Option.bind_some]
      rw [if_pos (by omega), if_pos h3, eqB_f hc]
      simp only [cond_false]
theorem spans_ev {l : List Run} (p : Int) (ho : Ok l) (h : total l ≤ 100000) : Ev fun n => p80 n l p = some (spans 0 l p) := by
  have := length_le_total ho
  have h1 := spans_loop l p (by omega) l [] 0 [] rfl ho (by omega) (by omega) (by simp)
  rw [List.nil_append] at h1
  refine EvG.ev (EvL.gives (EvL.one fun n f => ?_) (EvL.gives h1 (EvG.one fun n f => ?_)))
  · simp only [flow_succ, s80]; rfl
  · simp only [flow_succ, s80]
def Low (b : List (Int × Int)) : Prop := ∀ s ∈ b, 0 ≤ s.1 ∧ s.1 < s.2 ∧ s.2 ≤ 100000
theorem next_loop (b : List (Int × Int)) (t len : Int) (hb : (b.length : Int) ≤ 100000) (hlow : Low b) (ht : 0 ≤ t) (ht2 : t ≤ 100000) (hlen : 0 ≤ len) (hlen2 : len ≤ 100000) (hne : b ≠ []) : ∀ (b2 pre : List (Int × Int)), b = pre ++ b2 →
    EvG s133 (.L0 b t len b b.length pre.length) (match b2.find? (fun s => decide (t + 1 < s.2)) with | some s => max (t + 1) s.1 | none => len + (b.getD 0 (0, 0)).1)
  | [], pre, e => by
    have h1 := at_end e
    refine EvL.gives (EvL.one (q := .E0 b len) fun n f => ?_) (EvG.one fun n f => ?_)
    · simp only [flow_succ, s133]
      rw [ltB_f (by omega)]; rfl
    · obtain ⟨s, b', e'⟩ := List.exists_cons_of_ne_nil hne
      have hs := hlow s (by rw [e']; simp)
      have h0 : (0 : Int) < b.length := by rw [e', List.length_cons]; omega
      have e0 : b.getD 0 (0, 0) = s := by rw [e']; rfl
      simp only [flow_succ, s133, List.find?_nil, e0]
      rw [if_pos (by omega), if_pos h0, w64_id (by omega) (by omega)]
  | s :: b2, pre, e => by
    have h3 := at_lt e
    have ih := next_loop b t len hb hlow ht ht2 hlen hlen2 hne b2 (pre ++ [s]) (at_next e)
    rw [List.find?_cons]
    by_cases hc : t + 1 < s.2
    · rw [decide_eq_true hc]
      refine EvG.one fun n f => ?_
      simp only [flow_succ, s133]
      rw [ltB_t h3, at_get e, w64_id (by omega) (by omega), ltB_t hc]
      simp only [cond_true]
      rw [if_pos (by omega), if_pos h3]
    · rw [decide_eq_false hc]
      refine EvL.gives (EvL.one fun n f => ?_) ih
      simp only [flow_succ, s133]
      rw [ltB_t h3, at_get e, w64_id (x := t + 1) (by omega) (by omega), ltB_f (by omega), at_succ pre s (by omega)]
      simp only [cond_true, cond_false]
      rw [if_pos (by omega), if_pos h3]
theorem next_ev {b : List (Int × Int)} {t len : Int} (hb : (b.length : Int) ≤ 100000) (hlow : Low b) (ht : 0 ≤ t) (ht2 : t ≤ 100000) (hlen : 0 ≤ len) (hlen2 : len ≤ 100000) (hne : b ≠ []) : Ev fun n => p133 n b t len = some (nextS b t len) := by
  refine EvG.ev (EvL.gives (EvL.one fun n f => ?_) (next_loop b t len hb hlow ht ht2 hlen hlen2 hne b [] rfl))
  simp only [flow_succ, s133]; rfl

/-! ### bound.Late -/
theorem spans_low {l : List Run} (p : Int) (ho : Ok l) (h : total l ≤ 100000) : Low (spans 0 l p) := fun s hs => by
  have := spans_in ho s hs; omega
theorem spans_len : ∀ {l : List Run} {a p : Int}, (spans a l p).length ≤ l.length
  | [], _, _ => by simp [spans]
  | r :: l, a, p => by
    have := spans_len (l := l) (a := a + r.2) (p := p)
    rw [spans_cons]; split
    · simpa using this
    · exact Nat.le_trans this (by simp)
theorem dist_in {b : List (Int × Int)} {t len : Int} (hlow : Low b) (ht : 0 ≤ t) (ht2 : t ≤ 100000) (hlen : 0 ≤ len) (hlen2 : len ≤ 100000) : -100000 ≤ nextS b t len ∧ nextS b t len ≤ 200001 := by
  unfold nextS
  split
  · rename_i s hs
    have := hlow s (List.mem_of_find?_eq_some hs)
    omega
  · have : ∀ x : Int × Int, x = b.getD 0 (0, 0) → 0 ≤ x.1 ∧ x.1 ≤ 100000 := by
      intro x hx
      match b, hlow with
      | [], _ => subst hx; simp
      | s :: b, hlow =>
        have := hlow s (by simp)
        rw [show (s :: b).getD 0 (0, 0) = s from rfl] at hx
        subst hx; omega
    have := this _ rfl
    omega
theorem late_loop (b c : List (Int × Int)) (len : Int) (hb : (b.length : Int) ≤ 100000) (hc : (c.length : Int) ≤ 100000) (hlb : Low b) (hlc : Low c) (hlen : 0 ≤ len) (hlen2 : len ≤ 100000) (hne : c ≠ []) : ∀ (b2 pre : List (Int × Int)) (w : Int), b = pre ++ b2 →
    EvL s76 (.L1 len w b.length pre.length c b) (.E1 (b2.foldl (fun acc s => max (max acc (dist c len s.1)) (dist c len (s.2 - 1))) w))
  | [], pre, w, e => EvL.one fun n f => by
    have := at_end e
    simp only [flow_succ, s76]
    rw [ltB_f (by omega)]
    simp
  | s :: b2, pre, w, e => by
    have h3 := at_lt e
    have hs := hlb s (by rw [e]; simp)
    have ih := late_loop b c len hb hc hlb hlc hlen hlen2 hne b2 (pre ++ [s]) (max (max w (dist c len s.1)) (dist c len (s.2 - 1))) (at_next e)
    have i1 := dist_in (t := s.1) hlc (by omega) (by omega) hlen hlen2
    have i2 := dist_in (t := s.2 - 1) hlc (by omega) (by omega) hlen hlen2
    rw [List.foldl_cons]
    refine EvL.trans (EvL.one (q := .Q10 len w b.length pre.length c b) fun n f => ?_) <|
      EvL.trans (EvL.one (q := .L3 len w b.length pre.length 2 0 c b [s.1, s.2 - 1]) fun n f => ?_) <|
      EvL.trans (EvL.of (q := .L3 len (max w (dist c len s.1)) b.length pre.length 2 1 c b [s.1, s.2 - 1]) (next_ev (t := s.1) hc hlc (by omega) (by omega) hlen hlen2 hne) fun n f hn => ?_) <|
      EvL.trans (EvL.of (q := .L3 len (max (max w (dist c len s.1)) (dist c len (s.2 - 1))) b.length pre.length 2 2 c b [s.1, s.2 - 1]) (next_ev (t := s.2 - 1) hc hlc (by omega) (by omega) hlen hlen2 hne) fun n f hn => ?_) <|
      EvL.trans (EvL.one (q := .E3 len (max (max w (dist c len s.1)) (dist c len (s.2 - 1))) b.length pre.length c b) fun n f => ?_) <|
      EvL.trans (EvL.one fun n f => ?_) ih
    · simp only [flow_succ, s76]; rw [ltB_t h3]; rfl
    · simp only [flow_succ, s76]
      rw [if_pos (by omega), if_pos h3, at_get e, w64_id (by omega) (by omega)]; rfl
    · simp only [flow_succ, s76]
      rw [show ([s.1, s.2 - 1] : List Int).getD (Int.toNat 0) 0 = s.1 from rfl, hn, ltB_t (by omega)]
      simp only [cond_true, Option.bind_some]
      rw [if_pos (by omega), if_pos (by simp), w64_id (by omega) (by omega)]; rfl
    · simp only [flow_succ, s76]
      rw [show ([s.1, s.2 - 1] : List Int).getD (Int.toNat 1) 0 = s.2 - 1 from rfl, hn, ltB_t (by omega)]
      simp only [cond_true, Option.bind_some]
      rw [if_pos (by omega), if_pos (by simp), w64_id (by omega) (by omega)]; rfl
    · simp only [flow_succ, s76]; rw [ltB_f (by omega)]; rfl
    · simp only [flow_succ, s76]
      rw [at_succ pre s (by omega)]
theorem late_ev {l : List Run} (f to : Int) (ho : Ok l) (h : total l ≤ 100000) : Ev fun n => p76 n l f to = some (lateP l f to) := by
  have h1 := length_le_total ho
  have h2 := @spans_len l 0 f
  have h3 := @spans_len l 0 to
  have h0 := total_nonneg ho
  unfold lateP
  by_cases c1 : spans 0 l f = []
  · rw [if_pos c1]
    refine EvG.ev (EvG.of ((spans_ev f ho h).and (spans_ev to ho h)) fun n g hn => ?_)
    simp only [flow_succ, s76, hn.1, hn.2, Option.bind_some, c1]; rfl
  rw [if_neg c1]
  have e1 : eqB ((spans 0 l f).length : Int) 0 = false := eqB_f (by
    have := List.length_pos_iff.2 c1; omega)
  by_cases c2 : spans 0 l to = []
  · rw [if_pos c2]
    refine EvG.ev (EvG.of ((spans_ev f ho h).and (spans_ev to ho h)) fun n g hn => ?_)
    simp only [flow_succ, s76, hn.1, hn.2, Option.bind_some, e1, cond_false, c2]; rfl
  rw [if_neg c2]
  have e2 : eqB ((spans 0 l to).length : Int) 0 = false := eqB_f (by
    have := List.length_pos_iff.2 c2; omega)
  refine EvG.ev (EvL.gives (EvL.of ((spans_ev f ho h).and ((spans_ev to ho h).and (length_ev ho h))) fun n g hn => ?_)
    (EvL.gives (late_loop (spans 0 l f) (spans 0 l to) (total l) (by omega) (by omega) (spans_low f ho h) (spans_low to ho h) (by omega) h c2 (spans 0 l f) [] 0 rfl) (EvG.one fun n g => ?_)))
  · simp only [flow_succ, s76, hn.1, hn.2.1, hn.2.2, Option.bind_some, e1, e2, cond_false]; rfl
  · simp only [flow_succ, s76]

/-! ### bound.Budget -/
theorem overs_cons (s : Int × Int) (b : List (Int × Int)) (lo hi : Int) : overs (s :: b) lo hi = over s lo hi + overs b lo hi := by simp [overs]
theorem overs_in : ∀ {b : List (Int × Int)} {lo hi : Int}, lo ≤ hi → 0 ≤ overs b lo hi ∧ overs b lo hi ≤ b.length * (hi - lo)
  | [], _, _, _ => by simp [overs]
  | s :: b, lo, hi, h => by
    have ih := overs_in (b := b) h
    have h1 : 0 ≤ over s lo hi ∧ over s lo hi ≤ hi - lo := by unfold over; omega
    have e : ((s :: b).length : Int) * (hi - lo) = b.length * (hi - lo) + (hi - lo) := by
      rw [List.length_cons, Int.natCast_add, Int.add_mul]; simp
    rw [overs_cons, e]; omega
theorem budget_in (b : List (Int × Int)) (d len least at_ : Int) (hb : (b.length : Int) ≤ 100000) (hlow : Low b) (hd : 1 ≤ d) (hd2 : d ≤ 100000) (ha : 0 ≤ at_) (ha2 : at_ ≤ 100000) : ∀ (b2 pre : List (Int × Int)) (m : Int), b = pre ++ b2 → 0 ≤ m → m + overs b2 at_ (at_ + d) ≤ 1000000000000 →
    EvL s23 (.L2 d len b least at_ m b b.length pre.length) (.E2 d len b least at_ (m + overs b2 at_ (at_ + d)))
  | [], pre, m, e, _, _ => EvL.one fun n f => by
    have := at_end e
    simp only [flow_succ, s23]
    rw [ltB_f (by omega)]
    simp [overs]
  | s :: b2, pre, m, e, hm, hm2 => by
    have h3 := at_lt e
    have hs := hlow s (by rw [e]; simp)
    have ho : 0 ≤ over s at_ (at_ + d) ∧ over s at_ (at_ + d) ≤ 100000 := by unfold over; omega
    have ho2 := (overs_in (b := b2) (lo := at_) (hi := at_ + d) (by omega)).1
    rw [overs_cons] at hm2
    have ih := budget_in b d len least at_ hb hlow hd hd2 ha ha2 b2 (pre ++ [s]) (m + over s at_ (at_ + d)) (at_next e) (by omega) (by omega)
    rw [overs_cons, ← Int.add_assoc]
    refine EvL.trans (EvL.one fun n f => ?_) ih
    simp only [flow_succ, s23]
    rw [ltB_t h3, at_get e, at_succ pre s (by omega), w64_id (x := at_ + d) (by omega) (by omega)]
    simp only [cond_true]
    rw [if_pos (by omega), if_pos h3, w64_id (x := min s.2 (at_ + d) - max s.1 at_) (by omega) (by omega)]
    have e2 : max 0 (min s.2 (at_ + d) - max s.1 at_) = over s at_ (at_ + d) := rfl
    rw [e2, w64_id (by omega) (by omega)]
theorem budget_loop {l : List Run} (p : Int) (ho : Ok l) (h : total l ≤ 100000) {d : Int} (hd : 1 ≤ d) (J : Nat) (hJ : total l = J * d) : ∀ (k j : Nat), j + k = J →
    EvL s23 (.L0 d (total l) (spans 0 l p) (leastB l p d d j) (j * d)) (.E0 (leastB l p d d J))
  | 0, j, e => EvL.one fun n f => by
    have e' : j = J := by omega
    subst e'
    simp only [flow_succ, s23]
    rw [hJ, ltB_f (Int.le_refl _)]; rfl
  | k + 1, j, e => by
    have ih := budget_loop p ho h hd J hJ k (j + 1) (by omega)
    have hj : ((j : Int) + 1) * d ≤ J * d := Int.mul_le_mul_of_nonneg_right (by omega) (by omega)
    rw [Int.add_mul, Int.one_mul, ← hJ] at hj
    have hj0 : 0 ≤ (j : Int) * d := Int.mul_nonneg (by omega) (by omega)
    have h1 := length_le_total ho
    have h2 := @spans_len l 0 p
    have h4 := cnt_le ho p (d := d) (by omega) j
    have e2 : ((j + 1 : Nat) : Int) * d = j * d + d := by rw [Int.natCast_add, Int.add_mul]; simp
    rw [e2, leastB_succ] at ih
    refine EvL.trans (EvL.one (q := .Q9 d (total l) (spans 0 l p) (leastB l p d d j) (j * d)) fun n f => ?_) <|
      EvL.trans (EvL.one fun n f => ?_) <|
      EvL.trans (budget_in (spans 0 l p) d (total l) (leastB l p d d j) (j * d) (by omega) (spans_low p ho h) hd (by omega) hj0 (by omega) (spans 0 l p) [] 0 rfl (Int.le_refl _) (by unfold cnt at h4; omega)) <|
      EvL.trans (EvL.one fun n f => ?_) ih
    · simp only [flow_succ, s23]; rw [ltB_t (by omega)]; rfl
    · simp only [flow_succ, s23]; rfl
    · simp only [flow_succ, s23]
      rw [Int.zero_add, w64_id (x := (j : Int) * d + d) (by omega) (by omega)]; rfl
theorem tmod_pos {a b : Int} (h : 0 ≤ a) : Int.tmod a b = a % b := Int.tmod_eq_emod_of_nonneg h
theorem total_rounds {l : List Run} (ho : Ok l) {d : Int} (hd : 1 ≤ d) (hm : total l % d = 0) : total l = ((total l / d).toNat : Int) * d := by
  have h0 := total_nonneg ho
  have : 0 ≤ total l / d := Int.ediv_nonneg h0 (by omega)
  rw [Int.toNat_of_nonneg this]
  have := Int.mul_ediv_add_emod (total l) d
  rw [hm, Int.add_zero] at this
  rw [Int.mul_comm]; exact this.symm
theorem budget_ev {l : List Run} (p d : Int) (ho : Ok l) (h : total l ≤ 100000) : Ev fun n => p23 n l p d = some (budget l p d) := by
  have h0 := total_nonneg ho
  unfold budget
  by_cases c1 : d < 1
  · rw [if_pos c1]
    refine EvG.ev (EvG.of (length_ev ho h) fun n g hn => ?_)
    simp only [flow_succ, s23, hn, Option.bind_some]; rw [ltB_t c1]; rfl
  rw [if_neg c1]
  by_cases c2 : total l = 0
  · rw [if_pos c2]
    refine EvG.ev (EvG.of (length_ev ho h) fun n g hn => ?_)
    simp only [flow_succ, s23, hn, Option.bind_some]; rw [ltB_f (by omega), eqB_t c2]; rfl
  rw [if_neg c2]
  by_cases c3 : total l % d ≠ 0
  · rw [if_pos c3]
    refine EvG.ev (EvG.of (length_ev ho h) fun n g hn => ?_)
    simp only [flow_succ, s23, hn, Option.bind_some]; rw [ltB_f (by omega), eqB_f c2, tmod_pos h0, eqB_f c3]
    simp only [cond_false, cond_true, Bool.not_false]
    rw [if_neg (by omega)]
  rw [if_neg c3]
  have c4 : total l % d = 0 := Decidable.not_not.1 c3
  have h5 := budget_loop p ho h (d := d) (by omega) (total l / d).toNat (total_rounds ho (by omega) c4) (total l / d).toNat 0 (by omega)
  rw [show ((0 : Nat) : Int) * d = 0 by simp, leastB_zero] at h5
  refine EvG.ev (EvL.gives (EvL.of ((spans_ev p ho h).and (length_ev ho h)) fun n g hn => ?_) (EvL.gives h5 (EvG.one fun n g => ?_)))
  · simp only [flow_succ, s23, hn.1, hn.2, Option.bind_some]; rw [ltB_f (by omega), eqB_f c2, tmod_pos h0, eqB_t c4]
    simp only [cond_false, cond_true, Bool.not_true]
    rw [if_neg (by omega)]
  · simp only [flow_succ, s23]

/-! ### bound.Gaps -/
def gapG (h : Int) (w : Int) : List (Int × Int) → Int
  | [] => w
  | [_] => w
  | x :: y :: r => gapG h (max w (y.1 - x.2)) (y :: r)
theorem gaps_loop (b : List (Int × Int)) (hb : (b.length : Int) ≤ 100000) (hlow : Low b) (h : Int) : ∀ (r pre : List (Int × Int)) (x : Int × Int) (w : Int), b = pre ++ x :: r →
    EvL s78 (.L0 w ((pre ++ [x]).length : Int) b) (.E0 (gapG h w (x :: r)))
  | [], pre, x, w, e => EvL.one fun n f => by
    have := at_end (at_next e)
    simp only [flow_succ, s78]
    rw [ltB_f (by omega)]; rfl
  | y :: r, pre, x, w, e => by
    have h2 := at_lt e
    have h3 := at_lt (at_next e)
    have hx := hlow x (by rw [e]; simp)
    have hy := hlow y (by rw [e]; simp)
    have ih := gaps_loop b hb hlow h r (pre ++ [x]) y (max w (y.1 - x.2)) (at_next e)
    have e1 : w64 (((pre ++ [x]).length : Int) - 1) = (pre.length : Int) := by
      rw [List.length_append, List.length_singleton]
      rw [w64_id (by omega) (by omega)]; omega
    refine EvL.trans (EvL.one fun n f => ?_) ih
    simp only [flow_succ, s78]
    rw [ltB_t h3, at_get (at_next e), e1, at_get e, at_succ (pre ++ [x]) y (by omega)]
    simp only [cond_true]
    rw [if_pos (by omega), if_pos h3, if_pos (by omega), if_pos h2, w64_id (by omega) (by omega)]
def gapsP (l : List Run) (p : Int) : Int :=
  match spans 0 l p with
  | [] => -1
  | x :: r => gapG 0 (x.1 + total l - ((x :: r).getD r.length (0, 0)).2) (x :: r)
theorem gaps_ev {l : List Run} (p : Int) (ho : Ok l) (h : total l ≤ 100000) : Ev fun n => p78 n l p = some (gapsP l p) := by
  have h0 := total_nonneg ho
  have h1 := length_le_total ho
  have h2 := @spans_len l 0 p
  unfold gapsP
  have hlow := spans_low p ho h
  generalize hb : spans 0 l p = b at *
  match b with
  | [] =>
    refine EvG.ev (EvG.of (spans_ev p ho h) fun n g hn => ?_)
    simp only [flow_succ, s78, hn, hb, Option.bind_some]; rfl
  | x :: r =>
    have hx := hlow x (by simp)
    have hlen : ((x :: r).length : Int) = r.length + 1 := by simp
    have hz : ((x :: r).getD r.length (0, 0)).2 ≤ 100000 ∧ 0 ≤ ((x :: r).getD r.length (0, 0)).2 := by
      have : (x :: r).getD r.length (0, 0) ∈ x :: r := by
        rw [List.getD_eq_getElem?_getD, List.getElem?_eq_getElem (by simp)]
        exact List.getElem_mem _
      have := hlow _ this; omega
    refine EvG.ev (EvL.gives (EvL.of ((spans_ev p ho h).and (length_ev ho h)) fun n g hn => ?_) (EvL.gives (gaps_loop (x :: r) (by omega) hlow 0 r [] x (x.1 + total l - ((x :: r).getD r.length (0, 0)).2) rfl) (EvG.one fun n g => ?_)))
    · simp only [flow_succ, s78, hn.1, hn.2, hb, Option.bind_some]
      have e1 : w64 (((x :: r).length : Int) - 1) = r.length := by rw [w64_id (by omega) (by omega)]; omega
      rw [eqB_f (by omega), e1, toNat_len]
      simp only [cond_false]
      rw [if_pos (Int.le_refl _), if_pos (by omega), if_pos (by omega), if_pos (by omega), show (x :: r).getD 0 (0, 0) = x from rfl, w64_id (x := x.1 + total l) (by omega) (by omega), w64_id (by omega) (by omega)]
      rfl
    · simp only [flow_succ, s78]
end Go.Am.Fr
