/- Frames as rows of runs: ticks, spans, distances, counts. Plain Lean, no program in sight. -/
import Derived.Test.YtebmpngnbnigcaaMD
set_option linter.unusedVariables false
namespace Go.Am.Fr

abbrev Run := Int × Int
def total : List Run → Int
  | [] => 0
  | r :: l => r.2 + total l
def Ok (l : List Run) : Prop := ∀ r ∈ l, 1 ≤ r.2
def words (l : List Run) : List Int := l.flatMap fun r => List.replicate r.2.toNat r.1
def spans : Int → List Run → Int → List (Int × Int)
  | _, [], _ => []
  | a, r :: l, p => if r.1 = p then (a, a + r.2) :: spans (a + r.2) l p else spans (a + r.2) l p

theorem spans_cons (a p : Int) (r : Run) (l : List Run) : spans a (r :: l) p = if r.1 = p then (a, a + r.2) :: spans (a + r.2) l p else spans (a + r.2) l p := rfl
theorem Ok.tail {r : Run} {l : List Run} (h : Ok (r :: l)) : Ok l := fun x hx => h x (List.mem_cons_of_mem _ hx)
theorem Ok.head {r : Run} {l : List Run} (h : Ok (r :: l)) : 1 ≤ r.2 := h r (by simp)
theorem total_nonneg : ∀ {l : List Run}, Ok l → 0 ≤ total l
  | [], _ => by simp [total]
  | r :: l, h => by have := total_nonneg h.tail; have := h.head; simp only [total]; omega
theorem total_append : ∀ (l m : List Run), total (l ++ m) = total l + total m
  | [], m => by simp [total]
  | r :: l, m => by simp only [List.cons_append, total, total_append l m]; omega
theorem length_le_total : ∀ {l : List Run}, Ok l → (l.length : Int) ≤ total l
  | [], _ => by simp [total]
  | r :: l, h => by have := length_le_total h.tail; have := h.head; simp only [total, List.length_cons]; omega
theorem words_cons (r : Run) (l : List Run) : words (r :: l) = List.replicate r.2.toNat r.1 ++ words l := by simp [words]
theorem words_length : ∀ {l : List Run}, Ok l → ((words l).length : Int) = total l
  | [], _ => by simp [words, total]
  | r :: l, h => by
    have := words_length h.tail
    have := h.head
    rw [words_cons, List.length_append, List.length_replicate]
    simp only [total]; omega

theorem spans_in : ∀ {l : List Run} {a p : Int}, Ok l → ∀ s ∈ spans a l p, a ≤ s.1 ∧ s.1 < s.2 ∧ s.2 ≤ a + total l
  | [], a, p, _, s, hs => by simp [spans] at hs
  | r :: l, a, p, h, s, hs => by
    have h1 := h.head
    have h2 := total_nonneg h.tail
    simp only [total]
    unfold spans at hs
    split at hs
    · rcases List.mem_cons.1 hs with rfl | hs
      · simp only; omega
      · have := spans_in h.tail s hs; omega
    · have := spans_in h.tail s hs; omega
theorem spans_sorted : ∀ {l : List Run} {a p : Int}, Ok l → (spans a l p).Pairwise fun s s' => s.2 ≤ s'.1
  | [], a, p, _ => by simp [spans]
  | r :: l, a, p, h => by
    unfold spans
    split
    · refine List.pairwise_cons.2 ⟨fun s hs => ?_, spans_sorted h.tail⟩
      have := spans_in h.tail s hs
      simp only; omega
    · exact spans_sorted h.tail
theorem spans_append : ∀ (l m : List Run) (a p : Int), spans a (l ++ m) p = spans a l p ++ spans (a + total l) m p
  | [], m, a, p => by simp [spans, total]
  | r :: l, m, a, p => by
    have e : a + total (r :: l) = a + r.2 + total l := by simp only [total]; omega
    rw [e, List.cons_append]
    simp only [spans]
    rw [spans_append l m (a + r.2) p]
    split <;> simp
theorem tick : ∀ {l : List Run} {a p : Int}, Ok l → ∀ u : Nat, (words l)[u]? = some p ↔ ∃ s ∈ spans a l p, s.1 ≤ a + u ∧ a + u < s.2
  | [], a, p, _, u => by simp [words, spans]
  | r :: l, a, p, h, u => by
    have h1 := h.head
    rw [words_cons]
    by_cases hu : u < r.2.toNat
    · rw [List.getElem?_append_left (by simpa using hu), List.getElem?_replicate, if_pos hu]
      unfold spans
      split
      · rename_i e
        exact ⟨fun _ => ⟨(a, a + r.2), by simp, by simp only; omega⟩, fun _ => by rw [e]⟩
      · rename_i e
        constructor
        · intro k; exact absurd (Option.some.inj k) e
        · rintro ⟨s, hs, k1, k2⟩
          have := spans_in h.tail s hs
          omega
    · rw [List.getElem?_append_right (by simp; omega), List.length_replicate, tick h.tail (a := a + r.2) (u - r.2.toNat)]
      have e : a + r.2 + ((u - r.2.toNat : Nat) : Int) = a + u := by omega
      rw [e, spans_cons]
      split
      · constructor
        · rintro ⟨s, hs, k⟩; exact ⟨s, List.mem_cons_of_mem _ hs, k⟩
        · rintro ⟨s, hs, k1, k2⟩
          rcases List.mem_cons.1 hs with rfl | hs
          · simp only at k2; omega
          · exact ⟨s, hs, k1, k2⟩
      · exact Iff.rfl
theorem tick0 {l : List Run} {p : Int} (h : Ok l) (u : Nat) : (words l)[u]? = some p ↔ ∃ s ∈ spans 0 l p, s.1 ≤ u ∧ (u : Int) < s.2 := by
  simpa using tick (a := 0) (p := p) h u
theorem mem_words {l : List Run} {p : Int} (h : Ok l) : p ∈ words l ↔ spans 0 l p ≠ [] := by
  constructor
  · intro hp
    obtain ⟨u, hu⟩ := List.mem_iff_getElem?.1 hp
    obtain ⟨s, hs, _⟩ := (tick0 h u).1 hu
    intro e; rw [e] at hs; cases hs
  · intro hp
    obtain ⟨s, l', e⟩ := List.exists_cons_of_ne_nil hp
    have hs : s ∈ spans 0 l p := by rw [e]; simp
    have := spans_in h s hs
    exact List.mem_of_getElem? ((tick0 h s.1.toNat).2 ⟨s, hs, by omega, by omega⟩)

/-! ### The next tick -/
def nextS (b : List (Int × Int)) (t len : Int) : Int :=
  match b.find? (fun s => decide (t + 1 < s.2)) with
  | some s => max (t + 1) s.1
  | none => len + (b.getD 0 (0, 0)).1
def IsNext (w : List Int) (p : Int) (t v : Nat) : Prop := t < v ∧ w[v % w.length]? = some p ∧ ∀ u, t < u → u < v → w[u % w.length]? ≠ some p

theorem next_spec {l : List Run} {p : Int} (h : Ok l) (hb : spans 0 l p ≠ []) {t : Nat} (ht : (t : Int) < total l) :
    ∃ v : Nat, nextS (spans 0 l p) t (total l) = v ∧ IsNext (words l) p t v ∧ (v : Int) ≤ 2 * total l := by
  have hL := words_length h
  unfold nextS IsNext
  cases hf : (spans 0 l p).find? (fun s => decide ((t : Int) + 1 < s.2)) with
  | some s =>
    obtain ⟨h1, as, bs, h2, h3⟩ := List.find?_eq_some_iff_append.1 hf
    have hs : s ∈ spans 0 l p := by rw [h2]; simp
    have hi := spans_in h s hs
    simp only [decide_eq_true_eq] at h1
    have hsort := spans_sorted (a := 0) (p := p) h
    refine ⟨(max ((t : Int) + 1) s.1).toNat, by simp only; omega, ⟨by omega, ?_, fun u hu1 hu2 hu3 => ?_⟩, by omega⟩
    · rw [Nat.mod_eq_of_lt (by omega)]
      exact (tick0 h _).2 ⟨s, hs, by omega, by omega⟩
    · rw [Nat.mod_eq_of_lt (by omega)] at hu3
      obtain ⟨s', hs', k1, k2⟩ := (tick0 h u).1 hu3
      rw [h2] at hs' hsort
      rcases List.mem_append.1 hs' with hs' | hs'
      · have := h3 s' hs'
        simp only [Bool.not_eq_true', decide_eq_false_iff_not] at this
        omega
      · rcases List.mem_cons.1 hs' with rfl | hs'
        · omega
        · have := (List.pairwise_cons.1 (List.pairwise_append.1 hsort).2.1).1 s' hs'
          omega
  | none =>
    have hn := List.find?_eq_none.1 hf
    obtain ⟨s, b, e⟩ := List.exists_cons_of_ne_nil hb
    have hs : s ∈ spans 0 l p := by rw [e]; simp
    have hi := spans_in h s hs
    have hsort := spans_sorted (a := 0) (p := p) h
    have e0 : ((spans 0 l p).getD 0 (0, 0)).1 = s.1 := by rw [e]; rfl
    simp only [e0]
    refine ⟨(total l + s.1).toNat, by omega, ⟨by omega, ?_, fun u hu1 hu2 hu3 => ?_⟩, by omega⟩
    · have : (total l + s.1).toNat % (words l).length = s.1.toNat := by
        have : (total l + s.1).toNat = s.1.toNat + (words l).length := by omega
        rw [this, Nat.add_mod_right, Nat.mod_eq_of_lt (by omega)]
      rw [this]
      exact (tick0 h _).2 ⟨s, hs, by omega, by omega⟩
    · by_cases hc : u < (words l).length
      · rw [Nat.mod_eq_of_lt hc] at hu3
        obtain ⟨s', hs', k1, k2⟩ := (tick0 h u).1 hu3
        have := hn s' hs'
        simp only [decide_eq_true_eq] at this
        omega
      · have hm : u % (words l).length = u - (words l).length := by
          conv => lhs; rw [show u = (u - (words l).length) + (words l).length by omega]
          rw [Nat.add_mod_right, Nat.mod_eq_of_lt (by omega)]
        rw [hm] at hu3
        obtain ⟨s', hs', k1, k2⟩ := (tick0 h _).1 hu3
        rw [e] at hs' hsort
        rcases List.mem_cons.1 hs' with rfl | hs'
        · omega
        · have := (List.pairwise_cons.1 hsort).1 s' hs'
          omega
theorem IsNext.eq {w : List Int} {p : Int} {t v v' : Nat} (h : IsNext w p t v) (k : IsNext w p t v') : v = v' := by
  rcases Nat.lt_trichotomy v v' with c | c | c
  · exact absurd h.2.1 (k.2.2 v h.1 c)
  · exact c
  · exact absurd k.2.1 (h.2.2 v' k.1 c)

/-! ### The greatest distance -/
theorem eq_of_le {a b : Int} (h : ∀ m, a ≤ m ↔ b ≤ m) : a = b := Int.le_antisymm ((h b).2 (Int.le_refl _)) ((h a).1 (Int.le_refl _))
theorem foldl_max_le {α : Type} (g : α → Int) : ∀ (l : List α) (a m : Int), l.foldl (fun acc x => max acc (g x)) a ≤ m ↔ a ≤ m ∧ ∀ x ∈ l, g x ≤ m
  | [], a, m => by simp
  | x :: l, a, m => by
    rw [List.foldl_cons, foldl_max_le g l]
    simp only [List.forall_mem_cons]
    constructor
    · rintro ⟨h1, h2⟩; exact ⟨by omega, by omega, h2⟩
    · rintro ⟨h1, h2, h3⟩; exact ⟨by omega, h3⟩
/-- The distance from a tick. -/
def dist (b : List (Int × Int)) (len t : Int) : Int := nextS b t len - t
/-- By the ends of spans. -/
def lateP (l : List Run) (f to : Int) : Int :=
  if spans 0 l f = [] then 0 else if spans 0 l to = [] then -1 else
  (spans 0 l f).foldl (fun acc s => max (max acc (dist (spans 0 l to) (total l) s.1)) (dist (spans 0 l to) (total l) (s.2 - 1))) 0
/-- By ticks. -/
def worstR (l : List Run) (f to : Int) (i : Nat) : Int :=
  (List.range i).foldl (fun (acc : Int) (t : Nat) => if (words l)[t]? = some f then max acc (dist (spans 0 l to) (total l) t) else acc) 0
theorem worstR_le (l : List Run) (f to m : Int) : ∀ i, worstR l f to i ≤ m ↔ 0 ≤ m ∧ ∀ t, t < i → (words l)[t]? = some f → dist (spans 0 l to) (total l) t ≤ m
  | 0 => by simp [worstR]
  | i + 1 => by
    have ih := worstR_le l f to m i
    have e : worstR l f to (i + 1) = if (words l)[i]? = some f then max (worstR l f to i) (dist (spans 0 l to) (total l) i) else worstR l f to i := by
      unfold worstR; rw [List.range_succ, List.foldl_append]; rfl
    rw [e]
    split
    · rename_i hc
      constructor
      · intro hm
        obtain ⟨h1, h2⟩ := ih.1 (by omega)
        refine ⟨h1, fun t ht hw => ?_⟩
        by_cases hti : t = i
        · subst hti; omega
        · exact h2 t (by omega) hw
      · rintro ⟨h1, h2⟩
        have := ih.2 ⟨h1, fun t ht hw => h2 t (by omega) hw⟩
        have := h2 i (by omega) hc
        omega
    · rename_i hc
      rw [ih]
      constructor
      · rintro ⟨h1, h2⟩
        refine ⟨h1, fun t ht hw => ?_⟩
        by_cases hti : t = i
        · subst hti; exact absurd hw hc
        · exact h2 t (by omega) hw
      · rintro ⟨h1, h2⟩; exact ⟨h1, fun t ht hw => h2 t (by omega) hw⟩
theorem foldl_max2_le {α : Type} (g k : α → Int) (l : List α) (a m : Int) : l.foldl (fun acc x => max (max acc (g x)) (k x)) a ≤ m ↔ a ≤ m ∧ ∀ x ∈ l, g x ≤ m ∧ k x ≤ m := by
  have e : (fun (acc : Int) (x : α) => max (max acc (g x)) (k x)) = fun acc x => max acc (max (g x) (k x)) := by funext acc x; omega
  rw [e, foldl_max_le]
  constructor
  · rintro ⟨h1, h2⟩; exact ⟨h1, fun x hx => by have := h2 x hx; omega⟩
  · rintro ⟨h1, h2⟩; exact ⟨h1, fun x hx => by have := h2 x hx; omega⟩
theorem late_eq {l : List Run} {f to : Int} (h : Ok l) (ht : spans 0 l to ≠ []) (m : Int) :
    (∀ t : Nat, t < (words l).length → (words l)[t]? = some f → dist (spans 0 l to) (total l) t ≤ m) ↔ ∀ s ∈ spans 0 l f, dist (spans 0 l to) (total l) s.1 ≤ m ∧ dist (spans 0 l to) (total l) (s.2 - 1) ≤ m := by
  have hL := words_length h
  constructor
  · intro k s hs
    have hi := spans_in h s hs
    have h1 := k s.1.toNat (by omega) ((tick0 h _).2 ⟨s, hs, by omega, by omega⟩)
    have h2 := k (s.2 - 1).toNat (by omega) ((tick0 h _).2 ⟨s, hs, by omega, by omega⟩)
    rw [show ((s.1.toNat : Nat) : Int) = s.1 by omega] at h1
    rw [show (((s.2 - 1).toNat : Nat) : Int) = s.2 - 1 by omega] at h2
    exact ⟨h1, h2⟩
  · intro k t htl hw
    obtain ⟨s, hs, k1, k2⟩ := (tick0 h t).1 hw
    obtain ⟨m1, m2⟩ := k s hs
    have hi := spans_in h s hs
    by_cases hc : (t : Int) = s.2 - 1
    · rw [hc]; exact m2
    obtain ⟨v, e1, e2, _⟩ := next_spec h ht (t := t) (by omega)
    obtain ⟨v', e1', e2', _⟩ := next_spec h ht (t := s.1.toNat) (by omega)
    rw [show ((s.1.toNat : Nat) : Int) = s.1 by omega] at e1'
    unfold dist at m1 ⊢
    rw [e1]; rw [e1'] at m1
    have htick : ∀ u : Nat, s.1 ≤ u → (u : Int) < s.2 → (words l)[u % (words l).length]? = some f := fun u hu1 hu2 => by
      rw [Nat.mod_eq_of_lt (by omega)]
      exact (tick0 h _).2 ⟨s, hs, hu1, hu2⟩
    have hlt := e2'.1
    by_cases hft : f = to
    · subst hft
      have : v ≤ t + 1 := by
        apply Nat.le_of_not_lt
        intro hv
        exact e2.2.2 (t + 1) (by omega) hv (htick (t + 1) (by omega) (by omega))
      omega
    · have h1 : ¬ (v' : Int) < s.2 := fun hv => by
        have := htick v' (by omega) hv
        rw [e2'.2.1] at this
        exact hft (Option.some.inj this).symm
      have h2 : v ≤ v' := by
        apply Nat.le_of_not_lt
        intro hv
        exact e2.2.2 v' (by omega) hv e2'.2.1
      omega
def lateR (l : List Run) (f to : Int) : Int := if f ∉ words l then 0 else if to ∉ words l then -1 else worstR l f to (words l).length
theorem late_same {l : List Run} (h : Ok l) (f to : Int) : lateP l f to = lateR l f to := by
  unfold lateP lateR
  have e1 : spans 0 l f = [] ↔ f ∉ words l := by rw [mem_words h]; simp
  have e2 : spans 0 l to = [] ↔ to ∉ words l := by rw [mem_words h]; simp
  by_cases c1 : spans 0 l f = []
  · rw [if_pos c1, if_pos (e1.1 c1)]
  rw [if_neg c1, if_neg (fun c => c1 (e1.2 c))]
  by_cases c2 : spans 0 l to = []
  · rw [if_pos c2, if_pos (e2.1 c2)]
  rw [if_neg c2, if_neg (fun c => c2 (e2.2 c))]
  apply eq_of_le
  intro m
  rw [foldl_max2_le, worstR_le, late_eq h c2]

/-! ### Ticks in a period -/
def over (s : Int × Int) (lo hi : Int) : Int := max 0 (min s.2 hi - max s.1 lo)
def overs (b : List (Int × Int)) (lo hi : Int) : Int := (b.map fun s => over s lo hi).sum
theorem overs_congr {b : List (Int × Int)} {lo hi lo' hi' : Int} (h : ∀ s ∈ b, over s lo hi = over s lo' hi') : overs b lo hi = overs b lo' hi' := by
  unfold overs; rw [List.map_congr_left h]
theorem count_over : ∀ {l : List Run} {a p : Int}, Ok l → ∀ lo k : Nat, ((((words l).drop lo).take k).count p : Int) = overs (spans a l p) (a + lo) (a + (lo + k))
  | [], a, p, _, lo, k => by simp [words, spans, overs]
  | r :: l, a, p, h, lo, k => by
    have h1 := h.head
    have ih := count_over h.tail (a := a + r.2) (p := p) (lo - r.2.toNat) (k - (r.2.toNat - lo))
    rw [words_cons, List.drop_append, List.take_append, List.count_append, List.drop_replicate, List.take_replicate, List.count_replicate, List.length_replicate, List.length_replicate, Int.natCast_add, ih, spans_cons]
    have e : overs (spans (a + r.2) l p) (a + r.2 + ((lo - r.2.toNat : Nat) : Int)) (a + r.2 + (((lo - r.2.toNat : Nat) : Int) + ((k - (r.2.toNat - lo) : Nat) : Int))) = overs (spans (a + r.2) l p) (a + lo) (a + (lo + k)) :=
      overs_congr fun s hs => by
        have := spans_in h.tail s hs
        unfold over; omega
    rw [e]
    by_cases hc : r.1 = p
    · rw [if_pos hc, if_pos (by simpa using hc)]
      unfold overs
      rw [List.map_cons, List.sum_cons]
      congr 1
      unfold over; simp only; omega
    · rw [if_neg hc, if_neg (by simpa using hc)]; simp
def cnt (l : List Run) (p d : Int) (j : Nat) : Int := overs (spans 0 l p) (j * d) (j * d + d)
theorem cnt_count {l : List Run} (h : Ok l) (p : Int) {d : Int} (hd : 0 ≤ d) (j : Nat) : cnt l p d j = (((words l).drop (j * d).toNat).take d.toNat).count p := by
  have hj : 0 ≤ (j : Int) * d := Int.mul_nonneg (by omega) hd
  have := count_over h (a := 0) (p := p) (j * d).toNat d.toNat
  rw [this]; unfold cnt
  rw [Int.toNat_of_nonneg hj, Int.toNat_of_nonneg hd]; simp
theorem cnt_le {l : List Run} (h : Ok l) (p : Int) {d : Int} (hd : 0 ≤ d) (j : Nat) : 0 ≤ cnt l p d j ∧ cnt l p d j ≤ d := by
  rw [cnt_count h p hd j]
  have h1 : (((words l).drop (j * d).toNat).take d.toNat).count p ≤ (((words l).drop (j * d).toNat).take d.toNat).length := List.count_le_length
  have h2 : (((words l).drop (j * d).toNat).take d.toNat).length ≤ d.toNat := List.length_take_le _ _
  omega
def leastB (l : List Run) (p d start : Int) (j : Nat) : Int := (List.range j).foldl (fun acc i => min acc (cnt l p d i)) start
theorem leastB_zero (l : List Run) (p d start : Int) : leastB l p d start 0 = start := rfl
theorem leastB_succ (l : List Run) (p d start : Int) (j : Nat) : leastB l p d start (j + 1) = min (leastB l p d start j) (cnt l p d j) := by
  unfold leastB; rw [List.range_succ, List.foldl_append]; rfl
theorem least_same {l : List Run} (h : Ok l) (p : Int) {d : Int} (hd : 0 ≤ d) : ∀ j, leastB l p d (d + 1) (j + 1) = leastB l p d d (j + 1)
  | 0 => by
    have := cnt_le h p hd 0
    rw [leastB_succ, leastB_succ, leastB_zero, leastB_zero]; omega
  | j + 1 => by rw [leastB_succ, leastB_succ (j := j + 1), least_same h p hd j]
theorem leastB_in {l : List Run} (h : Ok l) (p : Int) {d : Int} (hd : 0 ≤ d) {s : Int} (hs : 0 ≤ s) : ∀ j, 0 ≤ leastB l p d s j ∧ leastB l p d s j ≤ s
  | 0 => by rw [leastB_zero]; omega
  | j + 1 => by
    have := leastB_in h p hd hs j
    have := cnt_le h p hd j
    rw [leastB_succ]; omega
def budget (l : List Run) (p d : Int) : Int := if d < 1 then -1 else if total l = 0 then -1 else if total l % d ≠ 0 then -1 else leastB l p d d (total l / d).toNat

/-! ### Gaps -/
def gapL (h : Int) : List (Int × Int) → List Int
  | [] => []
  | [x] => [h - x.2]
  | x :: y :: r => (y.1 - x.2) :: gapL h (y :: r)
theorem nextS_end {l : List Run} {p : Int} (h : Ok l) {as : List (Int × Int)} {x : Int × Int} {r : List (Int × Int)} (e : spans 0 l p = as ++ x :: r) (len : Int) :
    dist (spans 0 l p) len (x.2 - 1) = (match r with | [] => len + ((spans 0 l p).getD 0 (0, 0)).1 | y :: _ => y.1) - x.2 + 1 := by
  have hsort := spans_sorted (a := 0) (p := p) h
  have hx := spans_in h x (by rw [e]; simp)
  have hy : ∀ y ∈ r, y.1 < y.2 := fun y hy => (spans_in h y (by rw [e]; simp [hy])).2.1
  rw [e] at hsort
  have h1 : ∀ a ∈ as, a.2 ≤ x.1 := fun a ha => (List.pairwise_append.1 hsort).2.2 a ha x (by simp)
  have h2 := (List.pairwise_cons.1 (List.pairwise_append.1 hsort).2.1).1
  unfold dist nextS
  have hfa : as.find? (fun s => decide (x.2 - 1 + 1 < s.2)) = none := List.find?_eq_none.2 fun a ha => by
    have := h1 a ha
    simp only [decide_eq_true_eq]; omega
  have hf : (spans 0 l p).find? (fun s => decide (x.2 - 1 + 1 < s.2)) = r.head? := by
    rw [e, List.find?_append, hfa, List.find?_cons]
    rw [show decide (x.2 - 1 + 1 < x.2) = false from decide_eq_false (by omega)]
    cases r with
    | nil => rfl
    | cons y r =>
      have := h2 y (by simp)
      have := hy y (by simp)
      rw [List.find?_cons, show decide (x.2 - 1 + 1 < y.2) = true from decide_eq_true (by omega)]; rfl
  rw [hf]
  cases r with
  | nil => simp only [List.head?_nil]; omega
  | cons y r =>
    have := h2 y (by simp)
    simp only [List.head?_cons]; omega
theorem gap_dist {l : List Run} {p : Int} (h : Ok l) (m len : Int) : ∀ (r as : List (Int × Int)), spans 0 l p = as ++ r →
    ((∀ g ∈ gapL (len + ((spans 0 l p).getD 0 (0, 0)).1) r, g ≤ m) ↔ ∀ s ∈ r, dist (spans 0 l p) len (s.2 - 1) ≤ m + 1)
  | [], _, _ => by simp [gapL]
  | [x], as, e => by
    have := nextS_end h e len
    simp only [gapL, List.mem_singleton, forall_eq, this]; omega
  | x :: y :: r, as, e => by
    have h1 := nextS_end h e len
    have ih := gap_dist h m len (y :: r) (as ++ [x]) (by rw [e]; simp)
    simp only [gapL]
    rw [List.forall_mem_cons, List.forall_mem_cons, ih, h1]
    simp only
    constructor <;> (rintro ⟨a, b⟩; exact ⟨by omega, b⟩)
theorem dist_pos {l : List Run} {p : Int} (h : Ok l) (hb : spans 0 l p ≠ []) {t : Int} (h0 : 0 ≤ t) (ht : t < total l) : 1 ≤ dist (spans 0 l p) (total l) t := by
  obtain ⟨v, e1, e2, _⟩ := next_spec h hb (t := t.toNat) (by omega)
  rw [show ((t.toNat : Nat) : Int) = t by omega] at e1
  have := e2.1
  unfold dist; rw [e1]; omega
theorem gaps_late {l : List Run} {p : Int} (h : Ok l) (hb : spans 0 l p ≠ []) (m : Int) : lateP l p p ≤ m + 1 ↔ ∀ g ∈ gapL (total l + ((spans 0 l p).getD 0 (0, 0)).1) (spans 0 l p), g ≤ m := by
  rw [gap_dist h m (total l) (spans 0 l p) [] rfl]
  unfold lateP
  rw [if_neg hb, if_neg hb, foldl_max2_le]
  constructor
  · rintro ⟨_, k⟩ s hs; exact (k s hs).2
  · intro k
    obtain ⟨s0, b, e⟩ := List.exists_cons_of_ne_nil hb
    have hs0 : s0 ∈ spans 0 l p := by rw [e]; simp
    have hi0 := spans_in h s0 hs0
    have := dist_pos h hb (t := s0.2 - 1) (by omega) (by omega)
    have := k s0 hs0
    refine ⟨by omega, fun s hs => ⟨?_, k s hs⟩⟩
    have hi := spans_in h s hs
    by_cases hc : s.1 = s.2 - 1
    · rw [hc]; exact k s hs
    · obtain ⟨v, e1, e2, _⟩ := next_spec h hb (t := s.1.toNat) (by omega)
      rw [show ((s.1.toNat : Nat) : Int) = s.1 by omega] at e1
      have hw := words_length h
      have : v ≤ s.1.toNat + 1 := by
        apply Nat.le_of_not_lt
        intro hv
        refine e2.2.2 (s.1.toNat + 1) (by omega) hv ?_
        rw [Nat.mod_eq_of_lt (by omega)]
        exact (tick0 h _).2 ⟨s, hs, by omega, by omega⟩
      unfold dist; rw [e1]; omega
end Go.Am.Fr
