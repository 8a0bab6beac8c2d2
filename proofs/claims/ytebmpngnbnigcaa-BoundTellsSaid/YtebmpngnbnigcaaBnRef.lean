/- Law 9: the walks through the document's functions (horariumref7: words, Late, Budget, Gaps), and that both sides are the same. -/
import Derived.Test.YtebmpngnbnigcaaBnWalk
set_option linter.unusedVariables false
set_option linter.unusedSimpArgs false
namespace Go.Am.Fr

/-! ### words -/
theorem words_in (l : List Run) (len i q N : Int) (hN : N ≤ 100000) : ∀ (k : Nat) (j : Int) (acc : List Int), 0 ≤ j → j + k = N → (acc.length : Int) + (N - j) ≤ 8192 →
    EvL s81 (.L2 j l len i acc q N) (.E2 l len i (acc ++ List.replicate k q))
  | 0, j, acc, h0, h1, h2 => EvL.one fun n f => by
    simp only [flow_succ, s81]
    rw [ltB_f (by omega)]
    simp
  | k + 1, j, acc, h0, h1, h2 => by
    have ih := words_in l len i q N hN k (j + 1) (acc ++ [q]) (by omega) (by omega) (by rw [List.length_append, List.length_singleton]; omega)
    rw [List.append_assoc, List.singleton_append, ← List.replicate_succ] at ih
    refine EvL.trans (EvL.one fun n f => ?_) ih
    simp only [flow_succ, s81]
    rw [ltB_t (by omega), ltB_t (by omega), w64_id (by omega) (by omega)]
    simp only [cond_true]
    rw [if_pos (by rw [List.length_singleton]; omega)]
theorem words_loop (l : List Run) (hl : (l.length : Int) ≤ 100000) : ∀ (l2 pre : List Run) (acc : List Int), l = pre ++ l2 → Ok l2 → (acc.length : Int) + total l2 ≤ 8192 →
    EvL s81 (.L0 l l.length pre.length acc) (.E0 (acc ++ words l2))
  | [], pre, acc, e, _, _ => EvL.one fun n f => by
    have := at_end e
    simp only [flow_succ, s81]
    rw [ltB_f (by omega)]
    simp [words]
  | r :: l2, pre, acc, e, ho, hb => by
    have h1 := ho.head
    have h2 := total_nonneg ho.tail
    have h3 := at_lt e
    simp only [total] at hb
    have ih := words_loop l hl l2 (pre ++ [r]) (acc ++ List.replicate r.2.toNat r.1) (at_next e) ho.tail (by rw [List.length_append, List.length_replicate]; omega)
    rw [List.append_assoc, ← words_cons] at ih
    refine EvL.trans (EvL.one (q := .Q4 l l.length pre.length acc) fun n f => ?_) <| EvL.trans (EvL.one fun n f => ?_) <|
      EvL.trans (words_in l l.length pre.length r.1 r.2 (by omega) r.2.toNat 0 acc (Int.le_refl _) (by omega) (by omega)) <| EvL.trans (EvL.one fun n f => ?_) ih
    · simp only [flow_succ, s81]; rw [ltB_t h3]; rfl
    · simp only [flow_succ, s81]
      rw [if_pos (by omega), if_pos h3, at_get e]
    · simp only [flow_succ, s81]
      rw [at_succ pre r (by omega)]
theorem words_ev {l : List Run} (ho : Ok l) (h : total l ≤ 8192) : Ev fun n => p81 n l = some (words l) := by
  have := length_le_total ho
  have h1 := words_loop l (by omega) l [] [] rfl ho (by simpa using h)
  rw [List.nil_append] at h1
  refine EvG.ev (EvL.gives (EvL.one fun n f => ?_) (EvL.gives h1 (EvG.one fun n f => ?_)))
  · simp only [flow_succ, s81]; rfl
  · simp only [flow_succ, s81]

/-! ### Late -/
def has (w : List Int) (p : Int) : Bool := w.any fun x => eqB x p
theorem has_mem {w : List Int} {p : Int} : has w p = true ↔ p ∈ w := by
  unfold has
  rw [List.any_eq_true]
  constructor
  · rintro ⟨x, hx, e⟩; rw [eqB_eq, decide_eq_true_iff] at e; exact e ▸ hx
  · intro hp; exact ⟨p, hp, eqB_t rfl⟩
theorem has_loop (w : List Int) (hw : (w.length : Int) ≤ 100000) (f to z : Int) : ∀ (w2 pre : List Int) (s a : Bool), w = pre ++ w2 →
    EvL s77 (.L0 f to w z s a w w.length pre.length) (.E0 f to w z (s || has w2 to) (a || has w2 f))
  | [], pre, s, a, e => EvL.one fun n g => by
    have := at_end e
    simp only [flow_succ, s77]
    rw [ltB_f (by omega)]
    simp [has]
  | x :: w2, pre, s, a, e => by
    have h3 := at_lt e
    have ih := has_loop w hw f to z w2 (pre ++ [x]) (s || eqB x to) (a || eqB x f) (at_next e)
    rw [show (s || has (x :: w2) to) = ((s || eqB x to) || has w2 to) by simp [has, Bool.or_assoc], show (a || has (x :: w2) f) = ((a || eqB x f) || has w2 f) by simp [has, Bool.or_assoc]]
    refine EvL.trans (EvL.one fun n g => ?_) ih
    simp only [flow_succ, s77]
    rw [ltB_t h3, at_get e, at_succ pre x (by omega)]
    simp only [cond_true]
    rw [if_pos (by omega), if_pos h3]
    cases s <;> cases a <;> simp
theorem next_search {w : List Int} (hw : (w.length : Int) ≤ 100000) (f to worst : Int) {T v : Nat} (hv : IsNext w to T v) (hT : T < w.length) (hv2 : v ≤ 200000) : ∀ (k : Nat) (d : Int), 1 ≤ d → T + d + k = v →
    EvL s77 (.L4 f to w worst T d w w.length T) (.E4 f to w worst (v - T) w w.length T)
  | k, d, hd, e => by
    have hu : Int.tmod (w64 ((T : Int) + d)) (w.length : Int) = (((T : Int) + d).toNat % w.length : Nat) := by
      rw [w64_id (by omega) (by omega), tmod_pos (by omega), Int.natCast_emod, Int.toNat_of_nonneg (by omega)]
    have hlt : ((T : Int) + d).toNat % w.length < w.length := Nat.mod_lt _ (by omega)
    have hget : w.getD (((T : Int) + d).toNat % w.length) 0 = w[((T : Int) + d).toNat % w.length] := by
      rw [List.getD_eq_getElem?_getD, List.getElem?_eq_getElem hlt]; rfl
    match k with
    | 0 =>
      have hvd : ((T : Int) + d).toNat = v := by omega
      have hx := hv.2.1
      rw [← hvd, List.getElem?_eq_getElem hlt] at hx
      rw [show (v : Int) - T = d by omega]
      refine EvL.one fun n g => ?_
      simp only [flow_succ, s77]
      rw [hu, Int.toNat_natCast, hget, eqB_t (Option.some.inj hx)]
      simp only [Bool.not_true, cond_false]
      rw [if_neg (by omega), if_pos (by omega), if_pos (by omega)]
    | k + 1 =>
      have ih := next_search hw f to worst hv hT hv2 k (d + 1) (by omega) (by omega)
      have hx := hv.2.2 ((T : Int) + d).toNat (by omega) (by omega)
      rw [List.getElem?_eq_getElem hlt] at hx
      refine EvL.trans (EvL.one fun n g => ?_) ih
      simp only [flow_succ, s77]
      rw [hu, Int.toNat_natCast, hget, eqB_f (fun c => hx (by rw [c])), w64_id (x := d + 1) (by omega) (by omega)]
      simp only [Bool.not_false, cond_true]
      rw [if_neg (by omega), if_pos (by omega), if_pos (by omega)]
theorem worstR_succ (l : List Run) (f to : Int) (i : Nat) : worstR l f to (i + 1) = if (words l)[i]? = some f then max (worstR l f to i) (dist (spans 0 l to) (total l) i) else worstR l f to i := by
  unfold worstR; rw [List.range_succ, List.foldl_append]; rfl
theorem late_ref_loop {l : List Run} (ho : Ok l) (h : total l ≤ 8192) (f to : Int) (ht : spans 0 l to ≠ []) : ∀ (k i : Nat), i + k = (words l).length →
    EvL s77 (.L2 f to (words l) (worstR l f to i) (words l) (words l).length i) (.E2 (worstR l f to (words l).length))
  | 0, i, e => EvL.one fun n g => by
    have e' : i = (words l).length := by omega
    subst e'
    simp only [flow_succ, s77]
    rw [ltB_f (Int.le_refl _)]; rfl
  | k + 1, i, e => by
    have ih := late_ref_loop ho h f to ht k (i + 1) (by omega)
    have hL := words_length ho
    have hi : i < (words l).length := by omega
    have hget : (words l).getD i 0 = (words l)[i] := by rw [List.getD_eq_getElem?_getD, List.getElem?_eq_getElem hi]; rfl
    rw [worstR_succ, List.getElem?_eq_getElem hi] at ih
    refine EvL.trans (EvL.one (q := .Q14 f to (words l) (worstR l f to i) (words l) (words l).length i) fun n g => ?_) ?_
    · simp only [flow_succ, s77]; rw [ltB_t (by omega)]; rfl
    by_cases hc : (words l)[i] = f
    · rw [if_pos (by rw [hc])] at ih
      obtain ⟨v, e1, e2, e3⟩ := next_spec ho ht (t := i) (by omega)
      have h1 := e2.1
      rw [show dist (spans 0 l to) (total l) i = (v : Int) - i by unfold dist; rw [e1]] at ih
      refine EvL.trans (EvL.one fun n g => ?_) <| EvL.trans (next_search (by omega) f to (worstR l f to i) e2 hi (by omega) (v - i - 1) 1 (by omega) (by omega)) <| EvL.trans (EvL.one fun n g => ?_) ih
      · simp only [flow_succ, s77]
        rw [Int.toNat_natCast, hget, eqB_t hc]
        simp only [Bool.not_true, cond_false]
        rw [if_pos (by omega), if_pos (by omega)]
      · simp only [flow_succ, s77]
        rw [w64_id (by omega) (by omega)]; rfl
    · rw [if_neg (fun c => hc (Option.some.inj c))] at ih
      refine EvL.trans (EvL.one fun n g => ?_) ih
      simp only [flow_succ, s77]
      rw [Int.toNat_natCast, hget, eqB_f hc, w64_id (by omega) (by omega)]
      simp only [Bool.not_false, cond_true]
      rw [if_pos (by omega), if_pos (by omega)]; rfl
theorem late_ref_ev {l : List Run} (f to : Int) (ho : Ok l) (h : total l ≤ 8192) : Ev fun n => p77 n l f to = some (lateR l f to) := by
  have hL := words_length ho
  have h1 := has_loop (words l) (by omega) f to 0 (words l) [] false false rfl
  rw [Bool.false_or, Bool.false_or] at h1
  unfold lateR
  refine EvG.ev (EvL.gives (EvL.of (words_ev ho h) fun n g hn => ?_) (EvL.gives h1 ?_))
  · simp only [flow_succ, s77, hn, Option.bind_some]; rfl
  by_cases c1 : f ∉ words l
  · rw [if_pos c1]
    refine EvG.one fun n g => ?_
    simp only [flow_succ, s77]
    rw [show has (words l) f = false from Bool.eq_false_iff.2 fun c => c1 (has_mem.1 c)]; rfl
  rw [if_neg c1]
  have d1 : has (words l) f = true := has_mem.2 (Decidable.not_not.1 c1)
  by_cases c2 : to ∉ words l
  · rw [if_pos c2]
    refine EvG.one fun n g => ?_
    simp only [flow_succ, s77]
    rw [d1, show has (words l) to = false from Bool.eq_false_iff.2 fun c => c2 (has_mem.1 c)]; rfl
  rw [if_neg c2]
  have d2 : has (words l) to = true := has_mem.2 (Decidable.not_not.1 c2)
  refine EvL.gives (EvL.one fun n g => ?_) (EvL.gives (late_ref_loop ho h f to ((mem_words ho).1 (Decidable.not_not.1 c2)) (words l).length 0 (by omega)) (EvG.one fun n g => ?_))
  · simp only [flow_succ, s77]; rw [d1, d2]; rfl
  · simp only [flow_succ, s77]

/-! ### Budget -/
theorem count_loop (w : List Int) (hw : (w.length : Int) ≤ 100000) (p d least at_ : Int) (W : List Int) : ∀ (w2 pre : List Int) (m : Int), w = pre ++ w2 → 0 ≤ m → m ≤ pre.length →
    EvL s24 (.L2 p d W least at_ m w w.length pre.length) (.E2 p d W least at_ (m + w2.count p))
  | [], pre, m, e, _, _ => EvL.one fun n f => by
    have := at_end e
    simp only [flow_succ, s24]
    rw [ltB_f (by omega)]
    simp
  | x :: w2, pre, m, e, h1, h2 => by
    have h3 := at_lt e
    have el : ((pre ++ [x]).length : Int) = pre.length + 1 := by simp
    by_cases hc : x = p
    · have ih := count_loop w hw p d least at_ W w2 (pre ++ [x]) (m + 1) (at_next e) (by omega) (by omega)
      rw [show m + ((x :: w2).count p : Int) = m + 1 + (w2.count p : Int) by rw [List.count_cons, if_pos (by simpa using hc)]; omega]
      refine EvL.trans (EvL.one fun n f => ?_) ih
      simp only [flow_succ, s24]
      rw [ltB_t h3, at_get e, eqB_t hc, at_succ pre x (by omega), w64_id (by omega) (by omega)]
      simp only [cond_true]
      rw [if_pos (by omega), if_pos h3]
    · have ih := count_loop w hw p d least at_ W w2 (pre ++ [x]) m (at_next e) (by omega) (by omega)
      rw [show m + ((x :: w2).count p : Int) = m + (w2.count p : Int) by rw [List.count_cons, if_neg (by simpa using hc)]; omega]
      refine EvL.trans (EvL.one fun n f => ?_) ih
      simp only [flow_succ, s24]
      rw [ltB_t h3, at_get e, eqB_f hc, at_succ pre x (by omega)]
      simp only [cond_true, cond_false]
      rw [if_pos (by omega), if_pos h3]
theorem budget_ref_loop {l : List Run} (p : Int) (ho : Ok l) (h : total l ≤ 8192) {d : Int} (hd : 1 ≤ d) (J : Nat) (hJ : total l = J * d) : ∀ (k j : Nat), j + k = J →
    EvL s24 (.L0 p d (words l) (leastB l p d (d + 1) j) (j * d)) (.E0 (leastB l p d (d + 1) J))
  | 0, j, e => EvL.one fun n f => by
    have e' : j = J := by omega
    subst e'
    have hL := words_length ho
    simp only [flow_succ, s24]
    rw [hL, hJ, ltB_f (Int.le_refl _)]; rfl
  | k + 1, j, e => by
    have ih := budget_ref_loop p ho h hd J hJ k (j + 1) (by omega)
    have hL := words_length ho
    have hj : ((j : Int) + 1) * d ≤ J * d := Int.mul_le_mul_of_nonneg_right (by omega) (by omega)
    rw [Int.add_mul, Int.one_mul, ← hJ] at hj
    have hj0 : 0 ≤ (j : Int) * d := Int.mul_nonneg (by omega) (by omega)
    have e2 : ((j + 1 : Nat) : Int) * d = j * d + d := by rw [Int.natCast_add, Int.add_mul]; simp
    rw [e2, leastB_succ, cnt_count ho p (by omega) j] at ih
    have hlen := List.length_take_le d.toNat ((words l).drop (j * d).toNat)
    refine EvL.trans (EvL.one (q := .Q8 p d (words l) (leastB l p d (d + 1) j) (j * d)) fun n f => ?_) <|
      EvL.trans (EvL.one fun n f => ?_) <|
      EvL.trans (count_loop (((words l).drop (j * d).toNat).take d.toNat) (by omega) p d (leastB l p d (d + 1) j) (j * d) (words l) _ [] 0 rfl (Int.le_refl _) (by simp)) <|
      EvL.trans (EvL.one fun n f => ?_) ih
    · simp only [flow_succ, s24]; rw [ltB_t (by omega)]; rfl
    · simp only [flow_succ, s24]
      rw [w64_id (by omega) (by omega), if_pos hj0, if_pos (by omega), if_pos (by omega), show ((j : Int) * d + d).toNat - ((j : Int) * d).toNat = d.toNat by omega]; rfl
    · simp only [flow_succ, s24]
      rw [Int.zero_add, w64_id (by omega) (by omega)]
theorem budget_ref_ev {l : List Run} (p : Int) {d : Int} (ho : Ok l) (h : total l ≤ 8192) : Ev fun n => p24 n l p d = some (budget l p d) := by
  have h0 := total_nonneg ho
  have hL := words_length ho
  unfold budget
  by_cases c1 : d < 1
  · rw [if_pos c1]
    refine EvG.ev (EvG.of (words_ev ho h) fun n g hn => ?_)
    simp only [flow_succ, s24, hn, Option.bind_some]; rw [ltB_t c1]; rfl
  rw [if_neg c1]
  by_cases c2 : total l = 0
  · rw [if_pos c2]
    refine EvG.ev (EvG.of (words_ev ho h) fun n g hn => ?_)
    simp only [flow_succ, s24, hn, Option.bind_some, hL]; rw [ltB_f (by omega), eqB_t c2]; rfl
  rw [if_neg c2]
  by_cases c3 : total l % d ≠ 0
  · rw [if_pos c3]
    refine EvG.ev (EvG.of (words_ev ho h) fun n g hn => ?_)
    simp only [flow_succ, s24, hn, Option.bind_some, hL]; rw [ltB_f (by omega), eqB_f c2, tmod_pos h0, eqB_f c3]
    simp only [cond_false, cond_true, Bool.not_false]
    rw [if_neg (by omega)]
  rw [if_neg c3]
  have c4 : total l % d = 0 := Decidable.not_not.1 c3
  have hd : d ≤ total l := Int.le_of_dvd (by omega) (Int.dvd_of_emod_eq_zero c4)
  have hJ := total_rounds ho (d := d) (by omega) c4
  have hpos : (total l / d).toNat ≠ 0 := fun e => by rw [e] at hJ; simp at hJ; omega
  obtain ⟨J, eJ⟩ := Nat.exists_eq_succ_of_ne_zero hpos
  have h5 := budget_ref_loop p ho h (d := d) (by omega) (total l / d).toNat hJ (total l / d).toNat 0 (by omega)
  rw [show ((0 : Nat) : Int) * d = 0 by simp, leastB_zero, eJ, least_same ho p (by omega)] at h5
  rw [eJ]
  refine EvG.ev (EvL.gives (EvL.of (words_ev ho h) fun n g hn => ?_) (EvL.gives h5 (EvG.one fun n g => ?_)))
  · simp only [flow_succ, s24, hn, Option.bind_some, hL]; rw [ltB_f (by omega), eqB_f c2, tmod_pos h0, eqB_t c4]
    simp only [cond_false, cond_true, Bool.not_true]
    rw [if_neg (by omega), w64_id (by omega) (by omega)]
  · simp only [flow_succ, s24]

/-! ### Gaps -/
theorem gapG_le (h m : Int) : ∀ (r : List (Int × Int)) (x : Int × Int) (w : Int), gapG h w (x :: r) ≤ m ↔ w ≤ m ∧ ∀ y ∈ (gapL h (x :: r)).dropLast, y ≤ m
  | [], x, w => by simp [gapG, gapL]
  | y :: r, x, w => by
    have hne : gapL h (y :: r) ≠ [] := by cases r <;> simp [gapL]
    simp only [gapG, gapL]
    rw [gapG_le h m r y, List.dropLast_cons_of_ne_nil hne, List.forall_mem_cons]
    constructor
    · rintro ⟨a, b⟩; exact ⟨by omega, by omega, b⟩
    · rintro ⟨a, b, c⟩; exact ⟨by omega, c⟩
theorem gapL_last (h : Int) : ∀ (r : List (Int × Int)) (x : Int × Int), gapL h (x :: r) = (gapL h (x :: r)).dropLast ++ [h - ((x :: r).getD r.length (0, 0)).2]
  | [], x => by simp [gapL]
  | y :: r, x => by
    have hne : gapL h (y :: r) ≠ [] := by cases r <;> simp [gapL]
    have ih := gapL_last h r y
    simp only [gapL]
    rw [List.dropLast_cons_of_ne_nil hne, List.cons_append, show (x :: y :: r).getD (y :: r).length (0, 0) = (y :: r).getD r.length (0, 0) from rfl, ← ih]
theorem gapG_dep (h h' : Int) : ∀ (r : List (Int × Int)) (x : Int × Int) (w : Int), gapG h w (x :: r) = gapG h' w (x :: r)
  | [], x, w => rfl
  | y :: r, x, w => gapG_dep h h' r y _
theorem gaps_same {l : List Run} (ho : Ok l) (p : Int) : gapsP l p = if lateR l p p < 1 then -1 else lateR l p p - 1 := by
  rw [← late_same ho]
  have h0 := total_nonneg ho
  by_cases hb : spans 0 l p = []
  · rw [show lateP l p p = 0 by unfold lateP; rw [if_pos hb]]
    unfold gapsP; rw [hb]; rfl
  have hg := gaps_late ho hb
  obtain ⟨x, r, e⟩ := List.exists_cons_of_ne_nil hb
  have hx := spans_in ho x (by rw [e]; simp)
  have hpos : 1 ≤ lateP l p p := by
    refine Int.not_lt.1 fun hc => ?_
    have hd := dist_pos ho hb (t := x.1) (by omega) (by omega)
    have h1 : lateP l p p ≤ 0 := by omega
    unfold lateP at h1
    rw [if_neg hb, if_neg hb, foldl_max2_le] at h1
    have := (h1.2 x (by rw [e]; simp)).1
    omega
  rw [if_neg (by omega)]
  apply eq_of_le
  intro m
  have h2 := hg m
  rw [show lateP l p p - 1 ≤ m ↔ lateP l p p ≤ m + 1 by omega, h2]
  unfold gapsP
  rw [e]
  simp only
  rw [show ((x :: r).getD 0 (0, 0)).1 = x.1 from rfl, gapG_dep 0 (total l + x.1), gapG_le, gapL_last]
  rw [List.dropLast_concat, List.forall_mem_append, List.forall_mem_singleton, show x.1 + total l - ((x :: r).getD r.length (0, 0)).2 = total l + x.1 - ((x :: r).getD r.length (0, 0)).2 by omega]
  exact And.comm
theorem worstR_in {l : List Run} (ho : Ok l) (h : total l ≤ 8192) (f to : Int) : lateR l f to ≤ 1000000 ∧ -1 ≤ lateR l f to := by
  have h0 := total_nonneg ho
  rw [← late_same ho]
  unfold lateP
  split
  · omega
  split
  · omega
  · constructor
    · rw [foldl_max2_le]
      refine ⟨by omega, fun s hs => ?_⟩
      have hi := spans_in ho s hs
      have i1 := dist_in (t := s.1) (len := total l) (spans_low to ho (by omega)) (by omega) (by omega) (by omega) (by omega)
      have i2 := dist_in (t := s.2 - 1) (len := total l) (spans_low to ho (by omega)) (by omega) (by omega) (by omega) (by omega)
      unfold dist; omega
    · have := (foldl_max2_le (fun s : Int × Int => dist (spans 0 l to) (total l) s.1) (fun s => dist (spans 0 l to) (total l) (s.2 - 1)) (spans 0 l f) 0 _).1 (Int.le_refl _)
      omega
theorem gaps_ref_ev {l : List Run} (p : Int) (ho : Ok l) (h : total l ≤ 8192) : Ev fun n => p79 n l p = some (gapsP l p) := by
  have hi := worstR_in ho h p p
  rw [gaps_same ho]
  refine EvG.ev (EvG.of (late_ref_ev p p ho h) fun n g hn => ?_)
  simp only [flow_succ, s79, hn, Option.bind_some]
  split
  · rename_i c; rw [ltB_t c]; rfl
  · rename_i c; rw [ltB_f (by omega), w64_id (by omega) (by omega)]; rfl

/-! ### Both are the same -/
theorem same_ev {l : List Run} (a b : Int) {d : Int} (ho : Ok l) (h : total l ≤ 8192) : Ev fun n => p22 n l a b d = some true := by
  refine EvG.ev (EvG.of ((late_ev a b ho (by omega)).and ((late_ref_ev a b ho h).and ((budget_ev a d ho (by omega)).and ((budget_ref_ev a (d := d) ho h).and ((gaps_ev a ho (by omega)).and (gaps_ref_ev a ho h)))))) fun n g hn => ?_)
  obtain ⟨h1, h2, h3, h4, h5, h6⟩ := hn
  rw [late_same ho] at h1
  simp only [flow_succ, s22, h1, h2, h3, h4, h5, h6, Option.bind_some, eqB_t rfl, cond_true]
end Go.Am.Fr
