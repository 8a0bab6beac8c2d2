/- Walks through the document's functions over tables: leaves, Tidy, Of. -/
import Derived.Test.YtebmpngnbnigcaaG3
import Derived.Test.YtebmpngnbnigcaaTabWalk
set_option linter.unusedVariables false
set_option linter.unusedSimpArgs false
namespace Go.Am.Tab
open Fr

/-! ### leaves -/
theorem reps_length {α : Type} (l : List α) : ∀ n, (reps l n).length = n * l.length
  | 0 => by simp [reps]
  | n + 1 => by rw [reps, List.length_append, reps_length l n, Nat.succ_mul]; omega
theorem lv_count : ∀ {F : Fo}, Good F → count F ≤ (lv F).length
  | .nil, _ => by simp [count]
  | .node x k r, h => by
    obtain ⟨h1, h2, h3, h4⟩ := h
    have i1 := lv_count h3
    have i2 := lv_count h4
    simp only [count, lv, List.length_append]
    unfold Tab.fine at h1
    unfold arity at h2
    split
    · simp; omega
    · split
      · simp; omega
      · split
        · rename_i c4
          rw [if_neg (by omega), if_pos c4] at h2
          rw [reps_length]
          have : 1 * 1 ≤ x.2.2.toNat * (lv k).length := Nat.mul_le_mul (by omega) (by omega)
          omega
        · rw [if_pos (by omega)] at h2; omega
def VFacts (l : List Node) : Nat → Fo → Prop
  | _, .nil => True
  | p, .node x k r => (∀ out : List Run, out.length + (lv (one x k)).length ≤ 1000000 → Ev fun i => p135 i l p out = some (out ++ lv (one x k))) ∧ VFacts l (p + len k + 1) r
theorem lv_cons (x : Node) (k r : Fo) : lv (.node x k r) = lv (one x k) ++ lv r := by simp [lv, one]
theorem leaf_loop {l : List Node} {ks : List Int} (hks : (ks.length : Int) ≤ 100000) : ∀ (F : Fo) (p : Nat) (pre : List Int) (out : List Run), ks = pre ++ posn p F → VFacts l p F → out.length + (lv F).length ≤ 1000000 →
    EvL (fun i => s135 i (p135 i)) (.L3 l ks.length pre.length out ks) (.E3 (out ++ lv F))
  | .nil, p, pre, out, e, _, _ => EvL.one fun n f => by
    have := at_end e
    simp only [flow_succ, s135]
    rw [ltB_f (by omega)]
    simp [lv]
  | .node x k r, p, pre, out, e, hF, hb => by
    obtain ⟨f1, f2⟩ := hF
    have e' : ks = pre ++ (p : Int) :: posn (p + len k + 1) r := e
    have h3 := at_lt e'
    rw [lv_cons, List.length_append] at hb
    have ih := leaf_loop hks r (p + len k + 1) (pre ++ [(p : Int)]) (out ++ lv (one x k)) (at_next e') f2 (by rw [List.length_append]; omega)
    rw [List.append_assoc, ← lv_cons] at ih
    refine EvL.trans (EvL.of (f1 out (by omega)) fun n f hn => ?_) ih
    simp only [flow_succ, s135]
    rw [ltB_t h3, at_get e', hn, at_succ pre (p : Int) (by omega)]
    simp only [cond_true, Option.bind_some]
    rw [if_pos (by omega), if_pos h3]
theorem rep_loop {l pre l2 : List Node} {x : Node} (e : l = pre ++ x :: l2) (hl : (l.length : Int) ≤ 100000) (hn : x.2.2 ≤ 1000000) (v : List Run) (f1 : ∀ out : List Run, out.length + v.length ≤ 1000000 → Ev fun i => p135 i l (pre.length + 1 : Nat) out = some (out ++ v)) :
    ∀ (m : Nat) (j : Int) (out : List Run), 0 ≤ j → j + m = x.2.2 → out.length + m * v.length ≤ 1000000 → EvL (fun i => s135 i (p135 i)) (.L1 l pre.length j out) (.E1 (out ++ reps v m))
  | 0, j, out, h0, h1, _ => EvL.one fun n f => by
    have hb := at_lt e
    simp only [flow_succ, s135]
    rw [at_get e, if_pos (by omega), if_pos hb, ltB_f (by omega)]
    simp [reps]
  | m + 1, j, out, h0, h1, h2 => by
    have hb := at_lt e
    rw [Nat.succ_mul] at h2
    have ih := rep_loop e hl hn v f1 m (j + 1) (out ++ v) (by omega) (by omega) (by rw [List.length_append]; omega)
    rw [List.append_assoc] at ih
    refine EvL.trans (EvL.of (f1 out (by omega)) fun n f hn => ?_) ih
    simp only [flow_succ, s135]
    rw [at_get e, if_pos (by omega), if_pos hb, ltB_t (by omega), w64_id (x := (pre.length : Int) + 1) (by omega) (by omega), w64_id (x := j + 1) (by omega) (by omega)]
    rw [show ((pre.length + 1 : Nat) : Int) = (pre.length : Int) + 1 by omega] at hn
    simp only [cond_true]
    rw [hn, Option.bind_some]
theorem leaf_facts {l : List Node} (hl : (l.length : Int) ≤ 100000) : ∀ (F : Fo) (pre post : List Node), l = pre ++ flat F ++ post → Good F → VFacts l pre.length F
  | .nil, _, _, _, _ => trivial
  | .node x k r, pre, post, e, hG => by
    obtain ⟨h1, h2, h3, h4⟩ := hG
    have e0 : l = pre ++ x :: (flat k ++ flat r ++ post) := by rw [e]; simp [flat]
    have e1 : l = pre ++ flat (one x k) ++ (flat r ++ post) := by rw [e]; simp [flat, one]
    have e2 : l = (pre ++ [x]) ++ flat k ++ (flat r ++ post) := by rw [e]; simp [flat]
    have e3 : l = (pre ++ flat (one x k)) ++ flat r ++ post := by rw [e]; simp [flat, one]
    have n1 : (pre ++ [x]).length = pre.length + 1 := by simp
    have n3 : (pre ++ flat (one x k)).length = pre.length + len k + 1 := by simp [flat, one, len]; omega
    have i1 := leaf_facts hl k (pre ++ [x]) (flat r ++ post) e2 h3
    have i2 := leaf_facts hl r (pre ++ flat (one x k)) post e3 h4
    rw [n1] at i1
    rw [n3] at i2
    refine ⟨fun out hout => Ev.rec (p := fun n m => p135' n m l pre.length out) (fun h h' => up135' h h' _ _ _) ?_, i2⟩
    have hlen : (l.length : Int) = pre.length + len (.node x k r) + post.length := by rw [e]; simp [len]; omega
    rw [len_node] at hlen
    have hck := count_le k
    have hb := at_lt e0
    have el : lv (one x k) = if x.1 = 1 then [(x.2.1, x.2.2)] else if x.1 = 2 then [(-1, x.2.2)] else if x.1 = 4 then reps (lv k) x.2.2.toNat else lv k := by simp [lv, one]
    refine EvG.ev (t := fun i => s135 i (p135 i)) (EvL.gives (EvL.one (q := .Q2 l pre.length x.1 out) fun n f => ?_) ?_)
    · simp only [flow_succ, s135]
      rw [at_get e0, if_pos (by omega), if_pos hb]
    by_cases c1 : x.1 = 1
    · rw [if_pos c1] at el
      rw [el] at hout ⊢
      refine EvG.one fun n f => ?_
      simp only [flow_succ, s135]
      rw [at_get e0, eqB_t c1]
      simp only [cond_true]
      rw [if_pos (by omega), if_pos hb, if_pos (by omega), if_pos hb, if_pos (by simp at hout ⊢; omega)]
    rw [if_neg c1] at el
    by_cases c2 : x.1 = 2
    · rw [if_pos c2] at el
      rw [el] at hout ⊢
      refine EvG.one fun n f => ?_
      simp only [flow_succ, s135]
      rw [at_get e0, eqB_f c1, eqB_t c2]
      simp only [cond_true, cond_false]
      rw [if_pos (by omega), if_pos hb, if_pos (by simp at hout ⊢; omega)]
    rw [if_neg c2] at el
    by_cases c4 : x.1 = 4
    · rw [if_pos c4] at el
      rw [el, reps_length] at hout
      have hc1 : count k = 1 := by unfold arity at h2; rw [if_neg (by omega), if_pos c4] at h2; omega
      have hv1 := lv_count h3
      have hN : x.2.2.toNat * 1 ≤ x.2.2.toNat * (lv k).length := Nat.mul_le_mul_left _ (by omega)
      have hN0 : 1 ≤ x.2.2 := by unfold Tab.fine at h1; omega
      have f1 : ∀ out : List Run, out.length + (lv k).length ≤ 1000000 → Ev fun i => p135 i l (pre.length + 1 : Nat) out = some (out ++ lv k) := by
        match k, hc1, i1 with
        | .node x' k' .nil, _, i1 =>
          rw [show lv (.node x' k' .nil) = lv (one x' k') from rfl]
          exact i1.1
        | .node x' k' (.node _ _ _), hc1, _ => simp [count] at hc1
      rw [el]
      refine EvL.gives (EvL.one fun n f => ?_) (EvL.gives (rep_loop e0 hl (by omega) (lv k) f1 x.2.2.toNat 0 out (Int.le_refl _) (by omega) (by omega)) (EvG.one fun n f => ?_))
      · simp only [flow_succ, s135]
        rw [eqB_f c1, eqB_f c2, eqB_t c4]; rfl
      · simp only [flow_succ, s135]
    rw [if_neg c4] at el
    rw [el] at hout ⊢
    have lp := leaf_loop (l := l) (ks := posn (pre.length + 1) k) (by rw [posn_length]; omega) k (pre.length + 1) [] out rfl i1 hout
    refine EvL.gives (EvL.of (kids_ev e1 ⟨h1, h2, h3, trivial⟩ hl) fun n f hn => ?_) (EvL.gives lp (EvG.one fun n f => ?_))
    · simp only [flow_succ, s135]
      rw [eqB_f c1, eqB_f c2, eqB_f c4]
      simp only [cond_false]
      rw [hn, Option.bind_some]; rfl
    · simp only [flow_succ, s135]
theorem leaves_ev {l : List Node} {x : Node} {k : Fo} (e : l = flat (one x k)) (hG : Good (one x k)) (hl : (l.length : Int) ≤ 100000) (hv : (lv (one x k)).length ≤ 1000000) : Ev fun n => p84 n l = some (lv (one x k)) := by
  have h1 := (leaf_facts hl (one x k) [] [] (by simp [e]) hG).1 [] (by simpa using hv)
  refine EvG.ev (EvG.of h1 fun n f hn => ?_)
  simp only [List.length_nil, Int.natCast_zero, List.nil_append] at hn
  simp only [flow_succ, s84]
  rw [show (0 : Int) = ((0 : Nat) : Int) from rfl] at *
  rw [hn, Option.bind_some]
theorem total_reps (l : List Run) : ∀ n : Nat, total (reps l n) = n * total l
  | 0 => by simp [reps, total]
  | n + 1 => by
    rw [reps, total_append, total_reps l n, Int.natCast_add, Int.add_mul]; simp; omega
theorem ok_append {l m : List Run} (h1 : Fr.Ok l) (h2 : Fr.Ok m) : Fr.Ok (l ++ m) := fun r hr => by
  rcases List.mem_append.1 hr with h | h
  · exact h1 r h
  · exact h2 r h
theorem ok_reps {l : List Run} (h : Fr.Ok l) : ∀ n, Fr.Ok (reps l n)
  | 0 => fun r hr => by simp [reps] at hr
  | n + 1 => ok_append h (ok_reps h n)
/-- The leaves have the table's ticks, one at least each. -/
theorem lv_ok : ∀ {F : Fo}, Good F → Fr.Ok (lv F) ∧ total (lv F) = ticks F
  | .nil, _ => ⟨fun r hr => by simp [lv] at hr, rfl⟩
  | .node x k r, h => by
    obtain ⟨h1, h2, h3, h4⟩ := h
    obtain ⟨a1, a2⟩ := lv_ok h3
    obtain ⟨b1, b2⟩ := lv_ok h4
    unfold Tab.fine at h1
    have : Fr.Ok (if x.1 = 1 then [(x.2.1, x.2.2)] else if x.1 = 2 then [(-1, x.2.2)] else if x.1 = 4 then reps (lv k) x.2.2.toNat else lv k) ∧ total (if x.1 = 1 then [(x.2.1, x.2.2)] else if x.1 = 2 then [(-1, x.2.2)] else if x.1 = 4 then reps (lv k) x.2.2.toNat else lv k) = own x (ticks k) := by
      unfold own
      by_cases c1 : x.1 = 1
      · rw [if_pos c1, if_neg (by omega), if_neg (by omega)]
        exact ⟨fun r hr => by simp at hr; subst hr; simp only; omega, by simp [total]⟩
      rw [if_neg c1]
      by_cases c2 : x.1 = 2
      · rw [if_pos c2, if_neg (by omega), if_neg (by omega)]
        exact ⟨fun r hr => by simp at hr; subst hr; simp only; omega, by simp [total]⟩
      rw [if_neg c2]
      by_cases c4 : x.1 = 4
      · rw [if_pos c4, if_neg (by omega), if_pos c4]
        refine ⟨ok_reps a1 _, ?_⟩
        rw [total_reps, a2, Int.toNat_of_nonneg (by omega), Int.mul_comm]
      · rw [if_neg c4, if_pos (by omega)]
        exact ⟨a1, a2⟩
    simp only [lv, ticks]
    exact ⟨ok_append this.1 b1, by rw [total_append, this.2, b2]⟩

/-! ### Sum, Tidy -/
theorem sum_ev {a b : Int} (ha : 0 ≤ a) (hb : 0 ≤ b) (h : a + b ≤ 9223372036854775807) : Ev fun n => p75 n a b = some (a + b) :=
  EvG.ev (EvG.one fun n f => by
    simp only [flow_succ, s75]
    rw [Int.max_eq_left ha, Int.max_eq_left hb, w64_id (by omega) (by omega), ltB_f (by omega), w64_id (by omega) (by omega)]
    rfl)
def tstep (acc : List Run) (r : Run) : List Run :=
  match acc.getLast? with
  | some z => if z.1 = r.1 then acc.dropLast ++ [(z.1, z.2 + r.2)] else acc ++ [r]
  | none => [r]
def tidy (l : List Run) : List Run := l.foldl tstep []
theorem tstep_nil (r : Run) : tstep [] r = [r] := rfl
theorem tstep_snoc (acc : List Run) (z r : Run) : tstep (acc ++ [z]) r = if z.1 = r.1 then acc ++ [(z.1, z.2 + r.2)] else acc ++ [z] ++ [r] := by
  unfold tstep; simp
theorem tstep_total (acc : List Run) (r : Run) : total (tstep acc r) = total acc + r.2 := by
  rcases List.eq_nil_or_concat acc with rfl | ⟨i, z, rfl⟩
  · simp [tstep_nil, total]
  · rw [List.concat_eq_append, tstep_snoc]
    split <;> simp only [total_append, total] <;> omega
theorem tstep_ok {acc : List Run} {r : Run} (h : Fr.Ok acc) (hr : 1 ≤ r.2) : Fr.Ok (tstep acc r) := by
  rcases List.eq_nil_or_concat acc with rfl | ⟨i, z, rfl⟩
  · intro x hx; rw [tstep_nil] at hx; simp at hx; subst hx; exact hr
  · rw [List.concat_eq_append] at h ⊢
    rw [tstep_snoc]
    have hi : Fr.Ok i := fun x hx => h x (by simp [hx])
    have hz : 1 ≤ z.2 := h z (by simp)
    split
    · exact ok_append hi (fun x hx => by simp at hx; subst hx; simp only; omega)
    · exact ok_append h (fun x hx => by simp at hx; subst hx; exact hr)
theorem tidy_fold_ok : ∀ (l acc : List Run), Fr.Ok acc → Fr.Ok l → Fr.Ok (l.foldl tstep acc) ∧ total (l.foldl tstep acc) = total acc + total l
  | [], acc, h, _ => ⟨h, by simp [total]⟩
  | r :: l, acc, h, hl => by
    obtain ⟨h1, h2⟩ := tidy_fold_ok l (tstep acc r) (tstep_ok h hl.head) hl.tail
    rw [List.foldl_cons]
    refine ⟨h1, ?_⟩
    rw [h2, tstep_total]; simp only [total]; omega
theorem tidy_ok {l : List Run} (h : Fr.Ok l) : Fr.Ok (tidy l) ∧ total (tidy l) = total l := by
  have := tidy_fold_ok l [] (fun r hr => by simp at hr) h
  simpa [total, tidy] using this
theorem tidy_loop (l : List Run) (hl : (l.length : Int) ≤ 1000000) : ∀ (l2 pre acc : List Run), l = pre ++ l2 → Fr.Ok l2 → Fr.Ok acc → total acc + total l2 ≤ 1000000000 → (acc.length : Int) ≤ pre.length →
    EvL s48 (.L0 l l.length pre.length acc) (.E0 (l2.foldl tstep acc))
  | [], pre, acc, e, _, _, _, _ => EvL.one fun n f => by
    have := at_end e
    simp only [flow_succ, s48]
    rw [ltB_f (by omega)]; rfl
  | r :: l2, pre, acc, e, ho, ha, hb, hacc => by
    have h1 := ho.head
    have h2 := total_nonneg ho.tail
    have h3 := at_lt e
    simp only [total] at hb
    have el : ((pre ++ [r]).length : Int) = pre.length + 1 := by simp
    have hlen : ((tstep acc r).length : Int) ≤ acc.length + 1 := by
      rcases List.eq_nil_or_concat acc with rfl | ⟨i, z, rfl⟩
      · simp [tstep_nil]
      · rw [List.concat_eq_append, tstep_snoc]; split <;> simp <;> omega
    have ih := tidy_loop l hl l2 (pre ++ [r]) (tstep acc r) (at_next e) ho.tail (tstep_ok ha h1) (by rw [tstep_total]; omega) (by omega)
    rw [List.foldl_cons]
    rcases List.eq_nil_or_concat acc with rfl | ⟨i, z, rfl⟩
    · refine EvL.trans (EvL.one fun n f => ?_) ih
      simp only [flow_succ, s48]
      rw [ltB_t h3, at_get e, at_succ pre r (by omega)]
      simp only [cond_true]
      rw [if_pos (by omega), if_pos h3, ltB_f (by omega), ltB_f (by simp)]
      simp only [cond_false]
      rw [if_pos (by simp)]; rfl
    · rw [List.concat_eq_append] at *
      have hz : 1 ≤ z.2 := ha z (by simp)
      have hin : z.2 ≤ total (i ++ [z]) := by
        have := total_nonneg (l := i) (fun x hx => ha x (by simp [hx]))
        rw [total_append]; simp only [total]; omega
      have e1 : ((i ++ [z]).length : Int) - 1 = i.length := by rw [List.length_append, List.length_singleton]; omega
      have eg : (i ++ [z]).getD i.length (0, 0) = z := getD_mid i z [] (0, 0)
      have e2 : ((i ++ [z]).length : Int) = i.length + 1 := by simp
      rw [tstep_snoc] at ih ⊢
      by_cases hc : z.1 = r.1
      · rw [if_pos hc] at ih ⊢
        refine EvL.trans (EvL.of (sum_ev (a := z.2) (b := r.2) (by omega) (by omega) (by omega)) fun n f hn => ?_) ih
        simp only [flow_succ, s48]
        rw [ltB_t h3, at_get e, at_succ pre r (by omega), w64_id (x := ((i ++ [z]).length : Int) - 1) (by omega) (by omega), e1, toNat_len, eg]
        simp only [cond_true]
        rw [if_pos (by omega), if_pos h3, ltB_f (by omega), ltB_t (by omega)]
        simp only [cond_true, cond_false]
        rw [if_pos (by omega), if_pos (by omega), eqB_t hc]
        simp only [cond_true]
        rw [if_pos (by omega), if_pos (by omega), hn, Option.bind_some, if_pos (by omega), if_pos (by omega)]
        simp
      · rw [if_neg hc] at ih ⊢
        refine EvL.trans (EvL.one fun n f => ?_) ih
        simp only [flow_succ, s48]
        rw [ltB_t h3, at_get e, at_succ pre r (by omega), w64_id (x := ((i ++ [z]).length : Int) - 1) (by omega) (by omega), e1, toNat_len, eg]
        simp only [cond_true]
        rw [if_pos (by omega), if_pos h3, ltB_f (by omega), ltB_t (by omega)]
        simp only [cond_true, cond_false]
        rw [if_pos (by omega), if_pos (by omega), eqB_f hc]
        simp only [cond_false]
        rw [if_pos (by simp at hacc ⊢; omega)]
theorem tidy_ev {l : List Run} (ho : Fr.Ok l) (h : total l ≤ 1000000) : Ev fun n => p48 n l = some (tidy l) := by
  have := length_le_total ho
  refine EvG.ev (EvL.gives (EvL.one fun n f => ?_) (EvL.gives (tidy_loop l (by omega) l [] [] rfl ho (fun r hr => by simp at hr) (by simp [total]; omega) (by simp)) (EvG.one fun n f => ?_)))
  · simp only [flow_succ, s48]; rfl
  · simp only [flow_succ, s48]; rfl

/-! ### Of -/
def ofS (x : Node) (k : Fo) : List Run × Int :=
  if rightS x k ≠ 0 then ([], rightS x k) else if 96 < (tidy (lv (one x k))).length then ([], 3) else (tidy (lv (one x k)), 0)
theorem of_ev {l : List Node} {x : Node} {k : Fo} (e : l = flat (one x k)) (hG : Good (one x k)) (hl : (l.length : Int) ≤ 100000) : Ev fun n => p26 n l = some (ofS x k) := by
  unfold ofS
  by_cases c1 : rightS x k ≠ 0
  · rw [if_pos c1]
    refine EvG.ev (EvG.of (right_ev e hG hl) fun n f hn => ?_)
    simp only [flow_succ, s26, hn, Option.bind_some]
    rw [eqB_f c1]; rfl
  rw [if_neg c1]
  have c1 : rightS x k = 0 := Decidable.not_not.1 c1
  have ht : own x (ticks k) ≤ 4096 := by
    unfold rightS at c1
    split at c1
    · cases c1
    · split at c1
      · cases c1
      · split at c1
        · assumption
        · cases c1
  obtain ⟨o1, o2⟩ := lv_ok hG
  have o2 : total (lv (one x k)) = own x (ticks k) := by rw [o2]; simp [one, ticks]
  have o3 := length_le_total o1
  refine EvG.ev (EvG.of ((right_ev e hG hl).and ((leaves_ev e hG hl (by omega)).and (tidy_ev o1 (by omega)))) fun n f hn => ?_)
  obtain ⟨a1, a2, a3⟩ := hn
  simp only [flow_succ, s26, a1, a2, a3, Option.bind_some]
  rw [eqB_t c1]
  simp only [Bool.not_true, cond_false]
  by_cases c2 : 96 < (tidy (lv (one x k))).length
  · rw [if_pos c2, ltB_t (by omega)]; rfl
  · rw [if_neg c2, ltB_f (by omega)]; rfl
end Go.Am.Tab
