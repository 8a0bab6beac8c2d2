/- Walks through the program's functions over tables (package node): kids, Size, whole, measure, Right. -/
import Derived.Test.YtebmpngnbnigcaaG5
import Derived.Test.YtebmpngnbnigcaaTabOf
set_option linter.unusedVariables false
set_option linter.unusedSimpArgs false
namespace Go.Am.Tab
open Fr

theorem nkids_ev (x : Node) (h : Tab.fine x) : Ev fun n => p167 n x = some (arity x) := by
  refine EvG.ev (EvG.one fun n f => ?_)
  simp only [flow_succ, s167]
  unfold arity
  rcases h with ⟨h1, h2, h3, h4⟩ | ⟨h1, h2, h3⟩ | ⟨h1, h2, h3⟩ | ⟨h1, h2, h3, h4⟩
  · rw [ltB_f (a := x.2.2) (b := 1) h4, eqB_t h1, leB_t h2, ltB_t h3, if_neg (by omega), if_neg (by omega)]; rfl
  · rw [ltB_f (a := x.2.2) (b := 1) h3, eqB_f (a := x.1) (b := 1) (by omega), eqB_t (a := x.2.1) h2, eqB_t (a := x.1) (b := 2) h1, if_neg (by omega), if_neg (by omega)]; rfl
  · rw [ltB_f (a := x.2.2) (b := 1) h3, eqB_f (a := x.1) (b := 1) (by omega), eqB_t (a := x.2.1) h2, eqB_f (a := x.1) (b := 2) (by omega), eqB_f (a := x.1) (b := 3) (by omega), eqB_t (a := x.1) (b := 4) h1, if_neg (by omega), if_pos h1]; rfl
  · rw [ltB_f (a := x.2.2) (b := 1) h3, eqB_f (a := x.1) (b := 1) (by omega), eqB_t (a := x.2.1) h2, eqB_f (a := x.1) (b := 2) (by omega), eqB_t (a := x.1) (b := 3) h1, leB_t h4, if_pos h1]; rfl

/-! ### Size -/
theorem nsize_step {l pre l2 : List Node} {x : Node} (e : l = pre ++ x :: l2) (hl : (l.length : Int) ≤ 100000) (hx : Tab.fine x) {a w : Int} (ha : 0 ≤ a) (ha2 : a ≤ pre.length) (hw : 1 ≤ w) (hw2 : w ≤ 1000000000) :
    (w - 1 + arity x ≠ 0 → EvL s162 (.L0 l a w pre.length) (.L0 l a (w - 1 + arity x) ((pre ++ [x]).length : Int))) ∧
    (w - 1 + arity x = 0 → EvG s162 (.L0 l a w pre.length) (pre.length - a + 1)) := by
  have h3 := at_lt e
  have hb := arity_in hx
  constructor
  · intro hne
    refine EvL.of (nkids_ev x hx) fun n f hn => ?_
    simp only [flow_succ, s162]
    rw [ltB_t h3, at_get e, hn, at_succ pre x (by omega)]
    simp only [cond_true, Option.bind_some]
    rw [if_pos (by omega), if_pos h3, ltB_f (by omega), w64_id (x := arity x - 1) (by omega) (by omega), w64_id (x := w + (arity x - 1)) (by omega) (by omega), eqB_f (by omega), show w + (arity x - 1) = w - 1 + arity x by omega]
    rfl
  · intro he
    have el : ((pre ++ [x]).length : Int) = pre.length + 1 := by simp
    refine EvG.of (nkids_ev x hx) fun n f hn => ?_
    simp only [flow_succ, s162]
    rw [ltB_t h3, at_get e, hn, at_succ pre x (by omega)]
    simp only [cond_true, Option.bind_some]
    rw [if_pos (by omega), if_pos h3, ltB_f (by omega), w64_id (x := arity x - 1) (by omega) (by omega), w64_id (x := w + (arity x - 1)) (by omega) (by omega), eqB_t (by omega), w64_id (by omega) (by omega), el, show (pre.length : Int) + 1 - a = pre.length - a + 1 by omega]
    rfl
theorem nsize_over {l : List Node} (hl : (l.length : Int) ≤ 100000) {a : Int} (ha : 0 ≤ a) : ∀ (F : Fo) (pre post : List Node) (w : Int), l = pre ++ flat F ++ post → Good F → a ≤ pre.length → (count F : Int) < w → w + 128 * len F ≤ 1000000000 →
    EvL s162 (.L0 l a w pre.length) (.L0 l a (w - count F) ((pre ++ flat F).length : Int))
  | .nil, pre, post, w, e, _, _, _, _ => by
    simp only [flat, List.append_nil, count]
    rw [show w - ((0 : Nat) : Int) = w by simp]
    exact EvL.refl
  | .node x k r, pre, post, w, e, hG, hap, hw, hw2 => by
    obtain ⟨h1, h2, h3, h4⟩ := hG
    have hb := arity_in h1
    have e1 : l = pre ++ x :: (flat k ++ flat r ++ post) := by rw [e]; simp [flat]
    have e2 : l = (pre ++ [x]) ++ flat k ++ (flat r ++ post) := by rw [e]; simp [flat]
    have e3 : l = ((pre ++ [x]) ++ flat k) ++ flat r ++ post := by rw [e]; simp [flat]
    rw [len_node] at hw2
    simp only [count] at hw ⊢
    have s1 := (nsize_step e1 hl h1 ha hap (w := w) (by omega) (by omega)).1 (by omega)
    have s2 := nsize_over hl ha k (pre ++ [x]) (flat r ++ post) (w - 1 + arity x) e2 h3 (by rw [List.length_append]; omega) (by omega) (by omega)
    have s3 := nsize_over hl ha r ((pre ++ [x]) ++ flat k) post (w - 1) e3 h4 (by rw [List.length_append, List.length_append]; omega) (by omega) (by omega)
    rw [show w - 1 + arity x - (count k : Int) = w - 1 by omega] at s2
    rw [show w - ((count r + 1 : Nat) : Int) = w - 1 - count r by omega, show pre ++ flat (.node x k r) = (pre ++ [x]) ++ flat k ++ flat r by simp [flat]]
    exact EvL.trans s1 (EvL.trans s2 s3)
theorem nsize_end {l : List Node} (hl : (l.length : Int) ≤ 100000) {a : Int} (ha : 0 ≤ a) : ∀ (F : Fo) (pre post : List Node), l = pre ++ flat F ++ post → Good F → a ≤ pre.length → 1 ≤ count F →
    EvG s162 (.L0 l a (count F) pre.length) ((pre ++ flat F).length - a)
  | .nil, pre, post, e, _, _, hw => by simp [count] at hw
  | .node x k r, pre, post, e, hG, hap, _ => by
    obtain ⟨h1, h2, h3, h4⟩ := hG
    have hb := arity_in h1
    have hcr := count_le r
    have hlr : (len r : Int) ≤ 100000 ∧ (len k : Int) ≤ 100000 := by
      have : l.length = pre.length + (len (.node x k r)) + post.length := by rw [e]; simp [len]; omega
      rw [len_node] at this; omega
    have e1 : l = pre ++ x :: (flat k ++ flat r ++ post) := by rw [e]; simp [flat]
    have e2 : l = (pre ++ [x]) ++ flat k ++ (flat r ++ post) := by rw [e]; simp [flat]
    have e3 : l = ((pre ++ [x]) ++ flat k) ++ flat r ++ post := by rw [e]; simp [flat]
    have el : ((pre ++ [x]).length : Int) = pre.length + 1 := by simp
    have ef : ((pre ++ flat (.node x k r)).length : Int) = (((pre ++ [x]) ++ flat k) ++ flat r).length := by simp [flat]
    simp only [count]
    have s1 := nsize_step e1 hl h1 ha hap (w := ((count r + 1 : Nat) : Int)) (by omega) (by omega)
    by_cases hr : count r = 0
    · have hrn : flat r = [] := by cases r with | nil => rfl | node _ _ _ => simp [count] at hr
      rw [hr] at s1 ⊢
      by_cases hk : count k = 0
      · have hkn : flat k = [] := by cases k with | nil => rfl | node _ _ _ => simp [count] at hk
        have := s1.2 (by omega)
        rw [ef, hrn, hkn]
        simp only [List.append_nil]
        rw [el, show (pre.length : Int) + 1 - a = pre.length - a + 1 by omega]
        exact this
      · have s2 := nsize_end hl ha k (pre ++ [x]) (flat r ++ post) e2 h3 (by omega) (by omega)
        have := s1.1 (by omega)
        rw [show ((0 + 1 : Nat) : Int) - 1 + arity x = count k by omega] at this
        rw [ef, hrn, List.append_nil]
        exact EvL.gives this s2
    · have s2 := nsize_over hl ha k (pre ++ [x]) (flat r ++ post) (((count r + 1 : Nat) : Int) - 1 + arity x) e2 h3 (by omega) (by omega) (by omega)
      have s3 := nsize_end hl ha r ((pre ++ [x]) ++ flat k) post e3 h4 (by rw [List.length_append]; omega) (by omega)
      have := s1.1 (by omega)
      rw [show ((count r + 1 : Nat) : Int) - 1 + arity x - (count k : Int) = count r by omega] at s2
      rw [ef]
      exact EvL.gives this (EvL.gives s2 s3)
theorem nsize_ev {l : List Node} {x : Node} {k : Fo} (e : l = flat (one x k)) (hG : Good (one x k)) (hl : (l.length : Int) ≤ 100000) : Ev fun n => p162 n l 0 = some (l.length : Int) := by
  have h0 : 0 < l.length := by rw [e]; simp [one, flat]
  have := nsize_end hl (a := 0) (Int.le_refl _) (one x k) [] [] (by simp [e]) hG (by simp) (by simp [one, count])
  rw [List.nil_append, ← e, Int.sub_zero, show ((count (one x k) : Nat) : Int) = 1 from rfl] at this
  refine EvG.ev (EvL.gives (EvL.one fun n f => ?_) this)
  simp only [flow_succ, s162]
  rw [ltB_f (by omega), leB_f (by omega)]; rfl
theorem whole_ev {l : List Node} {x : Node} {k : Fo} (e : l = flat (one x k)) (hG : Good (one x k)) (hl : (l.length : Int) ≤ 100000) : Ev fun n => p140 n l = some true := by
  have h0 : 0 < l.length := by rw [e]; simp [one, flat]
  refine EvG.ev (EvG.of (nsize_ev e hG hl) fun n f hn => ?_)
  simp only [flow_succ, s140]
  rw [ltB_t (by omega), hn, Option.bind_some, eqB_t rfl]; rfl

/-! ### measure -/
abbrev Frame := Node × (Int × (Int × Int))
theorem times_ev {n t : Int} (hn : 1 ≤ n) (h0 : 0 ≤ t) (h1 : t ≤ 4097) : Ev fun i => p168 i n t = some (min (n * t) 4097) := by
  have h := cap_mul (s := t) h0 hn
  have hb := cap_mul_in h0 h1 hn
  refine EvG.ev (EvG.one fun i f => ?_)
  have e1 : min 4097 n * t = t * min n 4097 := by rw [Int.mul_comm, Int.min_comm]
  have e2 : min t 4097 = t := by omega
  simp only [flow_succ, s168]
  rw [e1, w64_id (by omega) (by omega)]
  rw [e2] at h
  rw [Int.min_comm, h, Int.mul_comm]
theorem nadd_ev {a b : Int} (ha : 0 ≤ a) (ha2 : a ≤ 1000000) (hb : 0 ≤ b) : Ev fun i => p169 i a b = some (min (a + min b 4097) 4097) := by
  refine EvG.ev (EvG.one fun i f => ?_)
  simp only [flow_succ, s169]
  rw [w64_id (by omega) (by omega)]
  congr 1; omega
theorem set_mid {α : Type} (pre : List α) (r v : α) (l : List α) : (pre ++ r :: l).set pre.length v = pre ++ v :: l := by
  induction pre with
  | nil => rfl
  | cons a pre ih => simp [ih]
def tk (fr : Frame) : Int := if fr.1.1 = 4 then min (fr.1.2.2 * fr.2.2.2) 4097 else fr.2.2.2
def pop (top fr : Frame) : Frame := (top.1, (top.2.1 - 1, (max top.2.2.1 (fr.2.2.1 + 1), min (top.2.2.2 + min (tk fr) 4097) 4097)))
def FrOk (fr : Frame) : Prop := 0 ≤ fr.2.1 ∧ fr.2.1 ≤ 1000000 ∧ 0 ≤ fr.2.2.1 ∧ fr.2.2.1 ≤ 1000000 ∧ 0 ≤ fr.2.2.2 ∧ fr.2.2.2 ≤ 4097
theorem pop_step (l : List Node) (len i : Int) (S : List Frame) (top fr : Frame) (hS : (S.length : Int) ≤ 1000000) (h0 : fr.2.1 = 0) (ht : FrOk top) (hf : FrOk fr) (hN : fr.1.1 = 4 → 1 ≤ fr.1.2.2) :
    EvL s161 (.L2 l len i ((S ++ [top]) ++ [fr])) (.L2 l len i (S ++ [pop top fr])) := by
  obtain ⟨t1, t2, t3, t4, t5, t6⟩ := ht
  obtain ⟨f1, f2, f3, f4, f5, f6⟩ := hf
  have eL : (((S ++ [top]) ++ [fr]).length : Int) = S.length + 2 := by simp
  have eS : ((S ++ [top]).length : Int) = S.length + 1 := by simp
  have w1 : w64 ((((S ++ [top]) ++ [fr]).length : Int) - 1) = ((S ++ [top]).length : Int) := by rw [w64_id (by omega) (by omega)]; omega
  have w2 : w64 ((((S ++ [top]) ++ [fr]).length : Int) - 2) = (S.length : Int) := by rw [w64_id (by omega) (by omega)]; omega
  have g1 : ∀ d, ((S ++ [top]) ++ [fr]).getD (S ++ [top]).length d = fr := fun d => getD_mid (S ++ [top]) fr [] d
  have g2 : ∀ (z d : Frame), (S ++ [z]).getD S.length d = z := fun z d => getD_mid S z [] d
  have g3 : ∀ z v : Frame, (S ++ [z]).set S.length v = S ++ [v] := fun z v => set_mid S z v []
  have g4 : ((S ++ [top]) ++ [fr]).take (S ++ [top]).length = S ++ [top] := List.take_left
  have lt : S.length < (S ++ [top]).length := by simp
  by_cases c4 : fr.1.1 = 4
  · have hN := hN c4
    have ek : tk fr = min (fr.1.2.2 * fr.2.2.2) 4097 := by unfold tk; rw [if_pos c4]
    have hk0 : 0 ≤ fr.1.2.2 * fr.2.2.2 := Int.mul_nonneg (by omega) f5
    refine EvL.of ((times_ev hN f5 f6).and (nadd_ev (a := top.2.2.2) (b := min (fr.1.2.2 * fr.2.2.2) 4097) t5 (by omega) (by omega))) fun n f hn => ?_
    simp only [flow_succ, s161]
    rw [ltB_t (by omega), w1, w2]
    simp only [toNat_len, g1, g2, g3, g4, cond_true]
    rw [if_pos (by omega), if_pos (by omega), eqB_t h0]
    simp only [cond_true]
    rw [if_pos (by omega), if_pos (by omega), if_pos (by omega), if_pos (by omega), if_pos (by omega), if_pos (by omega), if_pos lt, eqB_t c4]
    simp only [cond_true]
    rw [hn.1, Option.bind_some, hn.2, Option.bind_some, w64_id (x := top.2.1 - 1) (by omega) (by omega), w64_id (x := fr.2.2.1 + 1) (by omega) (by omega)]
    unfold pop; rw [ek]
  · have ek : tk fr = fr.2.2.2 := by unfold tk; rw [if_neg c4]
    refine EvL.of (nadd_ev (a := top.2.2.2) (b := fr.2.2.2) t5 (by omega) f5) fun n f hn => ?_
    simp only [flow_succ, s161]
    rw [ltB_t (by omega), w1, w2]
    simp only [toNat_len, g1, g2, g3, g4, cond_true]
    rw [if_pos (by omega), if_pos (by omega), eqB_t h0]
    simp only [cond_true]
    rw [if_pos (by omega), if_pos (by omega), if_pos (by omega), if_pos (by omega), if_pos (by omega), if_pos (by omega), if_pos lt, eqB_f c4]
    simp only [cond_false]
    rw [hn, Option.bind_some, w64_id (x := top.2.1 - 1) (by omega) (by omega), w64_id (x := fr.2.2.1 + 1) (by omega) (by omega)]
    unfold pop; rw [ek]

def addF (top : Frame) (F : Fo) : Frame := (top.1, (top.2.1 - count F, (max top.2.2.1 (dep F), min (top.2.2.2 + ticks F) 4097)))
theorem dep_le : ∀ F : Fo, dep F ≤ len F
  | .nil => by simp [dep]
  | .node x k r => by have := dep_le k; have := dep_le r; rw [len_node]; simp only [dep]; omega
theorem addF_ok {top : Frame} {F : Fo} (h : FrOk top) (hG : Good F) (hc : (count F : Int) ≤ top.2.1) (hd : (len F : Int) ≤ 1000000) : FrOk (addF top F) := by
  obtain ⟨t1, t2, t3, t4, t5, t6⟩ := h
  have := ticks_pos hG
  have := dep_le F
  unfold addF FrOk
  refine ⟨?_, ?_, ?_, ?_, ?_, ?_⟩ <;> simp only <;> omega
theorem addF_cons (top : Frame) (x : Node) (k r : Fo) (h : Good (.node x k r)) (h5 : 0 ≤ top.2.2.2) (h6 : 0 ≤ top.2.2.1) : addF (addF top (one x k)) r = addF top (.node x k r) := by
  obtain ⟨h1, h2, h3, h4⟩ := h
  have ho := ticks_pos (F := one x k) ⟨h1, h2, h3, trivial⟩
  have hr := ticks_pos h4
  have e1 : ticks (.node x k r) = ticks (one x k) + ticks r := by simp [one, ticks]
  have e2 : dep (.node x k r) = max (dep (one x k)) (dep r) := by simp [one, dep]
  have e3 : count (.node x k r) = count r + 1 := rfl
  have e4 : count (one x k) = 1 := rfl
  unfold addF
  rw [e1, e2, e3, e4]
  simp only [Prod.mk.injEq, true_and]
  refine ⟨by omega, by omega, by omega⟩
theorem pop_addF {top : Frame} {x : Node} {k : Fo} (hG : Good (one x k)) {fr : Frame} (hx : fr.1 = x) (hd : fr.2.2.1 = dep k) (ht : fr.2.2.2 = if x.1 = 3 ∨ x.1 = 4 then min (ticks k) 4097 else min x.2.2 4097) (h5 : 0 ≤ top.2.2.2) : pop top fr = addF top (one x k) := by
  obtain ⟨h1, h2, h3, h4⟩ := hG
  have hk := ticks_pos h3
  have ho := ticks_pos (F := one x k) ⟨h1, h2, h3, trivial⟩
  have e1 : ticks (one x k) = own x (ticks k) := by simp [one, ticks]
  have e2 : dep (one x k) = dep k + 1 := by simp [one, dep]
  have e4 : count (one x k) = 1 := rfl
  have ek : min (tk fr) 4097 = min (own x (ticks k)) 4097 := by
    unfold tk own
    rw [hx, ht]
    unfold Tab.fine at h1
    by_cases c4 : x.1 = 4
    · have hn1 : 1 ≤ x.2.2 := by omega
      have := cap_mul hk hn1
      rw [if_pos c4, if_pos (.inr c4), if_neg (by omega), if_pos c4]
      have e3 : min (x.2.2 * min (ticks k) 4097) 4097 = min (ticks k * x.2.2) 4097 := by
        have h := cap_mul (s := min (ticks k) 4097) (n := x.2.2) (by omega) hn1
        rw [show min (min (ticks k) 4097) 4097 = min (ticks k) 4097 by omega] at h
        rw [Int.mul_comm, ← h]; exact this
      omega
    · rw [if_neg c4]
      by_cases c3 : x.1 = 3
      · rw [if_pos (.inl c3), if_pos c3]; omega
      · rw [if_neg (by omega), if_neg c3, if_neg c4]; omega
  rw [e1] at ho
  unfold pop addF
  rw [ek, hd, e1, e2, e4]
  simp only [Prod.mk.injEq, true_and]
  refine ⟨by omega, by omega, by omega⟩
theorem out_step (l : List Node) {i : Int} (hi : 0 ≤ i) (hi2 : i ≤ 1000000) (S : List Frame) (top : Frame) (hS : (S.length : Int) ≤ 1000000) (h : S = [] ∨ top.2.1 ≠ 0) : EvL s161 (.L2 l l.length i (S ++ [top])) (.L0 l l.length (i + 1) (S ++ [top])) := by
  have eS : ((S ++ [top]).length : Int) = S.length + 1 := by simp
  refine EvL.trans (EvL.one (q := .E2 l l.length i (S ++ [top])) fun n f => ?_) (EvL.one fun n f => ?_)
  · simp only [flow_succ, s161]
    rcases h with rfl | h
    · rw [ltB_f (by simp)]; rfl
    · have w1 : w64 (((S ++ [top]).length : Int) - 1) = (S.length : Int) := by rw [w64_id (by omega) (by omega)]; omega
      rw [w1]
      simp only [toNat_len, getD_mid S top []]
      by_cases c : (1 : Int) < (S ++ [top]).length
      · rw [ltB_t c, eqB_f h]
        simp only [cond_true, cond_false]
        rw [if_pos (by omega), if_pos (by omega)]
      · rw [ltB_f (by omega)]; rfl
  · simp only [flow_succ, s161]
    rw [w64_id (by omega) (by omega)]
/-- A node comes upon the stack. -/
theorem push_step {l pre l2 : List Node} {x : Node} (e : l = pre ++ x :: l2) (hl : (l.length : Int) ≤ 100000) (hx : Tab.fine x) (S : List Frame) (hS : (S.length : Int) ≤ 1000000) :
    EvL s161 (.L0 l l.length pre.length S) (.L2 l l.length pre.length (S ++ [(x, (arity x, (0, if arity x = 0 then min 4097 x.2.2 else 0)))])) := by
  have hb := at_lt e
  refine EvL.trans (EvL.one (q := .Q4 l l.length pre.length S) fun n f => ?_) (EvL.of (nkids_ev x hx) fun n f hn => ?_)
  · simp only [flow_succ, s161]; rw [ltB_t hb]; rfl
  · have eS : ∀ z : Frame, ((S ++ [z]).length : Int) = S.length + 1 := fun z => by simp
    have w1 : ∀ z : Frame, w64 (((S ++ [z]).length : Int) - 1) = (S.length : Int) := fun z => by rw [eS, w64_id (by omega) (by omega)]; omega
    simp only [flow_succ, s161]
    rw [at_get e, if_pos (by omega), if_pos hb, hn, Option.bind_some, if_pos (by rw [List.length_singleton]; omega)]
    simp only [w1, toNat_len, getD_mid S _ [], set_mid S _ _ []]
    simp only [eS]
    rw [if_pos (by omega), if_pos (by omega)]
    by_cases c : arity x = 0
    · rw [eqB_t c, if_pos c]
      simp only [cond_true]
      rw [if_pos (by omega), if_pos (by omega)]
    · rw [eqB_f c, if_neg c]; rfl
theorem meas {l : List Node} (hl : (l.length : Int) ≤ 100000) (B : Int) (hB : B = 1000000) : ∀ (F : Fo) (pre post : List Node) (S : List Frame) (top : Frame), l = pre ++ flat F ++ post → Good F → 1 ≤ count F → (count F : Int) ≤ top.2.1 → FrOk top → (S.length : Int) + len F ≤ B →
    EvL s161 (.L0 l l.length pre.length (S ++ [top])) (.L2 l l.length ((pre.length : Int) + len F - 1) (S ++ [addF top F]))
  | .nil, pre, post, S, top, e, _, hc, _, _, _ => by simp [count] at hc
  | .node x k r, pre, post, S, top, e, hG, _, hc, ht, hS => by
    have hG' := hG
    obtain ⟨h1, h2, h3, h4⟩ := hG
    have e0 : l = pre ++ x :: (flat k ++ flat r ++ post) := by rw [e]; simp [flat]
    have e2 : l = (pre ++ [x]) ++ flat k ++ (flat r ++ post) := by rw [e]; simp [flat]
    have e3 : l = (pre ++ flat (one x k)) ++ flat r ++ post := by rw [e]; simp [flat, one]
    have n3 : ((pre ++ flat (one x k)).length : Int) = pre.length + len k + 1 := by simp [flat, one, len]; omega
    have el : ((pre ++ [x]).length : Int) = pre.length + 1 := by simp
    have eS : ((S ++ [top]).length : Int) = S.length + 1 := by simp
    have hlen : (l.length : Int) = pre.length + len (.node x k r) + post.length := by rw [e]; simp [len]; omega
    rw [len_node] at hS hlen ⊢
    have hb := arity_in h1
    have g1 : Good (one x k) := ⟨h1, h2, h3, trivial⟩
    have hN : x.1 = 4 → 1 ≤ x.2.2 := fun _ => by unfold Tab.fine at h1; omega
    have hN1 : 1 ≤ x.2.2 := by unfold Tab.fine at h1; omega
    obtain ⟨t1, t2, t3, t4, t5, t6⟩ := ht
    have ht : FrOk top := ⟨t1, t2, t3, t4, t5, t6⟩
    have c1 : (count (.node x k r) : Int) = count r + 1 := by simp [count]
    rw [c1] at hc
    -- the tree
    have tree : EvL s161 (.L0 l l.length pre.length (S ++ [top])) (.L2 l l.length ((pre.length : Int) + len k) (S ++ [addF top (one x k)])) := by
      refine EvL.trans (push_step e0 hl h1 (S ++ [top]) (by omega)) ?_
      by_cases ca : arity x = 0
      · rw [if_pos ca]
        have hkn : k = .nil := by
          cases k with
          | nil => rfl
          | node _ _ r' => simp only [count] at h2; omega
        have hx34 : ¬ (x.1 = 3 ∨ x.1 = 4) := by
          unfold arity at ca; unfold Tab.fine at h1
          rintro (h | h)
          · rw [if_pos h] at ca; omega
          · rw [if_neg (by omega), if_pos h] at ca; omega
        subst hkn
        have := pop_step l l.length pre.length S top (x, (arity x, (0, min 4097 x.2.2))) (by omega) ca ht ⟨by simp only; omega, by simp only; omega, by simp, by simp, by simp only; omega, by simp only; omega⟩ hN
        rw [pop_addF g1 rfl (by simp [dep]) (by rw [if_neg hx34]; simp only; omega) t5] at this
        rw [show (pre.length : Int) + ((len Fo.nil : Nat) : Int) = pre.length by simp [len, flat]]
        exact this
      · rw [if_neg ca]
        have o := out_step l (i := pre.length) (by omega) (by omega) (S ++ [top]) (x, (arity x, (0, 0))) (by omega) (.inr ca)
        have i1 := meas hl B hB k (pre ++ [x]) (flat r ++ post) (S ++ [top]) (x, (arity x, (0, 0))) e2 h3 (by omega) (by simp only; omega) ⟨by simp only; omega, by simp only; omega, by simp, by simp, by simp, by simp⟩ (by omega)
        rw [el, show (pre.length : Int) + 1 + len k - 1 = pre.length + len k by omega] at i1
        have hkt := ticks_pos h3
        have hdk := dep_le k
        have hx34 : x.1 = 3 ∨ x.1 = 4 := by
          unfold arity at ca
          by_cases h : x.1 = 3
          · exact .inl h
          · rw [if_neg h] at ca
            by_cases h' : x.1 = 4
            · exact .inr h'
            · rw [if_neg h'] at ca; exact absurd rfl ca
        have pk := pop_step l l.length ((pre.length : Int) + len k) S top (addF (x, (arity x, (0, 0))) k) (by omega) (by unfold addF; simp only; omega) ht (addF_ok ⟨by simp only; omega, by simp only; omega, by simp, by simp, by simp, by simp⟩ h3 (by simp only; omega) (by omega)) hN
        rw [pop_addF g1 (by rfl) (by unfold addF; simp only; omega) (by rw [if_pos hx34]; unfold addF; simp only [Int.zero_add]) t5] at pk
        exact EvL.trans o (EvL.trans i1 pk)
    cases hr : r with
    | nil =>
      subst hr
      rw [show (pre.length : Int) + ((len k + len Fo.nil + 1 : Nat) : Int) - 1 = pre.length + len k by simp [len, flat]; omega]
      exact tree
    | node y k' r' =>
      rw [← hr]
      have hcr : 1 ≤ count r := by rw [hr]; simp [count]
      have ok := addF_ok (F := one x k) ht g1 (by rw [show count (one x k) = 1 from rfl]; omega) (by rw [one, len_node]; simp [len, flat]; unfold len at hS; omega)
      have left : (addF top (one x k)).2.1 = top.2.1 - 1 := by unfold addF; simp [show count (one x k) = 1 from rfl]
      have o := out_step l (i := (pre.length : Int) + len k) (by omega) (by omega) S (addF top (one x k)) (by omega) (.inr (by rw [left]; omega))
      have i2 := meas hl B hB r (pre ++ flat (one x k)) post S (addF top (one x k)) e3 h4 hcr (by rw [left]; omega) ok (by omega)
      rw [n3, addF_cons top x k r hG' t5 t3] at i2
      rw [show (pre.length : Int) + ((len k + len r + 1 : Nat) : Int) - 1 = pre.length + len k + 1 + len r - 1 by omega]
      exact EvL.trans tree (EvL.trans o i2)
theorem measure_ev {l : List Node} {x : Node} {k : Fo} (e : l = flat (one x k)) (hG : Good (one x k)) (hl : (l.length : Int) ≤ 100000) : Ev fun n => p161 n l = some ((dep k : Int) + 1, min (own x (ticks k)) 4097) := by
  have hlen : (l.length : Int) = len (one x k) := by rw [e]; rfl
  have h0 : 1 ≤ len (one x k) := by rw [one, len_node]; omega
  have m := meas hl 1000000 rfl (one x k) [] [] [] ((0, (0, 0)), (1, (0, 0))) (by simp [e]) hG (by simp [one, count]) (by simp [one, count]) ⟨by simp, by simp, by simp, by simp, by simp, by simp⟩ (by simp; omega)
  have o := out_step l (i := (([] : List Node).length : Int) + len (one x k) - 1) (by simp; omega) (by simp; omega) [] (addF ((0, (0, 0)), (1, (0, 0))) (one x k)) (by simp) (.inl rfl)
  rw [show (([] : List Node).length : Int) + len (one x k) - 1 + 1 = l.length by simp; omega] at o
  have ho := ticks_pos hG
  have e1 : ticks (one x k) = own x (ticks k) := by simp [one, ticks]
  have e2 : dep (one x k) = dep k + 1 := by simp [one, dep]
  have ef : addF ((0, (0, 0)), (1, (0, 0))) (one x k) = ((0, (0, 0)), (0, ((dep k : Int) + 1, min (own x (ticks k)) 4097))) := by
    unfold addF
    rw [e1, e2, show count (one x k) = 1 from rfl]
    simp; omega
  rw [ef] at m o
  refine EvG.ev (EvL.gives (EvL.one fun n f => ?_) (EvL.gives m (EvL.gives o (EvL.gives (EvL.one (q := .E0 [((0, (0, 0)), (0, ((dep k : Int) + 1, min (own x (ticks k)) 4097)))]) fun n f => ?_) (EvG.one fun n f => ?_)))))
  · simp only [flow_succ, s161]; rfl
  · simp only [flow_succ, s161]
    rw [ltB_f (by omega)]; rfl
  · simp only [flow_succ, s161]; rfl

/-! ### Right -/
theorem nlength_ev {l : List Node} {x : Node} {k : Fo} (e : l = flat (one x k)) (hG : Good (one x k)) (hl : (l.length : Int) ≤ 100000) : Ev fun n => p139 n l = some (if own x (ticks k) ≤ 4096 then (own x (ticks k), true) else (0, false)) := by
  refine EvG.ev (EvG.of ((whole_ev e hG hl).and (measure_ev e hG hl)) fun n f hn => ?_)
  simp only [flow_succ, s139, hn.1, hn.2, Option.bind_some]
  simp only [Bool.not_true, cond_false]
  by_cases c : own x (ticks k) ≤ 4096
  · rw [if_pos c, leB_t (by omega), show min (own x (ticks k)) 4097 = own x (ticks k) by omega]; rfl
  · rw [if_neg c, leB_f (by omega)]; rfl
theorem ndepth_ev {l : List Node} {x : Node} {k : Fo} (e : l = flat (one x k)) (hG : Good (one x k)) (hl : (l.length : Int) ≤ 100000) : Ev fun n => p141 n l = some ((dep k : Int) + 1) := by
  refine EvG.ev (EvG.of ((whole_ev e hG hl).and (measure_ev e hG hl)) fun n f hn => ?_)
  simp only [flow_succ, s141, hn.1, hn.2, Option.bind_some]; rfl
theorem nright_ev {l : List Node} {x : Node} {k : Fo} (e : l = flat (one x k)) (hG : Good (one x k)) (hl : (l.length : Int) ≤ 100000) : Ev fun n => p87 n l = some (rightS x k) := by
  have hlen : (l.length : Int) = len (one x k) := by rw [e]; rfl
  refine EvG.ev (EvG.of ((nlength_ev e hG hl).and ((whole_ev e hG hl).and (ndepth_ev e hG hl))) fun n f hn => ?_)
  obtain ⟨a1, a2, a3⟩ := hn
  simp only [flow_succ, s87, a1, a2, a3, Option.bind_some]
  unfold rightS
  by_cases c1 : 128 < len (one x k)
  · rw [if_pos c1, ltB_t (by omega)]; rfl
  rw [if_neg c1, ltB_f (by omega)]
  simp only [cond_false, Bool.not_true]
  by_cases c2 : 16 < dep k + 1
  · rw [if_pos c2, ltB_t (by omega)]; rfl
  rw [if_neg c2, ltB_f (by omega)]
  simp only [cond_false]
  by_cases c3 : own x (ticks k) ≤ 4096
  · rw [if_pos c3, if_pos c3]; rfl
  · rw [if_neg c3, if_neg c3]; rfl
end Go.Am.Tab
