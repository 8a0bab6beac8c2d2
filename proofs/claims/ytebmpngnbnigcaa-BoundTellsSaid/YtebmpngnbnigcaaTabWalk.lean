/- Walks through the document's functions over tables (horariumref3): Size, Kids, depth, length. -/
import Derived.Test.YtebmpngnbnigcaaG1
import Derived.Test.YtebmpngnbnigcaaTabLaw
import Derived.Test.YtebmpngnbnigcaaMD
set_option linter.unusedVariables false
set_option linter.unusedSimpArgs false
namespace Go.Am.Tab
open Fr

theorem Ev.rec {α : Type} {p : Nat → Nat → Option α} {y : α} (up : ∀ {n m a b : Nat}, n ≤ m → a ≤ b → Up (p n a) (p m b)) (h : Ev fun i => p i (i + 1) = some y) : Ev fun i => p i i = some y := by
  obtain ⟨N, h⟩ := h
  refine ⟨N + 1, fun i hi => ?_⟩
  have this : p (i - 1) (i - 1 + 1) = some y := h (i - 1) (by omega)
  rw [show i - 1 + 1 = i by omega] at this
  exact up (by omega) (Nat.le_refl i) y this

theorem fine_ev (x : Node) (h : Tab.fine x) : Ev fun n => p160 n x = some true := by
  refine EvG.ev (EvG.one fun n f => ?_)
  simp only [flow_succ, s160]
  rcases h with ⟨h1, h2, h3, h4⟩ | ⟨h1, h2, h3⟩ | ⟨h1, h2, h3⟩ | ⟨h1, h2, h3, h4⟩
  · rw [eqB_t h1, leB_t h2, ltB_t h3, leB_t h4]; rfl
  · rw [eqB_f (a := x.1) (b := 1) (by omega), eqB_t h1, eqB_t h2, leB_t h3]; rfl
  · rw [eqB_f (a := x.1) (b := 1) (by omega), eqB_f (a := x.1) (b := 2) (by omega), eqB_t h1, eqB_t h2, leB_t h3]; rfl
  · rw [eqB_f (a := x.1) (b := 1) (by omega), eqB_f (a := x.1) (b := 2) (by omega), eqB_f (a := x.1) (b := 4) (by omega), eqB_t h1, eqB_t h2, leB_t h3, leB_t h4]; rfl

theorem arity_in {x : Node} (h : Tab.fine x) : 0 ≤ arity x ∧ arity x ≤ 128 := by
  unfold arity; unfold Tab.fine at h
  split
  · omega
  · split <;> omega

/-- One node of Size's loop: what is wanted goes on. -/
theorem size_step {l pre l2 : List Node} {x : Node} (e : l = pre ++ x :: l2) (hl : (l.length : Int) ≤ 100000) (hx : Tab.fine x) {a w : Int} (ha : 0 ≤ a) (ha2 : a ≤ pre.length) (hw : 1 ≤ w) (hw2 : w ≤ 1000000000) :
    (w - 1 + arity x ≠ 0 → EvL s136 (.L0 l a w pre.length) (.L0 l a (w - 1 + arity x) ((pre ++ [x]).length : Int))) ∧
    (w - 1 + arity x = 0 → EvG s136 (.L0 l a w pre.length) (pre.length - a + 1)) := by
  have h3 := at_lt e
  have hb := arity_in hx
  have key : ∀ {γ : Type} (n : Nat) (k : P136 → Option γ) (r : Int → Option γ), p160 n x = some true → s136 n γ (.L0 l a w pre.length) k r = cond (eqB (w - 1 + arity x) 0) (r (pre.length - a + 1)) (k (.Q6 l a (w - 1 + arity x) pre.length)) := by
    intro γ n k r hn
    simp only [s136]
    rw [ltB_t h3, at_get e, hn, w64_id (x := w - 1) (by omega) (by omega), w64_id (x := (pre.length : Int) - a) (by omega) (by omega), w64_id (x := (pre.length : Int) - a + 1) (by omega) (by omega)]
    simp only [cond_true, Option.bind_some, Bool.not_true, cond_false]
    rw [if_pos (by omega), if_pos h3, if_pos (by omega), if_pos h3]
    unfold arity at hb ⊢
    by_cases h1 : x.1 = 3
    · rw [if_pos h1] at hb ⊢
      rw [eqB_t h1, w64_id (x := w - 1 + x.2.2) (by omega) (by omega)]
      simp only [cond_true]
      rw [if_pos (by omega), if_pos h3, if_pos (by omega), if_pos h3, eqB_f (a := x.1) (b := 4) (by omega)]
      simp only [cond_false]
    · rw [if_neg h1] at hb ⊢
      rw [eqB_f h1]
      simp only [cond_false]
      rw [if_pos (by omega), if_pos h3]
      by_cases h2 : x.1 = 4
      · rw [if_pos h2, eqB_t h2, w64_id (x := w - 1 + 1) (by omega) (by omega)]
        simp only [cond_true]
      · rw [if_neg h2, eqB_f h2, Int.add_zero]
        simp only [cond_false]
  constructor
  · intro hne
    refine EvL.trans (EvL.of (q := .Q6 l a (w - 1 + arity x) pre.length) (fine_ev x hx) fun n f hn => ?_) (EvL.one fun n f => ?_)
    · rw [flow_succ, key n _ _ hn, eqB_f hne]; rfl
    · simp only [flow_succ, s136]
      rw [at_succ pre x (by omega)]
  · intro he
    refine EvG.of (fine_ev x hx) fun n f hn => ?_
    rw [flow_succ, key n _ _ hn, eqB_t he]; rfl

/-- Over a forest, while more is wanted. -/
theorem size_over {l : List Node} (hl : (l.length : Int) ≤ 100000) {a : Int} (ha : 0 ≤ a) : ∀ (F : Fo) (pre post : List Node) (w : Int), l = pre ++ flat F ++ post → Good F → a ≤ pre.length → (count F : Int) < w → w + 128 * len F ≤ 1000000000 →
    EvL s136 (.L0 l a w pre.length) (.L0 l a (w - count F) ((pre ++ flat F).length : Int))
  | .nil, pre, post, w, e, _, _, _, _ => by
    simp only [flat, List.append_nil, count]
    rw [show w - ((0 : Nat) : Int) = w by simp]
    exact EvL.refl
  | .node x k r, pre, post, w, e, hG, hap, hw, hw2 => by
    obtain ⟨h1, h2, h3, h4⟩ := hG
    have hb := arity_in h1
    have e1 : l = pre ++ x :: (flat k ++ flat r ++ post) := by rw [e]; simp [flat]
    have e2 : l = (pre ++ [x]) ++ flat k ++ (flat r ++ post) := by rw [e]; simp [flat]
    have e3 : l = ((pre ++ [x]) ++ flat k) ++ flat r ++ post := by rw [e]; simp [flat]
    rw [len_node] at hw2
    simp only [count] at hw ⊢
    have s1 := (size_step e1 hl h1 ha hap (w := w) (by omega) (by omega)).1 (by omega)
    have s2 := size_over hl ha k (pre ++ [x]) (flat r ++ post) (w - 1 + arity x) e2 h3 (by rw [List.length_append]; omega) (by omega) (by omega)
    have s3 := size_over hl ha r ((pre ++ [x]) ++ flat k) post (w - 1) e3 h4 (by rw [List.length_append, List.length_append]; omega) (by omega) (by omega)
    rw [show w - 1 + arity x - (count k : Int) = w - 1 by omega] at s2
    rw [show w - ((count r + 1 : Nat) : Int) = w - 1 - count r by omega, show pre ++ flat (.node x k r) = (pre ++ [x]) ++ flat k ++ flat r by simp [flat]]
    exact EvL.trans s1 (EvL.trans s2 s3)

/-- Where as many are wanted as there are: to the end. -/
theorem size_end {l : List Node} (hl : (l.length : Int) ≤ 100000) {a : Int} (ha : 0 ≤ a) : ∀ (F : Fo) (pre post : List Node), l = pre ++ flat F ++ post → Good F → a ≤ pre.length → 1 ≤ count F →
    EvG s136 (.L0 l a (count F) pre.length) ((pre ++ flat F).length - a)
  | .nil, pre, post, e, _, _, hw => by simp [count] at hw
  | .node x k r, pre, post, e, hG, hap, _ => by
    obtain ⟨h1, h2, h3, h4⟩ := hG
    have hb := arity_in h1
    have hcr := count_le r
    have hlr : (len r : Int) ≤ 100000 ∧ (len k : Int) ≤ 100000 := by
      have : l.length = pre.length + (len (.node x k r)) + post.length := by rw [e]; simp [len]; omega
      rw [len_node] at this; omega
    have e1 : l = pre ++ x :: (flat k ++ flat r ++ post) := by rw [e]; simp [flat]
    have e2 : l = (pre ++ [x]) ++ flat k ++ (flat r ++ post) := by rw [e]; simp [flat]
    have e3 : l = ((pre ++ [x]) ++ flat k) ++ flat r ++ post := by rw [e]; simp [flat]
    have el : ((pre ++ [x]).length : Int) = pre.length + 1 := by simp
    have ef : ((pre ++ flat (.node x k r)).length : Int) = (((pre ++ [x]) ++ flat k) ++ flat r).length := by simp [flat]
    simp only [count]
    have s1 := size_step e1 hl h1 ha hap (w := ((count r + 1 : Nat) : Int)) (by omega) (by omega)
    by_cases hr : count r = 0
    · have hrn : flat r = [] := by cases r with | nil => rfl | node _ _ _ => simp [count] at hr
      rw [hr] at s1 ⊢
      by_cases hk : count k = 0
      · have hkn : flat k = [] := by cases k with | nil => rfl | node _ _ _ => simp [count] at hk
        have := s1.2 (by omega)
        rw [ef, hrn, hkn]
        simp only [List.append_nil]
        rw [el, show (pre.length : Int) + 1 - a = pre.length - a + 1 by omega]
        exact this
      · have s2 := size_end hl ha k (pre ++ [x]) (flat r ++ post) e2 h3 (by omega) (by omega)
        have := s1.1 (by omega)
        rw [show ((0 + 1 : Nat) : Int) - 1 + arity x = count k by omega] at this
        rw [ef, hrn, List.append_nil]
        exact EvL.gives this s2
    · have s2 := size_over hl ha k (pre ++ [x]) (flat r ++ post) (((count r + 1 : Nat) : Int) - 1 + arity x) e2 h3 (by omega) (by omega) (by omega)
      have s3 := size_end hl ha r ((pre ++ [x]) ++ flat k) post e3 h4 (by rw [List.length_append]; omega) (by omega)
      have := s1.1 (by omega)
      rw [show ((count r + 1 : Nat) : Int) - 1 + arity x - (count k : Int) = count r by omega] at s2
      rw [ef]
      exact EvL.gives this (EvL.gives s2 s3)

/-- Size of the tree at a place. -/
theorem size_ev {l pre post : List Node} {x : Node} {k : Fo} (e : l = pre ++ flat (one x k) ++ post) (hG : Good (one x k)) (hl : (l.length : Int) ≤ 100000) : Ev fun n => p136 n l pre.length = some (len (one x k) : Int) := by
  have h3 : (pre.length : Int) < l.length := at_lt (l2 := flat k ++ post) (r := x) (by rw [e]; simp [one, flat])
  have := size_end hl (a := pre.length) (by omega) (one x k) pre post e hG (Int.le_refl _) (by simp [one, count])
  rw [show ((pre ++ flat (one x k)).length : Int) - pre.length = len (one x k) by simp [len]; omega, show ((count (one x k) : Nat) : Int) = 1 from rfl] at this
  refine EvG.ev (EvL.gives (EvL.one fun n f => ?_) this)
  simp only [flow_succ, s136]
  rw [ltB_f (by omega), leB_f h3]; rfl

theorem kids_loop {l : List Node} (hl : (l.length : Int) ≤ 100000) (a sz : Int) (ha : 0 ≤ a) (ha2 : a ≤ 100000) (hs : 0 ≤ sz) (hs2 : sz ≤ 100000) : ∀ (F : Fo) (pre post : List Node) (acc : List Int), l = pre ++ flat F ++ post → Good F → a + sz = (pre.length : Int) + len F → (acc.length : Int) ≤ pre.length →
    EvL s138 (.L0 l a sz pre.length acc) (.E0 (acc ++ posn pre.length F))
  | .nil, pre, post, acc, e, _, hz, hacc => EvL.one fun n f => by
    simp only [flow_succ, s138]
    rw [w64_id (by omega) (by omega), ltB_f (by rw [hz]; simp [len, flat])]
    simp [posn]
  | .node x k r, pre, post, acc, e, hG, hz, hacc => by
    obtain ⟨h1, h2, h3, h4⟩ := hG
    rw [len_node] at hz
    have e1 : l = pre ++ flat (one x k) ++ (flat r ++ post) := by rw [e]; simp [flat, one]
    have e3 : l = (pre ++ flat (one x k)) ++ flat r ++ post := by rw [e]; simp [flat, one]
    have el : ((pre ++ flat (one x k)).length : Int) = pre.length + len k + 1 := by simp [flat, one, len]; omega
    have eo : (len (one x k) : Int) = len k + 1 := by rw [one, len_node]; simp [len, flat]
    have ih := kids_loop hl a sz ha ha2 hs hs2 r (pre ++ flat (one x k)) post (acc ++ [(pre.length : Int)]) e3 h4 (by omega) (by rw [List.length_append, List.length_singleton]; omega)
    rw [List.append_assoc, List.singleton_append, show posn (pre ++ flat (one x k)).length r = posn (pre.length + len k + 1) r by rw [show (pre ++ flat (one x k)).length = pre.length + len k + 1 by omega]] at ih
    refine EvL.trans (EvL.of (size_ev e1 ⟨h1, h2, h3, trivial⟩ hl) fun n f hn => ?_) ih
    simp only [flow_succ, s138]
    rw [w64_id (x := a + sz) (by omega) (by omega), ltB_t (by omega)]
    simp only [cond_true]
    rw [if_pos (by rw [List.length_singleton]; omega), hn, Option.bind_some, w64_id (by omega) (by omega), eo, el, Int.add_assoc]
theorem kids_ev {l pre post : List Node} {x : Node} {k : Fo} (e : l = pre ++ flat (one x k) ++ post) (hG : Good (one x k)) (hl : (l.length : Int) ≤ 100000) : Ev fun n => p138 n l pre.length = some (posn (pre.length + 1) k) := by
  obtain ⟨h1, h2, h3, h4⟩ := hG
  have hlen : (l.length : Int) = pre.length + len (one x k) + post.length := by rw [e]; simp [len]; omega
  have eo : (len (one x k) : Int) = len k + 1 := by rw [one, len_node]; simp [len, flat]
  have e2 : l = (pre ++ [x]) ++ flat k ++ post := by rw [e]; simp [flat, one]
  have el : ((pre ++ [x]).length : Int) = pre.length + 1 := by simp
  have := kids_loop hl pre.length (len (one x k)) (by omega) (by omega) (by omega) (by omega) k (pre ++ [x]) post [] e2 h3 (by omega) (by simp; omega)
  rw [List.nil_append, show posn (pre ++ [x]).length k = posn (pre.length + 1) k by rw [show (pre ++ [x]).length = pre.length + 1 by simp]] at this
  refine EvG.ev (EvL.gives (EvL.of (size_ev e ⟨h1, h2, h3, h4⟩ hl) fun n f hn => ?_) (EvL.gives this (EvG.one fun n f => ?_)))
  · simp only [flow_succ, s138, hn, Option.bind_some]
    rw [eqB_f (by omega), w64_id (by omega) (by omega), el]; rfl
  · simp only [flow_succ, s138]

/-! ### depth -/
def DFacts (l : List Node) : Nat → Fo → Prop
  | _, .nil => True
  | p, .node _ k r => (Ev fun i => p137 i l p = some ((dep k : Int) + 1)) ∧ DFacts l (p + len k + 1) r
theorem depth_loop {l : List Node} {ks : List Int} (hks : (ks.length : Int) ≤ 100000) : ∀ (F : Fo) (p : Nat) (pre : List Int) (m : Nat), ks = pre ++ posn p F → DFacts l p F →
    EvL (fun i => s137 i (p137 i)) (.L0 l m ks.length pre.length ks) (.E0 (max m (dep F) : Nat))
  | .nil, p, pre, m, e, _ => EvL.one fun n f => by
    have := at_end e
    simp only [flow_succ, s137]
    rw [ltB_f (by omega)]
    simp [dep]
  | .node x k r, p, pre, m, e, hF => by
    obtain ⟨f1, f2⟩ := hF
    have e' : ks = pre ++ (p : Int) :: posn (p + len k + 1) r := e
    have h3 := at_lt e'
    have ih := depth_loop hks r (p + len k + 1) (pre ++ [(p : Int)]) (max m (dep k + 1)) (at_next e') f2
    rw [show max m (dep (.node x k r)) = max (max m (dep k + 1)) (dep r) by simp only [dep]; omega]
    refine EvL.trans (EvL.of f1 fun n f hn => ?_) ih
    simp only [flow_succ, s137]
    rw [ltB_t h3, at_get e', hn, at_succ pre (p : Int) (by omega)]
    simp only [cond_true, Option.bind_some]
    rw [if_pos (by omega), if_pos h3, show max (m : Int) ((dep k : Int) + 1) = ((max m (dep k + 1) : Nat) : Int) by omega]
theorem depth_facts {l : List Node} (hl : (l.length : Int) ≤ 100000) : ∀ (F : Fo) (pre post : List Node), l = pre ++ flat F ++ post → Good F → DFacts l pre.length F
  | .nil, _, _, _, _ => trivial
  | .node x k r, pre, post, e, hG => by
    obtain ⟨h1, h2, h3, h4⟩ := hG
    have e1 : l = pre ++ flat (one x k) ++ (flat r ++ post) := by rw [e]; simp [flat, one]
    have e2 : l = (pre ++ [x]) ++ flat k ++ (flat r ++ post) := by rw [e]; simp [flat]
    have e3 : l = (pre ++ flat (one x k)) ++ flat r ++ post := by rw [e]; simp [flat, one]
    have n1 : (pre ++ [x]).length = pre.length + 1 := by simp
    have n3 : (pre ++ flat (one x k)).length = pre.length + len k + 1 := by simp [flat, one, len]; omega
    have i1 := depth_facts hl k (pre ++ [x]) (flat r ++ post) e2 h3
    have i2 := depth_facts hl r (pre ++ flat (one x k)) post e3 h4
    rw [n1] at i1
    rw [n3] at i2
    refine ⟨Ev.rec (p := fun n m => p137' n m l pre.length) (fun h h' => up137' h h' _ _) ?_, i2⟩
    have hlen : (l.length : Int) = pre.length + len (.node x k r) + post.length := by rw [e]; simp [len]; omega
    rw [len_node] at hlen
    have hck := count_le k
    have hd : (dep k : Int) ≤ 100000 := by
      have : ∀ F : Fo, dep F ≤ len F := by
        intro F
        induction F with
        | nil => simp [dep]
        | node x k r ihk ihr => rw [len_node]; simp only [dep]; omega
      have := this k; omega
    have lp := depth_loop (l := l) (ks := posn (pre.length + 1) k) (by rw [posn_length]; omega) k (pre.length + 1) [] 0 rfl i1
    refine EvG.ev (t := fun i => s137 i (p137 i)) (EvL.gives (EvL.of (kids_ev e1 ⟨h1, h2, h3, trivial⟩ hl) fun n f hn => ?_) (EvL.gives lp (EvG.one fun n f => ?_)))
    · simp only [flow_succ, s137, hn, Option.bind_some]; rfl
    · simp only [flow_succ, s137]
      rw [w64_id (by omega) (by omega)]; simp
theorem depth_ev {l : List Node} {x : Node} {k : Fo} (e : l = flat (one x k)) (hG : Good (one x k)) (hl : (l.length : Int) ≤ 100000) : Ev fun n => p85 n l = some ((dep k : Int) + 1) := by
  have h1 := (depth_facts hl (one x k) [] [] (by simp [e]) hG).1
  have h2 := size_ev (pre := []) (post := []) (by simp [e]) hG hl
  have hlen : (l.length : Int) = len (one x k) := by rw [e]; rfl
  have h0 : (len (one x k) : Int) = len k + 1 := by rw [one, len_node]; simp [len, flat]
  refine EvG.ev (EvG.of (h2.and h1) fun n f hn => ?_)
  obtain ⟨a1, a2⟩ := hn
  simp only [List.length_nil, Int.natCast_zero] at a1 a2
  simp only [flow_succ, s85]
  rw [eqB_f (by omega)]
  simp only [cond_false]
  rw [show (0 : Int) = ((0 : Nat) : Int) from rfl] at *
  rw [a1, Option.bind_some, eqB_t hlen.symm]
  simp only [Bool.not_true, cond_false]
  rw [a2, Option.bind_some]

/-! ### length -/
def LFacts (l : List Node) : Nat → Fo → Prop
  | _, .nil => True
  | p, .node x k r => (Ev fun i => p86 i l p = some (min (own x (ticks k)) 4097)) ∧ LFacts l (p + len k + 1) r
theorem ltick_loop {l : List Node} {ks : List Int} (hks : (ks.length : Int) ≤ 100000) (a : Int) : ∀ (F : Fo) (p : Nat) (pre : List Int) (s : Int), ks = pre ++ posn p F → LFacts l p F → Good F → 0 ≤ s →
    EvL (fun i => s86 i (p86 i)) (.L0 l a (min s 4097) ks.length pre.length ks) (.E0 l a (min (s + ticks F) 4097))
  | .nil, p, pre, s, e, _, _, _ => EvL.one fun n f => by
    have := at_end e
    simp only [flow_succ, s86]
    rw [ltB_f (by omega)]
    simp [ticks]
  | .node x k r, p, pre, s, e, hF, hG, hs => by
    obtain ⟨f1, f2⟩ := hF
    obtain ⟨h1, h2, h3, h4⟩ := hG
    have e' : ks = pre ++ (p : Int) :: posn (p + len k + 1) r := e
    have h5 := at_lt e'
    have hk := ticks_pos h3
    have ho : 0 ≤ own x (ticks k) := by
      have := ticks_pos (F := one x k) ⟨h1, h2, h3, trivial⟩
      simpa [one, ticks] using this
    have ih := ltick_loop hks a r (p + len k + 1) (pre ++ [(p : Int)]) (s + own x (ticks k)) (at_next e') f2 h4 (by omega)
    rw [show s + ticks (.node x k r) = s + own x (ticks k) + ticks r by simp only [ticks]; omega]
    refine EvL.trans (EvL.of f1 fun n f hn => ?_) ih
    simp only [flow_succ, s86]
    rw [ltB_t h5, at_get e', hn, at_succ pre (p : Int) (by omega)]
    simp only [cond_true, Option.bind_some]
    rw [if_pos (by omega), if_pos h5, w64_id (by omega) (by omega), cap_add hs ho]
theorem ltick_facts {l : List Node} (hl : (l.length : Int) ≤ 100000) : ∀ (F : Fo) (pre post : List Node), l = pre ++ flat F ++ post → Good F → LFacts l pre.length F
  | .nil, _, _, _, _ => trivial
  | .node x k r, pre, post, e, hG => by
    obtain ⟨h1, h2, h3, h4⟩ := hG
    have e0 : l = pre ++ x :: (flat k ++ flat r ++ post) := by rw [e]; simp [flat]
    have e1 : l = pre ++ flat (one x k) ++ (flat r ++ post) := by rw [e]; simp [flat, one]
    have e2 : l = (pre ++ [x]) ++ flat k ++ (flat r ++ post) := by rw [e]; simp [flat]
    have e3 : l = (pre ++ flat (one x k)) ++ flat r ++ post := by rw [e]; simp [flat, one]
    have n1 : (pre ++ [x]).length = pre.length + 1 := by simp
    have n3 : (pre ++ flat (one x k)).length = pre.length + len k + 1 := by simp [flat, one, len]; omega
    have i1 := ltick_facts hl k (pre ++ [x]) (flat r ++ post) e2 h3
    have i2 := ltick_facts hl r (pre ++ flat (one x k)) post e3 h4
    rw [n1] at i1
    rw [n3] at i2
    refine ⟨Ev.rec (p := fun n m => p86' n m l pre.length) (fun h h' => up86' h h' _ _) ?_, i2⟩
    have hlen : (l.length : Int) = pre.length + len (.node x k r) + post.length := by rw [e]; simp [len]; omega
    rw [len_node] at hlen
    have hck := count_le k
    have hk := ticks_pos h3
    have hb := at_lt e0
    have lp := ltick_loop (l := l) (ks := posn (pre.length + 1) k) (by rw [posn_length]; omega) pre.length k (pre.length + 1) [] 0 rfl i1 h3 (Int.le_refl _)
    rw [Int.zero_add] at lp
    refine EvG.ev (t := fun i => s86 i (p86 i)) (EvL.gives (EvL.of (kids_ev e1 ⟨h1, h2, h3, trivial⟩ hl) fun n f hn => ?_) (EvL.gives lp (EvG.one fun n f => ?_)))
    · simp only [flow_succ, s86, hn, Option.bind_some]; rfl
    · simp only [flow_succ, s86]
      rw [at_get e0, if_pos (by omega), if_pos hb]
      unfold own
      by_cases c3 : x.1 = 3
      · rw [eqB_t c3, if_pos c3]; rfl
      · rw [eqB_f c3, if_neg c3]
        simp only [cond_false]
        by_cases c4 : x.1 = 4
        · have hn1 : 1 ≤ x.2.2 := by unfold Tab.fine at h1; omega
          have := cap_mul_in (s := min (ticks k) 4097) (n := x.2.2) (by omega) (by omega) hn1
          rw [eqB_t c4, if_pos c4]
          simp only [cond_true]
          rw [if_pos (by omega), if_pos hb, w64_id (by omega) (by omega), cap_mul hk hn1]
        · rw [eqB_f c4, if_neg c4]
          simp only [cond_false]
          rw [if_pos (by omega), if_pos hb]
theorem ltick_ev {l : List Node} {x : Node} {k : Fo} (e : l = flat (one x k)) (hG : Good (one x k)) (hl : (l.length : Int) ≤ 100000) : Ev fun n => p36 n l = some (if own x (ticks k) ≤ 4096 then (own x (ticks k), true) else (0, false)) := by
  have h1 := (ltick_facts hl (one x k) [] [] (by simp [e]) hG).1
  have h2 := depth_ev e hG hl
  refine EvG.ev (EvG.of (h2.and h1) fun n f hn => ?_)
  obtain ⟨a1, a2⟩ := hn
  simp only [List.length_nil, Int.natCast_zero] at a2
  simp only [flow_succ, s36, a1, Option.bind_some]
  rw [eqB_f (by omega)]
  simp only [cond_false]
  rw [show (0 : Int) = ((0 : Nat) : Int) from rfl] at *
  rw [a2, Option.bind_some]
  split
  · rw [ltB_f (by omega), show min (own x (ticks k)) 4097 = own x (ticks k) by omega]; rfl
  · rw [ltB_t (by omega)]; rfl

/-! ### Right -/
def rightS (x : Node) (k : Fo) : Int := if 128 < len (one x k) then 3 else if 16 < dep k + 1 then 14 else if own x (ticks k) ≤ 4096 then 0 else 18
theorem right_ev {l : List Node} {x : Node} {k : Fo} (e : l = flat (one x k)) (hG : Good (one x k)) (hl : (l.length : Int) ≤ 100000) : Ev fun n => p37 n l = some (rightS x k) := by
  have hlen : (l.length : Int) = len (one x k) := by rw [e]; rfl
  refine EvG.ev (EvG.of ((depth_ev e hG hl).and (ltick_ev e hG hl)) fun n f hn => ?_)
  obtain ⟨a1, a2⟩ := hn
  simp only [flow_succ, s37, a1, a2, Option.bind_some]
  unfold rightS
  by_cases c1 : 128 < len (one x k)
  · rw [if_pos c1, ltB_t (by omega)]; rfl
  rw [if_neg c1, ltB_f (by omega), eqB_f (by omega)]
  simp only [cond_false]
  by_cases c2 : 16 < dep k + 1
  · rw [if_pos c2, ltB_t (by omega)]; rfl
  rw [if_neg c2, ltB_f (by omega)]
  simp only [cond_false]
  by_cases c3 : own x (ticks k) ≤ 4096
  · rw [if_pos c3, if_pos c3]; rfl
  · rw [if_neg c3, if_neg c3]; rfl
end Go.Am.Tab
