/- Chapter 4, without the document's answer: CursorAgain, CursorTicks give true, whatever the input. -/
import Derived.Test.YtebmpngnbnigcaaCurWalk
import Derived.Test.YtebmpngnbnigcaaTabTape
import Derived.Test.YtebmpngnbnigcaaG22
import Derived.Test.YtebmpngnbnigcaaG23
set_option linter.unusedVariables false
set_option linter.unusedSimpArgs false
namespace Go.Am.Tab
open Fr

theorem curAt_fst {l : List Node} {c : Cur} {t : Int} {R : List Run} (h : CurAt l c t R) : c.1 = l ∧ c.2.2.2.2 = t := by
  rcases h with ⟨_, rfl⟩ | ⟨_, _, _, _, _, _, _, _, _, _, _, _, _, rfl⟩ <;> exact ⟨rfl, rfl⟩
theorem known4 (n : Nat) : p34 n = some true := rfl
/-- Whose a tick is. -/
def atR : List Run → Int → Int
  | [], _ => -1
  | r :: R, t => if t < r.2 then r.1 else atR R (t - r.2)
theorem atR_end : ∀ {R : List Run} {t : Int}, total R ≤ t → Fr.Ok R → atR R t = -1
  | [], _, _, _ => rfl
  | r :: R, t, h, ho => by
    have := total_nonneg ho.tail
    simp only [total] at h
    unfold atR
    rw [if_neg (by omega), atR_end (by omega) ho.tail]
/-- What is left behind a tick. -/
def tail1 : List Run → List Run
  | [] => []
  | r :: R => if r.2 = 1 then R else (r.1, r.2 - 1) :: R
theorem tail1_cons (r : Run) (R : List Run) : tail1 (r :: R) = if r.2 = 1 then R else (r.1, r.2 - 1) :: R := rfl
theorem atR_cons (r : Run) (R : List Run) (t : Int) : atR (r :: R) t = if t < r.2 then r.1 else atR R (t - r.2) := by
  conv => lhs; unfold atR
theorem tail1_ok {r : Run} {R : List Run} (h : Fr.Ok (r :: R)) : Fr.Ok (tail1 (r :: R)) ∧ total (tail1 (r :: R)) = total (r :: R) - 1 := by
  have h1 := h.head
  rw [tail1_cons]
  split
  · exact ⟨h.tail, by simp only [total]; omega⟩
  · exact ⟨fun x hx => by
      rcases List.mem_cons.1 hx with rfl | hx
      · simp only; omega
      · exact h.tail x hx, by simp only [total]; omega⟩
theorem tail1_at {r : Run} {R : List Run} {j : Int} (hj : 0 ≤ j) : atR (tail1 (r :: R)) j = atR (r :: R) (j + 1) := by
  rw [tail1_cons]
  split
  · rename_i h
    rw [atR_cons, if_neg (by omega), h, show j + 1 - 1 = j by omega]
  · rw [atR_cons, atR_cons]
    simp only
    by_cases c : j < r.2 - 1
    · rw [if_pos c, if_pos (by omega)]
    · rw [if_neg c, if_neg (by omega), show j - (r.2 - 1) = j + 1 - r.2 by omega]

/-! ### Part -/
theorem part_loop {l : List Node} (hl : (l.length : Int) ≤ 100000) (hN : ∀ y, y ∈ l → y.2.2 ≤ 1000000) : ∀ (R : List Run) (t u : Int) (c : Cur), CurAt l c t R → Fr.Ok R → 0 ≤ t → t + total R ≤ 1000000 → 0 ≤ u → u ≤ 9223372036854775807 →
    EvG s33 (.L0 u c.1 c.2.1 c.2.2.1 c.2.2.2.1 c.2.2.2.2) (atR R u)
  | [], t, u, c, h, _, _, _, _, _ => EvG.of (cnext_end h) fun n f hn => by
    simp only [flow_succ, s33]
    rw [show (c.1, c.2.1, c.2.2.1, c.2.2.2.1, c.2.2.2.2) = c from rfl, hn, Option.bind_some]; rfl
  | r :: R, t, u, c, h, ho, ht, ht2, hu, hu2 => by
    have h1 := ho.head
    have h2 := total_nonneg ho.tail
    simp only [total] at ht2
    obtain ⟨c', k1, k2⟩ := cnext_ev hl hN h ht (by omega)
    unfold atR
    by_cases hc : u < r.2
    · rw [if_pos hc]
      refine EvG.of k2 fun n f hn => ?_
      simp only [flow_succ, s33]
      rw [show (c.1, c.2.1, c.2.2.1, c.2.2.2.1, c.2.2.2.2) = c from rfl, hn, Option.bind_some]
      simp only [Bool.not_true, cond_false]
      rw [ltB_t hc]; rfl
    · rw [if_neg hc]
      refine EvL.gives (EvL.of k2 fun n f hn => ?_) (part_loop hl hN R (t + r.2) (u - r.2) c' k1 ho.tail (by omega) (by omega) (by omega) (by omega))
      simp only [flow_succ, s33]
      rw [show (c.1, c.2.1, c.2.2.1, c.2.2.2.1, c.2.2.2.2) = c from rfl, hn, Option.bind_some]
      simp only [Bool.not_true, cond_false]
      rw [ltB_f (by omega), w64_id (by omega) (by omega)]; rfl
theorem right_ticks {x : Node} {k : Fo} (h : rightS x k = 0) : own x (ticks k) ≤ 4096 := by
  unfold rightS at h
  split at h
  · cases h
  · split at h
    · cases h
    · split at h
      · assumption
      · cases h
/-- Part of a table that is right. -/
theorem cpart_ev {l : List Node} {x : Node} {k : Fo} (e : l = flat (one x k)) (hG : Good (one x k)) (hl : (l.length : Int) ≤ 100000) (hr : rightS x k = 0) {u : Int} (hu : u ≤ 9223372036854775807) : Ev fun n => p33 n l u = some (if u < 0 then -1 else atR (lv (one x k)) u) := by
  obtain ⟨hN, c, h1, h2⟩ := (new_ev e hG hl).2 hr
  obtain ⟨o1, o2⟩ := lv_ok hG
  have o2 : total (lv (one x k)) = own x (ticks k) := by rw [o2]; simp [one, ticks]
  have ht := right_ticks hr
  by_cases hc : u < 0
  · rw [if_pos hc]
    refine EvG.ev (EvG.of h2 fun n f hn => ?_)
    simp only [flow_succ, s33, hn, Option.bind_some, optK]
    rw [ltB_t hc]; rfl
  · rw [if_neg hc]
    refine EvG.ev (EvL.gives (EvL.of h2 fun n f hn => ?_) (part_loop hl hN (lv (one x k)) 0 u c h1 o1 (Int.le_refl _) (by omega) (by omega) hu))
    simp only [flow_succ, s33, hn, Option.bind_some, optK]
    rw [ltB_f (by omega)]; rfl

/-! ### CursorAgain -/
theorem again_ticks {l : List Node} (hl : (l.length : Int) ≤ 100000) (hN : ∀ y, y ∈ l → y.2.2 ≤ 1000000) (a W : Int) (hW : W ≤ 50) (hw : Ev fun n => p35 n a 0 50 = some W) : ∀ (m : Nat) (i t : Int) (c : Cur) (R : List Run), CurAt l c t R → 0 ≤ t → t ≤ i → 0 ≤ i → (i + m = W ∨ (m = 0 ∧ W ≤ i)) → 
    ∃ c' t' R', CurAt l c' t' R' ∧ EvL s7 (.L0 a i l c.1 c.2.1 c.2.2.1 c.2.2.2.1 c.2.2.2.2) (.E0 l c'.1 c'.2.1 c'.2.2.1 c'.2.2.2.1 c'.2.2.2.2)
  | 0, i, t, c, R, h, ht, hti, hi, hm => ⟨c, t, R, h, EvL.of hw fun n f hn => by
    simp only [flow_succ, s7, hn, Option.bind_some]
    rw [ltB_f (by omega)]; rfl⟩
  | m + 1, i, t, c, R, h, ht, hti, hi, hm => by
    have hiW : i < W := by omega
    match R, h with
    | [], h =>
      obtain ⟨c', t', R', k1, k2⟩ := again_ticks hl hN a W hW hw m (i + 1) t c [] h ht (by omega) (by omega) (by omega)
      refine ⟨c', t', R', k1, EvL.trans (EvL.of (hw.and (ctick_end h)) fun n f hn => ?_) k2⟩
      simp only [flow_succ, s7, hn.1, Option.bind_some]
      rw [ltB_t hiW, show (c.1, c.2.1, c.2.2.1, c.2.2.2.1, c.2.2.2.2) = c from rfl, hn.2, Option.bind_some, w64_id (by omega) (by omega)]; rfl
    | r :: R, h =>
      obtain ⟨c1, h1, h2⟩ := ctick_ev hl hN h ht (by omega)
      obtain ⟨c', t', R', k1, k2⟩ := again_ticks hl hN a W hW hw m (i + 1) (t + 1) c1 _ h1 (by omega) (by omega) (by omega) (by omega)
      refine ⟨c', t', R', k1, EvL.trans (EvL.of (hw.and h2) fun n f hn => ?_) k2⟩
      simp only [flow_succ, s7, hn.1, Option.bind_some]
      rw [ltB_t hiW, show (c.1, c.2.1, c.2.2.1, c.2.2.2.1, c.2.2.2.2) = c from rfl, hn.2, Option.bind_some, w64_id (by omega) (by omega)]; rfl
theorem again_sum {l : List Node} (hl : (l.length : Int) ≤ 100000) (hN : ∀ y, y ∈ l → y.2.2 ≤ 1000000) (T : Int) (hT : T ≤ 4096) (h36 : Ev fun n => p36 n l = some (T, true)) : ∀ (R : List Run) (t i : Int) (c : Cur), CurAt l c t R → Fr.Ok R → 0 ≤ t → t + total R = T → 0 ≤ i → i + R.length ≤ 4096 →
    EvG s7 (.L2 t i l c.1 c.2.1 c.2.2.1 c.2.2.2.1 c.2.2.2.2) true
  | [], t, i, c, h, _, ht, ht2, hi, hi2 => EvG.of ((cnext_end h).and (h36.and (cat_ev h))) fun n f hn => by
    simp only [total] at ht2
    simp only [List.length_nil] at hi2
    simp only [flow_succ, s7]
    rw [leB_t (by omega), show (c.1, c.2.1, c.2.2.1, c.2.2.2.1, c.2.2.2.2) = c from rfl, hn.1]
    simp only [cond_true, Option.bind_some, Bool.not_false]
    rw [hn.2.1, Option.bind_some]
    simp only [cond_true]
    rw [eqB_t (by omega), hn.2.2]
    simp only [cond_true, Option.bind_some]
    rw [eqB_t (by omega)]; rfl
  | r :: R, t, i, c, h, ho, ht, ht2, hi, hi2 => by
    have h1 := ho.head
    have h2 := total_nonneg ho.tail
    simp only [total] at ht2
    simp only [List.length_cons] at hi2
    obtain ⟨c', k1, k2⟩ := cnext_ev hl hN h ht (by omega)
    refine EvL.gives (EvL.of k2 fun n f hn => ?_) (again_sum hl hN T hT h36 R (t + r.2) (i + 1) c' k1 ho.tail (by omega) (by omega) (by omega) (by omega))
    simp only [flow_succ, s7]
    rw [leB_t (by omega), show (c.1, c.2.1, c.2.2.1, c.2.2.2.1, c.2.2.2.2) = c from rfl, hn]
    simp only [cond_true, Option.bind_some, Bool.not_true, cond_false]
    rw [w64_id (x := t + r.2) (by omega) (by omega), w64_id (x := i + 1) (by omega) (by omega)]
/-- A table of a tape. -/
theorem table4 (t : List Int) (ht : (t.length : Int) ≤ 9223372036854775807) (d : Int) : ∃ y x k q, Good (one x k) ∧ ((flat (one x k)).length : Int) ≤ 100000 ∧ (Ev fun n => p35 n d 0 4 = some y) ∧ Ev fun n => p31 n 4 y (t, 0) = some (flat (one x k), (t, q)) := by
  obtain ⟨y, y1, y2, _, hy⟩ := within_ev d 4 (by omega) (by omega)
  obtain ⟨x, k, q, ⟨g1, g2, g3⟩, _, h⟩ := table_ev (P := 4) (by omega) (by omega) t y.toNat (by omega) 0 ⟨Int.le_refl _, by simp only; omega, ht⟩
  refine ⟨y, x, k, q, g1, ?_, hy, ?_⟩
  · have : LB y.toNat ≤ 100000 := by
      have hle : y.toNat ≤ 4 := by omega
      match y.toNat, hle with
      | 0, _ => decide
      | 1, _ => decide
      | 2, _ => decide
      | 3, _ => decide
      | 4, _ => decide
    unfold len at g3; omega
  · rw [show ((y.toNat : Nat) : Int) = y by omega] at h; exact h
theorem again_ev (t : List Int) (ht : (t.length : Int) ≤ 9223372036854775807) (d a : Int) : Ev fun n => p7 n t d a = some true := by
  obtain ⟨y, x, k, q, hG, hl, h35, h31⟩ := table4 t ht d
  generalize e : flat (one x k) = l at *
  have e := e.symm
  obtain ⟨W, W1, W2, _, hw⟩ := within_ev a 50 (by omega) (by omega)
  by_cases hr : rightS x k = 0
  · obtain ⟨hN, c, h1, h2⟩ := (new_ev e hG hl).2 hr
    have hT := right_ticks hr
    obtain ⟨o1, o2⟩ := lv_ok hG
    have o2 : total (lv (one x k)) = own x (ticks k) := by rw [o2]; simp [one, ticks]
    have o3 := length_le_total o1
    have h36 := ltick_ev e hG hl
    rw [if_pos hT] at h36
    obtain ⟨c', t', R', k1, k2⟩ := again_ticks hl hN a W W2 hw W.toNat 0 0 c _ h1 (Int.le_refl _) (Int.le_refl _) (Int.le_refl _) (by omega)
    have hc' := (curAt_fst k1).1
    obtain ⟨c0, r1, r2⟩ := reset_ev e hG hl hN c'.2.1 c'.2.2.1 c'.2.2.2.1 c'.2.2.2.2
    have s := again_sum hl hN (own x (ticks k)) hT h36 _ 0 0 c0 r1 o1 (Int.le_refl _) (by omega) (Int.le_refl _) (by omega)
    refine EvG.ev (EvL.gives (EvL.of (h35.and (h31.and h2)) fun n f hn => ?_) (EvL.gives k2 (EvL.gives (EvL.of r2 fun n f hn => ?_) s)))
    · simp only [flow_succ, s7, hn.1, hn.2.1, hn.2.2, Option.bind_some, optK]
    · simp only [flow_succ, s7]
      rw [hc', hn, Option.bind_some]
  · refine EvG.ev (EvG.of (h35.and (h31.and (((new_ev e hG hl).1 hr).and (right_ev e hG hl)))) fun n f hn => ?_)
    obtain ⟨a1, a2, a3, a4⟩ := hn
    simp only [flow_succ, s7, a1, a2, a3, a4, Option.bind_some, optK]
    rw [eqB_f hr]; rfl

/-! ### CursorTicks -/
theorem ticks_loop {l : List Node} (hl : (l.length : Int) ≤ 100000) (hN : ∀ y, y ∈ l → y.2.2 ≤ 1000000) (V : List Run) (T : Int) (hT : T ≤ 4096) (h33 : ∀ u, u ≤ 1000000 → Ev fun n => p33 n l u = some (if u < 0 then -1 else atR V u)) : ∀ (m : Nat) (i : Int) (c : Cur) (R : List Run), CurAt l c i R → Fr.Ok R → 0 ≤ i → i + total R = T → (∀ j, 0 ≤ j → atR R j = atR V (i + j)) → R.length + total R ≤ m →
    EvL s8 (.L0 T true i l c.1 c.2.1 c.2.2.1 c.2.2.2.1 c.2.2.2.2) (.E0 T true l)
  | m, i, c, [], h, _, hi, hiT, _, _ => EvL.one fun n f => by
    simp only [total] at hiT
    simp only [flow_succ, s8]
    rw [ltB_f (by omega)]; rfl
  | 0, i, c, r :: R, h, ho, hi, hiT, hat, hm => by
    have := total_nonneg ho
    simp only [List.length_cons] at hm; omega
  | m + 1, i, c, r :: R, h, ho, hi, hiT, hat, hm => by
    have h1 := ho.head
    have h2 := total_nonneg ho.tail
    obtain ⟨c', k1, k2⟩ := ctick_ev hl hN h hi (by simp only [total] at hiT; omega)
    obtain ⟨t1, t2⟩ := tail1_ok ho
    have e0 := hat 0 (Int.le_refl _)
    rw [show atR (r :: R) 0 = r.1 by unfold atR; rw [if_pos (by omega)], Int.add_zero] at e0
    have hlen : (tail1 (r :: R)).length ≤ (r :: R).length := by rw [tail1_cons]; split <;> simp
    have ih := ticks_loop hl hN V T hT h33 m (i + 1) c' (tail1 (r :: R)) k1 t1 (by omega) (by omega) (fun j hj => by rw [tail1_at hj, hat (j + 1) (by omega), show i + (j + 1) = i + 1 + j by omega]) (by omega)
    have hiT' : i < T := by simp only [total] at hiT; omega
    by_cases c200 : i < 200
    · refine EvL.trans (EvL.of (k2.and ((h33 i (by omega)).and (cat_ev k1))) fun n f hn => ?_) ih
      obtain ⟨a1, a2, a3⟩ := hn
      simp only [flow_succ, s8]
      rw [ltB_t hiT', ltB_t c200, show (c.1, c.2.1, c.2.2.1, c.2.2.2.1, c.2.2.2.2) = c from rfl, a1]
      simp only [cond_true, Option.bind_some, Bool.not_true, cond_false]
      rw [a2, Option.bind_some, if_neg (by omega), eqB_t e0]
      simp only [Bool.not_true, cond_false]
      rw [a3, Option.bind_some, w64_id (x := i + 1) (by omega) (by omega), eqB_t rfl]; rfl
    · refine EvL.one fun n f => ?_
      simp only [flow_succ, s8]
      rw [ltB_t hiT', ltB_f (by omega)]; rfl
theorem ticks_ev (t : List Int) (ht : (t.length : Int) ≤ 9223372036854775807) (d : Int) : Ev fun n => p8 n t d = some true := by
  obtain ⟨y, x, k, q, hG, hl, h35, h31⟩ := table4 t ht d
  generalize e : flat (one x k) = l at *
  have e := e.symm
  by_cases hr : rightS x k = 0
  · obtain ⟨hN, c, h1, h2⟩ := (new_ev e hG hl).2 hr
    have hT := right_ticks hr
    obtain ⟨o1, o2⟩ := lv_ok hG
    have o2 : total (lv (one x k)) = own x (ticks k) := by rw [o2]; simp [one, ticks]
    have o3 := length_le_total o1
    have h0 := total_nonneg o1
    have h36 := ltick_ev e hG hl
    rw [if_pos hT] at h36
    have h33 : ∀ u : Int, u ≤ 1000000 → Ev fun n => p33 n l u = some (if u < 0 then -1 else atR (lv (one x k)) u) := fun u hu => cpart_ev e hG hl hr (by omega)
    have lp := ticks_loop hl hN (lv (one x k)) (own x (ticks k)) hT h33 100000 0 c _ h1 o1 (Int.le_refl _) (by omega) (fun j _ => by rw [Int.zero_add]) (by omega)
    refine EvG.ev (EvL.gives (EvL.of (h35.and (h31.and (h2.and h36))) fun n f hn => ?_) (EvL.gives lp (EvG.of ((h33 (own x (ticks k)) (by omega)).and (h33 (-1) (by omega))) fun n f hn => ?_)))
    · obtain ⟨a1, a2, a3, a4⟩ := hn
      simp only [flow_succ, s8, a1, a2, a3, a4, Option.bind_some, optK]
    · obtain ⟨a1, a2⟩ := hn
      rw [if_neg (by omega), atR_end (by omega) o1] at a1
      rw [if_pos (by omega)] at a2
      simp only [flow_succ, s8]
      simp only [cond_true]
      rw [a1, Option.bind_some, eqB_t rfl, a2]; rfl
  · refine EvG.ev (EvG.of (h35.and (h31.and (((new_ev e hG hl).1 hr).and ((ltick_ev e hG hl).and (right_ev e hG hl))))) fun n f hn => ?_)
    obtain ⟨a1, a2, a3, a4, a5⟩ := hn
    simp only [flow_succ, s8, a1, a2, a3, a4, a5, Option.bind_some, optK]
    rw [eqB_f hr]; rfl
end Go.Am.Tab
