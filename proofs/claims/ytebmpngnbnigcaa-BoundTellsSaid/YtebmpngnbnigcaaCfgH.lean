/- Walks: configurations of a tape. -/
import Derived.Test.YtebmpngnbnigcaaCfgG
set_option linter.unusedVariables false
set_option linter.unusedSimpArgs false
namespace Go.Am.Tab
open Fr
theorem cfg_procs (N i : Int) (A : List PartT) (C : List ChanT) (X : List (List Node)) (a : List PartT) (b : List ChanT) (c : List (List Node)) (nm : List UInt8) (B D : Int) (s st : Bool) (h : List Int) (T : List Int) : ∀ (m : Nat) (pr : List (Int × Int)) (p : Int), TOk (T, p) → m + pr.length ≤ 1000 →
    ∃ pr' p', TOk (T, p') ∧ EvL s25 (.L2 N i ((m : Int) - 1) A C X a b c nm B D s st pr h T p) (.E2 N i A C X a b c nm B D s st pr' h T p')
  | 0, pr, p, ht, hm => ⟨pr, p, ht, EvL.one fun n f => by
    simp only [flow_succ, s25]
    rw [leB_f (by omega), cond_false]⟩
  | m + 1, pr, p, ht, hm => by
    obtain ⟨v, q, n1, n2, n3, n4⟩ := next_ev ht (a := 6) (by omega)
    obtain ⟨u, q2, u1, u2, u3, u4⟩ := next_ev n3 (a := 4) (by omega)
    obtain ⟨pr', p', h1, h2⟩ := cfg_procs N i A C X a b c nm B D s st h T m (pr ++ [(w64 (4 * v), u)]) q2 u3 (by simp; omega)
    refine ⟨pr', p', h1, EvL.trans (EvL.of (n4.and u4) fun n f hn => ?_) h2⟩
    simp only [flow_succ, s25]
    rw [leB_t (by omega), cond_true, hn.1, Option.bind_some, hn.2, Option.bind_some, if_pos (by simp only [List.length_cons, List.length_nil]; omega), w64_id (x := ((m + 1 : Nat) : Int) - 1 - 1) (by omega) (by omega), show ((m + 1 : Nat) : Int) - 1 - 1 = (m : Int) - 1 by omega]
theorem cfg_health (N i : Int) (A : List PartT) (C : List ChanT) (X : List (List Node)) (a : List PartT) (b : List ChanT) (c : List (List Node)) (nm : List UInt8) (B D : Int) (s st : Bool) (pr : List (Int × Int)) (h : List Int) (T : List Int) (p : Int) (ht : TOk (T, p)) :
    ∃ h' p', TOk (T, p') ∧ EvL s25 (.L4 N i 0 A C X a b c nm B D s st pr h T p) (.E4 N i A C X a b c nm B D s st pr h' T p') := by
  obtain ⟨z, h1, hl⟩ := EvL.range (t := s25) (σ := List Int × Int) (fun j z => .L4 N i ((j : Nat) : Int) A C X a b c nm B D s st pr z.1 T z.2) (fun _ z => TOk (T, z.2)) 5 (by
    rintro j z hj h1
    obtain ⟨v, q, n1, n2, n3, n4⟩ := next_ev h1 (a := 5) (by omega)
    refine ⟨(z.1.set (Int.toNat (j : Int)) (List.getD [(0 : Int), (1 : Int), (0 : Int), (2 : Int), (1 : Int)] (Int.toNat v) (0 : Int)), q), n3, EvL.of n4 fun n f hn => ?_⟩
    simp only [flow_succ, s25]
    rw [ltB_t (by omega), cond_true, hn, Option.bind_some, if_pos n1, if_pos (by simp only [List.length_cons, List.length_nil]; omega), if_pos (by omega), if_pos (by omega), ix_succ j (by omega)]) 5 0 (h, p) rfl ht
  refine ⟨z.1, z.2, h1, hl.trans (EvL.one fun n f => ?_)⟩
  simp only [flow_succ, s25]
  rw [ltB_f (by omega), cond_false]
def PartsNew (A : List PartT) : Prop := NamesOk A ∧ ∀ x ∈ A, x.2.1 = 0
def ChansNew (C : List ChanT) : Prop := ∀ x ∈ C, x.2.2.2.2.2 = 0
theorem cfg_part (N : Int) (hN : N ≤ 4) (A : List PartT) (C : List ChanT) (X : List (List Node)) (a : List PartT) (b : List ChanT) (c : List (List Node)) (T : List Int) (p : Int) (ht : TOk (T, p)) (i : Nat) (hi : (i : Int) < N) (ha : PartsNew a) (hl : a.length = i) :
    ∃ a' p', PartsNew a' ∧ a'.length = i + 1 ∧ TOk (T, p') ∧ EvL s25 (.L0 N i A C X a b c T p) (.L0 N ((i + 1 : Nat) : Int) A C X a' b c T p') := by
  obtain ⟨v1, q1, a1, a2, a3, a4⟩ := next_ev ht (a := 5) (by omega)
  obtain ⟨v2, q2, b1, b2, b3, b4⟩ := next_ev a3 (a := 8) (by omega)
  obtain ⟨v3, q3, c1, c2, c3, c4⟩ := next_ev b3 (a := 2) (by omega)
  have hw : (leB 0 (IntKind.i32.wrap (w64 (97 + (i : Int)))) && ltB (IntKind.i32.wrap (w64 (97 + (i : Int)))) 128) = true := by
    have : i = 0 ∨ i = 1 ∨ i = 2 ∨ i = 3 := by omega
    rcases this with rfl | rfl | rfl | rfl <;> decide
  obtain ⟨pr, q4, d1, d2⟩ := cfg_procs N i A C X a b c ([112] ++ [UInt8.ofNat (Int.toNat (IntKind.i32.wrap (w64 (97 + (i : Int)))))]) 0 0 (eqB v1 0) (eqB v2 0) (List.replicate 5 (0 : Int)) T (v3 + 1).toNat [] q3 c3 (by simp; omega)
  rw [show (((v3 + 1).toNat : Nat) : Int) - 1 = v3 by omega] at d2
  obtain ⟨h', q5, e1, e2⟩ := cfg_health N i A C X a b c ([112] ++ [UInt8.ofNat (Int.toNat (IntKind.i32.wrap (w64 (97 + (i : Int)))))]) 0 0 (eqB v1 0) (eqB v2 0) pr (List.replicate 5 (0 : Int)) T q4 d1
  refine ⟨a ++ [(([112] ++ [UInt8.ofNat (Int.toNat (IntKind.i32.wrap (w64 (97 + (i : Int)))))]), (0, (0, (eqB v1 0, (eqB v2 0, (pr, h'))))))], q5, ⟨fun x hx => ?_, fun x hx => ?_⟩, by simp [hl], e1, ?_⟩
  · rcases List.mem_append.1 hx with hx | hx
    · exact ha.1 x hx
    · rw [List.mem_singleton] at hx; subst hx; simp
  · rcases List.mem_append.1 hx with hx | hx
    · exact ha.2 x hx
    · rw [List.mem_singleton] at hx; subst hx; rfl
  · refine EvL.trans (EvL.one (q := .Q6 N i A C X a b c T p) fun n f => ?_) (EvL.trans (EvL.of (a4.and (b4.and c4)) fun n f hn => ?_) (EvL.trans d2 (EvL.trans (EvL.one fun n f => ?_) (EvL.trans e2 (EvL.one fun n f => ?_)))))
    · simp only [flow_succ, s25]
      rw [ltB_t hi, cond_true]
    · simp only [flow_succ, s25]
      rw [hw, cond_true, hn.1, Option.bind_some, hn.2.1, Option.bind_some, hn.2.2, Option.bind_some]
    · simp only [flow_succ, s25]
    · simp only [flow_succ, s25]
      rw [if_pos (by simp only [List.length_cons, List.length_nil]; omega), ix_succ i (by omega)]
theorem chans_app {b : List ChanT} {x : ChanT} (h : ChansNew b) (hx : x.2.2.2.2.2 = 0) : ChansNew (b ++ [x]) := fun y hy => by
  rcases List.mem_append.1 hy with hy | hy
  · exact h y hy
  · rw [List.mem_singleton] at hy; subst hy; exact hx
theorem cfg_chans (N : Int) (hN1 : 1 ≤ N) (hN : N ≤ 4) (A : List PartT) (C : List ChanT) (X : List (List Node)) (a : List PartT) (c : List (List Node)) (T : List Int) : ∀ (m : Nat) (b : List ChanT) (p : Int), TOk (T, p) → m + b.length ≤ 100 → ChansNew b →
    ∃ b' p', ChansNew b' ∧ b'.length ≤ m + b.length ∧ TOk (T, p') ∧ EvL s25 (.L6 N m A C X a b c T p) (.E6 N A C X a b' c T p')
  | 0, b, p, ht, hm, hb => ⟨b, p, hb, by omega, ht, EvL.one fun n f => by
    simp only [flow_succ, s25]
    rw [ltB_f (by omega), cond_false]⟩
  | m + 1, b, p, ht, hm, hb => by
    by_cases c0 : 1 < N
    · obtain ⟨v1, q1, a1, a2, a3, a4⟩ := next_ev ht hN1
      obtain ⟨v2, q2, b1, b2, b3, b4⟩ := next_ev a3 (a := N - 1) (by omega)
      obtain ⟨v3, q3, c1, c2, c3, c4⟩ := next_ev b3 (a := 2) (by omega)
      obtain ⟨v4, q4, d1, d2, d3, d4⟩ := next_ev c3 (a := 3) (by omega)
      obtain ⟨v5, q5, e1, e2, e3, e4⟩ := next_ev d3 (a := 3) (by omega)
      have hd : ((m + 1 : Nat) : Int) - 1 = (m : Int) := by omega
      by_cases cq : v3 = 0
      · obtain ⟨b', p', h1, h2, h3, h4⟩ := cfg_chans N hN1 hN A C X a c T m (b ++ [(v1, (Int.tmod (w64 (w64 (v1 + 1) + v2)) N, (eqB v3 0, (w64 (1 + v5), (List.getD [(4294967295 : Int), (200 : Int), (3 : Int)] (Int.toNat v4) (0 : Int), (0 : Int))))))]) q5 e3 (by simp; omega) (chans_app hb rfl)
        refine ⟨b', p', h1, by simp at h2; omega, h3, EvL.trans (EvL.of (a4.and (b4.and (c4.and (d4.and e4)))) fun n f hn => ?_) h4⟩
        obtain ⟨x1, x2, x3, x4, x5⟩ := hn
        simp only [flow_succ, s25]
        rw [ltB_t (by omega), cond_true, ltB_t c0, cond_true, x1, Option.bind_some, w64_id (x := N - 1) (by omega) (by omega), x2, Option.bind_some, if_neg (by omega), x3, Option.bind_some, x4, Option.bind_some, if_pos d1, if_pos (by simp only [List.length_cons, List.length_nil]; omega), eqB_t cq, cond_true, x5, Option.bind_some, if_pos (by simp only [List.length_cons, List.length_nil]; omega), w64_id (x := ((m + 1 : Nat) : Int) - 1) (by omega) (by omega), hd]
      · obtain ⟨b', p', h1, h2, h3, h4⟩ := cfg_chans N hN1 hN A C X a c T m (b ++ [(v1, (Int.tmod (w64 (w64 (v1 + 1) + v2)) N, (eqB v3 0, ((0 : Int), (List.getD [(4294967295 : Int), (200 : Int), (3 : Int)] (Int.toNat v4) (0 : Int), (0 : Int))))))]) q4 d3 (by simp; omega) (chans_app hb rfl)
        refine ⟨b', p', h1, by simp at h2; omega, h3, EvL.trans (EvL.of (a4.and (b4.and (c4.and d4))) fun n f hn => ?_) h4⟩
        obtain ⟨x1, x2, x3, x4⟩ := hn
        simp only [flow_succ, s25]
        rw [ltB_t (by omega), cond_true, ltB_t c0, cond_true, x1, Option.bind_some, w64_id (x := N - 1) (by omega) (by omega), x2, Option.bind_some, if_neg (by omega), x3, Option.bind_some, x4, Option.bind_some, if_pos d1, if_pos (by simp only [List.length_cons, List.length_nil]; omega), eqB_f cq, cond_false, if_pos (by simp only [List.length_cons, List.length_nil]; omega), w64_id (x := ((m + 1 : Nat) : Int) - 1) (by omega) (by omega), hd]
    · refine ⟨b, p, hb, by omega, ht, EvL.one fun n f => ?_⟩
      simp only [flow_succ, s25]
      rw [ltB_t (by omega), cond_true, ltB_f (by omega), cond_false]
theorem cfg_tables (N : Int) (hN1 : 1 ≤ N) (hN : N ≤ 4) (A : List PartT) (C : List ChanT) (X : List (List Node)) (a : List PartT) (b : List ChanT) (T : List Int) : ∀ (m : Nat) (c : List (List Node)) (p : Int), TOk (T, p) → m + c.length ≤ 100 → FramesOk N c →
    ∃ c' p', FramesOk N c' ∧ c'.length = m + c.length ∧ TOk (T, p') ∧ EvL s25 (.L8 N ((m : Int) - 1) A C X a b c T p) (.E8 A C X a b c' T p')
  | 0, c, p, ht, hm, hc => ⟨c, p, hc, by omega, ht, EvL.one fun n f => by
    simp only [flow_succ, s25]
    rw [leB_f (by omega), cond_false]⟩
  | m + 1, c, p, ht, hm, hc => by
    obtain ⟨x, k, q, hf, hq, he⟩ := frame_ev hN1 (by omega) T p ht
    obtain ⟨c', p', h1, h2, h3, h4⟩ := cfg_tables N hN1 hN A C X a b T m (c ++ [flat (one x k)]) q hq (by simp; omega) (fun t ht => by
      rcases List.mem_append.1 ht with ht | ht
      · exact hc t ht
      · rw [List.mem_singleton] at ht; subst ht; exact ⟨x, k, rfl, hf⟩)
    refine ⟨c', p', h1, by simp at h2; omega, h3, EvL.trans (EvL.of he fun n f hn => ?_) h4⟩
    simp only [flow_succ, s25]
    rw [leB_t (by omega), cond_true, hn, Option.bind_some, if_pos (by simp only [List.length_cons, List.length_nil]; omega), w64_id (x := ((m + 1 : Nat) : Int) - 1 - 1) (by omega) (by omega), show ((m + 1 : Nat) : Int) - 1 - 1 = (m : Int) - 1 by omega]
/-- A configuration of a tape. -/
theorem config_ev (T : List Int) (p : Int) (ht : TOk (T, p)) : ∃ (N : Int) (A : List PartT) (C : List ChanT) (X : List (List Node)) (L : List (List Run)) (p' : Int),
    1 ≤ N ∧ N ≤ 4 ∧ (A.length : Int) = N ∧ (C.length : Int) ≤ 3 ∧ FramesOk N X ∧ X ≠ [] ∧ (X.length : Int) ≤ 2 ∧ ShortL L ∧ RunsOf X L ∧ PartsInL L A ∧ ChansIn L C ∧ NamesOk A ∧ TOk (T, p') ∧ Ev fun n => p25 n (T, p) = some ((A, (C, X)), (T, p')) := by
  obtain ⟨v, q, n1, n2, n3, n4⟩ := next_ev ht (a := 4) (by omega)
  obtain ⟨z, ⟨h1, h2, h3⟩, hl⟩ := EvL.range (t := s25) (σ := List PartT × Int) (fun i z => .L0 (1 + v) ((i : Nat) : Int) [] [] [] z.1 [] [] T z.2) (fun i z => PartsNew z.1 ∧ z.1.length = i ∧ TOk (T, z.2)) (1 + v).toNat (by
    rintro i z hi ⟨h1, h2, h3⟩
    obtain ⟨a', p', g1, g2, g3, g4⟩ := cfg_part (1 + v) (by omega) [] [] [] z.1 [] [] T z.2 h3 i (by omega) h1 h2
    exact ⟨(a', p'), ⟨g1, g2, g3⟩, g4⟩) (1 + v).toNat 0 ([], q) (by omega) ⟨⟨(fun x hx => by cases hx), (fun x hx => by cases hx)⟩, rfl, n3⟩
  obtain ⟨w, q2, w1, w2, w3, w4⟩ := next_ev h3 (a := 4) (by omega)
  obtain ⟨C, q3, c1, c2, c3, c4⟩ := cfg_chans (1 + v) (by omega) (by omega) [] [] [] z.1 [] T w.toNat [] q2 w3 (by simp; omega) (fun x hx => by cases hx)
  rw [show ((w.toNat : Nat) : Int) = w by omega] at c4
  obtain ⟨u, q4, u1, u2, u3, u4⟩ := next_ev c3 (a := 2) (by omega)
  obtain ⟨X, q5, x1, x2, x3, x4⟩ := cfg_tables (1 + v) (by omega) (by omega) [] [] [] z.1 C T (u + 1).toNat [] q4 u3 (by simp; omega) (fun x hx => by cases hx)
  rw [show (((u + 1).toNat : Nat) : Int) - 1 = u by omega] at x4
  simp only [List.length_nil, Nat.add_zero] at c2 x2
  obtain ⟨L, A', C', p', a1, a2, a3, a4, a5, a6, a7, a8, a9⟩ := asks_ev (A := z.1) (C := C) x1 (fun e => by rw [e] at x2; simp at x2; omega) (by omega) (by omega) (by omega) h1.1 h1.2 c1 T q5 x3
  refine ⟨1 + v, A', C', X, L, p', by omega, by omega, by omega, by omega, x1, fun e => by rw [e] at x2; simp at x2; omega, by omega, a1, a2, a3, a4, a5, a8, ?_⟩
  refine EvG.ev (EvL.gives (EvL.of n4 fun n f hn => ?_) (EvL.gives hl (EvL.gives (EvL.one (q := .E0 (1 + v) [] [] [] z.1 [] [] T z.2) fun n f => ?_) (EvL.gives (EvL.of w4 fun n f hn => ?_) (EvL.gives c4 (EvL.gives (EvL.of u4 fun n f hn => ?_) (EvL.gives x4 (EvG.of a9 fun n f hn => ?_))))))))
  · simp only [flow_succ, s25]
    rw [hn, Option.bind_some, w64_id (x := 1 + v) (by omega) (by omega)]; rfl
  · simp only [flow_succ, s25]
    rw [ltB_f (by omega), cond_false]
  · simp only [flow_succ, s25]
    rw [hn, Option.bind_some]
  · simp only [flow_succ, s25]
    rw [hn, Option.bind_some]
  · simp only [flow_succ, s25]
    rw [hn, Option.bind_some]
end Go.Am.Tab
