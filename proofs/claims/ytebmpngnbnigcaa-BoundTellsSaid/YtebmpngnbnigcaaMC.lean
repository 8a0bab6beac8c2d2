/- Am, part 27: the state behind a call. -/
import Derived.Test.YtebmpngnbnigcaaMB
import Derived.OrdersHeld
import Derived.Test.YtebmpngnbnigcaaMA
set_option linter.unusedVariables false
set_option linter.unusedSimpArgs false
namespace Go.Am

theorem flat_nodup {gs : List GS} (hn : (gs.flatMap (·.F)).Nodup) {g : GS} (hg : g ∈ gs) : g.F.Nodup := by
  induction gs with
  | nil => simp at hg
  | cons g0 gs ih =>
    simp only [List.flatMap_cons] at hn
    have hn' := List.nodup_append.1 hn
    rcases List.mem_cons.1 hg with rfl | hg
    · exact hn'.1
    · exact ih hn'.2.1 hg

section
variable {P : Program} {Γ : Env} {C : Ctx} {a : Act} {w : World}

theorem call_core {A A2 : St} {G : Nat → GS} {F N : List Nat} {V' : List CVar} {w' : World} {Fr Fv' : List Nat} {T : Nat → Bool} (h : RelG C A a w G F) (hN : N.Nodup) (hT : ∀ s ∈ N, T s = true) (hback : giveBack N V' A = some A2)
    (hgo : Goes w w') (hsame : ∀ b, b < w.heap.size → b ∉ F ++ N.flatMap (fun s => (G s).F) → w'.heap[b]? = w.heap[b]?) (hnd : (Fr ++ Fv').Nodup)
    (hin : ∀ b ∈ Fr ++ Fv', (b ∈ F ++ N.flatMap (fun s => (G s).F) ∨ w.heap.size ≤ b) ∧ b < w'.heap.size)
    (hV : VarsR w' (After w w' (Sof C w G F) (F ++ N.flatMap (fun s => (G s).F)) (Fr ++ Fv')) V' (blks G N) Fv') :
    ∃ G2, RelG C A2 a w' G2 Fr ∧ (∀ b, Sof C w G F b → Sof C w' G2 Fr b ∧ w'.heap[b]? = w.heap[b]?) ∧
      (∀ b, After w w' (Sof C w G F) (F ++ N.flatMap (fun s => (G s).F)) (Fr ++ Fv') b → Sof C w' G2 Fr b) ∧ Frm w w' A A2 G G2 T := by
  obtain ⟨b1, b2, b3, b4, b5⟩ := giveBack_spec N V' A A2 hN hback
  obtain ⟨gs, g1, g2, g3, g4, g5⟩ := VarsR_sites V' (blks G N) Fv' hV
  have hlen : gs.length = N.length := by rw [g1]; simp [blks]
  have hnd' := List.nodup_append.1 hnd
  have hFv : (gs.flatMap (·.F)).Nodup := by rw [← g2]; exact hnd'.2.1
  have idx : ∀ s ∈ N, ∃ (i : Nat) (g : GS) (c : CVar), N[i]? = some s ∧ gs[i]? = some g ∧ V'[i]? = some c ∧ backG G N gs s = g ∧ g.blk = (G s).blk := by
    intro s hs
    obtain ⟨i, hi, e⟩ := List.getElem_of_mem hs
    have hi1 : i < gs.length := by omega
    have hi2 : i < V'.length := by omega
    have e1 : N[i]? = some s := by rw [List.getElem?_eq_getElem hi, e]
    have e2 : gs[i]? = some gs[i] := List.getElem?_eq_getElem hi1
    refine ⟨i, gs[i], V'[i], e1, e2, List.getElem?_eq_getElem hi2, backG_at G N gs i s _ hN e1 e2, ?_⟩
    have h3 : (gs.map (·.blk))[i]? = (blks G N)[i]? := by rw [g3]
    rw [blks_get e1, List.getElem?_map, e2] at h3
    simpa using h3
  have inFv : ∀ {s g}, s ∈ N → backG G N gs s = g → ∀ b ∈ g.F, b ∈ Fv' := by
    intro s g hs e b hb
    obtain ⟨i, g', c, e1, e2, _, e3, _⟩ := idx s hs
    rw [e3] at e; subst e
    rw [g2]; exact List.mem_flatMap.2 ⟨g', List.mem_of_getElem? e2, hb⟩
  have mem : ∀ b, b ∈ F ++ N.flatMap (fun s => (G s).F) ∨ w.heap.size ≤ b ↔ (∃ s', s' ∈ N ∧ b ∈ (G s').F) ∨ b ∈ F ∨ w.heap.size ≤ b := by
    intro b
    simp only [List.mem_append, List.mem_flatMap]
    constructor
    · rintro ((h | ⟨s, h1, h2⟩) | h)
      · exact .inr (.inl h)
      · exact .inl ⟨s, h1, h2⟩
      · exact .inr (.inr h)
    · rintro (⟨s, h1, h2⟩ | h | h)
      · exact .inl (.inr ⟨s, h1, h2⟩)
      · exact .inl (.inl h)
      · exact .inr h
  have hsame' : ∀ b, b < w.heap.size → (∀ s, s ∈ N → b ∉ (G s).F) → b ∉ F → w'.heap[b]? = w.heap[b]? := by
    intro b hb h1 h2
    refine hsame b hb fun hm => ?_
    rcases List.mem_append.1 hm with hm | hm
    · exact h2 hm
    · obtain ⟨s, hs, hm⟩ := List.mem_flatMap.1 hm
      exact h1 s hs hm
  have hoth : ∀ s, s ∉ N → ∀ b ∈ (G s).F, w'.heap[b]? = w.heap[b]? := fun s hs b hb =>
    hsame' b (h.mine s b hb).2 (fun s' hs' hb' => h.apart s s' (fun e => hs (e ▸ hs')) b hb hb') (h.lapart s b hb)
  have afterS : ∀ (S' : Nat → Prop), (∀ b, Sof C w G F b → S' b) → (∀ b, ((∃ s', s' ∈ N ∧ b ∈ (G s').F) ∨ b ∈ F ∨ w.heap.size ≤ b) → b < w'.heap.size → (∀ s, s ∈ N → b ∉ (backG G N gs s).F) → b ∉ Fr → S' b) →
      ∀ b, After w w' (Sof C w G F) (F ++ N.flatMap (fun s => (G s).F)) (Fr ++ Fv') b → S' b := by
    rintro S' h1 h2 b ⟨q1, q2, q3⟩
    simp only [List.mem_append, not_or] at q3
    have hno : ∀ s, s ∈ N → b ∉ (backG G N gs s).F := fun s hs hm => q3.2 (inFv hs rfl b hm)
    rcases q2 with q2 | q2 | q2
    · exact h1 b q2
    · exact h2 b (.inr (.inr q2)) q1 hno q3.1
    · exact h2 b ((mem b).1 (.inl q2)) q1 hno q3.1
  obtain ⟨r1, r2, r3⟩ := h.many (A' := A2) (G' := backG G N gs) (L' := Fr) (fun s => s ∈ N) hgo hsame'
    (fun s hs => ⟨b2 s hs, backG_other G N gs s hs⟩) b3
    (fun s hs b hb => by
      have := hin b (List.mem_append.2 (.inr (inFv hs rfl b hb)))
      exact ⟨(mem b).1 this.1, this.2⟩)
    (fun s hs => by
      obtain ⟨i, g, c, e1, e2, _, e3, _⟩ := idx s hs
      rw [e3]; exact flat_nodup hFv (List.mem_of_getElem? e2))
    (fun s s' hs hs' hne b hb => by
      obtain ⟨i, g, c, e1, e2, _, e3, _⟩ := idx s hs
      obtain ⟨i', g', c', e1', e2', _, e3', _⟩ := idx s' hs'
      rw [e3] at hb; rw [e3']
      exact flat_apart hFv i i' g g' e2 e2' (fun e => hne (by subst e; rw [e1] at e1'; exact Option.some.inj e1')) b hb)
    (fun b hb => by
      have := hin b (List.mem_append.2 (.inl hb))
      exact ⟨(mem b).1 this.1, this.2⟩)
    hnd'.1 (fun s hs b hb hb' => hnd'.2.2 b hb' b (inFv hs rfl b hb) rfl)
    (fun S' h1 h2 s hs => by
      obtain ⟨i, g, c, e1, e2, e4, e3, _⟩ := idx s hs
      rw [e3, (b4 i s c e1 e4).1]
      exact SiteR_frame (fun b hb => ⟨afterS S' (fun b hb => (h1 b hb).1) h2 b hb, rfl⟩) (fun _ _ => rfl) (g5 i c g e4 e2))
    (fun j => by
      rcases b5 j with e | ⟨e, hev⟩
      · exact .inl e
      · refine .inr ⟨e, every_mono (fun r s' q hq => ?_) _ hev⟩
        by_cases hs : s' ∈ N
        · obtain ⟨i, g, c, e1, e2, e4, e3, e5⟩ := idx s' hs
          obtain ⟨q1, t, x, q2, q3, q4⟩ := b4 i s' c e1 e4
          rw [e3, q1, q2]
          intro t' cs' loc' hAt hr
          rcases hq i c _ t x e1 e4 q2 with ⟨rfl, hno⟩ | ⟨rfl, rfl⟩
          · obtain ⟨o1, k1, k2, k3⟩ := At_noOwn hAt hno
            refine ⟨t', (g.cs.drop o1).take (cells t'), ?_, fun hrt => ?_⟩
            · have := At.plain (w := w') (cs := g.cs) (loc := some (g.blk, 0)) k1
              rw [k2, ← e5]; exact this
            · obtain ⟨e', t1, rfl⟩ := hr hrt
              simp [noOwn] at k3
          · obtain ⟨k1, k2, k3⟩ := At_nil hAt rfl
            refine ⟨c.t, (g.cs.drop 0).take (cells c.t), ?_, by simp⟩
            have := At.plain (w := w') (cs := g.cs) (loc := some (g.blk, 0)) (t := c.t) (p := []) (o := 0) (t' := c.t) (by simp [offs])
            rw [k3, ← e5]; exact this
        · rw [backG_other G N gs s' hs, b2 s' hs]
          exact Lives.same (h.sites s') (hoth s' hs) _ _)
    (fun q hq hs => by
      obtain ⟨i, g, c, e1, e2, e4, e3, e5⟩ := idx q.1 hs
      exact ⟨⟨_, _, _, (b4 i q.1 c e1 e4).1⟩, by rw [e3, e5]; exact (h.pin q hq).2⟩)
  refine ⟨_, r1, r2, afterS _ (fun b hb => (r2 b hb).1) r3, fun s hs hn => ?_⟩
  have hsN : s ∉ N := fun hm => by rw [hT s hm] at hs; cases hs
  exact ⟨b2 s hsN, backG_other G N gs s hsN, hoth s hsN⟩
end
end Go.Am
/- Am, part 28: calls. -/
set_option linter.unusedVariables false
set_option linter.unusedSimpArgs false
namespace Go.Am

section
variable {β : Type} {P : Program} {Γ : Env} {C : Ctx} {A : St} {a : Act} {w : World} {G : Nat → GS} {L : List Nat} {K : St → Option β} {r : β} {o : Oper} {B : Nat → Prop}
variable {Φ : Prog} {act : Option Ty} {T : Nat → Bool}

/-- A variable that came out of a call. -/
theorem varSite_sound {F : List Nat} {t : Ty} {x : Val t} {cs : List Value} {T' : TypeId} {b d : Nat} (h : RelG C A a w G (b :: F)) (hb : w.heap[b]? = some (.cells cs.toArray T' (0, 0))) (hr : R w (Sof C w G (b :: F)) t x cs F) (e : A.site d = .none) :
    ∃ G', RelG C ((A.setSite d (.var T' t x)).put (some d) (.ptr d [])) (a.put (some d) (.pointer (some ⟨b, 0, none⟩))) w G' [] ∧ (∀ c, Sof C w G (b :: F) c → Sof C w G' [] c) ∧ ∀ T, Frm w w A ((A.setSite d (.var T' t x)).put (some d) (.ptr d [])) G G' T := by
  have hF : (G d).F = [] := by have := h.sites d; rw [e] at this; exact this
  have hS : ∀ c, Sof C w G (b :: F) c → Sof C w (upd G d ⟨cs, b :: F, b⟩) [] c := fun c hc => ⟨hc.1, hc.2.1, fun s' => by
    by_cases e : s' = d
    · subst e; rw [upd_same]; exact hc.2.2.2
    · rw [upd_ne _ _ e]; exact hc.2.2.1 s', by simp⟩
  have h2 := h.site (A' := A.setSite d (.var T' t x)) (L' := []) d ⟨cs, b :: F, b⟩ (Goes.refl w) (fun _ _ _ _ => rfl) (fun s' hs' => by rw [site_setSite, if_neg hs']) rfl
    (fun c hc => ⟨.inr (.inl hc), (h.lmine c hc).2⟩) h.lnodup (by simp) (by simp) (by simp)
    (fun S' hS' _ => by
      rw [site_setSite, if_pos rfl]
      exact ⟨F, rfl, hb, R_frame hS' _ _ _ _ (fun _ _ => rfl) hr⟩)
    (fun i => .inr ⟨rfl, every_all (fun r s' q => by
      by_cases e' : s' = d
      · subst e'; rw [e]; intro _ _ _ hh; exact hh.elim
      · rw [site_setSite, if_neg e', upd_ne _ _ e']; exact Lives.same (h.sites s') (fun _ _ => rfl) _ _) _⟩)
    (fun q' hq' e' => h.nopin (fun T t x e2 => by rw [e] at e2; cases e2) q' hq' e')
  refine ⟨_, h2.put (some d) _ _ ?_, hS, fun T => Frm.site d _ (.inr e) (fun s hne => by rw [site_put, site_setSite, if_neg hne]) (fun _ _ _ _ => rfl)⟩
  refine SVr_ptr.2 ⟨t, (cs.drop 0).take (cells t), b, 0 + 0, ?_, rfl⟩
  rw [site_setSite, if_pos rfl, upd_same]
  exact At.plain (loc := some (b, 0)) (t := t) (p := []) (o := 0) (t' := t) (by simp [offs])

/-- Two trees that came out of a call, at one site. -/
theorem pairSite_sound {F1 F2 : List Nat} {t u : Ty} {x : Val t} {y : Val u} {cs1 cs2 : List Value} {d : Nat} (h : RelG C A a w G (F1 ++ F2)) (h1 : R w (Sof C w G (F1 ++ F2)) t x cs1 F1) (h2 : R w (Sof C w G (F1 ++ F2)) u y cs2 F2) (e : A.site d = .none) :
    ∃ G', RelG C ((A.setSite d (.tmp (.pair t u) (x, y))).put (some d) (.tcons (view d [.fst] t x) (.tcons (view d [.snd] u y) .tnil))) (a.put (some d) (.tuple [aggV (isAgg t) cs1, aggV (isAgg u) cs2].toArray)) w G' [] ∧ (∀ c, Sof C w G (F1 ++ F2) c → Sof C w G' [] c) ∧ ∀ T, Frm w w A ((A.setSite d (.tmp (.pair t u) (x, y))).put (some d) (.tcons (view d [.fst] t x) (.tcons (view d [.snd] u y) .tnil))) G G' T := by
  have hF : (G d).F = [] := by have := h.sites d; rw [e] at this; exact this
  have hS : ∀ c, Sof C w G (F1 ++ F2) c → Sof C w (upd G d ⟨cs1 ++ cs2, F1 ++ F2, 0⟩) [] c := fun c hc => ⟨hc.1, hc.2.1, fun s' => by
    by_cases e : s' = d
    · subst e; rw [upd_same]; exact hc.2.2.2
    · rw [upd_ne _ _ e]; exact hc.2.2.1 s', by simp⟩
  have hk1 := h.site (A' := A.setSite d (.tmp (.pair t u) (x, y))) (L' := []) d ⟨cs1 ++ cs2, F1 ++ F2, 0⟩ (Goes.refl w) (fun _ _ _ _ => rfl) (fun s' hs' => by rw [site_setSite, if_neg hs']) rfl
    (fun c hc => ⟨.inr (.inl hc), (h.lmine c hc).2⟩) h.lnodup (by simp) (by simp) (by simp)
    (fun S' hS' _ => by
      rw [site_setSite, if_pos rfl]
      exact ⟨cs1, cs2, F1, F2, rfl, rfl, R_frame hS' _ _ _ _ (fun _ _ => rfl) h1, R_frame hS' _ _ _ _ (fun _ _ => rfl) h2⟩)
    (fun i => .inr ⟨rfl, every_all (fun r s' q => by
      by_cases e' : s' = d
      · subst e'; rw [e]; intro _ _ _ hh; exact hh.elim
      · rw [site_setSite, if_neg e', upd_ne _ _ e']; exact Lives.same (h.sites s') (fun _ _ => rfl) _ _) _⟩)
    (fun q' hq' e' => h.nopin (fun T t x e2 => by rw [e] at e2; cases e2) q' hq' e')
  have hsite : (A.setSite d (.tmp (.pair t u) (x, y))).site d = .tmp (.pair t u) (x, y) := by rw [site_setSite, if_pos rfl]
  have hl1 := R_len _ _ _ _ h1
  have hl2 := R_len _ _ _ _ h2
  have a1 : AtS w ((A.setSite d (.tmp (.pair t u) (x, y))).site d) (upd G d ⟨cs1 ++ cs2, F1 ++ F2, 0⟩ d) [.fst] t cs1 none := by
    rw [hsite, upd_same]
    have := At.plain (w := w) (cs := cs1 ++ cs2) (loc := none) (t := .pair t u) (p := [.fst]) (o := 0) (t' := t) (by simp [offs])
    have e2 : ((cs1 ++ cs2).drop 0).take (cells t) = cs1 := by simp [← hl1]
    rw [e2] at this
    exact this
  have a2 : AtS w ((A.setSite d (.tmp (.pair t u) (x, y))).site d) (upd G d ⟨cs1 ++ cs2, F1 ++ F2, 0⟩ d) [.snd] u cs2 none := by
    rw [hsite, upd_same]
    have := At.plain (w := w) (cs := cs1 ++ cs2) (loc := none) (t := .pair t u) (p := [.snd]) (o := cells t) (t' := u) (by simp [offs])
    have e2 : ((cs1 ++ cs2).drop (cells t)).take (cells u) = cs2 := by simp [← hl1, ← hl2]
    rw [e2] at this
    exact this
  refine ⟨_, hk1.put (some d) _ _ ?_, hS, fun T => Frm.site d _ (.inr e) (fun s hne => by rw [site_put, site_setSite, if_neg hne]) (fun _ _ _ _ => rfl)⟩
  refine SVr_tcons.2 ⟨_, [aggV (isAgg u) cs2], rfl, ?_, ?_⟩
  · exact SVr_view a1 (R_frame (fun b hb => ⟨hS b hb, rfl⟩) _ _ _ _ (fun _ _ => rfl) h1)
  · simp only [SL]
    exact ⟨_, [], rfl, SVr_view a2 (R_frame (fun b hb => ⟨hS b hb, rfl⟩) _ _ _ _ (fun _ _ => rfl) h2), rfl⟩

theorem results1_sound {F : List Nat} {S : Nat → Prop} {res : List CRes} {v : Value} {d : Nat} {A' : St} (h : RelG C A a w G F) (hS : ∀ b, S b → Sof C w G F b) (hr : ResV w S res v F) (hp : results1 d A res = some A') :
    ∃ G', RelG C A' (a.put (some d) v) w G' [] ∧ (∀ c, Sof C w G F c → Sof C w G' [] c) ∧ ∀ T, Frm w w A A' G G' T := by
  have put : ∀ (sv : SV), F = [] → SVr w (Sof C w G F) A.site G sv v → A' = A.put (some d) sv → ∃ G', RelG C A' (a.put (some d) v) w G' [] ∧ (∀ c, Sof C w G F c → Sof C w G' [] c) ∧ ∀ T, Frm w w A A' G G' T := by
    rintro sv rfl hs rfl
    exact ⟨G, h.put _ _ _ hs, fun c hc => hc, fun T s _ _ => ⟨by simp, rfl, fun _ _ => rfl⟩⟩
  have val : ∀ {t : Ty} {x : Val t} {u : Value} {F0 : List Nat}, CResR w S (.v t x) u F0 → noOwn t = true → F0 = [] ∧ SVr w (Sof C w G F) A.site G (.val t x) u := by
    intro t x u F0 hc hn
    simp only [CResR] at hc
    obtain ⟨cs, h1, h2⟩ := hc
    obtain rfl := R_noOwn _ _ _ _ hn h2
    exact ⟨rfl, SVr_valR.2 ⟨cs, R_frame (fun b hb => ⟨hS b hb, rfl⟩) _ _ _ _ (fun _ _ => rfl) h2, h1⟩⟩
  unfold results1 at hp
  split at hp
  · rename_i t x
    simp only [ResV, CResR] at hr
    obtain ⟨cs, rfl, hr⟩ := hr
    obtain ⟨G', k1, k2, k3⟩ := putTree_sound (L := []) (F := F) (by simpa using h) (R_frame (fun b hb => ⟨by simpa using hS b hb, rfl⟩) _ _ _ _ (fun _ _ => rfl) hr) hp
    exact ⟨G', k1, fun c hc => (k2 c (by simpa using hc)).1, k3⟩
  · simp only [Option.some.injEq] at hp
    simp only [ResV, CResR] at hr
    exact put _ hr.1 (SVr_nilp.2 hr.2) hp.symm
  · rename_i T' t x
    split at hp
    · rename_i e
      simp only [Option.some.injEq] at hp
      subst hp
      simp only [ResV, CResR] at hr
      obtain ⟨b, rfl, cs, F', rfl, h1, h2⟩ := hr
      exact varSite_sound h h1 (R_frame (fun b hb => ⟨hS b hb, rfl⟩) _ _ _ _ (fun _ _ => rfl) h2) e
    · cases hp
  · simp only [Option.some.injEq] at hp
    simp only [ResV, CRessR] at hr
    obtain ⟨vs, rfl, rfl, rfl⟩ := hr
    exact put .tnil rfl ⟨[.tuple #[]], by simp [SC], rfl⟩ hp.symm
  · rename_i t x u y
    split at hp
    · rename_i hn
      rw [Bool.and_eq_true] at hn
      simp only [Option.some.injEq] at hp
      simp only [ResV, CRessR] at hr
      obtain ⟨vs, rfl, v1, vs1, F1, F2, rfl, hF, c1, v2, vs2, F3, F4, rfl, hF2, c2, rfl, rfl⟩ := hr
      obtain ⟨rfl, s1⟩ := val c1 hn.1
      obtain ⟨rfl, s2⟩ := val c2 hn.2
      refine put _ (by rw [hF, hF2]; rfl) (SVr_tcons.2 ⟨v1, [v2], rfl, s1, ?_⟩) hp.symm
      simp only [SL]
      exact ⟨v2, [], rfl, s2, rfl⟩
    · split at hp
      rotate_left
      · cases hp
      rename_i e
      simp only [Option.some.injEq] at hp
      subst hp
      simp only [ResV, CRessR] at hr
      obtain ⟨vs, rfl, v1, vs1, F1, F2, rfl, rfl, c1, v2, vs2, F3, F4, rfl, rfl, c2, rfl, rfl⟩ := hr
      rw [show F1 ++ (F3 ++ []) = F1 ++ F3 by simp] at h hS
      simp only [CResR] at c1 c2
      obtain ⟨cs1, rfl, r1⟩ := c1
      obtain ⟨cs2, rfl, r2⟩ := c2
      obtain ⟨G', q1, q2, q3⟩ := pairSite_sound (F2 := F3) h (R_frame (fun b hb => ⟨hS b hb, rfl⟩) _ _ _ _ (fun _ _ => rfl) r1) (R_frame (fun b hb => ⟨hS b hb, rfl⟩) _ _ _ _ (fun _ _ => rfl) r2) e
      exact ⟨G', q1, fun c hc => q2 c (by simpa using hc), q3⟩
  · rename_i t x u y s z
    split at hp
    · rename_i hn
      simp only [Bool.and_eq_true] at hn
      simp only [Option.some.injEq] at hp
      simp only [ResV, CRessR] at hr
      obtain ⟨vs, rfl, v1, vs1, F1, F2, rfl, hF, c1, v2, vs2, F3, F4, rfl, hF2, c2, v3, vs3, F5, F6, rfl, hF3, c3, rfl, rfl⟩ := hr
      obtain ⟨rfl, s1⟩ := val c1 hn.1.1
      obtain ⟨rfl, s2⟩ := val c2 hn.1.2
      obtain ⟨rfl, s3⟩ := val c3 hn.2
      refine put _ (by rw [hF, hF2, hF3]; rfl) (SVr_tcons.2 ⟨v1, [v2, v3], rfl, s1, ?_⟩) hp.symm
      simp only [SL]
      exact ⟨v2, [v3], rfl, s2, v3, [], rfl, s3, rfl⟩
    · cases hp
  · cases hp

theorem RelG_perm {L1 L2 : List Nat} (h : RelG C A a w G (L1 ++ L2)) : RelG C A a w G (L2 ++ L1) := by
  have hm : ∀ b, b ∈ L2 ++ L1 ↔ b ∈ L1 ++ L2 := fun b => by simp only [List.mem_append]; exact Or.comm
  have hS : ∀ b, Sof C w G (L1 ++ L2) b → Sof C w G (L2 ++ L1) b := fun b hb => ⟨hb.1, hb.2.1, hb.2.2.1, fun hx => hb.2.2.2 ((hm b).1 hx)⟩
  exact {
    slots := fun i => by
      obtain ⟨cs, h1, h2⟩ := h.slots i
      exact ⟨cs, SC_frame (fun b hb => ⟨hS b hb, rfl⟩) _ _ (every_all (fun r s' q => Lives.same (h.sites s') (fun _ _ => rfl) _ _) _) h1, h2⟩
    sites := fun s => SiteR_frame (fun b hb => ⟨hS b hb, rfl⟩) (fun _ _ => rfl) (h.sites s)
    nodup := h.nodup, apart := h.apart, mine := h.mine
    lnodup := by
      have := List.nodup_append.1 h.lnodup
      exact List.nodup_append.2 ⟨this.2.1, this.1, fun x hx y hy e => this.2.2 y hy x hx e.symm⟩
    lapart := fun s b hb hx => h.lapart s b hb ((hm b).1 hx)
    lmine := fun b hb => h.lmine b ((hm b).1 hb)
    s0 := h.s0, os := h.os, tape := h.tape, output := h.output, size := h.size, frame := h.frame, defers := h.defers, len := h.len, pinlen := h.pinlen, pin := h.pin }

theorem results1A_sound {F : List Nat} {S : Nat → Prop} {act : Option Ty} {res : List CRes} {v : Value} {d : Nat} {A' : St} (h : RelG C A a w G F) (hS : ∀ b, S b → Sof C w G F b) (hr : ResV w S res v F) (hp : results1A act d A res = some A') :
    ∃ G', RelG C A' (a.put (some d) v) w G' [] ∧ (∀ c, Sof C w G F c → Sof C w G' [] c) ∧ ∀ T, Frm w w A A' G G' T := by
  unfold results1A at hp
  split at hp
  · rename_i u t x
    split at hp
    rotate_left
    · cases hp
    rename_i y hc
    simp only [ResV, CResR] at hr
    obtain ⟨cs, rfl, hr⟩ := hr
    obtain ⟨F', j1, j2, j3, _⟩ := coe_sound (L := []) (F := F) (by simpa using h) (R_frame (fun b hb => ⟨by simpa using hS b hb, rfl⟩) _ _ _ _ (fun _ _ => rfl) hr) hc
    obtain ⟨G', k1, k2, k3⟩ := putTree_sound j1 j2 hp
    refine ⟨G', by rw [← (coeV_agg _ _ _ _ hc).1]; exact k1, fun c hc => (k2 c (j3 c (by simpa using hc)).1).1, k3⟩
  · rename_i t' u' t x u y
    split at hp
    rotate_left
    · cases hp
    rename_i x' y' hcx hcy
    simp only [ResV, CRessR] at hr
    obtain ⟨vs, rfl, v1, vs1, F1, F2, rfl, rfl, c1, v2, vs2, F3, F4, rfl, rfl, c2, rfl, rfl⟩ := hr
    simp only [CResR] at c1 c2
    obtain ⟨cs1, rfl, r1⟩ := c1
    obtain ⟨cs2, rfl, r2⟩ := c2
    have h0 : RelG C A a w G (F1 ++ F3) := by simpa using h
    have hS0 : ∀ b, S b → Sof C w G (F1 ++ F3) b := by simpa using hS
    obtain ⟨F3', j1, j2, j3, _⟩ := coe_sound (L := F1) (F := F3) h0 (R_frame (fun b hb => ⟨hS0 b hb, rfl⟩) _ _ _ _ (fun _ _ => rfl) r2) hcy
    have j1' : RelG C A a w G (F3' ++ F1) := RelG_perm j1
    have hS1 : ∀ b, Sof C w G (F1 ++ F3') b → Sof C w G (F3' ++ F1) b := fun b hb => ⟨hb.1, hb.2.1, hb.2.2.1, fun hm => hb.2.2.2 (by simp only [List.mem_append] at hm ⊢; exact hm.symm)⟩
    obtain ⟨F1', l1, l2, l3, _⟩ := coe_sound (L := F3') (F := F1) j1' (R_frame (fun b hb => ⟨hS1 b (j3 b (hS0 b hb)).1, rfl⟩) _ _ _ _ (fun _ _ => rfl) r1) hcx
    have l1' : RelG C A a w G (F1' ++ (F3' ++ [])) := by rw [List.append_nil]; exact RelG_perm l1
    have hS2 : ∀ b, Sof C w G (F3' ++ F1') b → Sof C w G (F1' ++ (F3' ++ [])) b := fun b hb => ⟨hb.1, hb.2.1, hb.2.2.1, fun hm => hb.2.2.2 (by simp only [List.mem_append, List.append_nil] at hm ⊢; exact hm.symm)⟩
    have hr' : ResV w (Sof C w G (F1' ++ (F3' ++ []))) [.v t' x', .v u' y'] (.tuple [aggV (isAgg t) cs1, aggV (isAgg u) cs2].toArray) (F1' ++ (F3' ++ [])) := by
      simp only [ResV, CRessR, CResR]
      exact ⟨_, rfl, _, _, F1', F3' ++ [], rfl, rfl, ⟨cs1, by rw [(coeV_agg _ _ _ _ hcx).1], R_frame (fun b hb => ⟨hS2 b hb, rfl⟩) _ _ _ _ (fun _ _ => rfl) l2⟩, _, _, F3', [], rfl, rfl,
        ⟨cs2, by rw [(coeV_agg _ _ _ _ hcy).1], R_frame (fun b hb => ⟨hS2 b (l3 b (hS1 b hb)).1, rfl⟩) _ _ _ _ (fun _ _ => rfl) j2⟩, rfl, rfl⟩
    obtain ⟨G', k1, k2, k3⟩ := results1_sound l1' (fun b hb => hb) hr' hp
    exact ⟨G', k1, fun c hc => k2 c (hS2 c (l3 c (hS1 c (j3 c (by simpa using hc)).1)).1), k3⟩
  · exact results1_sound h hS hr hp

/-- Functions that may be called, and what they do. -/
def CallsOk (P : Program) (Φ : Prog) : Prop := ∀ f sg, Φ.sig f = some sg → (∃ fn, P.funcs[f]? = some fn ∧ (fn.name == "runtime.NumGoroutine") = false ∧ fn.body.isNone = false) ∧ SoundF P f (Φ.den f)

theorem callFunc_run {f : FuncId} {fn : Func} (hf : P.funcs[f]? = some fn) (hn : (fn.name == "runtime.NumGoroutine") = false) (hb : fn.body.isNone = false) (vals : Array Value) (w : World) : (callFunc f vals).run P w = .ok (.enter f vals) w := by
  have hn' : fn.name ≠ "runtime.NumGoroutine" := by simpa using hn
  have hb' : fn.body ≠ none := by intro e; rw [e] at hb; cases hb
  simp [callFunc, hf, hn', hb']

/-- A call, once its arguments are given. -/
theorem eff_callK {A1 : St} {G1 : Nat → GS} {F N : List Nat} {f : FuncId} {args : List CArg} {vals : List Value} {d : Nat} {pms : Sig} (hΦ : CallsOk P Φ) (hsig : Φ.sig f = some pms) (hd : o.dst = some d)
    (hrel : RelG C A1 a w G1 F) (hargs : ArgsR w (Sof C w G1 F) (blks G1 N) args vals F) (hN : N.Nodup) (hNT : ∀ s ∈ N, T s = true) (hM : ∀ b, Sof C w G [] b → Sof C w G1 F b) (hFr : Frm w w A A1 G G1 T)
    (hx : (execOp a.eval o).run P w = (callFunc f vals.toArray).run P w) (hk : callK Φ act f args N d A1 K = some r) : Eff P o C A a w G T K r := by
  unfold callK at hk
  split at hk
  · cases hk
  rename_i V hV
  obtain ⟨⟨fn, f1, f2, f3⟩, hsound⟩ := hΦ f pms hsig
  rw [Φ.run_eq] at hk
  cases hden : Φ.den f args V with
  | none => rw [hden] at hk; cases hk
  | some rv =>
    rw [hden] at hk
    obtain ⟨res, V'⟩ := rv
    simp only [Option.bind_some] at hk
    split at hk
    · cases hk
    rename_i A2 hback
    split at hk
    · cases hk
    rename_i A3 hres
    have hVR := readVars_sound (w := w) hrel.sites N hV
    have hFvmem : ∀ b, b ∈ N.flatMap (fun s => (G1 s).F) → ∃ s ∈ N, b ∈ (G1 s).F := fun b hb => List.mem_flatMap.1 hb
    have hFvn : (N.flatMap (fun s => (G1 s).F)).Nodup := by
      have : ∀ M : List Nat, M.Nodup → (M.flatMap (fun s => (G1 s).F)).Nodup := by
        intro M
        induction M with
        | nil => simp
        | cons s M ih =>
          intro hn
          obtain ⟨n1, n2⟩ := List.nodup_cons.1 hn
          rw [List.flatMap_cons]
          refine List.nodup_append.2 ⟨hrel.nodup s, ih n2, fun b hb c hc e => ?_⟩
          subst e
          obtain ⟨s', hs', hb'⟩ := List.mem_flatMap.1 hc
          exact hrel.apart s s' (fun e => n1 (e ▸ hs')) b hb hb'
      exact this N hN
    have hc := hsound args V res V' hden w (Sof C w G1 F) vals (blks G1 N) F (N.flatMap fun s => (G1 s).F)
      (fun b hb => ⟨hb.1, fun hm => by
        rcases List.mem_append.1 hm with hm | hm
        · exact hb.2.2.2 hm
        · obtain ⟨s, _, hm⟩ := hFvmem b hm; exact hb.2.2.1 s hm⟩)
      hargs hVR (List.nodup_append.2 ⟨hrel.lnodup, hFvn, fun b hb c hc e => by
        subst e; obtain ⟨s, _, hm⟩ := hFvmem b hc; exact hrel.lapart s b hm hb⟩)
      (fun b hb => by
        rcases List.mem_append.1 hb with hm | hm
        · exact (hrel.lmine b hm).2
        · obtain ⟨s, _, hm⟩ := hFvmem b hm; exact (hrel.mine s b hm).2)
    intro Q
    unfold Oper.wp
    rw [hx, callFunc_run f1 f2 f3]
    rw [Oper.upon_enter]
    refine Calls.mono hc ?_
    rintro e w' ⟨v, Fr, Fv', rfl, hgo, hsame, hnd, hin, hresV, hV'⟩
    obtain ⟨G2, k1, k2, k3, k4⟩ := call_core (T := T) hrel hN hNT hback hgo hsame hnd hin hV'
    obtain ⟨G3, j1, j2, j3⟩ := results1A_sound k1 k3 hresV hres
    refine ⟨A3, G3, hk, by rw [hd]; exact j1, fun b hb => ⟨j2 b (k2 b (hM b hb)).1, (k2 b (hM b hb)).2⟩, (hFr.trans k4).trans (j3 T)⟩


/-! ### Calls that only look -/
theorem R_clean {w : World} {S S' : Nat → Prop} : ∀ (t : Ty) (x : Val t) cs F, clean t = true → R w S t x cs F → R w S' t x cs F := by
  intro t
  induction t with
  | int k => intro x cs F _ h; exact h
  | bool => intro x cs F _ h; exact h
  | str => intro x cs F _ h; exact h
  | unit => intro x cs F _ h; exact h
  | hole => intro x cs F h; simp [clean] at h
  | pair a b iha ihb =>
    intro x cs F hc
    simp only [clean, Bool.and_eq_true] at hc
    rintro ⟨c1, c2, F1, F2, e1, e2, h1, h2⟩
    exact ⟨c1, c2, F1, F2, e1, e2, iha _ _ _ hc.1 h1, ihb _ _ _ hc.2 h2⟩
  | arr n t ih =>
    intro x cs F hc
    rintro ⟨h1, h2⟩
    exact ⟨h1, Rl_mono _ (fun x _ cs F h => ih x cs F hc h) _ _ h2⟩
  | sh e t ih => intro x cs F h; simp [clean] at h
  | ow e t ih =>
    intro x cs F hc h
    rcases h with h | ⟨b, cap, cur, F', h0, h1, h2, h3, h4, h5, h6⟩
    · exact .inl h
    · exact .inr ⟨b, cap, cur, F', h0, h1, h2, h3, h4, h5, Rl_mono _ (fun x _ cs F h => ih x cs F hc h) _ _ h6⟩

def Alive (w : World) (b : Nat) : Prop := b < w.heap.size

theorem coe_alive {S : Nat → Prop} {t t' : Ty} {x : Val t} {y : Val t'} {cs F} (hS : ∀ b, S b → b < w.heap.size) (hn : F.Nodup) (hno : noOwn t' = true) (hr : R w S t x cs F) (hc : coeV? t x t' = some y) : R w (Alive w) t' y cs [] := by
  obtain ⟨F', _, g⟩ := R_coeV t x t' y cs F hc hn hr
  have h1 := g (Alive w) hS (fun b hb _ => R_lt _ _ _ _ hr b hb)
  obtain rfl := R_noOwn _ _ _ _ hno h1
  exact h1

theorem lookT_sound (h : RelG C A a w G []) : ∀ (sv : SV) (t : Ty) (y : Val t) cs, noOwn t = true → SC w (Sof C w G []) A.site G sv cs → lookT A sv t = some y → R w (Alive w) t y cs [] ∧ aggSV sv = isAgg t := by
  intro sv
  induction sv with
  | val t x =>
    intro t' y cs hno hs hk
    simp only [lookT] at hk
    simp only [SC] at hs
    exact ⟨coe_alive (fun b hb => hb.1) (by simp) hno hs hk, (coeV_agg _ _ _ _ hk).1.symm⟩
  | pr a b iha ihb =>
    intro t' y cs hno hs hk
    cases t' with
    | pair ta tb =>
      simp only [lookT] at hk
      simp only [noOwn, Bool.and_eq_true] at hno
      split at hk
      · rename_i x1 y1 e1 e2
        obtain rfl := Option.some.inj hk
        simp only [SC] at hs
        obtain ⟨c1, c2, rfl, h1, h2⟩ := hs
        exact ⟨⟨c1, c2, [], [], rfl, rfl, (iha _ _ _ hno.1 h1 e1).1, (ihb _ _ _ hno.2 h2 e2).1⟩, rfl⟩
      · cases hk
    | _ => simp [lookT] at hk
  | ref s p =>
    intro t' y cs hno hs hk
    simp only [lookT] at hk
    split at hk
    rotate_left
    · cases hk
    rename_i t x ht
    split at hk
    rotate_left
    · cases hk
    rename_i u z hg
    simp only [SC] at hs
    obtain ⟨e, t1, loc', hAt⟩ := hs
    obtain ⟨x', F', g1, g2, g3, g4, _⟩ := part h ht hAt
    rw [g1] at hg
    simp only [Option.some.injEq, Sigma.mk.injEq] at hg
    obtain ⟨rfl, hg⟩ := hg
    obtain rfl := eq_of_heq hg
    exact ⟨coe_alive (fun b hb => hb.1) g4 hno g2 hk, (coeV_agg _ _ _ _ hk).1.symm⟩
  | dead => intro t' y cs _ _ hk; simp [lookT] at hk
  | ptr s p => intro t' y cs _ _ hk; simp [lookT] at hk
  | ro t x => intro t' y cs _ _ hk; simp [lookT] at hk
  | nilp => intro t' y cs _ _ hk; simp [lookT] at hk
  | fn f c _ => intro t' y cs _ _ hk; simp [lookT] at hk
  | tnil => intro t' y cs _ _ hk; simp [lookT] at hk
  | tcons a b _ _ => intro t' y cs _ _ hk; simp [lookT] at hk

theorem valCaps_sound {S S' : Nat → Prop} {σ : Nat → Site} {vb : List Nat} (hS : ∀ b, S b → S' b) : ∀ (caps : SV) {l : List Cap} {vs}, valCaps caps = some l → SL w S σ G caps vs → CapsR w S' vb l vs := by
  intro caps
  induction caps with
  | tnil =>
    intro l vs hg h
    simp only [valCaps, Option.some.injEq] at hg
    subst hg
    simp only [SL] at h
    simpa only [CapsR] using h
  | tcons b r _ ih =>
    intro l vs hg h
    cases b with
    | val t x =>
      simp only [valCaps] at hg
      split at hg
      · rename_i l' e
        simp only [Option.some.injEq] at hg
        subst hg
        simp only [SL] at h
        obtain ⟨v, vs', rfl, hb, hr⟩ := h
        simp only [CapsR]
        refine ⟨v, vs', rfl, ?_, ih e hr⟩
        obtain ⟨cs, q1, q2⟩ := SVr_valR.1 (show SVr w S σ G (.val t x) v from hb)
        simp only [CapR]
        exact ⟨cs, q2, R_frame (fun b hb => ⟨hS b hb, rfl⟩) _ _ _ _ (fun _ _ => rfl) q1⟩
      · cases hg
    | _ => simp [valCaps] at hg
  | _ => intro l vs hg; simp [valCaps] at hg

theorem look_sound (h : RelG C A a w G []) {m : PM} {sv : SV} {v : Value} {arg : CArg} (hv : SVr w (Sof C w G []) A.site G sv v) (hk : look m sv A = some arg) : ArgR w (Alive w) [] arg v [] := by
  unfold look at hk
  split at hk
  · rename_i t
    split at hk
    rotate_left
    · cases hk
    rename_i hno
    split at hk
    rotate_left
    · cases hk
    rename_i y hy
    simp only [Option.some.injEq] at hk
    subst hk
    obtain ⟨cs, h1, rfl⟩ := hv
    obtain ⟨q1, q2⟩ := lookT_sound h _ _ _ _ hno h1 hy
    simp only [ArgR]
    exact ⟨cs, by rw [q2], q1⟩
  · split at hk
    · simp only [Option.some.injEq] at hk
      subst hk
      simp only [ArgR]
      exact ⟨by first | rfl | trivial, SVr_nilp.1 hv⟩
    · rename_i f caps
      split at hk
      rotate_left
      · cases hk
      rename_i l e
      simp only [Option.some.injEq] at hk
      subst hk
      obtain ⟨cs, hv1, rfl⟩ := hv
      simp only [SC] at hv1
      obtain ⟨vs, rfl, hsl⟩ := hv1
      simp only [ArgR]
      exact ⟨by first | rfl | trivial, vs, rfl, valCaps_sound (fun b hb => hb.1) _ e hsl⟩
    · cases hk

theorem lookAll_sound (h : RelG C A a w G []) : ∀ (pms : List PM) (xs : List (Operand × TypeId)) {l : List CArg}, lookAll Γ A pms xs = some l → ArgsR w (Alive w) [] l (xs.map fun x => a.eval x.1) []
  | [], [], l, hk => by
    simp only [lookAll, Option.some.injEq] at hk
    subst hk
    simp [ArgsR]
  | m :: ms, x :: xs, l, hk => by
    rw [lookAll] at hk
    split at hk
    · rename_i b l' e1 e2
      simp only [Option.some.injEq] at hk
      subst hk
      simp only [ArgsR, List.map_cons]
      exact ⟨_, _, [], [], rfl, rfl, look_sound h (opd_sound Γ x.2 h x.1) e1, lookAll_sound h ms xs e2⟩
    · cases hk
  | [], _ :: _, l, hk => by simp [lookAll] at hk
  | _ :: _, [], l, hk => by simp [lookAll] at hk

theorem plain_clean : ∀ (t : Ty), plainTy t = true → clean t = true := by
  intro t
  induction t with
  | pair a b iha ihb => simp only [plainTy, clean, Bool.and_eq_true]; exact fun h => ⟨iha h.1, ihb h.2⟩
  | _ => simp [plainTy, clean]

theorem CResR_clean {S S' : Nat → Prop} {m : Mode} {c : CRes} {v F} (hc : resOk m c = true) (h : CResR w S c v F) : CResR w S' c v F := by
  cases c with
  | v t x =>
    have : clean t = true := by
      cases m with
      | flat => exact plain_clean t (by simpa [resOk] using hc)
      | _ => simpa [resOk] using hc
    simp only [CResR] at h ⊢
    obtain ⟨cs, h1, h2⟩ := h
    exact ⟨cs, h1, R_clean _ _ _ _ this h2⟩
  | new T t x =>
    have : clean t = true := by
      cases m with
      | flat => simp [resOk] at hc
      | _ => simpa [resOk] using hc
    simp only [CResR, VarR] at h ⊢
    obtain ⟨b, h1, cs, F', h2, h3, h4⟩ := h
    exact ⟨b, h1, cs, F', h2, h3, R_clean _ _ _ _ this h4⟩
  | nilp => simpa only [CResR] using h

theorem CRessR_clean {S S' : Nat → Prop} {m : Mode} : ∀ {l : List CRes} {vs F}, l.all (resOk m) = true → CRessR w S l vs F → CRessR w S' l vs F
  | [], vs, F, _, h => by simpa only [CRessR] using h
  | c :: l, vs, F, hc, h => by
    rw [List.all_cons, Bool.and_eq_true] at hc
    simp only [CRessR] at h ⊢
    obtain ⟨v, vs', F1, F2, e1, e2, h1, h2⟩ := h
    exact ⟨v, vs', F1, F2, e1, e2, CResR_clean hc.1 h1, CRessR_clean hc.2 h2⟩

theorem ResV_clean {S S' : Nat → Prop} {m : Mode} {l : List CRes} {v F} (hc : l.all (resOk m) = true) (h : ResV w S l v F) : ResV w S' l v F := by
  match l, hc, h with
  | [], hc, h =>
    simp only [ResV] at h ⊢
    obtain ⟨vs, e, h⟩ := h
    exact ⟨vs, e, CRessR_clean hc h⟩
  | [r], hc, h =>
    simp only [ResV] at h ⊢
    exact CResR_clean (by simpa using hc) h
  | r1 :: r2 :: rs, hc, h =>
    simp only [ResV] at h ⊢
    obtain ⟨vs, e, h⟩ := h
    exact ⟨vs, e, CRessR_clean hc h⟩

/-- New blocks alone. -/
theorem RelG.grown {w' : World} {F : List Nat} (h : RelG C A a w G []) (hgo : Goes w w') (hsame : ∀ b, b < w.heap.size → w'.heap[b]? = w.heap[b]?) (hn : F.Nodup) (hF : ∀ b ∈ F, w.heap.size ≤ b ∧ b < w'.heap.size) :
    RelG C A a w' G F ∧ (∀ b, Sof C w G [] b → Sof C w' G F b ∧ w'.heap[b]? = w.heap[b]?) := by
  obtain ⟨r1, r2, r3⟩ := h.many (A' := A) (G' := G) (L' := F) (fun _ => False) hgo (fun b hb _ _ => hsame b hb) (fun s' _ => ⟨rfl, rfl⟩) rfl (fun _ hs => hs.elim) (fun _ hs => hs.elim) (fun _ _ hs => hs.elim)
    (fun b hb => ⟨.inr (.inr (hF b hb).1), (hF b hb).2⟩) hn (fun _ hs => hs.elim) (fun _ _ _ _ hs => hs.elim)
    (fun i => .inr ⟨rfl, every_all (fun r s' q => Lives.same (h.sites s') (fun b hb => hsame b (h.mine s' b hb).2) _ _) _⟩)
    (fun _ _ hs => hs.elim)
  exact ⟨r1, r2⟩

/-- A call that only looks. -/
theorem eff_pureK {f : FuncId} {args : List CArg} {vals : List Value} {d : Nat} {sg : Sig} {m : Mode} (hΦ : CallsOk P Φ) (hsig : Φ.sig f = some sg) (hd : o.dst = some d)
    (h : RelG C A a w G []) (hargs : ArgsR w (Alive w) [] args vals []) (hx : (execOp a.eval o).run P w = (callFunc f vals.toArray).run P w) (hk : pureK Φ act f m args d A K = some r) : Eff P o C A a w G T K r := by
  unfold pureK at hk
  rw [Φ.run_eq] at hk
  obtain ⟨⟨fn, f1, f2, f3⟩, hsound⟩ := hΦ f sg hsig
  cases hden : Φ.den f args [] with
  | none => rw [hden] at hk; cases hk
  | some rv =>
    rw [hden] at hk
    obtain ⟨res, V'⟩ := rv
    simp only [Option.bind_some] at hk
    cases V' with
    | cons c V' => simp at hk
    | nil =>
    dsimp only at hk
    split at hk
    rotate_left
    · cases hk
    rename_i hok
    split at hk
    rotate_left
    · cases hk
    rename_i A3 hres
    have hc := hsound args [] res [] hden w (Alive w) vals [] [] [] (fun b hb => ⟨hb, by simp⟩) hargs (by simp [VarsR]) (by simp) (by simp)
    intro Q
    unfold Oper.wp
    rw [hx, callFunc_run f1 f2 f3]
    rw [Oper.upon_enter]
    refine Calls.mono hc ?_
    rintro e w' ⟨v, Fr, Fv', rfl, hgo, hsame, hnd, hin, hresV, hV'⟩
    simp only [VarsR] at hV'
    obtain ⟨_, rfl⟩ := hV'
    obtain ⟨k1, k2⟩ := h.grown hgo (fun b hb => hsame b hb (by simp)) (by simpa using hnd) (fun b hb => by
      obtain ⟨q1, q2⟩ := hin b (by simpa using hb)
      exact ⟨by simpa using q1, q2⟩)
    obtain ⟨G3, j1, j2, j3⟩ := results1A_sound k1 (fun b hb => hb) (ResV_clean (S' := Sof C w' G Fr) hok hresV) hres
    refine ⟨A3, G3, hk, by rw [hd]; exact j1, fun b hb => ⟨j2 b (k2 b hb).1, (k2 b hb).2⟩, Frm.trans (fun s hs hn => ⟨rfl, rfl, fun b hb => hsame b (h.mine s b hb).2 (by simp)⟩) (j3 T)⟩

theorem eff_call {f : FuncId} {args tys} (hΦ : CallsOk P Φ) (ho : o.op = .call { callee := .value (.func f), args, argTypes := tys }) (h : RelG C A a w G []) (hTn : ∀ x ∈ args.toList, ∀ t s, T s = false → (opd Γ t A x).names s = false) (hk : opK Γ Φ act o A K = some r) : Eff P o C A a w G T K r := by
  unfold opK at hk
  rw [ho] at hk
  dsimp only at hk
  split at hk
  rotate_left
  · cases hk
  rename_i d sg hd hsig
  split at hk
  rotate_left
  · cases hk
  rename_i hsz
  have hvals : (args.toList.zip tys.toList).map (fun x => a.eval x.1) = args.toList.map a.eval := by
    rw [show (fun x : Operand × TypeId => a.eval x.1) = a.eval ∘ Prod.fst from rfl, ← List.map_map, List.map_fst_zip]
    simp [hsz.1]
  have hrun : (execOp a.eval o).run P w = (callFunc f (args.toList.map a.eval).toArray).run P w := by
    have : (args.toList.map a.eval).toArray = args.map a.eval := by rw [← Array.toList_map, Array.toArray_toList]
    rw [this]
    simp [execOp, ho, resolve, Deferred.ofValue, Act.eval, invoke]
  have pure : ∀ m, (match lookAll Γ A sg.pms (args.toList.zip tys.toList) with
      | some l => pureK Φ act f m l d A K
      | none => none) = some r → Eff P o C A a w G T K r := by
    intro m hk
    split at hk
    · rename_i l hl
      have := lookAll_sound (Γ := Γ) h _ _ hl
      rw [hvals] at this
      exact eff_pureK hΦ hsig hd h this hrun hk
    · cases hk
  split at hk
  rotate_left
  · exact pure _ hk
  split at hk
  rotate_left
  · cases hk
  rename_i l A1 N hg
  have hmem : ∀ x ∈ args.toList.zip tys.toList, ∀ s, T s = false → (opd Γ x.2 A x.1).names s = false := fun x hx s hs => hTn x.1 (List.of_mem_zip hx).1 x.2 s hs
  obtain ⟨G1, F, k1, k2, k3, k4, k5, ⟨⟨M, rfl, hM⟩, k6⟩, k7, k8⟩ := giveAll_sound (T := T) _ sg.pms h hmem (by simp) hg
  rw [List.nil_append] at k1 k2
  rw [hvals] at k2
  exact eff_callK hΦ hsig hd k1 k2 (k6 List.nodup_nil) (fun s hs => hM s (by simpa using hs)) (fun b hb => by simpa using k3 b hb) k4 hrun hk

theorem eff_callTmp {g : Tmp} {args tys} (hΦ : CallsOk P Φ) (ho : o.op = .call { callee := .value (.tmp g), args, argTypes := tys }) (h : RelG C A a w G []) (hTn : ∀ x ∈ args.toList, ∀ t s, T s = false → (opd Γ t A x).names s = false) (hTg : ∀ s, T s = false → (A.slot g).names s = false)
    (hk : opK Γ Φ act o A K = some r) : Eff P o C A a w G T K r := by
  unfold opK at hk
  rw [ho] at hk
  dsimp only at hk
  split at hk
  rotate_left
  · cases hk
  rename_i d f caps0 hd hslot
  split at hk
  rotate_left
  · cases hk
  rename_i sg hsig
  split at hk
  rotate_left
  · cases hk
  rename_i hsz
  split at hk
  rotate_left
  · cases hk
  rename_i l A1 N hg
  split at hk
  rotate_left
  · cases hk
  rename_i f' caps hslot1
  split at hk
  rotate_left
  · cases hk
  rename_i hff
  subst hff
  split at hk
  rotate_left
  · cases hk
  rename_i l' N' hg'
  have hmem : ∀ x ∈ args.toList.zip tys.toList, ∀ s, T s = false → (opd Γ x.2 A x.1).names s = false := fun x hx s hs => hTn x.1 (List.of_mem_zip hx).1 x.2 s hs
  obtain ⟨G1, F, k1, k2, k3, k4, k5, ⟨⟨M, rfl, hM⟩, k6⟩, k7, k8⟩ := giveAll_sound (T := T) _ sg.pms h hmem (by simp) hg
  rw [List.nil_append] at k1 k2
  have hvals : (args.toList.zip tys.toList).map (fun x => a.eval x.1) = args.toList.map a.eval := by
    rw [show (fun x : Operand × TypeId => a.eval x.1) = a.eval ∘ Prod.fst from rfl, ← List.map_map, List.map_fst_zip]
    simp [hsz]
  rw [hvals] at k2
  have hsg := k1.slots g
  rw [hslot1] at hsg
  obtain ⟨cs, hs1, hs2⟩ := hsg
  simp only [SC] at hs1
  obtain ⟨vs, rfl, hsl⟩ := hs1
  have hTc : ∀ s, T s = false → caps.names s = false := by
    intro s hs
    rcases k5 g with e | e
    · have := hTg s hs
      rw [← e, hslot1] at this
      simpa [SV.names] using this
    · rw [hslot1] at e; cases e
  obtain ⟨⟨⟨M', rfl, hM'⟩, q2⟩, q3⟩ := giveCaps_sound (T := T) k1 caps hTc hg' hsl
  have hcaps := capArgs_sound _ _ (q3 _ (Ext.refl _ _ _))
  have hargs := ArgsR_append l (capArgs l') _ _ F [] (ArgsR_frame (fun b hb => hb) (fun j b hb => by
    have e2 : blks G1 (N ++ M') = blks G1 N ++ blks G1 M' := by simp [blks]
    rw [e2, List.getElem?_append_left (List.getElem?_eq_some_iff.1 hb).1]; exact hb) _ _ _ k2) hcaps
  rw [List.append_nil] at hargs
  refine eff_callK hΦ hsig hd k1 hargs (q2 (k6 List.nodup_nil)) (fun s hs => ?_) (fun b hb => by simpa using k3 b hb) k4 ?_ hk
  · rcases List.mem_append.1 hs with hs | hs
    · exact hM s (by simpa using hs)
    · exact (hM' s hs).2
  · have hval : a.eval (.tmp g) = .func (.func f') #[] vs.toArray := hs2
    have : (args.toList.map a.eval ++ vs).toArray = args.map a.eval ++ vs.toArray := by
      rw [← Array.toList_map]; apply Array.ext'; simp
    rw [this]
    simp [execOp, ho, resolve, Deferred.ofValue, hval, invoke]
end
end Go.Am
/- Am, part 29: every operation. -/
set_option linter.unusedVariables false
set_option linter.unusedSimpArgs false
namespace Go.Am

theorem opd_names (Γ : Env) (A : St) (t t' : TypeId) (x : Operand) (s : Nat) : (opd Γ t A x).names s = (opd Γ t' A x).names s := by
  cases x with
  | tmp i => rfl
  | global g => rfl
  | func f => rfl
  | const v =>
    have key : ∀ T, (ofConst Γ T v).names s = false := by
      intro T
      have : ∀ sv : SV, (∃ t x, sv = .val t x) ∨ sv = .nilp ∨ sv = .dead → sv.names s = false := by
        rintro sv (⟨t, x, rfl⟩ | rfl | rfl) <;> rfl
      apply this
      unfold ofConst
      repeat' split
      all_goals first
        | exact .inl ⟨_, _, rfl⟩
        | exact .inr (.inl rfl)
        | exact .inr (.inr rfl)
    rw [show opd Γ t A (.const v) = ofConst Γ t v from rfl, show opd Γ t' A (.const v) = ofConst Γ t' v from rfl, key, key]

/-- The sites that an operation names. -/
def touch (Γ : Env) (A : St) (op : Op) (s : Nat) : Bool := op.operands.toList.any fun x => (opd Γ 0 A x).names s

section
variable {β : Type} {P : Program} {Γ : Env} {C : Ctx} {A : St} {a : Act} {w : World} {G : Nat → GS} {L : List Nat} {K : St → Option β} {r : β} {o : Oper} {B : Nat → Prop}
variable {Φ : Prog} {act : Option Ty}

theorem touch_names {op : Op} {x : Operand} (hx : x ∈ op.operands.toList) {t : TypeId} {s : Nat} (h : touch Γ A op s = false) : (opd Γ t A x).names s = false := by
  rw [opd_names Γ A t 0]
  unfold touch at h
  cases e : (opd Γ 0 A x).names s with
  | false => rfl
  | true => rw [List.any_eq_true.2 ⟨x, hx, e⟩] at h; cases h

structure Known (P : Program) (Γ : Env) (Φ : Prog) : Prop where
  tys : tysOk P Γ = true
  eqs : EqFacts P Γ
  calls : CallsOk P Φ

theorem op_sound (hP : Known P Γ Φ) (h : RelG C A a w G []) (hk : opK Γ Φ act o A K = some r) : Eff P o C A a w G (touch Γ A o.op) K r := by
  have hT := hP.tys
  cases ho : o.op with
  | move x => exact eff_quiet (B := fun _ => True) h (quiet_move (.inl ho) h hk) trivial
  | assign x => exact eff_quiet (B := fun _ => True) h (quiet_move (.inr ho) h hk) trivial
  | pick c x y => exact eff_quiet (B := fun _ => True) h (quiet_pick ho h hk) trivial
  | alloc T => exact eff_alloc hT ho h hk
  | box T x => exact eff_box hT ho h (fun s hs => touch_names (by simp [Op.operands]) hs) hk
  | build T parts => exact eff_build hT ho h (fun q hq s hs => touch_names (by simp [Op.operands]; exact ⟨q.1, by simpa using hq⟩) hs) hk
  | buildSlice T n parts => exact eff_buildSlice hT ho h (fun q hq s hs => touch_names (by simp [Op.operands]; exact ⟨q.1, by simpa using hq⟩) hs) hk
  | load T x => exact eff_quiet (B := fun _ => True) h (quiet_load hT ho h (fun _ _ => trivial) hk) trivial
  | store T x y => exact eff_store hT ho h (fun s hs => ⟨touch_names (by simp [Op.operands]) hs, touch_names (by simp [Op.operands]) hs⟩) hk
  | nilCheck x => exact eff_quiet (B := fun _ => True) h (quiet_nilCheck ho h hk) trivial
  | binOp op T x y yT => exact eff_quiet (B := fun _ => True) h (quiet_binOp hT hP.eqs ho h hk) trivial
  | unOp op T x => exact eff_quiet (B := fun _ => True) h (quiet_unOp ho h hk) trivial
  | convert S D x => exact eff_quiet (B := fun _ => True) h (quiet_convert hT ho h hk) trivial
  | makeFunc fn first caps =>
    cases fn with
    | func f => exact eff_quiet (B := fun _ => True) h (quiet_makeFunc ho h hk) trivial
    | _ => unfold opK at hk; rw [ho] at hk; simp at hk
  | makeSlice T x y => exact eff_makeSlice hT ho h hk
  | slice T x lo hi mx => exact eff_slice hT ho h (fun s hs => touch_names (by simp [Op.operands]) hs) hk
  | fieldAddr T x k => exact eff_quiet (B := fun _ => True) h (quiet_fieldAddr hT ho h hk) trivial
  | field T x k => exact eff_quiet (B := fun _ => True) h (quiet_field hT ho h hk) trivial
  | indexAddr T x ix => exact eff_quiet (B := fun _ => True) h (quiet_indexAddr hT ho h hk) trivial
  | index T x ix => exact eff_quiet (B := fun _ => True) h (quiet_index hT ho h hk) trivial
  | extract t i => exact eff_quiet (B := fun _ => True) h (quiet_extract ho h hk) trivial
  | call c =>
    obtain ⟨callee, args, tys⟩ := c
    cases callee with
    | value f =>
      cases f with
      | func f => exact eff_call hP.calls ho h (fun x hx t s hs => touch_names (by simp [Op.operands, Call.operands] at hx ⊢; exact .inr hx) hs) hk
      | tmp g => exact eff_callTmp hP.calls ho h (fun x hx t s hs => touch_names (by simp [Op.operands, Call.operands] at hx ⊢; exact .inr hx) hs) (fun s hs => touch_names (x := .tmp g) (t := 0) (by simp [Op.operands, Call.operands]) hs) hk
      | const v => unfold opK at hk; rw [ho] at hk; simp at hk
      | global g => unfold opK at hk; rw [ho] at hk; simp at hk
    | invoke r m => unfold opK at hk; rw [ho] at hk; simp at hk
    | builtin b =>
      cases b with
      | len => exact eff_quiet (B := fun _ => True) h (quiet_len hT ho h hk) trivial
      | min => exact eff_quiet (B := fun _ => True) h (quiet_min ho h hk) trivial
      | max => exact eff_quiet (B := fun _ => True) h (quiet_max ho h hk) trivial
      | append => exact eff_append hT ho h (fun x hx t s hs => touch_names (by simp [Op.operands, Call.operands] at hx ⊢; exact hx) hs) hk
      | _ => unfold opK at hk; rw [ho] at hk; simp at hk
  | _ => unfold opK at hk; rw [ho] at hk; simp at hk
end
end Go.Am
/- Am, part 30: regions in their own order, loops, code. -/
set_option linter.unusedVariables false
set_option linter.unusedSimpArgs false
namespace Go.Am

section
variable {β : Type} {P : Program} {Γ : Env} {C : Ctx} {A : St} {a : Act} {w : World} {G : Nat → GS} {L : List Nat} {r : β} {o : Oper}
variable {Φ : Prog} {ann : Ann}

/-- The machine, where the code's end is told by K. -/
def Post (C : Ctx) (K : Ex → St → Option β) (r : β) : Exit → Act → World → Prop
  | .normal, a, w => ∃ A G, K .normal A = some r ∧ RelG C A a w G []
  | .exit i, a, w => ∃ A G, K (.exit i) A = some r ∧ RelG C A a w G []
  | .ret, a, w => ∃ A G, K .ret A = some r ∧ RelG C A a w G []
  | _, _, _ => False

theorem slot_at (h : RelG C A a w G L) {i : Nat} {sv : SV} (e : A.slot i = sv) : SVr w (Sof C w G L) A.site G sv (a.tmps.getD i undef) := by rw [← e]; exact h.slots i

theorem put_bool (h : RelG C A a w G L) {t : Nat} {b : Val .bool} (e : A.slot t = .val .bool b) (b' : Bool) (hb : toB b = b') : RelG C (A.put (some t) (.val .bool (ofB b'))) a w G L := by
  have hv := SVr_bool.1 (slot_at h e)
  have h2 := h.put (some t) (.val .bool (ofB b')) (.bool b') (SVr_bool.2 rfl)
  have ha : a.put (some t) (.bool b') = a := by
    have : a.tmps.setIfInBounds t (.bool b') = a.tmps := by
      apply Array.ext
      · simp
      · intro i h1 h2
        rw [Array.getElem_setIfInBounds (by simpa using h2)]
        split
        · rename_i e2
          subst e2
          rw [← hb, ← hv]
          simp [h2]
        · rfl
    simp only [Act.put, this]
  rwa [ha] at h2

theorem yielded_at {ops : Array Oper} {g t : Nat} {b : Val .bool} (h : RelG C A a w G L) (hg : (ops[g]?).bind (·.dst) = some t) (e : A.slot t = .val .bool b) : yielded ops a.tmps g = some (toB b) := by
  have hv := SVr_bool.1 (slot_at h e)
  unfold yielded
  rw [hg]
  simp only [Option.bind_some]
  have : a.tmps[t]? = some (.bool (toB b)) := by
    rw [Array.getD_eq_getD_getElem?] at hv
    cases h2 : a.tmps[t]? with
    | none => rw [h2] at hv; simp [undef] at hv
    | some v => rw [h2] at hv; simp at hv; rw [hv]
  rw [this]

theorem SVr_undef {S : Nat → Prop} {σ : Nat → Site} : SVr w S σ G .tnil undef := ⟨[.tuple #[]], by simp [SC], rfl⟩
theorem yielded_undef {ops : Array Oper} {g t : Nat} (h : RelG C A a w G L) (hg : (ops[g]?).bind (·.dst) = some t) (e : A.slot t = .tnil) : yielded ops a.tmps g = none := by
  have hv := slot_at h e
  obtain ⟨cs, h1, h2⟩ := hv
  simp only [SC] at h1
  subst h1
  have h2 : a.tmps.getD t undef = .tuple #[] := h2
  unfold yielded
  rw [hg]
  simp only [Option.bind_some]
  rw [Array.getD_eq_getD_getElem?] at h2
  cases h3 : a.tmps[t]? with
  | none => rfl
  | some v => rw [h3] at h2; simp at h2; rw [h2]

theorem opsK_sound (hP : Known P Γ Φ) {ops : Array Oper} {rid : Nat} {K : St → Option β} {Q : Exit → Act → World → Prop} (hQ : ∀ A a w G, K A = some r → RelG C A a w G [] → Q .normal a w) :
    ∀ (l : List Oper) (j : Nat) (A : St) (a : Act) (w : World) (G : Nat → GS), (∀ i, (h : i < l.length) → ops[j + i]? = some l[i]) → opsK Γ Φ ann rid ops l j A K = some r → RelG C A a w G [] → wpOps P ops Q (List.range' j l.length) a w
  | [], j, A, a, w, G, hl, hk, h => hQ A a w G hk h
  | o :: l, j, A, a, w, G, hl, hk, h => by
    have ho : ops[j]? = some o := hl 0 (by simp)
    have hl' : ∀ i, (h : i < l.length) → ops[j + 1 + i]? = some l[i] := fun i hi => by
      have := hl (i + 1) (by simpa using hi)
      rw [show j + 1 + i = j + (i + 1) by omega]
      simpa using this
    rw [List.length_cons, List.range'_succ]
    unfold wpOps
    rw [ho]
    dsimp only
    have step : ∀ {A0 : St}, RelG C A0 a w G [] → opK Γ Φ (actOf ann.acts rid j) o A0 (fun A1 => opsK Γ Φ ann rid ops l (j + 1) A1 K) = some r → o.wp P a w (wpOps P ops Q (List.range' (j + 1) l.length)) Q := by
      intro A0 h0 hk0
      refine Oper.wp_mono (fun a' w' hh => ?_) (op_sound hP h0 hk0 Q)
      obtain ⟨A', G', k1, k2, _, _⟩ := hh
      exact opsK_sound hP hQ l (j + 1) A' a' w' G' hl' k1 k2
    have skip : ∀ {A0 : St}, RelG C A0 a w G [] → opsK Γ Φ ann rid ops l (j + 1) (A0.put o.dst .tnil) K = some r → wpOps P ops Q (List.range' (j + 1) l.length) (a.put o.dst undef) w := by
      intro A0 h0 hk0
      exact opsK_sound hP hQ l (j + 1) _ _ w G hl' hk0 (h0.put _ _ _ SVr_undef)
    rw [opsK] at hk
    split at hk
    · rename_i hg
      have hw : Region.wanted o (yielded ops a.tmps) = true := by simp [Region.wanted, hg]
      rw [if_pos hw]
      exact .inl (step h hk)
    · rename_i g want hg
      split at hk
      · cases hk
      rename_i t ht
      split at hk
      rotate_left
      · rename_i hb
        have hy := yielded_undef h ht hb
        have hw : Region.wanted o (yielded ops a.tmps) = false := by simp [Region.wanted, hg, hy]
        rw [hw]
        exact skip h hk
      · cases hk
      rename_i b hb
      have hy := yielded_at h ht hb
      have hw : Region.wanted o (yielded ops a.tmps) = (toB b == want) := by
        simp [Region.wanted, hg, hy]
      rw [hw]
      cases hbb : toB b with
      | true =>
        rw [hbb] at hk
        have h' := put_bool h hb true hbb
        cases want with
        | true => exact .inl (step h' hk)
        | false => exact skip h' hk
      | false =>
        rw [hbb] at hk
        have h' := put_bool h hb false hbb
        cases want with
        | true => exact skip h' hk
        | false => exact .inl (step h' hk)

/-! ### Loops -/
def LoopWp (P : Program) (c : Code) (Q : Exit → Act → World → Prop) (a : Act) (w : World) : Prop :=
  ∀ (b : Frame) (k : List Item) (cs : List Frame), ∃ e a' w', Q e a' w' ∧ Arrives P (lone (b.at a (.code c :: .inLoop c :: k)) cs w) b k cs e a' w'

theorem wp_of_loop {c : Code} {Q : Exit → Act → World → Prop} (h : LoopWp P c Q a w) : (Code.loop c).wp P Q a w := by
  intro b k cs
  obtain ⟨e, a', w', hq, harr⟩ := h b k cs
  exact ⟨e, a', w', hq, .of_steps (.one step_loop) harr⟩

theorem loop_round {c : Code} {Q : Exit → Act → World → Prop} (h : c.wp P (Exit.then (LoopWp P c Q) Q) a w) : LoopWp P c Q a w := by
  intro b k cs
  obtain ⟨e, a₁, w₁, hq, harr⟩ := h b (.inLoop c :: k) cs
  cases e with
  | normal =>
    obtain ⟨e₂, a₂, w₂, hq₂, harr₂⟩ := hq b k cs
    exact ⟨e₂, a₂, w₂, hq₂, .of_steps (Steps.trans harr (.one step_inLoop)) harr₂⟩
  | exit id => exact ⟨_, a₁, w₁, hq, .pass (x := .inLoop c) rfl (fun _ _ => .inl (by simp)) harr⟩
  | goto l => exact ⟨_, a₁, w₁, hq, .pass (x := .inLoop c) rfl (fun _ _ => .inl (by simp)) harr⟩
  | ret => exact ⟨_, a₁, w₁, hq, .pass (x := .inLoop c) rfl (fun _ _ => .inl (by simp)) harr⟩
  | panic ch => exact ⟨_, a₁, w₁, hq, .pass (x := .inLoop c) rfl (fun _ _ => .inl (by simp)) harr⟩
  | outgrown => exact ⟨_, a₁, w₁, hq, .pass (x := .inLoop c) rfl (fun _ _ => .inl (by simp)) harr⟩
end
end Go.Am
/- Am, part 31a: structs built of plain values, as a quiet operation. -/
set_option linter.unusedVariables false
set_option linter.unusedSimpArgs false
namespace Go.Am

section
variable {β : Type} {P : Program} {Γ : Env} {C : Ctx} {A : St} {a : Act} {w : World} {G : Nat → GS} {L : List Nat} {K : St → Option β} {r : β} {o : Oper} {B : Nat → Prop}
variable {Φ : Prog}

theorem isVal_some {v : SV} (h : isVal v = true) : ∃ t x, v = .val t x := by
  cases v <;> simp [isVal] at h
  exact ⟨_, _, rfl⟩

theorem buildVals {ti : TI} {T'} (hF : TF P Γ T' ti) {fs : Array Field} (hu : P.underlying T' = some (.struct fs)) {places : List (Nat × Nat)} (hpl : fs.toList.mapM (fun f => (P.info? f.type).map fun i => (f.offset, i.size)) = some places) (h : RelG C A a w G []) :
    ∀ (parts : List (Nat × Operand)) (t : Ty) (x : Val t) (cs : List Value) {t' : Ty} {x' : Val t'} {A' : St},
      (∀ q ∈ parts, isVal (opd Γ 0 A q.2) = true) → R w (Sof C w G []) t x cs [] → sameShape t ti.ty = true → buildParts Γ A ti parts t x = some (⟨t', x'⟩, A') →
      A' = A ∧ ∃ cs', R w (Sof C w G []) t' x' cs' [] ∧ Instr.fill (places.toArray[·]?) cs.toArray (parts.map fun q => (q.1, a.eval q.2)) = some cs'.toArray ∧ sameShape t' ti.ty = true
  | [], t, x, cs, t', x', A', hN, hr, hsh, hb => by
    simp only [buildParts, Option.some.injEq, Prod.mk.injEq, Sigma.mk.injEq] at hb
    obtain ⟨⟨rfl, hb⟩, rfl⟩ := hb
    obtain rfl := eq_of_heq hb
    exact ⟨rfl, cs, hr, by simp [Instr.fill], hsh⟩
  | (i, op) :: parts, t, x, cs, t', x', A', hN, hr, hsh, hb => by
    obtain ⟨u, y, hv⟩ := isVal_some (hN (i, op) (by simp))
    have hv : opd Γ 0 A op = .val u y := hv
    rw [buildParts, hv] at hb
    simp only [take] at hb
    split at hb
    rotate_left
    · cases hb
    rename_i u' y' A1 q e1 hq
    simp only [Option.some.injEq, Prod.mk.injEq, Sigma.mk.injEq] at e1
    obtain ⟨⟨rfl, e1⟩, rfl⟩ := e1
    obtain rfl := eq_of_heq e1
    split at hb
    rotate_left
    · cases hb
    rename_i tn xn hset
    split at hb
    rotate_left
    · cases hb
    rename_i hsh2
    have hx := opd_sound Γ 0 h op
    rw [hv] at hx
    obtain ⟨cs2, k2, hvv⟩ := SVr_valR.1 hx
    obtain ⟨fs', f, tq, m1, m2, m3, m4, m5⟩ := field_fact' hF hq hsh
    rw [hu] at m1
    simp only [Option.some.injEq, TypeDesc.struct.injEq] at m1
    subst m1
    obtain ⟨x0, F1, F0, F3, h1, h2, h3, h4⟩ := At_focus (At.plain (w := w) (cs := cs) (loc := none) m3) x [] hr List.nodup_nil
    obtain ⟨h2a, hF3⟩ := List.append_eq_nil_iff.1 h2.symm
    obtain ⟨hF1, hF0⟩ := List.append_eq_nil_iff.1 h2a
    subst hF1; subst hF0; subst hF3
    obtain ⟨tp, xp, hp1, hp2, hp3⟩ := setAt_part _ _ _ _ _ _ hset
    rw [h1] at hp1
    simp only [Option.some.injEq, Sigma.mk.injEq] at hp1
    obtain ⟨rfl, _⟩ := hp1
    rcases h4 with ⟨o2, q1, _, q3, q4⟩ | ⟨b, o2, cur, e, q1, _⟩
    · rw [m3] at q1
      simp only [Option.some.injEq, Prod.mk.injEq, and_true] at q1
      subst q1
      have n2 := q4 w _ u y cs2 [] tn xn hset k2 (fun b hb => ⟨hb, rfl⟩) (by simp)
      simp only [List.append_nil] at n2
      have n4 : cs2.length = cells tq := by rw [R_len _ _ _ _ k2, hp2]
      have n5 : f.offset + cells tq ≤ cs.length := by rw [R_len _ _ _ _ hr]; exact offs_le _ _ _ _ m3
      obtain ⟨e, cs', p2, p3, p5⟩ := buildVals hF hu hpl h parts tn xn _ (fun q hq => hN q (by simp [hq])) n2 hsh2 hb
      refine ⟨e, cs', p2, ?_, p5⟩
      rw [List.map_cons, fill_part (vs := cs2) (off := f.offset) ?_ ?_ (by simp; omega)]
      · rw [← p3, n4]
      · obtain ⟨inf, i1, i2⟩ := m4.info
        have := mapM_get fs.toList places i f hpl (by simpa using m2)
        simp only [List.getElem?_toArray, this, i1, Option.map_some, i2, n4]
      · have hcc := aggV_cells (R_len _ _ _ _ k2) (R_ones _ _ _ _ k2)
        rw [hvv]; exact hcc
    · simp at q1
where
  mapM_get : ∀ (l : List Field) (pl : List (Nat × Nat)) (i : Nat) (f : Field), l.mapM (fun f => (P.info? f.type).map fun i => (f.offset, i.size)) = some pl → l[i]? = some f → pl[i]? = (P.info? f.type).map fun i => (f.offset, i.size)
    | [], pl, i, f, _, hf => by simp at hf
    | g :: l, pl, i, f, hm, hf => by
      rw [List.mapM_cons] at hm
      cases hg : P.info? g.type with
      | none => simp [hg] at hm
      | some ig =>
        cases hl : l.mapM (fun f => (P.info? f.type).map fun i => (f.offset, i.size)) with
        | none => simp [hg, hl] at hm
        | some pl' =>
          simp [hg, hl] at hm
          subst hm
          cases i with
          | zero => simp at hf; subst hf; simp [hg]
          | succ i => simpa using mapM_get l _ i f hl (by simpa using hf)

theorem quiet_build {T' parts} (hT : tysOk P Γ = true) (ho : o.op = .build T' parts) (hval : ∀ q ∈ parts.toList, isVal (opd Γ 0 A q.2) = true)
    (hno : ∀ i rr A', Γ.at T' = some i → buildParts Γ A i parts.toList i.ty (dflt i.ty) = some (rr, A') → noOwn rr.1 = true) (h : RelG C A a w G []) (hk : opK Γ Φ none o A K = some r) : QuietR P o C A a w G [] B K r := by
  unfold opK at hk
  rw [ho] at hk
  dsimp only at hk
  split at hk
  · rename_i d i hd hi
    split at hk
    rotate_left
    · cases hk
    rename_i hself
    rw [Bool.and_eq_true] at hself
    obtain ⟨hst, hself⟩ := hself
    split at hk
    · rename_i t x A1 hb
      have hF := tf_of hT hi
      obtain ⟨fs, places, hu, hpl, hagg⟩ := struct_fact hF hst
      have hne : i.ty ≠ .hole := by intro e; rw [e] at hagg; cases hagg
      have hR := R_dflt (w := w) (S := Sof C w G []) i.ty
      obtain ⟨rfl, cs', p2, p3, p5⟩ := buildVals hF hu hpl h parts.toList i.ty (dflt i.ty) _ hval hR hself hb
      have hn := hno i _ _ hi hb
      have hn : noOwn t = true := hn
      simp only [finK, St.putTree, hn, if_true] at hk
      have hzc := aggV_cells (R_len _ _ _ _ hR) (R_ones _ _ _ _ hR)
      have ht : isAgg t = true := by rw [(shape_same p5).2, hagg]
      refine ⟨.agg cs'.toArray, _, by rw [hd]; exact hk, SVr_valR.2 ⟨cs', p2, by rw [ht]; rfl⟩, fun w' _ => ?_⟩
      have hbt : P.built T' (parts.map fun (q : Nat × Operand) => (q.1, a.eval q.2)).toList = some cs'.toArray := by
        obtain ⟨inf, j1, j2⟩ := hF.zero hne
        simp only [Program.built, j1, hu, j2, hpl, hzc]
        rw [Array.toList_map]; exact p3
      simp [execOp, ho, run_build w' T' _ _ hbt]
    · cases hk
  · cases hk
end
end Go.Am
/- Am, part 31: regions that draw their order: what holds of the world while others may come up first. -/
set_option linter.unusedVariables false
set_option linter.unusedSimpArgs false
namespace Go.Am

/-! ### Orders, with a condition that may depend on what has come up -/
section
variable {P : Program} {ops : Array Oper} {Q : Exit → Act → World → Prop} {S S' : Array Bool → World → Prop}

def wpAnyS (P : Program) (ops : Array Oper) (Q : Exit → Act → World → Prop) (S : Array Bool → World → Prop) : Nat → Array Bool → Act → World → Prop
  | 0, listed, a, w => Region.ready .any ops listed = [] ∧ Q .normal a w
  | fuel + 1, listed, a, w =>
    (Region.ready .any ops listed = [] → Q .normal a w) ∧
    ∀ i ∈ Region.ready .any ops listed, wpOp P ops Q i (fun a' w' => S (listed.setIfInBounds i true) w' ∧ wpAnyS P ops Q S fuel (listed.setIfInBounds i true) a' w') a w

theorem wpAny_of_S : ∀ (fuel : Nat) (listed : Array Bool) (a : Act) (w : World), wpAnyS P ops Q S fuel listed a w → wpAny P .any ops Q fuel listed a w
  | 0, _, _, _, h => h
  | fuel + 1, _, _, _, h => ⟨h.1, fun i hi => wpOp_mono (fun a' w' h' => wpAny_of_S fuel _ a' w' h'.2) (h.2 i hi)⟩

/-- One array lists all that the other lists. -/
def Sup (l0 l : Array Bool) : Prop := ∀ j, l0.getD j true = true → l.getD j true = true
theorem Sup.set {l0 l : Array Bool} (h : Sup l0 l) (i : Nat) : Sup l0 (l.setIfInBounds i true) := fun j hj => by
  by_cases e : i = j
  · subst e
    rcases Nat.lt_or_ge i l.size with h' | h'
    · simp [h']
    · simp [h']
  · rw [getD_set_ne true e]; exact h j hj

theorem wpAnyS_weaken {l0 : Array Bool} (hS : ∀ l w, Sup l0 l → S l w → S' l w) :
    ∀ (fuel : Nat) (listed : Array Bool) (a : Act) (w : World), Sup l0 listed → wpAnyS P ops Q S fuel listed a w → wpAnyS P ops Q S' fuel listed a w
  | 0, _, _, _, _, h => h
  | fuel + 1, _, _, _, hl, h => ⟨h.1, fun i hi => wpOp_mono (fun a' w' h' => ⟨hS _ _ (hl.set i) h'.1, wpAnyS_weaken hS fuel _ a' w' (hl.set i) h'.2⟩) (h.2 i hi)⟩

theorem wpAnyS_first {i : Nat} {oi : Oper} {v : Value} {Good : Array Bool → Prop} {Y : World → Prop} (hi : ops[i]? = some oi) (hsel : ∀ (j : Nat) (o : Oper) cs b, ops[j]? = some o → o.op ≠ .select cs b)
    (hQ : ∀ c a w, Q (.panic c) (a.put oi.dst v) w → Q (.panic c) a w)
    (hG : ∀ l j, Good l → l.getD i true = false → j ∈ Region.ready .any ops l → j ≠ i → Good (l.setIfInBounds j true))
    (hY : ∀ l w, Good l → S l w → Y w) (hSi : ∀ l w, S (l.setIfInBounds i true) w ↔ S l w) :
    ∀ (fuel : Nat) (listed : Array Bool) (a : Act) (w : World),
      (∀ j oj, ops[j]? = some oj → j ≠ i → listed.getD j true = false → (∀ e ∈ oj.after, Region.binds .any e = true → e.on ≠ i) → oi.apart ops oj = true) →
      i ∈ Region.ready .any ops listed → YieldsIf P ops Y oi v a → Good listed → S listed w →
      wpAnyS P ops Q S fuel (listed.setIfInBounds i true) (a.put oi.dst v) w → wpAnyS P ops Q S (fuel + 1) listed a w := by
  intro fuel
  induction fuel with
  | zero =>
    intro listed a w _ hr hy hg hS H
    refine ⟨fun h => (by rw [h] at hr; cases hr), fun j hj => ?_⟩
    by_cases hji : j = i
    · subst hji; exact hy.wpOp hi (hY _ _ hg hS) ⟨(hSi _ _).2 hS, H⟩
    · have := ready_mono hj hji
      rw [H.1] at this
      cases this
  | succ fuel ih =>
    intro listed a w hfree hr hy hg hS H
    refine ⟨fun h => (by rw [h] at hr; cases hr), fun j hj => ?_⟩
    by_cases hji : j = i
    · subst hji; exact hy.wpOp hi (hY _ _ hg hS) ⟨(hSi _ _).2 hS, H⟩
    · have h1 := H.2 j (ready_mono hj hji)
      obtain ⟨hjun, oj, hoj, hall⟩ := mem_ready.1 hj
      have h0 := (mem_ready.1 hr).1
      have hnot : ∀ e ∈ oj.after, Region.binds .any e = true → e.on ≠ i := fun e he hb heq => by
        have h1 := hall e he hb
        rw [heq] at h1
        rcases Nat.lt_or_ge i listed.size with h' | h'
        · simp [h'] at h0 h1; rw [h0] at h1; cases h1
        · simp [Array.getElem?_eq_none h'] at h1
      have h2 := wpOp_putIf hoj (hfree j oj hoj hji hjun hnot) (fun cs b => hsel i oi cs b hi) (fun cs b => hsel j oj cs b hoj) hQ hy h1
      have hfree' : ∀ k ok, ops[k]? = some ok → k ≠ i → (listed.setIfInBounds j true).getD k true = false →
          (∀ e ∈ ok.after, Region.binds .any e = true → e.on ≠ i) → oi.apart ops ok = true := fun k ok hk hki hun hno => by
        refine hfree k ok hk hki ?_ hno
        by_cases hjk : j = k
        · subst hjk; exact hjun
        · rw [getD_set_ne true hjk] at hun; exact hun
      have hcomm := Array.setIfInBounds_comm (xs := listed) true true hji
      refine wpOp_mono (fun a' w' h3 => ?_) h2
      obtain ⟨h3a, h3b, h3c⟩ := h3
      rw [← hcomm] at h3b h3c
      have hSj := (hSi _ _).1 h3b
      exact ⟨hSj, ih (listed.setIfInBounds j true) a' w' hfree' (ready_mono hr (Ne.symm hji)) h3a (hG _ _ hg h0 hj hji) hSj h3c⟩
end

/-! ### Who waits -/
theorem depStep_sub (ops : Array Oper) (i : Nat) (S : List Nat) (q : Nat) : ∀ x ∈ S, x ∈ depStep ops i S q := by
  intro x hx
  unfold depStep
  split
  · split
    · exact List.mem_cons_of_mem _ hx
    · exact hx
  · exact hx
theorem depFold (ops : Array Oper) (i : Nat) : ∀ (l : List Nat) (S : List Nat), (∀ x ∈ S, x ∈ l.foldl (depStep ops i) S) ∧
    ∀ q ∈ l.foldl (depStep ops i) S, q ∈ S ∨ ∃ o, ops[q]? = some o ∧ ∃ e ∈ o.after, Region.binds .any e = true ∧ (e.on = i ∨ e.on ∈ l.foldl (depStep ops i) S)
  | [], S => ⟨fun x hx => hx, fun q hq => .inl hq⟩
  | k :: l, S => by
    obtain ⟨h1, h2⟩ := depFold ops i l (depStep ops i S k)
    refine ⟨fun x hx => h1 x (depStep_sub ops i S k x hx), fun q hq => ?_⟩
    rcases h2 q hq with h | h
    · unfold depStep at h
      split at h
      · rename_i o ho
        split at h
        · rename_i hany
          rcases List.mem_cons.1 h with rfl | h
          · obtain ⟨e, he, hb⟩ := List.any_eq_true.1 hany
            rw [Bool.and_eq_true, Bool.or_eq_true] at hb
            refine .inr ⟨o, ho, e, by simpa using he, hb.1, ?_⟩
            rcases hb.2 with hb | hb
            · exact .inl (by simpa using hb)
            · exact .inr (h1 _ (depStep_sub ops i S q _ (by simpa using hb)))
          · exact .inl h
        · exact .inl h
      · exact .inl h
    · exact .inr h
theorem depOn_spec {ops : Array Oper} {i q : Nat} (h : q ∈ depOn ops i) : ∃ o, ops[q]? = some o ∧ ∃ e ∈ o.after, Region.binds .any e = true ∧ (e.on = i ∨ e.on ∈ depOn ops i) := by
  rcases (depFold ops i (List.range ops.size) []).2 q h with h | h
  · cases h
  · exact h
theorem getD_both {l : Array Bool} {j : Nat} (h : l.getD j true = false) : l.getD j false = false := by
  rcases Nat.lt_or_ge j l.size with h' | h'
  · simp [h'] at h ⊢; exact h
  · simp [Array.getElem?_eq_none h'] at h
/-- Nobody who waits for i has come up. -/
def Unfed (ops : Array Oper) (i : Nat) (l : Array Bool) : Prop := ∀ q ∈ depOn ops i, l.getD q true = false
theorem Unfed.step {ops : Array Oper} {i j : Nat} {l : Array Bool} (h : Unfed ops i l) (hi : l.getD i true = false) (hj : j ∈ Region.ready .any ops l) : Unfed ops i (l.setIfInBounds j true) := by
  intro q hq
  by_cases e : j = q
  · subst e
    exfalso
    obtain ⟨o, ho, e, he, hb, hon⟩ := depOn_spec hq
    obtain ⟨_, o', ho', hall⟩ := mem_ready.1 hj
    rw [ho] at ho'
    obtain rfl := Option.some.inj ho'
    have hl := hall e he hb
    rcases hon with rfl | hon
    · rw [getD_both hi] at hl; cases hl
    · rw [getD_both (h _ hon)] at hl; cases hl
  · rw [getD_set_ne true e]; exact h q hq

/-! ### The context, begun anew: what is in limbo belongs to nobody -/
section
variable {C : Ctx} {A A' : St} {a a' : Act} {w w' : World} {G G' : Nat → GS} {L : List Nat}

theorem nth_over : ∀ (l : List Site) (i : Nat), l.length ≤ i → nth .none l i = .none
  | [], _, _ => rfl
  | _ :: _, 0, h => by simp at h
  | _ :: l, n + 1, h => nth_over l n (by simpa using h)
def owned (A : St) (G : Nat → GS) : List Nat := (List.range A.sites.length).flatMap fun s => (G s).F
theorem mem_owned (h : RelG C A a w G L) {b : Nat} : b ∈ owned A G ↔ ∃ s, b ∈ (G s).F := by
  unfold owned
  constructor
  · intro hb
    obtain ⟨s, _, hs⟩ := List.mem_flatMap.1 hb
    exact ⟨s, hs⟩
  · rintro ⟨s, hs⟩
    refine List.mem_flatMap.2 ⟨s, ?_, hs⟩
    rw [List.mem_range]
    rcases Nat.lt_or_ge s A.sites.length with h' | h'
    · exact h'
    · have := h.sites s
      have hn : A.site s = .none := by
        unfold St.site
        exact nth_over _ _ h'
      rw [hn] at this
      rw [show (G s).F = [] from this] at hs
      cases hs
def Ctx.anew (C : Ctx) (A : St) (w : World) (G : Nat → GS) (L : List Nat) : Ctx := { w0 := w, S0 := Sof C w G L, M0 := owned A G, pins := C.pins }

theorem sof_anew (h : RelG C A a w G L) {b : Nat} (hb : Sof C w G L b) : Sof (C.anew A w G L) w G [] b := ⟨hb.1, .inl hb, hb.2.2.1, by simp⟩

theorem RelG.anew (h : RelG C A a w G L) : RelG (C.anew A w G L) A a w G [] where
  slots i := by
    obtain ⟨cs, h1, h2⟩ := h.slots i
    exact ⟨cs, SC_frame (fun b hb => ⟨sof_anew h hb, rfl⟩) _ _ (every_all (fun r s' q => Lives.same (h.sites s') (fun _ _ => rfl) _ _) _) h1, h2⟩
  sites s := SiteR_frame (fun b hb => ⟨sof_anew h hb, rfl⟩) (fun _ _ => rfl) (h.sites s)
  nodup := h.nodup
  apart := h.apart
  mine s b hb := ⟨.inr ((mem_owned h).2 ⟨s, hb⟩), (h.mine s b hb).2⟩
  lnodup := by simp
  lapart := by simp
  lmine := by simp
  s0 b hb := ⟨fun hm => by obtain ⟨s, hs⟩ := (mem_owned h).1 hm; exact hb.2.2.1 s hs, hb.1⟩
  os := rfl
  tape := rfl
  output := rfl
  size := Nat.le_refl _
  frame b _ _ := rfl
  defers := h.defers
  len := h.len
  pinlen := h.pinlen
  pin := h.pin

theorem RelG.back (h : RelG C A a w G L) (h' : RelG (C.anew A w G L) A' a' w' G' []) : RelG C A' a' w' G' L ∧ (∀ b ∈ L, w'.heap[b]? = w.heap[b]?) ∧ ∀ b, Sof (C.anew A w G L) w' G' [] b → Sof C w' G' L b := by
  have hapart : ∀ b, (w.heap.size ≤ b ∨ b ∈ owned A G) → b ∉ L ∧ (C.w0.heap.size ≤ b ∨ b ∈ C.M0) := by
    rintro b (hb | hb)
    · exact ⟨fun hl => by have := (h.lmine b hl).2; omega, .inl (Nat.le_trans h.size hb)⟩
    · obtain ⟨s, hs⟩ := (mem_owned h).1 hb
      exact ⟨h.lapart s b hs, (h.mine s b hs).1⟩
  have hS : ∀ b, Sof (C.anew A w G L) w' G' [] b → Sof C w' G' L b := by
    rintro b ⟨h1, h2, h3, _⟩
    rcases h2 with h2 | h2 | h2
    · exact ⟨h1, h2.2.1, h3, h2.2.2.2⟩
    · obtain ⟨q1, q2⟩ := hapart b (.inl h2)
      exact ⟨h1, .inr q2, h3, q1⟩
    · obtain ⟨q1, q2⟩ := hapart b (.inr h2)
      exact ⟨h1, .inr q2, h3, q1⟩
  refine ⟨{
    slots := fun i => by
      obtain ⟨cs, h1, h2⟩ := h'.slots i
      exact ⟨cs, SC_frame (fun b hb => ⟨hS b hb, rfl⟩) _ _ (every_all (fun r s' q => Lives.same (h'.sites s') (fun _ _ => rfl) _ _) _) h1, h2⟩
    sites := fun s => SiteR_frame (fun b hb => ⟨hS b hb, rfl⟩) (fun _ _ => rfl) (h'.sites s)
    nodup := h'.nodup
    apart := h'.apart
    mine := fun s b hb => ⟨(hapart b (h'.mine s b hb).1).2, (h'.mine s b hb).2⟩
    lnodup := h.lnodup
    lapart := fun s b hb => (hapart b (h'.mine s b hb).1).1
    lmine := fun b hb => ⟨(h.lmine b hb).1, Nat.lt_of_lt_of_le (h.lmine b hb).2 h'.size⟩
    s0 := h.s0
    os := h'.os.trans h.os
    tape := h'.tape.trans h.tape
    output := h'.output.trans h.output
    size := Nat.le_trans h.size h'.size
    frame := fun b hb hm => by
      rw [h'.frame b (Nat.lt_of_lt_of_le hb h.size) (fun hm' => ?_)]
      · exact h.frame b hb hm
      · obtain ⟨s, hs⟩ := (mem_owned h).1 hm'
        rcases (h.mine s b hs).1 with h1 | h1
        · omega
        · exact hm h1
    defers := h'.defers
    len := h'.len
    pinlen := h'.pinlen
    pin := h'.pin }, fun b hb => h'.frame b (h.lmine b hb).2 (fun hm => by
      obtain ⟨s, hs⟩ := (mem_owned h).1 hm
      exact h.lapart s b hs hb), hS⟩
end
end Go.Am
/- Am, part 31b: makers of something new that may come up early. -/
set_option linter.unusedVariables false
set_option linter.unusedSimpArgs false
namespace Go.Am

section
variable {β : Type} {P : Program} {Γ : Env} {C : Ctx} {A : St} {a : Act} {w : World} {G : Nat → GS} {r : β} {o : Oper} {K : St → Option β}
variable {Φ : Prog} {ann : Ann} {act : Option Ty}

theorem const_opd {x : Operand} (h : isConst x = true) (A : St) : (∃ t y, opd Γ 0 A x = .val t y ∧ ∀ B, opd Γ 0 B x = .val t y) ∨ (∀ B : St, take (opd Γ 0 B x) B = none) := by
  cases x with
  | const v =>
    have : (∃ t y, ofConst Γ 0 v = .val t y) ∨ ofConst Γ 0 v = .nilp ∨ ofConst Γ 0 v = .dead := by
      unfold ofConst
      repeat' split
      all_goals first
        | exact .inl ⟨_, _, rfl⟩
        | exact .inr (.inl rfl)
        | exact .inr (.inr rfl)
    rcases this with ⟨t, y, e⟩ | e | e
    · exact .inl ⟨t, y, e, fun B => e⟩
    · exact .inr fun B => by rw [show opd Γ 0 B (.const v) = ofConst Γ 0 v from rfl, e]; rfl
    · exact .inr fun B => by rw [show opd Γ 0 B (.const v) = ofConst Γ 0 v from rfl, e]; rfl
  | _ => simp [isConst] at h

theorem rowParts_const (A B : St) (u : Ty) : ∀ (parts : List (Nat × Operand)) (l : List (Val u)), parts.all (fun q => isConst q.2) = true → rowParts Γ A u l parts = (rowParts Γ B u l parts).map (fun q => (q.1, A))
  | [], l, _ => rfl
  | (i, x) :: r, l, h => by
    rw [List.all_cons, Bool.and_eq_true] at h
    rw [rowParts, rowParts]
    rcases const_opd (Γ := Γ) h.1 A with ⟨t, y, e1, e2⟩ | e
    · rw [e1, e2 B]
      simp only [take]
      cases coeV? t y u with
      | none => rfl
      | some z =>
        dsimp only
        split
        · exact rowParts_const A B u r _ h.2
        · rfl
    · rw [e A, e B]; rfl

theorem opK_const {T : TypeId} {n : Nat} {parts : Array (Nat × Operand)} (ho : o.op = .buildSlice T n parts) (hc : parts.toList.all (fun q => isConst q.2) = true) {d : Nat} (hd : o.dst = some d) (A : St) (K : St → Option β) :
    opK Γ Φ act o A K = match constRow Γ T n parts.toList with
      | some ⟨t, x⟩ => finK act d t x A K
      | none => none := by
  unfold opK constRow
  rw [ho]
  dsimp only
  rw [hd]
  cases hi : Γ.at T with
  | none => rfl
  | some i =>
    dsimp only
    cases hty : i.ty with
    | ow e t0 =>
      dsimp only
      by_cases hsz : n * cells t0 ≤ 16777216
      · rw [if_pos hsz, if_pos hsz]
        cases hp : parts.toList with
        | nil =>
          dsimp only
          by_cases hn : n = 0
          · rw [if_pos hn, if_pos hn]
          · rw [if_neg hn, if_neg hn]
        | cons q r =>
          obtain ⟨j, x⟩ := q
          rw [hp, List.all_cons, Bool.and_eq_true] at hc
          dsimp only
          rcases const_opd (Γ := Γ) hc.1 A with ⟨t, y, e1, e2⟩ | e
          · rw [e1, e2 ⟨[], []⟩]
            simp only [take]
            by_cases hs : sameShape t t0 = true ∧ j < n
            · rw [if_pos hs, if_pos hs, rowParts_const A ⟨[], []⟩ t r _ hc.2]
              cases rowParts Γ ⟨[], []⟩ t ((List.replicate n (dflt t)).set j y) r with
              | none => rfl
              | some q => rfl
            · rw [if_neg hs, if_neg hs]
          · rw [e A, e ⟨[], []⟩]
      · rw [if_neg hsz, if_neg hsz]
    | _ => rfl

/-- What a maker has left behind. -/
def Made (Γ : Env) (o : Oper) (v : Value) (w : World) (F : List Nat) : Prop :=
  (∃ T i b, o.op = .alloc T ∧ Γ.at T = some i ∧ F = [b] ∧ v = .pointer (some ⟨b, 0, none⟩) ∧ w.heap[b]? = some (.cells (zeroCells i.ty).toArray T (0, 0))) ∨
  (∃ T n parts t x cs, o.op = .buildSlice T n parts ∧ constRow Γ T n parts.toList = some ⟨t, x⟩ ∧ v = aggV (isAgg t) cs ∧ ∀ S, R w S t x cs F)

theorem Made.keep {v : Value} {w w' : World} {F : List Nat} (h : Made Γ o v w F) (hF : ∀ b ∈ F, w'.heap[b]? = w.heap[b]?) (hc : ∀ T n parts t x, o.op = .buildSlice T n parts → constRow Γ T n parts.toList = some ⟨t, x⟩ → clean t = true) : Made Γ o v w' F := by
  rcases h with ⟨T, i, b, h1, h2, rfl, h4, h5⟩ | ⟨T, n, parts, t, x, cs, h1, h2, h3, h4⟩
  · exact .inl ⟨T, i, b, h1, h2, rfl, h4, by rw [hF b (by simp)]; exact h5⟩
  · refine .inr ⟨T, n, parts, t, x, cs, h1, h2, h3, fun S => ?_⟩
    exact R_clean _ _ _ _ (hc _ _ _ _ _ h1 h2) (R_frame (S := fun _ => False) (S' := fun _ => False) (fun b hb => hb.elim) _ _ _ _ hF (h4 _))

theorem put_same {a : Act} {d : Nat} {v : Value} (h : a.tmps.getD d undef = v) : a.put (some d) v = a := by
  have : a.tmps.setIfInBounds d v = a.tmps := by
    apply Array.ext
    · simp
    · intro i h1 h2
      rw [Array.getElem_setIfInBounds (by simpa using h2)]
      split
      · rename_i e
        subst e
        rw [← h]
        simp [h2]
      · rfl
  simp only [Act.put, this]

/-- A variable that was made earlier. -/
theorem varSiteL {L : List Nat} {t : Ty} {x : Val t} {cs : List Value} {T' : TypeId} {b d : Nat} (h : RelG C A a w G (L ++ [b])) (hb : w.heap[b]? = some (.cells cs.toArray T' (0, 0))) (hr : R w (Sof C w G (L ++ [b])) t x cs []) (e : A.site d = .none) :
    ∃ G', RelG C ((A.setSite d (.var T' t x)).put (some d) (.ptr d [])) (a.put (some d) (.pointer (some ⟨b, 0, none⟩))) w G' L ∧ (∀ c, Sof C w G (L ++ [b]) c → Sof C w G' L c) ∧ ∀ T, Frm w w A ((A.setSite d (.var T' t x)).put (some d) (.ptr d [])) G G' T := by
  have hF : (G d).F = [] := by have := h.sites d; rw [e] at this; exact this
  have hn := List.nodup_append.1 h.lnodup
  have hbL : b ∉ L := fun hm => hn.2.2 b hm b (by simp) rfl
  have hS : ∀ c, Sof C w G (L ++ [b]) c → Sof C w (upd G d ⟨cs, [b], b⟩) L c := fun c hc => ⟨hc.1, hc.2.1, fun s' => by
    by_cases e : s' = d
    · subst e; rw [upd_same]; intro hm; exact hc.2.2.2 (by simp at hm; simp [hm])
    · rw [upd_ne _ _ e]; exact hc.2.2.1 s', fun hm => hc.2.2.2 (by simp [hm])⟩
  have h2 := h.site (A' := A.setSite d (.var T' t x)) (L' := L) d ⟨cs, [b], b⟩ (Goes.refl w) (fun _ _ _ _ => rfl) (fun s' hs' => by rw [site_setSite, if_neg hs']) rfl
    (fun c hc => ⟨.inr (.inl (by simp at hc; simp [hc])), (h.lmine c (by simp at hc; simp [hc])).2⟩) (by simp)
    (fun c hc => ⟨.inr (.inl (by simp [hc])), (h.lmine c (by simp [hc])).2⟩) hn.1 (fun c hc hm => by simp at hc; subst hc; exact hbL hm)
    (fun S' hS' _ => by
      rw [site_setSite, if_pos rfl]
      exact ⟨[], rfl, hb, R_frame hS' _ _ _ _ (fun _ _ => rfl) hr⟩)
    (fun i => .inr ⟨rfl, every_all (fun r s' q => by
      by_cases e' : s' = d
      · subst e'; rw [e]; intro _ _ _ hh; exact hh.elim
      · rw [site_setSite, if_neg e', upd_ne _ _ e']; exact Lives.same (h.sites s') (fun _ _ => rfl) _ _) _⟩)
    (fun q' hq' e' => h.nopin (fun T t x e2 => by rw [e] at e2; cases e2) q' hq' e')
  refine ⟨_, h2.put (some d) _ _ ?_, hS, fun T => Frm.site d _ (.inr e) (fun s hne => by rw [site_put, site_setSite, if_neg hne]) (fun _ _ _ _ => rfl)⟩
  refine SVr_ptr.2 ⟨t, (cs.drop 0).take (cells t), b, 0 + 0, ?_, rfl⟩
  rw [site_setSite, if_pos rfl, upd_same]
  exact At.plain (loc := some (b, 0)) (t := t) (p := []) (o := 0) (t' := t) (by simp [offs])

/-- What was made early is taken up. -/
theorem settle {L F : List Nat} {v : Value} {d nt : Nat} (hT : tysOk P Γ = true) (hm : Made Γ o v w F) (hmk : isMaker Γ act nt o = true) (hd : o.dst = some d) (h : RelG C A a w G (L ++ F)) (hk : opK Γ Φ act o A K = some r) :
    ∃ A' G', K A' = some r ∧ RelG C A' (a.put (some d) v) w G' L ∧ (∀ c, Sof C w G (L ++ F) c → Sof C w G' L c) ∧ ∀ T, Frm w w A A' G G' T := by
  rcases hm with ⟨T, i, b, h1, h2, rfl, rfl, h5⟩ | ⟨T, n, parts, t, x, cs, h1, h2, rfl, h4⟩
  · unfold opK at hk
    rw [h1] at hk
    dsimp only at hk
    rw [hd, h2] at hk
    dsimp only at hk
    split at hk
    · rename_i hn
      split at hk
      · cases hk
      · obtain ⟨G', k1, k2, k3⟩ := varSiteL h h5 (R_dflt i.ty) hn
        exact ⟨_, G', hk, k1, k2, k3⟩
    · cases hk
  · unfold isMaker at hmk
    rw [h1, hd] at hmk
    simp only [Bool.and_eq_true] at hmk
    obtain ⟨_, ⟨⟨_, hact⟩, hc⟩, _⟩ := hmk
    have hact : act = none := by simpa using hact
    subst hact
    rw [opK_const h1 hc hd, h2] at hk
    dsimp only at hk
    unfold finK at hk
    dsimp only at hk
    split at hk
    · rename_i A1 hp
      obtain ⟨G', k1, k2, k3⟩ := putTree_sound h (h4 _) hp
      exact ⟨A1, G', hk, k1, fun c hc => (k2 c hc).1, k3⟩
    · cases hk

/-! ### A maker that comes up early -/
theorem wp_shape {Q : Exit → Act → World → Prop} {K : Act → World → Prop} (h : o.wp P a w K Q) : o.wp P a w (fun a' w' => K a' w' ∧ ∃ v ds, a' = ({ a with defers := ds } : Act).put o.dst v) Q := by
  unfold Oper.wp at *
  generalize (execOp a.eval o).run P w = r at *
  cases r with
  | ok n w' =>
    cases n <;> simp only [Oper.upon] at h ⊢
    case value u => exact ⟨h, u, a.defers, rfl⟩
    case skip => exact ⟨h, undef, a.defers, rfl⟩
    case defer x => exact ⟨h, undef, x :: a.defers, rfl⟩
    case enter f args =>
      refine Calls.mono h fun e w'' he => ?_
      cases e with
      | returned u => exact ⟨he, u, a.defers, rfl⟩
      | panicked c => exact he
      | outgrown => exact he
    case row row args => exact Rows.mono h fun u w'' he => ⟨he, u, a.defers, rfl⟩
  | halt x w' =>
    cases x <;> simp only [Oper.upon] at h ⊢
    case panic u => exact h

def bare (n : Nat) : St := ⟨List.replicate n .dead, []⟩
def noG (s : Nat) : GS := ⟨[], [], 0⟩
theorem bare_slot (n i : Nat) : (bare n).slot i = .dead := by
  unfold St.slot bare
  induction n generalizing i with
  | zero => rfl
  | succ n ih => cases i with
    | zero => rfl
    | succ i => exact ih i
theorem bare_rel (hd : a.defers = []) : RelG { w0 := w, S0 := fun _ => False, M0 := [] } (bare a.tmps.size) a w noG [] where
  slots i := by rw [bare_slot]; exact SVr_dead _ _ _ _ _
  sites s := rfl
  nodup s := by simp [noG]
  apart s s' _ b hb := by simp [noG] at hb
  mine s b hb := by simp [noG] at hb
  lnodup := by simp
  lapart s b hb := by simp [noG] at hb
  lmine b hb := by simp at hb
  s0 b hb := hb.elim
  os := rfl
  tape := rfl
  output := rfl
  size := Nat.le_refl _
  frame b _ _ := rfl
  defers := hd
  len := by simp [bare]
  pinlen q hq := by simp at hq
  pin q hq := by simp at hq

theorem constRow_ow {T : TypeId} {n : Nat} {parts : List (Nat × Operand)} {t : Ty} {x : Val t} (h : constRow Γ T n parts = some ⟨t, x⟩) : ∃ e u, t = .ow e u := by
  unfold constRow at h
  repeat' split at h
  all_goals first
    | cases h; done
    | (simp only [Option.some.injEq, Sigma.mk.injEq] at h; exact ⟨_, _, h.1.symm⟩)

/-- What an early maker does. -/
theorem made_wp {d nt : Nat} (hP : Known P Γ Φ) (hmk : isMaker Γ act nt o = true) (hd : o.dst = some d) (hdef : a.defers = []) (hnt : a.tmps.size = nt) (Q : Exit → Act → World → Prop) :
    o.wp P a w (fun a' w' => ∃ v F, a' = a.put (some d) v ∧ Goes w w' ∧ (∀ b, b < w.heap.size → w'.heap[b]? = w.heap[b]?) ∧ F.Nodup ∧ (∀ b ∈ F, w.heap.size ≤ b ∧ b < w'.heap.size) ∧ Made Γ o v w' F) Q := by
  have hT := hP.tys
  have hrel := bare_rel (w := w) hdef
  have hdn : d < nt := by
    unfold isMaker at hmk
    rw [hd, Bool.and_eq_true] at hmk
    have h2 := hmk.2
    split at h2
    · rename_i e; obtain rfl := Option.some.inj e; simp only [Bool.and_eq_true, decide_eq_true_eq] at h2; exact h2.1
    · rename_i e; obtain rfl := Option.some.inj e; simp only [Bool.and_eq_true, decide_eq_true_eq] at h2; exact h2.1.1.1
    · cases h2
  have hslots : (bare a.tmps.size).slots.length = nt := by simp [bare, hnt]
  -- what the machine makes of it on a bare state
  have fin : ∀ (A1 : St), opK Γ Φ act o (bare a.tmps.size) some = some A1 →
      (∀ v w' G', RelG { w0 := w, S0 := fun _ => False, M0 := [] } A1 (a.put (some d) v) w' G' [] → ∃ F, F.Nodup ∧ (∀ b ∈ F, b ∈ (G' d).F) ∧ Made Γ o v w' F) →
      o.wp P a w (fun a' w' => ∃ v F, a' = a.put (some d) v ∧ Goes w w' ∧ (∀ b, b < w.heap.size → w'.heap[b]? = w.heap[b]?) ∧ F.Nodup ∧ (∀ b ∈ F, w.heap.size ≤ b ∧ b < w'.heap.size) ∧ Made Γ o v w' F) Q := by
    intro A1 hk hmade
    refine Oper.wp_mono (fun a' w' hh => ?_) (wp_shape (op_sound (Φ := Φ) hP hrel hk Q))
    obtain ⟨⟨A', G', k1, k2, _, _⟩, v, ds, e⟩ := hh
    obtain rfl := Option.some.inj k1
    rw [hd] at e
    have hds : ds = [] := by
      have := k2.defers
      rw [e] at this
      simpa [Act.put] using this
    have ea : a' = a.put (some d) v := by
      rw [e, hds]
      cases a
      simp only at hdef
      rw [hdef]
    rw [ea] at k2
    obtain ⟨F, f1, f2, f3⟩ := hmade v w' G' k2
    refine ⟨v, F, ea, ⟨k2.os, k2.tape, k2.output, k2.size⟩, fun b hb => k2.frame b hb (by simp), f1, fun b hb => ?_, f3⟩
    have := k2.mine d b (f2 b hb)
    exact ⟨this.1.elim id (fun h => by simp at h), this.2⟩
  have hval : ∀ v, (a.put (some d) v).tmps.getD d undef = v := by
    intro v
    simp [Act.put, hnt, hdn]
  unfold isMaker at hmk
  rw [hd, Bool.and_eq_true] at hmk
  have h2 := hmk.2
  split at h2
  · rename_i T d' ho e
    obtain rfl := Option.some.inj e
    simp only [Bool.and_eq_true] at h2
    cases hi : Γ.at T with
    | none => rw [hi] at h2; simp at h2
    | some i =>
      rw [hi] at h2
      have hh : i.ty ≠ .hole := by simpa using h2.2
      have hR := R_dflt (w := w) (S := fun _ => False) i.ty
      have hz := zero_run (tf_of hT hi) hh w
      have hc := aggV_cells (R_len _ _ _ _ hR) (R_ones _ _ _ _ hR)
      have hrun : (execOp a.eval o).run P w = .ok (.value (.pointer (some ⟨w.heap.size, 0, none⟩))) (w.alloc (.cells (zeroCells i.ty).toArray T)) := by
        simp [execOp, ho, Instr.alloc, hz, run_newVar, hc]
      unfold Oper.wp
      rw [hrun]
      refine ⟨_, [w.heap.size], by rw [hd], ⟨rfl, rfl, rfl, by rw [size_alloc]; omega⟩, fun b hb => heap_alloc_old w _ b hb, by simp, fun b hb => ?_, .inl ⟨T, i, _, ho, hi, rfl, rfl, heap_alloc_new _ _⟩⟩
      simp only [List.mem_singleton] at hb
      subst hb
      rw [size_alloc]; omega
  · rename_i T n parts d' ho e
    obtain rfl := Option.some.inj e
    simp only [Bool.and_eq_true] at h2
    obtain ⟨⟨⟨_, hact⟩, hcst⟩, hcl⟩ := h2
    have hact : act = none := by simpa using hact
    subst hact
    cases hrow : constRow Γ T n parts.toList with
    | none => rw [hrow] at hcl; simp at hcl
    | some q =>
      obtain ⟨t, x⟩ := q
      rw [hrow] at hcl
      simp only [Bool.and_eq_true, Bool.not_eq_true'] at hcl
      obtain ⟨e', u', rfl⟩ := constRow_ow hrow
      have hk1 : opK Γ Φ none o (bare a.tmps.size) some = some (((bare a.tmps.size).setSite d (.tmp (.ow e' u') x)).put (some d) (.ref d [])) := by
        rw [opK_const ho hcst hd, hrow]
        rfl
      refine fin _ hk1 ?_
      intro v w' G' hr
      have hs := hr.sites d
      rw [site_put, site_setSite, if_pos rfl] at hs
      have hsl := hr.slots d
      rw [slot_put, hval, if_pos ⟨rfl, by rw [show ((bare a.tmps.size).setSite d (Site.tmp (.ow e' u') x)).slots = (bare a.tmps.size).slots from rfl, hslots]; exact hdn⟩] at hsl
      obtain ⟨cs, h1, rfl⟩ := hsl
      simp only [SC] at h1
      obtain ⟨e2, t1, loc', hAt⟩ := h1
      rw [site_put, site_setSite, if_pos rfl] at hAt
      obtain ⟨_, h3, _⟩ := At_nil hAt rfl
      refine ⟨(G' d).F, hr.nodup d, fun b hb => hb, .inr ⟨T, n, parts, _, x, cs, ho, hrow, rfl, fun S => ?_⟩⟩
      have hs' : R w' (Sof { w0 := w, S0 := fun _ => False, M0 := [] } w' G' []) (.ow e' u') x (G' d).cs (G' d).F := hs
      have hl := R_len _ _ _ _ hs'
      rw [h3, List.drop_zero, List.take_of_length_le (by omega)]
      exact R_clean _ _ _ _ hcl.1 hs'
  · cases h2
end
end Go.Am
/- Am, part 31c: regions that draw their order. -/
set_option linter.unusedVariables false
set_option linter.unusedSimpArgs false
namespace Go.Am

/-! ### Early ones, beside the machine's state -/
structure Ear where
  i : Nat
  d : Nat
  v : Value
  F : List Nat
def puts (a : Act) : List Ear → Act
  | [] => a
  | e :: E => (puts a E).put (some e.d) e.v
def earF (E : List Ear) : List Nat := E.flatMap (·.F)

theorem puts_put (a : Act) (d : Option Nat) (v : Value) : ∀ (E : List Ear), (∀ e ∈ E, d ≠ some e.d) → puts (a.put d v) E = (puts a E).put d v
  | [], _ => rfl
  | e :: E, h => by
    rw [puts, puts, puts_put a d v E (fun e' he => h e' (by simp [he]))]
    exact (Act.put_comm _ _ _ (fun x hx e2 => h e (by simp) (by rw [hx, e2]))).symm

theorem puts_mid (a : Act) (E1 : List Ear) (e : Ear) (E2 : List Ear) (h : ∀ x ∈ E1 ++ E2, x.d ≠ e.d) : puts a (E1 ++ e :: E2) = puts (a.put (some e.d) e.v) (E1 ++ E2) := by
  induction E1 with
  | nil =>
    rw [List.nil_append, List.nil_append, puts, puts_put a (some e.d) e.v E2 (fun x hx => fun he => h x (by simp [hx]) (by simpa using he.symm))]
  | cons x E1 ih =>
    rw [List.cons_append, List.cons_append, puts, puts, ih (fun y hy => h y (by simp at hy ⊢; rcases hy with h | h <;> simp [h]))]

section
variable {P : Program} {ops : Array Oper} {Q : Exit → Act → World → Prop} {o : Oper} {a : Act} {w : World} {K : Act → World → Prop}

theorem wp_put1 {d : Nat} {v : Value} (hsel : ∀ cs b, o.op ≠ .select cs b) (h1 : d ∉ o.looksAt ops) (h2 : o.dst ≠ some d) (hQp : ∀ c a w, ¬ Q (.panic c) a w) (h : o.wp P a w K Q) :
    o.wp P (a.put (some d) v) w (fun a' w' => ∃ b, a' = b.put (some d) v ∧ K b w') Q := by
  have h1' : ∀ x, (some d : Option Nat) = some x → x ∉ o.looksAt ops := fun x hx => by rw [← Option.some.inj hx]; exact h1
  have hc : ∀ (a : Act) u, (a.put (some d) v).put o.dst u = (a.put o.dst u).put (some d) v := fun a u =>
    (Act.put_comm a u v (fun x hx he => h2 (by rw [hx, he]))).symm
  unfold Oper.wp at *
  rw [execOp_put o hsel a (some d) v h1']
  generalize (execOp a.eval o).run P w = r at *
  cases r with
  | ok n w' =>
    cases n <;> simp only [Oper.upon] at h ⊢
    case value u => exact ⟨_, hc a u, h⟩
    case skip => exact ⟨_, hc a _, h⟩
    case defer x => exact ⟨{ a with defers := x :: a.defers }.put o.dst undef, by have := hc { a with defers := x :: a.defers } undef; simpa only [Act.put] using this, h⟩
    case enter f args =>
      refine Calls.mono h fun e w'' he => ?_
      cases e with
      | returned u => exact ⟨_, hc a u, he⟩
      | panicked c => exact absurd he (hQp _ _ _)
      | outgrown => exact he
    case row row args => exact Rows.mono h fun u w'' he => ⟨_, hc a u, he⟩
  | halt x w' =>
    cases x <;> simp only [Oper.upon] at h ⊢
    case panic u => exact absurd h (hQp _ _ _)

theorem wp_puts (hsel : ∀ cs b, o.op ≠ .select cs b) (hQp : ∀ c a w, ¬ Q (.panic c) a w) (h : o.wp P a w K Q) : ∀ (E : List Ear), (∀ e ∈ E, e.d ∉ o.looksAt ops ∧ o.dst ≠ some e.d) →
    o.wp P (puts a E) w (fun a' w' => ∃ b, a' = puts b E ∧ K b w') Q
  | [], _ => Oper.wp_mono (fun a' w' hk => ⟨a', rfl, hk⟩) h
  | e :: E, hE => by
    have ih := wp_puts hsel hQp h E (fun x hx => hE x (by simp [hx]))
    have := wp_put1 (v := e.v) hsel (hE e (by simp)).1 (hE e (by simp)).2 hQp ih
    exact Oper.wp_mono (fun a' w' ⟨b, hb, c, hc, hk⟩ => ⟨c, by rw [hb, hc]; rfl, hk⟩) this

theorem wanted_puts (a : Act) : ∀ (E : List Ear), (∀ e ∈ E, e.d ∉ o.looksAt ops) → Region.wanted o (yielded ops (puts a E).tmps) = Region.wanted o (yielded ops a.tmps)
  | [], _ => rfl
  | e :: E, h => by
    rw [puts, wanted_put o (puts a E) (some e.d) e.v (fun x hx => by rw [← Option.some.inj hx]; exact h e (by simp))]
    exact wanted_puts a E (fun x hx => h x (by simp [hx]))
theorem exec_puts (hsel : ∀ cs b, o.op ≠ .select cs b) (a : Act) : ∀ (E : List Ear), (∀ e ∈ E, e.d ∉ o.looksAt ops) → execOp (puts a E).eval o = execOp a.eval o
  | [], _ => rfl
  | e :: E, h => by
    rw [puts, execOp_put o hsel (puts a E) (some e.d) e.v (fun x hx => by rw [← Option.some.inj hx]; exact h e (by simp))]
    exact exec_puts hsel a E (fun x hx => h x (by simp [hx]))
end

/-! ### How many are left -/
def left (n : Nat) (l : Array Bool) : Nat := ((List.range n).filter fun j => !l.getD j true).length
theorem filter_less {α : Type} (p q : α → Bool) : ∀ (L : List α), (∀ x ∈ L, q x = true → p x = true) → (∃ x ∈ L, p x = true ∧ q x = false) → (L.filter q).length < (L.filter p).length
  | [], _, h => by obtain ⟨x, hx, _⟩ := h; cases hx
  | y :: L, h, hx => by
    have hle : ∀ (L : List α), (∀ x ∈ L, q x = true → p x = true) → (L.filter q).length ≤ (L.filter p).length := by
      intro L
      induction L with
      | nil => simp
      | cons z L ih =>
        intro h
        have := ih (fun x hx => h x (by simp [hx]))
        rw [List.filter_cons, List.filter_cons]
        cases hq : q z with
        | true => rw [if_pos rfl, if_pos (h z (by simp) hq)]; simpa using this
        | false =>
          rw [if_neg (by simp)]
          split
          · simp only [List.length_cons]; omega
          · exact this
    obtain ⟨x, hm, hp, hq⟩ := hx
    rw [List.filter_cons, List.filter_cons]
    rcases List.mem_cons.1 hm with rfl | hm
    · rw [hp, hq]
      simp only [Bool.false_eq_true, if_false, if_true, List.length_cons]
      have := hle L (fun x hx => h x (by simp [hx]))
      omega
    · have ih := filter_less p q L (fun x hx => h x (by simp [hx])) ⟨x, hm, hp, hq⟩
      cases hqy : q y with
      | true => rw [if_pos rfl, if_pos (h y (by simp) hqy)]; simpa using ih
      | false =>
        rw [if_neg (by simp)]
        split
        · simp only [List.length_cons]; omega
        · exact ih
theorem left_less {n i : Nat} {l : Array Bool} (hi : i < n) (h : l.getD i true = false) : left n (l.setIfInBounds i true) < left n l := by
  refine filter_less _ _ _ (fun j _ hj => ?_) ⟨i, by simpa using hi, by simp [h], ?_⟩
  · by_cases e : i = j
    · subst e; simp [h]
    · rw [getD_set_ne true e] at hj; exact hj
  · have := (Sup.set (fun j hj => hj : Sup l l) i)
    have hlt : i < l.size := by
      rcases Nat.lt_or_ge i l.size with h' | h'
      · exact h'
      · simp [Array.getElem?_eq_none h'] at h
    simp [hlt]
theorem left_none {n : Nat} {l : Array Bool} (h : left n l = 0) {j : Nat} (hj : j < n) : l.getD j true = true := by
  cases e : l.getD j true with
  | true => rfl
  | false =>
    have hm : j ∈ (List.range n).filter fun j => !l.getD j true := List.mem_filter.2 ⟨List.mem_range.2 hj, by rw [e]; rfl⟩
    rw [List.eq_nil_of_length_eq_zero h] at hm
    cases hm
end Go.Am
/- Am, part 31d: regions that draw their order: one operation, with things in limbo. -/
set_option linter.unusedVariables false
set_option linter.unusedSimpArgs false
namespace Go.Am

section
variable {β : Type} {P : Program} {Γ : Env} {C : Ctx} {A : St} {a : Act} {w : World} {G : Nat → GS} {L : List Nat} {r : β} {o : Oper} {K : St → Option β}
variable {Φ : Prog} {ann : Ann} {act : Option Ty}

theorem eff_look {T : Nat → Bool} (hΦ : CallsOk P Φ) (hl : looksOnly Φ o = true) (h : RelG C A a w G []) (hk : opK Γ Φ act o A K = some r) : Eff P o C A a w G T K r := by
  unfold looksOnly at hl
  split at hl
  rotate_left
  · cases hl
  rename_i f args tys ho
  unfold opK at hk
  rw [ho] at hk
  dsimp only at hk
  split at hk
  rotate_left
  · cases hk
  rename_i d sg hd hsig
  rw [hsig] at hl
  dsimp only at hl
  split at hk
  rotate_left
  · cases hk
  rename_i hsz
  have hvals : (args.toList.zip tys.toList).map (fun x => a.eval x.1) = args.toList.map a.eval := by
    rw [show (fun x : Operand × TypeId => a.eval x.1) = a.eval ∘ Prod.fst from rfl, ← List.map_map, List.map_fst_zip]
    simp [hsz.1]
  have hrun : (execOp a.eval o).run P w = (callFunc f (args.toList.map a.eval).toArray).run P w := by
    have : (args.toList.map a.eval).toArray = args.map a.eval := by rw [← Array.toList_map, Array.toArray_toList]
    rw [this]
    simp [execOp, ho, resolve, Deferred.ofValue, Act.eval, invoke]
  have pure : ∀ m, (match lookAll Γ A sg.pms (args.toList.zip tys.toList) with
      | some l => pureK Φ act f m l d A K
      | none => none) = some r → Eff P o C A a w G T K r := by
    intro m hk
    split at hk
    · rename_i l hl
      have := lookAll_sound (Γ := Γ) h _ _ hl
      rw [hvals] at this
      exact eff_pureK hΦ hsig hd h this hrun hk
    · cases hk
  split at hk
  · rename_i e; rw [e] at hl; simp at hl
  · exact pure _ hk

theorem storesIn_spec (h : storesIn Γ A o = true) : ∃ T x y s p u z Tv t tx, o.op = .store T x y ∧ opd Γ 0 A x = .ptr s p ∧ opd Γ T A y = .val u z ∧ A.site s = .var Tv t tx ∧ offs t p = none ∧ plainTy u = true ∧ ∀ t0 z0, rowAt A s p = some ⟨t0, z0⟩ → t0 = u := by
  unfold storesIn at h
  split at h
  rotate_left
  · cases h
  rename_i T x y ho
  split at h
  rotate_left
  · cases h
  rename_i s p u z hx hy
  split at h
  rotate_left
  · cases h
  rename_i Tv t tx hs
  simp only [Bool.and_eq_true] at h
  obtain ⟨⟨h1, h2⟩, h3⟩ := h
  refine ⟨T, x, y, s, p, u, z, Tv, t, tx, ho, hx, hy, hs, by simpa using h1, h2, fun t0 z0 e => ?_⟩
  rw [e] at h3
  simpa using h3

/-- What an operation does, with things in limbo; ss: the sites that it may touch. -/
def Does (C : Ctx) (A : St) (w : World) (G : Nat → GS) (L : List Nat) (ss : Nat → Prop) (inn : Prop) (A' : St) (a' : Act) (w' : World) (G' : Nat → GS) : Prop :=
  RelG C A' a' w' G' L ∧ (∀ b ∈ L, w'.heap[b]? = w.heap[b]?) ∧ (∀ b, Sof C w G L b → Sof C w' G' L b ∧ w'.heap[b]? = w.heap[b]?) ∧
  (∀ s, A.site s ≠ .none → ¬ ss s → A'.site s = A.site s ∧ G' s = G s ∧ ∀ b ∈ (G s).F, w'.heap[b]? = w.heap[b]?) ∧
  (inn → ∀ s T t y, A.site s = .var T t y → (∃ T' t' y', A'.site s = .var T' t' y') ∧ (G' s).blk = (G s).blk ∧ w'.heap[(G s).blk]? = w.heap[(G s).blk]?)

theorem var_blk (h : RelG C A a w G L) {s : Nat} {T : TypeId} {t : Ty} {y : Val t} (hs : A.site s = .var T t y) : (G s).blk ∈ (G s).F := by
  have := h.sites s
  rw [hs] at this
  obtain ⟨F', e, _⟩ := this
  rw [e]; simp

theorem does_op {ss : List Nat} {inn : Bool} (hP : Known P Γ Φ) (h : RelG C A a w G L) (hw : looksOnly Φ o = true ∨ within Γ ss A o = true) (hin : inn = true → storesIn Γ A o = true) (hk : opK Γ Φ act o A K = some r) (Q : Exit → Act → World → Prop) :
    o.wp P a w (fun a' w' => ∃ A' G', K A' = some r ∧ Does C A w G L (fun s => s ∈ ss) (inn = true) A' a' w' G') Q := by
  have h' := h.anew
  have mono : ∀ {w' : World} {G' : Nat → GS} {A' : St} {a' : Act}, RelG (C.anew A w G L) A' a' w' G' [] → Mono (C.anew A w G L) w G [] w' G' [] → RelG C A' a' w' G' L ∧ (∀ b ∈ L, w'.heap[b]? = w.heap[b]?) ∧ (∀ b, Sof C w G L b → Sof C w' G' L b ∧ w'.heap[b]? = w.heap[b]?) := by
    intro w' G' A' a' h2 hm
    obtain ⟨q1, q2, q3⟩ := h.back h2
    exact ⟨q1, q2, fun b hb => ⟨q3 b (hm b (sof_anew h hb)).1, (hm b (sof_anew h hb)).2⟩⟩
  cases hi : inn with
  | true =>
    obtain ⟨T, x, y, s, p, u, z, Tv, t, tx, ho, hx, hy, hs, hoff, hu, hrow⟩ := storesIn_spec (hin hi)
    have hsss : s ∈ ss := by
      rcases hw with hw | hw
      · unfold looksOnly at hw; rw [ho] at hw; simp at hw
      · unfold within at hw
        have := List.all_eq_true.1 hw x (by rw [ho]; simp [Op.operands])
        rw [hx] at this
        simpa [SV.all] using this
    refine Oper.wp_mono (fun a' w' hh => ?_) (eff_storeIn hP.tys ho h' hx hy hs hoff hu hrow hk Q)
    obtain ⟨A', G', k1, k2, k3, k4, ⟨t', tx', k5⟩, k6, k7⟩ := hh
    obtain ⟨m1, m2, m3⟩ := mono k2 k3
    refine ⟨A', G', k1, m1, m2, m3, fun s' hn hns => k4 s' (by simp; rintro rfl; exact hns hsss) hn, fun _ s' T2 t2 y2 e2 => ?_⟩
    by_cases e : s' = s
    · subst e; exact ⟨⟨_, _, _, k5⟩, k6, k7⟩
    · obtain ⟨n1, n2, n3⟩ := k4 s' (by simpa using e) (by rw [e2]; simp)
      exact ⟨⟨_, _, _, by rw [n1]; exact e2⟩, by rw [n2], n3 _ (var_blk h e2)⟩
  | false =>
    rcases hw with hw | hw
    · refine Oper.wp_mono (fun a' w' hh => ?_) (eff_look (T := fun _ => false) hP.calls hw h' hk Q)
      obtain ⟨A', G', k1, k2, k3, k4⟩ := hh
      obtain ⟨m1, m2, m3⟩ := mono k2 k3
      exact ⟨A', G', k1, m1, m2, m3, fun s hn _ => k4 s rfl hn, fun e => by cases e⟩
    · refine Oper.wp_mono (fun a' w' hh => ?_) (op_sound hP h' hk Q)
      obtain ⟨A', G', k1, k2, k3, k4⟩ := hh
      obtain ⟨m1, m2, m3⟩ := mono k2 k3
      refine ⟨A', G', k1, m1, m2, m3, fun s hn hns => k4 s ?_ hn, fun e => by cases e⟩
      unfold touch
      cases e : o.op.operands.toList.any fun x => (opd Γ 0 A x).names s with
      | false => rfl
      | true =>
        obtain ⟨x, hx, e2⟩ := List.any_eq_true.1 e
        have := all_names _ ss (List.all_eq_true.1 hw x hx) s hns
        rw [this] at e2; cases e2
where
  all_names : ∀ (v : SV) (hot : List Nat), v.all.all hot.contains = true → ∀ s, s ∉ hot → v.names s = false
  | .ref s' p, hot, h, s, hs => by
    simp [SV.all] at h
    simp only [SV.names, beq_eq_false_iff_ne]
    rintro rfl; exact hs h
  | .ptr s' p, hot, h, s, hs => by
    simp [SV.all] at h
    simp only [SV.names, beq_eq_false_iff_ne]
    rintro rfl; exact hs h
  | .pr a b, hot, h, s, hs => by
    simp only [SV.all, List.all_append, Bool.and_eq_true] at h
    simp [SV.names, all_names a hot h.1 s hs, all_names b hot h.2 s hs]
  | .tcons a b, hot, h, s, hs => by
    simp only [SV.all, List.all_append, Bool.and_eq_true] at h
    simp [SV.names, all_names a hot h.1 s hs, all_names b hot h.2 s hs]
  | .fn _ c, hot, h, s, hs => by
    simp only [SV.all] at h
    simp [SV.names, all_names c hot h s hs]
  | .dead, _, _, _, _ => rfl
  | .val _ _, _, _, _, _ => rfl
  | .ro _ _, _, _, _, _ => rfl
  | .nilp, _, _, _, _ => rfl
  | .tnil, _, _, _, _ => rfl

/-- An operation that may be taken at once yields its value in every world where what it reads is as it was. -/
theorem calm_quiet {B : Nat → Prop} (hP : Known P Γ Φ) (hc : (∃ T x, o.op = .load T x) ∨ calm Γ [] A act o = true) (hB : ∀ T x, o.op = .load T x → ∀ ad, a.eval x = .pointer (some ad) → B ad.block) (h : RelG C A a w G []) (hk : opK Γ Φ act o A K = some r) : QuietR P o C A a w G [] B K r := by
  have hT := hP.tys
  rcases hc with ⟨T, x, ho⟩ | hc
  · exact quiet_load hT ho h (hB T x ho) hk
  unfold calm at hc
  split at hc
  · rename_i x ho; exact quiet_move (.inl ho) h hk
  · rename_i x ho; exact quiet_move (.inr ho) h hk
  · rename_i c x y ho; exact quiet_pick ho h hk
  · rename_i x ho; exact quiet_nilCheck ho h hk
  · rename_i ho; exact quiet_binOp hT hP.eqs ho h hk
  · rename_i ho; exact quiet_unOp ho h hk
  · rename_i ho; exact quiet_convert hT ho h hk
  · rename_i fn first caps ho
    cases fn with
    | func f => exact quiet_makeFunc ho h hk
    | _ => unfold opK at hk; rw [ho] at hk; simp at hk
  · rename_i ho; exact quiet_fieldAddr hT ho h hk
  · rename_i ho; exact quiet_field hT ho h hk
  · rename_i ho; exact quiet_indexAddr hT ho h hk
  · rename_i ho; exact quiet_index hT ho h hk
  · rename_i ho; exact quiet_extract ho h hk
  · rename_i T x lo hi mx ho
    refine quiet_slice hT ho ?_ h hk
    unfold cutsOwn
    split at hc
    · cases hc
    · rename_i hne
      split
      · rename_i s p e; exact absurd e (hne s p)
      · rfl
  · rename_i T x ho; exact quiet_load hT ho h (hB T x ho) hk
  · rename_i T' parts ho
    simp only [Bool.and_eq_true] at hc
    obtain ⟨⟨hact, hv⟩, hno⟩ := hc
    have hact' : act = none := by simpa using hact
    subst hact'
    refine quiet_build hT ho (fun q hq => List.all_eq_true.1 hv q hq) (fun i rr A' hi hb => ?_) h hk
    rw [hi] at hno
    dsimp only at hno
    rw [hb] at hno
    exact hno
  · rename_i ho; exact quiet_len hT ho h hk
  · rename_i ho; exact quiet_min ho h hk
  · rename_i ho; exact quiet_max ho h hk
  · cases hc
end
end Go.Am
/- Am, part 31e: regions that draw their order: every order. -/
set_option linter.unusedVariables false
set_option linter.unusedSimpArgs false
namespace Go.Am

theorem setNth_self {α : Type} (d : α) : ∀ (l : List α) (t : Nat), setNth l t (nth d l t) = l
  | [], _ => rfl
  | _ :: _, 0 => rfl
  | x :: l, t + 1 => by rw [setNth, nth, setNth_self d l t]
theorem put_slot {A : St} {t : Nat} {sv : SV} (h : A.slot t = sv) : A.put (some t) sv = A := by
  subst h
  simp only [St.put, St.slot, setNth_self]

section
variable {β : Type} {P : Program} {Γ : Env} {C : Ctx} {A : St} {a : Act} {w : World} {G : Nat → GS} {L : List Nat} {r : β} {o : Oper}
variable {Φ : Prog} {ann : Ann} {ops : Array Oper} {Q : Exit → Act → World → Prop} {rid : Nat} {tch : List (Nat × List Nat)} {early inner : List Nat}

theorem stepK_split {K' : St → Option β} {i : Nat} (h : RelG C A a w G L) (hs : stepK Γ Φ ann rid ops i o A K' = some r) :
    (Region.wanted o (yielded ops a.tmps) = true ∧ opK Γ Φ (actOf ann.acts rid i) o A K' = some r) ∨ (Region.wanted o (yielded ops a.tmps) = false ∧ K' (A.put o.dst .tnil) = some r) := by
  unfold stepK at hs
  cases hg : o.guard with
  | none =>
    rw [hg] at hs
    exact .inl ⟨by simp [Region.wanted, hg], hs⟩
  | some gw =>
    obtain ⟨g, want⟩ := gw
    rw [hg] at hs
    dsimp only at hs
    cases ht : (ops[g]?).bind (·.dst) with
    | none => rw [ht] at hs; cases hs
    | some t =>
      rw [ht] at hs
      dsimp only at hs
      split at hs
      · rename_i b hb
        have hy := yielded_at h ht hb
        have hw : Region.wanted o (yielded ops a.tmps) = (toB b == want) := by simp [Region.wanted, hg, hy]
        rw [hw]
        cases hbb : toB b with
        | true =>
          have e : A.put (some t) (.val .bool (ofB true)) = A := by rw [← hbb]; exact put_slot hb
          rw [hbb, e] at hs
          cases want with
          | true => exact .inl ⟨rfl, hs⟩
          | false => exact .inr ⟨rfl, hs⟩
        | false =>
          have e : A.put (some t) (.val .bool (ofB false)) = A := by rw [← hbb]; exact put_slot hb
          rw [hbb, e] at hs
          cases want with
          | true => exact .inr ⟨rfl, hs⟩
          | false => exact .inl ⟨rfl, hs⟩
      · rename_i hb
        have hy := yielded_undef h ht hb
        exact .inr ⟨by simp [Region.wanted, hg, hy], hs⟩
      · cases hs

theorem RelG.remix {L' : List Nat} (h : RelG C A a w G L) (hm : ∀ b, b ∈ L' ↔ b ∈ L) (hn : L'.Nodup) : RelG C A a w G L' := by
  have hS : ∀ b, Sof C w G L b → Sof C w G L' b := fun b hb => ⟨hb.1, hb.2.1, hb.2.2.1, fun hx => hb.2.2.2 ((hm b).1 hx)⟩
  exact {
    slots := fun i => by
      obtain ⟨cs, h1, h2⟩ := h.slots i
      exact ⟨cs, SC_frame (fun b hb => ⟨hS b hb, rfl⟩) _ _ (every_all (fun r s' q => Lives.same (h.sites s') (fun _ _ => rfl) _ _) _) h1, h2⟩
    sites := fun s => SiteR_frame (fun b hb => ⟨hS b hb, rfl⟩) (fun _ _ => rfl) (h.sites s)
    nodup := h.nodup, apart := h.apart, mine := h.mine, lnodup := hn
    lapart := fun s b hb hx => h.lapart s b hb ((hm b).1 hx)
    lmine := fun b hb => h.lmine b ((hm b).1 hb)
    s0 := h.s0, os := h.os, tape := h.tape, output := h.output, size := h.size, frame := h.frame, defers := h.defers, len := h.len, pinlen := h.pinlen, pin := h.pin }

theorem RelG.grownL {w' : World} {F : List Nat} (h : RelG C A a w G L) (hgo : Goes w w') (hsame : ∀ b, b < w.heap.size → w'.heap[b]? = w.heap[b]?) (hn : F.Nodup) (hF : ∀ b ∈ F, w.heap.size ≤ b ∧ b < w'.heap.size) :
    RelG C A a w' G (F ++ L) ∧ (∀ b, Sof C w G L b → Sof C w' G (F ++ L) b) := by
  obtain ⟨r1, r2, r3⟩ := h.many (A' := A) (G' := G) (L' := F ++ L) (fun _ => False) hgo (fun b hb _ _ => hsame b hb) (fun s' _ => ⟨rfl, rfl⟩) rfl (fun _ hs => hs.elim) (fun _ hs => hs.elim) (fun _ _ hs => hs.elim)
    (fun b hb => by
      rcases List.mem_append.1 hb with hb | hb
      · exact ⟨.inr (.inr (hF b hb).1), (hF b hb).2⟩
      · exact ⟨.inr (.inl hb), Nat.lt_of_lt_of_le (h.lmine b hb).2 hgo.size⟩)
    (List.nodup_append.2 ⟨hn, h.lnodup, fun x hx y hy e => by
      have h1 := (hF x hx).1
      have h2 := (h.lmine y hy).2
      omega⟩) (fun _ hs => hs.elim) (fun _ _ _ _ hs => hs.elim)
    (fun i => .inr ⟨rfl, every_all (fun r s' q => Lives.same (h.sites s') (fun b hb => hsame b (h.mine s' b hb).2) _ _) _⟩)
    (fun _ _ hs => hs.elim)
  exact ⟨r1, fun b hb => (r2 b hb).1⟩

/-! ### Blocks that are watched -/
structure Watch where
  b : Nat
  v : Option Obj
  D : List Nat
def Fed (x : Watch) (l : Array Bool) : Prop := ∃ q ∈ x.D, l.getD q true = true
def Seen (W : List Watch) (l : Array Bool) (w : World) : Prop := ∀ x ∈ W, Fed x l ∨ w.heap[x.b]? = x.v
def Safe (C : Ctx) (A : St) (w : World) (G : Nat → GS) (L : List Nat) (tch : List (Nat × List Nat)) (inner : List Nat) (listed : Array Bool) (x : Watch) : Prop :=
  Sof C w G L x.b ∨ ∃ s, A.site s ≠ .none ∧ x.b ∈ (G s).F ∧ ∀ q ∈ tch, s ∈ q.2 → listed.getD q.1 true = true ∨ q.1 ∈ x.D ∨ (q.1 ∈ inner ∧ (∃ T t y, A.site s = .var T t y) ∧ x.b = (G s).blk)
def Watched (C : Ctx) (A : St) (w : World) (G : Nat → GS) (L : List Nat) (tch : List (Nat × List Nat)) (inner : List Nat) (listed la : Array Bool) (W : List Watch) : Prop :=
  ∀ x ∈ W, Fed x la ∨ (w.heap[x.b]? = x.v ∧ Safe C A w G L tch inner listed x)

theorem Fed.set {x : Watch} {l : Array Bool} (h : Fed x l) (i : Nat) : Fed x (l.setIfInBounds i true) := by
  obtain ⟨q, h1, h2⟩ := h
  exact ⟨q, h1, (Sup.set (fun j hj => hj : Sup l l) i) q h2⟩
theorem set_at {l : Array Bool} {i : Nat} : (l.setIfInBounds i true).getD i true = true := by
  rcases Nat.lt_or_ge i l.size with h' | h'
  · simp [h']
  · simp [h']

/-- Behind an operation all that is watched is still so. -/
theorem Watched.step {W : List Watch} {A' : St} {a' : Act} {w' : World} {G' : Nat → GS} {listed la : Array Bool} {i : Nat} (hW : Watched C A w G L tch inner listed la W) (h : RelG C A a w G L) (hi : listed.getD i true = false)
    (hd : Does C A w G L (fun s => s ∈ (List.lookup i tch).getD []) (i ∈ inner) A' a' w' G') :
    Watched C A' w' G' L tch inner (listed.setIfInBounds i true) (la.setIfInBounds i true) W := by
  obtain ⟨d1, d2, d3, d4, d5⟩ := hd
  intro x hx
  rcases hW x hx with hf | ⟨hv, hs⟩
  · exact .inl (hf.set i)
  rcases hs with hs | ⟨s, hs1, hs2, hs3⟩
  · exact .inr ⟨by rw [(d3 _ hs).2]; exact hv, .inl (d3 _ hs).1⟩
  have hnone : ∀ {A'' : St}, (∀ q, q = i → (listed.setIfInBounds i true).getD q true = true) := fun q hq => by rw [hq]; exact set_at
  have mono : ∀ q, listed.getD q true = true → (listed.setIfInBounds i true).getD q true = true := fun q hq => (Sup.set (fun j hj => hj : Sup listed listed) i) q hq
  by_cases ht : s ∈ (List.lookup i tch).getD []
  · -- it may be touched
    cases hl : List.lookup i tch with
    | none => rw [hl] at ht; simp at ht
    | some ss =>
      rw [hl] at ht
      have ht : s ∈ ss := by simpa using ht
      have hq : (i, ss) ∈ tch := lookup_mem' hl
      rcases hs3 (i, ss) hq ht with h1 | h1 | ⟨h1, ⟨T, t, y, h2⟩, h3⟩
      · rw [hi] at h1; cases h1
      · exact .inl ⟨i, h1, set_at⟩
      · obtain ⟨⟨T', t', y', e1⟩, e2, e3⟩ := d5 h1 s T t y h2
        refine .inr ⟨by rw [h3, e3, ← h3]; exact hv, .inr ⟨s, by rw [e1]; simp, ?_, fun q hq hsq => ?_⟩⟩
        · rw [h3, ← e2]; exact var_blk d1 e1
        · rcases hs3 q hq hsq with k | k | ⟨k, _, _⟩
          · exact .inl (mono _ k)
          · exact .inr (.inl k)
          · exact .inr (.inr ⟨k, ⟨_, _, _, e1⟩, by rw [e2]; exact h3⟩)
  · obtain ⟨e1, e2, e3⟩ := d4 s hs1 ht
    refine .inr ⟨by rw [e3 _ hs2]; exact hv, .inr ⟨s, by rw [e1]; exact hs1, by rw [e2]; exact hs2, fun q hq hsq => ?_⟩⟩
    rcases hs3 q hq hsq with k | k | ⟨k, k2, k3⟩
    · exact .inl (mono _ k)
    · exact .inr (.inl k)
    · exact .inr (.inr ⟨k, by rw [e1]; exact k2, by rw [e2]; exact k3⟩)
where
  lookup_mem' {i : Nat} {ss : List Nat} : ∀ {tch : List (Nat × List Nat)}, List.lookup i tch = some ss → (i, ss) ∈ tch
  | [], h => by simp at h
  | (k, x) :: l, h => by
    rw [List.lookup_cons] at h
    split at h
    · rename_i e
      simp only [beq_iff_eq] at e
      simp only [Option.some.injEq] at h
      subst e; subst h; simp
    · exact List.mem_cons_of_mem _ (lookup_mem' h)
end
end Go.Am
/- Am, part 31f: regions that draw their order: the theorem. -/
set_option linter.unusedVariables false
set_option linter.unusedSimpArgs false
namespace Go.Am

section
variable {β : Type} {P : Program} {Γ : Env} {C : Ctx} {A : St} {a : Act} {w : World} {G : Nat → GS} {L : List Nat} {r : β} {o : Oper}
variable {Φ : Prog} {ann : Ann} {ops : Array Oper} {Q : Exit → Act → World → Prop} {rid : Nat} {tch : List (Nat × List Nat)} {early inner : List Nat} {nt : Nat}

theorem mk_spec (hmk : makersOk Γ ann.acts rid ops early nt = true) {i : Nat} (hi : i ∈ early) : Region.free .any ops (Array.replicate ops.size false) i = true ∧ ∃ o, ops[i]? = some o ∧ isMaker Γ (actOf ann.acts rid i) nt o = true := by
  have := List.all_eq_true.1 hmk i hi
  rw [Bool.and_eq_true] at this
  refine ⟨this.1, ?_⟩
  have h2 := this.2
  split at h2
  · rename_i o ho; exact ⟨o, ho, h2⟩
  · cases h2
theorem maker_after {act : Option Ty} (h : isMaker Γ act nt o = true) : o.guard = none ∧ ∀ e ∈ o.after, False := by
  unfold isMaker at h
  simp only [Bool.and_eq_true] at h
  refine ⟨by simpa using h.1.1, fun e he => ?_⟩
  have h2 : o.after = #[] := by simpa using h.1.2
  rw [h2] at he
  simp at he
theorem maker_dst {act : Option Ty} (h : isMaker Γ act nt o = true) : ∃ d, o.dst = some d := by
  unfold isMaker at h
  rw [Bool.and_eq_true] at h
  have h2 := h.2
  split at h2
  · exact ⟨_, by assumption⟩
  · exact ⟨_, by assumption⟩
  · cases h2
theorem puts_defers (a : Act) : ∀ E : List Ear, (puts a E).defers = a.defers
  | [] => rfl
  | e :: E => puts_defers a E
theorem puts_size (a : Act) : ∀ E : List Ear, (puts a E).tmps.size = a.tmps.size
  | [] => rfl
  | e :: E => by rw [puts]; simp [Act.put, puts_size a E]
theorem repl_getD {n j : Nat} (h : j < n) : (Array.replicate n false).getD j true = false := by simp [h]
/-- Nobody else looks at what an early maker has left. -/
theorem ear_apart (hmk : makersOk Γ ann.acts rid ops early nt = true) {i d j : Nat} {oi oj : Oper} (hi : i ∈ early) (hoi : ops[i]? = some oi) (hd : oi.dst = some d) (hoj : ops[j]? = some oj) (hne : j ≠ i) (hno : ∀ e ∈ oj.after, Region.binds .any e = true → e.on ≠ i) :
    d ∉ oj.looksAt ops ∧ oj.dst ≠ some d := by
  have hj : j < ops.size := (Array.getElem?_eq_some_iff.1 hoj).1
  have := Region.free_spec hoi (mk_spec hmk hi).1 j oj hoj hne (repl_getD hj) hno
  obtain ⟨h1, h2, _⟩ := Oper.apart_spec this
  exact ⟨h1 d hd, fun e => h2 d hd (by rw [e])⟩
theorem mark_getD : ∀ (l : List Nat) (listed : Array Bool) (k : Nat), (mark l listed).getD k true = true ↔ listed.getD k true = true ∨ k ∈ l
  | [], listed, k => by simp [mark]
  | i :: l, listed, k => by
    have ih := mark_getD l (listed.setIfInBounds i true) k
    have e : mark (i :: l) listed = mark l (listed.setIfInBounds i true) := rfl
    rw [e, ih]
    by_cases hik : i = k
    · subst hik
      simp [set_at]
    · rw [getD_set_ne true hik]
      simp [Ne.symm hik]
theorem mark_size : ∀ (l : List Nat) (listed : Array Bool), (mark l listed).size = listed.size
  | [], _ => rfl
  | i :: l, listed => by
    have e : mark (i :: l) listed = mark l (listed.setIfInBounds i true) := rfl
    rw [e, mark_size l]; simp
theorem getD_in {l : Array Bool} {j : Nat} (h : l.getD j false = true) : j < l.size ∧ l.getD j true = true := by
  rcases Nat.lt_or_ge j l.size with h' | h'
  · refine ⟨h', ?_⟩
    simp [h'] at h ⊢; exact h
  · simp [Array.getElem?_eq_none h'] at h
theorem getD_out {l : Array Bool} {j : Nat} (hj : j < l.size) (h : l.getD j true = true) : l.getD j false = true := by
  simp [hj] at h ⊢; exact h

def Ears (Γ : Env) (ops : Array Oper) (early rest : List Nat) (listed : Array Bool) (w : World) (E : List Ear) : Prop :=
  ∀ e ∈ E, e.i ∈ rest ∧ e.i ∈ early ∧ listed.getD e.i true = false ∧ ∃ o, ops[e.i]? = some o ∧ o.dst = some e.d ∧ Made Γ o e.v w e.F

theorem ears_apart (hmk : makersOk Γ ann.acts rid ops early nt = true) {rest : List Nat} {listed : Array Bool} {E : List Ear} (hE : Ears Γ ops early rest listed w E) {j : Nat} {oj : Oper} (hoj : ops[j]? = some oj) (hj : ∀ e ∈ E, j ≠ e.i) (hr : j ∈ Region.ready .any ops listed) :
    ∀ e ∈ E, e.d ∉ oj.looksAt ops ∧ oj.dst ≠ some e.d := by
  intro e he
  obtain ⟨h1, h2, h3, oe, h4, h5, _⟩ := hE e he
  refine ear_apart hmk h2 h4 h5 hoj (hj e he) fun ed hed hb heq => ?_
  obtain ⟨_, o', ho', hall⟩ := mem_ready.1 hr
  rw [hoj] at ho'
  obtain rfl := Option.some.inj ho'
  have := hall ed hed hb
  rw [heq, getD_both h3] at this
  cases this

theorem Ears.keep (hmk : makersOk Γ ann.acts rid ops early nt = true) {rest : List Nat} {listed : Array Bool} {E : List Ear} (hE : Ears Γ ops early rest listed w E) {w' : World} (hF : ∀ b ∈ earF E, w'.heap[b]? = w.heap[b]?) {i : Nat} {rest' : List Nat} (hrest : rest = i :: rest') (hi : ∀ e ∈ E, i ≠ e.i) :
    Ears Γ ops early rest' (listed.setIfInBounds i true) w' E := by
  intro e he
  obtain ⟨h1, h2, h3, oe, h4, h5, h6⟩ := hE e he
  subst hrest
  refine ⟨?_, h2, by rw [getD_set_ne true (hi e he)]; exact h3, oe, h4, h5, h6.keep (fun b hb => hF b (List.mem_flatMap.2 ⟨e, he, hb⟩)) ?_⟩
  · rcases List.mem_cons.1 h1 with h | h
    · exact absurd h.symm (hi e he)
    · exact h
  · intro T n parts t x ho hrow
    obtain ⟨_, o', ho', hm⟩ := mk_spec hmk h2
    rw [h4] at ho'
    obtain rfl := Option.some.inj ho'
    unfold isMaker at hm
    rw [ho, h5] at hm
    simp only [Bool.and_eq_true] at hm
    have := hm.2.2
    rw [hrow] at this
    simp only [Bool.and_eq_true] at this
    exact this.1
end
end Go.Am
/- Am, part 31g: regions that draw their order: the theorem. -/
set_option linter.unusedVariables false
set_option linter.unusedSimpArgs false
namespace Go.Am

theorem at_main {w : World} {t : Ty} {cs : List Value} {blk : Nat} {p : Path} {t' : Ty} {cs' : List Value} {loc' : Option (Nat × Nat)} {b o : Nat} (hAt : At w t cs (some (blk, 0)) p t' cs' loc') (e : loc' = some (b, o)) (ho : (offs t p).isSome = true) : b = blk := by
  cases hAt with
  | plain h => simp at e; exact e.1.symm
  | own h hc hb hi hq => rw [offs_through _ _ _ _ _ h rfl] at ho; simp at ho

section
variable {β : Type} {P : Program} {Γ : Env} {C : Ctx} {A : St} {a : Act} {w : World} {G : Nat → GS} {L : List Nat} {r : β} {o : Oper}
variable {Φ : Prog} {ann : Ann} {ops : Array Oper} {Q : Exit → Act → World → Prop} {rid : Nat} {tch : List (Nat × List Nat)} {early inner : List Nat} {nt : Nat}

theorem lookup_key : ∀ {tch : List (Nat × List Nat)} {q : Nat × List Nat}, q ∈ tch → (List.lookup q.1 tch).isSome = true
  | (k, x) :: l, q, h => by
    rw [List.lookup_cons]
    split
    · rfl
    · rename_i e
      rcases List.mem_cons.1 h with rfl | h
      · simp at e
      · exact lookup_key h

/-- What a load reads is watched. -/
theorem load_watch {T : TypeId} {x : Operand} {act : Option Ty} {K' : St → Option β} {listed : Array Bool} {i : Nat} (hT : tysOk P Γ = true) (ho : o.op = .load T x) (h : RelG C A a w G L) (hc : calmAt Γ ops tch early inner listed i A act o = true) (hk : opK Γ Φ act o A K' = some r) :
    ∃ ad D, a.eval x = .pointer (some ad) ∧ Safe C A w G L tch inner listed ⟨ad.block, w.heap[ad.block]?, D⟩ ∧ (∀ q ∈ D, (List.lookup q tch).isSome = true ∧ q ∈ depOn ops i) ∧ (D ≠ [] → ∀ q ∈ depOn ops i, listed.getD q true = false ∧ q ∉ early) := by
  have hx := opd_sound Γ 0 h x
  unfold opK at hk
  rw [ho] at hk
  dsimp only at hk
  split at hk
  rotate_left
  · cases hk
  rename_i ti hti
  split at hk
  rotate_left
  · cases hk
  rename_i v hv
  unfold loadV at hv
  split at hv
  · rename_i t y e
    rw [e] at hx
    obtain ⟨ad, ccs, h1, h2, _⟩ := SVr_ro.1 hx
    exact ⟨ad, [], h1, .inl h2, by simp, by simp⟩
  · rename_i s p e
    split at hv
    rotate_left
    · cases hv
    rename_i u y hr
    obtain ⟨cs', b, o', F', cur, T', g1, g2, g3, g4, g5, g6, g7⟩ := ptr_at h hx e hr
    unfold calmAt at hc
    rw [ho] at hc
    dsimp only at hc
    rw [e] at hc
    dsimp only at hc
    unfold loadAt at hc
    simp only [Bool.and_eq_true] at hc
    obtain ⟨hc1, hc2⟩ := hc
    refine ⟨⟨b, o', none⟩, (depOn ops i).filter fun q => (List.lookup q tch).isSome, g3, .inr ⟨s, ?_, g4, fun q hq hsq => ?_⟩, fun q hq => ?_, fun _ q hq => ?_⟩
    · intro hn; rw [hn] at g1; exact g1
    · have := List.all_eq_true.1 hc2 q hq
      simp only [Bool.or_eq_true, Bool.and_eq_true, Bool.not_eq_true'] at this
      rcases this with ((h1 | h1) | h1) | ⟨h1, h2⟩
      · have : q.2.contains s = true := by simpa using hsq
        rw [this] at h1; cases h1
      · exact .inl h1
      · exact .inr (.inl (List.mem_filter.2 ⟨by simpa using h1, lookup_key hq⟩))
      · refine .inr (.inr ⟨by simpa using h1, ?_⟩)
        split at h2
        · rename_i Tv tv yv hs
          refine ⟨⟨_, _, _, hs⟩, ?_⟩
          rw [hs] at g1
          exact at_main g1 rfl h2
        · cases h2
    · obtain ⟨h1, h2⟩ := List.mem_filter.1 hq
      exact ⟨h2, h1⟩
    · have := List.all_eq_true.1 hc1 q hq
      simpa using this
  · cases hv

theorem wpAnyS_done {S : Array Bool → World → Prop} {la : Array Bool} (hr : Region.ready .any ops la = []) (h : Q .normal a w) : ∀ fuel, wpAnyS P ops Q S fuel la a w
  | 0 => ⟨hr, h⟩
  | _ + 1 => ⟨fun _ => h, by rw [hr]; simp⟩

theorem ready_less {listed la : Array Bool} (hsz : la.size = listed.size) {j : Nat} (hj : j ∈ Region.ready .any ops la) (h1 : listed.getD j true = false) (h2 : ∀ k, la.getD k true = true → (∃ o, ops[j]? = some o ∧ ∃ e ∈ o.after, Region.binds .any e = true ∧ e.on = k) → listed.getD k true = true) : j ∈ Region.ready .any ops listed := by
  obtain ⟨_, o, ho, hall⟩ := mem_ready.1 hj
  refine mem_ready.2 ⟨h1, o, ho, fun e he hb => ?_⟩
  obtain ⟨q1, q2⟩ := getD_in (hall e he hb)
  exact getD_out (by omega) (h2 _ q2 ⟨o, ho, e, he, hb, rfl⟩)

/-- An operation that is taken at once. -/
theorem calm_pack {K' : St → Option β} {listed : Array Bool} {i : Nat} (hP : Known P Γ Φ) (h : RelG C A a w G L) (hcm : calmAt Γ ops tch early inner listed i A (actOf ann.acts rid i) o = true) (hs : stepK Γ Φ ann rid ops i o A K' = some r) :
    ∃ v sv, ∃ W1 : List Watch, K' (A.put o.dst sv) = some r ∧ RelG C (A.put o.dst sv) (a.put o.dst v) w G L ∧
      (∀ x ∈ W1, w.heap[x.b]? = x.v ∧ Safe C A w G L tch inner listed x ∧ (∀ q ∈ x.D, (List.lookup q tch).isSome = true ∧ q ∈ depOn ops i) ∧ (x.D ≠ [] → ∀ q ∈ depOn ops i, listed.getD q true = false ∧ q ∉ early)) ∧
      YieldsIf P ops (fun w' => ∀ x ∈ W1, w'.heap[x.b]? = x.v) o v a := by
  rcases stepK_split h hs with ⟨hw, hk⟩ | ⟨hw, hk⟩
  · by_cases hld : ∃ T x, o.op = .load T x
    · obtain ⟨T, x, ho⟩ := hld
      obtain ⟨ad, D, h1, h2, h3, h4⟩ := load_watch hP.tys ho h hcm hk
      obtain ⟨v, sv, q1, q2, q3⟩ := calm_quiet (B := fun b => b = ad.block) hP (.inl ⟨T, x, ho⟩) (fun T' x' ho' ad' hx' => by
        rw [ho] at ho'
        simp only [Op.load.injEq] at ho'
        obtain ⟨rfl, rfl⟩ := ho'
        rw [h1] at hx'
        simp only [Value.pointer.injEq, Option.some.injEq] at hx'
        rw [hx']) h.anew hk
      refine ⟨v, sv, [⟨ad.block, w.heap[ad.block]?, D⟩], q1, (h.back (h.anew.put _ _ _ q2)).1, fun y hy => ?_, .inl ⟨hw, fun w' hw' => q3 w' fun b hb => ?_⟩⟩
      · simp only [List.mem_singleton] at hy
        subst hy
        exact ⟨rfl, h2, h3, h4⟩
      · subst hb
        exact hw' _ (List.mem_singleton.2 rfl)
    · have hc : calm Γ [] A (actOf ann.acts rid i) o = true := by
        unfold calmAt at hcm
        split at hcm
        · rename_i T x ho; exact absurd ⟨T, x, ho⟩ hld
        · exact hcm
      obtain ⟨v, sv, q1, q2, q3⟩ := calm_quiet (B := fun _ => False) hP (.inr hc) (fun T x ho => absurd ⟨T, x, ho⟩ hld) h.anew hk
      exact ⟨v, sv, [], q1, (h.back (h.anew.put _ _ _ q2)).1, by simp, .inl ⟨hw, fun w' _ => q3 w' fun b hb => hb.elim⟩⟩
  · exact ⟨undef, .tnil, [], hk, h.put _ _ _ SVr_undef, by simp, .inr ⟨hw, rfl⟩⟩

theorem drawS (hP : Known P Γ Φ) (hsel : Region.noSelect ops = true) (hmk : makersOk Γ ann.acts rid ops early nt = true) {K : St → Option β}
    (hQ : ∀ A a w G, K A = some r → RelG C A a w G [] → Q .normal a w) (hQp : ∀ c a w, ¬ Q (.panic c) a w) :
    ∀ (fuel : Nat) (rest : List Nat) (listed la : Array Bool) (A : St) (a : Act) (w : World) (G : Nat → GS) (E : List Ear) (W : List Watch),
      drawK Γ Φ ann rid ops tch early inner rest listed A K = some r → RelG C A a w G (earF E) → a.tmps.size = nt → Ears Γ ops early rest listed w E → (E.map (·.i)).Nodup → la.size = listed.size → (∀ k ∈ early, listed.getD k true = false → k ∈ rest) →
      (∀ j, la.getD j true = true ↔ listed.getD j true = true ∨ ∃ e ∈ E, e.i = j) → left ops.size la ≤ fuel → (∀ x ∈ W, ∀ q ∈ x.D, (List.lookup q tch).isSome = true) → Watched C A w G (earF E) tch inner listed la W →
      wpAnyS P ops Q (Seen W) fuel la (puts a E) w := by
  intro fuel
  induction fuel using Nat.strongRecOn with
  | ind fuel ihf =>
  intro rest
  induction rest with
  | nil =>
    intro listed la A a w G E W hk h hnt hE hnd hsz hcov hla hleft hWD hW
    have hE0 : E = [] := by
      cases E with
      | nil => rfl
      | cons e E => have := (hE e (by simp)).1; cases this
    subst hE0
    rw [drawK] at hk
    split at hk
    rotate_left
    · cases hk
    rename_i hr
    have hr : Region.ready .any ops listed = [] := by simpa using hr
    have hl : ∀ j, la.getD j true = true → listed.getD j true = true := fun j hj => by simpa using (hla j).1 hj
    have hra : Region.ready .any ops la = [] := by
      rw [List.eq_nil_iff_forall_not_mem]
      intro j hj
      have : j ∈ Region.ready .any ops listed := ready_less hsz hj (by
        cases e : listed.getD j true with
        | false => rfl
        | true => have := (hla j).2 (.inl e); rw [(mem_ready.1 hj).1] at this; cases this) (fun k hk _ => hl k hk)
      rw [hr] at this; cases this
    exact wpAnyS_done hra (hQ A a w G hk h) fuel
  | cons i rest ihr =>
    intro listed la A a w G E W hk h hnt hE hnd hsz hcov hla hleft hWD hW
    have hk0 := hk
    rw [drawK] at hk
    split at hk
    · cases hk
    rename_i o ho
    have hcov' : ∀ k ∈ early, (listed.setIfInBounds i true).getD k true = false → k ∈ rest := fun k hk hl => by
      by_cases e : i = k
      · subst e; rw [set_at] at hl; cases hl
      · rw [getD_set_ne true e] at hl
        rcases List.mem_cons.1 (hcov k hk hl) with z | z
        · exact absurd z.symm e
        · exact z
    have hilt : i < ops.size := (Array.getElem?_eq_some_iff.1 ho).1
    by_cases hiE : ∃ e ∈ E, e.i = i
    · -- it was made early
      obtain ⟨e, he, rfl⟩ := hiE
      obtain ⟨E1, E2, rfl⟩ := List.append_of_mem he
      obtain ⟨_, h2, h3, o', h4, h5, h6⟩ := hE e he
      rw [ho] at h4
      obtain rfl := Option.some.inj h4
      obtain ⟨_, o2, ho2, hm⟩ := mk_spec hmk h2
      rw [ho] at ho2
      obtain rfl := Option.some.inj ho2
      obtain ⟨hg, haf⟩ := maker_after hm
      have hk2 : stepK Γ Φ ann rid ops e.i o A (fun A1 => drawK Γ Φ ann rid ops tch early inner rest (listed.setIfInBounds e.i true) A1 K) = some r := by
        split at hk
        · exact hk
        · split at hk
          · exact hk
          · cases hk
      have hk3 : opK Γ Φ (actOf ann.acts rid e.i) o A (fun A1 => drawK Γ Φ ann rid ops tch early inner rest (listed.setIfInBounds e.i true) A1 K) = some r := by
        rcases stepK_split h hk2 with ⟨_, q⟩ | ⟨q, _⟩
        · exact q
        · simp [Region.wanted, hg] at q
      have hperm : (earF (E1 ++ e :: E2)).Perm (earF (E1 ++ E2) ++ e.F) := by
        simp only [earF, List.flatMap_append, List.flatMap_cons]
        rw [List.append_assoc]
        exact List.Perm.append_left _ List.perm_append_comm
      have hrel := h.remix (L' := earF (E1 ++ E2) ++ e.F) (fun b => hperm.mem_iff.symm) ((hperm.nodup_iff).1 h.lnodup)
      have hS0 : ∀ b, Sof C w G (earF (E1 ++ e :: E2)) b → Sof C w G (earF (E1 ++ E2) ++ e.F) b := fun b hb => ⟨hb.1, hb.2.1, hb.2.2.1, fun hx => hb.2.2.2 (hperm.mem_iff.2 hx)⟩
      obtain ⟨A', G', k1, k2, k3, k4⟩ := settle hP.tys h6 hm h5 hrel hk3
      have hother : ∀ x ∈ E1 ++ E2, x.i ≠ e.i := by
        intro x hx heq
        rw [List.map_append, List.map_cons, List.nodup_append] at hnd
        obtain ⟨n1, n2, n3⟩ := hnd
        rcases List.mem_append.1 hx with hx | hx
        · exact n3 x.i (List.mem_map.2 ⟨x, hx, rfl⟩) e.i (by simp) heq
        · exact (List.nodup_cons.1 n2).1 (List.mem_map.2 ⟨x, hx, heq⟩)
      have hdd : ∀ x ∈ E1 ++ E2, x.d ≠ e.d := by
        intro x hx heq
        have hxE : x ∈ E1 ++ e :: E2 := by simp at hx ⊢; rcases hx with h | h <;> simp [h]
        obtain ⟨_, x2, _, ox, x4, x5, _⟩ := hE x hxE
        obtain ⟨_, ox2, hox2, hmx⟩ := mk_spec hmk x2
        rw [x4] at hox2
        obtain rfl := Option.some.inj hox2
        have := (ear_apart hmk h2 ho h5 x4 (hother x hx) (fun ed hed => ((maker_after hmx).2 ed hed).elim)).2
        exact this (by rw [x5, heq])
      rw [puts_mid a E1 e E2 hdd]
      refine ihr _ la A' _ w G' (E1 ++ E2) W k1 k2 (by simpa [Act.put] using hnt) ?_ ?_ (by simpa using hsz) hcov' ?_ hleft hWD ?_
      · intro x hx
        have hxE : x ∈ E1 ++ e :: E2 := by simp at hx ⊢; rcases hx with h | h <;> simp [h]
        obtain ⟨x1, x2, x3, x4⟩ := hE x hxE
        refine ⟨?_, x2, by rw [getD_set_ne true (hother x hx).symm]; exact x3, x4⟩
        rcases List.mem_cons.1 x1 with q | q
        · exact absurd q (hother x hx)
        · exact q
      · rw [List.map_append] at hnd ⊢
        rw [List.map_cons] at hnd
        exact (List.nodup_cons.1 ((List.Perm.nodup_iff List.perm_middle).1 hnd)).2
      · intro j
        rw [hla j]
        by_cases hj : e.i = j
        · subst hj
          constructor
          · intro _; exact .inl set_at
          · intro _; exact .inr ⟨e, by simp, rfl⟩
        · rw [getD_set_ne true hj]
          constructor
          · rintro (q | ⟨x, hx, hq⟩)
            · exact .inl q
            · refine .inr ⟨x, ?_, hq⟩
              simp at hx ⊢
              rcases hx with q | rfl | q
              · exact .inl q
              · exact absurd hq hj
              · exact .inr q
          · rintro (q | ⟨x, hx, hq⟩)
            · exact .inl q
            · refine .inr ⟨x, ?_, hq⟩
              simp at hx ⊢
              rcases hx with q | q <;> simp [q]
      · intro x hx
        rcases hW x hx with q | ⟨q1, q2⟩
        · exact .inl q
        refine .inr ⟨q1, ?_⟩
        rcases q2 with q2 | ⟨s, s1, s2, s3⟩
        · exact .inl (k3 _ (hS0 _ q2))
        · obtain ⟨e1, e2, _⟩ := k4 (fun _ => false) s rfl s1
          refine .inr ⟨s, by rw [e1]; exact s1, by rw [e2]; exact s2, fun q hq hsq => ?_⟩
          rcases s3 q hq hsq with m | m | ⟨m1, m2, m3⟩
          · exact .inl ((Sup.set (fun j hj => hj : Sup listed listed) e.i) _ m)
          · exact .inr (.inl m)
          · exact .inr (.inr ⟨m1, by rw [e1]; exact m2, by rw [e2]; exact m3⟩)
    · have hiE' : ∀ e ∈ E, i ≠ e.i := fun e he heq => hiE ⟨e, he, heq.symm⟩
      have hsel' : ∀ cs b, o.op ≠ .select cs b := fun cs b => Region.noSelect_spec hsel i o cs b ho
      have unl : ∀ j, la.getD j true = false → listed.getD j true = false := fun j hj => by
        cases e : listed.getD j true with
        | false => rfl
        | true => have := (hla j).2 (.inl e); rw [hj] at this; cases this
      have hlaset : ∀ j, (la.setIfInBounds i true).getD j true = true ↔ (listed.setIfInBounds i true).getD j true = true ∨ ∃ e ∈ E, e.i = j := by
        intro j
        by_cases hj : i = j
        · subst hj
          exact ⟨fun _ => .inl set_at, fun _ => set_at⟩
        · rw [getD_set_ne true hj, getD_set_ne true hj]; exact hla j
      have common : i ∈ Region.ready .any ops listed → listed.getD i true = false ∧ la.getD i true = false ∧ i ∈ Region.ready .any ops la ∧ (∃ f, fuel = f + 1 ∧ left ops.size (la.setIfInBounds i true) ≤ f) := by
        intro hir
        have h0 := (mem_ready.1 hir).1
        have hla0 : la.getD i true = false := by
          cases e : la.getD i true with
          | false => rfl
          | true =>
            rcases (hla i).1 e with q | ⟨x, hx, hq⟩
            · rw [h0] at q; cases q
            · exact absurd hq.symm (hiE' x hx)
        refine ⟨h0, hla0, ?_, fuel - 1, ?_, ?_⟩
        · obtain ⟨_, o', ho', hall⟩ := mem_ready.1 hir
          refine mem_ready.2 ⟨hla0, o', ho', fun ed hed hb => ?_⟩
          obtain ⟨q1, q2⟩ := getD_in (hall ed hed hb)
          exact getD_out (by omega) ((hla _).2 (.inl q2))
        · have := left_less hilt hla0; omega
        · have := left_less hilt hla0; omega
      split at hk
      · rename_i hcond
        simp only [Bool.and_eq_true] at hcond
        obtain ⟨⟨⟨_, hl1⟩, htk⟩, hcm⟩ := hcond
        unfold takeable at htk
        rw [Bool.and_eq_true] at htk
        obtain ⟨hfree, hready⟩ := htk
        have hir : i ∈ Region.ready .any ops listed := by simpa using hready
        obtain ⟨h0, hla0, hira, f, rfl, hf⟩ := common hir
        have hap := ears_apart hmk hE ho hiE' hir
        obtain ⟨v, sv, W1, q1, q2, q3, q4⟩ := calm_pack hP h hcm hk
        have hl1' : List.lookup i tch = none := by simpa using hl1
        have hWD' : ∀ x ∈ W1 ++ W, ∀ q ∈ x.D, (List.lookup q tch).isSome = true := fun x hx q hq => by
          rcases List.mem_append.1 hx with hx | hx
          · exact ((q3 x hx).2.2.1 q hq).1
          · exact hWD x hx q hq
        have hFi : ∀ x ∈ W1 ++ W, ∀ l : Array Bool, Fed x (l.setIfInBounds i true) ↔ Fed x l := fun x hx l => ⟨fun ⟨q, z1, z2⟩ => by
          refine ⟨q, z1, ?_⟩
          by_cases e : i = q
          · subst e; have := hWD' x hx i z1; rw [hl1'] at this; cases this
          · rwa [getD_set_ne true e] at z2, fun z => z.set i⟩
        have hWat : Watched C A w G (earF E) tch inner listed la (W1 ++ W) := fun x hx => by
          rcases List.mem_append.1 hx with hx | hx
          · exact .inr ⟨(q3 x hx).1, (q3 x hx).2.1⟩
          · exact hW x hx
        have hseen : Seen (W1 ++ W) la w := fun x hx => (hWat x hx).imp id (·.1)
        have ih := ihf f (by omega) rest (listed.setIfInBounds i true) (la.setIfInBounds i true) (A.put o.dst sv) (a.put o.dst v) w G E (W1 ++ W) q1 q2
          (by cases o.dst with
            | none => exact hnt
            | some d => simpa [Act.put] using hnt) (hE.keep hmk (fun _ _ => rfl) rfl hiE') hnd (by simpa using hsz) hcov' hlaset hf hWD' (fun x hx => by
            rcases hWat x hx with z | ⟨z1, z2⟩
            · exact .inl (z.set i)
            refine .inr ⟨z1, ?_⟩
            rcases z2 with z2 | ⟨s, s1, s2, s3⟩
            · exact .inl z2
            · refine .inr ⟨s, by rw [site_put]; exact s1, s2, fun q hq hsq => ?_⟩
              rcases s3 q hq hsq with m | m | ⟨m1, m2, m3⟩
              · exact .inl ((Sup.set (fun j hj => hj : Sup listed listed) i) _ m)
              · exact .inr (.inl m)
              · exact .inr (.inr ⟨m1, by rw [site_put]; exact m2, m3⟩))
        rw [puts_put a o.dst v E (fun e he => (hap e he).2)] at ih
        have main := wpAnyS_first (S := Seen (W1 ++ W)) (Good := fun l => ∀ x ∈ W1, x.D ≠ [] → Unfed ops i l) (Y := fun w' => ∀ x ∈ W1, w'.heap[x.b]? = x.v) (v := v) ho (Region.noSelect_spec hsel)
          (fun c a w hq => absurd hq (hQp _ _ _)) (fun l j hg hli hj _ x hx hD => (hg x hx hD).step hli hj)
          (fun l w' hg hs x hx => by
            rcases hs x (List.mem_append.2 (.inl hx)) with ⟨q, z1, z2⟩ | z
            · have hD : x.D ≠ [] := fun e => by rw [e] at z1; cases z1
              have := hg x hx hD q ((q3 x hx).2.2.1 q z1).2
              rw [z2] at this; cases this
            · exact z)
          (fun l w' => ⟨fun z x hx => (z x hx).imp (hFi x hx l).1 id, fun z x hx => (z x hx).imp (hFi x hx l).2 id⟩)
          f la (puts a E) w (fun j oj hoj hne hun hno => Region.free_spec ho hfree j oj hoj hne (unl j hun) hno) hira
          (q4.of_same (exec_puts hsel' a E (fun e he => (hap e he).1)) (wanted_puts a E (fun e he => (hap e he).1)))
          (fun x hx hD q hq => by
            obtain ⟨z1, z2⟩ := (q3 x hx).2.2.2 hD q hq
            cases e : la.getD q true with
            | false => rfl
            | true =>
              rcases (hla q).1 e with y | ⟨y, hy, hq2⟩
              · rw [z1] at y; cases y
              · have := (hE y hy).2.1; rw [hq2] at this; exact absurd this z2) hseen ih
        exact wpAnyS_weaken (l0 := la) (fun l w' _ z x hx => z x (List.mem_append.2 (.inr hx))) _ _ _ _ (fun _ hj => hj) main
      · split at hk
        rotate_left
        · cases hk
        rename_i hcond
        simp only [Bool.and_eq_true] at hcond
        obtain ⟨⟨⟨hready, hal⟩, hwl⟩, hin⟩ := hcond
        have hir : i ∈ Region.ready .any ops listed := by simpa using hready
        obtain ⟨h0, hla0, hira, f, rfl, hf⟩ := common hir
        have hal' : Region.ready .any ops (mark (early.filter (· != i)) listed) = [i] := by simpa [alone] using hal
        refine ⟨fun hn => (by rw [hn] at hira; cases hira), fun j hj => ?_⟩
        by_cases hji : j = i
        · subst hji
          have hap := ears_apart hmk hE ho hiE' hir
          unfold wpOp
          rw [ho]
          dsimp only
          rw [wanted_puts a E (fun e he => (hap e he).1)]
          have fin : ∀ {A' : St} {a' : Act} {w' : World} {G' : Nat → GS}, drawK Γ Φ ann rid ops tch early inner rest (listed.setIfInBounds j true) A' K = some r → Does C A w G (earF E) (fun s => s ∈ (List.lookup j tch).getD []) (j ∈ inner) A' a' w' G' → a'.tmps.size = nt →
              Seen W (la.setIfInBounds j true) w' ∧ wpAnyS P ops Q (Seen W) f (la.setIfInBounds j true) (puts a' E) w' := by
            intro A' a' w' G' hk' hd hs
            have hW' := Watched.step hW h h0 hd
            exact ⟨fun x hx => (hW' x hx).imp id (·.1), ihf f (by omega) rest _ _ A' a' w' G' E W hk' hd.1 hs (hE.keep hmk hd.2.1 rfl hiE') hnd (by simpa using hsz) hcov' hlaset hf hWD hW'⟩
          rcases stepK_split h hk with ⟨hw, hk3⟩ | ⟨hw, hk3⟩
          · rw [if_pos hw]
            refine .inl ?_
            have hdo := does_op (ss := (List.lookup j tch).getD []) (inn := inner.contains j) hP h (by simpa using hwl) (fun e => by
              have e' : j ∈ inner := by simpa using e
              simpa [e'] using hin) hk3 Q
            refine Oper.wp_mono (fun a' w' hh => ?_) (wp_puts hsel' hQp (wp_shape hdo) E hap)
            obtain ⟨b, rfl, ⟨A', G', k1, k2⟩, v, ds, e⟩ := hh
            refine fin (G' := G') k1 ?_ ?_
            · obtain ⟨m1, m2, m3, m4, m5⟩ := k2
              exact ⟨m1, m2, m3, m4, fun hi => m5 (by simpa using hi)⟩
            · rw [e]
              cases o.dst with
              | none => exact hnt
              | some d => simpa [Act.put] using hnt
          · rw [if_neg (by rw [hw]; simp)]
            have hd : Does C A w G (earF E) (fun s => s ∈ (List.lookup j tch).getD []) (j ∈ inner) (A.put o.dst .tnil) (a.put o.dst undef) w G :=
              ⟨h.put _ _ _ SVr_undef, fun _ _ => rfl, fun b hb => ⟨hb, rfl⟩, fun s _ _ => ⟨site_put _ _ _ _, rfl, fun _ _ => rfl⟩, fun _ s T t y e => ⟨⟨T, t, y, by rw [site_put]; exact e⟩, rfl, rfl⟩⟩
            have := fin hk3 hd (by cases o.dst with
              | none => exact hnt
              | some d => simpa [Act.put] using hnt)
            rw [puts_put a o.dst undef E (fun e he => (hap e he).2)] at this
            exact this
        · -- an early maker
          have hjE : ∀ e ∈ E, j ≠ e.i := fun e he heq => by
            have := (hla j).2 (.inr ⟨e, he, heq.symm⟩)
            rw [(mem_ready.1 hj).1] at this; cases this
          have hjl : listed.getD j true = false := unl j (mem_ready.1 hj).1
          have hje : j ∈ early := by
            rcases Classical.em (j ∈ early) with q | q
            · exact q
            exfalso
            have hm : j ∈ Region.ready .any ops (mark (early.filter (· != i)) listed) := by
              obtain ⟨_, oj, hoj, hall⟩ := mem_ready.1 hj
              refine mem_ready.2 ⟨?_, oj, hoj, fun ed hed hb => ?_⟩
              · cases e : (mark (early.filter (· != i)) listed).getD j true with
                | false => rfl
                | true =>
                  rcases (mark_getD _ _ _).1 e with z | z
                  · rw [hjl] at z; cases z
                  · exact absurd (List.mem_filter.1 z).1 q
              · obtain ⟨z1, z2⟩ := getD_in (hall ed hed hb)
                refine getD_out (by rw [mark_size]; omega) ((mark_getD _ _ _).2 ?_)
                rcases (hla _).1 z2 with y | ⟨y, hy, hy2⟩
                · exact .inl y
                · refine .inr (List.mem_filter.2 ⟨by rw [← hy2]; exact (hE y hy).2.1, ?_⟩)
                  rw [← hy2]
                  simpa using (hiE' y hy).symm
            rw [hal'] at hm
            exact hji (by simpa using hm)
          obtain ⟨_, oj, hoj, hm⟩ := mk_spec hmk hje
          obtain ⟨hg, _⟩ := maker_after hm
          obtain ⟨d, hd⟩ := maker_dst hm
          have hja : la.getD j true = false := (mem_ready.1 hj).1
          have hjlt : j < ops.size := (Array.getElem?_eq_some_iff.1 hoj).1
          have hlj := left_less hjlt hja
          unfold wpOp
          rw [hoj]
          dsimp only
          rw [if_pos (by simp [Region.wanted, hg])]
          refine .inl (Oper.wp_mono (fun a' w' hh => ?_) (made_wp (Φ := Φ) hP hm hd (by rw [puts_defers]; exact h.defers) (by rw [puts_size]; exact hnt) Q))
          obtain ⟨v, F, rfl, hgo, hsame, hFn, hF, hmade⟩ := hh
          obtain ⟨g1, g2⟩ := h.grownL hgo hsame hFn hF
          have hW' : Watched C A w' G (earF (⟨j, d, v, F⟩ :: E)) tch inner listed (la.setIfInBounds j true) W := by
            intro x hx
            rcases hW x hx with z | ⟨z1, z2⟩
            · exact .inl (z.set j)
            rcases z2 with z2 | ⟨s, s1, s2, s3⟩
            · exact .inr ⟨by rw [hsame _ z2.1]; exact z1, .inl (g2 _ z2)⟩
            · exact .inr ⟨by rw [hsame _ (h.mine s _ s2).2]; exact z1, .inr ⟨s, s1, s2, s3⟩⟩
          have hE' : Ears Γ ops early (i :: rest) listed w' (⟨j, d, v, F⟩ :: E) := by
            intro x hx
            rcases List.mem_cons.1 hx with rfl | hx
            · exact ⟨hcov j hje hjl, hje, hjl, oj, hoj, hd, hmade⟩
            · obtain ⟨x1, x2, x3, ox, x4, x5, x6⟩ := hE x hx
              refine ⟨x1, x2, x3, ox, x4, x5, x6.keep (fun b hb => hsame b (h.lmine b (List.mem_flatMap.2 ⟨x, hx, hb⟩)).2) ?_⟩
              intro T n parts t y hop hrow
              obtain ⟨_, o', ho', hm'⟩ := mk_spec hmk x2
              rw [x4] at ho'
              obtain rfl := Option.some.inj ho'
              unfold isMaker at hm'
              rw [hop, x5] at hm'
              simp only [Bool.and_eq_true] at hm'
              have := hm'.2.2
              rw [hrow] at this
              simp only [Bool.and_eq_true] at this
              exact this.1
          refine ⟨fun x hx => (hW' x hx).imp id (·.1), ihf f (by omega) (i :: rest) listed (la.setIfInBounds j true) A a w' G (⟨j, d, v, F⟩ :: E) W hk0 g1 hnt hE' ?_ (by simpa using hsz) hcov ?_ (by omega) hWD hW'⟩
          · rw [List.map_cons, List.nodup_cons]
            refine ⟨fun hmm => ?_, hnd⟩
            obtain ⟨y, hy, hq⟩ := List.mem_map.1 hmm
            exact hjE y hy hq.symm
          · intro k
            by_cases hk : j = k
            · subst hk
              exact ⟨fun _ => .inr ⟨_, List.mem_cons_self .., rfl⟩, fun _ => set_at⟩
            · rw [getD_set_ne true hk, hla k]
              constructor
              · rintro (z | ⟨y, hy, hq⟩)
                · exact .inl z
                · exact .inr ⟨y, List.mem_cons_of_mem _ hy, hq⟩
              · rintro (z | ⟨y, hy, hq⟩)
                · exact .inl z
                · rcases List.mem_cons.1 hy with rfl | hy
                  · exact absurd hq hk
                  · exact .inr ⟨y, hy, hq⟩
end
end Go.Am
/- Am, part 32: the head of a loop. -/
set_option linter.unusedVariables false
set_option linter.unusedSimpArgs false
namespace Go.Am

section
variable {C : Ctx} {a : Act} {w : World}

theorem coeVar_sound {A A1 : St} {G : Nat → GS} {s : Nat} {t : Ty} (h : RelG C A a w G []) (hc : coeVar s t A = some A1) : ∃ G', RelG C A1 a w G' [] := by
  unfold coeVar at hc
  split at hc
  rotate_left
  · cases hc
  rename_i T t0 x e
  split at hc
  rotate_left
  · cases hc
  rename_i y hco
  simp only [Option.some.injEq] at hc
  subst hc
  have hs := h.sites s
  rw [e] at hs
  obtain ⟨F', e1, hb, hr⟩ := hs
  have hn := h.nodup s
  rw [e1] at hn
  obtain ⟨hn1, hn2⟩ := List.nodup_cons.1 hn
  obtain ⟨F'', hsub, hg⟩ := R_coeV _ _ _ _ _ _ hco hn2 hr
  have hk := slot_kill (A.setSite s (.var T t y)) (fun v => v.beneath s []) rfl
  refine ⟨_, h.site (A' := (A.setSite s (.var T t y)).killBelow s []) (L' := []) s ⟨(G s).cs, (G s).blk :: F'', (G s).blk⟩ (Goes.refl w) (fun _ _ _ _ => rfl)
    (fun s' hs' => by show (A.setSite s _).site s' = _; rw [site_setSite, if_neg hs']) (by simp [St.killBelow])
    (fun b hb' => by
      have : b ∈ (G s).F := by
        rw [e1]
        rcases List.mem_cons.1 hb' with rfl | hb'
        · simp
        · simp [hsub.subset hb']
      exact ⟨.inl this, (h.mine s b this).2⟩)
    (List.nodup_cons.2 ⟨fun hm => hn1 (hsub.subset hm), hn2.sublist hsub⟩) (by simp) (by simp) (by simp)
    (fun S' h1 h2 => by
      show SiteR w S' ((A.setSite s _).site s) _
      rw [site_setSite, if_pos rfl]
      refine ⟨F'', rfl, hb, hg S' (fun b hb => (h1 b hb).1) (fun b hbF hb' => h2 b (.inl (by rw [e1]; simp [hbF])) (fun hm => ?_) (by simp))⟩
      rcases List.mem_cons.1 hm with rfl | hm
      · exact hn1 hbF
      · exact hb' hm)
    (fun i => ?_)
    (fun q hq e3 => ⟨⟨T, t, y, by show (A.setSite s _).site s = _; rw [site_setSite, if_pos rfl]⟩, by have := (h.pin q hq).2; rw [e3] at this; exact this⟩)⟩
  have e2 : ((A.setSite s (.var T t y)).killBelow s []).slot i = if (A.slot i).beneath s [] then .dead else A.slot i := hk i
  rw [e2]
  split
  · exact .inl rfl
  · rename_i hbn
    refine .inr ⟨rfl, every_mono (fun r s' q hq => ?_) _ (beneath_every (s := s) (p := []) _ (by simpa using hbn))⟩
    by_cases hs' : s' = s
    · subst hs'
      rcases hq rfl with ⟨rfl, rfl⟩ | hq
      · intro t' cs' loc' hAt _
        rw [e] at hAt
        obtain ⟨k1, k2, k3⟩ := At_nil hAt rfl
        refine ⟨t, ((G s').cs.drop 0).take (cells t), ?_, by simp⟩
        show AtS w ((A.setSite s' _).site s') _ _ _ _ _
        rw [site_setSite, if_pos rfl, upd_same, k3]
        exact At.plain (loc := some ((G s').blk, 0)) (t := t) (p := []) (o := 0) (t' := t) (by simp [offs])
      · simp [shapePre] at hq
    · show Lives w w (A.site s') ((A.setSite s _).site s') _ _ _ _
      rw [site_setSite, if_neg hs', upd_ne _ _ hs']
      exact Lives.same (h.sites s') (fun _ _ => rfl) _ _

theorem coeVars_sound : ∀ (l : List (Nat × Ty)) {A A1 : St} {G : Nat → GS}, RelG C A a w G [] → coeVars l A = some A1 → ∃ G', RelG C A1 a w G' []
  | [], A, A1, G, h, hc => by simp only [coeVars, Option.some.injEq] at hc; subst hc; exact ⟨G, h⟩
  | (s, t) :: l, A, A1, G, h, hc => by
    rw [coeVars] at hc
    split at hc
    · rename_i A2 e
      obtain ⟨G', h'⟩ := coeVar_sound h e
      exact coeVars_sound l h' hc
    · cases hc

theorem put_self (a : Act) (i : Nat) : a.put (some i) (a.tmps.getD i undef) = a := by
  have : a.tmps.setIfInBounds i (a.tmps.getD i undef) = a.tmps := by
    apply Array.ext
    · simp
    · intro j h1 h2
      rw [Array.getElem_setIfInBounds (by simpa using h2)]
      split
      · rename_i e; subst e; simp [h2]
      · rfl
  simp only [Act.put, this]

theorem reput_sound {A A1 : St} {G : Nat → GS} {i : Nat} {t : Ty} (h : RelG C A a w G []) (hr : reput i t A = some A1) : ∃ G', RelG C A1 a w G' [] := by
  unfold reput at hr
  split at hr
  rotate_left
  · cases hr
  rename_i t0 x A2 htk
  split at hr
  rotate_left
  · cases hr
  rename_i y hc
  obtain ⟨cs, hv, G1, F, k1, k2, k3, _, _⟩ := taken_value htk h (h.slots i)
  have k2 : R w (Sof C w G1 ([] ++ F)) t0 x cs F := k2
  obtain ⟨F', j1, j2, j3, _⟩ := coe_sound k1 k2 hc
  obtain ⟨G', m1, _, _⟩ := putTree_sound j1 j2 hr
  have hv : a.tmps.getD i undef = aggV (isAgg t0) cs := hv
  rw [(coeV_agg _ _ _ _ hc).1, ← hv, put_self] at m1
  exact ⟨G', m1⟩

theorem reputs_sound : ∀ (l : List (Nat × Want)) {A A1 : St} {G : Nat → GS}, RelG C A a w G [] → reputs l A = some A1 → ∃ G', RelG C A1 a w G' []
  | [], A, A1, G, h, hc => by simp only [reputs, Option.some.injEq] at hc; subst hc; exact ⟨G, h⟩
  | (s, .keep) :: l, A, A1, G, h, hc => by
    rw [reputs] at hc
    exact reputs_sound l h hc
  | (s, .tree t) :: l, A, A1, G, h, hc => by
    rw [reputs] at hc
    split at hc
    · rename_i A2 e
      obtain ⟨G', h'⟩ := reput_sound h e
      exact reputs_sound l h' hc
    · cases hc

theorem nth_keepSlots (live : List Nat) : ∀ (l : List SV) (k i : Nat), nth .dead (keepSlots live l k) i = nth .dead l i ∨ nth .dead (keepSlots live l k) i = .dead
  | [], k, i => by simp [keepSlots, nth]
  | v :: l, k, 0 => by simp only [keepSlots, nth]; split <;> simp
  | v :: l, k, i + 1 => by simp only [keepSlots, nth]; exact nth_keepSlots live l (k + 1) i
theorem length_keepSlots (live : List Nat) : ∀ (l : List SV) (k : Nat), (keepSlots live l k).length = l.length
  | [], k => rfl
  | v :: l, k => by simp [keepSlots, length_keepSlots live l (k + 1)]
theorem nth_keepSites (live : List Nat) : ∀ (l : List Site) (k i : Nat), nth .none (keepSites live l k) i = if live.contains (k + i) then nth .none l i else .none
  | [], k, i => by simp [keepSites, nth]
  | v :: l, k, 0 => by simp only [keepSites, nth, Nat.add_zero]
  | v :: l, k, i + 1 => by
    simp only [keepSites, nth]
    rw [nth_keepSites live l (k + 1) i, show k + 1 + i = k + (i + 1) by omega]

theorem strays_every (live : List Nat) : ∀ v : SV, v.strays live = false → v.every fun _ s _ => live.contains s = true
  | .ref s p, h => by
    have : live.contains s = true := by simpa [SV.strays] using h
    exact this
  | .ptr s p, h => by
    have : live.contains s = true := by simpa [SV.strays] using h
    exact this
  | .pr a b, h => by
    simp only [SV.strays, Bool.or_eq_false_iff] at h
    exact ⟨strays_every live a h.1, strays_every live b h.2⟩
  | .tcons a b, h => by
    simp only [SV.strays, Bool.or_eq_false_iff] at h
    exact ⟨strays_every live a h.1, strays_every live b h.2⟩
  | .fn _ c, h => by
    simp only [SV.strays] at h
    exact strays_every live c h
  | .dead, _ => trivial
  | .val _ _, _ => trivial
  | .ro _ _, _ => trivial
  | .nilp, _ => trivial
  | .tnil, _ => trivial

theorem nth_beyond : ∀ (l : List Site) (i : Nat), l.length ≤ i → nth .none l i = .none
  | [], i, _ => by cases i <;> rfl
  | _ :: l, 0, h => by simp at h
  | _ :: l, i + 1, h => by simp only [nth]; exact nth_beyond l i (by simpa using h)

theorem norm_sound {A A1 : St} {G : Nat → GS} {p : Plan} (h : RelG C A a w G []) (hn : norm p A = some A1) : ∃ G', RelG C A1 a w G' [] := by
  unfold norm at hn
  split at hn
  · cases hn
  rename_i A2 e1
  split at hn
  · cases hn
  rename_i A3 e2
  split at hn
  rotate_left
  · cases hn
  rename_i hpins
  simp only [Option.some.injEq] at hn
  obtain ⟨G2, h2⟩ := coeVars_sound _ h e1
  obtain ⟨G3, h3⟩ := reputs_sound _ h2 e2
  have hsite : ∀ s, A1.site s = if p.sites.contains s then A3.site s else .none := by
    intro s; rw [← hn]; show nth .none (keepSites p.sites A3.sites 0) s = _
    rw [nth_keepSites, Nat.zero_add]; rfl
  have hslot : ∀ i, A1.slot i = .dead ∨ (A1.slot i = A3.slot i ∧ (A3.slot i).every fun _ s _ => p.sites.contains s = true) := by
    intro i
    have e : A1.slot i = (fun v : SV => if v.strays p.sites then .dead else v) (nth .dead (keepSlots (p.slots.map (·.1)) A3.slots 0) i) := by
      rw [← hn]
      exact nth_map _ _ (by simp) _ _
    rw [e]
    rcases nth_keepSlots (p.slots.map (·.1)) A3.slots 0 i with e2 | e2
    · rw [e2]
      dsimp only
      split
      · exact .inl rfl
      · rename_i hs
        exact .inr ⟨rfl, strays_every p.sites (A3.slot i) ((Bool.not_eq_true _).mp hs)⟩
    · rw [e2]; exact .inl (by simp)
  obtain ⟨h4, _, _⟩ := h3.many (A' := A1) (G' := fun s => if p.sites.contains s then G3 s else ⟨[], [], 0⟩) (L' := []) (fun s => ¬ (p.sites.contains s = true)) (Goes.refl w)
    (fun _ _ _ _ => rfl) (fun s hs => by
      have hs : p.sites.contains s = true := Decidable.byContradiction hs
      rw [hsite]; simp only [hs, if_true]; exact ⟨by trivial, by trivial⟩)
    (by rw [← hn]; simp [length_keepSlots]) (fun s hs b hb => by simp only [if_neg hs] at hb; cases hb) (fun s hs => by simp only [if_neg hs]; exact List.nodup_nil)
    (fun s s' hs _ _ b hb => by simp only [if_neg hs] at hb; cases hb) (by simp) (by simp) (by simp)
    (fun S' _ _ s hs => by rw [hsite, if_neg hs]; simp only [if_neg hs]; rfl)
    (fun i => by
      rcases hslot i with e | ⟨e, hev⟩
      · exact .inl e
      · refine .inr ⟨e, every_mono (fun r s q hs => ?_) _ hev⟩
        rw [hsite]
        simp only [hs, if_true]
        exact Lives.same (h3.sites s) (fun _ _ => rfl) _ _)
    (fun q hq hs => by
      exfalso
      obtain ⟨⟨T, t, x, e⟩, _⟩ := h3.pin q hq
      have hlt : q.1 < A3.sites.length := by
        apply Decidable.byContradiction
        intro hge
        have : A3.site q.1 = .none := nth_beyond _ _ (by omega)
        rw [this] at e; cases e
      have := List.all_eq_true.1 hpins q.1 (List.mem_range.2 hlt)
      rw [Bool.or_eq_true] at this
      rcases this with this | this
      · have h5 := h3.pinlen q hq
        have : q.1 < A3.slots.length := by simpa using this
        omega
      · exact hs this)
  exact ⟨_, h4⟩
end
end Go.Am
/- Am, part 33: code; a function. -/
set_option linter.unusedVariables false
set_option linter.unusedSimpArgs false
namespace Go.Am

section
variable {β : Type} {P : Program} {Γ : Env} {C : Ctx} {a : Act} {w : World} {r : β} {Φ : Prog} {ann : Ann}

theorem iterK_sound {c : Code} {body : St → (Ex → St → Option β) → Option β} (hb : ∀ (A : St) (G : Nat → GS) (a : Act) (w : World) (K : Ex → St → Option β), body A K = some r → RelG C A a w G [] → c.wp P (Post C K r) a w) (p : Plan) :
    ∀ (n : Nat) (A : St) (G : Nat → GS) (a : Act) (w : World) (K : Ex → St → Option β), iterK body p n A K = some r → RelG C A a w G [] → LoopWp P c (Post C K r) a w
  | 0, A, G, a, w, K, hk, h => by simp [iterK] at hk
  | n + 1, A, G, a, w, K, hk, h => by
    rw [iterK] at hk
    refine loop_round (wp_mono (hb A G a w _ hk h) fun e a' w' hq => ?_)
    cases e with
    | normal =>
      obtain ⟨A', G', k1, k2⟩ := hq
      dsimp only at k1
      split at k1
      · rename_i A3 hn
        obtain ⟨G1, h1⟩ := norm_sound k2 hn
        exact iterK_sound hb p n A3 G1 a' w' K k1 h1
      · cases k1
    | exit i => exact hq
    | ret => exact hq
    | goto l => exact hq
    | panic c => exact hq
    | outgrown => exact hq

theorem endK_sound {id : Nat} {A : St} {G : Nat → GS} {K : Ex → St → Option β} (hk : endK ann id A K = some r) (h : RelG C A a w G []) : Post C K r .normal a w := by
  unfold endK at hk
  split at hk
  · exact ⟨A, G, hk, h⟩
  · split at hk
    · rename_i A1 e
      obtain ⟨G1, h1⟩ := norm_sound h e
      exact ⟨A1, G1, hk, h1⟩
    · cases hk

theorem outK_sound {id : Nat} {A : St} {G : Nat → GS} {K : St → Option β} (hk : outK ann id A K = some r) (h : RelG C A a w G []) : ∃ A1 G1, K A1 = some r ∧ RelG C A1 a w G1 [] := by
  unfold outK at hk
  split at hk
  · exact ⟨A, G, hk, h⟩
  · split at hk
    · rename_i A1 e
      obtain ⟨G1, h1⟩ := norm_sound h e
      exact ⟨A1, G1, hk, h1⟩
    · cases hk

theorem headK_sound {rid : Nat} {A : St} {G : Nat → GS} {K : St → Option β} (hk : headK ann rid A K = some r) (h : RelG C A a w G []) : ∃ A1 G1, K A1 = some r ∧ RelG C A1 a w G1 [] := by
  unfold headK at hk
  split at hk
  · exact ⟨A, G, hk, h⟩
  · split at hk
    · rename_i A1 e
      obtain ⟨G1, h1⟩ := norm_sound h e
      exact ⟨A1, G1, hk, h1⟩
    · cases hk

theorem codeK_sound (hP : Known P Γ Φ) (hmix : P.follows .mixedOrders = true) (n : Nat) : ∀ (c : Code) (bl : Nat) (A : St) (G : Nat → GS) (a : Act) (w : World) (K : Ex → St → Option β),
    codeK Γ Φ ann n c bl A K = some r → RelG C A a w G [] → c.wp P (Post C K r) a w := by
  intro c
  induction c with
  | skip => intro bl A G a w K hk h; exact wp_skip ⟨A, G, hk, h⟩
  | region rid ops draw =>
    intro bl A G a w K hk h
    unfold codeK at hk
    cases draw with
    | false =>
      refine wp_region ?_
      have := opsK_sound (ops := ops) (rid := rid) (Q := Post C K r) hP (fun A a w G hK hR => ⟨A, G, hK, hR⟩) ops.toList 0 A a w G (fun i hi => by simp) hk h
      rw [List.range_eq_range']
      simpa using this
    | true =>
      dsimp only at hk
      split at hk
      rotate_left
      · cases hk
      rename_i d hd
      split at hk
      rotate_left
      · cases hk
      rename_i hok
      simp only [Bool.and_eq_true] at hok
      obtain ⟨⟨⟨hsel, hlen⟩, hmk⟩, hcov⟩ := hok
      refine wp_region_any hmix (wpAny_of_S (S := Seen []) _ _ _ _ ?_)
      have hun : ∀ j, (Array.replicate ops.size false).getD j true = true ↔ (Array.replicate ops.size false).getD j true = true ∨ ∃ e ∈ ([] : List Ear), e.i = j := fun j => by simp
      exact drawS (ops := ops) (rid := rid) (tch := d.touch) (early := d.early) (inner := d.inner) (Q := Post C K r) hP hsel hmk (fun A a w G hK hR => ⟨A, G, hK, hR⟩) (fun c a w hq => hq) ops.size d.order (Array.replicate ops.size false) (Array.replicate ops.size false) A a { w with drawn := w.drawn + 1 } G [] []
        hk (h.drew _) h.len (fun e he => by cases he) (by simp) rfl (fun k hk' _ => by simpa using List.all_eq_true.1 hcov k hk') hun
        (by unfold left; exact Nat.le_trans (List.length_filter_le _ _) (by simp)) (fun x hx => by cases hx) (fun x hx => by cases hx)
  | seq x y ihx ihy =>
    intro bl A G a w K hk h
    rw [codeK] at hk
    refine wp_seq (wp_mono (ihx bl A G a w _ hk h) fun e a' w' hq => ?_)
    cases e with
    | normal =>
      obtain ⟨A', G', k1, k2⟩ := hq
      obtain ⟨A2, G2, k3, k4⟩ := headK_sound k1 k2
      exact ihy bl A2 G2 a' w' K k3 k4
    | exit i => exact hq
    | ret => exact hq
    | goto l => exact hq
    | panic c => exact hq
    | outgrown => exact hq
  | cond c x y ihx ihy =>
    intro bl A G a w K hk h
    unfold codeK at hk
    split at hk
    · rename_i t
      split at hk
      rotate_left
      · cases hk
      rename_i b hb
      have hv : a.eval (.tmp t) = .bool (toB b) := SVr_bool.1 (slot_at h hb)
      refine wp_cond hv ?_
      cases hbb : toB b with
      | true =>
        rw [hbb] at hk
        exact ihx bl _ G a w K hk (put_bool h hb true hbb)
      | false =>
        rw [hbb] at hk
        exact ihy bl _ G a w K hk (put_bool h hb false hbb)
    · rename_i v
      refine wp_cond (t := v) rfl ?_
      cases v with
      | true => exact ihx bl A G a w K hk h
      | false => exact ihy bl A G a w K hk h
    · cases hk
  | block id c ih =>
    intro bl A G a w K hk h
    rw [codeK] at hk
    refine wp_block (wp_mono (ih id A G a w _ hk h) fun e a' w' hq => ?_)
    cases e with
    | normal =>
      obtain ⟨A', G', k1, k2⟩ := hq
      exact endK_sound k1 k2
    | exit i =>
      obtain ⟨A', G', k1, k2⟩ := hq
      show (if i = id then Post C K r .normal a' w' else Post C K r (.exit i) a' w')
      split
      · rename_i e; simp only [e, if_true] at k1; exact endK_sound k1 k2
      · rename_i e; simp only [e, if_false] at k1; exact ⟨A', G', k1, k2⟩
    | ret => exact hq
    | goto l => exact hq
    | panic c => exact hq
    | outgrown => exact hq
  | loop c ih =>
    intro bl A G a w K hk h
    rw [codeK] at hk
    split at hk
    · rename_i A1 hn
      obtain ⟨G1, h1⟩ := norm_sound h hn
      exact wp_of_loop (iterK_sound (fun A G a w K hk h => ih bl A G a w K hk h) _ n A1 G1 a w K hk h1)
    · cases hk
  | exit id =>
    intro bl A G a w K hk h
    rw [codeK] at hk
    obtain ⟨A1, G1, h1, h2⟩ := outK_sound hk h
    exact wp_exit ⟨A1, G1, h1, h2⟩
  | ret => intro bl A G a w K hk h; exact wp_ret ⟨A, G, hk, h⟩
  | _ => intro bl A G a w K hk h; simp [codeK] at hk
end
end Go.Am
/- Am, part 34: a function's contract, from its body. -/
set_option linter.unusedVariables false
set_option linter.unusedSimpArgs false
namespace Go.Am

section
variable {P : Program} {Γ : Env} {C : Ctx} {a : Act} {w : World} {Φ : Prog} {ann : Ann}

theorem loadV_sound {A : St} {G : Nat → GS} {L : List Nat} {T : TypeId} {i : TI} {sv v : SV} {u : Value} (hT : tysOk P Γ = true) (hi : Γ.at T = some i) (h : RelG C A a w G L) (hv : SVr w (Sof C w G L) A.site G sv u) (hl : loadV i.ty A sv = some v) :
    ∃ ad val, u = .pointer (some ad) ∧ (loadVar T ad).run P w = .ok val w ∧ SVr w (Sof C w G L) A.site G v val := by
  have hs := (tf_of hT hi).sized
  unfold loadV at hl
  split at hl
  · rename_i t y
    split at hl
    · rename_i hsh
      simp only [Option.some.injEq] at hl
      subst hl
      obtain ⟨ad, ccs, rfl, hS, hr, hcell⟩ := SVr_ro.1 hv
      have hsh' := shape_same hsh
      refine ⟨ad, _, rfl, load_run hs (by rw [R_len _ _ _ _ hr, hsh'.1]) hcell, ?_⟩
      rw [← hsh'.2]; exact SVr_val hr
    · cases hl
  · rename_i s p
    split at hl
    · rename_i u' y hr
      split at hl
      · rename_i hsh
        simp only [Option.some.injEq] at hl
        subst hl
        obtain ⟨cs', b, o', F', cur, T', g1, g2, g3, g4, g5, g6, g7⟩ := ptr_at h hv rfl hr
        have hsh' := shape_same hsh
        refine ⟨_, _, g3, load_run hs (by rw [R_len _ _ _ _ g2, hsh'.1]) (by rw [g6]; exact row_cells g5), ?_⟩
        rw [← hsh'.2]; exact SVr_view g1 g2
      · cases hl
    · cases hl
  · cases hl

/-- How the model reads a result. -/
def resSem (tmps : Array Value) : ResultVar → Sem Value
  | .tmp t => pure (tmps.getD t undef)
  | .cell a t => do loadVar t (← asAddr (tmps.getD a undef))

theorem resSV_sound {A : St} {G : Nat → GS} {L : List Nat} (hT : tysOk P Γ = true) (h : RelG C A a w G L) (rv : ResultVar) (hd : resSV Γ A rv ≠ .dead) :
    ∃ v, (resSem a.tmps rv).run P w = .ok v w ∧ SVr w (Sof C w G L) A.site G (resSV Γ A rv) v := by
  cases rv with
  | tmp t => exact ⟨_, rfl, h.slots t⟩
  | cell x T =>
    simp only [resSV] at hd ⊢
    split at hd
    · rename_i i hi
      cases hl : loadV i.ty A (A.slot x) with
      | none => rw [hl] at hd; exact absurd rfl hd
      | some v =>
        obtain ⟨ad, val, e, hr, hs⟩ := loadV_sound hT hi h (h.slots x) hl
        refine ⟨val, ?_, hs⟩
        have e' : (resSem a.tmps (.cell x T)) = (do loadVar T (← asAddr (a.tmps.getD x undef))) := rfl
        rw [e', e]
        simp [asAddr, hr]
    · exact absurd rfl hd

theorem CResR_frame {S S' : Nat → Prop} (hS : ∀ b, S b → S' b) : ∀ (c : CRes) v F, CResR w S c v F → CResR w S' c v F := by
  intro c v F h
  cases c with
  | v t x => simp only [CResR] at h ⊢; obtain ⟨cs, h1, h2⟩ := h; exact ⟨cs, h1, R_frame (fun b hb => ⟨hS b hb, rfl⟩) _ _ _ _ (fun _ _ => rfl) h2⟩
  | new T t x =>
    simp only [CResR] at h ⊢
    obtain ⟨b, h1, cs, F', h2, h3, h4⟩ := h
    exact ⟨b, h1, cs, F', h2, h3, R_frame (fun b hb => ⟨hS b hb, rfl⟩) _ _ _ _ (fun _ _ => rfl) h4⟩
  | nilp => simpa only [CResR] using h

theorem takeRes_sound (hT : tysOk P Γ = true) : ∀ (rs : List ResultVar) (ts : List Ty) {A A1 : St} {G : Nat → GS} {L : List Nat} {l : List CRes}, RelG C A a w G L → takeRes Γ rs ts A = some (l, A1) →
    ∃ G1 F vs, RelG C A1 a w G1 (L ++ F) ∧ CRessR w (Sof C w G1 (L ++ F)) l vs F ∧ (rs.mapM (resSem a.tmps)).run P w = .ok vs w ∧ (∀ b, Sof C w G L b → Sof C w G1 (L ++ F) b)
  | [], ts, A, A1, G, L, l, h, hk => by
    simp only [takeRes, Option.some.injEq, Prod.mk.injEq] at hk
    obtain ⟨rfl, rfl⟩ := hk
    exact ⟨G, [], [], by simpa using h, by simp [CRessR], by simp, fun b hb => by simpa using hb⟩
  | rv :: rs, ts, A, A1, G, L, l, h, hk => by
    have glue : ∀ {A2 : St} {G2 : Nat → GS} {F2 : List Nat} {c : CRes} {v : Value} {ts' : List Ty} {l' : List CRes}, RelG C A2 a w G2 (L ++ F2) → CResR w (Sof C w G2 (L ++ F2)) c v F2 → (resSem a.tmps rv).run P w = .ok v w → (∀ b, Sof C w G L b → Sof C w G2 (L ++ F2) b) →
        takeRes Γ rs ts' A2 = some (l', A1) → l = c :: l' →
        ∃ G1 F vs, RelG C A1 a w G1 (L ++ F) ∧ CRessR w (Sof C w G1 (L ++ F)) l vs F ∧ ((rv :: rs).mapM (resSem a.tmps)).run P w = .ok vs w ∧ (∀ b, Sof C w G L b → Sof C w G1 (L ++ F) b) := by
      rintro A2 G2 F2 c v ts' l' k1 k2 k3 k4 k5 rfl
      obtain ⟨G1, F, vs, j1, j2, j3, j4⟩ := takeRes_sound hT rs ts' k1 k5
      refine ⟨G1, F2 ++ F, v :: vs, by rw [← List.append_assoc]; exact j1, ?_, by simp [List.mapM_cons, k3, j3], fun b hb => by rw [← List.append_assoc]; exact j4 b (k4 b hb)⟩
      rw [← List.append_assoc]
      simp only [CRessR]
      exact ⟨v, vs, F2, F, rfl, rfl, CResR_frame (fun b hb => j4 b hb) _ _ _ k2, j2⟩
    have hres := resSV_sound hT h rv
    rw [takeRes] at hk
    split at hk
    · rename_i e
      obtain ⟨v, hv, hs⟩ := hres (by rw [e]; simp)
      rw [e] at hs
      split at hk
      · rename_i l' A2 e2
        simp only [Option.some.injEq, Prod.mk.injEq] at hk
        obtain ⟨rfl, rfl⟩ := hk
        exact glue (F2 := []) (c := .nilp) (v := v) (by simpa using h) (by simp only [CResR]; exact ⟨by first | rfl | trivial, SVr_nilp.1 hs⟩) hv (fun b hb => by simpa using hb) e2 rfl
      · cases hk
    · rename_i s e
      obtain ⟨v, hv, hs⟩ := hres (by rw [e]; simp)
      rw [e] at hs
      split at hk
      rotate_left
      · cases hk
      rename_i hlt
      split at hk
      rotate_left
      · cases hk
      rename_i T t x es
      split at hk
      rotate_left
      · cases hk
      rename_i l' A2 e2
      simp only [Option.some.injEq, Prod.mk.injEq] at hk
      obtain ⟨rfl, rfl⟩ := hk
      have hsite := h.sites s
      rw [es] at hsite
      obtain ⟨F', e1, hb, hr⟩ := hsite
      obtain ⟨d1, _⟩ := h.dropSite s (fun v => v.names s) (fun v hv => hv) rfl (fun q hq e => by have := h.pinlen q hq; omega)
      have hS : ∀ b, Sof C w G L b → Sof C w (upd G s ⟨[], [], 0⟩) (L ++ (G s).F) b := fun b hb => ⟨hb.1, hb.2.1, fun s' => by
        by_cases e : s' = s
        · subst e; rw [upd_same]; simp
        · rw [upd_ne _ _ e]; exact hb.2.2.1 s', by simp [hb.2.2.2, hb.2.2.1 s]⟩
      have hvb := ptr_blk (s := s) (by unfold isVar; rw [es]) hs
      refine glue (F2 := (G s).F) (c := .new T t x) (v := v) d1 ?_ hv hS e2 rfl
      simp only [CResR]
      exact ⟨_, hvb, (G s).cs, F', e1, hb, R_frame (fun b hb => ⟨hS b hb, rfl⟩) _ _ _ _ (fun _ _ => rfl) hr⟩
    · split at hk
      · cases hk
      rename_i t ts'
      split at hk
      rotate_left
      · cases hk
      rename_i t0 x A2 htk
      split at hk
      rotate_left
      · cases hk
      rename_i y hc
      split at hk
      rotate_left
      · cases hk
      rename_i l' A3 e2
      simp only [Option.some.injEq, Prod.mk.injEq] at hk
      obtain ⟨rfl, rfl⟩ := hk
      obtain ⟨v, hv, hs⟩ := hres (by intro e; rw [e] at htk; simp [take] at htk)
      obtain ⟨cs, hvv, G1, F, k1, k2, k3, _, _⟩ := taken_value htk h hs
      have k2 : R w (Sof C w G1 (L ++ F)) t0 x cs F := k2
      obtain ⟨F', j1, j2, j3, _⟩ := coe_sound k1 k2 hc
      refine glue (F2 := F') (c := .v t y) (v := v) j1 ?_ hv (fun b hb => (j3 b (k3 b hb)).1) e2 rfl
      simp only [CResR]
      exact ⟨cs, by rw [hvv, (coeV_agg _ _ _ _ hc).1], j2⟩
end
end Go.Am
/- Am, part 35: the beginning of a function, and the whole. -/
set_option linter.unusedVariables false
set_option linter.unusedSimpArgs false
namespace Go.Am

section
variable {P : Program} {Γ : Env} {C : Ctx} {a : Act} {w : World} {Φ : Prog} {ann : Ann}

theorem ptr_site {A : St} {G : Nat → GS} {S' : Nat → Prop} {s b : Nat} {v : Value} (k1 : isVar A s = true) (k2 : (G s).blk = b) (hv : v = .pointer (some ⟨b, 0, none⟩)) : SVr w S' A.site G (.ptr s []) v := by
  obtain ⟨T, t, x, e⟩ := isVar_spec k1
  refine SVr_ptr.2 ⟨t, ((G s).cs.drop 0).take (cells t), b, 0 + 0, ?_, hv⟩
  rw [e]
  show At w t (G s).cs (some ((G s).blk, 0)) [] t _ _
  rw [k2]
  exact At.plain (loc := some (b, 0)) (t := t) (p := []) (o := 0) (t' := t) (by simp [offs])

theorem capsOf_sound {A : St} {G : Nat → GS} {S S' : Nat → Prop} {nt : Nat} {vb : List Nat} (hS : ∀ b, S b → S' b) (hG : ∀ (j b : Nat), vb[j]? = some b → isVar A (nt + j) = true ∧ (G (nt + j)).blk = b) : ∀ (caps : List Cap) (vs : List Value), CapsR w S vb caps vs → SL w S' A.site G (putArgs.capsOf nt caps) vs
  | [], vs, h => by simp only [CapsR] at h; subst h; simp [putArgs.capsOf, SL]
  | .v t x :: l, vs, h => by
    simp only [CapsR] at h
    obtain ⟨v, vs', rfl, hc, hr⟩ := h
    simp only [CapR] at hc
    obtain ⟨cs, h1, h2⟩ := hc
    simp only [putArgs.capsOf, SL]
    exact ⟨v, vs', rfl, SVr_valR.2 ⟨cs, R_frame (fun b hb => ⟨hS b hb, rfl⟩) _ _ _ _ (fun _ _ => rfl) h2, h1⟩, capsOf_sound hS hG l vs' hr⟩
  | .p j :: l, vs, h => by
    simp only [CapsR] at h
    obtain ⟨v, vs', rfl, hc, hr⟩ := h
    simp only [CapR] at hc
    obtain ⟨b, h1, h2⟩ := hc
    simp only [putArgs.capsOf, SL]
    obtain ⟨k1, k2⟩ := hG j b h1
    exact ⟨v, vs', rfl, ptr_site k1 k2 h2, capsOf_sound hS hG l vs' hr⟩

theorem putArgs_sound {nt : Nat} {vb : List Nat} {S : Nat → Prop} : ∀ (args : List CArg) (vals : List Value) (i : Nat) {A A1 : St} {G : Nat → GS} {F : List Nat}, RelG C A a w G F → ArgsR w S vb args vals F → (∀ b, S b → Sof C w G F b) →
    (∀ (j b : Nat), vb[j]? = some b → isVar A (nt + j) = true ∧ (G (nt + j)).blk = b) → (∀ (j : Nat) (v : Value), vals[j]? = some v → a.tmps.getD (i + j) undef = v) → putArgs nt args i A = some A1 → ∃ G1, RelG C A1 a w G1 []
  | [], vals, i, A, A1, G, F, h, hr, hS, hG, hv, hk => by
    simp only [ArgsR] at hr
    obtain ⟨rfl, rfl⟩ := hr
    simp only [putArgs, Option.some.injEq] at hk
    subst hk
    exact ⟨G, h⟩
  | arg :: args, vals, i, A, A1, G, F, h, hr, hS, hG, hv, hk => by
    simp only [ArgsR] at hr
    obtain ⟨v, vs, F1, F2, rfl, rfl, ha, hr⟩ := hr
    have hv0 : a.tmps.getD i undef = v := by simpa using hv 0 v (by simp)
    have hvs : ∀ (j : Nat) (u : Value), vs[j]? = some u → a.tmps.getD (i + 1 + j) undef = u := fun j u hu => by
      rw [show i + 1 + j = i + (j + 1) by omega]; exact hv (j + 1) u (by simpa using hu)
    -- an argument that owns nothing
    have plain : ∀ (sv : SV), F1 = [] → SVr w (Sof C w G (F1 ++ F2)) A.site G sv v → putArgs nt args (i + 1) (A.put (some i) sv) = some A1 → ∃ G1, RelG C A1 a w G1 [] := by
      rintro sv rfl hs hk
      have h' := h.put (some i) sv v hs
      rw [← hv0, put_self] at h'
      exact putArgs_sound args vs (i + 1) h' hr hS (fun j b hb => ⟨by have := (hG j b hb).1; unfold isVar at this ⊢; rw [site_put]; exact this, (hG j b hb).2⟩) hvs hk
    cases arg with
    | v t x =>
      simp only [ArgR] at ha
      obtain ⟨cs, hvv, hR⟩ := ha
      rw [putArgs] at hk
      split at hk
      rotate_left
      · cases hk
      rename_i A2 e
      have hperm : ∀ b, b ∈ F2 ++ F1 ↔ b ∈ F1 ++ F2 := fun b => by simp [or_comm]
      have hn := List.nodup_append.1 h.lnodup
      have h' := h.drop (L' := F2 ++ F1) (fun b hb => (hperm b).1 hb) (List.nodup_append.2 ⟨hn.2.1, hn.1, fun b hb c hc e => hn.2.2 c hc b hb e.symm⟩)
      have hS' : ∀ b, S b → Sof C w G (F2 ++ F1) b := fun b hb => Sof_drop (fun c hc => (hperm c).1 hc) b (hS b hb)
      obtain ⟨G2, k1, k2, k3⟩ := putTree_sound h' (R_frame (fun b hb => ⟨hS' b hb, rfl⟩) _ _ _ _ (fun _ _ => rfl) hR) e
      rw [← hvv, ← hv0, put_self] at k1
      refine putArgs_sound args vs (i + 1) k1 hr (fun b hb => (k2 b (hS' b hb)).1) (fun j b hb => ?_) hvs hk
      obtain ⟨q1, q2⟩ := hG j b hb
      obtain ⟨q3, q4⟩ := isVar_of (k3 fun _ => false) q1 rfl
      exact ⟨q3, by rw [q4]; exact q2⟩
    | p j =>
      simp only [ArgR] at ha
      obtain ⟨h1, b, h2, h3⟩ := ha
      rw [putArgs] at hk
      obtain ⟨q1, q2⟩ := hG j b h2
      exact plain _ h1 (ptr_site q1 q2 h3) hk
    | nilp =>
      simp only [ArgR] at ha
      rw [putArgs] at hk
      exact plain _ ha.1 (SVr_nilp.2 ha.2) hk
    | fn f caps =>
      simp only [ArgR] at ha
      obtain ⟨h1, us, h2, h3⟩ := ha
      rw [putArgs] at hk
      refine plain _ h1 ⟨[v], ?_, rfl⟩ hk
      simp only [SC]
      exact ⟨us, by rw [h2], capsOf_sound hS hG caps us h3⟩

def startG (nt : Nat) (gs : List GS) (s : Nat) : GS := if s < nt then ⟨[], [], 0⟩ else gs.getD (s - nt) ⟨[], [], 0⟩

theorem nth_append_none : ∀ (nt : Nat) (l : List Site) (s : Nat), nth .none (List.replicate nt Site.none ++ l) s = if s < nt then .none else nth .none l (s - nt)
  | 0, l, s => by simp
  | nt + 1, l, 0 => by simp [List.replicate_succ, nth]
  | nt + 1, l, s + 1 => by
    simp only [List.replicate_succ, List.cons_append, nth]
    rw [nth_append_none nt l s]
    simp
theorem nth_getD {α : Type} (d : α) : ∀ (l : List α) (i : Nat), nth d l i = l.getD i d
  | [], i => by cases i <;> rfl
  | _ :: _, 0 => rfl
  | _ :: l, i + 1 => by simp only [nth]; rw [nth_getD d l i]; simp


theorem ArgsR_len {S : Nat → Prop} {vb : List Nat} : ∀ (args : List CArg) (vals : List Value) (F : List Nat), ArgsR w S vb args vals F → vals.length = args.length
  | [], vals, F, h => by simp only [ArgsR] at h; simp [h.1]
  | _ :: args, vals, F, h => by
    simp only [ArgsR] at h
    obtain ⟨v, vs, F1, F2, rfl, _, _, hr⟩ := h
    simp [ArgsR_len args vs F2 hr]

theorem start_rel {nt : Nat} {S : Nat → Prop} {vals : List Value} {vars : List CVar} {vb Fa Fv : List Nat} (hS : ∀ b, S b → b < w.heap.size ∧ b ∉ Fa ++ Fv) (hvars : VarsR w S vars vb Fv) (hn : (Fa ++ Fv).Nodup) (hlt : ∀ b ∈ Fa ++ Fv, b < w.heap.size) (hle : vals.length ≤ nt) :
    ∃ G, RelG ⟨w, S, Fa ++ Fv, (List.range vb.length).map fun j => (nt + j, vb.getD j 0)⟩ ⟨List.replicate nt .dead, List.replicate nt .none ++ vars.map fun c => .var c.T c.t c.x⟩ { tmps := vals.toArray ++ Array.replicate (nt - vals.toArray.size) undef, defers := [] } w G Fa ∧
      (∀ b, S b → Sof ⟨w, S, Fa ++ Fv, (List.range vb.length).map fun j => (nt + j, vb.getD j 0)⟩ w G Fa b) ∧
      (∀ (j b : Nat), vb[j]? = some b → isVar ⟨List.replicate nt .dead, List.replicate nt .none ++ vars.map fun c => .var c.T c.t c.x⟩ (nt + j) = true ∧ (G (nt + j)).blk = b) := by
  obtain ⟨gs, g1, g2, g3, g4, g5⟩ := VarsR_sites vars vb Fv hvars
  have hn' := List.nodup_append.1 hn
  have hgs : (gs.flatMap (·.F)).Nodup := by rw [← g2]; exact hn'.2.1
  have hsite : ∀ s, St.site ⟨List.replicate nt .dead, List.replicate nt .none ++ vars.map fun c => .var c.T c.t c.x⟩ s = if s < nt then .none else nth .none (vars.map fun c => Site.var c.T c.t c.x) (s - nt) := fun s => nth_append_none nt _ s
  -- a site is none, or a variable
  have cases_s : ∀ s, (startG nt gs s = ⟨[], [], 0⟩ ∧ St.site ⟨List.replicate nt .dead, List.replicate nt .none ++ vars.map fun c => .var c.T c.t c.x⟩ s = .none) ∨
      ∃ (j : Nat) (g : GS) (c : CVar), s = nt + j ∧ gs[j]? = some g ∧ vars[j]? = some c ∧ startG nt gs s = g ∧ St.site ⟨List.replicate nt .dead, List.replicate nt .none ++ vars.map fun c => .var c.T c.t c.x⟩ s = .var c.T c.t c.x := by
    intro s
    rw [hsite]
    unfold startG
    by_cases hs : s < nt
    · left; simp [hs]
    · simp only [if_neg hs]
      rw [nth_getD]
      by_cases hj : s - nt < gs.length
      · right
        have hj2 : s - nt < vars.length := by omega
        refine ⟨s - nt, gs[s - nt], vars[s - nt], by omega, List.getElem?_eq_getElem hj, List.getElem?_eq_getElem hj2, ?_, ?_⟩
        · simp [List.getD_eq_getElem?_getD, hj]
        · simp [List.getD_eq_getElem?_getD, hj2]
      · left
        have hj2 : ¬ s - nt < vars.length := by omega
        constructor
        · rw [List.getD_eq_getElem?_getD, List.getElem?_eq_none (by omega)]; rfl
        · rw [List.getD_eq_getElem?_getD, List.getElem?_eq_none (by simp; omega)]; rfl
  have inFv : ∀ s, ∀ b ∈ (startG nt gs s).F, b ∈ Fv := by
    intro s b hb
    rcases cases_s s with ⟨e, _⟩ | ⟨j, g, c, _, e1, _, e, _⟩
    · rw [e] at hb; cases hb
    · rw [e] at hb; rw [g2]; exact List.mem_flatMap.2 ⟨g, List.mem_of_getElem? e1, hb⟩
  have hSof : ∀ b, S b → Sof ⟨w, S, Fa ++ Fv, (List.range vb.length).map fun j => (nt + j, vb.getD j 0)⟩ w (startG nt gs) Fa b := fun b hb =>
    ⟨(hS b hb).1, .inl hb, fun s hm => (hS b hb).2 (by simp [inFv s b hm]), fun hm => (hS b hb).2 (by simp [hm])⟩
  have hvar : ∀ (j b : Nat), vb[j]? = some b → (∃ T t x, St.site ⟨List.replicate nt .dead, List.replicate nt .none ++ vars.map fun c => .var c.T c.t c.x⟩ (nt + j) = .var T t x) ∧ (startG nt gs (nt + j)).blk = b := by
    intro j b hb
    have hjl : j < vb.length := (List.getElem?_eq_some_iff.1 hb).1
    rcases cases_s (nt + j) with ⟨_, e⟩ | ⟨j', g, c, e0, e1, e2, e, e3⟩
    · rw [hsite, if_neg (by omega), nth_getD, show nt + j - nt = j by omega] at e
      have hj2 : j < vars.length := by omega
      rw [List.getD_eq_getElem?_getD, List.getElem?_eq_getElem (by simpa using hj2)] at e
      simp at e
    · have : j' = j := by omega
      subst this
      refine ⟨⟨_, _, _, e3⟩, ?_⟩
      rw [e]
      have h3 : (gs.map (·.blk))[j']? = vb[j']? := by rw [g3]
      rw [hb, List.getElem?_map, e1] at h3
      simpa using h3
  refine ⟨startG nt gs, ?_, hSof, fun j b hb => ?_⟩
  · refine { slots := fun i => ?_, sites := fun s => ?_, nodup := fun s => ?_, apart := ?_, mine := fun s b hb => ?_, lnodup := hn'.1, lapart := fun s b hb hb' => ?_, lmine := fun b hb => ?_, s0 := fun b hb => ?_, os := rfl, tape := rfl, output := rfl, size := Nat.le_refl _, frame := fun _ _ _ => rfl, defers := rfl, len := ?_, pinlen := ?_, pin := ?_ }
    · have : St.slot ⟨List.replicate nt .dead, List.replicate nt .none ++ vars.map fun c => .var c.T c.t c.x⟩ i = .dead := by
        show nth .dead (List.replicate nt SV.dead) i = .dead
        rw [nth_getD, List.getD_eq_getElem?_getD, List.getElem?_replicate]
        split <;> rfl
      rw [this]; exact SVr_dead _ _ _ _ _
    · rcases cases_s s with ⟨e, e2⟩ | ⟨j, g, c, _, e1, e2, e, e3⟩
      · rw [e, e2]; rfl
      · rw [e, e3]
        exact SiteR_frame (fun b hb => ⟨hSof b hb, rfl⟩) (fun _ _ => rfl) (g5 j c g e2 e1)
    · rcases cases_s s with ⟨e, e2⟩ | ⟨j, g, c, _, e1, e2, e, e3⟩
      · rw [e]; exact List.nodup_nil
      · rw [e]; exact flat_nodup hgs (List.mem_of_getElem? e1)
    · intro s s' hne b hb hb'
      rcases cases_s s with ⟨e, e2⟩ | ⟨j, g, c, e0, e1, e2, e, e3⟩
      · rw [e] at hb; cases hb
      · rcases cases_s s' with ⟨e', e2'⟩ | ⟨j', g', c', e0', e1', e2', e', e3'⟩
        · rw [e'] at hb'; cases hb'
        · rw [e] at hb; rw [e'] at hb'
          exact flat_apart hgs j j' g g' e1 e1' (by omega) b hb hb'
    · exact ⟨.inr (by simp [inFv s b hb]), hlt b (by simp [inFv s b hb])⟩
    · exact hn'.2.2 b hb' b (inFv s b hb) rfl
    · exact ⟨.inr (by simp [hb]), hlt b (by simp [hb])⟩
    · exact ⟨(hS b hb).2, (hS b hb).1⟩
    · simp; omega
    · intro q hq
      obtain ⟨j, _, rfl⟩ := List.mem_map.1 hq
      simp
    · intro q hq
      obtain ⟨j, hj, rfl⟩ := List.mem_map.1 hq
      have hjl : j < vb.length := by simpa using hj
      have := hvar j vb[j] (List.getElem?_eq_getElem hjl)
      refine ⟨this.1, ?_⟩
      rw [this.2]; simp [List.getD_eq_getElem?_getD, hjl]
  · obtain ⟨⟨T, t, x, e⟩, e2⟩ := hvar j b hb
    exact ⟨by unfold isVar; rw [e], e2⟩
end
end Go.Am
/- Am, part 36: a function's contract. -/
set_option linter.unusedVariables false
set_option linter.unusedSimpArgs false
namespace Go.Am

section
variable {P : Program} {Γ : Env} {Φ : Prog} {ann : Ann}

theorem den_sound (hP : Known P Γ Φ) (hmix : P.follows .mixedOrders = true) {f : FuncId} {F : Func} (hf : P.funcs[f]? = some F) (n : Nat) : SoundF P f (den Γ Φ ann F n) := by
  intro args vars res vars' hden w S vals vb Fa Fv hS hargs hvars hn hlt
  unfold den at hden
  split at hden
  · cases hden
  rename_i c hb
  split at hden
  · cases hden
  rename_i A hstart
  unfold start at hstart
  split at hstart
  rotate_left
  · cases hstart
  rename_i hle
  have hvl := ArgsR_len args vals Fa hargs
  obtain ⟨G0, r0, rS, rG⟩ := start_rel (nt := F.ntmps) hS hvars hn hlt (vals := vals) (by omega)
  generalize hC : (⟨w, S, Fa ++ Fv, (List.range vb.length).map fun j => (F.ntmps + j, vb.getD j 0)⟩ : Ctx) = C at r0 rS
  have hC1 : C.w0 = w := by rw [← hC]
  have hC2 : C.S0 = S := by rw [← hC]
  have hC3 : C.M0 = Fa ++ Fv := by rw [← hC]
  have hC4 : C.pins = (List.range vb.length).map fun j => (F.ntmps + j, vb.getD j 0) := by rw [← hC]
  obtain ⟨G1, r1⟩ := putArgs_sound args vals 0 r0 hargs rS rG (fun j v hj => by
    have hlt : j < vals.length := (List.getElem?_eq_some_iff.1 hj).1
    rw [Nat.zero_add, Array.getD_eq_getD_getElem?, Array.getElem?_append_left (by simpa using hlt)]
    simp [hj]) hstart
  refine calls_of_wp hf hb (wp_mono (codeK_sound hP hmix n c 0 A G1 _ w _ hden r1) fun e a' w' hq => ?_)
  -- the end
  have fin : ∀ {A' : St} {G' : Nat → GS}, finish Γ F ann vars.length A' = some (res, vars') → RelG C A' a' w' G' [] → a'.defers = [] ∧ ∃ v, (results F a'.tmps).run P w' = .ok v w' ∧
      ∃ v' Fr Fv', Ending.returned v = .returned v' ∧ Goes w w' ∧ (∀ b, b < w.heap.size → b ∉ Fa ++ Fv → w'.heap[b]? = w.heap[b]?) ∧ (Fr ++ Fv').Nodup ∧
      (∀ b ∈ Fr ++ Fv', (b ∈ Fa ++ Fv ∨ w.heap.size ≤ b) ∧ b < w'.heap.size) ∧ ResV w' (After w w' S (Fa ++ Fv) (Fr ++ Fv')) res v' Fr ∧ VarsR w' (After w w' S (Fa ++ Fv) (Fr ++ Fv')) vars' vb Fv' := by
    intro A' G' hfin hrel
    unfold finish at hfin
    split at hfin
    rotate_left
    · cases hfin
    rename_i l A1 e1
    split at hfin
    rotate_left
    · cases hfin
    rename_i vs e2
    simp only [Option.some.injEq, Prod.mk.injEq] at hfin
    obtain ⟨rfl, rfl⟩ := hfin
    obtain ⟨G2, Fr, us, k1, k2, k3, k4⟩ := takeRes_sound hP.tys F.results.toList ann.res hrel e1
    rw [List.nil_append] at k1 k2
    have hvr := readVars_sound (w := w') k1.sites (List.range' F.ntmps vars.length) e2
    have hlen : vars.length = vb.length := by
      obtain ⟨_, _, _, _, h4, _⟩ := VarsR_sites vars vb Fv hvars
      exact h4
    have hblk : blks G2 (List.range' F.ntmps vars.length) = vb := by
      apply List.ext_getElem
      · simp [blks, hlen]
      · intro j h1 h2
        have := (k1.pin (F.ntmps + j, vb.getD j 0) (by rw [hC4]; exact List.mem_map.2 ⟨j, by simpa using h2, rfl⟩)).2
        simp only [blks, List.getElem_map, List.getElem_range', Nat.one_mul]
        rw [this]; simp [List.getD_eq_getElem?_getD, h2]
    rw [hblk] at hvr
    generalize hFv' : ((List.range' F.ntmps vars.length).flatMap fun s => (G2 s).F) = Fv' at hvr
    have hmem : ∀ b ∈ Fv', ∃ s, b ∈ (G2 s).F := fun b hb => by
      rw [← hFv'] at hb
      obtain ⟨s, _, hs⟩ := List.mem_flatMap.1 hb
      exact ⟨s, hs⟩
    have hFvn : Fv'.Nodup := by
      rw [← hFv']
      have : ∀ M : List Nat, M.Nodup → (M.flatMap (fun s => (G2 s).F)).Nodup := by
        intro M
        induction M with
        | nil => simp
        | cons s M ih =>
          intro hn
          obtain ⟨n1, n2⟩ := List.nodup_cons.1 hn
          rw [List.flatMap_cons]
          refine List.nodup_append.2 ⟨k1.nodup s, ih n2, fun b hb c hc e => ?_⟩
          subst e
          obtain ⟨s', hs', hb'⟩ := List.mem_flatMap.1 hc
          exact k1.apart s s' (fun e => n1 (e ▸ hs')) b hb hb'
      exact this _ List.nodup_range'
    have hin : ∀ b ∈ Fr ++ Fv', (b ∈ Fa ++ Fv ∨ w.heap.size ≤ b) ∧ b < w'.heap.size := by
      intro b hb
      have : (C.w0.heap.size ≤ b ∨ b ∈ C.M0) ∧ b < w'.heap.size := by
        rcases List.mem_append.1 hb with hb | hb
        · exact k1.lmine b hb
        · obtain ⟨s, hs⟩ := hmem b hb; exact k1.mine s b hs
      rw [hC1, hC3] at this
      exact ⟨this.1.symm, this.2⟩
    have hafter : ∀ b, Sof C w' G2 Fr b → After w w' S (Fa ++ Fv) (Fr ++ Fv') b := by
      rintro b ⟨q1, q2, q3, q4⟩
      rw [hC1, hC2, hC3] at q2
      refine ⟨q1, q2, fun hm => ?_⟩
      rcases List.mem_append.1 hm with hm | hm
      · exact q4 hm
      · obtain ⟨s, hs⟩ := hmem b hm; exact q3 s hs
    have hfr : ∀ (b : Nat), b < w.heap.size → b ∉ Fa ++ Fv → w'.heap[b]? = w.heap[b]? := by
      have := k1.frame
      rw [hC1, hC3] at this
      exact this
    have hgo : Goes w w' := by
      have h1 := k1.os; have h2 := k1.tape; have h3 := k1.output; have h4 := k1.size
      rw [hC1] at h1 h2 h3 h4
      exact ⟨h1, h2, h3, h4⟩
    have hnd : (Fr ++ Fv').Nodup := List.nodup_append.2 ⟨k1.lnodup, hFvn, fun b hb c hc e => by
      subst e; obtain ⟨s, hs⟩ := hmem b hc; exact k1.lapart s b hs hb⟩
    have hVR : VarsR w' (After w w' S (Fa ++ Fv) (Fr ++ Fv')) vs vb Fv' := by
      have : ∀ (V : List CVar) (bs F0 : List Nat), VarsR w' (Sof C w' G2 Fr) V bs F0 → VarsR w' (After w w' S (Fa ++ Fv) (Fr ++ Fv')) V bs F0 := by
        intro V
        induction V with
        | nil => intro bs F0 h; simpa only [VarsR] using h
        | cons c V ih =>
          intro bs F0 h
          simp only [VarsR] at h ⊢
          obtain ⟨b, bs', F1, F2, q1, q2, ⟨cs, F', q3, q4, q5⟩, q6⟩ := h
          exact ⟨b, bs', F1, F2, q1, q2, ⟨cs, F', q3, q4, R_frame (fun b hb => ⟨hafter b hb, rfl⟩) _ _ _ _ (fun _ _ => rfl) q5⟩, ih bs' F2 q6⟩
      exact this _ _ _ hvr
    have hCR : CRessR w' (After w w' S (Fa ++ Fv) (Fr ++ Fv')) l us Fr := by
      have : ∀ (V : List CRes) (bs : List Value) (F0 : List Nat), CRessR w' (Sof C w' G2 Fr) V bs F0 → CRessR w' (After w w' S (Fa ++ Fv) (Fr ++ Fv')) V bs F0 := by
        intro V
        induction V with
        | nil => intro bs F0 h; simpa only [CRessR] using h
        | cons c V ih =>
          intro bs F0 h
          simp only [CRessR] at h ⊢
          obtain ⟨b, bs', F1, F2, q1, q2, q3, q6⟩ := h
          exact ⟨b, bs', F1, F2, q1, q2, CResR_frame hafter _ _ _ q3, ih bs' F2 q6⟩
      exact this _ _ _ k2
    refine ⟨hrel.defers, (if h : us.toArray.size = 1 then us.toArray[0] else .tuple us.toArray), ?_, _, Fr, Fv', rfl, hgo, hfr, hnd, hin, ?_, hVR⟩
    · have e : results F a'.tmps = (do let vs ← F.results.mapM (resSem a'.tmps); pure (if h : vs.size = 1 then vs[0] else .tuple vs)) := by
        unfold results
        have : ∀ g h : ResultVar → Sem Value, g = h → (do let vs ← F.results.mapM g; (pure (if h : vs.size = 1 then vs[0] else .tuple vs) : Sem Value)) = (do let vs ← F.results.mapM h; pure (if h : vs.size = 1 then vs[0] else .tuple vs)) := by
          rintro g h rfl; rfl
        exact this _ _ (by funext rv; cases rv <;> rfl)
      have hm : (F.results.mapM (resSem a'.tmps)).run P w' = .ok us.toArray w' := by
        rw [Array.mapM_eq_mapM_toList]
        simp [k3]
      rw [e, Sem.run_bind, hm]
      rfl
    · -- one result, or a tuple of them
      match l, us, hCR with
      | [], us, hCR =>
        simp only [CRessR] at hCR
        obtain ⟨rfl, h2⟩ := hCR
        simp only [ResV]
        exact ⟨[], rfl, by simp only [CRessR]; exact ⟨by first | rfl | trivial, h2⟩⟩
      | [r], us, hCR =>
        simp only [CRessR] at hCR
        obtain ⟨v, vs', F1, F2, rfl, h2, h3, rfl, rfl⟩ := hCR
        rw [List.append_nil] at h2
        subst h2
        simpa [ResV] using h3
      | r1 :: r2 :: rs, us, hCR =>
        have hus : us.toArray.size ≠ 1 := by
          simp only [CRessR] at hCR
          obtain ⟨v, vs', F1, F2, rfl, h2, h3, v2, vs2, F3, F4, rfl, _⟩ := hCR
          simp
        rw [dif_neg hus]
        simp only [ResV]
        exact ⟨us, rfl, hCR⟩
  cases e with
  | normal => obtain ⟨A', G', k1, k2⟩ := hq; exact fin k1 k2
  | ret => obtain ⟨A', G', k1, k2⟩ := hq; exact fin k1 k2
  | exit i => obtain ⟨A', G', k1, k2⟩ := hq; cases k1
  | goto l => exact hq.elim
  | panic c => exact hq.elim
  | outgrown => exact hq.elim
end
end Go.Am
/- Am, part 37: programs of several known functions; arguments by their types; what follows a pure function may be put behind it. -/
set_option linter.unusedVariables false
namespace Go.Am

/-! ### Code, step by step -/
section
variable {β : Type} {Γ : Env} {Φ : Prog} {ann : Ann} {n m bl id : Nat} {X : Code} {A : St} {K : Ex → St → Option β}
theorem codeK_seq (h : X = .seq (partA X) (partB X)) : codeK Γ Φ ann n X bl A K = codeK Γ Φ ann n (partA X) bl A (seqK Γ Φ ann n (partB X) bl K) := by
  generalize partA X = a at *
  generalize partB X = b at *
  subst h
  rfl
theorem codeK_block (id : Nat) (h : X = .block id (partA X)) : codeK Γ Φ ann n X bl A K = codeK Γ Φ ann n (partA X) id A (blockK ann id K) := by
  generalize partA X = a at *
  subst h
  rfl
theorem loopK_succ : loopK Γ Φ ann n X bl (m + 1) A K = codeK Γ Φ ann n X bl A (roundK Γ Φ ann n X bl m K) := rfl
end

/-- What follows may be put behind. -/
def NatRun (run : ∀ {β : Type}, List CArg → List CVar → (List CRes × List CVar → Option β) → Option β) : Prop :=
  ∀ {β δ : Type} (args : List CArg) (vars : List CVar) (K : List CRes × List CVar → Option β) (g : β → Option δ), (run args vars K).bind g = run args vars (fun r => (K r).bind g)

/-- A function that is known. -/
structure Entry where
  f : FuncId
  sig : Sig
  run : {β : Type} → List CArg → List CVar → (List CRes × List CVar → Option β) → Option β
  nat : NatRun run

def findE (f : FuncId) : List Entry → Option Entry
  | [] => none
  | e :: l => cond (Nat.beq e.f f) (some e) (findE f l)

def Prog.of (l : List Entry) : Prog where
  sig f := match findE f l with
    | some e => some e.sig
    | none => none
  den f args vars := match findE f l with
    | some e => e.run args vars some
    | none => none
  run f {β} args vars K := match findE f l with
    | some e => e.run args vars K
    | none => none
  run_eq := by
    intro f β args vars K
    cases findE f l with
    | none => rfl
    | some e => exact (e.nat args vars some K).symm

/-! ### Arguments by their types -/
section
variable {β δ : Type}
def argV (t : Ty) (a : CArg) (k : Val t → Option β) : Option β :=
  match a with
  | .v t' x => if h : t' = t then k (cast (congrArg Val h) x) else none
  | _ => none
def ptrV (j : Nat) (a : CArg) (k : Option β) : Option β :=
  match a with
  | .p i => if i = j then k else none
  | _ => none
def varV (T : TypeId) (t : Ty) (c : CVar) (k : Val t → Option β) : Option β :=
  if c.T = T then if h : c.t = t then k (cast (congrArg Val h) c.x) else none else none
def capV (t : Ty) (c : Cap) (k : Val t → Option β) : Option β :=
  match c with
  | .v t' x => if h : t' = t then k (cast (congrArg Val h) x) else none
  | _ => none
def fnV (f : FuncId) (a : CArg) (k : List Cap → Option β) : Option β :=
  match a with
  | .fn f' caps => if f' = f then k caps else none
  | _ => none

theorem bind_cond (b : Bool) (x y : Option β) (g : β → Option δ) : (cond b x y).bind g = cond b (x.bind g) (y.bind g) := by cases b <;> rfl
theorem bind_ite (c : Prop) [Decidable c] (x y : Option β) (g : β → Option δ) : (if c then x else y).bind g = if c then x.bind g else y.bind g := by split <;> rfl
theorem bind_argV (t : Ty) (a : CArg) (k : Val t → Option β) (g : β → Option δ) : (argV t a k).bind g = argV t a (fun x => (k x).bind g) := by
  unfold argV; split
  · split <;> rfl
  · rfl
theorem bind_ptrV (j : Nat) (a : CArg) (k : Option β) (g : β → Option δ) : (ptrV j a k).bind g = ptrV j a (k.bind g) := by
  unfold ptrV; split
  · split <;> rfl
  · rfl
theorem bind_varV (T : TypeId) (t : Ty) (c : CVar) (k : Val t → Option β) (g : β → Option δ) : (varV T t c k).bind g = varV T t c (fun x => (k x).bind g) := by
  unfold varV; split
  · split <;> rfl
  · rfl
theorem bind_capV (t : Ty) (a : Cap) (k : Val t → Option β) (g : β → Option δ) : (capV t a k).bind g = capV t a (fun x => (k x).bind g) := by
  unfold capV; split
  · split <;> rfl
  · rfl
theorem bind_fnV (f : FuncId) (a : CArg) (k : List Cap → Option β) (g : β → Option δ) : (fnV f a k).bind g = fnV f a (fun x => (k x).bind g) := by
  unfold fnV; split
  · split <;> rfl
  · rfl
theorem argV_some {t : Ty} {a : CArg} {k : Val t → Option β} {r : β} (h : argV t a k = some r) : ∃ x, a = .v t x ∧ k x = some r := by
  unfold argV at h; split at h
  · split at h
    · rename_i e; subst e; exact ⟨_, rfl, h⟩
    · cases h
  · cases h
theorem ptrV_some {j : Nat} {a : CArg} {k : Option β} {r : β} (h : ptrV j a k = some r) : a = .p j ∧ k = some r := by
  unfold ptrV at h; split at h
  · split at h
    · rename_i e; subst e; exact ⟨rfl, h⟩
    · cases h
  · cases h
theorem varV_some {T : TypeId} {t : Ty} {c : CVar} {k : Val t → Option β} {r : β} (h : varV T t c k = some r) : ∃ x, c = ⟨T, t, x⟩ ∧ k x = some r := by
  unfold varV at h
  obtain ⟨T', t', x⟩ := c
  split at h
  · rename_i e; dsimp only at e; subst e
    split at h
    · rename_i e; dsimp only at e; subst e; exact ⟨_, rfl, h⟩
    · cases h
  · cases h
end
end Go.Am
/- Am, part 38: known functions, one by one. -/
set_option linter.unusedVariables false
namespace Go.Am

theorem SoundF.mono {P : Program} {f : FuncId} {φ φ' : Den} (h : SoundF P f φ) (hm : ∀ args vars res, φ' args vars = some res → φ args vars = some res) : SoundF P f φ' :=
  fun args vars res vars' hd => h args vars res vars' (hm _ _ _ hd)

def EntryOk (P : Program) (e : Entry) : Prop :=
  (∃ fn, P.funcs[e.f]? = some fn ∧ (fn.name == "runtime.NumGoroutine") = false ∧ fn.body.isNone = false) ∧ SoundF P e.f (fun args vars => e.run args vars some)

section
variable {P : Program} {Γ : Env} {Φ : Prog} {ann : Ann}
theorem known_nil : ∀ e ∈ ([] : List Entry), EntryOk P e := fun e he => by cases he
theorem known_cons {e : Entry} {l : List Entry} (h : EntryOk P e) (k : ∀ x ∈ l, EntryOk P x) : ∀ x ∈ e :: l, EntryOk P x := fun x hx => by
  rcases List.mem_cons.1 hx with rfl | hx
  · exact h
  · exact k x hx
theorem findE_some {f : FuncId} : ∀ {l : List Entry} {e : Entry}, findE f l = some e → e ∈ l ∧ e.f = f
  | [], e, h => by cases h
  | x :: l, e, h => by
    unfold findE at h
    cases hb : Nat.beq x.f f with
    | true =>
      rw [hb] at h
      simp only [cond_true, Option.some.injEq] at h
      subst h
      exact ⟨by simp, Nat.eq_of_beq_eq_true hb⟩
    | false =>
      rw [hb] at h
      obtain ⟨h1, h2⟩ := findE_some (l := l) h
      exact ⟨List.mem_cons_of_mem _ h1, h2⟩
theorem Known.of (hT : tysOk P Γ = true) (hE : EqFacts P Γ) {l : List Entry} (h : ∀ e ∈ l, EntryOk P e) : Known P Γ (Prog.of l) := ⟨hT, hE, fun f sg hs => by
  simp only [Prog.of] at hs ⊢
  cases hf : findE f l with
  | none => rw [hf] at hs; cases hs
  | some e =>
    obtain ⟨h1, h2⟩ := findE_some hf
    subst h2
    exact h e h1⟩
theorem entry_ok {e : Entry} {F : Func} {n : Nat} (hf : P.funcs[e.f]? = some F) (hn : (F.name == "runtime.NumGoroutine") = false) (hb : F.body.isNone = false) (hK : Known P Γ Φ) (hmix : P.follows .mixedOrders = true)
    (h : ∀ args vars res, e.run args vars some = some res → den Γ Φ ann F n args vars = some res) : EntryOk P e := ⟨⟨F, hf, hn, hb⟩, (den_sound hK hmix hf n).mono h⟩
theorem entry_none {e : Entry} {F : Func} (hf : P.funcs[e.f]? = some F) (hn : (F.name == "runtime.NumGoroutine") = false) (hb : F.body.isNone = false) (h : ∀ args vars res, e.run args vars some = some res → False) : EntryOk P e :=
  ⟨⟨F, hf, hn, hb⟩, fun args vars res vars' hd => (h _ _ _ hd).elim⟩
theorem eqs_none (h : Γ.all (fun q => !q.2.eq) = true) : EqFacts P Γ := by
  intro T i hi he
  have := List.all_eq_true.1 h _ (lookup_mem Γ T i hi)
  simp [he] at this
end
end Go.Am
