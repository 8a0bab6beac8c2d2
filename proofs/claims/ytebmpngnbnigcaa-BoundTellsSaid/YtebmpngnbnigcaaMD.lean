/- Am, part 41: structs of plain fields, held against each other. -/
import Derived.Test.YtebmpngnbnigcaaMC
import Derived.Laws.StructEq
import Derived.ChangeKeysEq
import Derived.IntWalk
set_option linter.unusedVariables false
set_option linter.unusedSimpArgs false
namespace Go.Am

section
variable {P : Program}
def leafOk (P : Program) (f : Field) (off : Nat) (t : Ty) : Bool :=
  f.name != "_" && f.offset == off && P.plainKey f.type && match t, P.underlying f.type with
  | .int k, some (.int k') => decide (k = k')
  | .bool, some .bool => true
  | .str, some .string => true
  | _, _ => false
def fieldsOk (P : Program) : List Field → Nat → Ty → Bool
  | [f], off, .pair a .unit => leafOk P f off a
  | [f], off, t => leafOk P f off t
  | f :: fs, off, .pair a b => leafOk P f off a && fieldsOk P fs (off + 1) b
  | _, _, _ => false
def eqOk (P : Program) (T : TypeId) (t : Ty) : Bool :=
  match P.underlying T with
  | some (.struct fs) => !P.stoodInHeld T && !P.eqGuardType P.depth T && fieldsOk P fs.toList 0 t
  | _ => false

theorem leaf_eq {f : Field} {off : Nat} {t : Ty} (h : leafOk P f off t = true) {w0 : World} {S : Nat → Prop} {x y : Val t} {c1 c2 : List Value} (hx : R w0 S t x c1 []) (hy : R w0 S t y c2 []) :
    f.name ≠ "_" ∧ f.offset = off ∧ ∃ a b, c1 = [a] ∧ c2 = [b] ∧ ∀ (d : Nat) (w : World) (xs ys : Array Value), xs[off]? = some a → ys[off]? = some b →
      (Go.part f.type xs f.offset).run P w = .ok a w ∧ (Go.part f.type ys f.offset).run P w = .ok b w ∧ (Op.equalIn (d + 1) f.type a b).run P w = .ok (eqV t x y) w := by
  unfold leafOk at h
  simp only [Bool.and_eq_true, bne_iff_ne, ne_eq, beq_iff_eq] at h
  obtain ⟨⟨⟨h1, h2⟩, h3⟩, h4⟩ := h
  subst h2
  refine ⟨h1, rfl, ?_⟩
  split at h4
  · rename_i k k' hu
    simp only [decide_eq_true_eq] at h4
    subst h4
    obtain ⟨rfl, _⟩ := hx
    obtain ⟨rfl, _⟩ := hy
    refine ⟨_, _, rfl, rfl, fun d w xs ys ha hb => ⟨run_part_plain w h3 ha, run_part_plain w h3 hb, ?_⟩⟩
    rw [run_equalIn_int w d _ _ _ _ _ hu]
    simp only [eqV, eqB_eq]
    congr 1
  · rename_i hu
    obtain ⟨rfl, _⟩ := hx
    obtain ⟨rfl, _⟩ := hy
    refine ⟨_, _, rfl, rfl, fun d w xs ys ha hb => ⟨run_part_plain w h3 ha, run_part_plain w h3 hb, ?_⟩⟩
    rw [run_equalIn_bool' w d _ _ _ hu]
    rfl
  · rename_i hu
    obtain ⟨rfl, _⟩ := hx
    obtain ⟨rfl, _⟩ := hy
    refine ⟨_, _, rfl, rfl, fun d w xs ys ha hb => ⟨run_part_plain w h3 ha, run_part_plain w h3 hb, ?_⟩⟩
    rw [run_equalIn_string w d _ _ _ hu, ByteArray.toList_mk, ByteArray.toList_mk]
    rfl
  · cases h4

theorem fields_one {f : Field} {off : Nat} {t : Ty} (h : leafOk P f off t = true) {w0 : World} {S : Nat → Prop} {x y : Val t} {c1 c2 p1 p2 : List Value} (hx : R w0 S t x c1 []) (hy : R w0 S t y c2 []) (h1 : p1.length = off) (h2 : p2.length = off) (d : Nat) (w : World) :
    (Op.eqFields (d + 1) (p1 ++ c1).toArray (p2 ++ c2).toArray [f]).run P w = .ok (eqV t x y) w := by
  obtain ⟨n1, n2, a, b, rfl, rfl, k⟩ := leaf_eq h hx hy
  obtain ⟨k1, k2, k3⟩ := k d w (p1 ++ [a]).toArray (p2 ++ [b]).toArray (by simp [← h1]) (by simp [← h2])
  simp only [Op.eqFields, n1, ne_eq, not_false_eq_true, if_true, Sem.run_bind, k1, k2, k3, Result.andThen_ok]
  cases eqV t x y <;> simp

theorem fields_eq : ∀ (fs : List Field) (off : Nat) (t : Ty), fieldsOk P fs off t = true → ∀ (w0 : World) (S : Nat → Prop) (x y : Val t) (c1 c2 p1 p2 : List Value), R w0 S t x c1 [] → R w0 S t y c2 [] → p1.length = off → p2.length = off → ∀ (d : Nat) (w : World),
    (Op.eqFields (d + 1) (p1 ++ c1).toArray (p2 ++ c2).toArray fs).run P w = .ok (eqV t x y) w
  | [], off, t, h => by simp [fieldsOk] at h
  | [f], off, t, h => by
    intro w0 S x y c1 c2 p1 p2 hx hy h1 h2 d w
    match t, h, x, y, hx, hy with
    | .pair a .unit, h, x, y, hx, hy =>
      have h : leafOk P f off a = true := h
      obtain ⟨b1, b2, F1, F2, rfl, hF, hx1, hx2⟩ := hx
      obtain ⟨b3, b4, F3, F4, rfl, hF', hy1, hy2⟩ := hy
      obtain ⟨e1, e2⟩ := List.append_eq_nil_iff.1 hF.symm
      obtain ⟨e3, e4⟩ := List.append_eq_nil_iff.1 hF'.symm
      subst e1; subst e2; subst e3; subst e4
      obtain ⟨rfl, _⟩ := hx2
      obtain ⟨rfl, _⟩ := hy2
      rw [List.append_nil, List.append_nil, fields_one h hx1 hy1 h1 h2 d w]
      simp [eqV]
    | .int k, h, x, y, hx, hy => exact fields_one h hx hy h1 h2 d w
    | .bool, h, x, y, hx, hy => exact fields_one h hx hy h1 h2 d w
    | .str, h, x, y, hx, hy => exact fields_one h hx hy h1 h2 d w
    | .unit, h, x, y, hx, hy => simp [fieldsOk, leafOk] at h
    | .hole, h, x, y, hx, hy => simp [fieldsOk, leafOk] at h
    | .arr _ _, h, x, y, hx, hy => simp [fieldsOk, leafOk] at h
    | .sh _ _, h, x, y, hx, hy => simp [fieldsOk, leafOk] at h
    | .ow _ _, h, x, y, hx, hy => simp [fieldsOk, leafOk] at h
    | .pair _ (.int _), h, x, y, hx, hy => simp [fieldsOk, leafOk] at h
    | .pair _ .bool, h, x, y, hx, hy => simp [fieldsOk, leafOk] at h
    | .pair _ .str, h, x, y, hx, hy => simp [fieldsOk, leafOk] at h
    | .pair _ .hole, h, x, y, hx, hy => simp [fieldsOk, leafOk] at h
    | .pair _ (.pair _ _), h, x, y, hx, hy => simp [fieldsOk, leafOk] at h
    | .pair _ (.arr _ _), h, x, y, hx, hy => simp [fieldsOk, leafOk] at h
    | .pair _ (.sh _ _), h, x, y, hx, hy => simp [fieldsOk, leafOk] at h
    | .pair _ (.ow _ _), h, x, y, hx, hy => simp [fieldsOk, leafOk] at h
  | f :: g :: fs, off, t, h => by
    intro w0 S x y c1 c2 p1 p2 hx hy h1 h2 d w
    match t, h, x, y, hx, hy with
    | .pair a b, h, x, y, hx, hy =>
      have h : (leafOk P f off a && fieldsOk P (g :: fs) (off + 1) b) = true := by
        cases b <;> exact h
      rw [Bool.and_eq_true] at h
      obtain ⟨g1, g2⟩ := h
      obtain ⟨b1, b2, F1, F2, rfl, hF, hx1, hx2⟩ := hx
      obtain ⟨b3, b4, F3, F4, rfl, hF', hy1, hy2⟩ := hy
      obtain ⟨e1, e2⟩ := List.append_eq_nil_iff.1 hF.symm
      obtain ⟨e3, e4⟩ := List.append_eq_nil_iff.1 hF'.symm
      subst e1; subst e2; subst e3; subst e4
      obtain ⟨n1, n2, u, v, rfl, rfl, k⟩ := leaf_eq g1 hx1 hy1
      obtain ⟨k1, k2, k3⟩ := k d w (p1 ++ ([u] ++ b2)).toArray (p2 ++ ([v] ++ b4)).toArray (by simp [← h1]) (by simp [← h2])
      have r := fields_eq (g :: fs) (off + 1) b g2 w0 S x.2 y.2 b2 b4 (p1 ++ [u]) (p2 ++ [v]) hx2 hy2 (by simp [h1]) (by simp [h2]) d w
      rw [List.append_assoc, List.append_assoc] at r
      rw [Op.eqFields]
      simp only [n1, ne_eq, not_false_eq_true, if_true, Sem.run_bind, k1, k2, k3, Result.andThen_ok]
      rw [show eqV (.pair a b) x y = (eqV a x.1 y.1 && eqV b x.2 y.2) from rfl]
      cases eqV a x.1 y.1
      · simp
      · simpa using r

theorem eq_fact {T : TypeId} {t : Ty} (h : eqOk P T t = true) : EqFact P T t := by
  intro w S x y cs ds hx hy w'
  unfold eqOk at h
  split at h
  · rename_i fs hu
    simp only [Bool.and_eq_true, Bool.not_eq_true'] at h
    obtain ⟨⟨h1, h2⟩, h3⟩ := h
    have hf : P.fieldsOf T = fs := by unfold Program.fieldsOf; rw [hu]
    refine ⟨fun op a b => run_eqGuard_agg w' op T a b _ _ h2, ?_⟩
    show (Op.equalIn (9999 + 1) T _ _).run P w' = _
    rw [run_equalIn_struct w' 9999 T _ _ (by rw [hf]; exact hu) h1, hf]
    have := fields_eq (P := P) fs.toList 0 t h3 w S x y cs ds [] [] hx hy rfl rfl 9998 w'
    simpa using this
  · cases h
theorem eqs_of {Γ : Env} (h : Γ.all (fun q => !q.2.eq || eqOk P q.1 q.2.ty) = true) : EqFacts P Γ := by
  intro T i hi he
  have := List.all_eq_true.1 h _ (lookup_mem Γ T i hi)
  simp only [he, Bool.not_true, Bool.false_or] at this
  exact eq_fact this
end
end Go.Am
/- Am, part 39: functions by their steps, from one cut of the code to the next; entries by their types. -/
set_option linter.unusedVariables false
namespace Go.Am

/-- From one cut on: to another one (k), or to the end (r). -/
abbrev Steps (P R : Type) := (γ : Type) → P → (P → Option γ) → (R → Option γ) → Option γ
/-- So many steps at most. -/
noncomputable def flow {P R : Type} (t : Steps P R) (n : Nat) : P → Option R := Nat.rec (fun _ => none) (fun _ ih p => t R p ih some) n
def NatS {P R : Type} (t : Steps P R) : Prop := ∀ {γ δ : Type} (g : γ → Option δ) (p : P) (k : P → Option γ) (r : R → Option γ), (t γ p k r).bind g = t δ p (fun q => (k q).bind g) (fun y => (r y).bind g)

section
variable {P R β : Type}
theorem flow_zero (t : Steps P R) (p : P) : flow t 0 p = none := rfl
theorem flow_succ (t : Steps P R) (n : Nat) (p : P) : flow t (n + 1) p = t R p (flow t n) some := rfl
theorem NatS.mono {t : Steps P R} (h : NatS t) {p : P} {k : P → Option R} {k' : P → Option β} {e : R → β} (hk : ∀ q y, k q = some y → k' q = some (e y)) {y : R} (hy : t R p k some = some y) : t β p k' (fun y => some (e y)) = some (e y) := by
  have h1 : t R p k some = _ := (h (fun s : P ⊕ R => match s with | .inl q => k q | .inr y => some y) p (fun q => some (.inl q)) (fun y => some (.inr y))).symm
  have h2 : t β p k' (fun y => some (e y)) = _ := (h (fun s : P ⊕ R => match s with | .inl q => k' q | .inr y => some (e y)) p (fun q => some (.inl q)) (fun y => some (.inr y))).symm
  rw [h1] at hy
  rw [h2]
  revert hy
  generalize t (P ⊕ R) p (fun q => some (Sum.inl q)) (fun y => some (Sum.inr y)) = x
  intro hy
  match x, hy with
  | some (.inl q), hy => exact hk q y hy
  | some (.inr z), hy => obtain rfl : z = y := Option.some.inj hy; rfl

/-- Rounds left: those of the loops around stay, the others begin anew. -/
def kp (l : List Nat) (n : Nat) (u : Nat → Nat) : Nat → Nat := fun j => bif l.elem j then u j else n
def dc (i m : Nat) (u : Nat → Nat) : Nat → Nat := fun j => bif Nat.beq j i then m else u j
def Ok1 (t : Steps P R) (e : R → β) (n : Nat) (M : (Nat → Nat) → P → Option β) (u : Nat → Nat) (p : P) : Prop :=
  ∃ u', (∀ f, f + 1 ≤ n → (∀ i, f + 1 ≤ u i) → ∀ i, f ≤ u' i) ∧ M u p = t β p (M u') (fun y => some (e y))
theorem pl {t : Steps P R} {e : R → β} {n : Nat} {M : (Nat → Nat) → P → Option β} {u : Nat → Nat} {p : P} (l : List Nat) (h : M u p = t β p (M (kp l n u)) (fun y => some (e y))) : Ok1 t e n M u p :=
  ⟨_, fun f hn hu i => by
    have := hu i
    unfold kp
    cases l.elem i <;> simp only [cond_true, cond_false] <;> omega, h⟩
theorem hd {t : Steps P R} {e : R → β} {n : Nat} {M : (Nat → Nat) → P → Option β} {u : Nat → Nat} {p : P} (i : Nat) (l : List Nat) (hu : ∀ i, 1 ≤ u i) (h : ∀ m, u i = m + 1 → M u p = t β p (M (kp l n (dc i m u))) (fun y => some (e y))) : Ok1 t e n M u p := by
  have h1 := hu i
  obtain ⟨m, hm⟩ : ∃ m, u i = m + 1 := ⟨u i - 1, by omega⟩
  refine ⟨_, fun f hn hv j => ?_, h m hm⟩
  have h2 := hv j
  have h3 := hv i
  unfold kp dc
  cases l.elem j <;> cases hb : Nat.beq j i <;> simp only [cond_true, cond_false] <;> omega
theorem flow_sound {t : Steps P R} (nat : NatS t) {e : R → β} {n : Nat} {M : (Nat → Nat) → P → Option β} (H : ∀ u p, (∀ i, 1 ≤ u i) → Ok1 t e n M u p) :
    ∀ (f : Nat) (u : Nat → Nat) (p : P) (y : R), f ≤ n → (∀ i, f ≤ u i) → flow t f p = some y → M u p = some (e y)
  | 0, _, _, _, _, _, h => by cases h
  | f + 1, u, p, y, hn, hu, h => by
    obtain ⟨u', h1, h2⟩ := H u p (fun i => by have := hu i; omega)
    rw [h2]
    exact nat.mono (fun q z hz => flow_sound nat H f u' q z (by omega) (h1 f hn hu) hz) h
end

/-! ### More rounds give no less -/
def Up {α : Type} (x y : Option α) : Prop := ∀ v, x = some v → y = some v
def UpS {P R : Type} (t t' : Steps P R) : Prop := ∀ γ p k r, Up (t γ p k r) (t' γ p k r)
section
variable {P R α β : Type}
theorem up_rfl {x : Option α} : Up x x := fun _ h => h
theorem up_cond {b : Bool} {x x' y y' : Option α} (h : Up x x') (k : Up y y') : Up (cond b x y) (cond b x' y') := by cases b <;> assumption
theorem up_ite {c : Prop} [Decidable c] {x x' y y' : Option α} (h : Up x x') (k : Up y y') : Up (if c then x else y) (if c then x' else y') := by split <;> assumption
theorem up_bind {x x' : Option α} {f f' : α → Option β} (h : Up x x') (k : ∀ a, Up (f a) (f' a)) : Up (x.bind f) (x'.bind f') := fun v hv => by
  obtain ⟨a, h1, h2⟩ := Option.bind_eq_some_iff.1 hv
  rw [h a h1]; exact k a v h2
theorem NatS.up {t : Steps P R} (h : NatS t) {p : P} {k k' : P → Option β} {r : R → Option β} (hk : ∀ q, Up (k q) (k' q)) : Up (t β p k r) (t β p k' r) := by
  have h1 : t β p k r = _ := (h (fun s : P ⊕ R => match s with | .inl q => k q | .inr y => r y) p (fun q => some (.inl q)) (fun y => some (.inr y))).symm
  have h2 : t β p k' r = _ := (h (fun s : P ⊕ R => match s with | .inl q => k' q | .inr y => r y) p (fun q => some (.inl q)) (fun y => some (.inr y))).symm
  rw [h1, h2]
  refine up_bind up_rfl fun s => ?_
  cases s with
  | inl q => exact hk q
  | inr y => exact up_rfl
theorem flow_up {t t' : Steps P R} (nat : NatS t) (h : UpS t t') : ∀ {a b : Nat}, a ≤ b → ∀ p, Up (flow t a p) (flow t' b p)
  | 0, _, _, _ => fun v hv => by cases hv
  | a + 1, 0, hab, _ => by omega
  | a + 1, b + 1, hab, p => fun v hv => h R p (flow t' b) some v (nat.up (fun q => flow_up nat h (Nat.le_of_succ_le_succ hab) q) v hv)
end

/-- One of two ways on. -/
def optK {α β : Type} (y : Option α) (a : Option β) (f : α → Option β) : Option β :=
  match y with
  | none => a
  | some v => f v
def encO {α β : Type} (a : β) (f : α → β) : Option α → β
  | none => a
  | some v => f v
theorem bind_optK {α β δ : Type} (y : Option α) (a : Option β) (f : α → Option β) (g : β → Option δ) : (optK y a f).bind g = optK y (a.bind g) (fun v => (f v).bind g) := by cases y <;> rfl
theorem up_optK {α β : Type} {y : Option α} {a a' : Option β} {f f' : α → Option β} (h : Up a a') (k : ∀ v, Up (f v) (f' v)) : Up (optK y a f) (optK y a' f') := by
  cases y with
  | none => exact h
  | some v => exact k v

/-! ### From cut to cut, run -/
/-- Until a cut that is wanted, so many steps at most. -/
noncomputable def flowTo {P R : Type} (t : Steps P R) (stop : P → Bool) (n : Nat) : P → Option (P ⊕ R) :=
  Nat.rec (fun _ => none) (fun _ ih p => t (P ⊕ R) p (fun q => bif stop q then some (.inl q) else ih q) (fun y => some (.inr y))) n
/-- It gets from one cut to another one. -/
def Leads {P R : Type} (t : Steps P R) (b : Nat) (p q : P) : Prop := ∃ j, j ≤ b ∧ ∀ f, flow t (f + j) p = flow t f q
def Gives {P R : Type} (t : Steps P R) (b : Nat) (p : P) (y : R) : Prop := ∃ j, j ≤ b ∧ ∀ f, flow t (f + j) p = some y
section
variable {P R : Type} {t : Steps P R} {a b : Nat} {p q q' : P} {y : R}
theorem Leads.refl (p : P) : Leads t 0 p p := ⟨0, Nat.le_refl _, fun _ => rfl⟩
theorem Leads.trans (h : Leads t a p q) (k : Leads t b q q') : Leads t (a + b) p q' := by
  obtain ⟨i, h1, h2⟩ := h
  obtain ⟨j, k1, k2⟩ := k
  refine ⟨j + i, by omega, fun f => ?_⟩
  rw [← Nat.add_assoc, h2, k2]
theorem Leads.gives (h : Leads t a p q) (k : Gives t b q y) : Gives t (a + b) p y := by
  obtain ⟨i, h1, h2⟩ := h
  obtain ⟨j, k1, k2⟩ := k
  refine ⟨j + i, by omega, fun f => ?_⟩
  rw [← Nat.add_assoc, h2, k2]
theorem Leads.step (h : ∀ f, flow t (f + 1) p = flow t f q) : Leads t 1 p q := ⟨1, Nat.le_refl _, h⟩
theorem Gives.flow (h : Gives t b p y) {n : Nat} (hn : b ≤ n) : flow t n p = some y := by
  obtain ⟨j, h1, h2⟩ := h
  have := h2 (n - j)
  rwa [Nat.sub_add_cancel (by omega)] at this
theorem flowTo_sound (nat : NatS t) {stop : P → Bool} : ∀ {n : Nat} {p : P} {x : P ⊕ R}, flowTo t stop n p = some x →
    match x with
    | .inl q => Leads t n p q
    | .inr y => Gives t n p y
  | 0, _, _, h => by cases h
  | n + 1, p, x, h => by
    have h1 : flowTo t stop (n + 1) p = _ := (nat (fun s : P ⊕ R => match s with | .inl q => (bif stop q then some (.inl q) else flowTo t stop n q) | .inr y => some (.inr y)) p (fun q => some (.inl q)) (fun y => some (.inr y))).symm
    have h2 : ∀ f, flow t (f + 1) p = _ := fun f => (nat (fun s : P ⊕ R => match s with | .inl q => flow t f q | .inr y => some y) p (fun q => some (.inl q)) (fun y => some (.inr y))).symm
    rw [h1] at h
    revert h h2
    generalize t (P ⊕ R) p (fun q => some (Sum.inl q)) (fun y => some (Sum.inr y)) = z
    intro h h2
    match z, h, h2 with
    | some (.inr y), h, h2 =>
      obtain rfl := Option.some.inj h
      exact ⟨1, by omega, fun f => h2 f⟩
    | some (.inl q), h, h2 =>
      have h3 : Leads t 1 p q := ⟨1, Nat.le_refl _, fun f => h2 f⟩
      change (bif stop q then some (Sum.inl q) else flowTo t stop n q) = some x at h
      cases hs : stop q with
      | true =>
        rw [hs] at h
        obtain rfl := Option.some.inj h
        obtain ⟨j, j1, j2⟩ := h3
        exact ⟨j, by omega, j2⟩
      | false =>
        rw [hs] at h
        have h4 := flowTo_sound nat (n := n) h
        match x, h4 with
        | .inl q', h4 => have := h3.trans h4; rwa [Nat.add_comm] at this
        | .inr y, h4 => have := h3.gives h4; rwa [Nat.add_comm] at this
end

/-- A loop with rounds left. -/
theorem loopK_at {β : Type} {Γ : Env} {Φ : Prog} {ann : Ann} {n m bl v : Nat} {X : Code} {A : St} {K : Ex → St → Option β} (h : v = m + 1) : loopK Γ Φ ann n X bl v A K = codeK Γ Φ ann n X bl A (roundK Γ Φ ann n X bl m K) := by
  subst h; rfl

theorem at_code {β : Type} {Γ : Env} {Φ : Prog} {ann : Ann} {n bl : Nat} {X : Code} {A : St} {K : Ex → St → Option β} {M r : Option β} (hM : M = stepIn (fun A => codeK Γ Φ ann n X bl A K) A) (h : codeK Γ Φ ann n X bl A K = r) : M = r := hM.trans h

/-! ### Entries by their types -/
def ATy : List PM → Type
  | [] => Unit
  | .tree t :: r => Val t × ATy r
  | .point :: r => ATy r
def VTy : List (TypeId × Ty) → Type
  | [] => Unit
  | (_, t) :: r => Val t × VTy r
def encA : (l : List PM) → Nat → ATy l → List CArg
  | [], _, _ => []
  | .tree t :: r, j, a => .v t a.1 :: encA r j a.2
  | .point :: r, j, a => .p j :: encA r (j + 1) a
def encV : (l : List (TypeId × Ty)) → VTy l → List CVar
  | [], _ => []
  | (T, t) :: r, b => ⟨T, t, b.1⟩ :: encV r b.2
section
variable {β δ : Type}
def decA : (l : List PM) → Nat → List CArg → (ATy l → Option β) → Option β
  | [], _, as, k => match as with
    | [] => k ()
    | _ => none
  | .tree t :: r, j, as, k => match as with
    | a :: as => argV t a fun x => decA r j as (fun b => k (x, b))
    | _ => none
  | .point :: r, j, as, k => match as with
    | a :: as => ptrV j a (decA r (j + 1) as k)
    | _ => none
def decV : (l : List (TypeId × Ty)) → List CVar → (VTy l → Option β) → Option β
  | [], as, k => match as with
    | [] => k ()
    | _ => none
  | (T, t) :: r, as, k => match as with
    | a :: as => varV T t a fun x => decV r as (fun b => k (x, b))
    | _ => none
theorem bind_decA (g : β → Option δ) : ∀ (l : List PM) (j : Nat) (as : List CArg) (k : ATy l → Option β), (decA l j as k).bind g = decA l j as (fun a => (k a).bind g)
  | [], _, [], _ => rfl
  | [], _, _ :: _, _ => rfl
  | .tree t :: r, j, [], k => rfl
  | .tree t :: r, j, a :: as, k => by simp only [decA, bind_argV, bind_decA g r]
  | .point :: r, j, [], k => rfl
  | .point :: r, j, a :: as, k => by
    simp only [decA, bind_ptrV]
    exact congrArg _ (bind_decA g r (j + 1) as k)
theorem bind_decV (g : β → Option δ) : ∀ (l : List (TypeId × Ty)) (as : List CVar) (k : VTy l → Option β), (decV l as k).bind g = decV l as (fun a => (k a).bind g)
  | [], [], _ => rfl
  | [], _ :: _, _ => rfl
  | (T, t) :: r, [], k => rfl
  | (T, t) :: r, a :: as, k => by simp only [decV, bind_varV, bind_decV g r]
theorem decA_some {y : β} : ∀ (l : List PM) (j : Nat) (as : List CArg) (k : ATy l → Option β), decA l j as k = some y → ∃ a, as = encA l j a ∧ k a = some y
  | [], _, [], _, h => ⟨(), rfl, h⟩
  | [], _, _ :: _, _, h => by cases h
  | .tree t :: r, j, [], k, h => by cases h
  | .tree t :: r, j, a :: as, k, h => by
    unfold decA at h
    obtain ⟨x, rfl, h1⟩ := argV_some h
    obtain ⟨b, rfl, h2⟩ := decA_some r j as _ h1
    exact ⟨(x, b), rfl, h2⟩
  | .point :: r, j, [], k, h => by cases h
  | .point :: r, j, a :: as, k, h => by
    unfold decA at h
    obtain ⟨rfl, h1⟩ := ptrV_some h
    obtain ⟨b, rfl, h2⟩ := decA_some r (j + 1) as _ h1
    exact ⟨b, rfl, h2⟩
theorem decV_some {y : β} : ∀ (l : List (TypeId × Ty)) (as : List CVar) (k : VTy l → Option β), decV l as k = some y → ∃ a, as = encV l a ∧ k a = some y
  | [], [], _, h => ⟨(), rfl, h⟩
  | [], _ :: _, _, h => by cases h
  | (T, t) :: r, [], k, h => by cases h
  | (T, t) :: r, a :: as, k, h => by
    unfold decV at h
    obtain ⟨x, rfl, h1⟩ := varV_some h
    obtain ⟨b, rfl, h2⟩ := decV_some r as _ h1
    exact ⟨(x, b), rfl, h2⟩
end

/-- A function that is known by what it does with trees and variables. -/
noncomputable def mkE (f : FuncId) (mode : Mode) (pms : List PM) (vts : List (TypeId × Ty)) {R : Type} (fn : ATy pms → VTy vts → Option R) (enc : R → List CRes × List CVar) : Entry where
  f := f
  sig := { pms := pms, mode := mode }
  run args vars K := decA pms 0 args fun a => decV vts vars fun b => (fn a b).bind fun y => K (enc y)
  nat := by
    intro β δ args vars K g
    simp only [bind_decA, bind_decV, Option.bind_assoc]
theorem mkE_ok {P : Program} {Γ : Env} {Φ : Prog} {ann : Ann} {f : FuncId} {mode : Mode} {pms : List PM} {vts : List (TypeId × Ty)} {R : Type} {fn : ATy pms → VTy vts → Option R} {enc : R → List CRes × List CVar} {F : Func} {n : Nat}
    (hf : P.funcs[f]? = some F) (hn : (F.name == "runtime.NumGoroutine") = false) (hb : F.body.isNone = false) (hK : Known P Γ Φ) (hmix : P.follows .mixedOrders = true)
    (h : ∀ a b y, fn a b = some y → den Γ Φ ann F n (encA pms 0 a) (encV vts b) = some (enc y)) : EntryOk P (mkE f mode pms vts fn enc) :=
  entry_ok (e := mkE f mode pms vts fn enc) (F := F) (ann := ann) (n := n) hf hn hb hK hmix fun args vars res hr => by
    obtain ⟨a, rfl, h1⟩ := decA_some pms 0 args _ hr
    obtain ⟨b, rfl, h2⟩ := decV_some vts vars _ h1
    obtain ⟨y, h3, h4⟩ := Option.bind_eq_some_iff.1 h2
    cases h4
    exact h a b y h3
theorem mkE_none {P : Program} {f : FuncId} {mode : Mode} {pms : List PM} {vts : List (TypeId × Ty)} {R : Type} {fn : ATy pms → VTy vts → Option R} {enc : R → List CRes × List CVar} {F : Func}
    (hf : P.funcs[f]? = some F) (hn : (F.name == "runtime.NumGoroutine") = false) (hb : F.body.isNone = false) (h : ∀ a b, fn a b = none) : EntryOk P (mkE f mode pms vts fn enc) :=
  entry_none (e := mkE f mode pms vts fn enc) (F := F) hf hn hb fun args vars res hr => by
    obtain ⟨a, rfl, h1⟩ := decA_some pms 0 args _ hr
    obtain ⟨b, rfl, h2⟩ := decV_some vts vars _ h1
    obtain ⟨y, h3, h4⟩ := Option.bind_eq_some_iff.1 h2
    rw [h a b] at h3; cases h3

/-- Arguments: trees; pointers to variables that go along; a known function with so many captured variables. -/
inductive AK where
  | tree (t : Ty) | ptr | fn (f : FuncId) (k : Nat)
def AK.pm : AK → PM
  | .tree t => .tree t
  | _ => .point
def KTy : List AK → Type
  | [] => Unit
  | .tree t :: r => Val t × KTy r
  | .ptr :: r => KTy r
  | .fn _ _ :: r => KTy r
def capsL : Nat → Nat → List Cap
  | _, 0 => []
  | j, k + 1 => .p j :: capsL (j + 1) k
def capsB : List Cap → Nat → Nat → Bool
  | [], _, 0 => true
  | .p i :: r, j, k + 1 => Nat.beq i j && capsB r (j + 1) k
  | _, _, _ => false
theorem capsB_eq : ∀ (l : List Cap) (j k : Nat), capsB l j k = true → l = capsL j k
  | [], _, 0, _ => rfl
  | [], _, _ + 1, h => by cases h
  | .p i :: r, j, 0, h => by cases h
  | .v _ _ :: r, j, 0, h => by cases h
  | .v _ _ :: r, j, _ + 1, h => by cases h
  | .p i :: r, j, k + 1, h => by
    simp only [capsB, Bool.and_eq_true] at h
    rw [Nat.eq_of_beq_eq_true h.1, capsB_eq r (j + 1) k h.2]; rfl
def encK : (l : List AK) → Nat → KTy l → List CArg
  | [], _, _ => []
  | .tree t :: r, j, a => .v t a.1 :: encK r j a.2
  | .ptr :: r, j, a => .p j :: encK r (j + 1) a
  | .fn f k :: r, j, a => .fn f (capsL j k) :: encK r (j + k) a
section
variable {β δ : Type}
theorem fnV_some {f : FuncId} {a : CArg} {k : List Cap → Option β} {r : β} (h : fnV f a k = some r) : ∃ c, a = .fn f c ∧ k c = some r := by
  unfold fnV at h; split at h
  · split at h
    · rename_i e; subst e; exact ⟨_, rfl, h⟩
    · cases h
  · cases h
def decK : (l : List AK) → Nat → List CArg → (KTy l → Option β) → Option β
  | [], _, as, k => match as with
    | [] => k ()
    | _ => none
  | .tree t :: r, j, as, k => match as with
    | a :: as => argV t a fun x => decK r j as (fun b => k (x, b))
    | _ => none
  | .ptr :: r, j, as, k => match as with
    | a :: as => ptrV j a (decK r (j + 1) as k)
    | _ => none
  | .fn f m :: r, j, as, k => match as with
    | a :: as => fnV f a fun c => bif capsB c j m then decK r (j + m) as k else none
    | _ => none
theorem bind_decK (g : β → Option δ) : ∀ (l : List AK) (j : Nat) (as : List CArg) (k : KTy l → Option β), (decK l j as k).bind g = decK l j as (fun a => (k a).bind g)
  | [], _, [], _ => rfl
  | [], _, _ :: _, _ => rfl
  | .tree t :: r, j, [], k => rfl
  | .tree t :: r, j, a :: as, k => by simp only [decK, bind_argV, bind_decK g r]
  | .ptr :: r, j, [], k => rfl
  | .ptr :: r, j, a :: as, k => by
    simp only [decK, bind_ptrV]
    exact congrArg _ (bind_decK g r (j + 1) as k)
  | .fn f m :: r, j, [], k => rfl
  | .fn f m :: r, j, a :: as, k => by
    simp only [decK, bind_fnV, bind_cond, Option.bind_none]
    exact congrArg _ (funext fun c => congrArg (fun z => bif capsB c j m then z else none) (bind_decK g r (j + m) as k))
theorem decK_some {y : β} : ∀ (l : List AK) (j : Nat) (as : List CArg) (k : KTy l → Option β), decK l j as k = some y → ∃ a, as = encK l j a ∧ k a = some y
  | [], _, [], _, h => ⟨(), rfl, h⟩
  | [], _, _ :: _, _, h => by cases h
  | .tree t :: r, j, [], k, h => by cases h
  | .tree t :: r, j, a :: as, k, h => by
    unfold decK at h
    obtain ⟨x, rfl, h1⟩ := argV_some h
    obtain ⟨b, rfl, h2⟩ := decK_some r j as _ h1
    exact ⟨(x, b), rfl, h2⟩
  | .ptr :: r, j, [], k, h => by cases h
  | .ptr :: r, j, a :: as, k, h => by
    unfold decK at h
    obtain ⟨rfl, h1⟩ := ptrV_some h
    obtain ⟨b, rfl, h2⟩ := decK_some r (j + 1) as _ h1
    exact ⟨b, rfl, h2⟩
  | .fn f m :: r, j, [], k, h => by cases h
  | .fn f m :: r, j, a :: as, k, h => by
    unfold decK at h
    obtain ⟨c, rfl, h1⟩ := fnV_some h
    cases hc : capsB c j m with
    | false => rw [hc] at h1; cases h1
    | true =>
      rw [hc] at h1
      rw [capsB_eq c j m hc]
      obtain ⟨b, rfl, h2⟩ := decK_some r (j + m) as _ h1
      exact ⟨b, rfl, h2⟩
end
/-- As mkE, where functions may be among the arguments. -/
noncomputable def mkF (f : FuncId) (mode : Mode) (pms : List AK) (vts : List (TypeId × Ty)) {R : Type} (fn : KTy pms → VTy vts → Option R) (enc : R → List CRes × List CVar) : Entry where
  f := f
  sig := { pms := pms.map AK.pm, mode := mode }
  run args vars K := decK pms 0 args fun a => decV vts vars fun b => (fn a b).bind fun y => K (enc y)
  nat := by
    intro β δ args vars K g
    simp only [bind_decK, bind_decV, Option.bind_assoc]
theorem mkF_ok {P : Program} {Γ : Env} {Φ : Prog} {ann : Ann} {f : FuncId} {mode : Mode} {pms : List AK} {vts : List (TypeId × Ty)} {R : Type} {fn : KTy pms → VTy vts → Option R} {enc : R → List CRes × List CVar} {F : Func} {n : Nat}
    (hf : P.funcs[f]? = some F) (hn : (F.name == "runtime.NumGoroutine") = false) (hb : F.body.isNone = false) (hK : Known P Γ Φ) (hmix : P.follows .mixedOrders = true)
    (h : ∀ a b y, fn a b = some y → den Γ Φ ann F n (encK pms 0 a) (encV vts b) = some (enc y)) : EntryOk P (mkF f mode pms vts fn enc) :=
  entry_ok (e := mkF f mode pms vts fn enc) (F := F) (ann := ann) (n := n) hf hn hb hK hmix fun args vars res hr => by
    obtain ⟨a, rfl, h1⟩ := decK_some pms 0 args _ hr
    obtain ⟨b, rfl, h2⟩ := decV_some vts vars _ h1
    obtain ⟨y, h3, h4⟩ := Option.bind_eq_some_iff.1 h2
    cases h4
    exact h a b y h3

/-- As mkE; its one result may be nil. -/
noncomputable def mkEo (f : FuncId) (mode : Mode) (pms : List PM) (vts : List (TypeId × Ty)) {α : Type} (fn : ATy pms → VTy vts → Option (Option α)) (e1 : List CRes × List CVar) (e2 : α → List CRes × List CVar) : Entry where
  f := f
  sig := { pms := pms, mode := mode }
  run args vars K := decA pms 0 args fun a => decV vts vars fun b => (fn a b).bind fun y => optK y (K e1) (fun v => K (e2 v))
  nat := by
    intro β δ args vars K g
    simp only [bind_decA, bind_decV, Option.bind_assoc, bind_optK]
theorem mkEo_ok {P : Program} {Γ : Env} {Φ : Prog} {ann : Ann} {f : FuncId} {mode : Mode} {pms : List PM} {vts : List (TypeId × Ty)} {α : Type} {fn : ATy pms → VTy vts → Option (Option α)} {e1 : List CRes × List CVar} {e2 : α → List CRes × List CVar} {F : Func} {n : Nat}
    (hf : P.funcs[f]? = some F) (hn : (F.name == "runtime.NumGoroutine") = false) (hb : F.body.isNone = false) (hK : Known P Γ Φ) (hmix : P.follows .mixedOrders = true)
    (h : ∀ a b y, fn a b = some y → den Γ Φ ann F n (encA pms 0 a) (encV vts b) = some (encO e1 e2 y)) : EntryOk P (mkEo f mode pms vts fn e1 e2) :=
  entry_ok (e := mkEo f mode pms vts fn e1 e2) (F := F) (ann := ann) (n := n) hf hn hb hK hmix fun args vars res hr => by
    obtain ⟨a, rfl, h1⟩ := decA_some pms 0 args _ hr
    obtain ⟨b, rfl, h2⟩ := decV_some vts vars _ h1
    obtain ⟨y, h3, h4⟩ := Option.bind_eq_some_iff.1 h2
    rw [h a b y h3]
    cases y <;> exact h4

/-! ### Short names -/
abbrev I64 : Ty := .int .i64
@[reducible] def iv (x : Int) : SV := .val (.int .i64) x
def w64 (x : Int) : Int := IntKind.i64.wrap x
end Go.Am
/- Am, part 40: what functions give from some number of rounds on; words for walks through their steps. -/
set_option linter.unusedVariables false
namespace Go.Am

def Ev (A : Nat → Prop) : Prop := ∃ N, ∀ n, N ≤ n → A n
theorem Ev.all {A : Nat → Prop} (h : ∀ n, A n) : Ev A := ⟨0, fun n _ => h n⟩
theorem Ev.mono {A B : Nat → Prop} (h : Ev A) (k : ∀ n, A n → B n) : Ev B := by
  obtain ⟨N, h⟩ := h
  exact ⟨N, fun n hn => k n (h n hn)⟩
theorem Ev.and {A B : Nat → Prop} (h : Ev A) (k : Ev B) : Ev fun n => A n ∧ B n := by
  obtain ⟨N, h⟩ := h
  obtain ⟨M, k⟩ := k
  exact ⟨N + M, fun n hn => ⟨h n (by omega), k n (by omega)⟩⟩
theorem Ev.ex {A : Nat → Prop} (h : Ev A) : ∃ n, A n := by
  obtain ⟨N, h⟩ := h
  exact ⟨N, h N (Nat.le_refl _)⟩

section
variable {P R : Type} {t : Nat → Steps P R} {p q q' : P} {y : R}
def EvL (t : Nat → Steps P R) (p q : P) : Prop := ∃ b, Ev fun n => Leads (t n) b p q
def EvG (t : Nat → Steps P R) (p : P) (y : R) : Prop := ∃ b, Ev fun n => Gives (t n) b p y
theorem EvL.refl : EvL t p p := ⟨0, Ev.all fun n => Leads.refl p⟩
theorem EvL.trans (h : EvL t p q) (k : EvL t q q') : EvL t p q' := by
  obtain ⟨a, h⟩ := h
  obtain ⟨b, k⟩ := k
  exact ⟨a + b, (h.and k).mono fun n x => x.1.trans x.2⟩
theorem EvL.gives (h : EvL t p q) (k : EvG t q y) : EvG t p y := by
  obtain ⟨a, h⟩ := h
  obtain ⟨b, k⟩ := k
  exact ⟨a + b, (h.and k).mono fun n x => x.1.gives x.2⟩
theorem EvL.of {A : Nat → Prop} (h : Ev A) (k : ∀ n f, A n → flow (t n) (f + 1) p = flow (t n) f q) : EvL t p q :=
  ⟨1, h.mono fun n hn => Leads.step fun f => k n f hn⟩
theorem EvL.one (k : ∀ n f, flow (t n) (f + 1) p = flow (t n) f q) : EvL t p q := ⟨1, Ev.all fun n => Leads.step fun f => k n f⟩
theorem EvG.of {A : Nat → Prop} (h : Ev A) (k : ∀ n f, A n → flow (t n) (f + 1) p = some y) : EvG t p y :=
  ⟨1, h.mono fun n hn => ⟨1, Nat.le_refl _, fun f => k n f hn⟩⟩
theorem EvG.one (k : ∀ n f, flow (t n) (f + 1) p = some y) : EvG t p y := ⟨1, Ev.all fun n => ⟨1, Nat.le_refl _, fun f => k n f⟩⟩
theorem EvG.ev (h : EvG t p y) : Ev fun n => flow (t n) n p = some y := by
  obtain ⟨b, N, h⟩ := h
  exact ⟨N + b, fun n hn => (h n (by omega)).flow (by omega)⟩
end

theorem flowTo_up {P R : Type} {t t' : Steps P R} (nat : NatS t) (h : UpS t t') (stop : P → Bool) : ∀ {a b : Nat}, a ≤ b → ∀ p, Up (flowTo t stop a p) (flowTo t' stop b p)
  | 0, _, _, _ => fun v hv => by cases hv
  | a + 1, 0, hab, _ => by omega
  | a + 1, b + 1, hab, p => fun v hv => h (P ⊕ R) p _ _ v (nat.up (p := p) (k := fun q => bif stop q then some (Sum.inl q) else flowTo t stop a q) (k' := fun q => bif stop q then some (Sum.inl q) else flowTo t' stop b q) (r := fun y => some (Sum.inr y)) (fun q => up_cond up_rfl (flowTo_up nat h stop (Nat.le_of_succ_le_succ hab) q)) v hv)
/-- What was run once, with so many rounds, leads there with more. -/
theorem EvL.run {P R : Type} {t : Nat → Steps P R} (nat : ∀ n, NatS (t n)) (up : ∀ {n m}, n ≤ m → UpS (t n) (t m)) {stop : P → Bool} {N b : Nat} {p q : P} (h : flowTo (t N) stop b p = some (.inl q)) : EvL t p q :=
  ⟨b, N, fun n hn => flowTo_sound (nat n) (x := .inl q) (flowTo_up (nat N) (up hn) stop (Nat.le_refl b) p _ h)⟩
theorem Ev.run {α : Type} {x : Nat → Option α} {y : α} {N : Nat} (up : ∀ {n m}, n ≤ m → Up (x n) (x m)) (h : x N = some y) : Ev fun n => x n = some y := ⟨N, fun n hn => up hn y h⟩

/-! ### Numbers -/
theorem w64_id {x : Int} (h1 : -9223372036854775808 ≤ x) (h2 : x ≤ 9223372036854775807) : w64 x = x := Go.IntWalk.i64_in x ⟨h1, h2⟩
theorem ltB_t {a b : Int} (h : a < b) : ltB a b = true := by rw [ltB_eq]; exact decide_eq_true h
theorem ltB_f {a b : Int} (h : b ≤ a) : ltB a b = false := by rw [ltB_eq]; exact decide_eq_false (by omega)
theorem leB_t {a b : Int} (h : a ≤ b) : leB a b = true := by rw [leB_eq]; exact decide_eq_true h
theorem leB_f {a b : Int} (h : b < a) : leB a b = false := by rw [leB_eq]; exact decide_eq_false (by omega)
theorem eqB_t {a b : Int} (h : a = b) : eqB a b = true := by rw [eqB_eq]; exact decide_eq_true h
theorem eqB_f {a b : Int} (h : a ≠ b) : eqB a b = false := by rw [eqB_eq]; exact decide_eq_false h
theorem getD_mid {α : Type} (pre : List α) (r : α) (l : List α) (d : α) : (pre ++ r :: l).getD pre.length d = r := by
  simp [List.getD_eq_getElem?_getD]
theorem toNat_len {α : Type} (l : List α) : Int.toNat (l.length : Int) = l.length := by simp
end Go.Am
/- Am, part 42: a function of nothing that gives true. -/
set_option linter.unusedVariables false
set_option linter.unusedSimpArgs false
namespace Go.Am
theorem closed_walk {P : Program} {f : FuncId} {mode : Mode} {fn : ATy [] → VTy [] → Option Bool} {enc : Bool → List CRes × List CVar} (ok : EntryOk P (mkE f mode [] [] fn enc)) (h : fn () () = some true) (he : enc true = ([.v .bool true], [])) (w : World) :
    Calls P f #[] w fun e w' => e = .returned (.bool true) ∧ Goes w w' ∧ ∀ b, b < w.heap.size → w'.heap[b]? = w.heap[b]? := by
  have hr : (mkE f mode [] [] fn enc).run (β := List CRes × List CVar) [] [] some = some ([.v .bool true], []) := by
    show (fn () ()).bind _ = _
    rw [h, Option.bind_some, he]
  refine Calls.mono (ok.2 [] [] [.v .bool true] [] hr w (fun _ => False) [] [] [] [] (fun b hb => hb.elim) (by simp [ArgsR]) (by simp [VarsR]) (by simp) (by simp)) ?_
  rintro e w' ⟨v, Fr, Fv', rfl, hgo, hsame, _, _, hres, _⟩
  simp only [ResV, CResR] at hres
  obtain ⟨cs, rfl, hr⟩ := hres
  obtain ⟨rfl, _⟩ := hr
  exact ⟨rfl, hgo, fun b hb => hsame b hb (by simp)⟩
end Go.Am
/- Am, part 43: words of the walks. -/
set_option linter.unusedVariables false
namespace Go.Am.Fr

/-! ### Words of the walk -/
theorem at_get {α : Type} {l pre l2 : List α} {r : α} (h : l = pre ++ r :: l2) (d : α) : l.getD (Int.toNat (pre.length : Int)) d = r := by
  subst h; rw [toNat_len]; exact getD_mid pre r l2 d
theorem at_lt {α : Type} {l pre l2 : List α} {r : α} (h : l = pre ++ r :: l2) : (pre.length : Int) < (l.length : Int) := by
  subst h; rw [List.length_append, List.length_cons]; omega
theorem at_le {α : Type} {l pre l2 : List α} (h : l = pre ++ l2) : (pre.length : Int) ≤ (l.length : Int) := by
  subst h; rw [List.length_append]; omega
theorem at_end {α : Type} {l pre : List α} (h : l = pre ++ []) : (l.length : Int) = pre.length := by
  subst h; simp
theorem at_next {α : Type} {l pre l2 : List α} {r : α} (h : l = pre ++ r :: l2) : l = (pre ++ [r]) ++ l2 := by rw [h]; simp
theorem at_succ {α : Type} (pre : List α) (r : α) (h : (pre.length : Int) ≤ 1000000000000) : w64 ((pre.length : Int) + 1) = ((pre ++ [r]).length : Int) := by
  rw [w64_id (by omega) (by omega)]; simp
theorem natDrop {n m : Nat} : ((n : Int) + 1).toNat = n + 1 := by omega

end Go.Am.Fr
