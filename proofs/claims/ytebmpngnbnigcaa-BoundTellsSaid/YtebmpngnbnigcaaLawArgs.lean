/- A function of numbers and rows of numbers that gives true: its arguments as trees. -/
import Derived.Test.YtebmpngnbnigcaaMD
import Derived.ChangeSlices
import Derived.Carry
namespace Go.Am
open Go.ChangeShapes Go.WideShapes
set_option linter.unusedVariables false

theorem args_walk {P : Program} {f : FuncId} {mode : Mode} {pms : List PM} {fn : ATy pms → VTy [] → Option Bool} {enc : Bool → List CRes × List CVar} (ok : EntryOk P (mkE f mode pms [] fn enc)) (args : List CArg)
    (hr : (mkE f mode pms [] fn enc).run (β := List CRes × List CVar) args [] some = some ([.v .bool true], [])) (w : World) (vals : List Value) (ha : ArgsR w (fun b => b < w.heap.size) [] args vals []) :
    Calls P f vals.toArray w fun e w' => e = .returned (.bool true) ∧ Goes w w' ∧ ∀ b, b < w.heap.size → w'.heap[b]? = w.heap[b]? := by
  refine Calls.mono (ok.2 args [] [.v .bool true] [] hr w (fun b => b < w.heap.size) vals [] [] [] (fun b hb => ⟨hb, by simp⟩) ha (by simp [VarsR]) (by simp) (by simp)) ?_
  rintro e w' ⟨v, Fr, Fv', rfl, hgo, hsame, _, _, hres, _⟩
  simp only [ResV, CResR] at hres
  obtain ⟨cs, rfl, hr⟩ := hres
  obtain ⟨rfl, _⟩ := hr
  exact ⟨rfl, hgo, fun b hb => hsame b hb (by simp)⟩

theorem argsR_cons {w : World} {S : Nat → Prop} {a : CArg} {v : Value} {as : List CArg} {vs : List Value} (h : ArgR w S [] a v []) (k : ArgsR w S [] as vs []) : ArgsR w S [] (a :: as) (v :: vs) [] := by
  simp only [ArgsR]
  exact ⟨v, vs, [], [], rfl, rfl, h, k⟩
theorem argsR_nil {w : World} {S : Nat → Prop} : ArgsR w S [] [] [] [] := by simp [ArgsR]

theorem arg_int {w : World} {S : Nat → Prop} (k : IntKind) (n : Int) : ArgR w S [] (.v (.int k) n) (.int k n) [] := ⟨[.int k n], rfl, rfl, rfl⟩

theorem rl_ints {w : World} {S : Nat → Prop} (k : IntKind) : ∀ (xs : List Int), Rl (R w S (.int k)) xs (xs.map fun n => Value.int k n) []
  | [] => ⟨rfl, rfl⟩
  | x :: xs => ⟨[.int k x], xs.map fun n => Value.int k n, [], [], rfl, rfl, ⟨rfl, rfl⟩, rl_ints k xs⟩

section
variable {H : Type} {enc : TypeId × Value → H} {P : Program} {w : World} {held : Bool}
/-- A row of numbers among the arguments. -/
theorem arg_ints {t e : TypeId} {k : IntKind} {v : Value} {d : DataW H} {ps : List MemPlace} {a0 : Option Addr} {l c : Nat} (hv : v = .slice a0 l c) (ht : P.underlying t = some (.slice e)) (he : P.underlying e = some (.int k)) (hc : P.cellsOf e = 1)
    (h : DataW.Trod enc P w 0 (fun _ => true) held t v d ps) (hlt : ∀ x ∈ ps, x.block < w.heap.size) :
    ∃ xs : List Int, (xs.length : Int) ≤ 9223372036854775807 ∧ ArgR w (fun b => b < w.heap.size) [] (.v (.sh e (.int k)) xs) v [] := by
  subst hv
  obtain ⟨fuel, hf⟩ := h
  rcases open_ints ht he hc hf with ⟨hcs, hx⟩ | ⟨a, len', cap', zs, hcs, _, hl, hm, hz, hx, hcell, hwz⟩
  · simp [Value.cells] at hcs
    obtain ⟨rfl, rfl, rfl⟩ := hcs
    exact ⟨[], by simp, [.slice none 0 0], rfl, rfl, none, 0, rfl, Nat.le_refl _, Nat.zero_le _, .inl rfl⟩
  · simp [Value.cells] at hcs
    obtain ⟨rfl, rfl, rfl⟩ := hcs
    simp only [Prod.mk.injEq] at hx
    obtain ⟨rfl, rfl⟩ := hx
    simp only [if_true] at hz
    have hlen : (zs.take l).length = l := by rw [List.length_take]; omega
    have hM : maxLen = 9223372036854775807 := by decide
    refine ⟨zs.take l, by omega, [.slice (some a) l c], rfl, rfl, some a, c, by rw [hlen], by rw [hlen]; exact hl, hm, ?_⟩
    rcases Nat.eq_zero_or_pos l with h0 | hp
    · exact .inl (by rw [hlen]; exact h0)
    refine .inr ⟨a, (zs.take l).map fun n => Value.int k n, rfl, ?_, rl_ints k _, fun j c' hj => ?_⟩
    · obtain ⟨b, o, sp⟩ := a
      have hsp : sp = none := by simpa [Addr.add] using World.cell?_spot (hcell 0 (by omega))
      subst hsp
      exact hlt (.cell b (o + 0)) (MemPlace.mem_row.2 ⟨0, by omega, rfl⟩)
    · rw [List.getElem?_map] at hj
      obtain ⟨z, h1, rfl⟩ := Option.map_eq_some_iff.1 hj
      have hjl : j < l := by have := (List.getElem?_eq_some_iff.1 h1).1; omega
      rw [List.getElem?_take, if_pos hjl] at h1
      rw [hcell j (by omega), List.getD_eq_getElem?_getD, h1]
      rfl
end
end Go.Am
