/- CursorTicks: it gives true whatever the input; its arguments read as they did. -/
import Derived.Test.YtebmpngnbnigcaaCurLaw
import Derived.Test.YtebmpngnbnigcaaLawArgs
import Derived.Test.YtebmpngnbnigcaaRows
import Derived.WalkKit
import Derived.ProofKit
import Derived.OpenShut
import Derived.ChangeOld
import Derived.Below
namespace Go.Proofs.Ytebmpngnbnigcaa.cursorTicks
open Go.ChangeShapes Go.WideShapes Go.ChangeAt Go.RowKit Go.Am
set_option linter.unusedVariables false

theorem own : ownKnob Try.prog.godebug = none := by kernel_rfl
theorem laidOut : laidOutB Try.prog = true := by kernel_rfl
theorem cells3 : Try.prog.cellsOf 3 = 1 := by kernel_rfl

theorem walk (xs : List Int) (hx : (xs.length : Int) ≤ 9223372036854775807) (n1 : Int) (w : World) (vals : List Value) (ha : ArgsR w (fun b => b < w.heap.size) [] [.v (.sh 3 I64) xs, .v I64 n1] vals []) :
    Calls Try.prog 8 vals.toArray w fun e w' => e = .returned (.bool true) ∧ Below w.heap.size w w' := by
  obtain ⟨n, hn⟩ := (Go.Am.Tab.ticks_ev xs hx n1).ex
  refine Calls.mono (args_walk (Go.Am.ok8 n) [.v (.sh 3 I64) xs, .v I64 n1] ?_ w vals ha) fun e w' ⟨he, hgo, hsame⟩ => ⟨he, ⟨hgo.os, hgo.tape, hgo.output, hgo.size, hsame⟩⟩
  show (p8 n xs n1).bind _ = _
  rw [hn, Option.bind_some]; rfl

set_option maxRecDepth 100000 in
theorem lifted (os : Os) (started : os.Started) (H : Type) (enc : TypeId × Value → H) :
    ReturnsInHanded {} Try.checked os 8 .any (Rows.cursorTicksSpec.pre6 enc Try.prog Try.f8 Rows.cursorTicksRow.domain false) (Rows.cursorTicksSpec.post enc Try.prog Try.f8 false true false false) := by
  refine returnsInHanded_of_change (C := Try.checked) own started (by kernel_rfl) Try.func8
    (ChangeSpec.witness6 (enc := enc) (C := Try.checked) false ⟨#[], #[.slice none 0 0, .int .i64 0], []⟩ 8 (by kernel_rfl) (by kernel_rfl) (by kernel_rfl) (by kernel_rfl)) ?_
  intro W base args ds gs before hval0 hW hcnd _
  have hval : ∀ (j : Nat) t v, Try.f8.params[j]? = some t → args[j]? = some v → Value.okWide Try.prog W .any base t v := hval0
  have hW' := hW
  obtain ⟨p, q, hA0, hV, rfl, hfz, hnd⟩ := hW
  have hA : DataW.TrodAll enc Try.prog W 0 (fun _ => true) true Try.f8.params.toList args.toList ds p := hA0
  rw [Try.params8] at hA hval
  obtain ⟨v0, v1, d0, d1, p0, p1, rfl, rfl, rfl, h0, h1⟩ := trodAll_two hA
  obtain ⟨rfl, rfl⟩ := trodVars_none hV
  clear hA0 hval0
  simp only [List.append_nil] at hW'
  obtain ⟨n1, rfl, rfl, rfl, w1⟩ := open_int Try.underlying3 (hval 1 3 v1 rfl rfl) h1
  simp only [List.append_nil] at hW'
  have hlt : ∀ x ∈ p0, x.block < W.heap.size := fun x hx => by simpa using hW'.lt x hx
  obtain ⟨a0, len, cap, hv0⟩ := okWide_slice Try.underlying23 (hval 0 23 v0 rfl rfl)
  obtain ⟨xs, hx, hxs⟩ := arg_ints hv0 Try.underlying23 Try.underlying3 cells3 h0 hlt
  refine (walk xs hx n1 W [v0, .int .i64 n1] (argsR_cons hxs (argsR_cons (arg_int _ _) argsR_nil))).mono fun e W' ⟨he, bel⟩ => ?_
  subst he
  exact ⟨_, rfl, _, _, _, [], _, [], hW', trodAll_mk1 (shut_bool Try.underlying4 _), trodAll_mk2 (Below.trod laidOut (by kernel_rfl) (of_decide_eq_true (by kernel_rfl)) h0 bel hlt) (shut_int Try.underlying3 w1), rfl, bel.frame _, fun h => by cases h⟩

theorem over : Rows.cursorTicksRow.holds Try.pinned (OpenSpec.ofChange Rows.cursorTicksSpec) :=
  OpenClaim.holds_of_wide 8 Try.f8 rfl rfl rfl rfl rfl rfl rfl ⟨rfl, rfl, rfl, rfl, rfl⟩ rfl rfl rfl rfl rfl (by kernel_rfl) Try.func8 (by kernel_rfl)
    (of_decide_eq_true (by kernel_rfl)) (by unfold Func.isWrapper; first | (rw [if_pos (by decide +kernel)]; kernel_rfl) | (rw [if_neg (by decide +kernel)]; exact ⟨rfl, rfl⟩))
    (fun os started H enc _ => lifted os started H enc)

theorem proved : Rows.CursorTicksSaid := over
#print axioms proved
end Go.Proofs.Ytebmpngnbnigcaa.cursorTicks
