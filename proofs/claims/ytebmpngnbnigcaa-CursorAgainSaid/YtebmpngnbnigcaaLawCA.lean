/- CursorAgain: it gives true whatever the input; its arguments read as they did. -/
import Derived.Test.YtebmpngnbnigcaaCurLaw
import Derived.Test.YtebmpngnbnigcaaLawArgs
import Derived.Test.YtebmpngnbnigcaaRows
import Derived.WalkKit
import Derived.ProofKit
import Derived.OpenShut
import Derived.ChangeOld
import Derived.Below
namespace Go.Proofs.Ytebmpngnbnigcaa.cursorAgain
open Go.ChangeShapes Go.WideShapes Go.ChangeAt Go.RowKit Go.Am
set_option linter.unusedVariables false

theorem own : ownKnob Try.prog.godebug = none := by kernel_rfl
theorem laidOut : laidOutB Try.prog = true := by kernel_rfl
theorem cells3 : Try.prog.cellsOf 3 = 1 := by kernel_rfl

theorem walk (xs : List Int) (hx : (xs.length : Int) ≤ 9223372036854775807) (n1 n2 : Int) (w : World) (vals : List Value) (ha : ArgsR w (fun b => b < w.heap.size) [] [.v (.sh 3 I64) xs, .v I64 n1, .v I64 n2] vals []) :
    Calls Try.prog 7 vals.toArray w fun e w' => e = .returned (.bool true) ∧ Below w.heap.size w w' := by
  obtain ⟨n, hn⟩ := (Go.Am.Tab.again_ev xs hx n1 n2).ex
  refine Calls.mono (args_walk (Go.Am.ok7 n) [.v (.sh 3 I64) xs, .v I64 n1, .v I64 n2] ?_ w vals ha) fun e w' ⟨he, hgo, hsame⟩ => ⟨he, ⟨hgo.os, hgo.tape, hgo.output, hgo.size, hsame⟩⟩
  show (p7 n xs n1 n2).bind _ = _
  rw [hn, Option.bind_some]; rfl

set_option maxRecDepth 100000 in
theorem lifted (os : Os) (started : os.Started) (H : Type) (enc : TypeId × Value → H) :
    ReturnsInHanded {} Try.checked os 7 .any (Rows.cursorAgainSpec.pre6 enc Try.prog Try.f7 Rows.cursorAgainRow.domain false) (Rows.cursorAgainSpec.post enc Try.prog Try.f7 false true false false) := by
  refine returnsInHanded_of_change (C := Try.checked) own started (by kernel_rfl) Try.func7
    (ChangeSpec.witness6 (enc := enc) (C := Try.checked) false ⟨#[], #[.slice none 0 0, .int .i64 0, .int .i64 0], []⟩ 8 (by kernel_rfl) (by kernel_rfl) (by kernel_rfl) (by kernel_rfl)) ?_
  intro W base args ds gs before hval0 hW hcnd _
  have hval : ∀ (j : Nat) t v, Try.f7.params[j]? = some t → args[j]? = some v → Value.okWide Try.prog W .any base t v := hval0
  have hW' := hW
  obtain ⟨p, q, hA0, hV, rfl, hfz, hnd⟩ := hW
  have hA : DataW.TrodAll enc Try.prog W 0 (fun _ => true) true Try.f7.params.toList args.toList ds p := hA0
  rw [Try.params7] at hA hval
  obtain ⟨v0, v1, v2, d0, d1, d2, p0, p1, p2, rfl, rfl, rfl, h0, h1, h2⟩ := trodAll_three hA
  obtain ⟨rfl, rfl⟩ := trodVars_none hV
  clear hA0 hval0
  simp only [List.append_nil] at hW'
  obtain ⟨n1, rfl, rfl, rfl, w1⟩ := open_int Try.underlying3 (hval 1 3 v1 rfl rfl) h1
  obtain ⟨n2, rfl, rfl, rfl, w2⟩ := open_int Try.underlying3 (hval 2 3 v2 rfl rfl) h2
  simp only [List.append_nil] at hW'
  have hlt : ∀ x ∈ p0, x.block < W.heap.size := fun x hx => by simpa using hW'.lt x hx
  obtain ⟨a0, len, cap, hv0⟩ := okWide_slice Try.underlying23 (hval 0 23 v0 rfl rfl)
  obtain ⟨xs, hx, hxs⟩ := arg_ints hv0 Try.underlying23 Try.underlying3 cells3 h0 hlt
  refine (walk xs hx n1 n2 W [v0, .int .i64 n1, .int .i64 n2] (argsR_cons hxs (argsR_cons (arg_int _ _) (argsR_cons (arg_int _ _) argsR_nil)))).mono fun e W' ⟨he, bel⟩ => ?_
  subst he
  exact ⟨_, rfl, _, _, _, [], _, [], hW', trodAll_mk1 (shut_bool Try.underlying4 _), trodAll_mk3 (Below.trod laidOut (by kernel_rfl) (of_decide_eq_true (by kernel_rfl)) h0 bel hlt) (shut_int Try.underlying3 w1) (shut_int Try.underlying3 w2), rfl, bel.frame _, fun h => by cases h⟩

theorem over : Rows.cursorAgainRow.holds Try.pinned (OpenSpec.ofChange Rows.cursorAgainSpec) :=
  OpenClaim.holds_of_wide 7 Try.f7 rfl rfl rfl rfl rfl rfl rfl ⟨rfl, rfl, rfl, rfl, rfl⟩ rfl rfl rfl rfl rfl (by kernel_rfl) Try.func7 (by kernel_rfl)
    (of_decide_eq_true (by kernel_rfl)) (by unfold Func.isWrapper; first | (rw [if_pos (by decide +kernel)]; kernel_rfl) | (rw [if_neg (by decide +kernel)]; exact ⟨rfl, rfl⟩))
    (fun os started H enc _ => lifted os started H enc)

theorem proved : Rows.CursorAgainSaid := over
#print axioms proved
end Go.Proofs.Ytebmpngnbnigcaa.cursorAgain
