/- CursorNumbers: the closed sentence of chapter 4 gives true. -/
import Derived.Test.YtebmpngnbnigcaaCNT
import Derived.Test.YtebmpngnbnigcaaMD
set_option linter.unusedVariables false
set_option linter.unusedSimpArgs false
namespace Go.Am
theorem cn_a : p32 1000000 [((3 : Int), ((0 : Int), (1 : Int)))] [] = some true := by kernel_rfl
theorem cn_b : p33 1000000 [((1 : Int), ((3 : Int), (2 : Int)))] 2 = some (-1) := by kernel_rfl
theorem cn_c : p33 1000000 [((1 : Int), ((3 : Int), (2 : Int)))] (-1) = some (-1) := by kernel_rfl
theorem cn_end : EvG s5 .E0 true := by
  refine EvG.of ((Ev.run (fun h => up32 h _ _) cn_a).and ((Ev.run (fun h => up33 h _ _) cn_b).and (Ev.run (fun h => up33 h _ _) cn_c))) fun n g hn => ?_
  simp only [flow_succ, s5]
  rw [hn.1, Option.bind_some, cond_true, hn.2.1, Option.bind_some, hn.2.2, Option.bind_some, eqB_t rfl]; rfl
theorem cn_ev : Ev fun n => p5 n = some true :=
  EvG.ev (EvL.gives (EvL.one fun n g => rfl) (EvL.gives cn_tapes (EvL.gives (EvL.one fun n g => rfl) cn_end)))
end Go.Am
