/- BoundTells: it gives true whatever the input; its arguments read as they did. -/
import Derived.Test.YtebmpngnbnigcaaBtLaw
import Derived.Test.YtebmpngnbnigcaaLawArgs
import Derived.Test.YtebmpngnbnigcaaRows
import Derived.WalkKit
import Derived.ProofKit
import Derived.OpenShut
import Derived.ChangeOld
import Derived.Below
namespace Go.Proofs.Ytebmpngnbnigcaa.boundTells
open Go.ChangeShapes Go.WideShapes Go.ChangeAt Go.RowKit Go.Am
set_option linter.unusedVariables false

theorem trodAll_six {H : Type} {enc : TypeId × Value → H} {P : Program} {w : World} {base : Nat} {spare : Nat → Bool} {held : Bool} {t0 t1 t2 t3 t4 t5 : TypeId} {args : Array Value} {ds : List (DataW H)} {ps : List MemPlace} (h : DataW.TrodAll enc P w base spare held [t0, t1, t2, t3, t4, t5] args.toList ds ps) :
    ∃ v0 v1 v2 v3 v4 v5 d0 d1 d2 d3 d4 d5 p0 p1 p2 p3 p4 p5, args = #[v0, v1, v2, v3, v4, v5] ∧ ds = [d0, d1, d2, d3, d4, d5] ∧ ps = p0 ++ (p1 ++ (p2 ++ (p3 ++ (p4 ++ p5)))) ∧ DataW.Trod enc P w base spare held t0 v0 d0 p0 ∧ DataW.Trod enc P w base spare held t1 v1 d1 p1 ∧ DataW.Trod enc P w base spare held t2 v2 d2 p2 ∧ DataW.Trod enc P w base spare held t3 v3 d3 p3 ∧ DataW.Trod enc P w base spare held t4 v4 d4 p4 ∧ DataW.Trod enc P w base spare held t5 v5 d5 p5 := by
  obtain ⟨v0, vs, d0, ds', p0, q, hargs, rfl, rfl, h0, hr⟩ := trodAll_cons h
  obtain ⟨v1, vs, d1, ds', p1, q, rfl, rfl, rfl, h1, hr⟩ := trodAll_cons hr
  obtain ⟨v2, vs, d2, ds', p2, q, rfl, rfl, rfl, h2, hr⟩ := trodAll_cons hr
  obtain ⟨v3, vs, d3, ds', p3, q, rfl, rfl, rfl, h3, hr⟩ := trodAll_cons hr
  obtain ⟨v4, vs, d4, ds', p4, q, rfl, rfl, rfl, h4, hr⟩ := trodAll_cons hr
  obtain ⟨v5, vs, d5, ds', p5, q, rfl, rfl, rfl, h5, hr⟩ := trodAll_cons hr
  obtain ⟨rfl, rfl, rfl⟩ := trodAll_nil hr
  exact ⟨v0, v1, v2, v3, v4, v5, d0, d1, d2, d3, d4, d5, p0, p1, p2, p3, p4, p5, by cases args; simp_all, rfl, by simp, h0, h1, h2, h3, h4, h5⟩
theorem trodAll_mk6 {H : Type} {enc : TypeId × Value → H} {P : Program} {w : World} {base : Nat} {spare : Nat → Bool} {held : Bool} {t0 t1 t2 t3 t4 t5 : TypeId} {v0 v1 v2 v3 v4 v5 : Value} {d0 d1 d2 d3 d4 d5 : DataW H} {p0 p1 p2 p3 p4 p5 : List MemPlace} (h0 : DataW.Trod enc P w base spare held t0 v0 d0 p0) (h1 : DataW.Trod enc P w base spare held t1 v1 d1 p1) (h2 : DataW.Trod enc P w base spare held t2 v2 d2 p2) (h3 : DataW.Trod enc P w base spare held t3 v3 d3 p3) (h4 : DataW.Trod enc P w base spare held t4 v4 d4 p4) (h5 : DataW.Trod enc P w base spare held t5 v5 d5 p5) :
    DataW.TrodAll enc P w base spare held [t0, t1, t2, t3, t4, t5] [v0, v1, v2, v3, v4, v5] [d0, d1, d2, d3, d4, d5] (p0 ++ (p1 ++ (p2 ++ (p3 ++ (p4 ++ p5))))) :=
  ⟨p0, _, h0, ⟨p1, _, h1, trodAll_mk4 h2 h3 h4 h5, rfl⟩, rfl⟩
theorem own : ownKnob Try.prog.godebug = none := by kernel_rfl
theorem laidOut : laidOutB Try.prog = true := by kernel_rfl
theorem cells3 : Try.prog.cellsOf 3 = 1 := by kernel_rfl

theorem walk (xs : List Int) (hx : (xs.length : Int) ≤ 9223372036854775807) (n1 n2 n3 n4 n5 : Int) (w : World) (vals : List Value) (ha : ArgsR w (fun b => b < w.heap.size) [] [.v (.sh 3 I64) xs, .v I64 n1, .v I64 n2, .v I64 n3, .v I64 n4, .v I64 n5] vals []) :
    Calls Try.prog 4 vals.toArray w fun e w' => e = .returned (.bool true) ∧ Below w.heap.size w w' := by
  obtain ⟨n, hn⟩ := (Go.Am.Tab.tells_ev xs hx n1 n2 n3 n4 n5).ex
  refine Calls.mono (args_walk (Go.Am.ok4 n) [.v (.sh 3 I64) xs, .v I64 n1, .v I64 n2, .v I64 n3, .v I64 n4, .v I64 n5] ?_ w vals ha) fun e w' ⟨he, hgo, hsame⟩ => ⟨he, ⟨hgo.os, hgo.tape, hgo.output, hgo.size, hsame⟩⟩
  show (p4 n xs n1 n2 n3 n4 n5).bind _ = _
  rw [hn, Option.bind_some]; rfl

set_option maxRecDepth 100000 in
theorem lifted (os : Os) (started : os.Started) (H : Type) (enc : TypeId × Value → H) :
    ReturnsInHanded {} Try.checked os 4 .any (Rows.boundTellsSpec.pre6 enc Try.prog Try.f4 Rows.boundTellsRow.domain false) (Rows.boundTellsSpec.post enc Try.prog Try.f4 false true false false) := by
  refine returnsInHanded_of_change (C := Try.checked) own started (by kernel_rfl) Try.func4
    (ChangeSpec.witness6 (enc := enc) (C := Try.checked) false ⟨#[], #[.slice none 0 0, .int .i64 0, .int .i64 0, .int .i64 0, .int .i64 0, .int .i64 0], []⟩ 8 (by kernel_rfl) (by kernel_rfl) (by kernel_rfl) (by kernel_rfl)) ?_
  intro W base args ds gs before hval0 hW hcnd _
  have hval : ∀ (j : Nat) t v, Try.f4.params[j]? = some t → args[j]? = some v → Value.okWide Try.prog W .any base t v := hval0
  have hW' := hW
  obtain ⟨p, q, hA0, hV, rfl, hfz, hnd⟩ := hW
  have hA : DataW.TrodAll enc Try.prog W 0 (fun _ => true) true Try.f4.params.toList args.toList ds p := hA0
  rw [Try.params4] at hA hval
  obtain ⟨v0, v1, v2, v3, v4, v5, d0, d1, d2, d3, d4, d5, p0, p1, p2, p3, p4, p5, rfl, rfl, rfl, h0, h1, h2, h3, h4, h5⟩ := trodAll_six hA
  obtain ⟨rfl, rfl⟩ := trodVars_none hV
  clear hA0 hval0
  simp only [List.append_nil] at hW'
  obtain ⟨n1, rfl, rfl, rfl, w1⟩ := open_int Try.underlying3 (hval 1 3 v1 rfl rfl) h1
  obtain ⟨n2, rfl, rfl, rfl, w2⟩ := open_int Try.underlying3 (hval 2 3 v2 rfl rfl) h2
  obtain ⟨n3, rfl, rfl, rfl, w3⟩ := open_int Try.underlying2 (hval 3 2 v3 rfl rfl) h3
  obtain ⟨n4, rfl, rfl, rfl, w4⟩ := open_int Try.underlying2 (hval 4 2 v4 rfl rfl) h4
  obtain ⟨n5, rfl, rfl, rfl, w5⟩ := open_int Try.underlying2 (hval 5 2 v5 rfl rfl) h5
  simp only [List.append_nil] at hW'
  have hlt : ∀ x ∈ p0, x.block < W.heap.size := fun x hx => by simpa using hW'.lt x hx
  obtain ⟨a0, len, cap, hv0⟩ := okWide_slice Try.underlying23 (hval 0 23 v0 rfl rfl)
  obtain ⟨xs, hx, hxs⟩ := arg_ints hv0 Try.underlying23 Try.underlying3 cells3 h0 hlt
  refine (walk xs hx n1 n2 n3 n4 n5 W [v0, .int .i64 n1, .int .i64 n2, .int .i64 n3, .int .i64 n4, .int .i64 n5] (argsR_cons hxs (argsR_cons (arg_int _ _) (argsR_cons (arg_int _ _) (argsR_cons (arg_int _ _) (argsR_cons (arg_int _ _) (argsR_cons (arg_int _ _) argsR_nil))))))).mono fun e W' ⟨he, bel⟩ => ?_
  subst he
  exact ⟨_, rfl, _, _, _, [], _, [], hW', trodAll_mk1 (shut_bool Try.underlying4 _), trodAll_mk6 (Below.trod laidOut (by kernel_rfl) (of_decide_eq_true (by kernel_rfl)) h0 bel hlt) (shut_int Try.underlying3 w1) (shut_int Try.underlying3 w2) (shut_int Try.underlying2 w3) (shut_int Try.underlying2 w4) (shut_int Try.underlying2 w5), rfl, bel.frame _, fun h => by cases h⟩

theorem over : Rows.boundTellsRow.holds Try.pinned (OpenSpec.ofChange Rows.boundTellsSpec) :=
  OpenClaim.holds_of_wide 4 Try.f4 rfl rfl rfl rfl rfl rfl rfl ⟨rfl, rfl, rfl, rfl, rfl⟩ rfl rfl rfl rfl rfl (by kernel_rfl) Try.func4 (by kernel_rfl)
    (of_decide_eq_true (by kernel_rfl)) (by unfold Func.isWrapper; first | (rw [if_pos (by decide +kernel)]; kernel_rfl) | (rw [if_neg (by decide +kernel)]; exact ⟨rfl, rfl⟩))
    (fun os started H enc _ => lifted os started H enc)

theorem proved : Rows.BoundTellsSaid := over
#print axioms proved
end Go.Proofs.Ytebmpngnbnigcaa.boundTells
