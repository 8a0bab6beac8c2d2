/- BoundNumbers: the closed sentence of law 9 gives true. -/
import Derived.Test.YtebmpngnbnigcaaBnRef
import Derived.Test.YtebmpngnbnigcaaVA0
import Derived.Test.YtebmpngnbnigcaaVA1
import Derived.Test.YtebmpngnbnigcaaVA2
import Derived.Test.YtebmpngnbnigcaaVA3
import Derived.Test.YtebmpngnbnigcaaVA4
import Derived.Test.YtebmpngnbnigcaaVA5
import Derived.Test.YtebmpngnbnigcaaVA6
import Derived.Test.YtebmpngnbnigcaaVA7
set_option linter.unusedSimpArgs false
set_option linter.unusedVariables false
namespace Go.Am
open Fr
theorem tapes9 : EvL s3 (.L0 0) (.L0 40) :=
  (EvL.run nat3 us3 st0).trans <|
  (EvL.run nat3 us3 st1).trans <|
  (EvL.run nat3 us3 st2).trans <|
  (EvL.run nat3 us3 st3).trans <|
  (EvL.run nat3 us3 st4).trans <|
  (EvL.run nat3 us3 st5).trans <|
  (EvL.run nat3 us3 st6).trans <|
  (EvL.run nat3 us3 st7).trans <|
  (EvL.run nat3 us3 st8).trans <|
  (EvL.run nat3 us3 st9).trans <|
  (EvL.run nat3 us3 st10).trans <|
  (EvL.run nat3 us3 st11).trans <|
  (EvL.run nat3 us3 st12).trans <|
  (EvL.run nat3 us3 st13).trans <|
  (EvL.run nat3 us3 st14).trans <|
  (EvL.run nat3 us3 st15).trans <|
  (EvL.run nat3 us3 st16).trans <|
  (EvL.run nat3 us3 st17).trans <|
  (EvL.run nat3 us3 st18).trans <|
  (EvL.run nat3 us3 st19).trans <|
  (EvL.run nat3 us3 st20).trans <|
  (EvL.run nat3 us3 st21).trans <|
  (EvL.run nat3 us3 st22).trans <|
  (EvL.run nat3 us3 st23).trans <|
  (EvL.run nat3 us3 st24).trans <|
  (EvL.run nat3 us3 st25).trans <|
  (EvL.run nat3 us3 st26).trans <|
  (EvL.run nat3 us3 st27).trans <|
  (EvL.run nat3 us3 st28).trans <|
  (EvL.run nat3 us3 st29).trans <|
  (EvL.run nat3 us3 st30).trans <|
  (EvL.run nat3 us3 st31).trans <|
  (EvL.run nat3 us3 st32).trans <|
  (EvL.run nat3 us3 st33).trans <|
  (EvL.run nat3 us3 st34).trans <|
  (EvL.run nat3 us3 st35).trans <|
  (EvL.run nat3 us3 st36).trans <|
  (EvL.run nat3 us3 st37).trans <|
  (EvL.run nat3 us3 st38).trans <|
  (EvL.run nat3 us3 st39)
theorem end9 : EvG s3 .E0 true := by
  refine EvG.of ((same_ev (l := []) 0 0 (d := 1) (by simp [Ok]) (by simp [total]) (by omega)).and (same_ev (l := [(1, 4096)]) 1 1 (d := 64) (by simp [Ok]) (by simp [total]) (by omega))) fun n g hn => ?_
  simp only [flow_succ, s3]
  rw [hn.1, Option.bind_some, cond_true, hn.2]; rfl
theorem bn_ev : Ev fun n => p3 n = some true :=
  EvG.ev (EvL.gives (EvL.one fun n g => rfl) (EvL.gives tapes9 (EvL.gives (EvL.one fun n g => rfl) end9)))
/-- A function of nothing that gives true. -/
theorem closed_walk {P : Program} {f : FuncId} {mode : Mode} {fn : ATy [] → VTy [] → Option Bool} {enc : Bool → List CRes × List CVar} (ok : EntryOk P (mkE f mode [] [] fn enc)) (h : fn () () = some true) (he : enc true = ([.v .bool true], [])) (w : World) :
    Calls P f #[] w fun e w' => e = .returned (.bool true) ∧ Goes w w' ∧ ∀ b, b < w.heap.size → w'.heap[b]? = w.heap[b]? := by
  have hr : (mkE f mode [] [] fn enc).run (β := List CRes × List CVar) [] [] some = some ([.v .bool true], []) := by
    show (fn () ()).bind _ = _
    rw [h, Option.bind_some, he]
  refine Calls.mono (ok.2 [] [] [.v .bool true] [] hr w (fun _ => False) [] [] [] [] (fun b hb => hb.elim) (by simp [ArgsR]) (by simp [VarsR]) (by simp) (by simp)) ?_
  rintro e w' ⟨v, Fr, Fv', rfl, hgo, hsame, _, _, hres, _⟩
  simp only [ResV, CResR] at hres
  obtain ⟨cs, rfl, hr⟩ := hres
  obtain ⟨rfl, _⟩ := hr
  exact ⟨rfl, hgo, fun b hb => hsame b hb (by simp)⟩
end Go.Am
