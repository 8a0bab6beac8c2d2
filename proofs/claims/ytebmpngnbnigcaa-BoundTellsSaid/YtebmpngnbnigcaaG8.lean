/- G8: functions as steps, printed by wip/tools/gen6.py. -/
import Derived.Test.YtebmpngnbnigcaaS1Tys
import Derived.Test.YtebmpngnbnigcaaG1
set_option linter.unusedVariables false
set_option linter.unusedSimpArgs false
set_option maxRecDepth 20000
set_option maxHeartbeats 0
namespace Go.Am
open Go.Proofs.Try
/-! ### F20 (*horarium/horariumkeep.Tape).Runs -/
noncomputable def a20 : Ann := { loops := [(0, { vars := [], sites := [7, 30], slots := [(0, .keep), (1, .keep), (7, .tree (.ow 44 (.pair I64 I64))), (8, .keep)] })], ends := [(0, { vars := [], sites := [7, 30], slots := [(7, .tree (.ow 44 (.pair I64 I64)))] })], res := [(.ow 44 (.pair I64 I64))] }
noncomputable def e20 (y : (List (Int × Int)) × ((List Int) × Int)) : List CRes × List CVar := ([.v (.ow 44 (.pair I64 I64)) y.1], [⟨26, (.pair (.sh 3 I64) I64), y.2⟩])
noncomputable def Φ20 (n : Nat) : Prog := Prog.of [E74 n]
inductive P20 where
  | F (a1 a2 : Int) (b0 : (List Int) × Int)
  | E0 (x29 : List (Int × Int)) (x30 : List Int) (x31 : Int)
  | L0 (x19 x20 : Int) (x21 : List (Int × Int)) (x22 : List Int) (x23 : Int)
noncomputable def s20 (n : Nat) (γ : Type) : P20 → (P20 → Option γ) → ((List (Int × Int)) × ((List Int) × Int) → Option γ) → Option γ
  | .F a1 a2 b0, k, r =>
    (p74 n a2 b0).bind fun cy1 =>
    k (.L0 a1 (w64 ((1 : Int) + cy1.1)) ([] : (List (Int × Int))) cy1.2.1 cy1.2.2)
  | .E0 x29 x30 x31, k, r =>
    r (x29, (x30, x31))
  | .L0 x19 x20 x21 x22 x23, k, r =>
    cond ((ltB (0 : Int) x20)) (
      (p74 n (w64 (x19 + (1 : Int))) (x22, x23)).bind fun cy24 =>
      (p74 n (4 : Int) cy24.2).bind fun cy26 =>
      if (List.length x21 + List.length [((w64 (cy24.1 - (1 : Int))), (w64 ((1 : Int) + cy26.1)))]) * 16 ≤ 140737488355328 then (
      let u28 : List (Int × Int) := (x21 ++ [((w64 (cy24.1 - (1 : Int))), (w64 ((1 : Int) + cy26.1)))])
      k (.L0 x19 (w64 (x20 - (1 : Int))) u28 cy26.2.1 cy26.2.2)) else none) (
      k (.E0 x21 x22 x23))
theorem nat20 (n : Nat) : NatS (s20 n) := fun g p k r => by
  cases p <;> simp only [s20, bind_cond, bind_ite, bind_optK, Option.bind_assoc, Option.bind_none]
theorem us20 {n m : Nat} (h : n ≤ m) : UpS (s20 n) (s20 m) := fun γ p k r => by
  cases p <;> dsimp only [s20] <;> repeat' first | with_reducible exact up_rfl | apply up_cond | apply up_ite | apply up_bind | apply up_optK | apply up74 h | intro
noncomputable def k20_0 (n : Nat)  : Ex → St → Option (List CRes × List CVar) := finK' Γ f20 a20 1
noncomputable def c20_0 : Code := partB (bodyOf f20)
noncomputable def c20_1 : Code := partB c20_0
noncomputable def c20_2 : Code := partB c20_1
noncomputable def k20_1 (n : Nat)  : Ex → St → Option (List CRes × List CVar) := seqK Γ (Φ20 n) a20 n c20_2 0 (k20_0 n)
noncomputable def c20_3 : Code := partA c20_1
noncomputable def c20_4 : Code := partB c20_3
noncomputable def c20_5 : Code := partA c20_4
noncomputable def c20_6 : Code := partA c20_5
noncomputable def k20_2 (n : Nat)  : Ex → St → Option (List CRes × List CVar) := blockK a20 0 (k20_1 n)
noncomputable def M20 (n : Nat) (u : Nat → Nat) : P20 → Option (List CRes × List CVar)
  | .F a1 a2 b0 => stepIn (fun A => codeK Γ (Φ20 n) a20 n (bodyOf f20) 0 A (k20_0 n)) (mkSt 30 31 [(0, (.ptr 30 [])), (1, (iv a1)), (2, (iv a2))] [(30, .var 26 (.pair (.sh 3 I64) I64) b0)])
  | .E0 x29 x30 x31 => stepIn ((k20_1 n) .normal) (mkSt 30 31 [(7, (.ref 7 []))] [(7, .tmp (.ow 44 (.pair I64 I64)) x29), (30, .var 26 (.pair (.sh 3 I64) I64) (x30, x31))])
  | .L0 x19 x20 x21 x22 x23 => stepIn (fun A => loopK Γ (Φ20 n) a20 n c20_6 0 (u 0) A (k20_2 n)) (mkSt 30 31 [(0, (.ptr 30 [])), (1, (iv x19)), (7, (.ref 7 [])), (8, (iv x20))] [(7, .tmp (.ow 44 (.pair I64 I64)) x21), (30, .var 26 (.pair (.sh 3 I64) I64) (x22, x23))])
theorem h20 (n : Nat) (u : Nat → Nat) : ∀ p, (∀ i, 1 ≤ u i) → Ok1 (s20 n) e20 n (M20 n) u p
  | .F a1 a2 b0, _ => pl [] (at_code rfl ((codeK_seq (by kernel_rfl)).trans (by kernel_rfl)))
  | .E0 x29 x30 x31, _ => pl [] (by kernel_rfl)
  | .L0 x19 x20 x21 x22 x23, hu => hd 0 [0] hu fun m hm => (loopK_at hm).trans ((codeK_seq (by kernel_rfl)).trans ((codeK_seq (by kernel_rfl)).trans (by kernel_rfl)))
noncomputable def p20 (n : Nat) (a1 a2 : Int) (b0 : (List Int) × Int) : Option ((List (Int × Int)) × ((List Int) × Int)) := flow (s20 n) n (.F a1 a2 b0)
theorem up20 {n m : Nat} (h : n ≤ m) (a1 a2 : Int) (b0 : (List Int) × Int) : Up (p20 n a1 a2 b0) (p20 m a1 a2 b0) := flow_up (nat20 n) (us20 h) h _
noncomputable def E20 (n : Nat) : Entry := mkE 20 .move [.point, .tree I64, .tree I64] [(26, (.pair (.sh 3 I64) I64))] (fun a b => p20 n a.1 a.2.1 b.1) e20
theorem ok20 (n : Nat) : EntryOk prog (E20 n) := mkE_ok (Φ := Φ20 n) (ann := a20) (n := n) (F := f20) (by kernel_rfl) (by kernel_rfl) (by kernel_rfl) (known_prog (known_cons (ok74 n) known_nil)) mixed fun a b y h =>
  (show _ = M20 n (fun _ => n) (.F a.1 a.2.1 b.1) by kernel_rfl).trans (flow_sound (nat20 n) (h20 n) n _ _ y (Nat.le_refl _) (fun _ => Nat.le_refl _) h)
end Go.Am
