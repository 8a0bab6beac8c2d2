/- G23: functions as steps, printed by wip/tools/gen6.py. -/
import Derived.Test.YtebmpngnbnigcaaS1Tys
import Derived.Test.YtebmpngnbnigcaaG1
import Derived.Test.YtebmpngnbnigcaaG5
import Derived.Test.YtebmpngnbnigcaaG11
set_option linter.unusedVariables false
set_option linter.unusedSimpArgs false
set_option maxRecDepth 20000
set_option maxHeartbeats 0
namespace Go.Am
open Go.Proofs.Try
/-! ### F8 horarium/horariumlaw4.CursorTicks -/
noncomputable def a8 : Ann := { loops := [(0, { vars := [], sites := [5, 19], slots := [(5, .tree TyO38), (6, .keep), (7, .keep), (8, .keep), (9, .keep)] })], ends := [(0, { vars := [], sites := [5], slots := [(5, .tree TyO38), (7, .keep), (8, .keep)] })], acts := [((1, 1), (.pair (.sh 3 I64) I64))], res := [.bool] }
noncomputable def e8 (y : Bool) : List CRes × List CVar := ([.v .bool y], [])
noncomputable def Φ8 (n : Nat) : Prog := Prog.of [E31 n, E33 n, E34 n, E35 n, E36 n, E37 n, E40 n, E41 n, E44 n]
inductive P8 where
  | F (a0 : List Int) (a1 : Int)
  | E0 (x47 : Int) (x48 : Bool) (x49 : List (Int × (Int × Int)))
  | L0 (x32 : Int) (x33 : Bool) (x34 : Int) (x35 x36 : List (Int × (Int × Int))) (x37 : List (Int × Int)) (x38 x39 x40 : Int)
noncomputable def s8 (n : Nat) (γ : Type) : P8 → (P8 → Option γ) → (Bool → Option γ) → Option γ
  | .F a0 a1, k, r =>
    (p35 n a1 (0 : Int) (4 : Int)).bind fun y1 =>
    (p31 n (4 : Int) y1 (a0, (0 : Int))).bind fun cy2 =>
    (p40 n cy2.1).bind fun oy4 => optK oy4 (
      (p36 n cy2.1).bind fun cy5 =>
      (p37 n cy2.1).bind fun y7 =>
      cond ((!eqB y7 (0 : Int))) (
        (p34 n).bind fun y8 =>
        r y8) (
        r false)) (fun y4 =>
      (p36 n cy2.1).bind fun cy9 =>
      k (.L0 cy9.1 cy9.2 (0 : Int) cy2.1 y4.1 y4.2.1 y4.2.2.1 y4.2.2.2.1 y4.2.2.2.2))
  | .E0 x47 x48 x49, k, r =>
    cond (x48) (
      (p33 n x49 x47).bind fun y50 =>
      cond ((eqB y50 (-1 : Int))) (
        (p33 n x49 (-1 : Int)).bind fun y51 =>
        cond ((eqB y51 (-1 : Int))) (
          (p34 n).bind fun y52 =>
          r y52) (
          r false)) (
        r false)) (
      r false)
  | .L0 x32 x33 x34 x35 x36 x37 x38 x39 x40, k, r =>
    cond ((ltB x34 x32)) (
      cond ((ltB x34 (200 : Int))) (
        (p41 n (x36, (x37, (x38, (x39, x40))))).bind fun cy41 =>
        cond ((!cy41.2.1)) (
          r false) (
          (p33 n x35 x34).bind fun y44 =>
          cond ((!eqB cy41.1 y44)) (
            r false) (
            (p44 n cy41.2.2).bind fun cy45 =>
            cond ((!eqB cy45.1 (w64 (x34 + (1 : Int))))) (
              r false) (
              k (.L0 x32 x33 (w64 (x34 + (1 : Int))) x35 cy45.2.1 cy45.2.2.1 cy45.2.2.2.1 cy45.2.2.2.2.1 cy45.2.2.2.2.2))))) (
        k (.E0 x32 x33 x35))) (
      k (.E0 x32 x33 x35))
theorem nat8 (n : Nat) : NatS (s8 n) := fun g p k r => by
  cases p <;> simp only [s8, bind_cond, bind_ite, bind_optK, Option.bind_assoc, Option.bind_none]
theorem us8 {n m : Nat} (h : n ≤ m) : UpS (s8 n) (s8 m) := fun γ p k r => by
  cases p <;> dsimp only [s8] <;> repeat' first | with_reducible exact up_rfl | apply up_cond | apply up_ite | apply up_bind | apply up_optK | apply up31 h | apply up33 h | apply up34 h | apply up35 h | apply up36 h | apply up37 h | apply up40 h | apply up41 h | apply up44 h | intro
noncomputable def k8_0 (n : Nat)  : Ex → St → Option (List CRes × List CVar) := finK' Γ f8 a8 0
noncomputable def c8_0 : Code := partB (bodyOf f8)
noncomputable def c8_1 : Code := partB c8_0
noncomputable def c8_2 : Code := partB c8_1
noncomputable def c8_3 : Code := partB c8_2
noncomputable def c8_4 : Code := partB c8_3
noncomputable def c8_5 : Code := partB c8_4
noncomputable def k8_1 (n : Nat)  : Ex → St → Option (List CRes × List CVar) := seqK Γ (Φ8 n) a8 n c8_5 0 (k8_0 n)
noncomputable def c8_6 : Code := partA c8_4
noncomputable def c8_7 : Code := partB c8_6
noncomputable def c8_8 : Code := partA c8_7
noncomputable def c8_9 : Code := partA c8_8
noncomputable def k8_2 (n : Nat)  : Ex → St → Option (List CRes × List CVar) := blockK a8 0 (k8_1 n)
noncomputable def M8 (n : Nat) (u : Nat → Nat) : P8 → Option (List CRes × List CVar)
  | .F a0 a1 => stepIn (fun A => codeK Γ (Φ8 n) a8 n (bodyOf f8) 0 A (k8_0 n)) (mkSt 78 78 [(0, (.val (.sh 3 I64) a0)), (1, (iv a1))] [])
  | .E0 x47 x48 x49 => stepIn ((k8_1 n) .normal) (mkSt 78 78 [(5, (.ref 5 [])), (7, (iv x47)), (8, (.val .bool x48))] [(5, .tmp TyO38 x49)])
  | .L0 x32 x33 x34 x35 x36 x37 x38 x39 x40 => stepIn (fun A => loopK Γ (Φ8 n) a8 n c8_9 0 (u 0) A (k8_2 n)) (mkSt 78 78 [(5, (.ref 5 [])), (6, (.ptr 19 [])), (7, (iv x32)), (8, (.val .bool x33)), (9, (iv x34))] [(5, .tmp TyO38 x35), (19, .var 124 TyO123 (x36, (x37, (x38, (x39, x40)))))])
theorem h8 (n : Nat) (u : Nat → Nat) : ∀ p, (∀ i, 1 ≤ u i) → Ok1 (s8 n) e8 n (M8 n) u p
  | .F a0 a1, _ => pl [] (at_code rfl ((codeK_seq (by kernel_rfl)).trans (by kernel_rfl)))
  | .E0 x47 x48 x49, _ => pl [] (by kernel_rfl)
  | .L0 x32 x33 x34 x35 x36 x37 x38 x39 x40, hu => hd 0 [0] hu fun m hm => (loopK_at hm).trans ((codeK_seq (by kernel_rfl)).trans ((codeK_seq (by kernel_rfl)).trans (by kernel_rfl)))
noncomputable def p8 (n : Nat) (a0 : List Int) (a1 : Int) : Option (Bool) := flow (s8 n) n (.F a0 a1)
theorem up8 {n m : Nat} (h : n ≤ m) (a0 : List Int) (a1 : Int) : Up (p8 n a0 a1) (p8 m a0 a1) := flow_up (nat8 n) (us8 h) h _
noncomputable def E8 (n : Nat) : Entry := mkE 8 .flat [.tree (.sh 3 I64), .tree I64] [] (fun a b => p8 n a.1 a.2.1) e8
theorem ok8 (n : Nat) : EntryOk prog (E8 n) := mkE_ok (Φ := Φ8 n) (ann := a8) (n := n) (F := f8) (by kernel_rfl) (by kernel_rfl) (by kernel_rfl) (known_prog (known_cons (ok31 n) (known_cons (ok33 n) (known_cons (ok34 n) (known_cons (ok35 n) (known_cons (ok36 n) (known_cons (ok37 n) (known_cons (ok40 n) (known_cons (ok41 n) (known_cons (ok44 n) known_nil)))))))))) mixed fun a b y h =>
  (show _ = M8 n (fun _ => n) (.F a.1 a.2.1) by kernel_rfl).trans (flow_sound (nat8 n) (h8 n) n _ _ y (Nat.le_refl _) (fun _ => Nat.le_refl _) h)
end Go.Am
