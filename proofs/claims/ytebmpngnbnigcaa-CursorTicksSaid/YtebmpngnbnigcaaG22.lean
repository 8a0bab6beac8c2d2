/- G22: functions as steps, printed by wip/tools/gen6.py. -/
import Derived.Test.YtebmpngnbnigcaaS1Tys
import Derived.Test.YtebmpngnbnigcaaG1
import Derived.Test.YtebmpngnbnigcaaG5
import Derived.Test.YtebmpngnbnigcaaG11
set_option linter.unusedVariables false
set_option linter.unusedSimpArgs false
set_option maxRecDepth 20000
set_option maxHeartbeats 0
namespace Go.Am
open Go.Proofs.Try
/-! ### F7 horarium/horariumlaw4.CursorAgain -/
noncomputable def a7 : Ann := { loops := [(0, { vars := [], sites := [7, 23], slots := [(2, .keep), (7, .tree TyO38), (8, .keep), (9, .keep)] }), (2, { vars := [], sites := [7, 23], slots := [(7, .tree TyO38), (8, .keep), (10, .keep), (11, .keep)] })], ends := [(0, { vars := [], sites := [7, 23], slots := [(7, .tree TyO38), (8, .keep)] }), (2, { vars := [], sites := [], slots := [] })], acts := [((1, 1), (.pair (.sh 3 I64) I64))], res := [.bool] }
noncomputable def e7 (y : Bool) : List CRes × List CVar := ([.v .bool y], [])
noncomputable def Φ7 (n : Nat) : Prog := Prog.of [E31 n, E34 n, E35 n, E36 n, E37 n, E40 n, E41 n, E42 n, E43 n, E44 n]
inductive P7 where
  | F (a0 : List Int) (a1 a2 : Int)
  | E0 (x35 x36 : List (Int × (Int × Int))) (x37 : List (Int × Int)) (x38 x39 x40 : Int)
  | L0 (x23 x24 : Int) (x25 x26 : List (Int × (Int × Int))) (x27 : List (Int × Int)) (x28 x29 x30 : Int)
  | E2 
  | L2 (x66 x67 : Int) (x68 x69 : List (Int × (Int × Int))) (x70 : List (Int × Int)) (x71 x72 x73 : Int)
noncomputable def s7 (n : Nat) (γ : Type) : P7 → (P7 → Option γ) → (Bool → Option γ) → Option γ
  | .F a0 a1 a2, k, r =>
    (p35 n a1 (0 : Int) (4 : Int)).bind fun y1 =>
    (p31 n (4 : Int) y1 (a0, (0 : Int))).bind fun cy2 =>
    (p40 n cy2.1).bind fun oy4 => optK oy4 (
      (p37 n cy2.1).bind fun y5 =>
      cond ((!eqB y5 (0 : Int))) (
        (p34 n).bind fun y6 =>
        r y6) (
        r false)) (fun y4 =>
      k (.L0 a2 (0 : Int) cy2.1 y4.1 y4.2.1 y4.2.2.1 y4.2.2.2.1 y4.2.2.2.2))
  | .E0 x35 x36 x37 x38 x39 x40, k, r =>
    (p42 n (x36, (x37, (x38, (x39, x40))))).bind fun w41 =>
    k (.L2 (0 : Int) (0 : Int) x35 w41.1 w41.2.1 w41.2.2.1 w41.2.2.2.1 w41.2.2.2.2)
  | .L0 x23 x24 x25 x26 x27 x28 x29 x30, k, r =>
    (p35 n x23 (0 : Int) (50 : Int)).bind fun y31 =>
    cond ((ltB x24 y31)) (
      (p41 n (x26, (x27, (x28, (x29, x30))))).bind fun cy32 =>
      k (.L0 x23 (w64 (x24 + (1 : Int))) x25 cy32.2.2.1 cy32.2.2.2.1 cy32.2.2.2.2.1 cy32.2.2.2.2.2.1 cy32.2.2.2.2.2.2)) (
      k (.E0 x25 x26 x27 x28 x29 x30))
  | .E2, k, r =>
    r false
  | .L2 x66 x67 x68 x69 x70 x71 x72 x73, k, r =>
    cond ((leB x67 (4096 : Int))) (
      (p43 n (x69, (x70, (x71, (x72, x73))))).bind fun cy74 =>
      cond ((!cy74.2.1)) (
        (p36 n x68).bind fun cy77 =>
        cond (cy77.2) (
          cond ((eqB x66 cy77.1)) (
            (p44 n cy74.2.2).bind fun cy79 =>
            cond ((eqB cy79.1 cy77.1)) (
              (p34 n).bind fun y81 =>
              r y81) (
              r false)) (
            r false)) (
          r false)) (
        k (.L2 (w64 (x66 + cy74.1.2)) (w64 (x67 + (1 : Int))) x68 cy74.2.2.1 cy74.2.2.2.1 cy74.2.2.2.2.1 cy74.2.2.2.2.2.1 cy74.2.2.2.2.2.2))) (
      k .E2)
theorem nat7 (n : Nat) : NatS (s7 n) := fun g p k r => by
  cases p <;> simp only [s7, bind_cond, bind_ite, bind_optK, Option.bind_assoc, Option.bind_none]
theorem us7 {n m : Nat} (h : n ≤ m) : UpS (s7 n) (s7 m) := fun γ p k r => by
  cases p <;> dsimp only [s7] <;> repeat' first | with_reducible exact up_rfl | apply up_cond | apply up_ite | apply up_bind | apply up_optK | apply up31 h | apply up34 h | apply up35 h | apply up36 h | apply up37 h | apply up40 h | apply up41 h | apply up42 h | apply up43 h | apply up44 h | intro
noncomputable def k7_0 (n : Nat)  : Ex → St → Option (List CRes × List CVar) := finK' Γ f7 a7 0
noncomputable def c7_0 : Code := partB (bodyOf f7)
noncomputable def c7_1 : Code := partB c7_0
noncomputable def c7_2 : Code := partB c7_1
noncomputable def c7_3 : Code := partB c7_2
noncomputable def c7_4 : Code := partB c7_3
noncomputable def k7_1 (n : Nat)  : Ex → St → Option (List CRes × List CVar) := seqK Γ (Φ7 n) a7 n c7_4 0 (k7_0 n)
noncomputable def c7_5 : Code := partA c7_3
noncomputable def c7_6 : Code := partB c7_5
noncomputable def c7_7 : Code := partA c7_6
noncomputable def c7_8 : Code := partA c7_7
noncomputable def k7_2 (n : Nat)  : Ex → St → Option (List CRes × List CVar) := blockK a7 0 (k7_1 n)
noncomputable def c7_9 : Code := partB c7_4
noncomputable def c7_10 : Code := partB c7_9
noncomputable def c7_11 : Code := partB c7_10
noncomputable def k7_3 (n : Nat)  : Ex → St → Option (List CRes × List CVar) := seqK Γ (Φ7 n) a7 n c7_11 0 (k7_0 n)
noncomputable def c7_12 : Code := partA c7_10
noncomputable def c7_13 : Code := partB c7_12
noncomputable def c7_14 : Code := partA c7_13
noncomputable def c7_15 : Code := partA c7_14
noncomputable def k7_4 (n : Nat)  : Ex → St → Option (List CRes × List CVar) := blockK a7 2 (k7_3 n)
noncomputable def M7 (n : Nat) (u : Nat → Nat) : P7 → Option (List CRes × List CVar)
  | .F a0 a1 a2 => stepIn (fun A => codeK Γ (Φ7 n) a7 n (bodyOf f7) 0 A (k7_0 n)) (mkSt 77 77 [(0, (.val (.sh 3 I64) a0)), (1, (iv a1)), (2, (iv a2))] [])
  | .E0 x35 x36 x37 x38 x39 x40 => stepIn ((k7_1 n) .normal) (mkSt 77 77 [(7, (.ref 7 [])), (8, (.ptr 23 []))] [(7, .tmp TyO38 x35), (23, .var 124 TyO123 (x36, (x37, (x38, (x39, x40)))))])
  | .L0 x23 x24 x25 x26 x27 x28 x29 x30 => stepIn (fun A => loopK Γ (Φ7 n) a7 n c7_8 0 (u 0) A (k7_2 n)) (mkSt 77 77 [(2, (iv x23)), (7, (.ref 7 [])), (8, (.ptr 23 [])), (9, (iv x24))] [(7, .tmp TyO38 x25), (23, .var 124 TyO123 (x26, (x27, (x28, (x29, x30)))))])
  | .E2 => stepIn ((k7_3 n) .normal) (mkSt 77 77 [] [])
  | .L2 x66 x67 x68 x69 x70 x71 x72 x73 => stepIn (fun A => loopK Γ (Φ7 n) a7 n c7_15 2 (u 2) A (k7_4 n)) (mkSt 77 77 [(7, (.ref 7 [])), (8, (.ptr 23 [])), (10, (iv x66)), (11, (iv x67))] [(7, .tmp TyO38 x68), (23, .var 124 TyO123 (x69, (x70, (x71, (x72, x73)))))])
theorem h7 (n : Nat) (u : Nat → Nat) : ∀ p, (∀ i, 1 ≤ u i) → Ok1 (s7 n) e7 n (M7 n) u p
  | .F a0 a1 a2, _ => pl [] (at_code rfl ((codeK_seq (by kernel_rfl)).trans (by kernel_rfl)))
  | .E0 x35 x36 x37 x38 x39 x40, _ => pl [] (by kernel_rfl)
  | .L0 x23 x24 x25 x26 x27 x28 x29 x30, hu => hd 0 [0] hu fun m hm => (loopK_at hm).trans ((codeK_seq (by kernel_rfl)).trans ((codeK_seq (by kernel_rfl)).trans (by kernel_rfl)))
  | .E2, _ => pl [] (by kernel_rfl)
  | .L2 x66 x67 x68 x69 x70 x71 x72 x73, hu => hd 2 [2] hu fun m hm => (loopK_at hm).trans ((codeK_seq (by kernel_rfl)).trans ((codeK_seq (by kernel_rfl)).trans (by kernel_rfl)))
noncomputable def p7 (n : Nat) (a0 : List Int) (a1 a2 : Int) : Option (Bool) := flow (s7 n) n (.F a0 a1 a2)
theorem up7 {n m : Nat} (h : n ≤ m) (a0 : List Int) (a1 a2 : Int) : Up (p7 n a0 a1 a2) (p7 m a0 a1 a2) := flow_up (nat7 n) (us7 h) h _
noncomputable def E7 (n : Nat) : Entry := mkE 7 .flat [.tree (.sh 3 I64), .tree I64, .tree I64] [] (fun a b => p7 n a.1 a.2.1 a.2.2.1) e7
theorem ok7 (n : Nat) : EntryOk prog (E7 n) := mkE_ok (Φ := Φ7 n) (ann := a7) (n := n) (F := f7) (by kernel_rfl) (by kernel_rfl) (by kernel_rfl) (known_prog (known_cons (ok31 n) (known_cons (ok34 n) (known_cons (ok35 n) (known_cons (ok36 n) (known_cons (ok37 n) (known_cons (ok40 n) (known_cons (ok41 n) (known_cons (ok42 n) (known_cons (ok43 n) (known_cons (ok44 n) known_nil))))))))))) mixed fun a b y h =>
  (show _ = M7 n (fun _ => n) (.F a.1 a.2.1 a.2.2.1) by kernel_rfl).trans (flow_sound (nat7 n) (h7 n) n _ _ y (Nat.le_refl _) (fun _ => Nat.le_refl _) h)
end Go.Am
