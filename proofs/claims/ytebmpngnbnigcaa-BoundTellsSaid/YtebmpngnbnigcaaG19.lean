/- G19: functions as steps, printed by wip/tools/gen6.py. -/
import Derived.Test.YtebmpngnbnigcaaS1Tys
import Derived.Test.YtebmpngnbnigcaaG3
import Derived.Test.YtebmpngnbnigcaaG4a
import Derived.Test.YtebmpngnbnigcaaG4b
import Derived.Test.YtebmpngnbnigcaaG4d
import Derived.Test.YtebmpngnbnigcaaG8
import Derived.Test.YtebmpngnbnigcaaG14
set_option linter.unusedVariables false
set_option linter.unusedSimpArgs false
set_option maxRecDepth 20000
set_option maxHeartbeats 0
namespace Go.Am
open Go.Proofs.Try
/-! ### F4 horarium/horariumlaw9.BoundTells -/
noncomputable def an4 : Ann := { draws := [(10, { order := [0, 1, 2, 3, 4, 5, 6, 7, 8, 9, 10, 11, 12, 13, 14], touch := [(11, [15]), (14, [15])], inner := [11, 14] }), (16, { order := [0, 1, 2, 3, 4, 5, 6, 7, 8, 9, 10, 11, 12, 13, 14, 15, 16, 17, 18, 19, 20, 22, 23, 21, 24, 25, 26, 27, 28, 29, 31, 32, 30, 33, 34, 35, 36, 37, 38, 39, 40, 41, 42, 43, 44, 45], touch := [(8, []), (16, []), (21, []), (24, []), (30, []), (33, []), (39, []), (43, [])] })], loops := [(0, { vars := [], sites := [14, 15, 24], slots := [(1, .keep), (2, .keep), (3, .keep), (4, .keep), (5, .keep), (13, .keep), (14, .tree (.ow 44 (.pair I64 I64))), (15, .keep), (16, .keep), (33, .keep), (34, .keep)] }), (2, { vars := [], sites := [14, 15, 18, 19], slots := [(1, .keep), (2, .keep), (3, .keep), (14, .tree (.ow 44 (.pair I64 I64))), (15, .keep), (16, .keep), (18, .keep), (19, .tree (.ow 44 (.pair I64 I64))), (21, .keep)] })], ends := [(0, { vars := [], sites := [14, 15, 24], slots := [(1, .keep), (2, .keep), (3, .keep), (5, .keep), (13, .keep), (14, .tree (.ow 44 (.pair I64 I64))), (15, .keep), (16, .keep)] }), (2, { vars := [], sites := [14, 15, 18, 19], slots := [(1, .keep), (2, .keep), (3, .keep), (14, .tree (.ow 44 (.pair I64 I64))), (15, .keep), (18, .keep), (19, .tree (.ow 44 (.pair I64 I64))), (21, .keep)] })], acts := [((1, 1), (.pair (.sh 3 I64) I64))], res := [.bool] }
noncomputable def e4 (y : Bool) : List CRes × List CVar := ([.v .bool y], [])
noncomputable def Φ4 (n : Nat) : Prog := Prog.of [E20 n, E21 n, E22 n, E25 n, E26 n, E27 n, E28 n, E29 n]
inductive P4 where
  | F (a0 : List Int) (a1 a2 a3 a4 a5 : Int)
  | E0 (x34 x35 x36 x37 x38 : Int) (x39 : List (Int × Int)) (x40 : List Vl51) (x41 : List Vl47) (x42 : List (List (Int × (Int × Int)))) (x43 : List Int) (x44 : Int)
  | L0 (x20 x21 x22 x23 x24 x25 x26 x27 : Int) (x28 : List (Int × Int)) (x29 : List Vl51) (x30 : List Vl47) (x31 : List (List (Int × (Int × Int)))) (x32 : List Int) (x33 : Int)
  | E2 (x77 x78 x79 x80 : Int) (x81 : List (Int × Int)) (x82 : List Vl51) (x83 : List Vl47) (x84 : List (List (Int × (Int × Int)))) (x85 : List Vl51) (x86 : List Vl47) (x87 : List (List (Int × (Int × Int)))) (x88 : List (Int × Int))
  | L2 (x64 x65 x66 x67 x68 : Int) (x69 : List (Int × Int)) (x70 : List Vl51) (x71 : List Vl47) (x72 : List (List (Int × (Int × Int)))) (x73 : List Vl51) (x74 : List Vl47) (x75 : List (List (Int × (Int × Int)))) (x76 : List (Int × Int))
noncomputable def s4 (n : Nat) (γ : Type) : P4 → (P4 → Option γ) → (Bool → Option γ) → Option γ
  | .F a0 a1 a2 a3 a4 a5, k, r =>
    (p20 n (4 : Int) (14 : Int) (a0, (0 : Int))).bind fun cy1 =>
    (p25 n cy1.2).bind fun cy3 =>
    (p21 n cy1.1).bind fun y5 =>
    k (.L0 a1 a2 a3 a4 a5 y5 (List.length cy3.1.2.1 : Int) (0 : Int) cy1.1 cy3.1.1 cy3.1.2.1 cy3.1.2.2 cy3.2.1 cy3.2.2)
  | .E0 x34 x35 x36 x37 x38 x39 x40 x41 x42 x43 x44, k, r =>
    let u45 : Int := (w64 ((1 : Int) + (bitOp .i64 .and x36 (15 : Int))))
    if 0 ≤ (0 : Int) then (
    if (0 : Int) < (List.length x40 : Int) then (
    if 0 ≤ (0 : Int) then (
    if (0 : Int) < (List.length (List.set x40 0 ((List.getD x40 0 (([] : List UInt8), ((0 : Int), ((0 : Int), (false, (false, (([] : (List (Int × Int))), (List.replicate 5 (0 : Int))))))))).1, ((bitOp .i64 .and x37 (7 : Int)), (List.getD x40 0 (([] : List UInt8), ((0 : Int), ((0 : Int), (false, (false, (([] : (List (Int × Int))), (List.replicate 5 (0 : Int))))))))).2.2))) : Int) then (
    (p25 n (x43, x44)).bind fun cy46 =>
    if 0 ≤ (0 : Int) then (
    if (0 : Int) < (List.length cy46.1.2.2 : Int) then (
    (p26 n (List.getD cy46.1.2.2 0 ([] : (List (Int × (Int × Int)))))).bind fun cy48 =>
    let u50 : Int := (w64 ((1 : Int) + (bitOp .i64 .and x36 (63 : Int))))
    k (.L2 x34 x35 x36 x38 u50 x39 (List.set (List.set x40 0 ((List.getD x40 0 (([] : List UInt8), ((0 : Int), ((0 : Int), (false, (false, (([] : (List (Int × Int))), (List.replicate 5 (0 : Int))))))))).1, ((bitOp .i64 .and x37 (7 : Int)), (List.getD x40 0 (([] : List UInt8), ((0 : Int), ((0 : Int), (false, (false, (([] : (List (Int × Int))), (List.replicate 5 (0 : Int))))))))).2.2))) 0 ((List.getD (List.set x40 0 ((List.getD x40 0 (([] : List UInt8), ((0 : Int), ((0 : Int), (false, (false, (([] : (List (Int × Int))), (List.replicate 5 (0 : Int))))))))).1, ((bitOp .i64 .and x37 (7 : Int)), (List.getD x40 0 (([] : List UInt8), ((0 : Int), ((0 : Int), (false, (false, (([] : (List (Int × Int))), (List.replicate 5 (0 : Int))))))))).2.2))) 0 (([] : List UInt8), ((0 : Int), ((0 : Int), (false, (false, (([] : (List (Int × Int))), (List.replicate 5 (0 : Int))))))))).1, ((List.getD (List.set x40 0 ((List.getD x40 0 (([] : List UInt8), ((0 : Int), ((0 : Int), (false, (false, (([] : (List (Int × Int))), (List.replicate 5 (0 : Int))))))))).1, ((bitOp .i64 .and x37 (7 : Int)), (List.getD x40 0 (([] : List UInt8), ((0 : Int), ((0 : Int), (false, (false, (([] : (List (Int × Int))), (List.replicate 5 (0 : Int))))))))).2.2))) 0 (([] : List UInt8), ((0 : Int), ((0 : Int), (false, (false, (([] : (List (Int × Int))), (List.replicate 5 (0 : Int))))))))).2.1, (u45, (List.getD (List.set x40 0 ((List.getD x40 0 (([] : List UInt8), ((0 : Int), ((0 : Int), (false, (false, (([] : (List (Int × Int))), (List.replicate 5 (0 : Int))))))))).1, ((bitOp .i64 .and x37 (7 : Int)), (List.getD x40 0 (([] : List UInt8), ((0 : Int), ((0 : Int), (false, (false, (([] : (List (Int × Int))), (List.replicate 5 (0 : Int))))))))).2.2))) 0 (([] : List UInt8), ((0 : Int), ((0 : Int), (false, (false, (([] : (List (Int × Int))), (List.replicate 5 (0 : Int))))))))).2.2.2)))) x41 x42 cy46.1.1 cy46.1.2.1 cy46.1.2.2 cy48.1)) else none) else none) else none) else none) else none) else none
  | .L0 x20 x21 x22 x23 x24 x25 x26 x27 x28 x29 x30 x31 x32 x33, k, r =>
    cond ((ltB x27 x26)) (
      if 0 ≤ x27 then (
      if x27 < (List.length x30 : Int) then (
      k (.L0 x20 x21 x22 x23 x24 x25 x26 (w64 (x27 + (1 : Int))) x28 x29 (List.set x30 (Int.toNat x27) ((List.getD x30 (Int.toNat x27) ((0 : Int), ((0 : Int), (false, ((0 : Int), ((0 : Int), (0 : Int))))))).1, ((List.getD x30 (Int.toNat x27) ((0 : Int), ((0 : Int), (false, ((0 : Int), ((0 : Int), (0 : Int))))))).2.1, ((List.getD x30 (Int.toNat x27) ((0 : Int), ((0 : Int), (false, ((0 : Int), ((0 : Int), (0 : Int))))))).2.2.1, ((List.getD x30 (Int.toNat x27) ((0 : Int), ((0 : Int), (false, ((0 : Int), ((0 : Int), (0 : Int))))))).2.2.2.1, ((List.getD x30 (Int.toNat x27) ((0 : Int), ((0 : Int), (false, ((0 : Int), ((0 : Int), (0 : Int))))))).2.2.2.2.1, (bitOp .i64 .and x23 (31 : Int)))))))) x31 x32 x33)) else none) else none) (
      k (.E0 x20 x21 x22 x24 x25 x28 x29 x30 x31 x32 x33))
  | .E2 x77 x78 x79 x80 x81 x82 x83 x84 x85 x86 x87 x88, k, r =>
    let u89 : Int := (w64 ((bitOp .i64 .and x77 (7 : Int)) - (1 : Int)))
    let u90 : Int := (w64 ((bitOp .i64 .and x78 (7 : Int)) - (1 : Int)))
    (p22 n x81 u89 u90 x79).bind fun y91 =>
    cond (y91) (
      (p22 n x81 (bitOp .i64 .and x77 (3 : Int)) (bitOp .i64 .and x78 (3 : Int)) x80).bind fun y92 =>
      cond (y92) (
        (p27 n (x82, (x83, x84)) x81).bind fun y93 =>
        (p28 n (x82, (x83, x84)) x81).bind fun y94 =>
        cond ((eqB y93 y94)) (
          (p27 n (x82, (x83, x84)) x88).bind fun y95 =>
          (p28 n (x82, (x83, x84)) x88).bind fun y96 =>
          cond ((eqB y95 y96)) (
            (p27 n (x85, (x86, x87)) x88).bind fun y97 =>
            cond ((eqB y97 (0 : Int))) (
              (p29 n).bind fun y98 =>
              r y98) (
              r false)) (
            r false)) (
          r false)) (
        r false)) (
      r false)
  | .L2 x64 x65 x66 x67 x68 x69 x70 x71 x72 x73 x74 x75 x76, k, r =>
    cond ((ltB (1 : Int) x68)) (
      if x68 = 0 then none else (
      cond ((!eqB (Int.tmod x67 x68) (0 : Int))) (
        k (.L2 x64 x65 x66 x67 (w64 (x68 - (1 : Int))) x69 x70 x71 x72 x73 x74 x75 x76)) (
        k (.E2 x64 x65 x66 x68 x69 x70 x71 x72 x73 x74 x75 x76)))) (
      k (.E2 x64 x65 x66 x68 x69 x70 x71 x72 x73 x74 x75 x76))
theorem nat4 (n : Nat) : NatS (s4 n) := fun g p k r => by
  cases p <;> simp only [s4, bind_cond, bind_ite, bind_optK, Option.bind_assoc, Option.bind_none]
theorem us4 {n m : Nat} (h : n ≤ m) : UpS (s4 n) (s4 m) := fun γ p k r => by
  cases p <;> dsimp only [s4] <;> repeat' first | with_reducible exact up_rfl | apply up_cond | apply up_ite | apply up_bind | apply up_optK | apply up20 h | apply up21 h | apply up22 h | apply up25 h | apply up26 h | apply up27 h | apply up28 h | apply up29 h | intro
noncomputable def k4_0 (n : Nat)  : Ex → St → Option (List CRes × List CVar) := finK' Γ f4 an4 0
noncomputable def c4_0 : Code := partB (bodyOf f4)
noncomputable def c4_1 : Code := partB c4_0
noncomputable def c4_2 : Code := partB c4_1
noncomputable def c4_3 : Code := partB c4_2
noncomputable def c4_4 : Code := partB c4_3
noncomputable def c4_5 : Code := partB c4_4
noncomputable def k4_1 (n : Nat)  : Ex → St → Option (List CRes × List CVar) := seqK Γ (Φ4 n) an4 n c4_5 0 (k4_0 n)
noncomputable def c4_6 : Code := partA c4_4
noncomputable def c4_7 : Code := partB c4_6
noncomputable def c4_8 : Code := partA c4_7
noncomputable def c4_9 : Code := partA c4_8
noncomputable def k4_2 (n : Nat)  : Ex → St → Option (List CRes × List CVar) := blockK an4 0 (k4_1 n)
noncomputable def c4_10 : Code := partB c4_5
noncomputable def c4_11 : Code := partB c4_10
noncomputable def c4_12 : Code := partB c4_11
noncomputable def c4_13 : Code := partB c4_12
noncomputable def c4_14 : Code := partB c4_13
noncomputable def k4_3 (n : Nat)  : Ex → St → Option (List CRes × List CVar) := seqK Γ (Φ4 n) an4 n c4_14 0 (k4_0 n)
noncomputable def c4_15 : Code := partA c4_13
noncomputable def c4_16 : Code := partA c4_15
noncomputable def c4_17 : Code := partA c4_16
noncomputable def k4_4 (n : Nat)  : Ex → St → Option (List CRes × List CVar) := blockK an4 2 (k4_3 n)
noncomputable def M4 (n : Nat) (u : Nat → Nat) : P4 → Option (List CRes × List CVar)
  | .F a0 a1 a2 a3 a4 a5 => stepIn (fun A => codeK Γ (Φ4 n) an4 n (bodyOf f4) 0 A (k4_0 n)) (mkSt 126 126 [(0, (.val (.sh 3 I64) a0)), (1, (iv a1)), (2, (iv a2)), (3, (iv a3)), (4, (iv a4)), (5, (iv a5))] [])
  | .E0 x34 x35 x36 x37 x38 x39 x40 x41 x42 x43 x44 => stepIn ((k4_1 n) .normal) (mkSt 126 126 [(1, (iv x34)), (2, (iv x35)), (3, (iv x36)), (5, (iv x37)), (13, (.ptr 24 [])), (14, (.ref 14 [])), (15, (.ptr 15 [])), (16, (iv x38))] [(14, .tmp (.ow 44 (.pair I64 I64)) x39), (15, .var 36 TyO35 (x40, (x41, x42))), (24, .var 26 (.pair (.sh 3 I64) I64) (x43, x44))])
  | .L0 x20 x21 x22 x23 x24 x25 x26 x27 x28 x29 x30 x31 x32 x33 => stepIn (fun A => loopK Γ (Φ4 n) an4 n c4_9 0 (u 0) A (k4_2 n)) (mkSt 126 126 [(1, (iv x20)), (2, (iv x21)), (3, (iv x22)), (4, (iv x23)), (5, (iv x24)), (13, (.ptr 24 [])), (14, (.ref 14 [])), (15, (.ptr 15 [])), (16, (iv x25)), (33, (iv x26)), (34, (iv x27))] [(14, .tmp (.ow 44 (.pair I64 I64)) x28), (15, .var 36 TyO35 (x29, (x30, x31))), (24, .var 26 (.pair (.sh 3 I64) I64) (x32, x33))])
  | .E2 x77 x78 x79 x80 x81 x82 x83 x84 x85 x86 x87 x88 => stepIn ((k4_3 n) .normal) (mkSt 126 126 [(1, (iv x77)), (2, (iv x78)), (3, (iv x79)), (14, (.ref 14 [])), (15, (.ptr 15 [])), (18, (.ptr 18 [])), (19, (.ref 19 [])), (21, (iv x80))] [(14, .tmp (.ow 44 (.pair I64 I64)) x81), (15, .var 36 TyO35 (x82, (x83, x84))), (18, .var 36 TyO35 (x85, (x86, x87))), (19, .tmp (.ow 44 (.pair I64 I64)) x88)])
  | .L2 x64 x65 x66 x67 x68 x69 x70 x71 x72 x73 x74 x75 x76 => stepIn (fun A => loopK Γ (Φ4 n) an4 n c4_17 2 (u 2) A (k4_4 n)) (mkSt 126 126 [(1, (iv x64)), (2, (iv x65)), (3, (iv x66)), (14, (.ref 14 [])), (15, (.ptr 15 [])), (16, (iv x67)), (18, (.ptr 18 [])), (19, (.ref 19 [])), (21, (iv x68))] [(14, .tmp (.ow 44 (.pair I64 I64)) x69), (15, .var 36 TyO35 (x70, (x71, x72))), (18, .var 36 TyO35 (x73, (x74, x75))), (19, .tmp (.ow 44 (.pair I64 I64)) x76)])
theorem h4 (n : Nat) (u : Nat → Nat) : ∀ p, (∀ i, 1 ≤ u i) → Ok1 (s4 n) e4 n (M4 n) u p
  | .F a0 a1 a2 a3 a4 a5, _ => pl [] (at_code rfl ((codeK_seq (by kernel_rfl)).trans (by kernel_rfl)))
  | .E0 x34 x35 x36 x37 x38 x39 x40 x41 x42 x43 x44, _ => pl [] (by kernel_rfl)
  | .L0 x20 x21 x22 x23 x24 x25 x26 x27 x28 x29 x30 x31 x32 x33, hu => hd 0 [0] hu fun m hm => (loopK_at hm).trans ((codeK_seq (by kernel_rfl)).trans (by kernel_rfl))
  | .E2 x77 x78 x79 x80 x81 x82 x83 x84 x85 x86 x87 x88, _ => pl [] (by kernel_rfl)
  | .L2 x64 x65 x66 x67 x68 x69 x70 x71 x72 x73 x74 x75 x76, hu => hd 2 [2] hu fun m hm => (loopK_at hm).trans ((codeK_seq (by kernel_rfl)).trans ((codeK_seq (by kernel_rfl)).trans (by kernel_rfl)))
noncomputable def p4 (n : Nat) (a0 : List Int) (a1 a2 a3 a4 a5 : Int) : Option (Bool) := flow (s4 n) n (.F a0 a1 a2 a3 a4 a5)
theorem up4 {n m : Nat} (h : n ≤ m) (a0 : List Int) (a1 a2 a3 a4 a5 : Int) : Up (p4 n a0 a1 a2 a3 a4 a5) (p4 m a0 a1 a2 a3 a4 a5) := flow_up (nat4 n) (us4 h) h _
noncomputable def E4 (n : Nat) : Entry := mkE 4 .flat [.tree (.sh 3 I64), .tree I64, .tree I64, .tree I64, .tree I64, .tree I64] [] (fun a b => p4 n a.1 a.2.1 a.2.2.1 a.2.2.2.1 a.2.2.2.2.1 a.2.2.2.2.2.1) e4
theorem ok4 (n : Nat) : EntryOk prog (E4 n) := mkE_ok (Φ := Φ4 n) (ann := an4) (n := n) (F := f4) (by kernel_rfl) (by kernel_rfl) (by kernel_rfl) (known_prog (known_cons (ok20 n) (known_cons (ok21 n) (known_cons (ok22 n) (known_cons (ok25 n) (known_cons (ok26 n) (known_cons (ok27 n) (known_cons (ok28 n) (known_cons (ok29 n) known_nil))))))))) mixed fun a b y h =>
  (show _ = M4 n (fun _ => n) (.F a.1 a.2.1 a.2.2.1 a.2.2.2.1 a.2.2.2.2.1 a.2.2.2.2.2.1) by kernel_rfl).trans (flow_sound (nat4 n) (h4 n) n _ _ y (Nat.le_refl _) (fun _ => Nat.le_refl _) h)
end Go.Am
