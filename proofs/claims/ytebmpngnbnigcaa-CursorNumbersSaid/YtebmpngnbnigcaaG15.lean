/- G15: functions as steps, printed by wip/tools/gen6.py. -/
import Derived.Test.YtebmpngnbnigcaaS1Tys
import Derived.Test.YtebmpngnbnigcaaG1
import Derived.Test.YtebmpngnbnigcaaG2
import Derived.Test.YtebmpngnbnigcaaG5
import Derived.Test.YtebmpngnbnigcaaG11
set_option linter.unusedVariables false
set_option linter.unusedSimpArgs false
set_option maxRecDepth 20000
set_option maxHeartbeats 0
namespace Go.Am
open Go.Proofs.Try
/-! ### F39 horarium/horariumlaw4.leaves -/
noncomputable def a39 : Ann := { res := [(.ow 44 (.pair I64 I64))] }
noncomputable def e39 (y : List (Int × Int)) : List CRes × List CVar := ([.v (.ow 44 (.pair I64 I64)) y], [])
noncomputable def Φ39 (n : Nat) : Prog := Prog.of [E37 n, E84 n]
inductive P39 where
  | F (a0 : List (Int × (Int × Int)))
noncomputable def s39 (n : Nat) (γ : Type) : P39 → (P39 → Option γ) → ((List (Int × Int)) → Option γ) → Option γ
  | .F a0, k, r =>
    (p37 n a0).bind fun y1 =>
    cond ((!eqB y1 (0 : Int))) (
      r ([] : (List (Int × Int)))) (
      (p84 n a0).bind fun y2 =>
      r y2)
theorem nat39 (n : Nat) : NatS (s39 n) := fun g p k r => by
  cases p <;> simp only [s39, bind_cond, bind_ite, bind_optK, Option.bind_assoc, Option.bind_none]
theorem us39 {n m : Nat} (h : n ≤ m) : UpS (s39 n) (s39 m) := fun γ p k r => by
  cases p <;> dsimp only [s39] <;> repeat' first | with_reducible exact up_rfl | apply up_cond | apply up_ite | apply up_bind | apply up_optK | apply up37 h | apply up84 h | intro
noncomputable def k39_0 (n : Nat)  : Ex → St → Option (List CRes × List CVar) := finK' Γ f39 a39 0
noncomputable def M39 (n : Nat) (u : Nat → Nat) : P39 → Option (List CRes × List CVar)
  | .F a0 => stepIn (fun A => codeK Γ (Φ39 n) a39 n (bodyOf f39) 0 A (k39_0 n)) (mkSt 8 8 [(0, (.val TyS38 a0))] [])
theorem h39 (n : Nat) (u : Nat → Nat) : ∀ p, (∀ i, 1 ≤ u i) → Ok1 (s39 n) e39 n (M39 n) u p
  | .F a0, _ => pl [] (at_code rfl ((codeK_seq (by kernel_rfl)).trans (by kernel_rfl)))
noncomputable def p39 (n : Nat) (a0 : List (Int × (Int × Int))) : Option (List (Int × Int)) := flow (s39 n) n (.F a0)
theorem up39 {n m : Nat} (h : n ≤ m) (a0 : List (Int × (Int × Int))) : Up (p39 n a0) (p39 m a0) := flow_up (nat39 n) (us39 h) h _
noncomputable def E39 (n : Nat) : Entry := mkE 39 .look [.tree TyS38] [] (fun a b => p39 n a.1) e39
theorem ok39 (n : Nat) : EntryOk prog (E39 n) := mkE_ok (Φ := Φ39 n) (ann := a39) (n := n) (F := f39) (by kernel_rfl) (by kernel_rfl) (by kernel_rfl) (known_prog (known_cons (ok37 n) (known_cons (ok84 n) known_nil))) mixed fun a b y h =>
  (show _ = M39 n (fun _ => n) (.F a.1) by kernel_rfl).trans (flow_sound (nat39 n) (h39 n) n _ _ y (Nat.le_refl _) (fun _ => Nat.le_refl _) h)
/-! ### F32 horarium/horariumlaw4.play -/
noncomputable def a32 : Ann := { draws := [(7, { order := [0, 1, 2, 3, 4, 5, 6] }), (22, { order := [0, 1, 2, 3, 4, 5, 6, 7, 8, 9, 10, 11, 12, 13, 14, 15, 16, 17] }), (25, { order := [0, 1, 3, 4, 5, 6, 7, 2, 8], touch := [(2, [])] }), (37, { order := [0, 2, 3, 4, 5, 1, 6, 7, 8, 9, 10, 11, 12, 13, 14, 15, 16, 17], touch := [(1, [23])] })], loops := [(0, { vars := [], sites := [6, 23], slots := [(0, .keep), (1, .keep), (5, .keep), (6, .tree (.ow 44 (.pair I64 I64))), (7, .keep), (8, .keep), (9, .keep), (10, .keep)] })], ends := [(0, { vars := [], sites := [6, 23], slots := [(5, .keep), (6, .tree (.ow 44 (.pair I64 I64)))] })], heads := [(10, { vars := [], sites := [6, 23], slots := [(0, .keep), (1, .keep), (5, .keep), (6, .tree (.ow 44 (.pair I64 I64))), (7, .keep), (8, .keep), (9, .keep), (10, .keep)] })], res := [.bool] }
noncomputable def e32 (y : Bool) : List CRes × List CVar := ([.v .bool y], [])
noncomputable def Φ32 (n : Nat) : Prog := Prog.of [E33 n, E37 n, E39 n, E40 n, E41 n, E42 n, E43 n, E44 n]
inductive P32 where
  | F (a0 : List (Int × (Int × Int))) (a1 : List Int)
  | E0 (x157 : List (Int × Int)) (x158 : List (Int × (Int × Int))) (x159 : List (Int × Int)) (x160 x161 x162 : Int)
  | L0 (x109 : List (Int × (Int × Int))) (x110 : List Int) (x111 x112 x113 x114 : Int) (x115 : List (Int × Int)) (x116 : List (Int × (Int × Int))) (x117 : List (Int × Int)) (x118 x119 x120 : Int)
  | Q10 (x76 : List (Int × (Int × Int))) (x77 : List Int) (x78 x79 x80 x81 : Int) (x82 : List (Int × Int)) (x83 : List (Int × (Int × Int))) (x84 : List (Int × Int)) (x85 x86 x87 : Int)
noncomputable def s32 (n : Nat) (γ : Type) : P32 → (P32 → Option γ) → (Bool → Option γ) → Option γ
  | .F a0 a1, k, r =>
    (p40 n a0).bind fun oy1 => optK oy1 (
      (p37 n a0).bind fun y2 =>
      cond ((!eqB y2 (0 : Int))) (
        (p33 n a0 (0 : Int)).bind fun y3 =>
        r (eqB y3 (-1 : Int))) (
        r false)) (fun y1 =>
      (p37 n a0).bind fun y4 =>
      cond ((!eqB y4 (0 : Int))) (
        r false) (
        (p39 n a0).bind fun y5 =>
        if 0 ≤ (0 : Int) then (
        if (0 : Int) < (List.length y5 : Int) then (
        k (.L0 a0 a1 (0 : Int) (0 : Int) (List.getD y5 0 ((0 : Int), (0 : Int))).2 (0 : Int) y5 y1.1 y1.2.1 y1.2.2.1 y1.2.2.2.1 y1.2.2.2.2)) else none) else none))
  | .E0 x157 x158 x159 x160 x161 x162, k, r =>
    (p42 n (x158, (x159, (x160, (x161, x162))))).bind fun w163 =>
    (p43 n w163).bind fun cy164 =>
    if 0 ≤ (0 : Int) then (
    if (0 : Int) < (List.length x157 : Int) then (
    (p44 n cy164.2.2).bind fun cy167 =>
    cond ((eqB cy167.1 (List.getD x157 0 ((0 : Int), (0 : Int))).2)) (
      cond (cy164.2.1) (
        if 0 ≤ (0 : Int) then (
        if (0 : Int) < (List.length x157 : Int) then (
        let u169 : Bool := (eqV (.pair I64 I64) cy164.1 (List.getD x157 0 ((0 : Int), (0 : Int))))
        r u169) else none) else none) (
        r false)) (
      r false)) else none) else none
  | .L0 x109 x110 x111 x112 x113 x114 x115 x116 x117 x118 x119 x120, k, r =>
    cond ((ltB x114 (400 : Int))) (
      (p44 n (x116, (x117, (x118, (x119, x120))))).bind fun cy121 =>
      cond ((!eqB cy121.1 x111)) (
        r false) (
        cond ((ltB x114 (List.length x110 : Int))) (
          if 0 ≤ x114 then (
          if x114 < (List.length x110 : Int) then (
          let u123 : Int := (bitOp .i64 .and (List.getD x110 (Int.toNat x114) (0 : Int)) (3 : Int))
          cond ((leB (List.length x115 : Int) x112)) (
            (p43 n cy121.2).bind fun cy124 =>
            (p41 n cy124.2.2).bind fun cy127 =>
            cond ((!cy124.2.1)) (
              cond ((!cy127.2.1)) (
                let u130 : Bool := (eqV (.pair I64 I64) cy124.1 ((0 : Int), (0 : Int)))
                cond (u130) (
                  r (eqB cy127.1 (-1 : Int))) (
                  r false)) (
                r false)) (
              r false)) (
            cond ((eqB u123 (0 : Int))) (
              (p43 n cy121.2).bind fun cy131 =>
              cond ((!cy131.2.1)) (
                r false) (
                if 0 ≤ x112 then (
                if x112 < (List.length x115 : Int) then (
                let u134 : Bool := (!eqB cy131.1.1 (List.getD x115 (Int.toNat x112) ((0 : Int), (0 : Int))).1)
                cond (u134) (
                  r false) (
                  cond ((!eqB cy131.1.2 x113)) (
                    r false) (
                    let u135 : Bool := (ltB (w64 (x112 + (1 : Int))) (List.length x115 : Int))
                    cond (u135) (
                      if 0 ≤ (w64 (x112 + (1 : Int))) then (
                      if (w64 (x112 + (1 : Int))) < (List.length x115 : Int) then (
                      k (.Q10 x109 x110 (w64 (x111 + x113)) (w64 (x112 + (1 : Int))) (List.getD x115 (Int.toNat (w64 (x112 + (1 : Int)))) ((0 : Int), (0 : Int))).2 x114 x115 cy131.2.2.1 cy131.2.2.2.1 cy131.2.2.2.2.1 cy131.2.2.2.2.2.1 cy131.2.2.2.2.2.2)) else none) else none) (
                      k (.Q10 x109 x110 (w64 (x111 + x113)) (w64 (x112 + (1 : Int))) (0 : Int) x114 x115 cy131.2.2.1 cy131.2.2.2.1 cy131.2.2.2.2.1 cy131.2.2.2.2.2.1 cy131.2.2.2.2.2.2))))) else none) else none)) (
              if 0 ≤ x112 then (
              if x112 < (List.length x115 : Int) then (
              (p33 n x109 x111).bind fun y136 =>
              let u137 : Bool := (!eqB y136 (List.getD x115 (Int.toNat x112) ((0 : Int), (0 : Int))).1)
              cond (u137) (
                r false) (
                (p41 n cy121.2).bind fun cy138 =>
                cond ((!cy138.2.1)) (
                  r false) (
                  if 0 ≤ x112 then (
                  if x112 < (List.length x115 : Int) then (
                  let u141 : Bool := (!eqB cy138.1 (List.getD x115 (Int.toNat x112) ((0 : Int), (0 : Int))).1)
                  cond (u141) (
                    r false) (
                    cond ((eqB (w64 (x113 - (1 : Int))) (0 : Int))) (
                      let u142 : Bool := (ltB (w64 (x112 + (1 : Int))) (List.length x115 : Int))
                      cond (u142) (
                        if 0 ≤ (w64 (x112 + (1 : Int))) then (
                        if (w64 (x112 + (1 : Int))) < (List.length x115 : Int) then (
                        k (.Q10 x109 x110 (w64 (x111 + (1 : Int))) (w64 (x112 + (1 : Int))) (List.getD x115 (Int.toNat (w64 (x112 + (1 : Int)))) ((0 : Int), (0 : Int))).2 x114 x115 cy138.2.2.1 cy138.2.2.2.1 cy138.2.2.2.2.1 cy138.2.2.2.2.2.1 cy138.2.2.2.2.2.2)) else none) else none) (
                        k (.Q10 x109 x110 (w64 (x111 + (1 : Int))) (w64 (x112 + (1 : Int))) (w64 (x113 - (1 : Int))) x114 x115 cy138.2.2.1 cy138.2.2.2.1 cy138.2.2.2.2.1 cy138.2.2.2.2.2.1 cy138.2.2.2.2.2.2))) (
                      k (.Q10 x109 x110 (w64 (x111 + (1 : Int))) x112 (w64 (x113 - (1 : Int))) x114 x115 cy138.2.2.1 cy138.2.2.2.1 cy138.2.2.2.2.1 cy138.2.2.2.2.2.1 cy138.2.2.2.2.2.2)))) else none) else none))) else none) else none))) else none) else none) (
          cond ((leB (List.length x115 : Int) x112)) (
            (p43 n cy121.2).bind fun cy143 =>
            (p41 n cy143.2.2).bind fun cy146 =>
            cond ((!cy143.2.1)) (
              cond ((!cy146.2.1)) (
                let u149 : Bool := (eqV (.pair I64 I64) cy143.1 ((0 : Int), (0 : Int)))
                cond (u149) (
                  r (eqB cy146.1 (-1 : Int))) (
                  r false)) (
                r false)) (
              r false)) (
            if 0 ≤ x112 then (
            if x112 < (List.length x115 : Int) then (
            (p33 n x109 x111).bind fun y150 =>
            let u151 : Bool := (!eqB y150 (List.getD x115 (Int.toNat x112) ((0 : Int), (0 : Int))).1)
            cond (u151) (
              r false) (
              (p41 n cy121.2).bind fun cy152 =>
              cond ((!cy152.2.1)) (
                r false) (
                if 0 ≤ x112 then (
                if x112 < (List.length x115 : Int) then (
                let u155 : Bool := (!eqB cy152.1 (List.getD x115 (Int.toNat x112) ((0 : Int), (0 : Int))).1)
                cond (u155) (
                  r false) (
                  cond ((eqB (w64 (x113 - (1 : Int))) (0 : Int))) (
                    let u156 : Bool := (ltB (w64 (x112 + (1 : Int))) (List.length x115 : Int))
                    cond (u156) (
                      if 0 ≤ (w64 (x112 + (1 : Int))) then (
                      if (w64 (x112 + (1 : Int))) < (List.length x115 : Int) then (
                      k (.Q10 x109 x110 (w64 (x111 + (1 : Int))) (w64 (x112 + (1 : Int))) (List.getD x115 (Int.toNat (w64 (x112 + (1 : Int)))) ((0 : Int), (0 : Int))).2 x114 x115 cy152.2.2.1 cy152.2.2.2.1 cy152.2.2.2.2.1 cy152.2.2.2.2.2.1 cy152.2.2.2.2.2.2)) else none) else none) (
                      k (.Q10 x109 x110 (w64 (x111 + (1 : Int))) (w64 (x112 + (1 : Int))) (w64 (x113 - (1 : Int))) x114 x115 cy152.2.2.1 cy152.2.2.2.1 cy152.2.2.2.2.1 cy152.2.2.2.2.2.1 cy152.2.2.2.2.2.2))) (
                    k (.Q10 x109 x110 (w64 (x111 + (1 : Int))) x112 (w64 (x113 - (1 : Int))) x114 x115 cy152.2.2.1 cy152.2.2.2.1 cy152.2.2.2.2.1 cy152.2.2.2.2.2.1 cy152.2.2.2.2.2.2)))) else none) else none))) else none) else none)))) (
      k (.E0 x115 x116 x117 x118 x119 x120))
  | .Q10 x76 x77 x78 x79 x80 x81 x82 x83 x84 x85 x86 x87, k, r =>
    k (.L0 x76 x77 x78 x79 x80 (w64 (x81 + (1 : Int))) x82 x83 x84 x85 x86 x87)
theorem nat32 (n : Nat) : NatS (s32 n) := fun g p k r => by
  cases p <;> simp only [s32, bind_cond, bind_ite, bind_optK, Option.bind_assoc, Option.bind_none]
theorem us32 {n m : Nat} (h : n ≤ m) : UpS (s32 n) (s32 m) := fun γ p k r => by
  cases p <;> dsimp only [s32] <;> repeat' first | with_reducible exact up_rfl | apply up_cond | apply up_ite | apply up_bind | apply up_optK | apply up33 h | apply up37 h | apply up39 h | apply up40 h | apply up41 h | apply up42 h | apply up43 h | apply up44 h | intro
noncomputable def k32_0 (n : Nat)  : Ex → St → Option (List CRes × List CVar) := finK' Γ f32 a32 0
noncomputable def c32_0 : Code := partB (bodyOf f32)
noncomputable def c32_1 : Code := partB c32_0
noncomputable def c32_2 : Code := partB c32_1
noncomputable def c32_3 : Code := partB c32_2
noncomputable def c32_4 : Code := partB c32_3
noncomputable def c32_5 : Code := partB c32_4
noncomputable def c32_6 : Code := partB c32_5
noncomputable def k32_1 (n : Nat)  : Ex → St → Option (List CRes × List CVar) := seqK Γ (Φ32 n) a32 n c32_6 0 (k32_0 n)
noncomputable def c32_7 : Code := partA c32_5
noncomputable def c32_8 : Code := partB c32_7
noncomputable def c32_9 : Code := partA c32_8
noncomputable def c32_10 : Code := partA c32_9
noncomputable def k32_2 (n : Nat)  : Ex → St → Option (List CRes × List CVar) := blockK a32 0 (k32_1 n)
noncomputable def c32_11 : Code := partB c32_10
noncomputable def c32_12 : Code := partB c32_11
noncomputable def k32_3 (n : Nat) (u : Nat → Nat) : Ex → St → Option (List CRes × List CVar) := roundK Γ (Φ32 n) a32 n c32_10 0 (u 0) (k32_2 n)
noncomputable def M32 (n : Nat) (u : Nat → Nat) : P32 → Option (List CRes × List CVar)
  | .F a0 a1 => stepIn (fun A => codeK Γ (Φ32 n) a32 n (bodyOf f32) 0 A (k32_0 n)) (mkSt 182 182 [(0, (.val TyS38 a0)), (1, (.val (.sh 3 I64) a1))] [])
  | .E0 x157 x158 x159 x160 x161 x162 => stepIn ((k32_1 n) .normal) (mkSt 182 182 [(5, (.ptr 23 [])), (6, (.ref 6 []))] [(6, .tmp (.ow 44 (.pair I64 I64)) x157), (23, .var 124 TyO123 (x158, (x159, (x160, (x161, x162)))))])
  | .L0 x109 x110 x111 x112 x113 x114 x115 x116 x117 x118 x119 x120 => stepIn (fun A => loopK Γ (Φ32 n) a32 n c32_10 0 (u 0) A (k32_2 n)) (mkSt 182 182 [(0, (.val TyS38 x109)), (1, (.val (.sh 3 I64) x110)), (5, (.ptr 23 [])), (6, (.ref 6 [])), (7, (iv x111)), (8, (iv x112)), (9, (iv x113)), (10, (iv x114))] [(6, .tmp (.ow 44 (.pair I64 I64)) x115), (23, .var 124 TyO123 (x116, (x117, (x118, (x119, x120)))))])
  | .Q10 x76 x77 x78 x79 x80 x81 x82 x83 x84 x85 x86 x87 => stepIn (fun A => codeK Γ (Φ32 n) a32 n c32_12 0 A (k32_3 n u)) (mkSt 182 182 [(0, (.val TyS38 x76)), (1, (.val (.sh 3 I64) x77)), (5, (.ptr 23 [])), (6, (.ref 6 [])), (7, (iv x78)), (8, (iv x79)), (9, (iv x80)), (10, (iv x81))] [(6, .tmp (.ow 44 (.pair I64 I64)) x82), (23, .var 124 TyO123 (x83, (x84, (x85, (x86, x87)))))])
theorem h32 (n : Nat) (u : Nat → Nat) : ∀ p, (∀ i, 1 ≤ u i) → Ok1 (s32 n) e32 n (M32 n) u p
  | .F a0 a1, _ => pl [] (at_code rfl ((codeK_seq (by kernel_rfl)).trans (by kernel_rfl)))
  | .E0 x157 x158 x159 x160 x161 x162, _ => pl [] (by kernel_rfl)
  | .L0 x109 x110 x111 x112 x113 x114 x115 x116 x117 x118 x119 x120, hu => hd 0 [0] hu fun m hm => (loopK_at hm).trans ((codeK_seq (by kernel_rfl)).trans ((codeK_seq (by kernel_rfl)).trans (by kernel_rfl)))
  | .Q10 x76 x77 x78 x79 x80 x81 x82 x83 x84 x85 x86 x87, _ => pl [0] (by kernel_rfl)
noncomputable def p32 (n : Nat) (a0 : List (Int × (Int × Int))) (a1 : List Int) : Option (Bool) := flow (s32 n) n (.F a0 a1)
theorem up32 {n m : Nat} (h : n ≤ m) (a0 : List (Int × (Int × Int))) (a1 : List Int) : Up (p32 n a0 a1) (p32 m a0 a1) := flow_up (nat32 n) (us32 h) h _
noncomputable def E32 (n : Nat) : Entry := mkE 32 .flat [.tree TyS38, .tree (.sh 3 I64)] [] (fun a b => p32 n a.1 a.2.1) e32
theorem ok32 (n : Nat) : EntryOk prog (E32 n) := mkE_ok (Φ := Φ32 n) (ann := a32) (n := n) (F := f32) (by kernel_rfl) (by kernel_rfl) (by kernel_rfl) (known_prog (known_cons (ok33 n) (known_cons (ok37 n) (known_cons (ok39 n) (known_cons (ok40 n) (known_cons (ok41 n) (known_cons (ok42 n) (known_cons (ok43 n) (known_cons (ok44 n) known_nil))))))))) mixed fun a b y h =>
  (show _ = M32 n (fun _ => n) (.F a.1 a.2.1) by kernel_rfl).trans (flow_sound (nat32 n) (h32 n) n _ _ y (Nat.le_refl _) (fun _ => Nat.le_refl _) h)
end Go.Am
