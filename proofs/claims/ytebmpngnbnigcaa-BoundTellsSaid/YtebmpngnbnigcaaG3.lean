/- G3: functions as steps, printed by wip/tools/gen6.py. -/
import Derived.Test.YtebmpngnbnigcaaS1Tys
import Derived.Test.YtebmpngnbnigcaaG1
import Derived.Test.YtebmpngnbnigcaaG2
set_option linter.unusedVariables false
set_option linter.unusedSimpArgs false
set_option maxRecDepth 20000
set_option maxHeartbeats 0
namespace Go.Am
open Go.Proofs.Try
/-! ### F75 horarium/horariumref3.Sum -/
noncomputable def a75 : Ann := { res := [I64] }
noncomputable def e75 (y : Int) : List CRes × List CVar := ([.v I64 y], [])
noncomputable def Φ75 (n : Nat) : Prog := Prog.of []
inductive P75 where
  | F (a0 a1 : Int)
noncomputable def s75 (n : Nat) (γ : Type) : P75 → (P75 → Option γ) → (Int → Option γ) → Option γ
  | .F a0 a1, k, r =>
    let u1 : Int := (w64 ((9223372036854775807 : Int) - (max a1 (0 : Int))))
    cond ((ltB u1 (max a0 (0 : Int)))) (
      r (9223372036854775807 : Int)) (
      r (w64 ((max a0 (0 : Int)) + (max a1 (0 : Int)))))
theorem nat75 (n : Nat) : NatS (s75 n) := fun g p k r => by
  cases p <;> simp only [s75, bind_cond, bind_ite, bind_optK, Option.bind_assoc, Option.bind_none]
theorem us75 {n m : Nat} (h : n ≤ m) : UpS (s75 n) (s75 m) := fun γ p k r => by
  cases p <;> dsimp only [s75] <;> repeat' first | with_reducible exact up_rfl | apply up_cond | apply up_ite | apply up_bind | apply up_optK | intro
noncomputable def k75_0 (n : Nat)  : Ex → St → Option (List CRes × List CVar) := finK' Γ f75 a75 0
noncomputable def M75 (n : Nat) (u : Nat → Nat) : P75 → Option (List CRes × List CVar)
  | .F a0 a1 => stepIn (fun A => codeK Γ (Φ75 n) a75 n (bodyOf f75) 0 A (k75_0 n)) (mkSt 16 16 [(0, (iv a0)), (1, (iv a1))] [])
theorem h75 (n : Nat) (u : Nat → Nat) : ∀ p, (∀ i, 1 ≤ u i) → Ok1 (s75 n) e75 n (M75 n) u p
  | .F a0 a1, _ => pl [] (at_code rfl ((codeK_seq (by kernel_rfl)).trans (by kernel_rfl)))
noncomputable def p75 (n : Nat) (a0 a1 : Int) : Option (Int) := flow (s75 n) n (.F a0 a1)
theorem up75 {n m : Nat} (h : n ≤ m) (a0 a1 : Int) : Up (p75 n a0 a1) (p75 m a0 a1) := flow_up (nat75 n) (us75 h) h _
noncomputable def E75 (n : Nat) : Entry := mkE 75 .flat [.tree I64, .tree I64] [] (fun a b => p75 n a.1 a.2.1) e75
theorem ok75 (n : Nat) : EntryOk prog (E75 n) := mkE_ok (Φ := Φ75 n) (ann := a75) (n := n) (F := f75) (by kernel_rfl) (by kernel_rfl) (by kernel_rfl) (known_prog known_nil) mixed fun a b y h =>
  (show _ = M75 n (fun _ => n) (.F a.1 a.2.1) by kernel_rfl).trans (flow_sound (nat75 n) (h75 n) n _ _ y (Nat.le_refl _) (fun _ => Nat.le_refl _) h)
/-! ### F103 horarium/runs.Add -/
noncomputable def a103 : Ann := { res := [I64] }
noncomputable def e103 (y : Int) : List CRes × List CVar := ([.v I64 y], [])
noncomputable def Φ103 (n : Nat) : Prog := Prog.of []
inductive P103 where
  | F (a0 a1 : Int)
noncomputable def s103 (n : Nat) (γ : Type) : P103 → (P103 → Option γ) → (Int → Option γ) → Option γ
  | .F a0 a1, k, r =>
    let u1 : Int := (w64 ((9223372036854775807 : Int) - (max (0 : Int) a1)))
    cond ((ltB u1 (max (0 : Int) a0))) (
      r (9223372036854775807 : Int)) (
      r (w64 ((max (0 : Int) a0) + (max (0 : Int) a1))))
theorem nat103 (n : Nat) : NatS (s103 n) := fun g p k r => by
  cases p <;> simp only [s103, bind_cond, bind_ite, bind_optK, Option.bind_assoc, Option.bind_none]
theorem us103 {n m : Nat} (h : n ≤ m) : UpS (s103 n) (s103 m) := fun γ p k r => by
  cases p <;> dsimp only [s103] <;> repeat' first | with_reducible exact up_rfl | apply up_cond | apply up_ite | apply up_bind | apply up_optK | intro
noncomputable def k103_0 (n : Nat)  : Ex → St → Option (List CRes × List CVar) := finK' Γ f103 a103 0
noncomputable def M103 (n : Nat) (u : Nat → Nat) : P103 → Option (List CRes × List CVar)
  | .F a0 a1 => stepIn (fun A => codeK Γ (Φ103 n) a103 n (bodyOf f103) 0 A (k103_0 n)) (mkSt 16 16 [(0, (iv a0)), (1, (iv a1))] [])
theorem h103 (n : Nat) (u : Nat → Nat) : ∀ p, (∀ i, 1 ≤ u i) → Ok1 (s103 n) e103 n (M103 n) u p
  | .F a0 a1, _ => pl [] (at_code rfl ((codeK_seq (by kernel_rfl)).trans (by kernel_rfl)))
noncomputable def p103 (n : Nat) (a0 a1 : Int) : Option (Int) := flow (s103 n) n (.F a0 a1)
theorem up103 {n m : Nat} (h : n ≤ m) (a0 a1 : Int) : Up (p103 n a0 a1) (p103 m a0 a1) := flow_up (nat103 n) (us103 h) h _
noncomputable def E103 (n : Nat) : Entry := mkE 103 .flat [.tree I64, .tree I64] [] (fun a b => p103 n a.1 a.2.1) e103
theorem ok103 (n : Nat) : EntryOk prog (E103 n) := mkE_ok (Φ := Φ103 n) (ann := a103) (n := n) (F := f103) (by kernel_rfl) (by kernel_rfl) (by kernel_rfl) (known_prog known_nil) mixed fun a b y h =>
  (show _ = M103 n (fun _ => n) (.F a.1 a.2.1) by kernel_rfl).trans (flow_sound (nat103 n) (h103 n) n _ _ y (Nat.le_refl _) (fun _ => Nat.le_refl _) h)
/-! ### F58 horarium/runs.Length -/
noncomputable def a58 : Ann := { loops := [(0, { vars := [], sites := [], slots := [(3, .keep), (6, .keep), (7, .keep), (8, .keep)] })], ends := [(0, { vars := [], sites := [], slots := [(3, .keep)] })], res := [I64] }
noncomputable def e58 (y : Int) : List CRes × List CVar := ([.v I64 y], [])
noncomputable def Φ58 (n : Nat) : Prog := Prog.of [E103 n]
inductive P58 where
  | F (a0 : List (Int × Int))
  | E0 (x12 : Int)
  | L0 (x7 : Int) (x8 : List (Int × Int)) (x9 x10 : Int)
noncomputable def s58 (n : Nat) (γ : Type) : P58 → (P58 → Option γ) → (Int → Option γ) → Option γ
  | .F a0, k, r =>
    k (.L0 (0 : Int) a0 (List.length a0 : Int) (0 : Int))
  | .E0 x12, k, r =>
    r x12
  | .L0 x7 x8 x9 x10, k, r =>
    cond ((ltB x10 x9)) (
      if 0 ≤ x10 then (
      if x10 < (List.length x8 : Int) then (
      (p103 n x7 (List.getD x8 (Int.toNat x10) ((0 : Int), (0 : Int))).2).bind fun y11 =>
      k (.L0 y11 x8 x9 (w64 (x10 + (1 : Int))))) else none) else none) (
      k (.E0 x7))
theorem nat58 (n : Nat) : NatS (s58 n) := fun g p k r => by
  cases p <;> simp only [s58, bind_cond, bind_ite, bind_optK, Option.bind_assoc, Option.bind_none]
theorem us58 {n m : Nat} (h : n ≤ m) : UpS (s58 n) (s58 m) := fun γ p k r => by
  cases p <;> dsimp only [s58] <;> repeat' first | with_reducible exact up_rfl | apply up_cond | apply up_ite | apply up_bind | apply up_optK | apply up103 h | intro
noncomputable def k58_0 (n : Nat)  : Ex → St → Option (List CRes × List CVar) := finK' Γ f58 a58 0
noncomputable def c58_0 : Code := partB (bodyOf f58)
noncomputable def c58_1 : Code := partB c58_0
noncomputable def c58_2 : Code := partB c58_1
noncomputable def k58_1 (n : Nat)  : Ex → St → Option (List CRes × List CVar) := seqK Γ (Φ58 n) a58 n c58_2 0 (k58_0 n)
noncomputable def c58_3 : Code := partA c58_1
noncomputable def c58_4 : Code := partB c58_3
noncomputable def c58_5 : Code := partA c58_4
noncomputable def c58_6 : Code := partA c58_5
noncomputable def k58_2 (n : Nat)  : Ex → St → Option (List CRes × List CVar) := blockK a58 0 (k58_1 n)
noncomputable def M58 (n : Nat) (u : Nat → Nat) : P58 → Option (List CRes × List CVar)
  | .F a0 => stepIn (fun A => codeK Γ (Φ58 n) a58 n (bodyOf f58) 0 A (k58_0 n)) (mkSt 18 18 [(0, (.val (.sh 44 (.pair I64 I64)) a0))] [])
  | .E0 x12 => stepIn ((k58_1 n) .normal) (mkSt 18 18 [(3, (iv x12))] [])
  | .L0 x7 x8 x9 x10 => stepIn (fun A => loopK Γ (Φ58 n) a58 n c58_6 0 (u 0) A (k58_2 n)) (mkSt 18 18 [(3, (iv x7)), (6, (.val (.sh 44 (.pair I64 I64)) x8)), (7, (iv x9)), (8, (iv x10))] [])
theorem h58 (n : Nat) (u : Nat → Nat) : ∀ p, (∀ i, 1 ≤ u i) → Ok1 (s58 n) e58 n (M58 n) u p
  | .F a0, _ => pl [] (at_code rfl ((codeK_seq (by kernel_rfl)).trans (by kernel_rfl)))
  | .E0 x12, _ => pl [] (by kernel_rfl)
  | .L0 x7 x8 x9 x10, hu => hd 0 [0] hu fun m hm => (loopK_at hm).trans ((codeK_seq (by kernel_rfl)).trans (by kernel_rfl))
noncomputable def p58 (n : Nat) (a0 : List (Int × Int)) : Option (Int) := flow (s58 n) n (.F a0)
theorem up58 {n m : Nat} (h : n ≤ m) (a0 : List (Int × Int)) : Up (p58 n a0) (p58 m a0) := flow_up (nat58 n) (us58 h) h _
noncomputable def E58 (n : Nat) : Entry := mkE 58 .flat [.tree (.sh 44 (.pair I64 I64))] [] (fun a b => p58 n a.1) e58
theorem ok58 (n : Nat) : EntryOk prog (E58 n) := mkE_ok (Φ := Φ58 n) (ann := a58) (n := n) (F := f58) (by kernel_rfl) (by kernel_rfl) (by kernel_rfl) (known_prog (known_cons (ok103 n) known_nil)) mixed fun a b y h =>
  (show _ = M58 n (fun _ => n) (.F a.1) by kernel_rfl).trans (flow_sound (nat58 n) (h58 n) n _ _ y (Nat.le_refl _) (fun _ => Nat.le_refl _) h)
/-! ### F48 horarium/horariumref3.Tidy -/
noncomputable def a48 : Ann := { draws := [(7, { order := [0, 1, 2, 3, 4, 5, 6, 7, 8, 9, 10, 11, 12] }), (8, { order := [0, 1, 2, 3, 4, 5, 6, 7, 8, 9, 10, 11, 12, 13, 14], touch := [(11, []), (14, [3])] })], loops := [(0, { vars := [], sites := [3], slots := [(3, .tree (.ow 44 (.pair I64 I64))), (7, .keep), (8, .keep), (9, .keep)] })], ends := [(0, { vars := [], sites := [3], slots := [(3, .tree (.ow 44 (.pair I64 I64)))] })], res := [(.ow 44 (.pair I64 I64))] }
noncomputable def e48 (y : List (Int × Int)) : List CRes × List CVar := ([.v (.ow 44 (.pair I64 I64)) y], [])
noncomputable def Φ48 (n : Nat) : Prog := Prog.of [E75 n]
inductive P48 where
  | F (a0 : List (Int × Int))
  | E0 (x21 : List (Int × Int))
  | L0 (x11 : List (Int × Int)) (x12 x13 : Int) (x14 : List (Int × Int))
noncomputable def s48 (n : Nat) (γ : Type) : P48 → (P48 → Option γ) → ((List (Int × Int)) → Option γ) → Option γ
  | .F a0, k, r =>
    k (.L0 a0 (List.length a0 : Int) (0 : Int) ([] : (List (Int × Int))))
  | .E0 x21, k, r =>
    r x21
  | .L0 x11 x12 x13 x14, k, r =>
    cond ((ltB x13 x12)) (
      if 0 ≤ x13 then (
      if x13 < (List.length x11 : Int) then (
      let u15 : Bool := (ltB (List.getD x11 (Int.toNat x13) ((0 : Int), (0 : Int))).2 (1 : Int))
      cond (u15) (
        k (.L0 x11 x12 (w64 (x13 + (1 : Int))) x14)) (
        cond ((ltB (0 : Int) (List.length x14 : Int))) (
          if 0 ≤ (w64 ((List.length x14 : Int) - (1 : Int))) then (
          if (w64 ((List.length x14 : Int) - (1 : Int))) < (List.length x14 : Int) then (
          let u16 : Bool := (eqB (List.getD x14 (Int.toNat (w64 ((List.length x14 : Int) - (1 : Int)))) ((0 : Int), (0 : Int))).1 (List.getD x11 (Int.toNat x13) ((0 : Int), (0 : Int))).1)
          cond (u16) (
            if 0 ≤ (w64 ((List.length x14 : Int) - (1 : Int))) then (
            if (w64 ((List.length x14 : Int) - (1 : Int))) < (List.length x14 : Int) then (
            (p75 n (List.getD x14 (Int.toNat (w64 ((List.length x14 : Int) - (1 : Int)))) ((0 : Int), (0 : Int))).2 (List.getD x11 (Int.toNat x13) ((0 : Int), (0 : Int))).2).bind fun y17 =>
            if 0 ≤ (w64 ((List.length x14 : Int) - (1 : Int))) then (
            if (w64 ((List.length x14 : Int) - (1 : Int))) < (List.length x14 : Int) then (
            let u18 : List (Int × Int) := (List.set x14 (Int.toNat (w64 ((List.length x14 : Int) - (1 : Int)))) ((List.getD x14 (Int.toNat (w64 ((List.length x14 : Int) - (1 : Int)))) ((0 : Int), (0 : Int))).1, y17))
            k (.L0 x11 x12 (w64 (x13 + (1 : Int))) u18)) else none) else none) else none) else none) (
            if (List.length x14 + List.length [(List.getD x11 (Int.toNat x13) ((0 : Int), (0 : Int)))]) * 16 ≤ 140737488355328 then (
            let u19 : List (Int × Int) := (x14 ++ [(List.getD x11 (Int.toNat x13) ((0 : Int), (0 : Int)))])
            k (.L0 x11 x12 (w64 (x13 + (1 : Int))) u19)) else none)) else none) else none) (
          if (List.length x14 + List.length [(List.getD x11 (Int.toNat x13) ((0 : Int), (0 : Int)))]) * 16 ≤ 140737488355328 then (
          let u20 : List (Int × Int) := (x14 ++ [(List.getD x11 (Int.toNat x13) ((0 : Int), (0 : Int)))])
          k (.L0 x11 x12 (w64 (x13 + (1 : Int))) u20)) else none))) else none) else none) (
      k (.E0 x14))
theorem nat48 (n : Nat) : NatS (s48 n) := fun g p k r => by
  cases p <;> simp only [s48, bind_cond, bind_ite, bind_optK, Option.bind_assoc, Option.bind_none]
theorem us48 {n m : Nat} (h : n ≤ m) : UpS (s48 n) (s48 m) := fun γ p k r => by
  cases p <;> dsimp only [s48] <;> repeat' first | with_reducible exact up_rfl | apply up_cond | apply up_ite | apply up_bind | apply up_optK | apply up75 h | intro
noncomputable def k48_0 (n : Nat)  : Ex → St → Option (List CRes × List CVar) := finK' Γ f48 a48 0
noncomputable def c48_0 : Code := partB (bodyOf f48)
noncomputable def c48_1 : Code := partB c48_0
noncomputable def c48_2 : Code := partB c48_1
noncomputable def k48_1 (n : Nat)  : Ex → St → Option (List CRes × List CVar) := seqK Γ (Φ48 n) a48 n c48_2 0 (k48_0 n)
noncomputable def c48_3 : Code := partA c48_1
noncomputable def c48_4 : Code := partB c48_3
noncomputable def c48_5 : Code := partA c48_4
noncomputable def c48_6 : Code := partA c48_5
noncomputable def k48_2 (n : Nat)  : Ex → St → Option (List CRes × List CVar) := blockK a48 0 (k48_1 n)
noncomputable def M48 (n : Nat) (u : Nat → Nat) : P48 → Option (List CRes × List CVar)
  | .F a0 => stepIn (fun A => codeK Γ (Φ48 n) a48 n (bodyOf f48) 0 A (k48_0 n)) (mkSt 51 51 [(0, (.val (.sh 44 (.pair I64 I64)) a0))] [])
  | .E0 x21 => stepIn ((k48_1 n) .normal) (mkSt 51 51 [(3, (.ref 3 []))] [(3, .tmp (.ow 44 (.pair I64 I64)) x21)])
  | .L0 x11 x12 x13 x14 => stepIn (fun A => loopK Γ (Φ48 n) a48 n c48_6 0 (u 0) A (k48_2 n)) (mkSt 51 51 [(3, (.ref 3 [])), (7, (.val (.sh 44 (.pair I64 I64)) x11)), (8, (iv x12)), (9, (iv x13))] [(3, .tmp (.ow 44 (.pair I64 I64)) x14)])
theorem h48 (n : Nat) (u : Nat → Nat) : ∀ p, (∀ i, 1 ≤ u i) → Ok1 (s48 n) e48 n (M48 n) u p
  | .F a0, _ => pl [] (at_code rfl ((codeK_seq (by kernel_rfl)).trans (by kernel_rfl)))
  | .E0 x21, _ => pl [] (by kernel_rfl)
  | .L0 x11 x12 x13 x14, hu => hd 0 [0] hu fun m hm => (loopK_at hm).trans ((codeK_seq (by kernel_rfl)).trans (by kernel_rfl))
noncomputable def p48 (n : Nat) (a0 : List (Int × Int)) : Option (List (Int × Int)) := flow (s48 n) n (.F a0)
theorem up48 {n m : Nat} (h : n ≤ m) (a0 : List (Int × Int)) : Up (p48 n a0) (p48 m a0) := flow_up (nat48 n) (us48 h) h _
noncomputable def E48 (n : Nat) : Entry := mkE 48 .look [.tree (.sh 44 (.pair I64 I64))] [] (fun a b => p48 n a.1) e48
theorem ok48 (n : Nat) : EntryOk prog (E48 n) := mkE_ok (Φ := Φ48 n) (ann := a48) (n := n) (F := f48) (by kernel_rfl) (by kernel_rfl) (by kernel_rfl) (known_prog (known_cons (ok75 n) known_nil)) mixed fun a b y h =>
  (show _ = M48 n (fun _ => n) (.F a.1) by kernel_rfl).trans (flow_sound (nat48 n) (h48 n) n _ _ y (Nat.le_refl _) (fun _ => Nat.le_refl _) h)
/-! ### F26 horarium/horariumref3.Of -/
noncomputable def a26 : Ann := { res := [(.ow 44 (.pair I64 I64)), I64] }
noncomputable def e26 (y : (List (Int × Int)) × Int) : List CRes × List CVar := ([.v (.ow 44 (.pair I64 I64)) y.1, .v I64 y.2], [])
noncomputable def Φ26 (n : Nat) : Prog := Prog.of [E37 n, E48 n, E84 n]
inductive P26 where
  | F (a0 : List (Int × (Int × Int)))
noncomputable def s26 (n : Nat) (γ : Type) : P26 → (P26 → Option γ) → ((List (Int × Int)) × Int → Option γ) → Option γ
  | .F a0, k, r =>
    (p37 n a0).bind fun y1 =>
    cond ((!eqB y1 (0 : Int))) (
      r (([] : (List (Int × Int))), y1)) (
      (p84 n a0).bind fun y2 =>
      (p48 n y2).bind fun y3 =>
      cond ((ltB (96 : Int) (List.length y3 : Int))) (
        r (([] : (List (Int × Int))), (3 : Int))) (
        r (y3, (0 : Int))))
theorem nat26 (n : Nat) : NatS (s26 n) := fun g p k r => by
  cases p <;> simp only [s26, bind_cond, bind_ite, bind_optK, Option.bind_assoc, Option.bind_none]
theorem us26 {n m : Nat} (h : n ≤ m) : UpS (s26 n) (s26 m) := fun γ p k r => by
  cases p <;> dsimp only [s26] <;> repeat' first | with_reducible exact up_rfl | apply up_cond | apply up_ite | apply up_bind | apply up_optK | apply up37 h | apply up48 h | apply up84 h | intro
noncomputable def k26_0 (n : Nat)  : Ex → St → Option (List CRes × List CVar) := finK' Γ f26 a26 0
noncomputable def M26 (n : Nat) (u : Nat → Nat) : P26 → Option (List CRes × List CVar)
  | .F a0 => stepIn (fun A => codeK Γ (Φ26 n) a26 n (bodyOf f26) 0 A (k26_0 n)) (mkSt 18 18 [(0, (.val TyS38 a0))] [])
theorem h26 (n : Nat) (u : Nat → Nat) : ∀ p, (∀ i, 1 ≤ u i) → Ok1 (s26 n) e26 n (M26 n) u p
  | .F a0, _ => pl [] (at_code rfl ((codeK_seq (by kernel_rfl)).trans (by kernel_rfl)))
noncomputable def p26 (n : Nat) (a0 : List (Int × (Int × Int))) : Option ((List (Int × Int)) × Int) := flow (s26 n) n (.F a0)
theorem up26 {n m : Nat} (h : n ≤ m) (a0 : List (Int × (Int × Int))) : Up (p26 n a0) (p26 m a0) := flow_up (nat26 n) (us26 h) h _
noncomputable def E26 (n : Nat) : Entry := mkE 26 .look [.tree TyS38] [] (fun a b => p26 n a.1) e26
theorem ok26 (n : Nat) : EntryOk prog (E26 n) := mkE_ok (Φ := Φ26 n) (ann := a26) (n := n) (F := f26) (by kernel_rfl) (by kernel_rfl) (by kernel_rfl) (known_prog (known_cons (ok37 n) (known_cons (ok48 n) (known_cons (ok84 n) known_nil)))) mixed fun a b y h =>
  (show _ = M26 n (fun _ => n) (.F a.1) by kernel_rfl).trans (flow_sound (nat26 n) (h26 n) n _ _ y (Nat.le_refl _) (fun _ => Nat.le_refl _) h)
end Go.Am
