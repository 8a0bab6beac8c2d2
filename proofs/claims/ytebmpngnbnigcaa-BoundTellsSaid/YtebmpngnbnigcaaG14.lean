/- G14: functions as steps, printed by wip/tools/gen6.py. -/
import Derived.Test.YtebmpngnbnigcaaS1Tys
import Derived.Test.YtebmpngnbnigcaaG3
import Derived.Test.YtebmpngnbnigcaaG4a
import Derived.Test.YtebmpngnbnigcaaG4d
set_option linter.unusedVariables false
set_option linter.unusedSimpArgs false
set_option maxRecDepth 20000
set_option maxHeartbeats 0
namespace Go.Am
open Go.Proofs.Try
/-! ### F78 horarium/bound.Gaps -/
noncomputable def a78 : Ann := { draws := [(4, { order := [0, 1, 2, 3, 4, 7, 8, 9, 10, 11, 12, 13, 5, 6, 14, 15], touch := [(5, [])] }), (8, { order := [0, 1, 2, 3, 4, 5, 6, 7, 8, 9, 10, 11, 12, 13, 14] })], loops := [(0, { vars := [], sites := [5], slots := [(5, .tree TyO112), (6, .keep), (7, .keep)] })], ends := [(0, { vars := [], sites := [], slots := [(6, .keep)] })], res := [I64] }
noncomputable def e78 (y : Int) : List CRes × List CVar := ([.v I64 y], [])
noncomputable def Φ78 (n : Nat) : Prog := Prog.of [E58 n, E80 n]
inductive P78 where
  | F (a0 : List (Int × Int)) (a1 : Int)
  | E0 (x14 : Int)
  | L0 (x10 x11 : Int) (x12 : List (Int × Int))
noncomputable def s78 (n : Nat) (γ : Type) : P78 → (P78 → Option γ) → (Int → Option γ) → Option γ
  | .F a0 a1, k, r =>
    (p80 n a0 a1).bind fun y1 =>
    cond ((eqB (List.length y1 : Int) (0 : Int))) (
      r (-1 : Int)) (
      if 0 ≤ (0 : Int) then (
      if (0 : Int) < (List.length y1 : Int) then (
      if 0 ≤ (w64 ((List.length y1 : Int) - (1 : Int))) then (
      if (w64 ((List.length y1 : Int) - (1 : Int))) < (List.length y1 : Int) then (
      (p58 n a0).bind fun y2 =>
      let u3 : Int := (w64 ((List.getD y1 0 ((0 : Int), (0 : Int))).1 + y2))
      let u4 : Int := (w64 (u3 - (List.getD y1 (Int.toNat (w64 ((List.length y1 : Int) - (1 : Int)))) ((0 : Int), (0 : Int))).2))
      k (.L0 u4 (1 : Int) y1)) else none) else none) else none) else none)
  | .E0 x14, k, r =>
    r x14
  | .L0 x10 x11 x12, k, r =>
    cond ((ltB x11 (List.length x12 : Int))) (
      if 0 ≤ x11 then (
      if x11 < (List.length x12 : Int) then (
      if 0 ≤ (w64 (x11 - (1 : Int))) then (
      if (w64 (x11 - (1 : Int))) < (List.length x12 : Int) then (
      let u13 : Int := (w64 ((List.getD x12 (Int.toNat x11) ((0 : Int), (0 : Int))).1 - (List.getD x12 (Int.toNat (w64 (x11 - (1 : Int)))) ((0 : Int), (0 : Int))).2))
      k (.L0 (max x10 u13) (w64 (x11 + (1 : Int))) x12)) else none) else none) else none) else none) (
      k (.E0 x10))
theorem nat78 (n : Nat) : NatS (s78 n) := fun g p k r => by
  cases p <;> simp only [s78, bind_cond, bind_ite, bind_optK, Option.bind_assoc, Option.bind_none]
theorem us78 {n m : Nat} (h : n ≤ m) : UpS (s78 n) (s78 m) := fun γ p k r => by
  cases p <;> dsimp only [s78] <;> repeat' first | with_reducible exact up_rfl | apply up_cond | apply up_ite | apply up_bind | apply up_optK | apply up58 h | apply up80 h | intro
noncomputable def k78_0 (n : Nat)  : Ex → St → Option (List CRes × List CVar) := finK' Γ f78 a78 0
noncomputable def c78_0 : Code := partB (bodyOf f78)
noncomputable def c78_1 : Code := partB c78_0
noncomputable def c78_2 : Code := partB c78_1
noncomputable def c78_3 : Code := partB c78_2
noncomputable def c78_4 : Code := partB c78_3
noncomputable def k78_1 (n : Nat)  : Ex → St → Option (List CRes × List CVar) := seqK Γ (Φ78 n) a78 n c78_4 0 (k78_0 n)
noncomputable def c78_5 : Code := partA c78_3
noncomputable def c78_6 : Code := partB c78_5
noncomputable def c78_7 : Code := partA c78_6
noncomputable def c78_8 : Code := partA c78_7
noncomputable def k78_2 (n : Nat)  : Ex → St → Option (List CRes × List CVar) := blockK a78 0 (k78_1 n)
noncomputable def M78 (n : Nat) (u : Nat → Nat) : P78 → Option (List CRes × List CVar)
  | .F a0 a1 => stepIn (fun A => codeK Γ (Φ78 n) a78 n (bodyOf f78) 0 A (k78_0 n)) (mkSt 50 50 [(0, (.val (.sh 44 (.pair I64 I64)) a0)), (1, (iv a1))] [])
  | .E0 x14 => stepIn ((k78_1 n) .normal) (mkSt 50 50 [(6, (iv x14))] [])
  | .L0 x10 x11 x12 => stepIn (fun A => loopK Γ (Φ78 n) a78 n c78_8 0 (u 0) A (k78_2 n)) (mkSt 50 50 [(5, (.ref 5 [])), (6, (iv x10)), (7, (iv x11))] [(5, .tmp TyO112 x12)])
theorem h78 (n : Nat) (u : Nat → Nat) : ∀ p, (∀ i, 1 ≤ u i) → Ok1 (s78 n) e78 n (M78 n) u p
  | .F a0 a1, _ => pl [] (at_code rfl ((codeK_seq (by kernel_rfl)).trans (by kernel_rfl)))
  | .E0 x14, _ => pl [] (by kernel_rfl)
  | .L0 x10 x11 x12, hu => hd 0 [0] hu fun m hm => (loopK_at hm).trans ((codeK_seq (by kernel_rfl)).trans ((codeK_seq (by kernel_rfl)).trans (by kernel_rfl)))
noncomputable def p78 (n : Nat) (a0 : List (Int × Int)) (a1 : Int) : Option (Int) := flow (s78 n) n (.F a0 a1)
theorem up78 {n m : Nat} (h : n ≤ m) (a0 : List (Int × Int)) (a1 : Int) : Up (p78 n a0 a1) (p78 m a0 a1) := flow_up (nat78 n) (us78 h) h _
noncomputable def E78 (n : Nat) : Entry := mkE 78 .flat [.tree (.sh 44 (.pair I64 I64)), .tree I64] [] (fun a b => p78 n a.1 a.2.1) e78
theorem ok78 (n : Nat) : EntryOk prog (E78 n) := mkE_ok (Φ := Φ78 n) (ann := a78) (n := n) (F := f78) (by kernel_rfl) (by kernel_rfl) (by kernel_rfl) (known_prog (known_cons (ok58 n) (known_cons (ok80 n) known_nil))) mixed fun a b y h =>
  (show _ = M78 n (fun _ => n) (.F a.1 a.2.1) by kernel_rfl).trans (flow_sound (nat78 n) (h78 n) n _ _ y (Nat.le_refl _) (fun _ => Nat.le_refl _) h)
/-! ### F79 horarium/horariumref7.Gaps -/
noncomputable def a79 : Ann := { res := [I64] }
noncomputable def e79 (y : Int) : List CRes × List CVar := ([.v I64 y], [])
noncomputable def Φ79 (n : Nat) : Prog := Prog.of [E77 n]
inductive P79 where
  | F (a0 : List (Int × Int)) (a1 : Int)
noncomputable def s79 (n : Nat) (γ : Type) : P79 → (P79 → Option γ) → (Int → Option γ) → Option γ
  | .F a0 a1, k, r =>
    (p77 n a0 a1 a1).bind fun y1 =>
    cond ((ltB y1 (1 : Int))) (
      r (-1 : Int)) (
      r (w64 (y1 - (1 : Int))))
theorem nat79 (n : Nat) : NatS (s79 n) := fun g p k r => by
  cases p <;> simp only [s79, bind_cond, bind_ite, bind_optK, Option.bind_assoc, Option.bind_none]
theorem us79 {n m : Nat} (h : n ≤ m) : UpS (s79 n) (s79 m) := fun γ p k r => by
  cases p <;> dsimp only [s79] <;> repeat' first | with_reducible exact up_rfl | apply up_cond | apply up_ite | apply up_bind | apply up_optK | apply up77 h | intro
noncomputable def k79_0 (n : Nat)  : Ex → St → Option (List CRes × List CVar) := finK' Γ f79 a79 0
noncomputable def M79 (n : Nat) (u : Nat → Nat) : P79 → Option (List CRes × List CVar)
  | .F a0 a1 => stepIn (fun A => codeK Γ (Φ79 n) a79 n (bodyOf f79) 0 A (k79_0 n)) (mkSt 14 14 [(0, (.val (.sh 44 (.pair I64 I64)) a0)), (1, (iv a1))] [])
theorem h79 (n : Nat) (u : Nat → Nat) : ∀ p, (∀ i, 1 ≤ u i) → Ok1 (s79 n) e79 n (M79 n) u p
  | .F a0 a1, _ => pl [] (at_code rfl ((codeK_seq (by kernel_rfl)).trans (by kernel_rfl)))
noncomputable def p79 (n : Nat) (a0 : List (Int × Int)) (a1 : Int) : Option (Int) := flow (s79 n) n (.F a0 a1)
theorem up79 {n m : Nat} (h : n ≤ m) (a0 : List (Int × Int)) (a1 : Int) : Up (p79 n a0 a1) (p79 m a0 a1) := flow_up (nat79 n) (us79 h) h _
noncomputable def E79 (n : Nat) : Entry := mkE 79 .flat [.tree (.sh 44 (.pair I64 I64)), .tree I64] [] (fun a b => p79 n a.1 a.2.1) e79
theorem ok79 (n : Nat) : EntryOk prog (E79 n) := mkE_ok (Φ := Φ79 n) (ann := a79) (n := n) (F := f79) (by kernel_rfl) (by kernel_rfl) (by kernel_rfl) (known_prog (known_cons (ok77 n) known_nil)) mixed fun a b y h =>
  (show _ = M79 n (fun _ => n) (.F a.1 a.2.1) by kernel_rfl).trans (flow_sound (nat79 n) (h79 n) n _ _ y (Nat.le_refl _) (fun _ => Nat.le_refl _) h)
/-! ### F22 horarium/horariumlaw9.same -/
noncomputable def a22 : Ann := { res := [.bool] }
noncomputable def e22 (y : Bool) : List CRes × List CVar := ([.v .bool y], [])
noncomputable def Φ22 (n : Nat) : Prog := Prog.of [E23 n, E24 n, E76 n, E77 n, E78 n, E79 n]
inductive P22 where
  | F (a0 : List (Int × Int)) (a1 a2 a3 : Int)
noncomputable def s22 (n : Nat) (γ : Type) : P22 → (P22 → Option γ) → (Bool → Option γ) → Option γ
  | .F a0 a1 a2 a3, k, r =>
    (p76 n a0 a1 a2).bind fun y1 =>
    (p77 n a0 a1 a2).bind fun y2 =>
    cond ((eqB y1 y2)) (
      (p23 n a0 a1 a3).bind fun y3 =>
      (p24 n a0 a1 a3).bind fun y4 =>
      cond ((eqB y3 y4)) (
        (p78 n a0 a1).bind fun y5 =>
        (p79 n a0 a1).bind fun y6 =>
        r (eqB y5 y6)) (
        r false)) (
      r false)
theorem nat22 (n : Nat) : NatS (s22 n) := fun g p k r => by
  cases p <;> simp only [s22, bind_cond, bind_ite, bind_optK, Option.bind_assoc, Option.bind_none]
theorem us22 {n m : Nat} (h : n ≤ m) : UpS (s22 n) (s22 m) := fun γ p k r => by
  cases p <;> dsimp only [s22] <;> repeat' first | with_reducible exact up_rfl | apply up_cond | apply up_ite | apply up_bind | apply up_optK | apply up23 h | apply up24 h | apply up76 h | apply up77 h | apply up78 h | apply up79 h | intro
noncomputable def k22_0 (n : Nat)  : Ex → St → Option (List CRes × List CVar) := finK' Γ f22 a22 0
noncomputable def M22 (n : Nat) (u : Nat → Nat) : P22 → Option (List CRes × List CVar)
  | .F a0 a1 a2 a3 => stepIn (fun A => codeK Γ (Φ22 n) a22 n (bodyOf f22) 0 A (k22_0 n)) (mkSt 38 38 [(0, (.val (.sh 44 (.pair I64 I64)) a0)), (1, (iv a1)), (2, (iv a2)), (3, (iv a3))] [])
theorem h22 (n : Nat) (u : Nat → Nat) : ∀ p, (∀ i, 1 ≤ u i) → Ok1 (s22 n) e22 n (M22 n) u p
  | .F a0 a1 a2 a3, _ => pl [] (at_code rfl ((codeK_seq (by kernel_rfl)).trans (by kernel_rfl)))
noncomputable def p22 (n : Nat) (a0 : List (Int × Int)) (a1 a2 a3 : Int) : Option (Bool) := flow (s22 n) n (.F a0 a1 a2 a3)
theorem up22 {n m : Nat} (h : n ≤ m) (a0 : List (Int × Int)) (a1 a2 a3 : Int) : Up (p22 n a0 a1 a2 a3) (p22 m a0 a1 a2 a3) := flow_up (nat22 n) (us22 h) h _
noncomputable def E22 (n : Nat) : Entry := mkE 22 .flat [.tree (.sh 44 (.pair I64 I64)), .tree I64, .tree I64, .tree I64] [] (fun a b => p22 n a.1 a.2.1 a.2.2.1 a.2.2.2.1) e22
theorem ok22 (n : Nat) : EntryOk prog (E22 n) := mkE_ok (Φ := Φ22 n) (ann := a22) (n := n) (F := f22) (by kernel_rfl) (by kernel_rfl) (by kernel_rfl) (known_prog (known_cons (ok23 n) (known_cons (ok24 n) (known_cons (ok76 n) (known_cons (ok77 n) (known_cons (ok78 n) (known_cons (ok79 n) known_nil))))))) mixed fun a b y h =>
  (show _ = M22 n (fun _ => n) (.F a.1 a.2.1 a.2.2.1 a.2.2.2.1) by kernel_rfl).trans (flow_sound (nat22 n) (h22 n) n _ _ y (Nat.le_refl _) (fun _ => Nat.le_refl _) h)
/-! ### F29 horarium/horariumlaw9.known -/
noncomputable def a29 : Ann := { res := [.bool] }
noncomputable def Φ29 (n : Nat) : Prog := Prog.of [E23 n, E27 n, E76 n, E78 n]
noncomputable def p29 (n : Nat) : Option Bool := some true
theorem up29 {n m : Nat} (h : n ≤ m) : Up (p29 n) (p29 m) := up_rfl
noncomputable def E29 (n : Nat) : Entry := mkE 29 .flat [] [] (fun _ _ => p29 n) (fun y => ([.v .bool y], []))
theorem ok29 (n : Nat) : EntryOk prog (E29 n) := mkE_ok (Φ := Φ29 1000) (ann := a29) (n := 1000) (F := f29) (by kernel_rfl) (by kernel_rfl) (by kernel_rfl) (known_prog (known_cons (ok23 1000) (known_cons (ok27 1000) (known_cons (ok76 1000) (known_cons (ok78 1000) known_nil))))) mixed fun _ _ y h => Option.some.inj h ▸ (show den Γ (Φ29 1000) a29 f29 1000 [] [] = some ([.v .bool true], []) by kernel_rfl)
end Go.Am
