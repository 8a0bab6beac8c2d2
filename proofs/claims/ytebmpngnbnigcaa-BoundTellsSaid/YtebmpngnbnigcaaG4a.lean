/- G4a: functions as steps, printed by wip/tools/gen6.py. -/
import Derived.Test.YtebmpngnbnigcaaS1Tys
import Derived.Test.YtebmpngnbnigcaaG1
import Derived.Test.YtebmpngnbnigcaaG3
set_option linter.unusedVariables false
set_option linter.unusedSimpArgs false
set_option maxRecDepth 20000
set_option maxHeartbeats 0
namespace Go.Am
open Go.Proofs.Try
/-! ### F21 horarium/horariumref3.Total -/
noncomputable def a21 : Ann := { loops := [(0, { vars := [], sites := [], slots := [(3, .keep), (6, .keep), (7, .keep), (8, .keep)] })], ends := [(0, { vars := [], sites := [], slots := [(3, .keep)] })], res := [I64] }
noncomputable def e21 (y : Int) : List CRes × List CVar := ([.v I64 y], [])
noncomputable def Φ21 (n : Nat) : Prog := Prog.of [E75 n]
inductive P21 where
  | F (a0 : List (Int × Int))
  | E0 (x12 : Int)
  | L0 (x7 : Int) (x8 : List (Int × Int)) (x9 x10 : Int)
noncomputable def s21 (n : Nat) (γ : Type) : P21 → (P21 → Option γ) → (Int → Option γ) → Option γ
  | .F a0, k, r =>
    k (.L0 (0 : Int) a0 (List.length a0 : Int) (0 : Int))
  | .E0 x12, k, r =>
    r x12
  | .L0 x7 x8 x9 x10, k, r =>
    cond ((ltB x10 x9)) (
      if 0 ≤ x10 then (
      if x10 < (List.length x8 : Int) then (
      (p75 n x7 (List.getD x8 (Int.toNat x10) ((0 : Int), (0 : Int))).2).bind fun y11 =>
      k (.L0 y11 x8 x9 (w64 (x10 + (1 : Int))))) else none) else none) (
      k (.E0 x7))
theorem nat21 (n : Nat) : NatS (s21 n) := fun g p k r => by
  cases p <;> simp only [s21, bind_cond, bind_ite, bind_optK, Option.bind_assoc, Option.bind_none]
theorem us21 {n m : Nat} (h : n ≤ m) : UpS (s21 n) (s21 m) := fun γ p k r => by
  cases p <;> dsimp only [s21] <;> repeat' first | with_reducible exact up_rfl | apply up_cond | apply up_ite | apply up_bind | apply up_optK | apply up75 h | intro
noncomputable def k21_0 (n : Nat)  : Ex → St → Option (List CRes × List CVar) := finK' Γ f21 a21 0
noncomputable def c21_0 : Code := partB (bodyOf f21)
noncomputable def c21_1 : Code := partB c21_0
noncomputable def c21_2 : Code := partB c21_1
noncomputable def k21_1 (n : Nat)  : Ex → St → Option (List CRes × List CVar) := seqK Γ (Φ21 n) a21 n c21_2 0 (k21_0 n)
noncomputable def c21_3 : Code := partA c21_1
noncomputable def c21_4 : Code := partB c21_3
noncomputable def c21_5 : Code := partA c21_4
noncomputable def c21_6 : Code := partA c21_5
noncomputable def k21_2 (n : Nat)  : Ex → St → Option (List CRes × List CVar) := blockK a21 0 (k21_1 n)
noncomputable def M21 (n : Nat) (u : Nat → Nat) : P21 → Option (List CRes × List CVar)
  | .F a0 => stepIn (fun A => codeK Γ (Φ21 n) a21 n (bodyOf f21) 0 A (k21_0 n)) (mkSt 18 18 [(0, (.val (.sh 44 (.pair I64 I64)) a0))] [])
  | .E0 x12 => stepIn ((k21_1 n) .normal) (mkSt 18 18 [(3, (iv x12))] [])
  | .L0 x7 x8 x9 x10 => stepIn (fun A => loopK Γ (Φ21 n) a21 n c21_6 0 (u 0) A (k21_2 n)) (mkSt 18 18 [(3, (iv x7)), (6, (.val (.sh 44 (.pair I64 I64)) x8)), (7, (iv x9)), (8, (iv x10))] [])
theorem h21 (n : Nat) (u : Nat → Nat) : ∀ p, (∀ i, 1 ≤ u i) → Ok1 (s21 n) e21 n (M21 n) u p
  | .F a0, _ => pl [] (at_code rfl ((codeK_seq (by kernel_rfl)).trans (by kernel_rfl)))
  | .E0 x12, _ => pl [] (by kernel_rfl)
  | .L0 x7 x8 x9 x10, hu => hd 0 [0] hu fun m hm => (loopK_at hm).trans ((codeK_seq (by kernel_rfl)).trans (by kernel_rfl))
noncomputable def p21 (n : Nat) (a0 : List (Int × Int)) : Option (Int) := flow (s21 n) n (.F a0)
theorem up21 {n m : Nat} (h : n ≤ m) (a0 : List (Int × Int)) : Up (p21 n a0) (p21 m a0) := flow_up (nat21 n) (us21 h) h _
noncomputable def E21 (n : Nat) : Entry := mkE 21 .flat [.tree (.sh 44 (.pair I64 I64))] [] (fun a b => p21 n a.1) e21
theorem ok21 (n : Nat) : EntryOk prog (E21 n) := mkE_ok (Φ := Φ21 n) (ann := a21) (n := n) (F := f21) (by kernel_rfl) (by kernel_rfl) (by kernel_rfl) (known_prog (known_cons (ok75 n) known_nil)) mixed fun a b y h =>
  (show _ = M21 n (fun _ => n) (.F a.1) by kernel_rfl).trans (flow_sound (nat21 n) (h21 n) n _ _ y (Nat.le_refl _) (fun _ => Nat.le_refl _) h)
/-! ### F80 horarium/bound.spans -/
noncomputable def a80 : Ann := { loops := [(0, { vars := [], sites := [5], slots := [(1, .keep), (5, .tree TyO112), (6, .keep), (10, .keep), (11, .keep), (12, .keep)] })], ends := [(0, { vars := [], sites := [5], slots := [(5, .tree TyO112)] })], res := [TyO112] }
noncomputable def e80 (y : List (Int × Int)) : List CRes × List CVar := ([.v TyO112 y], [])
noncomputable def Φ80 (n : Nat) : Prog := Prog.of [E103 n]
inductive P80 where
  | F (a0 : List (Int × Int)) (a1 : Int)
  | E0 (x18 : List (Int × Int))
  | L0 (x10 x11 : Int) (x12 : List (Int × Int)) (x13 x14 : Int) (x15 : List (Int × Int))
noncomputable def s80 (n : Nat) (γ : Type) : P80 → (P80 → Option γ) → ((List (Int × Int)) → Option γ) → Option γ
  | .F a0 a1, k, r =>
    k (.L0 a1 (0 : Int) a0 (List.length a0 : Int) (0 : Int) ([] : (List (Int × Int))))
  | .E0 x18, k, r =>
    r x18
  | .L0 x10 x11 x12 x13 x14 x15, k, r =>
    cond ((ltB x14 x13)) (
      if 0 ≤ x14 then (
      if x14 < (List.length x12 : Int) then (
      (p103 n x11 (List.getD x12 (Int.toNat x14) ((0 : Int), (0 : Int))).2).bind fun y16 =>
      let u17 : Bool := (eqB (List.getD x12 (Int.toNat x14) ((0 : Int), (0 : Int))).1 x10)
      cond (u17) (
        cond ((ltB x11 y16)) (
          if (List.length x15 + List.length [(x11, y16)]) * 16 ≤ 140737488355328 then (
          k (.L0 x10 y16 x12 x13 (w64 (x14 + (1 : Int))) (x15 ++ [(x11, y16)]))) else none) (
          k (.L0 x10 y16 x12 x13 (w64 (x14 + (1 : Int))) x15))) (
        k (.L0 x10 y16 x12 x13 (w64 (x14 + (1 : Int))) x15))) else none) else none) (
      k (.E0 x15))
theorem nat80 (n : Nat) : NatS (s80 n) := fun g p k r => by
  cases p <;> simp only [s80, bind_cond, bind_ite, bind_optK, Option.bind_assoc, Option.bind_none]
theorem us80 {n m : Nat} (h : n ≤ m) : UpS (s80 n) (s80 m) := fun γ p k r => by
  cases p <;> dsimp only [s80] <;> repeat' first | with_reducible exact up_rfl | apply up_cond | apply up_ite | apply up_bind | apply up_optK | apply up103 h | intro
noncomputable def k80_0 (n : Nat)  : Ex → St → Option (List CRes × List CVar) := finK' Γ f80 a80 0
noncomputable def c80_0 : Code := partB (bodyOf f80)
noncomputable def c80_1 : Code := partB c80_0
noncomputable def c80_2 : Code := partB c80_1
noncomputable def c80_3 : Code := partB c80_2
noncomputable def k80_1 (n : Nat)  : Ex → St → Option (List CRes × List CVar) := seqK Γ (Φ80 n) a80 n c80_3 0 (k80_0 n)
noncomputable def c80_4 : Code := partA c80_2
noncomputable def c80_5 : Code := partB c80_4
noncomputable def c80_6 : Code := partA c80_5
noncomputable def c80_7 : Code := partA c80_6
noncomputable def k80_2 (n : Nat)  : Ex → St → Option (List CRes × List CVar) := blockK a80 0 (k80_1 n)
noncomputable def M80 (n : Nat) (u : Nat → Nat) : P80 → Option (List CRes × List CVar)
  | .F a0 a1 => stepIn (fun A => codeK Γ (Φ80 n) a80 n (bodyOf f80) 0 A (k80_0 n)) (mkSt 38 38 [(0, (.val (.sh 44 (.pair I64 I64)) a0)), (1, (iv a1))] [])
  | .E0 x18 => stepIn ((k80_1 n) .normal) (mkSt 38 38 [(5, (.ref 5 []))] [(5, .tmp TyO112 x18)])
  | .L0 x10 x11 x12 x13 x14 x15 => stepIn (fun A => loopK Γ (Φ80 n) a80 n c80_7 0 (u 0) A (k80_2 n)) (mkSt 38 38 [(1, (iv x10)), (5, (.ref 5 [])), (6, (iv x11)), (10, (.val (.sh 44 (.pair I64 I64)) x12)), (11, (iv x13)), (12, (iv x14))] [(5, .tmp TyO112 x15)])
theorem h80 (n : Nat) (u : Nat → Nat) : ∀ p, (∀ i, 1 ≤ u i) → Ok1 (s80 n) e80 n (M80 n) u p
  | .F a0 a1, _ => pl [] (at_code rfl ((codeK_seq (by kernel_rfl)).trans (by kernel_rfl)))
  | .E0 x18, _ => pl [] (by kernel_rfl)
  | .L0 x10 x11 x12 x13 x14 x15, hu => hd 0 [0] hu fun m hm => (loopK_at hm).trans ((codeK_seq (by kernel_rfl)).trans (by kernel_rfl))
noncomputable def p80 (n : Nat) (a0 : List (Int × Int)) (a1 : Int) : Option (List (Int × Int)) := flow (s80 n) n (.F a0 a1)
theorem up80 {n m : Nat} (h : n ≤ m) (a0 : List (Int × Int)) (a1 : Int) : Up (p80 n a0 a1) (p80 m a0 a1) := flow_up (nat80 n) (us80 h) h _
noncomputable def E80 (n : Nat) : Entry := mkE 80 .look [.tree (.sh 44 (.pair I64 I64)), .tree I64] [] (fun a b => p80 n a.1 a.2.1) e80
theorem ok80 (n : Nat) : EntryOk prog (E80 n) := mkE_ok (Φ := Φ80 n) (ann := a80) (n := n) (F := f80) (by kernel_rfl) (by kernel_rfl) (by kernel_rfl) (known_prog (known_cons (ok103 n) known_nil)) mixed fun a b y h =>
  (show _ = M80 n (fun _ => n) (.F a.1 a.2.1) by kernel_rfl).trans (flow_sound (nat80 n) (h80 n) n _ _ y (Nat.le_refl _) (fun _ => Nat.le_refl _) h)
/-! ### F133 horarium/bound.next -/
noncomputable def a133 : Ann := { loops := [(0, { vars := [], sites := [], slots := [(0, .keep), (1, .keep), (2, .keep), (9, .keep), (10, .keep), (11, .keep)] })], ends := [(0, { vars := [], sites := [], slots := [(0, .keep), (2, .keep)] })], res := [I64] }
noncomputable def e133 (y : Int) : List CRes × List CVar := ([.v I64 y], [])
noncomputable def Φ133 (n : Nat) : Prog := Prog.of []
inductive P133 where
  | F (a0 : List (Int × Int)) (a1 a2 : Int)
  | E0 (x19 : List (Int × Int)) (x20 : Int)
  | L0 (x11 : List (Int × Int)) (x12 x13 : Int) (x14 : List (Int × Int)) (x15 x16 : Int)
noncomputable def s133 (n : Nat) (γ : Type) : P133 → (P133 → Option γ) → (Int → Option γ) → Option γ
  | .F a0 a1 a2, k, r =>
    k (.L0 a0 a1 a2 a0 (List.length a0 : Int) (0 : Int))
  | .E0 x19 x20, k, r =>
    if 0 ≤ (0 : Int) then (
    if (0 : Int) < (List.length x19 : Int) then (
    let u21 : Int := (w64 (x20 + (List.getD x19 0 ((0 : Int), (0 : Int))).1))
    r u21) else none) else none
  | .L0 x11 x12 x13 x14 x15 x16, k, r =>
    cond ((ltB x16 x15)) (
      if 0 ≤ x16 then (
      if x16 < (List.length x14 : Int) then (
      let u17 : Bool := (ltB (w64 (x12 + (1 : Int))) (List.getD x14 (Int.toNat x16) ((0 : Int), (0 : Int))).2)
      cond (u17) (
        let u18 : Int := (max (w64 (x12 + (1 : Int))) (List.getD x14 (Int.toNat x16) ((0 : Int), (0 : Int))).1)
        r u18) (
        k (.L0 x11 x12 x13 x14 x15 (w64 (x16 + (1 : Int)))))) else none) else none) (
      k (.E0 x11 x13))
theorem nat133 (n : Nat) : NatS (s133 n) := fun g p k r => by
  cases p <;> simp only [s133, bind_cond, bind_ite, bind_optK, Option.bind_assoc, Option.bind_none]
theorem us133 {n m : Nat} (h : n ≤ m) : UpS (s133 n) (s133 m) := fun γ p k r => by
  cases p <;> dsimp only [s133] <;> repeat' first | with_reducible exact up_rfl | apply up_cond | apply up_ite | apply up_bind | apply up_optK | intro
noncomputable def k133_0 (n : Nat)  : Ex → St → Option (List CRes × List CVar) := finK' Γ f133 a133 0
noncomputable def c133_0 : Code := partB (bodyOf f133)
noncomputable def c133_1 : Code := partB c133_0
noncomputable def k133_1 (n : Nat)  : Ex → St → Option (List CRes × List CVar) := seqK Γ (Φ133 n) a133 n c133_1 0 (k133_0 n)
noncomputable def c133_2 : Code := partA c133_0
noncomputable def c133_3 : Code := partB c133_2
noncomputable def c133_4 : Code := partA c133_3
noncomputable def c133_5 : Code := partA c133_4
noncomputable def k133_2 (n : Nat)  : Ex → St → Option (List CRes × List CVar) := blockK a133 0 (k133_1 n)
noncomputable def M133 (n : Nat) (u : Nat → Nat) : P133 → Option (List CRes × List CVar)
  | .F a0 a1 a2 => stepIn (fun A => codeK Γ (Φ133 n) a133 n (bodyOf f133) 0 A (k133_0 n)) (mkSt 32 32 [(0, (.val TyS112 a0)), (1, (iv a1)), (2, (iv a2))] [])
  | .E0 x19 x20 => stepIn ((k133_1 n) .normal) (mkSt 32 32 [(0, (.val TyS112 x19)), (2, (iv x20))] [])
  | .L0 x11 x12 x13 x14 x15 x16 => stepIn (fun A => loopK Γ (Φ133 n) a133 n c133_5 0 (u 0) A (k133_2 n)) (mkSt 32 32 [(0, (.val TyS112 x11)), (1, (iv x12)), (2, (iv x13)), (9, (.val TyS112 x14)), (10, (iv x15)), (11, (iv x16))] [])
theorem h133 (n : Nat) (u : Nat → Nat) : ∀ p, (∀ i, 1 ≤ u i) → Ok1 (s133 n) e133 n (M133 n) u p
  | .F a0 a1 a2, _ => pl [] (at_code rfl ((codeK_seq (by kernel_rfl)).trans (by kernel_rfl)))
  | .E0 x19 x20, _ => pl [] (by kernel_rfl)
  | .L0 x11 x12 x13 x14 x15 x16, hu => hd 0 [0] hu fun m hm => (loopK_at hm).trans ((codeK_seq (by kernel_rfl)).trans (by kernel_rfl))
noncomputable def p133 (n : Nat) (a0 : List (Int × Int)) (a1 a2 : Int) : Option (Int) := flow (s133 n) n (.F a0 a1 a2)
theorem up133 {n m : Nat} (h : n ≤ m) (a0 : List (Int × Int)) (a1 a2 : Int) : Up (p133 n a0 a1 a2) (p133 m a0 a1 a2) := flow_up (nat133 n) (us133 h) h _
noncomputable def E133 (n : Nat) : Entry := mkE 133 .flat [.tree TyS112, .tree I64, .tree I64] [] (fun a b => p133 n a.1 a.2.1 a.2.2.1) e133
theorem ok133 (n : Nat) : EntryOk prog (E133 n) := mkE_ok (Φ := Φ133 n) (ann := a133) (n := n) (F := f133) (by kernel_rfl) (by kernel_rfl) (by kernel_rfl) (known_prog known_nil) mixed fun a b y h =>
  (show _ = M133 n (fun _ => n) (.F a.1 a.2.1 a.2.2.1) by kernel_rfl).trans (flow_sound (nat133 n) (h133 n) n _ _ y (Nat.le_refl _) (fun _ => Nat.le_refl _) h)
/-! ### F76 horarium/bound.Late -/
noncomputable def a76 : Ann := { loops := [(1, { vars := [], sites := [8, 31], slots := [(8, .tree TyO112), (9, .keep), (10, .keep), (31, .tree TyO112), (32, .keep), (33, .keep)] }), (3, { vars := [], sites := [8, 31, 42], slots := [(8, .tree TyO112), (9, .keep), (10, .keep), (31, .tree TyO112), (32, .keep), (33, .keep), (42, .tree (.ow 2 I64)), (43, .keep), (44, .keep)] })], ends := [(1, { vars := [], sites := [], slots := [(10, .keep)] }), (3, { vars := [], sites := [8, 31], slots := [(8, .tree TyO112), (9, .keep), (10, .keep), (31, .tree TyO112), (32, .keep), (33, .keep)] })], heads := [(10, { vars := [], sites := [8, 31], slots := [(8, .tree TyO112), (9, .keep), (10, .keep), (31, .tree TyO112), (32, .keep), (33, .keep)] })], res := [I64] }
noncomputable def e76 (y : Int) : List CRes × List CVar := ([.v I64 y], [])
noncomputable def Φ76 (n : Nat) : Prog := Prog.of [E58 n, E80 n, E133 n]
inductive P76 where
  | F (a0 : List (Int × Int)) (a1 a2 : Int)
  | E1 (x92 : Int)
  | L1 (x86 x87 x88 x89 : Int) (x90 x91 : List (Int × Int))
  | E3 (x80 x81 x82 x83 : Int) (x84 x85 : List (Int × Int))
  | L3 (x69 x70 x71 x72 x73 x74 : Int) (x75 x76 : List (Int × Int)) (x77 : List Int)
  | Q10 (x48 x49 x50 x51 : Int) (x52 x53 : List (Int × Int))
noncomputable def s76 (n : Nat) (γ : Type) : P76 → (P76 → Option γ) → (Int → Option γ) → Option γ
  | .F a0 a1 a2, k, r =>
    (p80 n a0 a1).bind fun y1 =>
    (p80 n a0 a2).bind fun y2 =>
    cond ((eqB (List.length y1 : Int) (0 : Int))) (
      r (0 : Int)) (
      cond ((eqB (List.length y2 : Int) (0 : Int))) (
        r (-1 : Int)) (
        (p58 n a0).bind fun y3 =>
        k (.L1 y3 (0 : Int) (List.length y1 : Int) (0 : Int) y2 y1)))
  | .E1 x92, k, r =>
    r x92
  | .L1 x86 x87 x88 x89 x90 x91, k, r =>
    cond ((ltB x89 x88)) (
      k (.Q10 x86 x87 x88 x89 x90 x91)) (
      k (.E1 x87))
  | .E3 x80 x81 x82 x83 x84 x85, k, r =>
    k (.L1 x80 x81 x82 (w64 (x83 + (1 : Int))) x84 x85)
  | .L3 x69 x70 x71 x72 x73 x74 x75 x76 x77, k, r =>
    cond ((ltB x74 x73)) (
      if 0 ≤ x74 then (
      if x74 < (List.length x77 : Int) then (
      (p133 n x75 (List.getD x77 (Int.toNat x74) (0 : Int)) x69).bind fun y94 =>
      let u95 : Int := (w64 (y94 - (List.getD x77 (Int.toNat x74) (0 : Int))))
      k (.L3 x69 (max x70 u95) x71 x72 x73 (w64 (x74 + (1 : Int))) x75 x76 x77)) else none) else none) (
      k (.E3 x69 x70 x71 x72 x75 x76))
  | .Q10 x48 x49 x50 x51 x52 x53, k, r =>
    if 0 ≤ x51 then (
    if x51 < (List.length x53 : Int) then (
    let u93 : Int := (w64 ((List.getD x53 (Int.toNat x51) ((0 : Int), (0 : Int))).2 - (1 : Int)))
    k (.L3 x48 x49 x50 x51 (List.length [(List.getD x53 (Int.toNat x51) ((0 : Int), (0 : Int))).1, u93] : Int) (0 : Int) x52 x53 [(List.getD x53 (Int.toNat x51) ((0 : Int), (0 : Int))).1, u93])) else none) else none
theorem nat76 (n : Nat) : NatS (s76 n) := fun g p k r => by
  cases p <;> simp only [s76, bind_cond, bind_ite, bind_optK, Option.bind_assoc, Option.bind_none]
theorem us76 {n m : Nat} (h : n ≤ m) : UpS (s76 n) (s76 m) := fun γ p k r => by
  cases p <;> dsimp only [s76] <;> repeat' first | with_reducible exact up_rfl | apply up_cond | apply up_ite | apply up_bind | apply up_optK | apply up58 h | apply up80 h | apply up133 h | intro
noncomputable def k76_0 (n : Nat)  : Ex → St → Option (List CRes × List CVar) := finK' Γ f76 a76 0
noncomputable def c76_0 : Code := partB (bodyOf f76)
noncomputable def c76_1 : Code := partB c76_0
noncomputable def c76_2 : Code := partB c76_1
noncomputable def c76_3 : Code := partB c76_2
noncomputable def c76_4 : Code := partB c76_3
noncomputable def c76_5 : Code := partB c76_4
noncomputable def k76_1 (n : Nat)  : Ex → St → Option (List CRes × List CVar) := seqK Γ (Φ76 n) a76 n c76_5 0 (k76_0 n)
noncomputable def c76_6 : Code := partA c76_4
noncomputable def c76_7 : Code := partB c76_6
noncomputable def c76_8 : Code := partA c76_7
noncomputable def c76_9 : Code := partA c76_8
noncomputable def k76_2 (n : Nat)  : Ex → St → Option (List CRes × List CVar) := blockK a76 1 (k76_1 n)
noncomputable def k76_3 (n : Nat) (u : Nat → Nat) : Ex → St → Option (List CRes × List CVar) := roundK Γ (Φ76 n) a76 n c76_9 1 (u 1) (k76_2 n)
noncomputable def c76_10 : Code := partB c76_9
noncomputable def c76_11 : Code := partB c76_10
noncomputable def c76_12 : Code := partB c76_11
noncomputable def k76_4 (n : Nat) (u : Nat → Nat) : Ex → St → Option (List CRes × List CVar) := seqK Γ (Φ76 n) a76 n c76_12 1 (k76_3 n u)
noncomputable def k76_5 (n : Nat) (u : Nat → Nat) : Ex → St → Option (List CRes × List CVar) := blockK a76 2 (k76_4 n u)
noncomputable def c76_13 : Code := partA c76_11
noncomputable def c76_14 : Code := partA c76_13
noncomputable def c76_15 : Code := partB c76_14
noncomputable def c76_16 : Code := partB c76_15
noncomputable def c76_17 : Code := partA c76_16
noncomputable def c76_18 : Code := partA c76_17
noncomputable def k76_6 (n : Nat) (u : Nat → Nat) : Ex → St → Option (List CRes × List CVar) := blockK a76 3 (k76_5 n u)
noncomputable def M76 (n : Nat) (u : Nat → Nat) : P76 → Option (List CRes × List CVar)
  | .F a0 a1 a2 => stepIn (fun A => codeK Γ (Φ76 n) a76 n (bodyOf f76) 0 A (k76_0 n)) (mkSt 59 59 [(0, (.val (.sh 44 (.pair I64 I64)) a0)), (1, (iv a1)), (2, (iv a2))] [])
  | .E1 x92 => stepIn ((k76_1 n) .normal) (mkSt 59 59 [(10, (iv x92))] [])
  | .L1 x86 x87 x88 x89 x90 x91 => stepIn (fun A => loopK Γ (Φ76 n) a76 n c76_9 1 (u 1) A (k76_2 n)) (mkSt 59 59 [(8, (.ref 8 [])), (9, (iv x86)), (10, (iv x87)), (31, (.ref 31 [])), (32, (iv x88)), (33, (iv x89))] [(8, .tmp TyO112 x90), (31, .tmp TyO112 x91)])
  | .E3 x80 x81 x82 x83 x84 x85 => stepIn ((k76_5 n u) .normal) (mkSt 59 59 [(8, (.ref 8 [])), (9, (iv x80)), (10, (iv x81)), (31, (.ref 31 [])), (32, (iv x82)), (33, (iv x83))] [(8, .tmp TyO112 x84), (31, .tmp TyO112 x85)])
  | .L3 x69 x70 x71 x72 x73 x74 x75 x76 x77 => stepIn (fun A => loopK Γ (Φ76 n) a76 n c76_18 3 (u 3) A (k76_6 n u)) (mkSt 59 59 [(8, (.ref 8 [])), (9, (iv x69)), (10, (iv x70)), (31, (.ref 31 [])), (32, (iv x71)), (33, (iv x72)), (42, (.ref 42 [])), (43, (iv x73)), (44, (iv x74))] [(8, .tmp TyO112 x75), (31, .tmp TyO112 x76), (42, .tmp (.ow 2 I64) x77)])
  | .Q10 x48 x49 x50 x51 x52 x53 => stepIn (fun A => codeK Γ (Φ76 n) a76 n c76_11 1 A (k76_3 n u)) (mkSt 59 59 [(8, (.ref 8 [])), (9, (iv x48)), (10, (iv x49)), (31, (.ref 31 [])), (32, (iv x50)), (33, (iv x51))] [(8, .tmp TyO112 x52), (31, .tmp TyO112 x53)])
theorem h76 (n : Nat) (u : Nat → Nat) : ∀ p, (∀ i, 1 ≤ u i) → Ok1 (s76 n) e76 n (M76 n) u p
  | .F a0 a1 a2, _ => pl [] (at_code rfl ((codeK_seq (by kernel_rfl)).trans (by kernel_rfl)))
  | .E1 x92, _ => pl [] (by kernel_rfl)
  | .L1 x86 x87 x88 x89 x90 x91, hu => hd 1 [1] hu fun m hm => (loopK_at hm).trans ((codeK_seq (by kernel_rfl)).trans (by kernel_rfl))
  | .E3 x80 x81 x82 x83 x84 x85, _ => pl [1] (by kernel_rfl)
  | .L3 x69 x70 x71 x72 x73 x74 x75 x76 x77, hu => hd 3 [1, 3] hu fun m hm => (loopK_at hm).trans ((codeK_seq (by kernel_rfl)).trans (by kernel_rfl))
  | .Q10 x48 x49 x50 x51 x52 x53, _ => pl [1] (at_code rfl ((codeK_seq (by kernel_rfl)).trans ((codeK_block 2 (by kernel_rfl)).trans ((codeK_seq (by kernel_rfl)).trans (by kernel_rfl)))))
noncomputable def p76 (n : Nat) (a0 : List (Int × Int)) (a1 a2 : Int) : Option (Int) := flow (s76 n) n (.F a0 a1 a2)
theorem up76 {n m : Nat} (h : n ≤ m) (a0 : List (Int × Int)) (a1 a2 : Int) : Up (p76 n a0 a1 a2) (p76 m a0 a1 a2) := flow_up (nat76 n) (us76 h) h _
noncomputable def E76 (n : Nat) : Entry := mkE 76 .flat [.tree (.sh 44 (.pair I64 I64)), .tree I64, .tree I64] [] (fun a b => p76 n a.1 a.2.1 a.2.2.1) e76
theorem ok76 (n : Nat) : EntryOk prog (E76 n) := mkE_ok (Φ := Φ76 n) (ann := a76) (n := n) (F := f76) (by kernel_rfl) (by kernel_rfl) (by kernel_rfl) (known_prog (known_cons (ok58 n) (known_cons (ok80 n) (known_cons (ok133 n) known_nil)))) mixed fun a b y h =>
  (show _ = M76 n (fun _ => n) (.F a.1 a.2.1 a.2.2.1) by kernel_rfl).trans (flow_sound (nat76 n) (h76 n) n _ _ y (Nat.le_refl _) (fun _ => Nat.le_refl _) h)
/-! ### F81 horarium/horariumref7.words -/
noncomputable def a81 : Ann := { loops := [(0, { vars := [], sites := [3], slots := [(3, .tree (.ow 3 I64)), (7, .keep), (8, .keep), (9, .keep)] }), (2, { vars := [], sites := [3, 5], slots := [(3, .tree (.ow 3 I64)), (5, .keep), (6, .keep), (7, .keep), (8, .keep), (9, .keep)] })], ends := [(0, { vars := [], sites := [3], slots := [(3, .tree (.ow 3 I64))] }), (2, { vars := [], sites := [3], slots := [(3, .tree (.ow 3 I64)), (7, .keep), (8, .keep), (9, .keep)] })], heads := [(4, { vars := [], sites := [3], slots := [(3, .tree (.ow 3 I64)), (7, .keep), (8, .keep), (9, .keep)] })], res := [(.ow 3 I64)] }
noncomputable def e81 (y : List Int) : List CRes × List CVar := ([.v (.ow 3 I64) y], [])
noncomputable def Φ81 (n : Nat) : Prog := Prog.of []
inductive P81 where
  | F (a0 : List (Int × Int))
  | E0 (x57 : List Int)
  | L0 (x53 : List (Int × Int)) (x54 x55 : Int) (x56 : List Int)
  | E2 (x49 : List (Int × Int)) (x50 x51 : Int) (x52 : List Int)
  | L2 (x42 : Int) (x43 : List (Int × Int)) (x44 x45 : Int) (x46 : List Int) (x47 x48 : Int)
  | Q4 (x29 : List (Int × Int)) (x30 x31 : Int) (x32 : List Int)
noncomputable def s81 (n : Nat) (γ : Type) : P81 → (P81 → Option γ) → ((List Int) → Option γ) → Option γ
  | .F a0, k, r =>
    k (.L0 a0 (List.length a0 : Int) (0 : Int) ([] : (List Int)))
  | .E0 x57, k, r =>
    r x57
  | .L0 x53 x54 x55 x56, k, r =>
    cond ((ltB x55 x54)) (
      k (.Q4 x53 x54 x55 x56)) (
      k (.E0 x56))
  | .E2 x49 x50 x51 x52, k, r =>
    k (.L0 x49 x50 (w64 (x51 + (1 : Int))) x52)
  | .L2 x42 x43 x44 x45 x46 x47 x48, k, r =>
    cond ((ltB x42 x48)) (
      cond ((ltB (List.length x46 : Int) (8192 : Int))) (
        if (List.length x46 + List.length [x47]) * 8 ≤ 140737488355328 then (
        k (.L2 (w64 (x42 + (1 : Int))) x43 x44 x45 (x46 ++ [x47]) x47 x48)) else none) (
        k (.E2 x43 x44 x45 x46))) (
      k (.E2 x43 x44 x45 x46))
  | .Q4 x29 x30 x31 x32, k, r =>
    if 0 ≤ x31 then (
    if x31 < (List.length x29 : Int) then (
    k (.L2 (0 : Int) x29 x30 x31 x32 (List.getD x29 (Int.toNat x31) ((0 : Int), (0 : Int))).1 (List.getD x29 (Int.toNat x31) ((0 : Int), (0 : Int))).2)) else none) else none
theorem nat81 (n : Nat) : NatS (s81 n) := fun g p k r => by
  cases p <;> simp only [s81, bind_cond, bind_ite, bind_optK, Option.bind_assoc, Option.bind_none]
theorem us81 {n m : Nat} (h : n ≤ m) : UpS (s81 n) (s81 m) := fun γ p k r => by
  cases p <;> dsimp only [s81] <;> repeat' first | with_reducible exact up_rfl | apply up_cond | apply up_ite | apply up_bind | apply up_optK | intro
noncomputable def k81_0 (n : Nat)  : Ex → St → Option (List CRes × List CVar) := finK' Γ f81 a81 0
noncomputable def c81_0 : Code := partB (bodyOf f81)
noncomputable def c81_1 : Code := partB c81_0
noncomputable def c81_2 : Code := partB c81_1
noncomputable def k81_1 (n : Nat)  : Ex → St → Option (List CRes × List CVar) := seqK Γ (Φ81 n) a81 n c81_2 0 (k81_0 n)
noncomputable def c81_3 : Code := partA c81_1
noncomputable def c81_4 : Code := partB c81_3
noncomputable def c81_5 : Code := partA c81_4
noncomputable def c81_6 : Code := partA c81_5
noncomputable def k81_2 (n : Nat)  : Ex → St → Option (List CRes × List CVar) := blockK a81 0 (k81_1 n)
noncomputable def k81_3 (n : Nat) (u : Nat → Nat) : Ex → St → Option (List CRes × List CVar) := roundK Γ (Φ81 n) a81 n c81_6 0 (u 0) (k81_2 n)
noncomputable def c81_7 : Code := partB c81_6
noncomputable def c81_8 : Code := partB c81_7
noncomputable def c81_9 : Code := partB c81_8
noncomputable def k81_4 (n : Nat) (u : Nat → Nat) : Ex → St → Option (List CRes × List CVar) := seqK Γ (Φ81 n) a81 n c81_9 0 (k81_3 n u)
noncomputable def k81_5 (n : Nat) (u : Nat → Nat) : Ex → St → Option (List CRes × List CVar) := blockK a81 1 (k81_4 n u)
noncomputable def c81_10 : Code := partA c81_8
noncomputable def c81_11 : Code := partA c81_10
noncomputable def c81_12 : Code := partB c81_11
noncomputable def c81_13 : Code := partB c81_12
noncomputable def c81_14 : Code := partA c81_13
noncomputable def c81_15 : Code := partA c81_14
noncomputable def k81_6 (n : Nat) (u : Nat → Nat) : Ex → St → Option (List CRes × List CVar) := blockK a81 2 (k81_5 n u)
noncomputable def M81 (n : Nat) (u : Nat → Nat) : P81 → Option (List CRes × List CVar)
  | .F a0 => stepIn (fun A => codeK Γ (Φ81 n) a81 n (bodyOf f81) 0 A (k81_0 n)) (mkSt 31 31 [(0, (.val (.sh 44 (.pair I64 I64)) a0))] [])
  | .E0 x57 => stepIn ((k81_1 n) .normal) (mkSt 31 31 [(3, (.ref 3 []))] [(3, .tmp (.ow 3 I64) x57)])
  | .L0 x53 x54 x55 x56 => stepIn (fun A => loopK Γ (Φ81 n) a81 n c81_6 0 (u 0) A (k81_2 n)) (mkSt 31 31 [(3, (.ref 3 [])), (7, (.val (.sh 44 (.pair I64 I64)) x53)), (8, (iv x54)), (9, (iv x55))] [(3, .tmp (.ow 3 I64) x56)])
  | .E2 x49 x50 x51 x52 => stepIn ((k81_5 n u) .normal) (mkSt 31 31 [(3, (.ref 3 [])), (7, (.val (.sh 44 (.pair I64 I64)) x49)), (8, (iv x50)), (9, (iv x51))] [(3, .tmp (.ow 3 I64) x52)])
  | .L2 x42 x43 x44 x45 x46 x47 x48 => stepIn (fun A => loopK Γ (Φ81 n) a81 n c81_15 2 (u 2) A (k81_6 n u)) (mkSt 31 31 [(3, (.ref 3 [])), (5, (.ptr 5 [])), (6, (iv x42)), (7, (.val (.sh 44 (.pair I64 I64)) x43)), (8, (iv x44)), (9, (iv x45))] [(3, .tmp (.ow 3 I64) x46), (5, .var 44 (.pair I64 I64) (x47, x48))])
  | .Q4 x29 x30 x31 x32 => stepIn (fun A => codeK Γ (Φ81 n) a81 n c81_8 0 A (k81_3 n u)) (mkSt 31 31 [(3, (.ref 3 [])), (7, (.val (.sh 44 (.pair I64 I64)) x29)), (8, (iv x30)), (9, (iv x31))] [(3, .tmp (.ow 3 I64) x32)])
theorem h81 (n : Nat) (u : Nat → Nat) : ∀ p, (∀ i, 1 ≤ u i) → Ok1 (s81 n) e81 n (M81 n) u p
  | .F a0, _ => pl [] (at_code rfl ((codeK_seq (by kernel_rfl)).trans (by kernel_rfl)))
  | .E0 x57, _ => pl [] (by kernel_rfl)
  | .L0 x53 x54 x55 x56, hu => hd 0 [0] hu fun m hm => (loopK_at hm).trans ((codeK_seq (by kernel_rfl)).trans (by kernel_rfl))
  | .E2 x49 x50 x51 x52, _ => pl [0] (by kernel_rfl)
  | .L2 x42 x43 x44 x45 x46 x47 x48, hu => hd 2 [0, 2] hu fun m hm => (loopK_at hm).trans ((codeK_seq (by kernel_rfl)).trans ((codeK_seq (by kernel_rfl)).trans (by kernel_rfl)))
  | .Q4 x29 x30 x31 x32, _ => pl [0] (at_code rfl ((codeK_seq (by kernel_rfl)).trans ((codeK_block 1 (by kernel_rfl)).trans ((codeK_seq (by kernel_rfl)).trans (by kernel_rfl)))))
noncomputable def p81 (n : Nat) (a0 : List (Int × Int)) : Option (List Int) := flow (s81 n) n (.F a0)
theorem up81 {n m : Nat} (h : n ≤ m) (a0 : List (Int × Int)) : Up (p81 n a0) (p81 m a0) := flow_up (nat81 n) (us81 h) h _
noncomputable def E81 (n : Nat) : Entry := mkE 81 .look [.tree (.sh 44 (.pair I64 I64))] [] (fun a b => p81 n a.1) e81
theorem ok81 (n : Nat) : EntryOk prog (E81 n) := mkE_ok (Φ := Φ81 n) (ann := a81) (n := n) (F := f81) (by kernel_rfl) (by kernel_rfl) (by kernel_rfl) (known_prog known_nil) mixed fun a b y h =>
  (show _ = M81 n (fun _ => n) (.F a.1) by kernel_rfl).trans (flow_sound (nat81 n) (h81 n) n _ _ y (Nat.le_refl _) (fun _ => Nat.le_refl _) h)
/-! ### F77 horarium/horariumref7.Late -/
noncomputable def a77 : Ann := { loops := [(0, { vars := [], sites := [], slots := [(1, .keep), (2, .keep), (7, .keep), (8, .keep), (9, .keep), (10, .keep), (18, .keep), (19, .keep), (20, .keep)] }), (2, { vars := [], sites := [], slots := [(1, .keep), (2, .keep), (7, .keep), (8, .keep), (41, .keep), (42, .keep), (43, .keep)] }), (4, { vars := [], sites := [], slots := [(1, .keep), (2, .keep), (7, .keep), (8, .keep), (13, .keep), (15, .keep), (41, .keep), (42, .keep), (43, .keep)] })], ends := [(0, { vars := [], sites := [], slots := [(1, .keep), (2, .keep), (7, .keep), (8, .keep), (9, .keep), (10, .keep)] }), (2, { vars := [], sites := [], slots := [(8, .keep)] }), (4, { vars := [], sites := [], slots := [(1, .keep), (2, .keep), (7, .keep), (8, .keep), (15, .keep), (41, .keep), (42, .keep), (43, .keep)] })], heads := [(14, { vars := [], sites := [], slots := [(1, .keep), (2, .keep), (7, .keep), (8, .keep), (41, .keep), (42, .keep), (43, .keep)] })], acts := [((1, 1), (.sh 3 I64))], res := [I64] }
noncomputable def e77 (y : Int) : List CRes × List CVar := ([.v I64 y], [])
noncomputable def Φ77 (n : Nat) : Prog := Prog.of [E81 n]
inductive P77 where
  | F (a0 : List (Int × Int)) (a1 a2 : Int)
  | E0 (x20 x21 : Int) (x22 : List Int) (x23 : Int) (x24 x25 : Bool)
  | L0 (x11 x12 : Int) (x13 : List Int) (x14 : Int) (x15 x16 : Bool) (x17 : List Int) (x18 x19 : Int)
  | E2 (x112 : Int)
  | L2 (x105 x106 : Int) (x107 : List Int) (x108 : Int) (x109 : List Int) (x110 x111 : Int)
  | E4 (x97 x98 : Int) (x99 : List Int) (x100 x101 : Int) (x102 : List Int) (x103 x104 : Int)
  | L4 (x87 x88 : Int) (x89 : List Int) (x90 x91 x92 : Int) (x93 : List Int) (x94 x95 : Int)
  | Q14 (x69 x70 : Int) (x71 : List Int) (x72 : Int) (x73 : List Int) (x74 x75 : Int)
noncomputable def s77 (n : Nat) (γ : Type) : P77 → (P77 → Option γ) → (Int → Option γ) → Option γ
  | .F a0 a1 a2, k, r =>
    (p81 n a0).bind fun y1 =>
    k (.L0 a1 a2 y1 (0 : Int) false false y1 (List.length y1 : Int) (0 : Int))
  | .E0 x20 x21 x22 x23 x24 x25, k, r =>
    cond ((!x25)) (
      r (0 : Int)) (
      cond ((!x24)) (
        r (-1 : Int)) (
        k (.L2 x20 x21 x22 x23 x22 (List.length x22 : Int) (0 : Int))))
  | .L0 x11 x12 x13 x14 x15 x16 x17 x18 x19, k, r =>
    cond ((ltB x19 x18)) (
      if 0 ≤ x19 then (
      if x19 < (List.length x17 : Int) then (
      cond (x15) (
        cond (x16) (
          k (.L0 x11 x12 x13 x14 true true x17 x18 (w64 (x19 + (1 : Int))))) (
          k (.L0 x11 x12 x13 x14 true (eqB (List.getD x17 (Int.toNat x19) (0 : Int)) x11) x17 x18 (w64 (x19 + (1 : Int)))))) (
        cond (x16) (
          k (.L0 x11 x12 x13 x14 (eqB (List.getD x17 (Int.toNat x19) (0 : Int)) x12) true x17 x18 (w64 (x19 + (1 : Int))))) (
          k (.L0 x11 x12 x13 x14 (eqB (List.getD x17 (Int.toNat x19) (0 : Int)) x12) (eqB (List.getD x17 (Int.toNat x19) (0 : Int)) x11) x17 x18 (w64 (x19 + (1 : Int))))))) else none) else none) (
      k (.E0 x11 x12 x13 x14 x15 x16))
  | .E2 x112, k, r =>
    r x112
  | .L2 x105 x106 x107 x108 x109 x110 x111, k, r =>
    cond ((ltB x111 x110)) (
      k (.Q14 x105 x106 x107 x108 x109 x110 x111)) (
      k (.E2 x108))
  | .E4 x97 x98 x99 x100 x101 x102 x103 x104, k, r =>
    k (.L2 x97 x98 x99 (max x100 x101) x102 x103 (w64 (x104 + (1 : Int))))
  | .L4 x87 x88 x89 x90 x91 x92 x93 x94 x95, k, r =>
    if (List.length x89 : Int) = 0 then none else (
    let u113 : Int := (Int.tmod (w64 (x91 + x92)) (List.length x89 : Int))
    if 0 ≤ u113 then (
    if u113 < (List.length x89 : Int) then (
    cond ((!eqB (List.getD x89 (Int.toNat u113) (0 : Int)) x88)) (
      k (.L4 x87 x88 x89 x90 x91 (w64 (x92 + (1 : Int))) x93 x94 x95)) (
      k (.E4 x87 x88 x89 x90 x92 x93 x94 x95))) else none) else none)
  | .Q14 x69 x70 x71 x72 x73 x74 x75, k, r =>
    if 0 ≤ x75 then (
    if x75 < (List.length x73 : Int) then (
    cond ((!eqB (List.getD x73 (Int.toNat x75) (0 : Int)) x69)) (
      k (.L2 x69 x70 x71 x72 x73 x74 (w64 (x75 + (1 : Int))))) (
      k (.L4 x69 x70 x71 x72 x75 (1 : Int) x73 x74 x75))) else none) else none
theorem nat77 (n : Nat) : NatS (s77 n) := fun g p k r => by
  cases p <;> simp only [s77, bind_cond, bind_ite, bind_optK, Option.bind_assoc, Option.bind_none]
theorem us77 {n m : Nat} (h : n ≤ m) : UpS (s77 n) (s77 m) := fun γ p k r => by
  cases p <;> dsimp only [s77] <;> repeat' first | with_reducible exact up_rfl | apply up_cond | apply up_ite | apply up_bind | apply up_optK | apply up81 h | intro
noncomputable def k77_0 (n : Nat)  : Ex → St → Option (List CRes × List CVar) := finK' Γ f77 a77 0
noncomputable def c77_0 : Code := partB (bodyOf f77)
noncomputable def c77_1 : Code := partB c77_0
noncomputable def c77_2 : Code := partB c77_1
noncomputable def c77_3 : Code := partB c77_2
noncomputable def k77_1 (n : Nat)  : Ex → St → Option (List CRes × List CVar) := seqK Γ (Φ77 n) a77 n c77_3 0 (k77_0 n)
noncomputable def c77_4 : Code := partA c77_2
noncomputable def c77_5 : Code := partB c77_4
noncomputable def c77_6 : Code := partA c77_5
noncomputable def c77_7 : Code := partA c77_6
noncomputable def k77_2 (n : Nat)  : Ex → St → Option (List CRes × List CVar) := blockK a77 0 (k77_1 n)
noncomputable def c77_8 : Code := partB c77_3
noncomputable def c77_9 : Code := partB c77_8
noncomputable def c77_10 : Code := partB c77_9
noncomputable def k77_3 (n : Nat)  : Ex → St → Option (List CRes × List CVar) := seqK Γ (Φ77 n) a77 n c77_10 0 (k77_0 n)
noncomputable def c77_11 : Code := partA c77_9
noncomputable def c77_12 : Code := partB c77_11
noncomputable def c77_13 : Code := partA c77_12
noncomputable def c77_14 : Code := partA c77_13
noncomputable def k77_4 (n : Nat)  : Ex → St → Option (List CRes × List CVar) := blockK a77 2 (k77_3 n)
noncomputable def k77_5 (n : Nat) (u : Nat → Nat) : Ex → St → Option (List CRes × List CVar) := roundK Γ (Φ77 n) a77 n c77_14 2 (u 2) (k77_4 n)
noncomputable def c77_15 : Code := partB c77_14
noncomputable def c77_16 : Code := partB c77_15
noncomputable def c77_17 : Code := partB c77_16
noncomputable def k77_6 (n : Nat) (u : Nat → Nat) : Ex → St → Option (List CRes × List CVar) := seqK Γ (Φ77 n) a77 n c77_17 2 (k77_5 n u)
noncomputable def k77_7 (n : Nat) (u : Nat → Nat) : Ex → St → Option (List CRes × List CVar) := blockK a77 3 (k77_6 n u)
noncomputable def c77_18 : Code := partA c77_16
noncomputable def c77_19 : Code := partA c77_18
noncomputable def c77_20 : Code := partB c77_19
noncomputable def c77_21 : Code := partB c77_20
noncomputable def c77_22 : Code := partB c77_21
noncomputable def c77_23 : Code := partB c77_22
noncomputable def k77_8 (n : Nat) (u : Nat → Nat) : Ex → St → Option (List CRes × List CVar) := seqK Γ (Φ77 n) a77 n c77_23 3 (k77_7 n u)
noncomputable def c77_24 : Code := partA c77_22
noncomputable def c77_25 : Code := partA c77_24
noncomputable def c77_26 : Code := partA c77_25
noncomputable def k77_9 (n : Nat) (u : Nat → Nat) : Ex → St → Option (List CRes × List CVar) := blockK a77 4 (k77_8 n u)
noncomputable def M77 (n : Nat) (u : Nat → Nat) : P77 → Option (List CRes × List CVar)
  | .F a0 a1 a2 => stepIn (fun A => codeK Γ (Φ77 n) a77 n (bodyOf f77) 0 A (k77_0 n)) (mkSt 69 69 [(0, (.val (.sh 44 (.pair I64 I64)) a0)), (1, (iv a1)), (2, (iv a2))] [])
  | .E0 x20 x21 x22 x23 x24 x25 => stepIn ((k77_1 n) .normal) (mkSt 69 69 [(1, (iv x20)), (2, (iv x21)), (7, (.val (.sh 3 I64) x22)), (8, (iv x23)), (9, (.val .bool x24)), (10, (.val .bool x25))] [])
  | .L0 x11 x12 x13 x14 x15 x16 x17 x18 x19 => stepIn (fun A => loopK Γ (Φ77 n) a77 n c77_7 0 (u 0) A (k77_2 n)) (mkSt 69 69 [(1, (iv x11)), (2, (iv x12)), (7, (.val (.sh 3 I64) x13)), (8, (iv x14)), (9, (.val .bool x15)), (10, (.val .bool x16)), (18, (.val (.sh 3 I64) x17)), (19, (iv x18)), (20, (iv x19))] [])
  | .E2 x112 => stepIn ((k77_3 n) .normal) (mkSt 69 69 [(8, (iv x112))] [])
  | .L2 x105 x106 x107 x108 x109 x110 x111 => stepIn (fun A => loopK Γ (Φ77 n) a77 n c77_14 2 (u 2) A (k77_4 n)) (mkSt 69 69 [(1, (iv x105)), (2, (iv x106)), (7, (.val (.sh 3 I64) x107)), (8, (iv x108)), (41, (.val (.sh 3 I64) x109)), (42, (iv x110)), (43, (iv x111))] [])
  | .E4 x97 x98 x99 x100 x101 x102 x103 x104 => stepIn ((k77_8 n u) .normal) (mkSt 69 69 [(1, (iv x97)), (2, (iv x98)), (7, (.val (.sh 3 I64) x99)), (8, (iv x100)), (15, (iv x101)), (41, (.val (.sh 3 I64) x102)), (42, (iv x103)), (43, (iv x104))] [])
  | .L4 x87 x88 x89 x90 x91 x92 x93 x94 x95 => stepIn (fun A => loopK Γ (Φ77 n) a77 n c77_26 4 (u 4) A (k77_9 n u)) (mkSt 69 69 [(1, (iv x87)), (2, (iv x88)), (7, (.val (.sh 3 I64) x89)), (8, (iv x90)), (13, (iv x91)), (15, (iv x92)), (41, (.val (.sh 3 I64) x93)), (42, (iv x94)), (43, (iv x95))] [])
  | .Q14 x69 x70 x71 x72 x73 x74 x75 => stepIn (fun A => codeK Γ (Φ77 n) a77 n c77_16 2 A (k77_5 n u)) (mkSt 69 69 [(1, (iv x69)), (2, (iv x70)), (7, (.val (.sh 3 I64) x71)), (8, (iv x72)), (41, (.val (.sh 3 I64) x73)), (42, (iv x74)), (43, (iv x75))] [])
theorem h77 (n : Nat) (u : Nat → Nat) : ∀ p, (∀ i, 1 ≤ u i) → Ok1 (s77 n) e77 n (M77 n) u p
  | .F a0 a1 a2, _ => pl [] (at_code rfl ((codeK_seq (by kernel_rfl)).trans (by kernel_rfl)))
  | .E0 x20 x21 x22 x23 x24 x25, _ => pl [] (by kernel_rfl)
  | .L0 x11 x12 x13 x14 x15 x16 x17 x18 x19, hu => hd 0 [0] hu fun m hm => (loopK_at hm).trans ((codeK_seq (by kernel_rfl)).trans (by kernel_rfl))
  | .E2 x112, _ => pl [] (by kernel_rfl)
  | .L2 x105 x106 x107 x108 x109 x110 x111, hu => hd 2 [2] hu fun m hm => (loopK_at hm).trans ((codeK_seq (by kernel_rfl)).trans (by kernel_rfl))
  | .E4 x97 x98 x99 x100 x101 x102 x103 x104, _ => pl [2] (by kernel_rfl)
  | .L4 x87 x88 x89 x90 x91 x92 x93 x94 x95, hu => hd 4 [2, 4] hu fun m hm => (loopK_at hm).trans ((codeK_seq (by kernel_rfl)).trans ((codeK_seq (by kernel_rfl)).trans (by kernel_rfl)))
  | .Q14 x69 x70 x71 x72 x73 x74 x75, _ => pl [2] (at_code rfl ((codeK_seq (by kernel_rfl)).trans ((codeK_block 3 (by kernel_rfl)).trans ((codeK_seq (by kernel_rfl)).trans (by kernel_rfl)))))
noncomputable def p77 (n : Nat) (a0 : List (Int × Int)) (a1 a2 : Int) : Option (Int) := flow (s77 n) n (.F a0 a1 a2)
theorem up77 {n m : Nat} (h : n ≤ m) (a0 : List (Int × Int)) (a1 a2 : Int) : Up (p77 n a0 a1 a2) (p77 m a0 a1 a2) := flow_up (nat77 n) (us77 h) h _
noncomputable def E77 (n : Nat) : Entry := mkE 77 .flat [.tree (.sh 44 (.pair I64 I64)), .tree I64, .tree I64] [] (fun a b => p77 n a.1 a.2.1 a.2.2.1) e77
theorem ok77 (n : Nat) : EntryOk prog (E77 n) := mkE_ok (Φ := Φ77 n) (ann := a77) (n := n) (F := f77) (by kernel_rfl) (by kernel_rfl) (by kernel_rfl) (known_prog (known_cons (ok81 n) known_nil)) mixed fun a b y h =>
  (show _ = M77 n (fun _ => n) (.F a.1 a.2.1 a.2.2.1) by kernel_rfl).trans (flow_sound (nat77 n) (h77 n) n _ _ y (Nat.le_refl _) (fun _ => Nat.le_refl _) h)
/-! ### F23 horarium/bound.Budget -/
noncomputable def a23 : Ann := { loops := [(0, { vars := [], sites := [], slots := [(2, .keep), (7, .keep), (8, .keep), (9, .keep), (10, .keep)] }), (2, { vars := [], sites := [], slots := [(2, .keep), (7, .keep), (8, .keep), (9, .keep), (10, .keep), (11, .keep), (38, .keep), (39, .keep), (40, .keep)] })], ends := [(0, { vars := [], sites := [], slots := [(9, .keep)] }), (2, { vars := [], sites := [], slots := [(2, .keep), (7, .keep), (8, .keep), (9, .keep), (10, .keep), (11, .keep)] })], heads := [(9, { vars := [], sites := [], slots := [(2, .keep), (7, .keep), (8, .keep), (9, .keep), (10, .keep)] })], acts := [((4, 2), TyS112)], res := [I64] }
noncomputable def e23 (y : Int) : List CRes × List CVar := ([.v I64 y], [])
noncomputable def Φ23 (n : Nat) : Prog := Prog.of [E58 n, E80 n]
inductive P23 where
  | F (a0 : List (Int × Int)) (a1 a2 : Int)
  | E0 (x87 : Int)
  | L0 (x82 x83 : Int) (x84 : List (Int × Int)) (x85 x86 : Int)
  | E2 (x76 x77 : Int) (x78 : List (Int × Int)) (x79 x80 x81 : Int)
  | L2 (x64 x65 : Int) (x66 : List (Int × Int)) (x67 x68 x69 : Int) (x70 : List (Int × Int)) (x71 x72 : Int)
  | Q9 (x45 x46 : Int) (x47 : List (Int × Int)) (x48 x49 : Int)
noncomputable def s23 (n : Nat) (γ : Type) : P23 → (P23 → Option γ) → (Int → Option γ) → Option γ
  | .F a0 a1 a2, k, r =>
    (p58 n a0).bind fun y1 =>
    cond ((ltB a2 (1 : Int))) (
      r (-1 : Int)) (
      cond ((eqB y1 (0 : Int))) (
        r (-1 : Int)) (
        if a2 = 0 then none else (
        cond ((!eqB (Int.tmod y1 a2) (0 : Int))) (
          r (-1 : Int)) (
          (p80 n a0 a1).bind fun y2 =>
          k (.L0 a2 y1 y2 a2 (0 : Int))))))
  | .E0 x87, k, r =>
    r x87
  | .L0 x82 x83 x84 x85 x86, k, r =>
    cond ((ltB x86 x83)) (
      k (.Q9 x82 x83 x84 x85 x86)) (
      k (.E0 x85))
  | .E2 x76 x77 x78 x79 x80 x81, k, r =>
    k (.L0 x76 x77 x78 (min x79 x81) (w64 (x80 + x76)))
  | .L2 x64 x65 x66 x67 x68 x69 x70 x71 x72, k, r =>
    cond ((ltB x72 x71)) (
      if 0 ≤ x72 then (
      if x72 < (List.length x70 : Int) then (
      let u88 : Int := (min (List.getD x70 (Int.toNat x72) ((0 : Int), (0 : Int))).2 (w64 (x68 + x64)))
      let u89 : Int := (max (List.getD x70 (Int.toNat x72) ((0 : Int), (0 : Int))).1 x68)
      let u90 : Int := (w64 (x69 + (max (0 : Int) (w64 (u88 - u89)))))
      k (.L2 x64 x65 x66 x67 x68 u90 x70 x71 (w64 (x72 + (1 : Int))))) else none) else none) (
      k (.E2 x64 x65 x66 x67 x68 x69))
  | .Q9 x45 x46 x47 x48 x49, k, r =>
    k (.L2 x45 x46 x47 x48 x49 (0 : Int) x47 (List.length x47 : Int) (0 : Int))
theorem nat23 (n : Nat) : NatS (s23 n) := fun g p k r => by
  cases p <;> simp only [s23, bind_cond, bind_ite, bind_optK, Option.bind_assoc, Option.bind_none]
theorem us23 {n m : Nat} (h : n ≤ m) : UpS (s23 n) (s23 m) := fun γ p k r => by
  cases p <;> dsimp only [s23] <;> repeat' first | with_reducible exact up_rfl | apply up_cond | apply up_ite | apply up_bind | apply up_optK | apply up58 h | apply up80 h | intro
noncomputable def k23_0 (n : Nat)  : Ex → St → Option (List CRes × List CVar) := finK' Γ f23 a23 0
noncomputable def c23_0 : Code := partB (bodyOf f23)
noncomputable def c23_1 : Code := partB c23_0
noncomputable def c23_2 : Code := partB c23_1
noncomputable def c23_3 : Code := partB c23_2
noncomputable def c23_4 : Code := partB c23_3
noncomputable def c23_5 : Code := partB c23_4
noncomputable def k23_1 (n : Nat)  : Ex → St → Option (List CRes × List CVar) := seqK Γ (Φ23 n) a23 n c23_5 0 (k23_0 n)
noncomputable def c23_6 : Code := partA c23_4
noncomputable def c23_7 : Code := partB c23_6
noncomputable def c23_8 : Code := partA c23_7
noncomputable def c23_9 : Code := partA c23_8
noncomputable def k23_2 (n : Nat)  : Ex → St → Option (List CRes × List CVar) := blockK a23 0 (k23_1 n)
noncomputable def k23_3 (n : Nat) (u : Nat → Nat) : Ex → St → Option (List CRes × List CVar) := roundK Γ (Φ23 n) a23 n c23_9 0 (u 0) (k23_2 n)
noncomputable def c23_10 : Code := partB c23_9
noncomputable def c23_11 : Code := partB c23_10
noncomputable def k23_4 (n : Nat) (u : Nat → Nat) : Ex → St → Option (List CRes × List CVar) := seqK Γ (Φ23 n) a23 n c23_11 0 (k23_3 n u)
noncomputable def k23_5 (n : Nat) (u : Nat → Nat) : Ex → St → Option (List CRes × List CVar) := blockK a23 1 (k23_4 n u)
noncomputable def c23_12 : Code := partA c23_10
noncomputable def c23_13 : Code := partA c23_12
noncomputable def c23_14 : Code := partB c23_13
noncomputable def c23_15 : Code := partB c23_14
noncomputable def k23_6 (n : Nat) (u : Nat → Nat) : Ex → St → Option (List CRes × List CVar) := seqK Γ (Φ23 n) a23 n c23_15 1 (k23_5 n u)
noncomputable def c23_16 : Code := partA c23_14
noncomputable def c23_17 : Code := partB c23_16
noncomputable def c23_18 : Code := partA c23_17
noncomputable def c23_19 : Code := partA c23_18
noncomputable def k23_7 (n : Nat) (u : Nat → Nat) : Ex → St → Option (List CRes × List CVar) := blockK a23 2 (k23_6 n u)
noncomputable def M23 (n : Nat) (u : Nat → Nat) : P23 → Option (List CRes × List CVar)
  | .F a0 a1 a2 => stepIn (fun A => codeK Γ (Φ23 n) a23 n (bodyOf f23) 0 A (k23_0 n)) (mkSt 63 63 [(0, (.val (.sh 44 (.pair I64 I64)) a0)), (1, (iv a1)), (2, (iv a2))] [])
  | .E0 x87 => stepIn ((k23_1 n) .normal) (mkSt 63 63 [(9, (iv x87))] [])
  | .L0 x82 x83 x84 x85 x86 => stepIn (fun A => loopK Γ (Φ23 n) a23 n c23_9 0 (u 0) A (k23_2 n)) (mkSt 63 63 [(2, (iv x82)), (7, (iv x83)), (8, (.val TyS112 x84)), (9, (iv x85)), (10, (iv x86))] [])
  | .E2 x76 x77 x78 x79 x80 x81 => stepIn ((k23_6 n u) .normal) (mkSt 63 63 [(2, (iv x76)), (7, (iv x77)), (8, (.val TyS112 x78)), (9, (iv x79)), (10, (iv x80)), (11, (iv x81))] [])
  | .L2 x64 x65 x66 x67 x68 x69 x70 x71 x72 => stepIn (fun A => loopK Γ (Φ23 n) a23 n c23_19 2 (u 2) A (k23_7 n u)) (mkSt 63 63 [(2, (iv x64)), (7, (iv x65)), (8, (.val TyS112 x66)), (9, (iv x67)), (10, (iv x68)), (11, (iv x69)), (38, (.val TyS112 x70)), (39, (iv x71)), (40, (iv x72))] [])
  | .Q9 x45 x46 x47 x48 x49 => stepIn (fun A => codeK Γ (Φ23 n) a23 n c23_10 0 A (k23_3 n u)) (mkSt 63 63 [(2, (iv x45)), (7, (iv x46)), (8, (.val TyS112 x47)), (9, (iv x48)), (10, (iv x49))] [])
theorem h23 (n : Nat) (u : Nat → Nat) : ∀ p, (∀ i, 1 ≤ u i) → Ok1 (s23 n) e23 n (M23 n) u p
  | .F a0 a1 a2, _ => pl [] (at_code rfl ((codeK_seq (by kernel_rfl)).trans (by kernel_rfl)))
  | .E0 x87, _ => pl [] (by kernel_rfl)
  | .L0 x82 x83 x84 x85 x86, hu => hd 0 [0] hu fun m hm => (loopK_at hm).trans ((codeK_seq (by kernel_rfl)).trans ((codeK_seq (by kernel_rfl)).trans (by kernel_rfl)))
  | .E2 x76 x77 x78 x79 x80 x81, _ => pl [0] (by kernel_rfl)
  | .L2 x64 x65 x66 x67 x68 x69 x70 x71 x72, hu => hd 2 [0, 2] hu fun m hm => (loopK_at hm).trans ((codeK_seq (by kernel_rfl)).trans (by kernel_rfl))
  | .Q9 x45 x46 x47 x48 x49, _ => pl [0] (at_code rfl ((codeK_seq (by kernel_rfl)).trans ((codeK_block 1 (by kernel_rfl)).trans ((codeK_seq (by kernel_rfl)).trans (by kernel_rfl)))))
noncomputable def p23 (n : Nat) (a0 : List (Int × Int)) (a1 a2 : Int) : Option (Int) := flow (s23 n) n (.F a0 a1 a2)
theorem up23 {n m : Nat} (h : n ≤ m) (a0 : List (Int × Int)) (a1 a2 : Int) : Up (p23 n a0 a1 a2) (p23 m a0 a1 a2) := flow_up (nat23 n) (us23 h) h _
noncomputable def E23 (n : Nat) : Entry := mkE 23 .flat [.tree (.sh 44 (.pair I64 I64)), .tree I64, .tree I64] [] (fun a b => p23 n a.1 a.2.1 a.2.2.1) e23
theorem ok23 (n : Nat) : EntryOk prog (E23 n) := mkE_ok (Φ := Φ23 n) (ann := a23) (n := n) (F := f23) (by kernel_rfl) (by kernel_rfl) (by kernel_rfl) (known_prog (known_cons (ok58 n) (known_cons (ok80 n) known_nil))) mixed fun a b y h =>
  (show _ = M23 n (fun _ => n) (.F a.1 a.2.1 a.2.2.1) by kernel_rfl).trans (flow_sound (nat23 n) (h23 n) n _ _ y (Nat.le_refl _) (fun _ => Nat.le_refl _) h)
/-! ### F24 horarium/horariumref7.Budget -/
noncomputable def a24 : Ann := { loops := [(0, { vars := [], sites := [], slots := [(1, .keep), (2, .keep), (7, .keep), (8, .keep), (9, .keep)] }), (2, { vars := [], sites := [], slots := [(1, .keep), (2, .keep), (7, .keep), (8, .keep), (9, .keep), (10, .keep), (43, .keep), (44, .keep), (45, .keep)] })], ends := [(0, { vars := [], sites := [], slots := [(8, .keep)] }), (2, { vars := [], sites := [], slots := [(1, .keep), (2, .keep), (7, .keep), (8, .keep), (9, .keep), (10, .keep)] })], heads := [(8, { vars := [], sites := [], slots := [(1, .keep), (2, .keep), (7, .keep), (8, .keep), (9, .keep)] })], acts := [((1, 1), (.sh 3 I64))], res := [I64] }
noncomputable def e24 (y : Int) : List CRes × List CVar := ([.v I64 y], [])
noncomputable def Φ24 (n : Nat) : Prog := Prog.of [E81 n]
inductive P24 where
  | F (a0 : List (Int × Int)) (a1 a2 : Int)
  | E0 (x72 : Int)
  | L0 (x67 x68 : Int) (x69 : List Int) (x70 x71 : Int)
  | E2 (x61 x62 : Int) (x63 : List Int) (x64 x65 x66 : Int)
  | L2 (x52 x53 : Int) (x54 : List Int) (x55 x56 x57 : Int) (x58 : List Int) (x59 x60 : Int)
  | Q8 (x37 x38 : Int) (x39 : List Int) (x40 x41 : Int)
noncomputable def s24 (n : Nat) (γ : Type) : P24 → (P24 → Option γ) → (Int → Option γ) → Option γ
  | .F a0 a1 a2, k, r =>
    (p81 n a0).bind fun y1 =>
    cond ((ltB a2 (1 : Int))) (
      r (-1 : Int)) (
      cond ((eqB (List.length y1 : Int) (0 : Int))) (
        r (-1 : Int)) (
        if a2 = 0 then none else (
        cond ((!eqB (Int.tmod (List.length y1 : Int) a2) (0 : Int))) (
          r (-1 : Int)) (
          k (.L0 a1 a2 y1 (w64 (a2 + (1 : Int))) (0 : Int))))))
  | .E0 x72, k, r =>
    r x72
  | .L0 x67 x68 x69 x70 x71, k, r =>
    cond ((ltB x71 (List.length x69 : Int))) (
      k (.Q8 x67 x68 x69 x70 x71)) (
      k (.E0 x70))
  | .E2 x61 x62 x63 x64 x65 x66, k, r =>
    k (.L0 x61 x62 x63 (min x64 x66) (w64 (x65 + x62)))
  | .L2 x52 x53 x54 x55 x56 x57 x58 x59 x60, k, r =>
    cond ((ltB x60 x59)) (
      if 0 ≤ x60 then (
      if x60 < (List.length x58 : Int) then (
      cond ((eqB (List.getD x58 (Int.toNat x60) (0 : Int)) x52)) (
        k (.L2 x52 x53 x54 x55 x56 (w64 (x57 + (1 : Int))) x58 x59 (w64 (x60 + (1 : Int))))) (
        k (.L2 x52 x53 x54 x55 x56 x57 x58 x59 (w64 (x60 + (1 : Int)))))) else none) else none) (
      k (.E2 x52 x53 x54 x55 x56 x57))
  | .Q8 x37 x38 x39 x40 x41, k, r =>
    if 0 ≤ x41 then (
    if x41 ≤ (w64 (x41 + x38)) then (
    if (w64 (x41 + x38)) ≤ (List.length x39 : Int) then (
    let u73 : List Int := (List.take (Int.toNat (w64 (x41 + x38)) - Int.toNat x41) (List.drop (Int.toNat x41) x39))
    k (.L2 x37 x38 x39 x40 x41 (0 : Int) u73 (List.length u73 : Int) (0 : Int))) else none) else none) else none
theorem nat24 (n : Nat) : NatS (s24 n) := fun g p k r => by
  cases p <;> simp only [s24, bind_cond, bind_ite, bind_optK, Option.bind_assoc, Option.bind_none]
theorem us24 {n m : Nat} (h : n ≤ m) : UpS (s24 n) (s24 m) := fun γ p k r => by
  cases p <;> dsimp only [s24] <;> repeat' first | with_reducible exact up_rfl | apply up_cond | apply up_ite | apply up_bind | apply up_optK | apply up81 h | intro
noncomputable def k24_0 (n : Nat)  : Ex → St → Option (List CRes × List CVar) := finK' Γ f24 a24 0
noncomputable def c24_0 : Code := partB (bodyOf f24)
noncomputable def c24_1 : Code := partB c24_0
noncomputable def c24_2 : Code := partB c24_1
noncomputable def c24_3 : Code := partB c24_2
noncomputable def c24_4 : Code := partB c24_3
noncomputable def k24_1 (n : Nat)  : Ex → St → Option (List CRes × List CVar) := seqK Γ (Φ24 n) a24 n c24_4 0 (k24_0 n)
noncomputable def c24_5 : Code := partA c24_3
noncomputable def c24_6 : Code := partB c24_5
noncomputable def c24_7 : Code := partA c24_6
noncomputable def c24_8 : Code := partA c24_7
noncomputable def k24_2 (n : Nat)  : Ex → St → Option (List CRes × List CVar) := blockK a24 0 (k24_1 n)
noncomputable def k24_3 (n : Nat) (u : Nat → Nat) : Ex → St → Option (List CRes × List CVar) := roundK Γ (Φ24 n) a24 n c24_8 0 (u 0) (k24_2 n)
noncomputable def c24_9 : Code := partB c24_8
noncomputable def c24_10 : Code := partB c24_9
noncomputable def k24_4 (n : Nat) (u : Nat → Nat) : Ex → St → Option (List CRes × List CVar) := seqK Γ (Φ24 n) a24 n c24_10 0 (k24_3 n u)
noncomputable def k24_5 (n : Nat) (u : Nat → Nat) : Ex → St → Option (List CRes × List CVar) := blockK a24 1 (k24_4 n u)
noncomputable def c24_11 : Code := partA c24_9
noncomputable def c24_12 : Code := partA c24_11
noncomputable def c24_13 : Code := partB c24_12
noncomputable def c24_14 : Code := partB c24_13
noncomputable def k24_6 (n : Nat) (u : Nat → Nat) : Ex → St → Option (List CRes × List CVar) := seqK Γ (Φ24 n) a24 n c24_14 1 (k24_5 n u)
noncomputable def c24_15 : Code := partA c24_13
noncomputable def c24_16 : Code := partB c24_15
noncomputable def c24_17 : Code := partA c24_16
noncomputable def c24_18 : Code := partA c24_17
noncomputable def k24_7 (n : Nat) (u : Nat → Nat) : Ex → St → Option (List CRes × List CVar) := blockK a24 2 (k24_6 n u)
noncomputable def M24 (n : Nat) (u : Nat → Nat) : P24 → Option (List CRes × List CVar)
  | .F a0 a1 a2 => stepIn (fun A => codeK Γ (Φ24 n) a24 n (bodyOf f24) 0 A (k24_0 n)) (mkSt 59 59 [(0, (.val (.sh 44 (.pair I64 I64)) a0)), (1, (iv a1)), (2, (iv a2))] [])
  | .E0 x72 => stepIn ((k24_1 n) .normal) (mkSt 59 59 [(8, (iv x72))] [])
  | .L0 x67 x68 x69 x70 x71 => stepIn (fun A => loopK Γ (Φ24 n) a24 n c24_8 0 (u 0) A (k24_2 n)) (mkSt 59 59 [(1, (iv x67)), (2, (iv x68)), (7, (.val (.sh 3 I64) x69)), (8, (iv x70)), (9, (iv x71))] [])
  | .E2 x61 x62 x63 x64 x65 x66 => stepIn ((k24_6 n u) .normal) (mkSt 59 59 [(1, (iv x61)), (2, (iv x62)), (7, (.val (.sh 3 I64) x63)), (8, (iv x64)), (9, (iv x65)), (10, (iv x66))] [])
  | .L2 x52 x53 x54 x55 x56 x57 x58 x59 x60 => stepIn (fun A => loopK Γ (Φ24 n) a24 n c24_18 2 (u 2) A (k24_7 n u)) (mkSt 59 59 [(1, (iv x52)), (2, (iv x53)), (7, (.val (.sh 3 I64) x54)), (8, (iv x55)), (9, (iv x56)), (10, (iv x57)), (43, (.val (.sh 3 I64) x58)), (44, (iv x59)), (45, (iv x60))] [])
  | .Q8 x37 x38 x39 x40 x41 => stepIn (fun A => codeK Γ (Φ24 n) a24 n c24_9 0 A (k24_3 n u)) (mkSt 59 59 [(1, (iv x37)), (2, (iv x38)), (7, (.val (.sh 3 I64) x39)), (8, (iv x40)), (9, (iv x41))] [])
theorem h24 (n : Nat) (u : Nat → Nat) : ∀ p, (∀ i, 1 ≤ u i) → Ok1 (s24 n) e24 n (M24 n) u p
  | .F a0 a1 a2, _ => pl [] (at_code rfl ((codeK_seq (by kernel_rfl)).trans (by kernel_rfl)))
  | .E0 x72, _ => pl [] (by kernel_rfl)
  | .L0 x67 x68 x69 x70 x71, hu => hd 0 [0] hu fun m hm => (loopK_at hm).trans ((codeK_seq (by kernel_rfl)).trans ((codeK_seq (by kernel_rfl)).trans (by kernel_rfl)))
  | .E2 x61 x62 x63 x64 x65 x66, _ => pl [0] (by kernel_rfl)
  | .L2 x52 x53 x54 x55 x56 x57 x58 x59 x60, hu => hd 2 [0, 2] hu fun m hm => (loopK_at hm).trans ((codeK_seq (by kernel_rfl)).trans (by kernel_rfl))
  | .Q8 x37 x38 x39 x40 x41, _ => pl [0] (at_code rfl ((codeK_seq (by kernel_rfl)).trans ((codeK_block 1 (by kernel_rfl)).trans ((codeK_seq (by kernel_rfl)).trans (by kernel_rfl)))))
noncomputable def p24 (n : Nat) (a0 : List (Int × Int)) (a1 a2 : Int) : Option (Int) := flow (s24 n) n (.F a0 a1 a2)
theorem up24 {n m : Nat} (h : n ≤ m) (a0 : List (Int × Int)) (a1 a2 : Int) : Up (p24 n a0 a1 a2) (p24 m a0 a1 a2) := flow_up (nat24 n) (us24 h) h _
noncomputable def E24 (n : Nat) : Entry := mkE 24 .flat [.tree (.sh 44 (.pair I64 I64)), .tree I64, .tree I64] [] (fun a b => p24 n a.1 a.2.1 a.2.2.1) e24
theorem ok24 (n : Nat) : EntryOk prog (E24 n) := mkE_ok (Φ := Φ24 n) (ann := a24) (n := n) (F := f24) (by kernel_rfl) (by kernel_rfl) (by kernel_rfl) (known_prog (known_cons (ok81 n) known_nil)) mixed fun a b y h =>
  (show _ = M24 n (fun _ => n) (.F a.1 a.2.1 a.2.2.1) by kernel_rfl).trans (flow_sound (nat24 n) (h24 n) n _ _ y (Nat.le_refl _) (fun _ => Nat.le_refl _) h)
/-! ### F82 (*horarium/horariumkeep.Tape).frame -/
noncomputable def a82 : Ann := { res := [TyO38] }
noncomputable def e82 (y : (List (Int × (Int × Int))) × ((List Int) × Int)) : List CRes × List CVar := ([.v TyO38 y.1], [⟨26, (.pair (.sh 3 I64) I64), y.2⟩])
noncomputable def Φ82 (n : Nat) : Prog := Prog.of [E21 n, E26 n, E31 n, E74 n]
inductive P82 where
  | F (a1 : Int) (b0 : (List Int) × Int)
noncomputable def s82 (n : Nat) (γ : Type) : P82 → (P82 → Option γ) → ((List (Int × (Int × Int))) × ((List Int) × Int) → Option γ) → Option γ
  | .F a1 b0, k, r =>
    (p31 n a1 (4 : Int) b0).bind fun cy1 =>
    (p26 n cy1.1).bind fun cy3 =>
    cond ((!eqB cy3.2 (0 : Int))) (
      (p74 n a1 cy1.2).bind fun cy5 =>
      r ([((3 : Int), ((0 : Int), (2 : Int))), ((1 : Int), (cy5.1, (3 : Int))), ((2 : Int), ((0 : Int), (2 : Int)))], cy5.2)) (
      cond ((ltB (24 : Int) (List.length cy3.1 : Int))) (
        (p74 n a1 cy1.2).bind fun cy7 =>
        r ([((3 : Int), ((0 : Int), (2 : Int))), ((1 : Int), (cy7.1, (3 : Int))), ((2 : Int), ((0 : Int), (2 : Int)))], cy7.2)) (
        (p21 n cy3.1).bind fun y9 =>
        cond ((ltB (90 : Int) y9)) (
          (p74 n a1 cy1.2).bind fun cy10 =>
          r ([((3 : Int), ((0 : Int), (2 : Int))), ((1 : Int), (cy10.1, (3 : Int))), ((2 : Int), ((0 : Int), (2 : Int)))], cy10.2)) (
          r (cy1.1, cy1.2))))
theorem nat82 (n : Nat) : NatS (s82 n) := fun g p k r => by
  cases p <;> simp only [s82, bind_cond, bind_ite, bind_optK, Option.bind_assoc, Option.bind_none]
theorem us82 {n m : Nat} (h : n ≤ m) : UpS (s82 n) (s82 m) := fun γ p k r => by
  cases p <;> dsimp only [s82] <;> repeat' first | with_reducible exact up_rfl | apply up_cond | apply up_ite | apply up_bind | apply up_optK | apply up21 h | apply up26 h | apply up31 h | apply up74 h | intro
noncomputable def k82_0 (n : Nat)  : Ex → St → Option (List CRes × List CVar) := finK' Γ f82 a82 1
noncomputable def M82 (n : Nat) (u : Nat → Nat) : P82 → Option (List CRes × List CVar)
  | .F a1 b0 => stepIn (fun A => codeK Γ (Φ82 n) a82 n (bodyOf f82) 0 A (k82_0 n)) (mkSt 36 37 [(0, (.ptr 36 [])), (1, (iv a1))] [(36, .var 26 (.pair (.sh 3 I64) I64) b0)])
theorem h82 (n : Nat) (u : Nat → Nat) : ∀ p, (∀ i, 1 ≤ u i) → Ok1 (s82 n) e82 n (M82 n) u p
  | .F a1 b0, _ => pl [] (at_code rfl ((codeK_seq (by kernel_rfl)).trans (by kernel_rfl)))
noncomputable def p82 (n : Nat) (a1 : Int) (b0 : (List Int) × Int) : Option ((List (Int × (Int × Int))) × ((List Int) × Int)) := flow (s82 n) n (.F a1 b0)
theorem up82 {n m : Nat} (h : n ≤ m) (a1 : Int) (b0 : (List Int) × Int) : Up (p82 n a1 b0) (p82 m a1 b0) := flow_up (nat82 n) (us82 h) h _
noncomputable def E82 (n : Nat) : Entry := mkE 82 .move [.point, .tree I64] [(26, (.pair (.sh 3 I64) I64))] (fun a b => p82 n a.1 b.1) e82
theorem ok82 (n : Nat) : EntryOk prog (E82 n) := mkE_ok (Φ := Φ82 n) (ann := a82) (n := n) (F := f82) (by kernel_rfl) (by kernel_rfl) (by kernel_rfl) (known_prog (known_cons (ok21 n) (known_cons (ok26 n) (known_cons (ok31 n) (known_cons (ok74 n) known_nil))))) mixed fun a b y h =>
  (show _ = M82 n (fun _ => n) (.F a.1 b.1) by kernel_rfl).trans (flow_sound (nat82 n) (h82 n) n _ _ y (Nat.le_refl _) (fun _ => Nat.le_refl _) h)
/-! ### F66 horarium/horariumref12.Name -/
noncomputable def a66 : Ann := { loops := [(0, { vars := [], sites := [], slots := [(0, .keep), (3, .keep)] })], ends := [(0, { vars := [], sites := [], slots := [(0, .keep)] })], heads := [(3, { vars := [], sites := [], slots := [(0, .keep), (3, .keep)] })], res := [.bool] }
noncomputable def e66 (y : Bool) : List CRes × List CVar := ([.v .bool y], [])
noncomputable def Φ66 (n : Nat) : Prog := Prog.of []
inductive P66 where
  | F (a0 : List UInt8)
  | E0 (x27 : List UInt8)
  | L0 (x15 : List UInt8) (x16 : Int)
  | Q3 (x6 : List UInt8) (x7 : Int)
noncomputable def s66 (n : Nat) (γ : Type) : P66 → (P66 → Option γ) → (Bool → Option γ) → Option γ
  | .F a0, k, r =>
    k (.L0 a0 (0 : Int))
  | .E0 x27, k, r =>
    cond ((leB (1 : Int) (List.length x27 : Int))) (
      r (leB (List.length x27 : Int) (12 : Int))) (
      r false)
  | .L0 x15 x16, k, r =>
    cond ((ltB x16 (List.length x15 : Int))) (
      if 0 ≤ x16 then (
      if x16 < (List.length x15 : Int) then (
      let u17 : Bool := (leB (48 : Int) ((List.getD x15 (Int.toNat x16) 0).toNat : Int))
      cond (u17) (
        if 0 ≤ x16 then (
        if x16 < (List.length x15 : Int) then (
        let u18 : Bool := (leB ((List.getD x15 (Int.toNat x16) 0).toNat : Int) (57 : Int))
        cond (u18) (
          if 0 ≤ x16 then (
          if x16 < (List.length x15 : Int) then (
          let u19 : Bool := (ltB ((List.getD x15 (Int.toNat x16) 0).toNat : Int) (97 : Int))
          cond (u19) (
            cond ((eqB x16 (0 : Int))) (
              r false) (
              k (.Q3 x15 x16))) (
            if 0 ≤ x16 then (
            if x16 < (List.length x15 : Int) then (
            let u20 : Bool := (ltB (122 : Int) ((List.getD x15 (Int.toNat x16) 0).toNat : Int))
            cond (u20) (
              cond ((eqB x16 (0 : Int))) (
                r false) (
                k (.Q3 x15 x16))) (
              k (.Q3 x15 x16))) else none) else none)) else none) else none) (
          if 0 ≤ x16 then (
          if x16 < (List.length x15 : Int) then (
          let u21 : Bool := (eqB ((List.getD x15 (Int.toNat x16) 0).toNat : Int) (95 : Int))
          if 0 ≤ x16 then (
          if x16 < (List.length x15 : Int) then (
          let u22 : Bool := (ltB ((List.getD x15 (Int.toNat x16) 0).toNat : Int) (97 : Int))
          cond (u22) (
            cond ((!u21)) (
              r false) (
              cond ((eqB x16 (0 : Int))) (
                r false) (
                k (.Q3 x15 x16)))) (
            if 0 ≤ x16 then (
            if x16 < (List.length x15 : Int) then (
            let u23 : Bool := (ltB (122 : Int) ((List.getD x15 (Int.toNat x16) 0).toNat : Int))
            cond (u23) (
              cond ((!u21)) (
                r false) (
                cond ((eqB x16 (0 : Int))) (
                  r false) (
                  k (.Q3 x15 x16)))) (
              k (.Q3 x15 x16))) else none) else none)) else none) else none) else none) else none)) else none) else none) (
        if 0 ≤ x16 then (
        if x16 < (List.length x15 : Int) then (
        let u24 : Bool := (eqB ((List.getD x15 (Int.toNat x16) 0).toNat : Int) (95 : Int))
        if 0 ≤ x16 then (
        if x16 < (List.length x15 : Int) then (
        let u25 : Bool := (ltB ((List.getD x15 (Int.toNat x16) 0).toNat : Int) (97 : Int))
        cond (u25) (
          cond ((!u24)) (
            r false) (
            cond ((eqB x16 (0 : Int))) (
              r false) (
              k (.Q3 x15 x16)))) (
          if 0 ≤ x16 then (
          if x16 < (List.length x15 : Int) then (
          let u26 : Bool := (ltB (122 : Int) ((List.getD x15 (Int.toNat x16) 0).toNat : Int))
          cond (u26) (
            cond ((!u24)) (
              r false) (
              cond ((eqB x16 (0 : Int))) (
                r false) (
                k (.Q3 x15 x16)))) (
            k (.Q3 x15 x16))) else none) else none)) else none) else none) else none) else none)) else none) else none) (
      k (.E0 x15))
  | .Q3 x6 x7, k, r =>
    k (.L0 x6 (w64 (x7 + (1 : Int))))
theorem nat66 (n : Nat) : NatS (s66 n) := fun g p k r => by
  cases p <;> simp only [s66, bind_cond, bind_ite, bind_optK, Option.bind_assoc, Option.bind_none]
theorem us66 {n m : Nat} (h : n ≤ m) : UpS (s66 n) (s66 m) := fun γ p k r => by
  cases p <;> dsimp only [s66] <;> repeat' first | with_reducible exact up_rfl | apply up_cond | apply up_ite | apply up_bind | apply up_optK | intro
noncomputable def k66_0 (n : Nat)  : Ex → St → Option (List CRes × List CVar) := finK' Γ f66 a66 0
noncomputable def c66_0 : Code := partB (bodyOf f66)
noncomputable def c66_1 : Code := partB c66_0
noncomputable def k66_1 (n : Nat)  : Ex → St → Option (List CRes × List CVar) := seqK Γ (Φ66 n) a66 n c66_1 0 (k66_0 n)
noncomputable def c66_2 : Code := partA c66_0
noncomputable def c66_3 : Code := partB c66_2
noncomputable def c66_4 : Code := partA c66_3
noncomputable def c66_5 : Code := partA c66_4
noncomputable def k66_2 (n : Nat)  : Ex → St → Option (List CRes × List CVar) := blockK a66 0 (k66_1 n)
noncomputable def c66_6 : Code := partB c66_5
noncomputable def c66_7 : Code := partB c66_6
noncomputable def k66_3 (n : Nat) (u : Nat → Nat) : Ex → St → Option (List CRes × List CVar) := roundK Γ (Φ66 n) a66 n c66_5 0 (u 0) (k66_2 n)
noncomputable def M66 (n : Nat) (u : Nat → Nat) : P66 → Option (List CRes × List CVar)
  | .F a0 => stepIn (fun A => codeK Γ (Φ66 n) a66 n (bodyOf f66) 0 A (k66_0 n)) (mkSt 53 53 [(0, (.val .str a0))] [])
  | .E0 x27 => stepIn ((k66_1 n) .normal) (mkSt 53 53 [(0, (.val .str x27))] [])
  | .L0 x15 x16 => stepIn (fun A => loopK Γ (Φ66 n) a66 n c66_5 0 (u 0) A (k66_2 n)) (mkSt 53 53 [(0, (.val .str x15)), (3, (iv x16))] [])
  | .Q3 x6 x7 => stepIn (fun A => codeK Γ (Φ66 n) a66 n c66_7 0 A (k66_3 n u)) (mkSt 53 53 [(0, (.val .str x6)), (3, (iv x7))] [])
theorem h66 (n : Nat) (u : Nat → Nat) : ∀ p, (∀ i, 1 ≤ u i) → Ok1 (s66 n) e66 n (M66 n) u p
  | .F a0, _ => pl [] (at_code rfl ((codeK_seq (by kernel_rfl)).trans (by kernel_rfl)))
  | .E0 x27, _ => pl [] (by kernel_rfl)
  | .L0 x15 x16, hu => hd 0 [0] hu fun m hm => (loopK_at hm).trans ((codeK_seq (by kernel_rfl)).trans ((codeK_seq (by kernel_rfl)).trans (by kernel_rfl)))
  | .Q3 x6 x7, _ => pl [0] (by kernel_rfl)
noncomputable def p66 (n : Nat) (a0 : List UInt8) : Option (Bool) := flow (s66 n) n (.F a0)
theorem up66 {n m : Nat} (h : n ≤ m) (a0 : List UInt8) : Up (p66 n a0) (p66 m a0) := flow_up (nat66 n) (us66 h) h _
noncomputable def E66 (n : Nat) : Entry := mkE 66 .flat [.tree .str] [] (fun a b => p66 n a.1) e66
theorem ok66 (n : Nat) : EntryOk prog (E66 n) := mkE_ok (Φ := Φ66 n) (ann := a66) (n := n) (F := f66) (by kernel_rfl) (by kernel_rfl) (by kernel_rfl) (known_prog known_nil) mixed fun a b y h =>
  (show _ = M66 n (fun _ => n) (.F a.1) by kernel_rfl).trans (flow_sound (nat66 n) (h66 n) n _ _ y (Nat.le_refl _) (fun _ => Nat.le_refl _) h)
/-! ### F149 horarium/horariumref12.partRight -/
noncomputable def a149 : Ann := { loops := [(0, { vars := [], sites := [1], slots := [(1, .keep), (18, .keep), (19, .keep), (20, .keep)] }), (2, { vars := [], sites := [1], slots := [(1, .keep), (44, .keep), (45, .keep)] })], ends := [(0, { vars := [], sites := [1], slots := [(1, .keep)] }), (2, { vars := [], sites := [1], slots := [(1, .keep)] })], res := [.bool] }
noncomputable def e149 (y : Bool) : List CRes × List CVar := ([.v .bool y], [])
noncomputable def Φ149 (n : Nat) : Prog := Prog.of []
inductive P149 where
  | F (a0 : List UInt8 × (Int × (Int × (Bool × (Bool × ((List (Int × Int)) × (List Int)))))))
  | E0 (x33 : List UInt8) (x34 x35 : Int) (x36 x37 : Bool) (x38 : List (Int × Int)) (x39 : List Int)
  | L0 (x19 : List (Int × Int)) (x20 x21 : Int) (x22 : List UInt8) (x23 x24 : Int) (x25 x26 : Bool) (x27 : List (Int × Int)) (x28 : List Int)
  | E2 (x58 : List UInt8) (x59 x60 : Int) (x61 x62 : Bool) (x63 : List (Int × Int)) (x64 : List Int)
  | L2 (x49 : List Int) (x50 : Int) (x51 : List UInt8) (x52 x53 : Int) (x54 x55 : Bool) (x56 : List (Int × Int)) (x57 : List Int)
noncomputable def s149 (n : Nat) (γ : Type) : P149 → (P149 → Option γ) → (Bool → Option γ) → Option γ
  | .F a0, k, r =>
    cond ((ltB (List.length a0.2.2.2.2.2.1 : Int) (1 : Int))) (
      r false) (
      cond ((ltB (3 : Int) (List.length a0.2.2.2.2.2.1 : Int))) (
        r false) (
        k (.L0 a0.2.2.2.2.2.1 (List.length a0.2.2.2.2.2.1 : Int) (0 : Int) a0.1 a0.2.1 a0.2.2.1 a0.2.2.2.1 a0.2.2.2.2.1 a0.2.2.2.2.2.1 a0.2.2.2.2.2.2)))
  | .E0 x33 x34 x35 x36 x37 x38 x39, k, r =>
    k (.L2 x39 (0 : Int) x33 x34 x35 x36 x37 x38 x39)
  | .L0 x19 x20 x21 x22 x23 x24 x25 x26 x27 x28, k, r =>
    cond ((ltB x21 x20)) (
      if 0 ≤ x21 then (
      if x21 < (List.length x19 : Int) then (
      let u29 : Bool := (ltB (List.getD x19 (Int.toNat x21) ((0 : Int), (0 : Int))).1 (0 : Int))
      cond (u29) (
        r false) (
        let u30 : Bool := (leB (512 : Int) (List.getD x19 (Int.toNat x21) ((0 : Int), (0 : Int))).1)
        cond (u30) (
          r false) (
          let u31 : Bool := (ltB (List.getD x19 (Int.toNat x21) ((0 : Int), (0 : Int))).2 (0 : Int))
          cond (u31) (
            r false) (
            let u32 : Bool := (ltB (255 : Int) (List.getD x19 (Int.toNat x21) ((0 : Int), (0 : Int))).2)
            cond (u32) (
              r false) (
              k (.L0 x19 x20 (w64 (x21 + (1 : Int))) x22 x23 x24 x25 x26 x27 x28)))))) else none) else none) (
      k (.E0 x22 x23 x24 x25 x26 x27 x28))
  | .E2 x58 x59 x60 x61 x62 x63 x64, k, r =>
    cond ((eqB x59 (0 : Int))) (
      cond ((eqB x60 (0 : Int))) (
        r true) (
        cond ((leB (1 : Int) x59)) (
          cond ((leB x59 (4096 : Int))) (
            cond ((leB x59 x60)) (
              r (leB x60 (4096 : Int))) (
              r false)) (
            r false)) (
          r false))) (
      cond ((leB (1 : Int) x59)) (
        cond ((leB x59 (4096 : Int))) (
          cond ((leB x59 x60)) (
            r (leB x60 (4096 : Int))) (
            r false)) (
          r false)) (
        r false))
  | .L2 x49 x50 x51 x52 x53 x54 x55 x56 x57, k, r =>
    cond ((ltB x50 (5 : Int))) (
      if 0 ≤ x50 then (
      if x50 < (5 : Int) then (
      cond ((ltB (List.getD x49 (Int.toNat x50) (0 : Int)) (0 : Int))) (
        r false) (
        cond ((ltB (2 : Int) (List.getD x49 (Int.toNat x50) (0 : Int)))) (
          r false) (
          k (.L2 x49 (w64 (x50 + (1 : Int))) x51 x52 x53 x54 x55 x56 x57)))) else none) else none) (
      k (.E2 x51 x52 x53 x54 x55 x56 x57))
theorem nat149 (n : Nat) : NatS (s149 n) := fun g p k r => by
  cases p <;> simp only [s149, bind_cond, bind_ite, bind_optK, Option.bind_assoc, Option.bind_none]
theorem us149 {n m : Nat} (h : n ≤ m) : UpS (s149 n) (s149 m) := fun γ p k r => by
  cases p <;> dsimp only [s149] <;> repeat' first | with_reducible exact up_rfl | apply up_cond | apply up_ite | apply up_bind | apply up_optK | intro
noncomputable def k149_0 (n : Nat)  : Ex → St → Option (List CRes × List CVar) := finK' Γ f149 a149 0
noncomputable def c149_0 : Code := partB (bodyOf f149)
noncomputable def c149_1 : Code := partB c149_0
noncomputable def c149_2 : Code := partB c149_1
noncomputable def k149_1 (n : Nat)  : Ex → St → Option (List CRes × List CVar) := seqK Γ (Φ149 n) a149 n c149_2 0 (k149_0 n)
noncomputable def c149_3 : Code := partA c149_1
noncomputable def c149_4 : Code := partB c149_3
noncomputable def c149_5 : Code := partA c149_4
noncomputable def c149_6 : Code := partA c149_5
noncomputable def k149_2 (n : Nat)  : Ex → St → Option (List CRes × List CVar) := blockK a149 0 (k149_1 n)
noncomputable def c149_7 : Code := partB c149_2
noncomputable def k149_3 (n : Nat)  : Ex → St → Option (List CRes × List CVar) := seqK Γ (Φ149 n) a149 n c149_7 0 (k149_0 n)
noncomputable def c149_8 : Code := partA c149_2
noncomputable def c149_9 : Code := partB c149_8
noncomputable def c149_10 : Code := partA c149_9
noncomputable def c149_11 : Code := partA c149_10
noncomputable def k149_4 (n : Nat)  : Ex → St → Option (List CRes × List CVar) := blockK a149 2 (k149_3 n)
noncomputable def M149 (n : Nat) (u : Nat → Nat) : P149 → Option (List CRes × List CVar)
  | .F a0 => stepIn (fun A => codeK Γ (Φ149 n) a149 n (bodyOf f149) 0 A (k149_0 n)) (mkSt 83 83 [(0, (.val TyS51 a0))] [])
  | .E0 x33 x34 x35 x36 x37 x38 x39 => stepIn ((k149_1 n) .normal) (mkSt 83 83 [(1, (.ptr 1 []))] [(1, .var 52 TyS51 (x33, (x34, (x35, (x36, (x37, (x38, x39)))))))])
  | .L0 x19 x20 x21 x22 x23 x24 x25 x26 x27 x28 => stepIn (fun A => loopK Γ (Φ149 n) a149 n c149_6 0 (u 0) A (k149_2 n)) (mkSt 83 83 [(1, (.ptr 1 [])), (18, (.val TyS49 x19)), (19, (iv x20)), (20, (iv x21))] [(1, .var 52 TyS51 (x22, (x23, (x24, (x25, (x26, (x27, x28)))))))])
  | .E2 x58 x59 x60 x61 x62 x63 x64 => stepIn ((k149_3 n) .normal) (mkSt 83 83 [(1, (.ptr 1 []))] [(1, .var 52 TyS51 (x58, (x59, (x60, (x61, (x62, (x63, x64)))))))])
  | .L2 x49 x50 x51 x52 x53 x54 x55 x56 x57 => stepIn (fun A => loopK Γ (Φ149 n) a149 n c149_11 2 (u 2) A (k149_4 n)) (mkSt 83 83 [(1, (.ptr 1 [])), (44, (.val (.arr 5 I64) x49)), (45, (iv x50))] [(1, .var 52 TyS51 (x51, (x52, (x53, (x54, (x55, (x56, x57)))))))])
theorem h149 (n : Nat) (u : Nat → Nat) : ∀ p, (∀ i, 1 ≤ u i) → Ok1 (s149 n) e149 n (M149 n) u p
  | .F a0, _ => pl [] (at_code rfl ((codeK_seq (by kernel_rfl)).trans (by kernel_rfl)))
  | .E0 x33 x34 x35 x36 x37 x38 x39, _ => pl [] (by kernel_rfl)
  | .L0 x19 x20 x21 x22 x23 x24 x25 x26 x27 x28, hu => hd 0 [0] hu fun m hm => (loopK_at hm).trans ((codeK_seq (by kernel_rfl)).trans (by kernel_rfl))
  | .E2 x58 x59 x60 x61 x62 x63 x64, _ => pl [] (by kernel_rfl)
  | .L2 x49 x50 x51 x52 x53 x54 x55 x56 x57, hu => hd 2 [2] hu fun m hm => (loopK_at hm).trans ((codeK_seq (by kernel_rfl)).trans (by kernel_rfl))
noncomputable def p149 (n : Nat) (a0 : List UInt8 × (Int × (Int × (Bool × (Bool × ((List (Int × Int)) × (List Int))))))) : Option (Bool) := flow (s149 n) n (.F a0)
theorem up149 {n m : Nat} (h : n ≤ m) (a0 : List UInt8 × (Int × (Int × (Bool × (Bool × ((List (Int × Int)) × (List Int))))))) : Up (p149 n a0) (p149 m a0) := flow_up (nat149 n) (us149 h) h _
noncomputable def E149 (n : Nat) : Entry := mkE 149 .flat [.tree TyS51] [] (fun a b => p149 n a.1) e149
theorem ok149 (n : Nat) : EntryOk prog (E149 n) := mkE_ok (Φ := Φ149 n) (ann := a149) (n := n) (F := f149) (by kernel_rfl) (by kernel_rfl) (by kernel_rfl) (known_prog known_nil) mixed fun a b y h =>
  (show _ = M149 n (fun _ => n) (.F a.1) by kernel_rfl).trans (flow_sound (nat149 n) (h149 n) n _ _ y (Nat.le_refl _) (fun _ => Nat.le_refl _) h)
end Go.Am
