/- B3: pure meanings of functions, printed by wip/tools/gen5.py. -/
import Derived.Test.YtebmpngnbnigcaaS1Tys
import Derived.Test.YtebmpngnbnigcaaB2
set_option linter.unusedVariables false
set_option linter.unusedSimpArgs false
set_option maxRecDepth 20000
set_option maxHeartbeats 0
namespace Go.Am
open Go.Proofs.Try
/-! ### F36 horarium/horariumref3.Length -/
noncomputable def a36 : Ann := { res := [I64, .bool] }
noncomputable def e36 (y : Int × Bool) : List CRes × List CVar := ([.v I64 y.1, .v .bool y.2], [])
noncomputable def Φ36 (n : Nat) : Prog := Prog.of [E85 n, E86 n]
inductive P36 where
  | F (a0 : List (Int × (Int × Int)))
noncomputable def s36 (n : Nat) (γ : Type) : P36 → (P36 → Option γ) → ((Int × Bool) → Option γ) → Option γ
  | .F a0, k, r =>
    (p85 n a0).bind fun y1 =>
    cond ((eqB y1 (0 : Int))) (
      r ((0 : Int), false)) (
      (p86 n a0 (0 : Int)).bind fun y2 =>
      cond ((ltB (4096 : Int) y2)) (
        r ((0 : Int), false)) (
        r (y2, true)))
theorem nat36 (n : Nat) : NatS (s36 n) := fun g p k r => by
  cases p <;> simp only [s36, bind_cond, bind_ite, Option.bind_assoc, Option.bind_none]
theorem us36 {n m : Nat} (h : n ≤ m) : UpS (s36 n) (s36 m) := fun γ p k r => by
  cases p <;> dsimp only [s36] <;> repeat' first | with_reducible exact up_rfl | apply up_cond | apply up_ite | apply up_bind | apply up85 h | apply up86 h | intro
noncomputable def k36_0 (n : Nat)  : Ex → St → Option (List CRes × List CVar) := finK' Γ f36 a36 0
noncomputable def M36 (n : Nat) (u : Nat → Nat) : P36 → Option (List CRes × List CVar)
  | .F a0 => stepIn (fun A => codeK Γ (Φ36 n) a36 n (bodyOf f36) 0 A (k36_0 n)) (mkSt 13 13 [(0, (.val TyS38 a0))] [])
theorem h36 (n : Nat) (u : Nat → Nat) : ∀ p, (∀ i, 1 ≤ u i) → Ok1 (s36 n) e36 n (M36 n) u p
  | .F a0, _ => pl [] (at_code rfl ((codeK_seq (by kernel_rfl)).trans (by kernel_rfl)))
noncomputable def p36 (n : Nat) (a0 : List (Int × (Int × Int))) : Option (Int × Bool) := flow (s36 n) n (.F a0)
theorem up36 {n m : Nat} (h : n ≤ m) (a0 : List (Int × (Int × Int))) : Up (p36 n a0) (p36 m a0) := flow_up (nat36 n) (us36 h) h _
noncomputable def E36 (n : Nat) : Entry := mkE 36 .flat [.tree TyS38] [] (fun a b => p36 n a.1) e36
theorem ok36 (n : Nat) : EntryOk prog (E36 n) := mkE_ok (Φ := Φ36 n) (ann := a36) (n := n) (F := f36) (by kernel_rfl) (by kernel_rfl) (by kernel_rfl) (known_prog (known_cons (ok85 n) (known_cons (ok86 n) known_nil))) mixed fun a b y h =>
  (show _ = M36 n (fun _ => n) (.F a.1) by kernel_rfl).trans (flow_sound (nat36 n) (h36 n) n _ _ y (Nat.le_refl _) (fun _ => Nat.le_refl _) h)
/-! ### F37 horarium/horariumref3.Right -/
noncomputable def a37 : Ann := { res := [I64] }
noncomputable def e37 (y : Int) : List CRes × List CVar := ([.v I64 y], [])
noncomputable def Φ37 (n : Nat) : Prog := Prog.of [E36 n, E85 n]
inductive P37 where
  | F (a0 : List (Int × (Int × Int)))
noncomputable def s37 (n : Nat) (γ : Type) : P37 → (P37 → Option γ) → (Int → Option γ) → Option γ
  | .F a0, k, r =>
    cond ((ltB (128 : Int) (List.length a0 : Int))) (
      r (3 : Int)) (
      (p85 n a0).bind fun y1 =>
      cond ((eqB y1 (0 : Int))) (
        r (12 : Int)) (
        (p85 n a0).bind fun y2 =>
        cond ((ltB (16 : Int) y2)) (
          r (14 : Int)) (
          (p36 n a0).bind fun cy3 =>
          cond ((!cy3.2)) (
            r (18 : Int)) (
            r (0 : Int)))))
theorem nat37 (n : Nat) : NatS (s37 n) := fun g p k r => by
  cases p <;> simp only [s37, bind_cond, bind_ite, Option.bind_assoc, Option.bind_none]
theorem us37 {n m : Nat} (h : n ≤ m) : UpS (s37 n) (s37 m) := fun γ p k r => by
  cases p <;> dsimp only [s37] <;> repeat' first | with_reducible exact up_rfl | apply up_cond | apply up_ite | apply up_bind | apply up36 h | apply up85 h | intro
noncomputable def k37_0 (n : Nat)  : Ex → St → Option (List CRes × List CVar) := finK' Γ f37 a37 0
noncomputable def M37 (n : Nat) (u : Nat → Nat) : P37 → Option (List CRes × List CVar)
  | .F a0 => stepIn (fun A => codeK Γ (Φ37 n) a37 n (bodyOf f37) 0 A (k37_0 n)) (mkSt 21 21 [(0, (.val TyS38 a0))] [])
theorem h37 (n : Nat) (u : Nat → Nat) : ∀ p, (∀ i, 1 ≤ u i) → Ok1 (s37 n) e37 n (M37 n) u p
  | .F a0, _ => pl [] (at_code rfl ((codeK_seq (by kernel_rfl)).trans (by kernel_rfl)))
noncomputable def p37 (n : Nat) (a0 : List (Int × (Int × Int))) : Option (Int) := flow (s37 n) n (.F a0)
theorem up37 {n m : Nat} (h : n ≤ m) (a0 : List (Int × (Int × Int))) : Up (p37 n a0) (p37 m a0) := flow_up (nat37 n) (us37 h) h _
noncomputable def E37 (n : Nat) : Entry := mkE 37 .flat [.tree TyS38] [] (fun a b => p37 n a.1) e37
theorem ok37 (n : Nat) : EntryOk prog (E37 n) := mkE_ok (Φ := Φ37 n) (ann := a37) (n := n) (F := f37) (by kernel_rfl) (by kernel_rfl) (by kernel_rfl) (known_prog (known_cons (ok36 n) (known_cons (ok85 n) known_nil))) mixed fun a b y h =>
  (show _ = M37 n (fun _ => n) (.F a.1) by kernel_rfl).trans (flow_sound (nat37 n) (h37 n) n _ _ y (Nat.le_refl _) (fun _ => Nat.le_refl _) h)
/-! ### F135 horarium/horariumref3.leaves -/
noncomputable def a135 : Ann := { draws := [(3, { order := [0, 1, 2, 3, 4, 5, 6, 7, 8, 9, 10, 11, 12, 13, 14], touch := [(12, []), (13, [2, 29])] })], loops := [(1, { vars := [], sites := [2], slots := [(0, .keep), (1, .keep), (2, .tree (.ow 44 (.pair I64 I64))), (7, .keep)] }), (3, { vars := [], sites := [2, 61], slots := [(0, .keep), (2, .tree (.ow 44 (.pair I64 I64))), (61, .tree (.ow 3 I64)), (62, .keep), (63, .keep)] })], ends := [(1, { vars := [], sites := [2], slots := [(2, .tree (.ow 44 (.pair I64 I64)))] }), (3, { vars := [], sites := [2], slots := [(2, .tree (.ow 44 (.pair I64 I64)))] })], heads := [(2, { vars := [], sites := [2], slots := [(0, .keep), (1, .keep), (2, .tree (.ow 44 (.pair I64 I64))), (14, .keep)] })], res := [(.ow 44 (.pair I64 I64))] }
noncomputable def e135 (y : List (Int × Int)) : List CRes × List CVar := ([.v (.ow 44 (.pair I64 I64)) y], [])
noncomputable def Es135 (n : Nat) (slf : (List (Int × (Int × Int))) → Int → (List (Int × Int)) → Option (List (Int × Int))) : Entry := mkE 135 .move [.tree TyS38, .tree I64, .tree (.ow 44 (.pair I64 I64))] [] (fun a b => slf a.1 a.2.1 a.2.2.1) e135
noncomputable def Φ135 (n : Nat) (slf : (List (Int × (Int × Int))) → Int → (List (Int × Int)) → Option (List (Int × Int))) : Prog := Prog.of [Es135 n slf, E138 n]
inductive P135 where
  | F (a0 : List (Int × (Int × Int))) (a1 : Int) (a2 : List (Int × Int))
  | E1 (x34 : List (Int × Int))
  | L1 (x15 : List (Int × (Int × Int))) (x16 x17 : Int) (x18 : List (Int × Int))
  | Q2 (x1 : List (Int × (Int × Int))) (x2 x3 : Int) (x4 : List (Int × Int))
  | E3 (x36 : List (Int × Int))
  | L3 (x27 : List (Int × (Int × Int))) (x28 x29 : Int) (x30 : List (Int × Int)) (x31 : List Int)
noncomputable def s135 (n : Nat) (slf : (List (Int × (Int × Int))) → Int → (List (Int × Int)) → Option (List (Int × Int))) (γ : Type) : P135 → (P135 → Option γ) → ((List (Int × Int)) → Option γ) → Option γ
  | .F a0 a1 a2, k, r =>
    if 0 ≤ a1 then (
    if a1 < (List.length a0 : Int) then (
    k (.Q2 a0 a1 (List.getD a0 (Int.toNat a1) ((0 : Int), ((0 : Int), (0 : Int)))).1 a2)) else none) else none
  | .E1 x34, k, r =>
    r x34
  | .L1 x15 x16 x17 x18, k, r =>
    if 0 ≤ x16 then (
    if x16 < (List.length x15 : Int) then (
    let u32 : Bool := (ltB x17 (List.getD x15 (Int.toNat x16) ((0 : Int), ((0 : Int), (0 : Int)))).2.2)
    cond (u32) (
      (slf x15 (w64 (x16 + (1 : Int))) x18).bind fun y33 =>
      k (.L1 x15 x16 (w64 (x17 + (1 : Int))) y33)) (
      k (.E1 x18))) else none) else none
  | .Q2 x1 x2 x3 x4, k, r =>
    cond ((eqB x3 (1 : Int))) (
      if 0 ≤ x2 then (
      if x2 < (List.length x1 : Int) then (
      if 0 ≤ x2 then (
      if x2 < (List.length x1 : Int) then (
      if (List.length x4 + List.length [((List.getD x1 (Int.toNat x2) ((0 : Int), ((0 : Int), (0 : Int)))).2.1, (List.getD x1 (Int.toNat x2) ((0 : Int), ((0 : Int), (0 : Int)))).2.2)]) * 16 ≤ 140737488355328 then (
      let u5 : List (Int × Int) := (x4 ++ [((List.getD x1 (Int.toNat x2) ((0 : Int), ((0 : Int), (0 : Int)))).2.1, (List.getD x1 (Int.toNat x2) ((0 : Int), ((0 : Int), (0 : Int)))).2.2)])
      r u5) else none) else none) else none) else none) else none) (
      cond ((eqB x3 (2 : Int))) (
        if 0 ≤ x2 then (
        if x2 < (List.length x1 : Int) then (
        if (List.length x4 + List.length [((-1 : Int), (List.getD x1 (Int.toNat x2) ((0 : Int), ((0 : Int), (0 : Int)))).2.2)]) * 16 ≤ 140737488355328 then (
        let u6 : List (Int × Int) := (x4 ++ [((-1 : Int), (List.getD x1 (Int.toNat x2) ((0 : Int), ((0 : Int), (0 : Int)))).2.2)])
        r u6) else none) else none) else none) (
        cond ((eqB x3 (4 : Int))) (
          k (.L1 x1 x2 (0 : Int) x4)) (
          (p138 n x1 x2).bind fun y19 =>
          k (.L3 x1 (List.length y19 : Int) (0 : Int) x4 y19))))
  | .E3 x36, k, r =>
    r x36
  | .L3 x27 x28 x29 x30 x31, k, r =>
    cond ((ltB x29 x28)) (
      if 0 ≤ x29 then (
      if x29 < (List.length x31 : Int) then (
      (slf x27 (List.getD x31 (Int.toNat x29) (0 : Int)) x30).bind fun y35 =>
      k (.L3 x27 x28 (w64 (x29 + (1 : Int))) y35 x31)) else none) else none) (
      k (.E3 x30))
theorem nat135 (n : Nat) (slf : (List (Int × (Int × Int))) → Int → (List (Int × Int)) → Option (List (Int × Int))) : NatS (s135 n slf) := fun g p k r => by
  cases p <;> simp only [s135, bind_cond, bind_ite, Option.bind_assoc, Option.bind_none]
theorem us135 {n m : Nat} (h : n ≤ m) {slf slf' : (List (Int × (Int × Int))) → Int → (List (Int × Int)) → Option (List (Int × Int))} (hs : ∀ a0 a1 a2, Up (slf a0 a1 a2) (slf' a0 a1 a2)) : UpS (s135 n slf) (s135 m slf') := fun γ p k r => by
  cases p <;> dsimp only [s135] <;> repeat' first | with_reducible exact up_rfl | apply up_cond | apply up_ite | apply up_bind | apply up138 h | apply hs | intro
noncomputable def k135_0 (n : Nat) (slf : (List (Int × (Int × Int))) → Int → (List (Int × Int)) → Option (List (Int × Int)))  : Ex → St → Option (List CRes × List CVar) := finK' Γ f135 a135 0
noncomputable def c135_0 : Code := partB (bodyOf f135)
noncomputable def c135_1 : Code := partB c135_0
noncomputable def k135_1 (n : Nat) (slf : (List (Int × (Int × Int))) → Int → (List (Int × Int)) → Option (List (Int × Int)))  : Ex → St → Option (List CRes × List CVar) := seqK Γ (Φ135 n slf) a135 n c135_1 0 (k135_0 n slf)
noncomputable def k135_2 (n : Nat) (slf : (List (Int × (Int × Int))) → Int → (List (Int × Int)) → Option (List (Int × Int)))  : Ex → St → Option (List CRes × List CVar) := blockK a135 0 (k135_1 n slf)
noncomputable def c135_2 : Code := partA c135_0
noncomputable def c135_3 : Code := partB c135_2
noncomputable def c135_4 : Code := partA c135_3
noncomputable def c135_5 : Code := partB c135_4
noncomputable def c135_6 : Code := partB c135_5
noncomputable def c135_7 : Code := partB c135_6
noncomputable def c135_8 : Code := partB c135_7
noncomputable def c135_9 : Code := partB c135_8
noncomputable def c135_10 : Code := partA c135_9
noncomputable def c135_11 : Code := partB c135_10
noncomputable def k135_3 (n : Nat) (slf : (List (Int × (Int × Int))) → Int → (List (Int × Int)) → Option (List (Int × Int)))  : Ex → St → Option (List CRes × List CVar) := seqK Γ (Φ135 n slf) a135 n c135_11 0 (k135_2 n slf)
noncomputable def c135_12 : Code := partA c135_10
noncomputable def c135_13 : Code := partB c135_12
noncomputable def c135_14 : Code := partA c135_13
noncomputable def c135_15 : Code := partA c135_14
noncomputable def k135_4 (n : Nat) (slf : (List (Int × (Int × Int))) → Int → (List (Int × Int)) → Option (List (Int × Int)))  : Ex → St → Option (List CRes × List CVar) := blockK a135 1 (k135_3 n slf)
noncomputable def c135_16 : Code := partB c135_1
noncomputable def k135_5 (n : Nat) (slf : (List (Int × (Int × Int))) → Int → (List (Int × Int)) → Option (List (Int × Int)))  : Ex → St → Option (List CRes × List CVar) := seqK Γ (Φ135 n slf) a135 n c135_16 0 (k135_0 n slf)
noncomputable def c135_17 : Code := partA c135_1
noncomputable def c135_18 : Code := partB c135_17
noncomputable def c135_19 : Code := partA c135_18
noncomputable def c135_20 : Code := partA c135_19
noncomputable def k135_6 (n : Nat) (slf : (List (Int × (Int × Int))) → Int → (List (Int × Int)) → Option (List (Int × Int)))  : Ex → St → Option (List CRes × List CVar) := blockK a135 3 (k135_5 n slf)
noncomputable def M135 (n : Nat) (slf : (List (Int × (Int × Int))) → Int → (List (Int × Int)) → Option (List (Int × Int))) (u : Nat → Nat) : P135 → Option (List CRes × List CVar)
  | .F a0 a1 a2 => stepIn (fun A => codeK Γ (Φ135 n slf) a135 n (bodyOf f135) 0 A (k135_0 n slf)) (mkSt 73 73 [(0, (.val TyS38 a0)), (1, (iv a1)), (2, (.ref 2 []))] [(2, .tmp (.ow 44 (.pair I64 I64)) a2)])
  | .E1 x34 => stepIn ((k135_3 n slf) .normal) (mkSt 73 73 [(2, (.ref 2 []))] [(2, .tmp (.ow 44 (.pair I64 I64)) x34)])
  | .L1 x15 x16 x17 x18 => stepIn (fun A => loopK Γ (Φ135 n slf) a135 n c135_15 1 (u 1) A (k135_4 n slf)) (mkSt 73 73 [(0, (.val TyS38 x15)), (1, (iv x16)), (2, (.ref 2 [])), (7, (iv x17))] [(2, .tmp (.ow 44 (.pair I64 I64)) x18)])
  | .Q2 x1 x2 x3 x4 => stepIn (fun A => codeK Γ (Φ135 n slf) a135 n c135_3 0 A (k135_1 n slf)) (mkSt 73 73 [(0, (.val TyS38 x1)), (1, (iv x2)), (2, (.ref 2 [])), (14, (iv x3))] [(2, .tmp (.ow 44 (.pair I64 I64)) x4)])
  | .E3 x36 => stepIn ((k135_5 n slf) .normal) (mkSt 73 73 [(2, (.ref 2 []))] [(2, .tmp (.ow 44 (.pair I64 I64)) x36)])
  | .L3 x27 x28 x29 x30 x31 => stepIn (fun A => loopK Γ (Φ135 n slf) a135 n c135_20 3 (u 3) A (k135_6 n slf)) (mkSt 73 73 [(0, (.val TyS38 x27)), (2, (.ref 2 [])), (61, (.ref 61 [])), (62, (iv x28)), (63, (iv x29))] [(2, .tmp (.ow 44 (.pair I64 I64)) x30), (61, .tmp (.ow 3 I64) x31)])
theorem h135 (n : Nat) (slf : (List (Int × (Int × Int))) → Int → (List (Int × Int)) → Option (List (Int × Int))) (u : Nat → Nat) : ∀ p, (∀ i, 1 ≤ u i) → Ok1 (s135 n slf) e135 n (M135 n slf) u p
  | .F a0 a1 a2, _ => pl [] (at_code rfl ((codeK_seq (by kernel_rfl)).trans (by kernel_rfl)))
  | .E1 x34, _ => pl [] (by kernel_rfl)
  | .L1 x15 x16 x17 x18, hu => hd 1 [1] hu fun m hm => (loopK_at hm).trans ((codeK_seq (by kernel_rfl)).trans ((codeK_seq (by kernel_rfl)).trans (by kernel_rfl)))
  | .Q2 x1 x2 x3 x4, _ => pl [] (at_code rfl ((codeK_block 0 (by kernel_rfl)).trans ((codeK_seq (by kernel_rfl)).trans (by kernel_rfl))))
  | .E3 x36, _ => pl [] (by kernel_rfl)
  | .L3 x27 x28 x29 x30 x31, hu => hd 3 [3] hu fun m hm => (loopK_at hm).trans ((codeK_seq (by kernel_rfl)).trans (by kernel_rfl))
noncomputable def p135' (n : Nat) (m : Nat) : (List (Int × (Int × Int))) → Int → (List (Int × Int)) → Option (List (Int × Int)) := Nat.rec (fun _ _ _ => none) (fun _ slf a0 a1 a2 => flow (s135 n slf) n (.F a0 a1 a2)) m
noncomputable def p135 (n : Nat) : (List (Int × (Int × Int))) → Int → (List (Int × Int)) → Option (List (Int × Int)) := p135' n n
theorem up135' {n m : Nat} (h : n ≤ m) : ∀ {a b : Nat}, a ≤ b → ∀ a0 a1 a2, Up (p135' n a a0 a1 a2) (p135' m b a0 a1 a2)
  | 0, _, _, _, _, _ => fun v hv => by cases hv
  | _ + 1, 0, h1, _, _, _ => by omega
  | a + 1, b + 1, h1, a0, a1, a2 => flow_up (nat135 n _) (us135 h fun a0 a1 a2 => up135' h (Nat.le_of_succ_le_succ h1) a0 a1 a2) h _
theorem up135 {n m : Nat} (h : n ≤ m) (a0 : List (Int × (Int × Int))) (a1 : Int) (a2 : List (Int × Int)) : Up (p135 n a0 a1 a2) (p135 m a0 a1 a2) := up135' h h a0 a1 a2
noncomputable def E135 (n : Nat) : Entry := Es135 n (p135 n)
theorem ok135' (n : Nat) : ∀ m : Nat, EntryOk prog (Es135 n (p135' n m))
  | 0 => mkE_none (F := f135) (by kernel_rfl) (by kernel_rfl) (by kernel_rfl) fun _ _ => rfl
  | m + 1 => mkE_ok (Φ := Φ135 n (p135' n m)) (ann := a135) (n := n) (F := f135) (by kernel_rfl) (by kernel_rfl) (by kernel_rfl) (known_prog (known_cons (ok135' n m) (known_cons (ok138 n) known_nil))) mixed fun a b y h =>
    (show _ = M135 n (p135' n m) (fun _ => n) (.F a.1 a.2.1 a.2.2.1) by kernel_rfl).trans (flow_sound (nat135 n (p135' n m)) (h135 n (p135' n m)) n _ _ y (Nat.le_refl _) (fun _ => Nat.le_refl _) h)
theorem ok135 (n : Nat) : EntryOk prog (E135 n) := ok135' n n
/-! ### F84 horarium/horariumref3.Leaves -/
noncomputable def a84 : Ann := { res := [(.ow 44 (.pair I64 I64))] }
noncomputable def e84 (y : List (Int × Int)) : List CRes × List CVar := ([.v (.ow 44 (.pair I64 I64)) y], [])
noncomputable def Φ84 (n : Nat) : Prog := Prog.of [E135 n]
inductive P84 where
  | F (a0 : List (Int × (Int × Int)))
noncomputable def s84 (n : Nat) (γ : Type) : P84 → (P84 → Option γ) → ((List (Int × Int)) → Option γ) → Option γ
  | .F a0, k, r =>
    (p135 n a0 (0 : Int) ([] : (List (Int × Int)))).bind fun y1 =>
    r y1
theorem nat84 (n : Nat) : NatS (s84 n) := fun g p k r => by
  cases p <;> simp only [s84, bind_cond, bind_ite, Option.bind_assoc, Option.bind_none]
theorem us84 {n m : Nat} (h : n ≤ m) : UpS (s84 n) (s84 m) := fun γ p k r => by
  cases p <;> dsimp only [s84] <;> repeat' first | with_reducible exact up_rfl | apply up_cond | apply up_ite | apply up_bind | apply up135 h | intro
noncomputable def k84_0 (n : Nat)  : Ex → St → Option (List CRes × List CVar) := finK' Γ f84 a84 0
noncomputable def M84 (n : Nat) (u : Nat → Nat) : P84 → Option (List CRes × List CVar)
  | .F a0 => stepIn (fun A => codeK Γ (Φ84 n) a84 n (bodyOf f84) 0 A (k84_0 n)) (mkSt 5 5 [(0, (.val TyS38 a0))] [])
theorem h84 (n : Nat) (u : Nat → Nat) : ∀ p, (∀ i, 1 ≤ u i) → Ok1 (s84 n) e84 n (M84 n) u p
  | .F a0, _ => pl [] (at_code rfl ((codeK_seq (by kernel_rfl)).trans (by kernel_rfl)))
noncomputable def p84 (n : Nat) (a0 : List (Int × (Int × Int))) : Option (List (Int × Int)) := flow (s84 n) n (.F a0)
theorem up84 {n m : Nat} (h : n ≤ m) (a0 : List (Int × (Int × Int))) : Up (p84 n a0) (p84 m a0) := flow_up (nat84 n) (us84 h) h _
noncomputable def E84 (n : Nat) : Entry := mkE 84 .look [.tree TyS38] [] (fun a b => p84 n a.1) e84
theorem ok84 (n : Nat) : EntryOk prog (E84 n) := mkE_ok (Φ := Φ84 n) (ann := a84) (n := n) (F := f84) (by kernel_rfl) (by kernel_rfl) (by kernel_rfl) (known_prog (known_cons (ok135 n) known_nil)) mixed fun a b y h =>
  (show _ = M84 n (fun _ => n) (.F a.1) by kernel_rfl).trans (flow_sound (nat84 n) (h84 n) n _ _ y (Nat.le_refl _) (fun _ => Nat.le_refl _) h)
/-! ### F48 horarium/horariumref3.Tidy -/
noncomputable def a48 : Ann := { draws := [(7, { order := [0, 1, 2, 3, 4, 5, 6, 7, 8, 9, 10, 11, 12] }), (8, { order := [0, 1, 2, 3, 4, 5, 6, 7, 8, 9, 10, 11, 12, 13, 14], touch := [(11, []), (14, [3])] })], loops := [(0, { vars := [], sites := [3], slots := [(3, .tree (.ow 44 (.pair I64 I64))), (7, .keep), (8, .keep), (9, .keep)] })], ends := [(0, { vars := [], sites := [3], slots := [(3, .tree (.ow 44 (.pair I64 I64)))] })], res := [(.ow 44 (.pair I64 I64))] }
noncomputable def e48 (y : List (Int × Int)) : List CRes × List CVar := ([.v (.ow 44 (.pair I64 I64)) y], [])
noncomputable def Φ48 (n : Nat) : Prog := Prog.of [E75 n]
inductive P48 where
  | F (a0 : List (Int × Int))
  | E0 (x19 : List (Int × Int))
  | L0 (x10 : List (Int × Int)) (x11 x12 : Int) (x13 : List (Int × Int))
noncomputable def s48 (n : Nat) (γ : Type) : P48 → (P48 → Option γ) → ((List (Int × Int)) → Option γ) → Option γ
  | .F a0, k, r =>
    k (.L0 a0 (List.length a0 : Int) (0 : Int) ([] : (List (Int × Int))))
  | .E0 x19, k, r =>
    r x19
  | .L0 x10 x11 x12 x13, k, r =>
    cond ((ltB x12 x11)) (
      if 0 ≤ x12 then (
      if x12 < (List.length x10 : Int) then (
      let u14 : Bool := (ltB (List.getD x10 (Int.toNat x12) ((0 : Int), (0 : Int))).2 (1 : Int))
      cond (u14) (
        k (.L0 x10 x11 (w64 (x12 + (1 : Int))) x13)) (
        cond ((ltB (0 : Int) (List.length x13 : Int))) (
          if 0 ≤ (w64 ((List.length x13 : Int) - (1 : Int))) then (
          if (w64 ((List.length x13 : Int) - (1 : Int))) < (List.length x13 : Int) then (
          let u15 : Bool := (eqB (List.getD x13 (Int.toNat (w64 ((List.length x13 : Int) - (1 : Int)))) ((0 : Int), (0 : Int))).1 (List.getD x10 (Int.toNat x12) ((0 : Int), (0 : Int))).1)
          cond (u15) (
            if 0 ≤ (w64 ((List.length x13 : Int) - (1 : Int))) then (
            if (w64 ((List.length x13 : Int) - (1 : Int))) < (List.length x13 : Int) then (
            (p75 n (List.getD x13 (Int.toNat (w64 ((List.length x13 : Int) - (1 : Int)))) ((0 : Int), (0 : Int))).2 (List.getD x10 (Int.toNat x12) ((0 : Int), (0 : Int))).2).bind fun y16 =>
            if 0 ≤ (w64 ((List.length x13 : Int) - (1 : Int))) then (
            if (w64 ((List.length x13 : Int) - (1 : Int))) < (List.length x13 : Int) then (
            k (.L0 x10 x11 (w64 (x12 + (1 : Int))) (List.set x13 (Int.toNat (w64 ((List.length x13 : Int) - (1 : Int)))) ((List.getD x13 (Int.toNat (w64 ((List.length x13 : Int) - (1 : Int)))) ((0 : Int), (0 : Int))).1, y16)))) else none) else none) else none) else none) (
            if (List.length x13 + List.length [(List.getD x10 (Int.toNat x12) ((0 : Int), (0 : Int)))]) * 16 ≤ 140737488355328 then (
            let u17 : List (Int × Int) := (x13 ++ [(List.getD x10 (Int.toNat x12) ((0 : Int), (0 : Int)))])
            k (.L0 x10 x11 (w64 (x12 + (1 : Int))) u17)) else none)) else none) else none) (
          if (List.length x13 + List.length [(List.getD x10 (Int.toNat x12) ((0 : Int), (0 : Int)))]) * 16 ≤ 140737488355328 then (
          let u18 : List (Int × Int) := (x13 ++ [(List.getD x10 (Int.toNat x12) ((0 : Int), (0 : Int)))])
          k (.L0 x10 x11 (w64 (x12 + (1 : Int))) u18)) else none))) else none) else none) (
      k (.E0 x13))
theorem nat48 (n : Nat) : NatS (s48 n) := fun g p k r => by
  cases p <;> simp only [s48, bind_cond, bind_ite, Option.bind_assoc, Option.bind_none]
theorem us48 {n m : Nat} (h : n ≤ m) : UpS (s48 n) (s48 m) := fun γ p k r => by
  cases p <;> dsimp only [s48] <;> repeat' first | with_reducible exact up_rfl | apply up_cond | apply up_ite | apply up_bind | apply up75 h | intro
noncomputable def k48_0 (n : Nat)  : Ex → St → Option (List CRes × List CVar) := finK' Γ f48 a48 0
noncomputable def c48_0 : Code := partB (bodyOf f48)
noncomputable def c48_1 : Code := partB c48_0
noncomputable def c48_2 : Code := partB c48_1
noncomputable def k48_1 (n : Nat)  : Ex → St → Option (List CRes × List CVar) := seqK Γ (Φ48 n) a48 n c48_2 0 (k48_0 n)
noncomputable def c48_3 : Code := partA c48_1
noncomputable def c48_4 : Code := partB c48_3
noncomputable def c48_5 : Code := partA c48_4
noncomputable def c48_6 : Code := partA c48_5
noncomputable def k48_2 (n : Nat)  : Ex → St → Option (List CRes × List CVar) := blockK a48 0 (k48_1 n)
noncomputable def M48 (n : Nat) (u : Nat → Nat) : P48 → Option (List CRes × List CVar)
  | .F a0 => stepIn (fun A => codeK Γ (Φ48 n) a48 n (bodyOf f48) 0 A (k48_0 n)) (mkSt 51 51 [(0, (.val (.sh 44 (.pair I64 I64)) a0))] [])
  | .E0 x19 => stepIn ((k48_1 n) .normal) (mkSt 51 51 [(3, (.ref 3 []))] [(3, .tmp (.ow 44 (.pair I64 I64)) x19)])
  | .L0 x10 x11 x12 x13 => stepIn (fun A => loopK Γ (Φ48 n) a48 n c48_6 0 (u 0) A (k48_2 n)) (mkSt 51 51 [(3, (.ref 3 [])), (7, (.val (.sh 44 (.pair I64 I64)) x10)), (8, (iv x11)), (9, (iv x12))] [(3, .tmp (.ow 44 (.pair I64 I64)) x13)])
theorem h48 (n : Nat) (u : Nat → Nat) : ∀ p, (∀ i, 1 ≤ u i) → Ok1 (s48 n) e48 n (M48 n) u p
  | .F a0, _ => pl [] (at_code rfl ((codeK_seq (by kernel_rfl)).trans (by kernel_rfl)))
  | .E0 x19, _ => pl [] (by kernel_rfl)
  | .L0 x10 x11 x12 x13, hu => hd 0 [0] hu fun m hm => (loopK_at hm).trans ((codeK_seq (by kernel_rfl)).trans (by kernel_rfl))
noncomputable def p48 (n : Nat) (a0 : List (Int × Int)) : Option (List (Int × Int)) := flow (s48 n) n (.F a0)
theorem up48 {n m : Nat} (h : n ≤ m) (a0 : List (Int × Int)) : Up (p48 n a0) (p48 m a0) := flow_up (nat48 n) (us48 h) h _
noncomputable def E48 (n : Nat) : Entry := mkE 48 .look [.tree (.sh 44 (.pair I64 I64))] [] (fun a b => p48 n a.1) e48
theorem ok48 (n : Nat) : EntryOk prog (E48 n) := mkE_ok (Φ := Φ48 n) (ann := a48) (n := n) (F := f48) (by kernel_rfl) (by kernel_rfl) (by kernel_rfl) (known_prog (known_cons (ok75 n) known_nil)) mixed fun a b y h =>
  (show _ = M48 n (fun _ => n) (.F a.1) by kernel_rfl).trans (flow_sound (nat48 n) (h48 n) n _ _ y (Nat.le_refl _) (fun _ => Nat.le_refl _) h)
/-! ### F26 horarium/horariumref3.Of -/
noncomputable def a26 : Ann := { res := [(.ow 44 (.pair I64 I64)), I64] }
noncomputable def e26 (y : (List (Int × Int)) × Int) : List CRes × List CVar := ([.v (.ow 44 (.pair I64 I64)) y.1, .v I64 y.2], [])
noncomputable def Φ26 (n : Nat) : Prog := Prog.of [E37 n, E48 n, E84 n]
inductive P26 where
  | F (a0 : List (Int × (Int × Int)))
noncomputable def s26 (n : Nat) (γ : Type) : P26 → (P26 → Option γ) → ((List (Int × Int)) × Int → Option γ) → Option γ
  | .F a0, k, r =>
    (p37 n a0).bind fun y1 =>
    cond ((!eqB y1 (0 : Int))) (
      r (([] : (List (Int × Int))), y1)) (
      (p84 n a0).bind fun y2 =>
      (p48 n y2).bind fun y3 =>
      cond ((ltB (96 : Int) (List.length y3 : Int))) (
        r (([] : (List (Int × Int))), (3 : Int))) (
        r (y3, (0 : Int))))
theorem nat26 (n : Nat) : NatS (s26 n) := fun g p k r => by
  cases p <;> simp only [s26, bind_cond, bind_ite, Option.bind_assoc, Option.bind_none]
theorem us26 {n m : Nat} (h : n ≤ m) : UpS (s26 n) (s26 m) := fun γ p k r => by
  cases p <;> dsimp only [s26] <;> repeat' first | with_reducible exact up_rfl | apply up_cond | apply up_ite | apply up_bind | apply up37 h | apply up48 h | apply up84 h | intro
noncomputable def k26_0 (n : Nat)  : Ex → St → Option (List CRes × List CVar) := finK' Γ f26 a26 0
noncomputable def M26 (n : Nat) (u : Nat → Nat) : P26 → Option (List CRes × List CVar)
  | .F a0 => stepIn (fun A => codeK Γ (Φ26 n) a26 n (bodyOf f26) 0 A (k26_0 n)) (mkSt 18 18 [(0, (.val TyS38 a0))] [])
theorem h26 (n : Nat) (u : Nat → Nat) : ∀ p, (∀ i, 1 ≤ u i) → Ok1 (s26 n) e26 n (M26 n) u p
  | .F a0, _ => pl [] (at_code rfl ((codeK_seq (by kernel_rfl)).trans (by kernel_rfl)))
noncomputable def p26 (n : Nat) (a0 : List (Int × (Int × Int))) : Option ((List (Int × Int)) × Int) := flow (s26 n) n (.F a0)
theorem up26 {n m : Nat} (h : n ≤ m) (a0 : List (Int × (Int × Int))) : Up (p26 n a0) (p26 m a0) := flow_up (nat26 n) (us26 h) h _
noncomputable def E26 (n : Nat) : Entry := mkE 26 .look [.tree TyS38] [] (fun a b => p26 n a.1) e26
theorem ok26 (n : Nat) : EntryOk prog (E26 n) := mkE_ok (Φ := Φ26 n) (ann := a26) (n := n) (F := f26) (by kernel_rfl) (by kernel_rfl) (by kernel_rfl) (known_prog (known_cons (ok37 n) (known_cons (ok48 n) (known_cons (ok84 n) known_nil)))) mixed fun a b y h =>
  (show _ = M26 n (fun _ => n) (.F a.1) by kernel_rfl).trans (flow_sound (nat26 n) (h26 n) n _ _ y (Nat.le_refl _) (fun _ => Nat.le_refl _) h)
/-! ### F82 (*horarium/horariumkeep.Tape).frame -/
noncomputable def a82 : Ann := { res := [TyO38] }
noncomputable def e82 (y : (List (Int × (Int × Int))) × ((List Int) × Int)) : List CRes × List CVar := ([.v TyO38 y.1], [⟨26, (.pair (.sh 3 I64) I64), y.2⟩])
noncomputable def Φ82 (n : Nat) : Prog := Prog.of [E21 n, E26 n, E31 n, E74 n]
inductive P82 where
  | F (a1 : Int) (b0 : (List Int) × Int)
noncomputable def s82 (n : Nat) (γ : Type) : P82 → (P82 → Option γ) → ((List (Int × (Int × Int))) × ((List Int) × Int) → Option γ) → Option γ
  | .F a1 b0, k, r =>
    (p31 n a1 (4 : Int) b0).bind fun cy1 =>
    (p26 n cy1.1).bind fun cy3 =>
    cond ((!eqB cy3.2 (0 : Int))) (
      (p74 n a1 cy1.2).bind fun cy5 =>
      r ([((3 : Int), ((0 : Int), (2 : Int))), ((1 : Int), (cy5.1, (3 : Int))), ((2 : Int), ((0 : Int), (2 : Int)))], cy5.2)) (
      cond ((ltB (24 : Int) (List.length cy3.1 : Int))) (
        (p74 n a1 cy1.2).bind fun cy7 =>
        r ([((3 : Int), ((0 : Int), (2 : Int))), ((1 : Int), (cy7.1, (3 : Int))), ((2 : Int), ((0 : Int), (2 : Int)))], cy7.2)) (
        (p21 n cy3.1).bind fun y9 =>
        cond ((ltB (90 : Int) y9)) (
          (p74 n a1 cy1.2).bind fun cy10 =>
          r ([((3 : Int), ((0 : Int), (2 : Int))), ((1 : Int), (cy10.1, (3 : Int))), ((2 : Int), ((0 : Int), (2 : Int)))], cy10.2)) (
          r (cy1.1, cy1.2))))
theorem nat82 (n : Nat) : NatS (s82 n) := fun g p k r => by
  cases p <;> simp only [s82, bind_cond, bind_ite, Option.bind_assoc, Option.bind_none]
theorem us82 {n m : Nat} (h : n ≤ m) : UpS (s82 n) (s82 m) := fun γ p k r => by
  cases p <;> dsimp only [s82] <;> repeat' first | with_reducible exact up_rfl | apply up_cond | apply up_ite | apply up_bind | apply up21 h | apply up26 h | apply up31 h | apply up74 h | intro
noncomputable def k82_0 (n : Nat)  : Ex → St → Option (List CRes × List CVar) := finK' Γ f82 a82 1
noncomputable def M82 (n : Nat) (u : Nat → Nat) : P82 → Option (List CRes × List CVar)
  | .F a1 b0 => stepIn (fun A => codeK Γ (Φ82 n) a82 n (bodyOf f82) 0 A (k82_0 n)) (mkSt 36 37 [(0, (.ptr 36 [])), (1, (iv a1))] [(36, .var 26 (.pair (.sh 3 I64) I64) b0)])
theorem h82 (n : Nat) (u : Nat → Nat) : ∀ p, (∀ i, 1 ≤ u i) → Ok1 (s82 n) e82 n (M82 n) u p
  | .F a1 b0, _ => pl [] (at_code rfl ((codeK_seq (by kernel_rfl)).trans (by kernel_rfl)))
noncomputable def p82 (n : Nat) (a1 : Int) (b0 : (List Int) × Int) : Option ((List (Int × (Int × Int))) × ((List Int) × Int)) := flow (s82 n) n (.F a1 b0)
theorem up82 {n m : Nat} (h : n ≤ m) (a1 : Int) (b0 : (List Int) × Int) : Up (p82 n a1 b0) (p82 m a1 b0) := flow_up (nat82 n) (us82 h) h _
noncomputable def E82 (n : Nat) : Entry := mkE 82 .move [.point, .tree I64] [(26, (.pair (.sh 3 I64) I64))] (fun a b => p82 n a.1 b.1) e82
theorem ok82 (n : Nat) : EntryOk prog (E82 n) := mkE_ok (Φ := Φ82 n) (ann := a82) (n := n) (F := f82) (by kernel_rfl) (by kernel_rfl) (by kernel_rfl) (known_prog (known_cons (ok21 n) (known_cons (ok26 n) (known_cons (ok31 n) (known_cons (ok74 n) known_nil))))) mixed fun a b y h =>
  (show _ = M82 n (fun _ => n) (.F a.1 b.1) by kernel_rfl).trans (flow_sound (nat82 n) (h82 n) n _ _ y (Nat.le_refl _) (fun _ => Nat.le_refl _) h)
/-! ### F66 horarium/horariumref12.Name -/
noncomputable def a66 : Ann := { loops := [(0, { vars := [], sites := [], slots := [(0, .keep), (3, .keep)] })], ends := [(0, { vars := [], sites := [], slots := [(0, .keep)] })], heads := [(3, { vars := [], sites := [], slots := [(0, .keep), (3, .keep)] })], res := [.bool] }
noncomputable def e66 (y : Bool) : List CRes × List CVar := ([.v .bool y], [])
noncomputable def Φ66 (n : Nat) : Prog := Prog.of []
inductive P66 where
  | F (a0 : List UInt8)
  | E0 (x27 : List UInt8)
  | L0 (x15 : List UInt8) (x16 : Int)
  | Q3 (x6 : List UInt8) (x7 : Int)
noncomputable def s66 (n : Nat) (γ : Type) : P66 → (P66 → Option γ) → (Bool → Option γ) → Option γ
  | .F a0, k, r =>
    k (.L0 a0 (0 : Int))
  | .E0 x27, k, r =>
    cond ((leB (1 : Int) (List.length x27 : Int))) (
      r (leB (List.length x27 : Int) (12 : Int))) (
      r false)
  | .L0 x15 x16, k, r =>
    cond ((ltB x16 (List.length x15 : Int))) (
      if 0 ≤ x16 then (
      if x16 < (List.length x15 : Int) then (
      let u17 : Bool := (leB (48 : Int) ((List.getD x15 (Int.toNat x16) 0).toNat : Int))
      cond (u17) (
        if 0 ≤ x16 then (
        if x16 < (List.length x15 : Int) then (
        let u18 : Bool := (leB ((List.getD x15 (Int.toNat x16) 0).toNat : Int) (57 : Int))
        cond (u18) (
          if 0 ≤ x16 then (
          if x16 < (List.length x15 : Int) then (
          let u19 : Bool := (ltB ((List.getD x15 (Int.toNat x16) 0).toNat : Int) (97 : Int))
          cond (u19) (
            cond ((eqB x16 (0 : Int))) (
              r false) (
              k (.Q3 x15 x16))) (
            if 0 ≤ x16 then (
            if x16 < (List.length x15 : Int) then (
            let u20 : Bool := (ltB (122 : Int) ((List.getD x15 (Int.toNat x16) 0).toNat : Int))
            cond (u20) (
              cond ((eqB x16 (0 : Int))) (
                r false) (
                k (.Q3 x15 x16))) (
              k (.Q3 x15 x16))) else none) else none)) else none) else none) (
          if 0 ≤ x16 then (
          if x16 < (List.length x15 : Int) then (
          let u21 : Bool := (eqB ((List.getD x15 (Int.toNat x16) 0).toNat : Int) (95 : Int))
          if 0 ≤ x16 then (
          if x16 < (List.length x15 : Int) then (
          let u22 : Bool := (ltB ((List.getD x15 (Int.toNat x16) 0).toNat : Int) (97 : Int))
          cond (u22) (
            cond ((!u21)) (
              r false) (
              cond ((eqB x16 (0 : Int))) (
                r false) (
                k (.Q3 x15 x16)))) (
            if 0 ≤ x16 then (
            if x16 < (List.length x15 : Int) then (
            let u23 : Bool := (ltB (122 : Int) ((List.getD x15 (Int.toNat x16) 0).toNat : Int))
            cond (u23) (
              cond ((!u21)) (
                r false) (
                cond ((eqB x16 (0 : Int))) (
                  r false) (
                  k (.Q3 x15 x16)))) (
              k (.Q3 x15 x16))) else none) else none)) else none) else none) else none) else none)) else none) else none) (
        if 0 ≤ x16 then (
        if x16 < (List.length x15 : Int) then (
        let u24 : Bool := (eqB ((List.getD x15 (Int.toNat x16) 0).toNat : Int) (95 : Int))
        if 0 ≤ x16 then (
        if x16 < (List.length x15 : Int) then (
        let u25 : Bool := (ltB ((List.getD x15 (Int.toNat x16) 0).toNat : Int) (97 : Int))
        cond (u25) (
          cond ((!u24)) (
            r false) (
            cond ((eqB x16 (0 : Int))) (
              r false) (
              k (.Q3 x15 x16)))) (
          if 0 ≤ x16 then (
          if x16 < (List.length x15 : Int) then (
          let u26 : Bool := (ltB (122 : Int) ((List.getD x15 (Int.toNat x16) 0).toNat : Int))
          cond (u26) (
            cond ((!u24)) (
              r false) (
              cond ((eqB x16 (0 : Int))) (
                r false) (
                k (.Q3 x15 x16)))) (
            k (.Q3 x15 x16))) else none) else none)) else none) else none) else none) else none)) else none) else none) (
      k (.E0 x15))
  | .Q3 x6 x7, k, r =>
    k (.L0 x6 (w64 (x7 + (1 : Int))))
theorem nat66 (n : Nat) : NatS (s66 n) := fun g p k r => by
  cases p <;> simp only [s66, bind_cond, bind_ite, Option.bind_assoc, Option.bind_none]
theorem us66 {n m : Nat} (h : n ≤ m) : UpS (s66 n) (s66 m) := fun γ p k r => by
  cases p <;> dsimp only [s66] <;> repeat' first | with_reducible exact up_rfl | apply up_cond | apply up_ite | apply up_bind | intro
noncomputable def k66_0 (n : Nat)  : Ex → St → Option (List CRes × List CVar) := finK' Γ f66 a66 0
noncomputable def c66_0 : Code := partB (bodyOf f66)
noncomputable def c66_1 : Code := partB c66_0
noncomputable def k66_1 (n : Nat)  : Ex → St → Option (List CRes × List CVar) := seqK Γ (Φ66 n) a66 n c66_1 0 (k66_0 n)
noncomputable def c66_2 : Code := partA c66_0
noncomputable def c66_3 : Code := partB c66_2
noncomputable def c66_4 : Code := partA c66_3
noncomputable def c66_5 : Code := partA c66_4
noncomputable def k66_2 (n : Nat)  : Ex → St → Option (List CRes × List CVar) := blockK a66 0 (k66_1 n)
noncomputable def c66_6 : Code := partB c66_5
noncomputable def c66_7 : Code := partB c66_6
noncomputable def k66_3 (n : Nat) (u : Nat → Nat) : Ex → St → Option (List CRes × List CVar) := roundK Γ (Φ66 n) a66 n c66_5 0 (u 0) (k66_2 n)
noncomputable def M66 (n : Nat) (u : Nat → Nat) : P66 → Option (List CRes × List CVar)
  | .F a0 => stepIn (fun A => codeK Γ (Φ66 n) a66 n (bodyOf f66) 0 A (k66_0 n)) (mkSt 53 53 [(0, (.val .str a0))] [])
  | .E0 x27 => stepIn ((k66_1 n) .normal) (mkSt 53 53 [(0, (.val .str x27))] [])
  | .L0 x15 x16 => stepIn (fun A => loopK Γ (Φ66 n) a66 n c66_5 0 (u 0) A (k66_2 n)) (mkSt 53 53 [(0, (.val .str x15)), (3, (iv x16))] [])
  | .Q3 x6 x7 => stepIn (fun A => codeK Γ (Φ66 n) a66 n c66_7 0 A (k66_3 n u)) (mkSt 53 53 [(0, (.val .str x6)), (3, (iv x7))] [])
theorem h66 (n : Nat) (u : Nat → Nat) : ∀ p, (∀ i, 1 ≤ u i) → Ok1 (s66 n) e66 n (M66 n) u p
  | .F a0, _ => pl [] (at_code rfl ((codeK_seq (by kernel_rfl)).trans (by kernel_rfl)))
  | .E0 x27, _ => pl [] (by kernel_rfl)
  | .L0 x15 x16, hu => hd 0 [0] hu fun m hm => (loopK_at hm).trans ((codeK_seq (by kernel_rfl)).trans ((codeK_seq (by kernel_rfl)).trans (by kernel_rfl)))
  | .Q3 x6 x7, _ => pl [0] (by kernel_rfl)
noncomputable def p66 (n : Nat) (a0 : List UInt8) : Option (Bool) := flow (s66 n) n (.F a0)
theorem up66 {n m : Nat} (h : n ≤ m) (a0 : List UInt8) : Up (p66 n a0) (p66 m a0) := flow_up (nat66 n) (us66 h) h _
noncomputable def E66 (n : Nat) : Entry := mkE 66 .flat [.tree .str] [] (fun a b => p66 n a.1) e66
theorem ok66 (n : Nat) : EntryOk prog (E66 n) := mkE_ok (Φ := Φ66 n) (ann := a66) (n := n) (F := f66) (by kernel_rfl) (by kernel_rfl) (by kernel_rfl) (known_prog known_nil) mixed fun a b y h =>
  (show _ = M66 n (fun _ => n) (.F a.1) by kernel_rfl).trans (flow_sound (nat66 n) (h66 n) n _ _ y (Nat.le_refl _) (fun _ => Nat.le_refl _) h)
/-! ### F149 horarium/horariumref12.partRight -/
noncomputable def a149 : Ann := { loops := [(0, { vars := [], sites := [1], slots := [(1, .keep), (18, .keep), (19, .keep), (20, .keep)] }), (2, { vars := [], sites := [1], slots := [(1, .keep), (44, .keep), (45, .keep)] })], ends := [(0, { vars := [], sites := [1], slots := [(1, .keep)] }), (2, { vars := [], sites := [1], slots := [(1, .keep)] })], res := [.bool] }
noncomputable def e149 (y : Bool) : List CRes × List CVar := ([.v .bool y], [])
noncomputable def Φ149 (n : Nat) : Prog := Prog.of []
inductive P149 where
  | F (a0 : List UInt8 × (Int × (Int × (Bool × (Bool × ((List (Int × Int)) × (List Int)))))))
  | E0 (x33 : List UInt8) (x34 x35 : Int) (x36 x37 : Bool) (x38 : List (Int × Int)) (x39 : List Int)
  | L0 (x19 : List (Int × Int)) (x20 x21 : Int) (x22 : List UInt8) (x23 x24 : Int) (x25 x26 : Bool) (x27 : List (Int × Int)) (x28 : List Int)
  | E2 (x58 : List UInt8) (x59 x60 : Int) (x61 x62 : Bool) (x63 : List (Int × Int)) (x64 : List Int)
  | L2 (x49 : List Int) (x50 : Int) (x51 : List UInt8) (x52 x53 : Int) (x54 x55 : Bool) (x56 : List (Int × Int)) (x57 : List Int)
noncomputable def s149 (n : Nat) (γ : Type) : P149 → (P149 → Option γ) → (Bool → Option γ) → Option γ
  | .F a0, k, r =>
    cond ((ltB (List.length a0.2.2.2.2.2.1 : Int) (1 : Int))) (
      r false) (
      cond ((ltB (3 : Int) (List.length a0.2.2.2.2.2.1 : Int))) (
        r false) (
        k (.L0 a0.2.2.2.2.2.1 (List.length a0.2.2.2.2.2.1 : Int) (0 : Int) a0.1 a0.2.1 a0.2.2.1 a0.2.2.2.1 a0.2.2.2.2.1 a0.2.2.2.2.2.1 a0.2.2.2.2.2.2)))
  | .E0 x33 x34 x35 x36 x37 x38 x39, k, r =>
    k (.L2 x39 (0 : Int) x33 x34 x35 x36 x37 x38 x39)
  | .L0 x19 x20 x21 x22 x23 x24 x25 x26 x27 x28, k, r =>
    cond ((ltB x21 x20)) (
      if 0 ≤ x21 then (
      if x21 < (List.length x19 : Int) then (
      let u29 : Bool := (ltB (List.getD x19 (Int.toNat x21) ((0 : Int), (0 : Int))).1 (0 : Int))
      cond (u29) (
        r false) (
        let u30 : Bool := (leB (512 : Int) (List.getD x19 (Int.toNat x21) ((0 : Int), (0 : Int))).1)
        cond (u30) (
          r false) (
          let u31 : Bool := (ltB (List.getD x19 (Int.toNat x21) ((0 : Int), (0 : Int))).2 (0 : Int))
          cond (u31) (
            r false) (
            let u32 : Bool := (ltB (255 : Int) (List.getD x19 (Int.toNat x21) ((0 : Int), (0 : Int))).2)
            cond (u32) (
              r false) (
              k (.L0 x19 x20 (w64 (x21 + (1 : Int))) x22 x23 x24 x25 x26 x27 x28)))))) else none) else none) (
      k (.E0 x22 x23 x24 x25 x26 x27 x28))
  | .E2 x58 x59 x60 x61 x62 x63 x64, k, r =>
    cond ((eqB x59 (0 : Int))) (
      cond ((eqB x60 (0 : Int))) (
        r true) (
        cond ((leB (1 : Int) x59)) (
          cond ((leB x59 (4096 : Int))) (
            cond ((leB x59 x60)) (
              r (leB x60 (4096 : Int))) (
              r false)) (
            r false)) (
          r false))) (
      cond ((leB (1 : Int) x59)) (
        cond ((leB x59 (4096 : Int))) (
          cond ((leB x59 x60)) (
            r (leB x60 (4096 : Int))) (
            r false)) (
          r false)) (
        r false))
  | .L2 x49 x50 x51 x52 x53 x54 x55 x56 x57, k, r =>
    cond ((ltB x50 (5 : Int))) (
      if 0 ≤ x50 then (
      if x50 < (5 : Int) then (
      cond ((ltB (List.getD x49 (Int.toNat x50) (0 : Int)) (0 : Int))) (
        r false) (
        cond ((ltB (2 : Int) (List.getD x49 (Int.toNat x50) (0 : Int)))) (
          r false) (
          k (.L2 x49 (w64 (x50 + (1 : Int))) x51 x52 x53 x54 x55 x56 x57)))) else none) else none) (
      k (.E2 x51 x52 x53 x54 x55 x56 x57))
theorem nat149 (n : Nat) : NatS (s149 n) := fun g p k r => by
  cases p <;> simp only [s149, bind_cond, bind_ite, Option.bind_assoc, Option.bind_none]
theorem us149 {n m : Nat} (h : n ≤ m) : UpS (s149 n) (s149 m) := fun γ p k r => by
  cases p <;> dsimp only [s149] <;> repeat' first | with_reducible exact up_rfl | apply up_cond | apply up_ite | apply up_bind | intro
noncomputable def k149_0 (n : Nat)  : Ex → St → Option (List CRes × List CVar) := finK' Γ f149 a149 0
noncomputable def c149_0 : Code := partB (bodyOf f149)
noncomputable def c149_1 : Code := partB c149_0
noncomputable def c149_2 : Code := partB c149_1
noncomputable def k149_1 (n : Nat)  : Ex → St → Option (List CRes × List CVar) := seqK Γ (Φ149 n) a149 n c149_2 0 (k149_0 n)
noncomputable def c149_3 : Code := partA c149_1
noncomputable def c149_4 : Code := partB c149_3
noncomputable def c149_5 : Code := partA c149_4
noncomputable def c149_6 : Code := partA c149_5
noncomputable def k149_2 (n : Nat)  : Ex → St → Option (List CRes × List CVar) := blockK a149 0 (k149_1 n)
noncomputable def c149_7 : Code := partB c149_2
noncomputable def k149_3 (n : Nat)  : Ex → St → Option (List CRes × List CVar) := seqK Γ (Φ149 n) a149 n c149_7 0 (k149_0 n)
noncomputable def c149_8 : Code := partA c149_2
noncomputable def c149_9 : Code := partB c149_8
noncomputable def c149_10 : Code := partA c149_9
noncomputable def c149_11 : Code := partA c149_10
noncomputable def k149_4 (n : Nat)  : Ex → St → Option (List CRes × List CVar) := blockK a149 2 (k149_3 n)
noncomputable def M149 (n : Nat) (u : Nat → Nat) : P149 → Option (List CRes × List CVar)
  | .F a0 => stepIn (fun A => codeK Γ (Φ149 n) a149 n (bodyOf f149) 0 A (k149_0 n)) (mkSt 83 83 [(0, (.val TyS51 a0))] [])
  | .E0 x33 x34 x35 x36 x37 x38 x39 => stepIn ((k149_1 n) .normal) (mkSt 83 83 [(1, (.ptr 1 []))] [(1, .var 52 TyS51 (x33, (x34, (x35, (x36, (x37, (x38, x39)))))))])
  | .L0 x19 x20 x21 x22 x23 x24 x25 x26 x27 x28 => stepIn (fun A => loopK Γ (Φ149 n) a149 n c149_6 0 (u 0) A (k149_2 n)) (mkSt 83 83 [(1, (.ptr 1 [])), (18, (.val TyS49 x19)), (19, (iv x20)), (20, (iv x21))] [(1, .var 52 TyS51 (x22, (x23, (x24, (x25, (x26, (x27, x28)))))))])
  | .E2 x58 x59 x60 x61 x62 x63 x64 => stepIn ((k149_3 n) .normal) (mkSt 83 83 [(1, (.ptr 1 []))] [(1, .var 52 TyS51 (x58, (x59, (x60, (x61, (x62, (x63, x64)))))))])
  | .L2 x49 x50 x51 x52 x53 x54 x55 x56 x57 => stepIn (fun A => loopK Γ (Φ149 n) a149 n c149_11 2 (u 2) A (k149_4 n)) (mkSt 83 83 [(1, (.ptr 1 [])), (44, (.val (.arr 5 I64) x49)), (45, (iv x50))] [(1, .var 52 TyS51 (x51, (x52, (x53, (x54, (x55, (x56, x57)))))))])
theorem h149 (n : Nat) (u : Nat → Nat) : ∀ p, (∀ i, 1 ≤ u i) → Ok1 (s149 n) e149 n (M149 n) u p
  | .F a0, _ => pl [] (at_code rfl ((codeK_seq (by kernel_rfl)).trans (by kernel_rfl)))
  | .E0 x33 x34 x35 x36 x37 x38 x39, _ => pl [] (by kernel_rfl)
  | .L0 x19 x20 x21 x22 x23 x24 x25 x26 x27 x28, hu => hd 0 [0] hu fun m hm => (loopK_at hm).trans ((codeK_seq (by kernel_rfl)).trans (by kernel_rfl))
  | .E2 x58 x59 x60 x61 x62 x63 x64, _ => pl [] (by kernel_rfl)
  | .L2 x49 x50 x51 x52 x53 x54 x55 x56 x57, hu => hd 2 [2] hu fun m hm => (loopK_at hm).trans ((codeK_seq (by kernel_rfl)).trans (by kernel_rfl))
noncomputable def p149 (n : Nat) (a0 : List UInt8 × (Int × (Int × (Bool × (Bool × ((List (Int × Int)) × (List Int))))))) : Option (Bool) := flow (s149 n) n (.F a0)
theorem up149 {n m : Nat} (h : n ≤ m) (a0 : List UInt8 × (Int × (Int × (Bool × (Bool × ((List (Int × Int)) × (List Int))))))) : Up (p149 n a0) (p149 m a0) := flow_up (nat149 n) (us149 h) h _
noncomputable def E149 (n : Nat) : Entry := mkE 149 .flat [.tree TyS51] [] (fun a b => p149 n a.1) e149
theorem ok149 (n : Nat) : EntryOk prog (E149 n) := mkE_ok (Φ := Φ149 n) (ann := a149) (n := n) (F := f149) (by kernel_rfl) (by kernel_rfl) (by kernel_rfl) (known_prog known_nil) mixed fun a b y h =>
  (show _ = M149 n (fun _ => n) (.F a.1) by kernel_rfl).trans (flow_sound (nat149 n) (h149 n) n _ _ y (Nat.le_refl _) (fun _ => Nat.le_refl _) h)
/-! ### F150 horarium/horariumref12.chanRight -/
noncomputable def a150 : Ann := { res := [.bool] }
noncomputable def e150 (y : Bool) : List CRes × List CVar := ([.v .bool y], [])
noncomputable def Φ150 (n : Nat) : Prog := Prog.of []
inductive P150 where
  | F (a0 : Int × (Int × (Bool × (Int × (Int × Int))))) (a1 : Int)
noncomputable def s150 (n : Nat) (γ : Type) : P150 → (P150 → Option γ) → (Bool → Option γ) → Option γ
  | .F a0 a1, k, r =>
    cond ((ltB a0.1 (0 : Int))) (
      r false) (
      cond ((leB a1 a0.1)) (
        r false) (
        cond ((ltB a0.2.1 (0 : Int))) (
          r false) (
          cond ((leB a1 a0.2.1)) (
            r false) (
            cond ((eqB a0.1 a0.2.1)) (
              r false) (
              cond ((ltB a0.2.2.2.2.2 (0 : Int))) (
                r false) (
                cond ((ltB (4096 : Int) a0.2.2.2.2.2)) (
                  r false) (
                  cond (a0.2.2.1) (
                    cond ((leB (1 : Int) a0.2.2.2.1)) (
                      cond ((leB a0.2.2.2.1 (8 : Int))) (
                        r true) (
                        cond ((!a0.2.2.1)) (
                          r (eqB a0.2.2.2.1 (0 : Int))) (
                          r false))) (
                      cond ((!a0.2.2.1)) (
                        r (eqB a0.2.2.2.1 (0 : Int))) (
                        r false))) (
                    cond ((!a0.2.2.1)) (
                      r (eqB a0.2.2.2.1 (0 : Int))) (
                      r false)))))))))
theorem nat150 (n : Nat) : NatS (s150 n) := fun g p k r => by
  cases p <;> simp only [s150, bind_cond, bind_ite, Option.bind_assoc, Option.bind_none]
theorem us150 {n m : Nat} (h : n ≤ m) : UpS (s150 n) (s150 m) := fun γ p k r => by
  cases p <;> dsimp only [s150] <;> repeat' first | with_reducible exact up_rfl | apply up_cond | apply up_ite | apply up_bind | intro
noncomputable def k150_0 (n : Nat)  : Ex → St → Option (List CRes × List CVar) := finK' Γ f150 a150 0
noncomputable def M150 (n : Nat) (u : Nat → Nat) : P150 → Option (List CRes × List CVar)
  | .F a0 a1 => stepIn (fun A => codeK Γ (Φ150 n) a150 n (bodyOf f150) 0 A (k150_0 n)) (mkSt 64 64 [(0, (.val TyO47 a0)), (1, (iv a1))] [])
theorem h150 (n : Nat) (u : Nat → Nat) : ∀ p, (∀ i, 1 ≤ u i) → Ok1 (s150 n) e150 n (M150 n) u p
  | .F a0 a1, _ => pl [] (at_code rfl ((codeK_seq (by kernel_rfl)).trans (by kernel_rfl)))
noncomputable def p150 (n : Nat) (a0 : Int × (Int × (Bool × (Int × (Int × Int))))) (a1 : Int) : Option (Bool) := flow (s150 n) n (.F a0 a1)
theorem up150 {n m : Nat} (h : n ≤ m) (a0 : Int × (Int × (Bool × (Int × (Int × Int))))) (a1 : Int) : Up (p150 n a0 a1) (p150 m a0 a1) := flow_up (nat150 n) (us150 h) h _
noncomputable def E150 (n : Nat) : Entry := mkE 150 .flat [.tree TyO47, .tree I64] [] (fun a b => p150 n a.1 a.2.1) e150
theorem ok150 (n : Nat) : EntryOk prog (E150 n) := mkE_ok (Φ := Φ150 n) (ann := a150) (n := n) (F := f150) (by kernel_rfl) (by kernel_rfl) (by kernel_rfl) (known_prog known_nil) mixed fun a b y h =>
  (show _ = M150 n (fun _ => n) (.F a.1 a.2.1) by kernel_rfl).trans (flow_sound (nat150 n) (h150 n) n _ _ y (Nat.le_refl _) (fun _ => Nat.le_refl _) h)
/-! ### F28 horarium/horariumref7.Holds -/
noncomputable def a28 : Ann := { draws := [(11, { order := [0, 1, 2, 3, 4, 5, 6, 7, 9, 10, 8, 11, 12], touch := [(8, [])] })], loops := [(0, { vars := [], sites := [2], slots := [(1, .keep), (2, .keep), (11, .keep), (12, .keep), (13, .keep)] }), (2, { vars := [], sites := [], slots := [(1, .keep), (38, .keep), (39, .keep), (40, .keep)] })], ends := [(0, { vars := [], sites := [2], slots := [(1, .keep), (2, .keep)] }), (2, { vars := [], sites := [], slots := [] })], res := [I64] }
noncomputable def e28 (y : Int) : List CRes × List CVar := ([.v I64 y], [])
noncomputable def Φ28 (n : Nat) : Prog := Prog.of [E24 n, E77 n]
inductive P28 where
  | F (a0 : Vl32 × (Vl33 × Vl34)) (a1 : List (Int × Int))
  | E0 (x24 : List (Int × Int)) (x25 : List Vl51) (x26 : List Vl47) (x27 : List (List (Int × (Int × Int))))
  | L0 (x14 : List (Int × Int)) (x15 : List Vl47) (x16 x17 : Int) (x18 : List Vl51) (x19 : List Vl47) (x20 : List (List (Int × (Int × Int))))
  | E2 
  | L2 (x38 : List (Int × Int)) (x39 : List Vl51) (x40 x41 : Int)
noncomputable def s28 (n : Nat) (γ : Type) : P28 → (P28 → Option γ) → (Int → Option γ) → Option γ
  | .F a0 a1, k, r =>
    k (.L0 a1 a0.2.1 (List.length a0.2.1 : Int) (0 : Int) a0.1 a0.2.1 a0.2.2)
  | .E0 x24 x25 x26 x27, k, r =>
    k (.L2 x24 x25 (List.length x25 : Int) (0 : Int))
  | .L0 x14 x15 x16 x17 x18 x19 x20, k, r =>
    cond ((ltB x17 x16)) (
      if 0 ≤ x17 then (
      if x17 < (List.length x15 : Int) then (
      (p77 n x14 (List.getD x15 (Int.toNat x17) ((0 : Int), ((0 : Int), (false, ((0 : Int), ((0 : Int), (0 : Int))))))).1 (List.getD x15 (Int.toNat x17) ((0 : Int), ((0 : Int), (false, ((0 : Int), ((0 : Int), (0 : Int))))))).2.1).bind fun y21 =>
      let u22 : Bool := (ltB (0 : Int) (List.getD x15 (Int.toNat x17) ((0 : Int), ((0 : Int), (false, ((0 : Int), ((0 : Int), (0 : Int))))))).2.2.2.2.2)
      cond (u22) (
        cond ((ltB y21 (0 : Int))) (
          r (19 : Int)) (
          let u23 : Bool := (ltB (List.getD x15 (Int.toNat x17) ((0 : Int), ((0 : Int), (false, ((0 : Int), ((0 : Int), (0 : Int))))))).2.2.2.2.2 y21)
          cond (u23) (
            r (19 : Int)) (
            k (.L0 x14 x15 x16 (w64 (x17 + (1 : Int))) x18 x19 x20)))) (
        k (.L0 x14 x15 x16 (w64 (x17 + (1 : Int))) x18 x19 x20))) else none) else none) (
      k (.E0 x14 x18 x19 x20))
  | .E2, k, r =>
    r (0 : Int)
  | .L2 x38 x39 x40 x41, k, r =>
    cond ((ltB x41 x40)) (
      if 0 ≤ x41 then (
      if x41 < (List.length x39 : Int) then (
      let u42 : Bool := (ltB (0 : Int) (List.getD x39 (Int.toNat x41) (([] : List UInt8), ((0 : Int), ((0 : Int), (false, (false, (([] : (List (Int × Int))), (List.replicate 5 (0 : Int))))))))).2.1)
      cond (u42) (
        (p24 n x38 x41 (List.getD x39 (Int.toNat x41) (([] : List UInt8), ((0 : Int), ((0 : Int), (false, (false, (([] : (List (Int × Int))), (List.replicate 5 (0 : Int))))))))).2.2.1).bind fun y43 =>
        let u44 : Bool := (ltB y43 (List.getD x39 (Int.toNat x41) (([] : List UInt8), ((0 : Int), ((0 : Int), (false, (false, (([] : (List (Int × Int))), (List.replicate 5 (0 : Int))))))))).2.1)
        cond (u44) (
          r (20 : Int)) (
          k (.L2 x38 x39 x40 (w64 (x41 + (1 : Int)))))) (
        k (.L2 x38 x39 x40 (w64 (x41 + (1 : Int)))))) else none) else none) (
      k .E2)
theorem nat28 (n : Nat) : NatS (s28 n) := fun g p k r => by
  cases p <;> simp only [s28, bind_cond, bind_ite, Option.bind_assoc, Option.bind_none]
theorem us28 {n m : Nat} (h : n ≤ m) : UpS (s28 n) (s28 m) := fun γ p k r => by
  cases p <;> dsimp only [s28] <;> repeat' first | with_reducible exact up_rfl | apply up_cond | apply up_ite | apply up_bind | apply up24 h | apply up77 h | intro
noncomputable def k28_0 (n : Nat)  : Ex → St → Option (List CRes × List CVar) := finK' Γ f28 a28 0
noncomputable def c28_0 : Code := partB (bodyOf f28)
noncomputable def c28_1 : Code := partB c28_0
noncomputable def k28_1 (n : Nat)  : Ex → St → Option (List CRes × List CVar) := seqK Γ (Φ28 n) a28 n c28_1 0 (k28_0 n)
noncomputable def c28_2 : Code := partA c28_0
noncomputable def c28_3 : Code := partB c28_2
noncomputable def c28_4 : Code := partA c28_3
noncomputable def c28_5 : Code := partA c28_4
noncomputable def k28_2 (n : Nat)  : Ex → St → Option (List CRes × List CVar) := blockK a28 0 (k28_1 n)
noncomputable def c28_6 : Code := partB c28_1
noncomputable def k28_3 (n : Nat)  : Ex → St → Option (List CRes × List CVar) := seqK Γ (Φ28 n) a28 n c28_6 0 (k28_0 n)
noncomputable def c28_7 : Code := partA c28_1
noncomputable def c28_8 : Code := partB c28_7
noncomputable def c28_9 : Code := partA c28_8
noncomputable def c28_10 : Code := partA c28_9
noncomputable def k28_4 (n : Nat)  : Ex → St → Option (List CRes × List CVar) := blockK a28 2 (k28_3 n)
noncomputable def M28 (n : Nat) (u : Nat → Nat) : P28 → Option (List CRes × List CVar)
  | .F a0 a1 => stepIn (fun A => codeK Γ (Φ28 n) a28 n (bodyOf f28) 0 A (k28_0 n)) (mkSt 59 59 [(0, (.val TyS35 a0)), (1, (.val (.sh 44 (.pair I64 I64)) a1))] [])
  | .E0 x24 x25 x26 x27 => stepIn ((k28_1 n) .normal) (mkSt 59 59 [(1, (.val (.sh 44 (.pair I64 I64)) x24)), (2, (.ptr 2 []))] [(2, .var 36 TyS35 (x25, (x26, x27)))])
  | .L0 x14 x15 x16 x17 x18 x19 x20 => stepIn (fun A => loopK Γ (Φ28 n) a28 n c28_5 0 (u 0) A (k28_2 n)) (mkSt 59 59 [(1, (.val (.sh 44 (.pair I64 I64)) x14)), (2, (.ptr 2 [])), (11, (.val TyS33 x15)), (12, (iv x16)), (13, (iv x17))] [(2, .var 36 TyS35 (x18, (x19, x20)))])
  | .E2 => stepIn ((k28_3 n) .normal) (mkSt 59 59 [] [])
  | .L2 x38 x39 x40 x41 => stepIn (fun A => loopK Γ (Φ28 n) a28 n c28_10 2 (u 2) A (k28_4 n)) (mkSt 59 59 [(1, (.val (.sh 44 (.pair I64 I64)) x38)), (38, (.val TyS32 x39)), (39, (iv x40)), (40, (iv x41))] [])
theorem h28 (n : Nat) (u : Nat → Nat) : ∀ p, (∀ i, 1 ≤ u i) → Ok1 (s28 n) e28 n (M28 n) u p
  | .F a0 a1, _ => pl [] (at_code rfl ((codeK_seq (by kernel_rfl)).trans (by kernel_rfl)))
  | .E0 x24 x25 x26 x27, _ => pl [] (by kernel_rfl)
  | .L0 x14 x15 x16 x17 x18 x19 x20, hu => hd 0 [0] hu fun m hm => (loopK_at hm).trans ((codeK_seq (by kernel_rfl)).trans (by kernel_rfl))
  | .E2, _ => pl [] (by kernel_rfl)
  | .L2 x38 x39 x40 x41, hu => hd 2 [2] hu fun m hm => (loopK_at hm).trans ((codeK_seq (by kernel_rfl)).trans (by kernel_rfl))
noncomputable def p28 (n : Nat) (a0 : Vl32 × (Vl33 × Vl34)) (a1 : List (Int × Int)) : Option (Int) := flow (s28 n) n (.F a0 a1)
theorem up28 {n m : Nat} (h : n ≤ m) (a0 : Vl32 × (Vl33 × Vl34)) (a1 : List (Int × Int)) : Up (p28 n a0 a1) (p28 m a0 a1) := flow_up (nat28 n) (us28 h) h _
noncomputable def E28 (n : Nat) : Entry := mkE 28 .flat [.tree TyS35, .tree (.sh 44 (.pair I64 I64))] [] (fun a b => p28 n a.1 a.2.1) e28
theorem ok28 (n : Nat) : EntryOk prog (E28 n) := mkE_ok (Φ := Φ28 n) (ann := a28) (n := n) (F := f28) (by kernel_rfl) (by kernel_rfl) (by kernel_rfl) (known_prog (known_cons (ok24 n) (known_cons (ok77 n) known_nil))) mixed fun a b y h =>
  (show _ = M28 n (fun _ => n) (.F a.1 a.2.1) by kernel_rfl).trans (flow_sound (nat28 n) (h28 n) n _ _ y (Nat.le_refl _) (fun _ => Nat.le_refl _) h)
end Go.Am
