/- G2: functions as steps, printed by wip/tools/gen6.py. -/
import Derived.Test.YtebmpngnbnigcaaS1Tys
import Derived.Test.YtebmpngnbnigcaaG1
set_option linter.unusedVariables false
set_option linter.unusedSimpArgs false
set_option maxRecDepth 20000
set_option maxHeartbeats 0
namespace Go.Am
open Go.Proofs.Try
/-! ### F135 horarium/horariumref3.leaves -/
noncomputable def a135 : Ann := { draws := [(3, { order := [0, 1, 2, 3, 4, 5, 6, 7, 8, 9, 10, 11, 12, 13, 14], touch := [(12, []), (13, [2, 29])] })], loops := [(1, { vars := [], sites := [2], slots := [(0, .keep), (1, .keep), (2, .tree (.ow 44 (.pair I64 I64))), (7, .keep)] }), (3, { vars := [], sites := [2, 61], slots := [(0, .keep), (2, .tree (.ow 44 (.pair I64 I64))), (61, .tree (.ow 3 I64)), (62, .keep), (63, .keep)] })], ends := [(1, { vars := [], sites := [2], slots := [(2, .tree (.ow 44 (.pair I64 I64)))] }), (3, { vars := [], sites := [2], slots := [(2, .tree (.ow 44 (.pair I64 I64)))] })], heads := [(2, { vars := [], sites := [2], slots := [(0, .keep), (1, .keep), (2, .tree (.ow 44 (.pair I64 I64))), (14, .keep)] })], res := [(.ow 44 (.pair I64 I64))] }
noncomputable def e135 (y : List (Int × Int)) : List CRes × List CVar := ([.v (.ow 44 (.pair I64 I64)) y], [])
noncomputable def Es135 (n : Nat) (slf : (List (Int × (Int × Int))) → Int → (List (Int × Int)) → Option (List (Int × Int))) : Entry := mkE 135 .move [.tree TyS38, .tree I64, .tree (.ow 44 (.pair I64 I64))] [] (fun a b => slf a.1 a.2.1 a.2.2.1) e135
noncomputable def Φ135 (n : Nat) (slf : (List (Int × (Int × Int))) → Int → (List (Int × Int)) → Option (List (Int × Int))) : Prog := Prog.of [Es135 n slf, E138 n]
inductive P135 where
  | F (a0 : List (Int × (Int × Int))) (a1 : Int) (a2 : List (Int × Int))
  | E1 (x34 : List (Int × Int))
  | L1 (x15 : List (Int × (Int × Int))) (x16 x17 : Int) (x18 : List (Int × Int))
  | Q2 (x1 : List (Int × (Int × Int))) (x2 x3 : Int) (x4 : List (Int × Int))
  | E3 (x36 : List (Int × Int))
  | L3 (x27 : List (Int × (Int × Int))) (x28 x29 : Int) (x30 : List (Int × Int)) (x31 : List Int)
noncomputable def s135 (n : Nat) (slf : (List (Int × (Int × Int))) → Int → (List (Int × Int)) → Option (List (Int × Int))) (γ : Type) : P135 → (P135 → Option γ) → ((List (Int × Int)) → Option γ) → Option γ
  | .F a0 a1 a2, k, r =>
    if 0 ≤ a1 then (
    if a1 < (List.length a0 : Int) then (
    k (.Q2 a0 a1 (List.getD a0 (Int.toNat a1) ((0 : Int), ((0 : Int), (0 : Int)))).1 a2)) else none) else none
  | .E1 x34, k, r =>
    r x34
  | .L1 x15 x16 x17 x18, k, r =>
    if 0 ≤ x16 then (
    if x16 < (List.length x15 : Int) then (
    let u32 : Bool := (ltB x17 (List.getD x15 (Int.toNat x16) ((0 : Int), ((0 : Int), (0 : Int)))).2.2)
    cond (u32) (
      (slf x15 (w64 (x16 + (1 : Int))) x18).bind fun y33 =>
      k (.L1 x15 x16 (w64 (x17 + (1 : Int))) y33)) (
      k (.E1 x18))) else none) else none
  | .Q2 x1 x2 x3 x4, k, r =>
    cond ((eqB x3 (1 : Int))) (
      if 0 ≤ x2 then (
      if x2 < (List.length x1 : Int) then (
      if 0 ≤ x2 then (
      if x2 < (List.length x1 : Int) then (
      if (List.length x4 + List.length [((List.getD x1 (Int.toNat x2) ((0 : Int), ((0 : Int), (0 : Int)))).2.1, (List.getD x1 (Int.toNat x2) ((0 : Int), ((0 : Int), (0 : Int)))).2.2)]) * 16 ≤ 140737488355328 then (
      let u5 : List (Int × Int) := (x4 ++ [((List.getD x1 (Int.toNat x2) ((0 : Int), ((0 : Int), (0 : Int)))).2.1, (List.getD x1 (Int.toNat x2) ((0 : Int), ((0 : Int), (0 : Int)))).2.2)])
      r u5) else none) else none) else none) else none) else none) (
      cond ((eqB x3 (2 : Int))) (
        if 0 ≤ x2 then (
        if x2 < (List.length x1 : Int) then (
        if (List.length x4 + List.length [((-1 : Int), (List.getD x1 (Int.toNat x2) ((0 : Int), ((0 : Int), (0 : Int)))).2.2)]) * 16 ≤ 140737488355328 then (
        let u6 : List (Int × Int) := (x4 ++ [((-1 : Int), (List.getD x1 (Int.toNat x2) ((0 : Int), ((0 : Int), (0 : Int)))).2.2)])
        r u6) else none) else none) else none) (
        cond ((eqB x3 (4 : Int))) (
          k (.L1 x1 x2 (0 : Int) x4)) (
          (p138 n x1 x2).bind fun y19 =>
          k (.L3 x1 (List.length y19 : Int) (0 : Int) x4 y19))))
  | .E3 x36, k, r =>
    r x36
  | .L3 x27 x28 x29 x30 x31, k, r =>
    cond ((ltB x29 x28)) (
      if 0 ≤ x29 then (
      if x29 < (List.length x31 : Int) then (
      (slf x27 (List.getD x31 (Int.toNat x29) (0 : Int)) x30).bind fun y35 =>
      k (.L3 x27 x28 (w64 (x29 + (1 : Int))) y35 x31)) else none) else none) (
      k (.E3 x30))
theorem nat135 (n : Nat) (slf : (List (Int × (Int × Int))) → Int → (List (Int × Int)) → Option (List (Int × Int))) : NatS (s135 n slf) := fun g p k r => by
  cases p <;> simp only [s135, bind_cond, bind_ite, bind_optK, Option.bind_assoc, Option.bind_none]
theorem us135 {n m : Nat} (h : n ≤ m) {slf slf' : (List (Int × (Int × Int))) → Int → (List (Int × Int)) → Option (List (Int × Int))} (hs : ∀ a0 a1 a2, Up (slf a0 a1 a2) (slf' a0 a1 a2)) : UpS (s135 n slf) (s135 m slf') := fun γ p k r => by
  cases p <;> dsimp only [s135] <;> repeat' first | with_reducible exact up_rfl | apply up_cond | apply up_ite | apply up_bind | apply up_optK | apply up138 h | apply hs | intro
noncomputable def k135_0 (n : Nat) (slf : (List (Int × (Int × Int))) → Int → (List (Int × Int)) → Option (List (Int × Int)))  : Ex → St → Option (List CRes × List CVar) := finK' Γ f135 a135 0
noncomputable def c135_0 : Code := partB (bodyOf f135)
noncomputable def c135_1 : Code := partB c135_0
noncomputable def k135_1 (n : Nat) (slf : (List (Int × (Int × Int))) → Int → (List (Int × Int)) → Option (List (Int × Int)))  : Ex → St → Option (List CRes × List CVar) := seqK Γ (Φ135 n slf) a135 n c135_1 0 (k135_0 n slf)
noncomputable def k135_2 (n : Nat) (slf : (List (Int × (Int × Int))) → Int → (List (Int × Int)) → Option (List (Int × Int)))  : Ex → St → Option (List CRes × List CVar) := blockK a135 0 (k135_1 n slf)
noncomputable def c135_2 : Code := partA c135_0
noncomputable def c135_3 : Code := partB c135_2
noncomputable def c135_4 : Code := partA c135_3
noncomputable def c135_5 : Code := partB c135_4
noncomputable def c135_6 : Code := partB c135_5
noncomputable def c135_7 : Code := partB c135_6
noncomputable def c135_8 : Code := partB c135_7
noncomputable def c135_9 : Code := partB c135_8
noncomputable def c135_10 : Code := partA c135_9
noncomputable def c135_11 : Code := partB c135_10
noncomputable def k135_3 (n : Nat) (slf : (List (Int × (Int × Int))) → Int → (List (Int × Int)) → Option (List (Int × Int)))  : Ex → St → Option (List CRes × List CVar) := seqK Γ (Φ135 n slf) a135 n c135_11 0 (k135_2 n slf)
noncomputable def c135_12 : Code := partA c135_10
noncomputable def c135_13 : Code := partB c135_12
noncomputable def c135_14 : Code := partA c135_13
noncomputable def c135_15 : Code := partA c135_14
noncomputable def k135_4 (n : Nat) (slf : (List (Int × (Int × Int))) → Int → (List (Int × Int)) → Option (List (Int × Int)))  : Ex → St → Option (List CRes × List CVar) := blockK a135 1 (k135_3 n slf)
noncomputable def c135_16 : Code := partB c135_1
noncomputable def k135_5 (n : Nat) (slf : (List (Int × (Int × Int))) → Int → (List (Int × Int)) → Option (List (Int × Int)))  : Ex → St → Option (List CRes × List CVar) := seqK Γ (Φ135 n slf) a135 n c135_16 0 (k135_0 n slf)
noncomputable def c135_17 : Code := partA c135_1
noncomputable def c135_18 : Code := partB c135_17
noncomputable def c135_19 : Code := partA c135_18
noncomputable def c135_20 : Code := partA c135_19
noncomputable def k135_6 (n : Nat) (slf : (List (Int × (Int × Int))) → Int → (List (Int × Int)) → Option (List (Int × Int)))  : Ex → St → Option (List CRes × List CVar) := blockK a135 3 (k135_5 n slf)
noncomputable def M135 (n : Nat) (slf : (List (Int × (Int × Int))) → Int → (List (Int × Int)) → Option (List (Int × Int))) (u : Nat → Nat) : P135 → Option (List CRes × List CVar)
  | .F a0 a1 a2 => stepIn (fun A => codeK Γ (Φ135 n slf) a135 n (bodyOf f135) 0 A (k135_0 n slf)) (mkSt 73 73 [(0, (.val TyS38 a0)), (1, (iv a1)), (2, (.ref 2 []))] [(2, .tmp (.ow 44 (.pair I64 I64)) a2)])
  | .E1 x34 => stepIn ((k135_3 n slf) .normal) (mkSt 73 73 [(2, (.ref 2 []))] [(2, .tmp (.ow 44 (.pair I64 I64)) x34)])
  | .L1 x15 x16 x17 x18 => stepIn (fun A => loopK Γ (Φ135 n slf) a135 n c135_15 1 (u 1) A (k135_4 n slf)) (mkSt 73 73 [(0, (.val TyS38 x15)), (1, (iv x16)), (2, (.ref 2 [])), (7, (iv x17))] [(2, .tmp (.ow 44 (.pair I64 I64)) x18)])
  | .Q2 x1 x2 x3 x4 => stepIn (fun A => codeK Γ (Φ135 n slf) a135 n c135_3 0 A (k135_1 n slf)) (mkSt 73 73 [(0, (.val TyS38 x1)), (1, (iv x2)), (2, (.ref 2 [])), (14, (iv x3))] [(2, .tmp (.ow 44 (.pair I64 I64)) x4)])
  | .E3 x36 => stepIn ((k135_5 n slf) .normal) (mkSt 73 73 [(2, (.ref 2 []))] [(2, .tmp (.ow 44 (.pair I64 I64)) x36)])
  | .L3 x27 x28 x29 x30 x31 => stepIn (fun A => loopK Γ (Φ135 n slf) a135 n c135_20 3 (u 3) A (k135_6 n slf)) (mkSt 73 73 [(0, (.val TyS38 x27)), (2, (.ref 2 [])), (61, (.ref 61 [])), (62, (iv x28)), (63, (iv x29))] [(2, .tmp (.ow 44 (.pair I64 I64)) x30), (61, .tmp (.ow 3 I64) x31)])
theorem h135 (n : Nat) (slf : (List (Int × (Int × Int))) → Int → (List (Int × Int)) → Option (List (Int × Int))) (u : Nat → Nat) : ∀ p, (∀ i, 1 ≤ u i) → Ok1 (s135 n slf) e135 n (M135 n slf) u p
  | .F a0 a1 a2, _ => pl [] (at_code rfl ((codeK_seq (by kernel_rfl)).trans (by kernel_rfl)))
  | .E1 x34, _ => pl [] (by kernel_rfl)
  | .L1 x15 x16 x17 x18, hu => hd 1 [1] hu fun m hm => (loopK_at hm).trans ((codeK_seq (by kernel_rfl)).trans ((codeK_seq (by kernel_rfl)).trans (by kernel_rfl)))
  | .Q2 x1 x2 x3 x4, _ => pl [] (at_code rfl ((codeK_block 0 (by kernel_rfl)).trans ((codeK_seq (by kernel_rfl)).trans (by kernel_rfl))))
  | .E3 x36, _ => pl [] (by kernel_rfl)
  | .L3 x27 x28 x29 x30 x31, hu => hd 3 [3] hu fun m hm => (loopK_at hm).trans ((codeK_seq (by kernel_rfl)).trans (by kernel_rfl))
noncomputable def p135' (n : Nat) (m : Nat) : (List (Int × (Int × Int))) → Int → (List (Int × Int)) → Option (List (Int × Int)) := Nat.rec (fun _ _ _ => none) (fun _ slf a0 a1 a2 => flow (s135 n slf) n (.F a0 a1 a2)) m
noncomputable def p135 (n : Nat) : (List (Int × (Int × Int))) → Int → (List (Int × Int)) → Option (List (Int × Int)) := p135' n n
theorem up135' {n m : Nat} (h : n ≤ m) : ∀ {a b : Nat}, a ≤ b → ∀ a0 a1 a2, Up (p135' n a a0 a1 a2) (p135' m b a0 a1 a2)
  | 0, _, _, _, _, _ => fun v hv => by cases hv
  | _ + 1, 0, h1, _, _, _ => by omega
  | a + 1, b + 1, h1, a0, a1, a2 => flow_up (nat135 n _) (us135 h fun a0 a1 a2 => up135' h (Nat.le_of_succ_le_succ h1) a0 a1 a2) h _
theorem up135 {n m : Nat} (h : n ≤ m) (a0 : List (Int × (Int × Int))) (a1 : Int) (a2 : List (Int × Int)) : Up (p135 n a0 a1 a2) (p135 m a0 a1 a2) := up135' h h a0 a1 a2
noncomputable def E135 (n : Nat) : Entry := Es135 n (p135 n)
theorem ok135' (n : Nat) : ∀ m : Nat, EntryOk prog (Es135 n (p135' n m))
  | 0 => mkE_none (F := f135) (by kernel_rfl) (by kernel_rfl) (by kernel_rfl) fun _ _ => rfl
  | m + 1 => mkE_ok (Φ := Φ135 n (p135' n m)) (ann := a135) (n := n) (F := f135) (by kernel_rfl) (by kernel_rfl) (by kernel_rfl) (known_prog (known_cons (ok135' n m) (known_cons (ok138 n) known_nil))) mixed fun a b y h =>
    (show _ = M135 n (p135' n m) (fun _ => n) (.F a.1 a.2.1 a.2.2.1) by kernel_rfl).trans (flow_sound (nat135 n (p135' n m)) (h135 n (p135' n m)) n _ _ y (Nat.le_refl _) (fun _ => Nat.le_refl _) h)
theorem ok135 (n : Nat) : EntryOk prog (E135 n) := ok135' n n
/-! ### F84 horarium/horariumref3.Leaves -/
noncomputable def a84 : Ann := { res := [(.ow 44 (.pair I64 I64))] }
noncomputable def e84 (y : List (Int × Int)) : List CRes × List CVar := ([.v (.ow 44 (.pair I64 I64)) y], [])
noncomputable def Φ84 (n : Nat) : Prog := Prog.of [E135 n]
inductive P84 where
  | F (a0 : List (Int × (Int × Int)))
noncomputable def s84 (n : Nat) (γ : Type) : P84 → (P84 → Option γ) → ((List (Int × Int)) → Option γ) → Option γ
  | .F a0, k, r =>
    (p135 n a0 (0 : Int) ([] : (List (Int × Int)))).bind fun y1 =>
    r y1
theorem nat84 (n : Nat) : NatS (s84 n) := fun g p k r => by
  cases p <;> simp only [s84, bind_cond, bind_ite, bind_optK, Option.bind_assoc, Option.bind_none]
theorem us84 {n m : Nat} (h : n ≤ m) : UpS (s84 n) (s84 m) := fun γ p k r => by
  cases p <;> dsimp only [s84] <;> repeat' first | with_reducible exact up_rfl | apply up_cond | apply up_ite | apply up_bind | apply up_optK | apply up135 h | intro
noncomputable def k84_0 (n : Nat)  : Ex → St → Option (List CRes × List CVar) := finK' Γ f84 a84 0
noncomputable def M84 (n : Nat) (u : Nat → Nat) : P84 → Option (List CRes × List CVar)
  | .F a0 => stepIn (fun A => codeK Γ (Φ84 n) a84 n (bodyOf f84) 0 A (k84_0 n)) (mkSt 5 5 [(0, (.val TyS38 a0))] [])
theorem h84 (n : Nat) (u : Nat → Nat) : ∀ p, (∀ i, 1 ≤ u i) → Ok1 (s84 n) e84 n (M84 n) u p
  | .F a0, _ => pl [] (at_code rfl ((codeK_seq (by kernel_rfl)).trans (by kernel_rfl)))
noncomputable def p84 (n : Nat) (a0 : List (Int × (Int × Int))) : Option (List (Int × Int)) := flow (s84 n) n (.F a0)
theorem up84 {n m : Nat} (h : n ≤ m) (a0 : List (Int × (Int × Int))) : Up (p84 n a0) (p84 m a0) := flow_up (nat84 n) (us84 h) h _
noncomputable def E84 (n : Nat) : Entry := mkE 84 .look [.tree TyS38] [] (fun a b => p84 n a.1) e84
theorem ok84 (n : Nat) : EntryOk prog (E84 n) := mkE_ok (Φ := Φ84 n) (ann := a84) (n := n) (F := f84) (by kernel_rfl) (by kernel_rfl) (by kernel_rfl) (known_prog (known_cons (ok135 n) known_nil)) mixed fun a b y h =>
  (show _ = M84 n (fun _ => n) (.F a.1) by kernel_rfl).trans (flow_sound (nat84 n) (h84 n) n _ _ y (Nat.le_refl _) (fun _ => Nat.le_refl _) h)
end Go.Am
