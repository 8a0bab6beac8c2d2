/- G1: functions as steps, printed by wip/tools/gen6.py. -/
import Derived.Test.YtebmpngnbnigcaaS1Tys
set_option linter.unusedVariables false
set_option linter.unusedSimpArgs false
set_option maxRecDepth 20000
set_option maxHeartbeats 0
namespace Go.Am
open Go.Proofs.Try
/-! ### F35 horarium/horariumbook.Within -/
noncomputable def a35 : Ann := { res := [I64] }
noncomputable def e35 (y : Int) : List CRes × List CVar := ([.v I64 y], [])
noncomputable def Φ35 (n : Nat) : Prog := Prog.of []
inductive P35 where
  | F (a0 a1 a2 : Int)
noncomputable def s35 (n : Nat) (γ : Type) : P35 → (P35 → Option γ) → (Int → Option γ) → Option γ
  | .F a0 a1 a2, k, r =>
    cond ((leB a1 a0)) (
      cond ((leB a0 a2)) (
        r a0) (
        let u1 : Int := (w64 ((w64 (a2 - a1)) + (1 : Int)))
        if u1 = 0 then none else (
        cond ((ltB (Int.tmod a0 u1) (0 : Int))) (
          let u2 : Int := (w64 ((w64 ((Int.tmod a0 u1) + a2)) - a1))
          let u3 : Int := (w64 (a1 + (w64 (u2 + (1 : Int)))))
          r u3) (
          r (w64 (a1 + (Int.tmod a0 u1))))))) (
      let u4 : Int := (w64 ((w64 (a2 - a1)) + (1 : Int)))
      if u4 = 0 then none else (
      cond ((ltB (Int.tmod a0 u4) (0 : Int))) (
        let u5 : Int := (w64 ((w64 ((Int.tmod a0 u4) + a2)) - a1))
        let u6 : Int := (w64 (a1 + (w64 (u5 + (1 : Int)))))
        r u6) (
        r (w64 (a1 + (Int.tmod a0 u4))))))
theorem nat35 (n : Nat) : NatS (s35 n) := fun g p k r => by
  cases p <;> simp only [s35, bind_cond, bind_ite, bind_optK, Option.bind_assoc, Option.bind_none]
theorem us35 {n m : Nat} (h : n ≤ m) : UpS (s35 n) (s35 m) := fun γ p k r => by
  cases p <;> dsimp only [s35] <;> repeat' first | with_reducible exact up_rfl | apply up_cond | apply up_ite | apply up_bind | apply up_optK | intro
noncomputable def k35_0 (n : Nat)  : Ex → St → Option (List CRes × List CVar) := finK' Γ f35 a35 0
noncomputable def M35 (n : Nat) (u : Nat → Nat) : P35 → Option (List CRes × List CVar)
  | .F a0 a1 a2 => stepIn (fun A => codeK Γ (Φ35 n) a35 n (bodyOf f35) 0 A (k35_0 n)) (mkSt 33 33 [(0, (iv a0)), (1, (iv a1)), (2, (iv a2))] [])
theorem h35 (n : Nat) (u : Nat → Nat) : ∀ p, (∀ i, 1 ≤ u i) → Ok1 (s35 n) e35 n (M35 n) u p
  | .F a0 a1 a2, _ => pl [] (at_code rfl ((codeK_seq (by kernel_rfl)).trans (by kernel_rfl)))
noncomputable def p35 (n : Nat) (a0 a1 a2 : Int) : Option (Int) := flow (s35 n) n (.F a0 a1 a2)
theorem up35 {n m : Nat} (h : n ≤ m) (a0 a1 a2 : Int) : Up (p35 n a0 a1 a2) (p35 m a0 a1 a2) := flow_up (nat35 n) (us35 h) h _
noncomputable def E35 (n : Nat) : Entry := mkE 35 .flat [.tree I64, .tree I64, .tree I64] [] (fun a b => p35 n a.1 a.2.1 a.2.2.1) e35
theorem ok35 (n : Nat) : EntryOk prog (E35 n) := mkE_ok (Φ := Φ35 n) (ann := a35) (n := n) (F := f35) (by kernel_rfl) (by kernel_rfl) (by kernel_rfl) (known_prog known_nil) mixed fun a b y h =>
  (show _ = M35 n (fun _ => n) (.F a.1 a.2.1 a.2.2.1) by kernel_rfl).trans (flow_sound (nat35 n) (h35 n) n _ _ y (Nat.le_refl _) (fun _ => Nat.le_refl _) h)
/-! ### F74 (*horarium/horariumkeep.Tape).Next -/
noncomputable def a74 : Ann := { draws := [(1, { order := [0, 1, 2, 3, 4, 5, 6, 7, 8, 9, 10, 11, 12, 13] }), (4, { order := [0, 1, 2, 3, 4, 5, 6, 7, 8, 9, 10, 12, 11, 13, 14], touch := [(11, [])] })], res := [I64] }
noncomputable def e74 (y : Int × ((List Int) × Int)) : List CRes × List CVar := ([.v I64 y.1], [⟨26, (.pair (.sh 3 I64) I64), y.2⟩])
noncomputable def Φ74 (n : Nat) : Prog := Prog.of [E35 n]
inductive P74 where
  | F (a1 : Int) (b0 : (List Int) × Int)
noncomputable def s74 (n : Nat) (γ : Type) : P74 → (P74 → Option γ) → ((Int × ((List Int) × Int)) → Option γ) → Option γ
  | .F a1 b0, k, r =>
    cond ((leB (List.length b0.1 : Int) b0.2)) (
      r ((0 : Int), b0)) (
      cond ((ltB a1 (1 : Int))) (
        r ((0 : Int), b0)) (
        let u1 : Int := (w64 ((w64 (b0.2 + (1 : Int))) - (1 : Int)))
        if 0 ≤ u1 then (
        if u1 < (List.length b0.1 : Int) then (
        (p35 n (List.getD b0.1 (Int.toNat u1) (0 : Int)) (0 : Int) (1073741824 : Int)).bind fun y2 =>
        if a1 = 0 then none else (
        r ((Int.tmod y2 a1), (b0.1, (w64 (b0.2 + (1 : Int))))))) else none) else none))
theorem nat74 (n : Nat) : NatS (s74 n) := fun g p k r => by
  cases p <;> simp only [s74, bind_cond, bind_ite, bind_optK, Option.bind_assoc, Option.bind_none]
theorem us74 {n m : Nat} (h : n ≤ m) : UpS (s74 n) (s74 m) := fun γ p k r => by
  cases p <;> dsimp only [s74] <;> repeat' first | with_reducible exact up_rfl | apply up_cond | apply up_ite | apply up_bind | apply up_optK | apply up35 h | intro
noncomputable def k74_0 (n : Nat)  : Ex → St → Option (List CRes × List CVar) := finK' Γ f74 a74 1
noncomputable def M74 (n : Nat) (u : Nat → Nat) : P74 → Option (List CRes × List CVar)
  | .F a1 b0 => stepIn (fun A => codeK Γ (Φ74 n) a74 n (bodyOf f74) 0 A (k74_0 n)) (mkSt 40 41 [(0, (.ptr 40 [])), (1, (iv a1))] [(40, .var 26 (.pair (.sh 3 I64) I64) b0)])
theorem h74 (n : Nat) (u : Nat → Nat) : ∀ p, (∀ i, 1 ≤ u i) → Ok1 (s74 n) e74 n (M74 n) u p
  | .F a1 b0, _ => pl [] (at_code rfl ((codeK_seq (by kernel_rfl)).trans (by kernel_rfl)))
noncomputable def p74 (n : Nat) (a1 : Int) (b0 : (List Int) × Int) : Option (Int × ((List Int) × Int)) := flow (s74 n) n (.F a1 b0)
theorem up74 {n m : Nat} (h : n ≤ m) (a1 : Int) (b0 : (List Int) × Int) : Up (p74 n a1 b0) (p74 m a1 b0) := flow_up (nat74 n) (us74 h) h _
noncomputable def E74 (n : Nat) : Entry := mkE 74 .move [.point, .tree I64] [(26, (.pair (.sh 3 I64) I64))] (fun a b => p74 n a.1 b.1) e74
theorem ok74 (n : Nat) : EntryOk prog (E74 n) := mkE_ok (Φ := Φ74 n) (ann := a74) (n := n) (F := f74) (by kernel_rfl) (by kernel_rfl) (by kernel_rfl) (known_prog (known_cons (ok35 n) known_nil)) mixed fun a b y h =>
  (show _ = M74 n (fun _ => n) (.F a.1 b.1) by kernel_rfl).trans (flow_sound (nat74 n) (h74 n) n _ _ y (Nat.le_refl _) (fun _ => Nat.le_refl _) h)
/-! ### F31 (*horarium/horariumkeep.Tape).Table -/
noncomputable def a31 : Ann := { loops := [(0, { vars := [], sites := [9, 66], slots := [(0, .keep), (1, .keep), (2, .keep), (8, .keep), (9, .tree TyO38), (10, .keep)] })], ends := [(0, { vars := [], sites := [9, 66], slots := [(9, .tree TyO38)] })], res := [TyO38] }
noncomputable def e31 (y : (List (Int × (Int × Int))) × ((List Int) × Int)) : List CRes × List CVar := ([.v TyO38 y.1], [⟨26, (.pair (.sh 3 I64) I64), y.2⟩])
noncomputable def Es31 (n : Nat) (slf : Int → Int → ((List Int) × Int) → Option ((List (Int × (Int × Int))) × ((List Int) × Int))) : Entry := mkE 31 .move [.point, .tree I64, .tree I64] [(26, (.pair (.sh 3 I64) I64))] (fun a b => slf a.1 a.2.1 b.1) e31
noncomputable def Φ31 (n : Nat) (slf : Int → Int → ((List Int) × Int) → Option ((List (Int × (Int × Int))) × ((List Int) × Int))) : Prog := Prog.of [Es31 n slf, E74 n]
inductive P31 where
  | F (a1 a2 : Int) (b0 : (List Int) × Int)
  | E0 (x43 : List (Int × (Int × Int))) (x44 : List Int) (x45 : Int)
  | L0 (x34 x35 x36 x37 : Int) (x38 : List (Int × (Int × Int))) (x39 : List Int) (x40 : Int)
noncomputable def s31 (n : Nat) (slf : Int → Int → ((List Int) × Int) → Option ((List (Int × (Int × Int))) × ((List Int) × Int))) (γ : Type) : P31 → (P31 → Option γ) → ((List (Int × (Int × Int))) × ((List Int) × Int) → Option γ) → Option γ
  | .F a1 a2 b0, k, r =>
    (p74 n (7 : Int) b0).bind fun cy1 =>
    cond ((ltB a2 (1 : Int))) (
      cond ((eqB cy1.1 (0 : Int))) (
        (p74 n (4 : Int) cy1.2).bind fun cy3 =>
        r ([((2 : Int), ((0 : Int), (w64 ((1 : Int) + cy3.1))))], cy3.2)) (
        (p74 n a1 cy1.2).bind fun cy5 =>
        (p74 n (4 : Int) cy5.2).bind fun cy7 =>
        r ([((1 : Int), (cy5.1, (w64 ((1 : Int) + cy7.1))))], cy7.2))) (
      cond ((ltB cy1.1 (2 : Int))) (
        cond ((eqB cy1.1 (0 : Int))) (
          (p74 n (4 : Int) cy1.2).bind fun cy9 =>
          r ([((2 : Int), ((0 : Int), (w64 ((1 : Int) + cy9.1))))], cy9.2)) (
          (p74 n a1 cy1.2).bind fun cy11 =>
          (p74 n (4 : Int) cy11.2).bind fun cy13 =>
          r ([((1 : Int), (cy11.1, (w64 ((1 : Int) + cy13.1))))], cy13.2))) (
        cond ((eqB cy1.1 (2 : Int))) (
          (p74 n (3 : Int) cy1.2).bind fun cy15 =>
          (slf a1 (w64 (a2 - (1 : Int))) cy15.2).bind fun cy17 =>
          if (List.length [((4 : Int), ((0 : Int), (w64 ((1 : Int) + cy15.1))))] + List.length cy17.1) * 24 ≤ 140737488355328 then (
          let u19 : List (Int × (Int × Int)) := ([((4 : Int), ((0 : Int), (w64 ((1 : Int) + cy15.1))))] ++ cy17.1)
          r (u19, cy17.2)) else none) (
          (p74 n (4 : Int) cy1.2).bind fun cy20 =>
          k (.L0 a1 a2 (w64 ((1 : Int) + cy20.1)) (0 : Int) [((3 : Int), ((0 : Int), (w64 ((1 : Int) + cy20.1))))] cy20.2.1 cy20.2.2))))
  | .E0 x43 x44 x45, k, r =>
    r (x43, (x44, x45))
  | .L0 x34 x35 x36 x37 x38 x39 x40, k, r =>
    cond ((ltB x37 x36)) (
      (slf x34 (w64 (x35 - (1 : Int))) (x39, x40)).bind fun cy41 =>
      if (List.length x38 + List.length cy41.1) * 24 ≤ 140737488355328 then (
      k (.L0 x34 x35 x36 (w64 (x37 + (1 : Int))) (x38 ++ cy41.1) cy41.2.1 cy41.2.2)) else none) (
      k (.E0 x38 x39 x40))
theorem nat31 (n : Nat) (slf : Int → Int → ((List Int) × Int) → Option ((List (Int × (Int × Int))) × ((List Int) × Int))) : NatS (s31 n slf) := fun g p k r => by
  cases p <;> simp only [s31, bind_cond, bind_ite, bind_optK, Option.bind_assoc, Option.bind_none]
theorem us31 {n m : Nat} (h : n ≤ m) {slf slf' : Int → Int → ((List Int) × Int) → Option ((List (Int × (Int × Int))) × ((List Int) × Int))} (hs : ∀ a1 a2 b0, Up (slf a1 a2 b0) (slf' a1 a2 b0)) : UpS (s31 n slf) (s31 m slf') := fun γ p k r => by
  cases p <;> dsimp only [s31] <;> repeat' first | with_reducible exact up_rfl | apply up_cond | apply up_ite | apply up_bind | apply up_optK | apply up74 h | apply hs | intro
noncomputable def k31_0 (n : Nat) (slf : Int → Int → ((List Int) × Int) → Option ((List (Int × (Int × Int))) × ((List Int) × Int)))  : Ex → St → Option (List CRes × List CVar) := finK' Γ f31 a31 1
noncomputable def c31_0 : Code := partB (bodyOf f31)
noncomputable def c31_1 : Code := partB c31_0
noncomputable def c31_2 : Code := partB c31_1
noncomputable def c31_3 : Code := partB c31_2
noncomputable def c31_4 : Code := partB c31_3
noncomputable def c31_5 : Code := partB c31_4
noncomputable def c31_6 : Code := partB c31_5
noncomputable def k31_1 (n : Nat) (slf : Int → Int → ((List Int) × Int) → Option ((List (Int × (Int × Int))) × ((List Int) × Int)))  : Ex → St → Option (List CRes × List CVar) := seqK Γ (Φ31 n slf) a31 n c31_6 0 (k31_0 n slf)
noncomputable def c31_7 : Code := partA c31_5
noncomputable def c31_8 : Code := partB c31_7
noncomputable def c31_9 : Code := partA c31_8
noncomputable def c31_10 : Code := partA c31_9
noncomputable def k31_2 (n : Nat) (slf : Int → Int → ((List Int) × Int) → Option ((List (Int × (Int × Int))) × ((List Int) × Int)))  : Ex → St → Option (List CRes × List CVar) := blockK a31 0 (k31_1 n slf)
noncomputable def M31 (n : Nat) (slf : Int → Int → ((List Int) × Int) → Option ((List (Int × (Int × Int))) × ((List Int) × Int))) (u : Nat → Nat) : P31 → Option (List CRes × List CVar)
  | .F a1 a2 b0 => stepIn (fun A => codeK Γ (Φ31 n slf) a31 n (bodyOf f31) 0 A (k31_0 n slf)) (mkSt 66 67 [(0, (.ptr 66 [])), (1, (iv a1)), (2, (iv a2))] [(66, .var 26 (.pair (.sh 3 I64) I64) b0)])
  | .E0 x43 x44 x45 => stepIn ((k31_1 n slf) .normal) (mkSt 66 67 [(9, (.ref 9 []))] [(9, .tmp TyO38 x43), (66, .var 26 (.pair (.sh 3 I64) I64) (x44, x45))])
  | .L0 x34 x35 x36 x37 x38 x39 x40 => stepIn (fun A => loopK Γ (Φ31 n slf) a31 n c31_10 0 (u 0) A (k31_2 n slf)) (mkSt 66 67 [(0, (.ptr 66 [])), (1, (iv x34)), (2, (iv x35)), (8, (iv x36)), (9, (.ref 9 [])), (10, (iv x37))] [(9, .tmp TyO38 x38), (66, .var 26 (.pair (.sh 3 I64) I64) (x39, x40))])
theorem h31 (n : Nat) (slf : Int → Int → ((List Int) × Int) → Option ((List (Int × (Int × Int))) × ((List Int) × Int))) (u : Nat → Nat) : ∀ p, (∀ i, 1 ≤ u i) → Ok1 (s31 n slf) e31 n (M31 n slf) u p
  | .F a1 a2 b0, _ => pl [] (at_code rfl ((codeK_seq (by kernel_rfl)).trans (by kernel_rfl)))
  | .E0 x43 x44 x45, _ => pl [] (by kernel_rfl)
  | .L0 x34 x35 x36 x37 x38 x39 x40, hu => hd 0 [0] hu fun m hm => (loopK_at hm).trans ((codeK_seq (by kernel_rfl)).trans ((codeK_seq (by kernel_rfl)).trans (by kernel_rfl)))
noncomputable def p31' (n : Nat) (m : Nat) : Int → Int → ((List Int) × Int) → Option ((List (Int × (Int × Int))) × ((List Int) × Int)) := Nat.rec (fun _ _ _ => none) (fun _ slf a1 a2 b0 => flow (s31 n slf) n (.F a1 a2 b0)) m
noncomputable def p31 (n : Nat) : Int → Int → ((List Int) × Int) → Option ((List (Int × (Int × Int))) × ((List Int) × Int)) := p31' n n
theorem up31' {n m : Nat} (h : n ≤ m) : ∀ {a b : Nat}, a ≤ b → ∀ a1 a2 b0, Up (p31' n a a1 a2 b0) (p31' m b a1 a2 b0)
  | 0, _, _, _, _, _ => fun v hv => by cases hv
  | _ + 1, 0, h1, _, _, _ => by omega
  | a + 1, b + 1, h1, a1, a2, b0 => flow_up (nat31 n _) (us31 h fun a1 a2 b0 => up31' h (Nat.le_of_succ_le_succ h1) a1 a2 b0) h _
theorem up31 {n m : Nat} (h : n ≤ m) (a1 a2 : Int) (b0 : (List Int) × Int) : Up (p31 n a1 a2 b0) (p31 m a1 a2 b0) := up31' h h a1 a2 b0
noncomputable def E31 (n : Nat) : Entry := Es31 n (p31 n)
theorem ok31' (n : Nat) : ∀ m : Nat, EntryOk prog (Es31 n (p31' n m))
  | 0 => mkE_none (F := f31) (by kernel_rfl) (by kernel_rfl) (by kernel_rfl) fun _ _ => rfl
  | m + 1 => mkE_ok (Φ := Φ31 n (p31' n m)) (ann := a31) (n := n) (F := f31) (by kernel_rfl) (by kernel_rfl) (by kernel_rfl) (known_prog (known_cons (ok31' n m) (known_cons (ok74 n) known_nil))) mixed fun a b y h =>
    (show _ = M31 n (p31' n m) (fun _ => n) (.F a.1 a.2.1 b.1) by kernel_rfl).trans (flow_sound (nat31 n (p31' n m)) (h31 n (p31' n m)) n _ _ y (Nat.le_refl _) (fun _ => Nat.le_refl _) h)
theorem ok31 (n : Nat) : EntryOk prog (E31 n) := ok31' n n
/-! ### F160 horarium/horariumref3.fine -/
noncomputable def a160 : Ann := { res := [.bool] }
noncomputable def e160 (y : Bool) : List CRes × List CVar := ([.v .bool y], [])
noncomputable def Φ160 (n : Nat) : Prog := Prog.of []
inductive P160 where
  | F (a0 : Int × (Int × Int))
noncomputable def s160 (n : Nat) (γ : Type) : P160 → (P160 → Option γ) → (Bool → Option γ) → Option γ
  | .F a0, k, r =>
    cond ((eqB a0.1 (1 : Int))) (
      cond ((leB (0 : Int) a0.2.1)) (
        cond ((ltB a0.2.1 (6 : Int))) (
          r (leB (1 : Int) a0.2.2)) (
          r false)) (
        r false)) (
      cond ((eqB a0.1 (2 : Int))) (
        cond ((eqB a0.2.1 (0 : Int))) (
          r (leB (1 : Int) a0.2.2)) (
          r false)) (
        cond ((eqB a0.1 (4 : Int))) (
          cond ((eqB a0.2.1 (0 : Int))) (
            r (leB (1 : Int) a0.2.2)) (
            r false)) (
          cond ((eqB a0.1 (3 : Int))) (
            cond ((eqB a0.2.1 (0 : Int))) (
              cond ((leB (1 : Int) a0.2.2)) (
                r (leB a0.2.2 (128 : Int))) (
                r false)) (
              r false)) (
            r false))))
theorem nat160 (n : Nat) : NatS (s160 n) := fun g p k r => by
  cases p <;> simp only [s160, bind_cond, bind_ite, bind_optK, Option.bind_assoc, Option.bind_none]
theorem us160 {n m : Nat} (h : n ≤ m) : UpS (s160 n) (s160 m) := fun γ p k r => by
  cases p <;> dsimp only [s160] <;> repeat' first | with_reducible exact up_rfl | apply up_cond | apply up_ite | apply up_bind | apply up_optK | intro
noncomputable def k160_0 (n : Nat)  : Ex → St → Option (List CRes × List CVar) := finK' Γ f160 a160 0
noncomputable def M160 (n : Nat) (u : Nat → Nat) : P160 → Option (List CRes × List CVar)
  | .F a0 => stepIn (fun A => codeK Γ (Φ160 n) a160 n (bodyOf f160) 0 A (k160_0 n)) (mkSt 46 46 [(0, (.val TyO56 a0))] [])
theorem h160 (n : Nat) (u : Nat → Nat) : ∀ p, (∀ i, 1 ≤ u i) → Ok1 (s160 n) e160 n (M160 n) u p
  | .F a0, _ => pl [] (at_code rfl ((codeK_seq (by kernel_rfl)).trans (by kernel_rfl)))
noncomputable def p160 (n : Nat) (a0 : Int × (Int × Int)) : Option (Bool) := flow (s160 n) n (.F a0)
theorem up160 {n m : Nat} (h : n ≤ m) (a0 : Int × (Int × Int)) : Up (p160 n a0) (p160 m a0) := flow_up (nat160 n) (us160 h) h _
noncomputable def E160 (n : Nat) : Entry := mkE 160 .flat [.tree TyO56] [] (fun a b => p160 n a.1) e160
theorem ok160 (n : Nat) : EntryOk prog (E160 n) := mkE_ok (Φ := Φ160 n) (ann := a160) (n := n) (F := f160) (by kernel_rfl) (by kernel_rfl) (by kernel_rfl) (known_prog known_nil) mixed fun a b y h =>
  (show _ = M160 n (fun _ => n) (.F a.1) by kernel_rfl).trans (flow_sound (nat160 n) (h160 n) n _ _ y (Nat.le_refl _) (fun _ => Nat.le_refl _) h)
/-! ### F136 horarium/horariumref3.Size -/
noncomputable def a136 : Ann := { loops := [(0, { vars := [], sites := [], slots := [(0, .keep), (1, .keep), (5, .keep), (6, .keep)] })], ends := [(0, { vars := [], sites := [], slots := [] })], heads := [(6, { vars := [], sites := [], slots := [(0, .keep), (1, .keep), (5, .keep), (6, .keep)] })], res := [I64] }
noncomputable def e136 (y : Int) : List CRes × List CVar := ([.v I64 y], [])
noncomputable def Φ136 (n : Nat) : Prog := Prog.of [E160 n]
inductive P136 where
  | F (a0 : List (Int × (Int × Int))) (a1 : Int)
  | E0 
  | L0 (x27 : List (Int × (Int × Int))) (x28 x29 x30 : Int)
  | Q6 (x18 : List (Int × (Int × Int))) (x19 x20 x21 : Int)
noncomputable def s136 (n : Nat) (γ : Type) : P136 → (P136 → Option γ) → (Int → Option γ) → Option γ
  | .F a0 a1, k, r =>
    cond ((ltB a1 (0 : Int))) (
      r (0 : Int)) (
      cond ((leB (List.length a0 : Int) a1)) (
        r (0 : Int)) (
        k (.L0 a0 a1 (1 : Int) a1)))
  | .E0, k, r =>
    r (0 : Int)
  | .L0 x27 x28 x29 x30, k, r =>
    cond ((ltB x30 (List.length x27 : Int))) (
      if 0 ≤ x30 then (
      if x30 < (List.length x27 : Int) then (
      (p160 n (List.getD x27 (Int.toNat x30) ((0 : Int), ((0 : Int), (0 : Int))))).bind fun y31 =>
      cond ((!y31)) (
        r (0 : Int)) (
        if 0 ≤ x30 then (
        if x30 < (List.length x27 : Int) then (
        let u32 : Bool := (eqB (List.getD x27 (Int.toNat x30) ((0 : Int), ((0 : Int), (0 : Int)))).1 (3 : Int))
        cond (u32) (
          if 0 ≤ x30 then (
          if x30 < (List.length x27 : Int) then (
          let u33 : Int := (w64 ((w64 (x29 - (1 : Int))) + (List.getD x27 (Int.toNat x30) ((0 : Int), ((0 : Int), (0 : Int)))).2.2))
          if 0 ≤ x30 then (
          if x30 < (List.length x27 : Int) then (
          let u34 : Bool := (eqB (List.getD x27 (Int.toNat x30) ((0 : Int), ((0 : Int), (0 : Int)))).1 (4 : Int))
          cond (u34) (
            cond ((eqB (w64 (u33 + (1 : Int))) (0 : Int))) (
              let u35 : Int := (w64 ((w64 (x30 - x28)) + (1 : Int)))
              r u35) (
              k (.Q6 x27 x28 (w64 (u33 + (1 : Int))) x30))) (
            cond ((eqB u33 (0 : Int))) (
              let u36 : Int := (w64 ((w64 (x30 - x28)) + (1 : Int)))
              r u36) (
              k (.Q6 x27 x28 u33 x30)))) else none) else none) else none) else none) (
          if 0 ≤ x30 then (
          if x30 < (List.length x27 : Int) then (
          let u37 : Bool := (eqB (List.getD x27 (Int.toNat x30) ((0 : Int), ((0 : Int), (0 : Int)))).1 (4 : Int))
          cond (u37) (
            let u38 : Int := (w64 ((w64 (x29 - (1 : Int))) + (1 : Int)))
            cond ((eqB u38 (0 : Int))) (
              let u39 : Int := (w64 ((w64 (x30 - x28)) + (1 : Int)))
              r u39) (
              k (.Q6 x27 x28 u38 x30))) (
            cond ((eqB (w64 (x29 - (1 : Int))) (0 : Int))) (
              let u40 : Int := (w64 ((w64 (x30 - x28)) + (1 : Int)))
              r u40) (
              k (.Q6 x27 x28 (w64 (x29 - (1 : Int))) x30)))) else none) else none)) else none) else none)) else none) else none) (
      k .E0)
  | .Q6 x18 x19 x20 x21, k, r =>
    k (.L0 x18 x19 x20 (w64 (x21 + (1 : Int))))
theorem nat136 (n : Nat) : NatS (s136 n) := fun g p k r => by
  cases p <;> simp only [s136, bind_cond, bind_ite, bind_optK, Option.bind_assoc, Option.bind_none]
theorem us136 {n m : Nat} (h : n ≤ m) : UpS (s136 n) (s136 m) := fun γ p k r => by
  cases p <;> dsimp only [s136] <;> repeat' first | with_reducible exact up_rfl | apply up_cond | apply up_ite | apply up_bind | apply up_optK | apply up160 h | intro
noncomputable def k136_0 (n : Nat)  : Ex → St → Option (List CRes × List CVar) := finK' Γ f136 a136 0
noncomputable def c136_0 : Code := partB (bodyOf f136)
noncomputable def c136_1 : Code := partB c136_0
noncomputable def c136_2 : Code := partB c136_1
noncomputable def c136_3 : Code := partB c136_2
noncomputable def k136_1 (n : Nat)  : Ex → St → Option (List CRes × List CVar) := seqK Γ (Φ136 n) a136 n c136_3 0 (k136_0 n)
noncomputable def c136_4 : Code := partA c136_2
noncomputable def c136_5 : Code := partB c136_4
noncomputable def c136_6 : Code := partA c136_5
noncomputable def c136_7 : Code := partA c136_6
noncomputable def k136_2 (n : Nat)  : Ex → St → Option (List CRes × List CVar) := blockK a136 0 (k136_1 n)
noncomputable def c136_8 : Code := partB c136_7
noncomputable def c136_9 : Code := partB c136_8
noncomputable def k136_3 (n : Nat) (u : Nat → Nat) : Ex → St → Option (List CRes × List CVar) := roundK Γ (Φ136 n) a136 n c136_7 0 (u 0) (k136_2 n)
noncomputable def M136 (n : Nat) (u : Nat → Nat) : P136 → Option (List CRes × List CVar)
  | .F a0 a1 => stepIn (fun A => codeK Γ (Φ136 n) a136 n (bodyOf f136) 0 A (k136_0 n)) (mkSt 57 57 [(0, (.val TyS38 a0)), (1, (iv a1))] [])
  | .E0 => stepIn ((k136_1 n) .normal) (mkSt 57 57 [] [])
  | .L0 x27 x28 x29 x30 => stepIn (fun A => loopK Γ (Φ136 n) a136 n c136_7 0 (u 0) A (k136_2 n)) (mkSt 57 57 [(0, (.val TyS38 x27)), (1, (iv x28)), (5, (iv x29)), (6, (iv x30))] [])
  | .Q6 x18 x19 x20 x21 => stepIn (fun A => codeK Γ (Φ136 n) a136 n c136_9 0 A (k136_3 n u)) (mkSt 57 57 [(0, (.val TyS38 x18)), (1, (iv x19)), (5, (iv x20)), (6, (iv x21))] [])
theorem h136 (n : Nat) (u : Nat → Nat) : ∀ p, (∀ i, 1 ≤ u i) → Ok1 (s136 n) e136 n (M136 n) u p
  | .F a0 a1, _ => pl [] (at_code rfl ((codeK_seq (by kernel_rfl)).trans (by kernel_rfl)))
  | .E0, _ => pl [] (by kernel_rfl)
  | .L0 x27 x28 x29 x30, hu => hd 0 [0] hu fun m hm => (loopK_at hm).trans ((codeK_seq (by kernel_rfl)).trans ((codeK_seq (by kernel_rfl)).trans (by kernel_rfl)))
  | .Q6 x18 x19 x20 x21, _ => pl [0] (by kernel_rfl)
noncomputable def p136 (n : Nat) (a0 : List (Int × (Int × Int))) (a1 : Int) : Option (Int) := flow (s136 n) n (.F a0 a1)
theorem up136 {n m : Nat} (h : n ≤ m) (a0 : List (Int × (Int × Int))) (a1 : Int) : Up (p136 n a0 a1) (p136 m a0 a1) := flow_up (nat136 n) (us136 h) h _
noncomputable def E136 (n : Nat) : Entry := mkE 136 .flat [.tree TyS38, .tree I64] [] (fun a b => p136 n a.1 a.2.1) e136
theorem ok136 (n : Nat) : EntryOk prog (E136 n) := mkE_ok (Φ := Φ136 n) (ann := a136) (n := n) (F := f136) (by kernel_rfl) (by kernel_rfl) (by kernel_rfl) (known_prog (known_cons (ok160 n) known_nil)) mixed fun a b y h =>
  (show _ = M136 n (fun _ => n) (.F a.1 a.2.1) by kernel_rfl).trans (flow_sound (nat136 n) (h136 n) n _ _ y (Nat.le_refl _) (fun _ => Nat.le_refl _) h)
/-! ### F138 horarium/horariumref3.Kids -/
noncomputable def a138 : Ann := { loops := [(0, { vars := [], sites := [6], slots := [(0, .keep), (1, .keep), (5, .keep), (6, .tree (.ow 3 I64)), (7, .keep)] })], ends := [(0, { vars := [], sites := [6], slots := [(6, .tree (.ow 3 I64))] })], res := [(.ow 3 I64)] }
noncomputable def e138 (y : List Int) : List CRes × List CVar := ([.v (.ow 3 I64) y], [])
noncomputable def Φ138 (n : Nat) : Prog := Prog.of [E136 n]
inductive P138 where
  | F (a0 : List (Int × (Int × Int))) (a1 : Int)
  | E0 (x17 : List Int)
  | L0 (x11 : List (Int × (Int × Int))) (x12 x13 x14 : Int) (x15 : List Int)
noncomputable def s138 (n : Nat) (γ : Type) : P138 → (P138 → Option γ) → ((List Int) → Option γ) → Option γ
  | .F a0 a1, k, r =>
    (p136 n a0 a1).bind fun y1 =>
    cond ((eqB y1 (0 : Int))) (
      r ([] : (List Int))) (
      k (.L0 a0 a1 y1 (w64 (a1 + (1 : Int))) ([] : (List Int))))
  | .E0 x17, k, r =>
    r x17
  | .L0 x11 x12 x13 x14 x15, k, r =>
    cond ((ltB x14 (w64 (x12 + x13)))) (
      if (List.length x15 + List.length [x14]) * 8 ≤ 140737488355328 then (
      (p136 n x11 x14).bind fun y16 =>
      k (.L0 x11 x12 x13 (w64 (x14 + y16)) (x15 ++ [x14]))) else none) (
      k (.E0 x15))
theorem nat138 (n : Nat) : NatS (s138 n) := fun g p k r => by
  cases p <;> simp only [s138, bind_cond, bind_ite, bind_optK, Option.bind_assoc, Option.bind_none]
theorem us138 {n m : Nat} (h : n ≤ m) : UpS (s138 n) (s138 m) := fun γ p k r => by
  cases p <;> dsimp only [s138] <;> repeat' first | with_reducible exact up_rfl | apply up_cond | apply up_ite | apply up_bind | apply up_optK | apply up136 h | intro
noncomputable def k138_0 (n : Nat)  : Ex → St → Option (List CRes × List CVar) := finK' Γ f138 a138 0
noncomputable def c138_0 : Code := partB (bodyOf f138)
noncomputable def c138_1 : Code := partB c138_0
noncomputable def c138_2 : Code := partB c138_1
noncomputable def c138_3 : Code := partB c138_2
noncomputable def c138_4 : Code := partB c138_3
noncomputable def k138_1 (n : Nat)  : Ex → St → Option (List CRes × List CVar) := seqK Γ (Φ138 n) a138 n c138_4 0 (k138_0 n)
noncomputable def c138_5 : Code := partA c138_3
noncomputable def c138_6 : Code := partB c138_5
noncomputable def c138_7 : Code := partA c138_6
noncomputable def c138_8 : Code := partA c138_7
noncomputable def k138_2 (n : Nat)  : Ex → St → Option (List CRes × List CVar) := blockK a138 0 (k138_1 n)
noncomputable def M138 (n : Nat) (u : Nat → Nat) : P138 → Option (List CRes × List CVar)
  | .F a0 a1 => stepIn (fun A => codeK Γ (Φ138 n) a138 n (bodyOf f138) 0 A (k138_0 n)) (mkSt 31 31 [(0, (.val TyS38 a0)), (1, (iv a1))] [])
  | .E0 x17 => stepIn ((k138_1 n) .normal) (mkSt 31 31 [(6, (.ref 6 []))] [(6, .tmp (.ow 3 I64) x17)])
  | .L0 x11 x12 x13 x14 x15 => stepIn (fun A => loopK Γ (Φ138 n) a138 n c138_8 0 (u 0) A (k138_2 n)) (mkSt 31 31 [(0, (.val TyS38 x11)), (1, (iv x12)), (5, (iv x13)), (6, (.ref 6 [])), (7, (iv x14))] [(6, .tmp (.ow 3 I64) x15)])
theorem h138 (n : Nat) (u : Nat → Nat) : ∀ p, (∀ i, 1 ≤ u i) → Ok1 (s138 n) e138 n (M138 n) u p
  | .F a0 a1, _ => pl [] (at_code rfl ((codeK_seq (by kernel_rfl)).trans (by kernel_rfl)))
  | .E0 x17, _ => pl [] (by kernel_rfl)
  | .L0 x11 x12 x13 x14 x15, hu => hd 0 [0] hu fun m hm => (loopK_at hm).trans ((codeK_seq (by kernel_rfl)).trans ((codeK_seq (by kernel_rfl)).trans (by kernel_rfl)))
noncomputable def p138 (n : Nat) (a0 : List (Int × (Int × Int))) (a1 : Int) : Option (List Int) := flow (s138 n) n (.F a0 a1)
theorem up138 {n m : Nat} (h : n ≤ m) (a0 : List (Int × (Int × Int))) (a1 : Int) : Up (p138 n a0 a1) (p138 m a0 a1) := flow_up (nat138 n) (us138 h) h _
noncomputable def E138 (n : Nat) : Entry := mkE 138 .look [.tree TyS38, .tree I64] [] (fun a b => p138 n a.1 a.2.1) e138
theorem ok138 (n : Nat) : EntryOk prog (E138 n) := mkE_ok (Φ := Φ138 n) (ann := a138) (n := n) (F := f138) (by kernel_rfl) (by kernel_rfl) (by kernel_rfl) (known_prog (known_cons (ok136 n) known_nil)) mixed fun a b y h =>
  (show _ = M138 n (fun _ => n) (.F a.1 a.2.1) by kernel_rfl).trans (flow_sound (nat138 n) (h138 n) n _ _ y (Nat.le_refl _) (fun _ => Nat.le_refl _) h)
/-! ### F137 horarium/horariumref3.depth -/
noncomputable def a137 : Ann := { loops := [(0, { vars := [], sites := [10], slots := [(0, .keep), (5, .keep), (10, .tree (.ow 3 I64)), (11, .keep), (12, .keep)] })], ends := [(0, { vars := [], sites := [], slots := [(5, .keep)] })], res := [I64] }
noncomputable def e137 (y : Int) : List CRes × List CVar := ([.v I64 y], [])
noncomputable def Es137 (n : Nat) (slf : (List (Int × (Int × Int))) → Int → Option (Int)) : Entry := mkE 137 .flat [.tree TyS38, .tree I64] [] (fun a b => slf a.1 a.2.1) e137
noncomputable def Φ137 (n : Nat) (slf : (List (Int × (Int × Int))) → Int → Option (Int)) : Prog := Prog.of [Es137 n slf, E138 n]
inductive P137 where
  | F (a0 : List (Int × (Int × Int))) (a1 : Int)
  | E0 (x15 : Int)
  | L0 (x9 : List (Int × (Int × Int))) (x10 x11 x12 : Int) (x13 : List Int)
noncomputable def s137 (n : Nat) (slf : (List (Int × (Int × Int))) → Int → Option (Int)) (γ : Type) : P137 → (P137 → Option γ) → (Int → Option γ) → Option γ
  | .F a0 a1, k, r =>
    (p138 n a0 a1).bind fun y1 =>
    k (.L0 a0 (0 : Int) (List.length y1 : Int) (0 : Int) y1)
  | .E0 x15, k, r =>
    r (w64 (x15 + (1 : Int)))
  | .L0 x9 x10 x11 x12 x13, k, r =>
    cond ((ltB x12 x11)) (
      if 0 ≤ x12 then (
      if x12 < (List.length x13 : Int) then (
      (slf x9 (List.getD x13 (Int.toNat x12) (0 : Int))).bind fun y14 =>
      k (.L0 x9 (max x10 y14) x11 (w64 (x12 + (1 : Int))) x13)) else none) else none) (
      k (.E0 x10))
theorem nat137 (n : Nat) (slf : (List (Int × (Int × Int))) → Int → Option (Int)) : NatS (s137 n slf) := fun g p k r => by
  cases p <;> simp only [s137, bind_cond, bind_ite, bind_optK, Option.bind_assoc, Option.bind_none]
theorem us137 {n m : Nat} (h : n ≤ m) {slf slf' : (List (Int × (Int × Int))) → Int → Option (Int)} (hs : ∀ a0 a1, Up (slf a0 a1) (slf' a0 a1)) : UpS (s137 n slf) (s137 m slf') := fun γ p k r => by
  cases p <;> dsimp only [s137] <;> repeat' first | with_reducible exact up_rfl | apply up_cond | apply up_ite | apply up_bind | apply up_optK | apply up138 h | apply hs | intro
noncomputable def k137_0 (n : Nat) (slf : (List (Int × (Int × Int))) → Int → Option (Int))  : Ex → St → Option (List CRes × List CVar) := finK' Γ f137 a137 0
noncomputable def c137_0 : Code := partB (bodyOf f137)
noncomputable def c137_1 : Code := partB c137_0
noncomputable def c137_2 : Code := partB c137_1
noncomputable def k137_1 (n : Nat) (slf : (List (Int × (Int × Int))) → Int → Option (Int))  : Ex → St → Option (List CRes × List CVar) := seqK Γ (Φ137 n slf) a137 n c137_2 0 (k137_0 n slf)
noncomputable def c137_3 : Code := partA c137_1
noncomputable def c137_4 : Code := partB c137_3
noncomputable def c137_5 : Code := partA c137_4
noncomputable def c137_6 : Code := partA c137_5
noncomputable def k137_2 (n : Nat) (slf : (List (Int × (Int × Int))) → Int → Option (Int))  : Ex → St → Option (List CRes × List CVar) := blockK a137 0 (k137_1 n slf)
noncomputable def M137 (n : Nat) (slf : (List (Int × (Int × Int))) → Int → Option (Int)) (u : Nat → Nat) : P137 → Option (List CRes × List CVar)
  | .F a0 a1 => stepIn (fun A => codeK Γ (Φ137 n slf) a137 n (bodyOf f137) 0 A (k137_0 n slf)) (mkSt 24 24 [(0, (.val TyS38 a0)), (1, (iv a1))] [])
  | .E0 x15 => stepIn ((k137_1 n slf) .normal) (mkSt 24 24 [(5, (iv x15))] [])
  | .L0 x9 x10 x11 x12 x13 => stepIn (fun A => loopK Γ (Φ137 n slf) a137 n c137_6 0 (u 0) A (k137_2 n slf)) (mkSt 24 24 [(0, (.val TyS38 x9)), (5, (iv x10)), (10, (.ref 10 [])), (11, (iv x11)), (12, (iv x12))] [(10, .tmp (.ow 3 I64) x13)])
theorem h137 (n : Nat) (slf : (List (Int × (Int × Int))) → Int → Option (Int)) (u : Nat → Nat) : ∀ p, (∀ i, 1 ≤ u i) → Ok1 (s137 n slf) e137 n (M137 n slf) u p
  | .F a0 a1, _ => pl [] (at_code rfl ((codeK_seq (by kernel_rfl)).trans (by kernel_rfl)))
  | .E0 x15, _ => pl [] (by kernel_rfl)
  | .L0 x9 x10 x11 x12 x13, hu => hd 0 [0] hu fun m hm => (loopK_at hm).trans ((codeK_seq (by kernel_rfl)).trans (by kernel_rfl))
noncomputable def p137' (n : Nat) (m : Nat) : (List (Int × (Int × Int))) → Int → Option (Int) := Nat.rec (fun _ _ => none) (fun _ slf a0 a1 => flow (s137 n slf) n (.F a0 a1)) m
noncomputable def p137 (n : Nat) : (List (Int × (Int × Int))) → Int → Option (Int) := p137' n n
theorem up137' {n m : Nat} (h : n ≤ m) : ∀ {a b : Nat}, a ≤ b → ∀ a0 a1, Up (p137' n a a0 a1) (p137' m b a0 a1)
  | 0, _, _, _, _ => fun v hv => by cases hv
  | _ + 1, 0, h1, _, _ => by omega
  | a + 1, b + 1, h1, a0, a1 => flow_up (nat137 n _) (us137 h fun a0 a1 => up137' h (Nat.le_of_succ_le_succ h1) a0 a1) h _
theorem up137 {n m : Nat} (h : n ≤ m) (a0 : List (Int × (Int × Int))) (a1 : Int) : Up (p137 n a0 a1) (p137 m a0 a1) := up137' h h a0 a1
noncomputable def E137 (n : Nat) : Entry := Es137 n (p137 n)
theorem ok137' (n : Nat) : ∀ m : Nat, EntryOk prog (Es137 n (p137' n m))
  | 0 => mkE_none (F := f137) (by kernel_rfl) (by kernel_rfl) (by kernel_rfl) fun _ _ => rfl
  | m + 1 => mkE_ok (Φ := Φ137 n (p137' n m)) (ann := a137) (n := n) (F := f137) (by kernel_rfl) (by kernel_rfl) (by kernel_rfl) (known_prog (known_cons (ok137' n m) (known_cons (ok138 n) known_nil))) mixed fun a b y h =>
    (show _ = M137 n (p137' n m) (fun _ => n) (.F a.1 a.2.1) by kernel_rfl).trans (flow_sound (nat137 n (p137' n m)) (h137 n (p137' n m)) n _ _ y (Nat.le_refl _) (fun _ => Nat.le_refl _) h)
theorem ok137 (n : Nat) : EntryOk prog (E137 n) := ok137' n n
/-! ### F85 horarium/horariumref3.Depth -/
noncomputable def a85 : Ann := { res := [I64] }
noncomputable def e85 (y : Int) : List CRes × List CVar := ([.v I64 y], [])
noncomputable def Φ85 (n : Nat) : Prog := Prog.of [E136 n, E137 n]
inductive P85 where
  | F (a0 : List (Int × (Int × Int)))
noncomputable def s85 (n : Nat) (γ : Type) : P85 → (P85 → Option γ) → (Int → Option γ) → Option γ
  | .F a0, k, r =>
    cond ((eqB (List.length a0 : Int) (0 : Int))) (
      r (0 : Int)) (
      (p136 n a0 (0 : Int)).bind fun y1 =>
      cond ((!eqB y1 (List.length a0 : Int))) (
        r (0 : Int)) (
        (p137 n a0 (0 : Int)).bind fun y2 =>
        r y2))
theorem nat85 (n : Nat) : NatS (s85 n) := fun g p k r => by
  cases p <;> simp only [s85, bind_cond, bind_ite, bind_optK, Option.bind_assoc, Option.bind_none]
theorem us85 {n m : Nat} (h : n ≤ m) : UpS (s85 n) (s85 m) := fun γ p k r => by
  cases p <;> dsimp only [s85] <;> repeat' first | with_reducible exact up_rfl | apply up_cond | apply up_ite | apply up_bind | apply up_optK | apply up136 h | apply up137 h | intro
noncomputable def k85_0 (n : Nat)  : Ex → St → Option (List CRes × List CVar) := finK' Γ f85 a85 0
noncomputable def M85 (n : Nat) (u : Nat → Nat) : P85 → Option (List CRes × List CVar)
  | .F a0 => stepIn (fun A => codeK Γ (Φ85 n) a85 n (bodyOf f85) 0 A (k85_0 n)) (mkSt 15 15 [(0, (.val TyS38 a0))] [])
theorem h85 (n : Nat) (u : Nat → Nat) : ∀ p, (∀ i, 1 ≤ u i) → Ok1 (s85 n) e85 n (M85 n) u p
  | .F a0, _ => pl [] (at_code rfl ((codeK_seq (by kernel_rfl)).trans (by kernel_rfl)))
noncomputable def p85 (n : Nat) (a0 : List (Int × (Int × Int))) : Option (Int) := flow (s85 n) n (.F a0)
theorem up85 {n m : Nat} (h : n ≤ m) (a0 : List (Int × (Int × Int))) : Up (p85 n a0) (p85 m a0) := flow_up (nat85 n) (us85 h) h _
noncomputable def E85 (n : Nat) : Entry := mkE 85 .flat [.tree TyS38] [] (fun a b => p85 n a.1) e85
theorem ok85 (n : Nat) : EntryOk prog (E85 n) := mkE_ok (Φ := Φ85 n) (ann := a85) (n := n) (F := f85) (by kernel_rfl) (by kernel_rfl) (by kernel_rfl) (known_prog (known_cons (ok136 n) (known_cons (ok137 n) known_nil))) mixed fun a b y h =>
  (show _ = M85 n (fun _ => n) (.F a.1) by kernel_rfl).trans (flow_sound (nat85 n) (h85 n) n _ _ y (Nat.le_refl _) (fun _ => Nat.le_refl _) h)
/-! ### F86 horarium/horariumref3.length -/
noncomputable def a86 : Ann := { loops := [(0, { vars := [], sites := [10], slots := [(0, .keep), (1, .keep), (5, .keep), (10, .tree (.ow 3 I64)), (11, .keep), (12, .keep)] })], ends := [(0, { vars := [], sites := [], slots := [(0, .keep), (1, .keep), (5, .keep)] })], res := [I64] }
noncomputable def e86 (y : Int) : List CRes × List CVar := ([.v I64 y], [])
noncomputable def Es86 (n : Nat) (slf : (List (Int × (Int × Int))) → Int → Option (Int)) : Entry := mkE 86 .flat [.tree TyS38, .tree I64] [] (fun a b => slf a.1 a.2.1) e86
noncomputable def Φ86 (n : Nat) (slf : (List (Int × (Int × Int))) → Int → Option (Int)) : Prog := Prog.of [Es86 n slf, E138 n]
inductive P86 where
  | F (a0 : List (Int × (Int × Int))) (a1 : Int)
  | E0 (x17 : List (Int × (Int × Int))) (x18 x19 : Int)
  | L0 (x10 : List (Int × (Int × Int))) (x11 x12 x13 x14 : Int) (x15 : List Int)
noncomputable def s86 (n : Nat) (slf : (List (Int × (Int × Int))) → Int → Option (Int)) (γ : Type) : P86 → (P86 → Option γ) → (Int → Option γ) → Option γ
  | .F a0 a1, k, r =>
    (p138 n a0 a1).bind fun y1 =>
    k (.L0 a0 a1 (0 : Int) (List.length y1 : Int) (0 : Int) y1)
  | .E0 x17 x18 x19, k, r =>
    if 0 ≤ x18 then (
    if x18 < (List.length x17 : Int) then (
    let u20 : Bool := (eqB (List.getD x17 (Int.toNat x18) ((0 : Int), ((0 : Int), (0 : Int)))).1 (3 : Int))
    cond (u20) (
      r x19) (
      let u21 : Bool := (eqB (List.getD x17 (Int.toNat x18) ((0 : Int), ((0 : Int), (0 : Int)))).1 (4 : Int))
      cond (u21) (
        if 0 ≤ x18 then (
        if x18 < (List.length x17 : Int) then (
        let u22 : Int := (min (List.getD x17 (Int.toNat x18) ((0 : Int), ((0 : Int), (0 : Int)))).2.2 (4097 : Int))
        r (min (w64 (x19 * u22)) (4097 : Int))) else none) else none) (
        if 0 ≤ x18 then (
        if x18 < (List.length x17 : Int) then (
        let u23 : Int := (min (List.getD x17 (Int.toNat x18) ((0 : Int), ((0 : Int), (0 : Int)))).2.2 (4097 : Int))
        r u23) else none) else none))) else none) else none
  | .L0 x10 x11 x12 x13 x14 x15, k, r =>
    cond ((ltB x14 x13)) (
      if 0 ≤ x14 then (
      if x14 < (List.length x15 : Int) then (
      (slf x10 (List.getD x15 (Int.toNat x14) (0 : Int))).bind fun y16 =>
      k (.L0 x10 x11 (min (w64 (x12 + y16)) (4097 : Int)) x13 (w64 (x14 + (1 : Int))) x15)) else none) else none) (
      k (.E0 x10 x11 x12))
theorem nat86 (n : Nat) (slf : (List (Int × (Int × Int))) → Int → Option (Int)) : NatS (s86 n slf) := fun g p k r => by
  cases p <;> simp only [s86, bind_cond, bind_ite, bind_optK, Option.bind_assoc, Option.bind_none]
theorem us86 {n m : Nat} (h : n ≤ m) {slf slf' : (List (Int × (Int × Int))) → Int → Option (Int)} (hs : ∀ a0 a1, Up (slf a0 a1) (slf' a0 a1)) : UpS (s86 n slf) (s86 m slf') := fun γ p k r => by
  cases p <;> dsimp only [s86] <;> repeat' first | with_reducible exact up_rfl | apply up_cond | apply up_ite | apply up_bind | apply up_optK | apply up138 h | apply hs | intro
noncomputable def k86_0 (n : Nat) (slf : (List (Int × (Int × Int))) → Int → Option (Int))  : Ex → St → Option (List CRes × List CVar) := finK' Γ f86 a86 0
noncomputable def c86_0 : Code := partB (bodyOf f86)
noncomputable def c86_1 : Code := partB c86_0
noncomputable def c86_2 : Code := partB c86_1
noncomputable def k86_1 (n : Nat) (slf : (List (Int × (Int × Int))) → Int → Option (Int))  : Ex → St → Option (List CRes × List CVar) := seqK Γ (Φ86 n slf) a86 n c86_2 0 (k86_0 n slf)
noncomputable def c86_3 : Code := partA c86_1
noncomputable def c86_4 : Code := partB c86_3
noncomputable def c86_5 : Code := partA c86_4
noncomputable def c86_6 : Code := partA c86_5
noncomputable def k86_2 (n : Nat) (slf : (List (Int × (Int × Int))) → Int → Option (Int))  : Ex → St → Option (List CRes × List CVar) := blockK a86 0 (k86_1 n slf)
noncomputable def M86 (n : Nat) (slf : (List (Int × (Int × Int))) → Int → Option (Int)) (u : Nat → Nat) : P86 → Option (List CRes × List CVar)
  | .F a0 a1 => stepIn (fun A => codeK Γ (Φ86 n slf) a86 n (bodyOf f86) 0 A (k86_0 n slf)) (mkSt 48 48 [(0, (.val TyS38 a0)), (1, (iv a1))] [])
  | .E0 x17 x18 x19 => stepIn ((k86_1 n slf) .normal) (mkSt 48 48 [(0, (.val TyS38 x17)), (1, (iv x18)), (5, (iv x19))] [])
  | .L0 x10 x11 x12 x13 x14 x15 => stepIn (fun A => loopK Γ (Φ86 n slf) a86 n c86_6 0 (u 0) A (k86_2 n slf)) (mkSt 48 48 [(0, (.val TyS38 x10)), (1, (iv x11)), (5, (iv x12)), (10, (.ref 10 [])), (11, (iv x13)), (12, (iv x14))] [(10, .tmp (.ow 3 I64) x15)])
theorem h86 (n : Nat) (slf : (List (Int × (Int × Int))) → Int → Option (Int)) (u : Nat → Nat) : ∀ p, (∀ i, 1 ≤ u i) → Ok1 (s86 n slf) e86 n (M86 n slf) u p
  | .F a0 a1, _ => pl [] (at_code rfl ((codeK_seq (by kernel_rfl)).trans (by kernel_rfl)))
  | .E0 x17 x18 x19, _ => pl [] (by kernel_rfl)
  | .L0 x10 x11 x12 x13 x14 x15, hu => hd 0 [0] hu fun m hm => (loopK_at hm).trans ((codeK_seq (by kernel_rfl)).trans (by kernel_rfl))
noncomputable def p86' (n : Nat) (m : Nat) : (List (Int × (Int × Int))) → Int → Option (Int) := Nat.rec (fun _ _ => none) (fun _ slf a0 a1 => flow (s86 n slf) n (.F a0 a1)) m
noncomputable def p86 (n : Nat) : (List (Int × (Int × Int))) → Int → Option (Int) := p86' n n
theorem up86' {n m : Nat} (h : n ≤ m) : ∀ {a b : Nat}, a ≤ b → ∀ a0 a1, Up (p86' n a a0 a1) (p86' m b a0 a1)
  | 0, _, _, _, _ => fun v hv => by cases hv
  | _ + 1, 0, h1, _, _ => by omega
  | a + 1, b + 1, h1, a0, a1 => flow_up (nat86 n _) (us86 h fun a0 a1 => up86' h (Nat.le_of_succ_le_succ h1) a0 a1) h _
theorem up86 {n m : Nat} (h : n ≤ m) (a0 : List (Int × (Int × Int))) (a1 : Int) : Up (p86 n a0 a1) (p86 m a0 a1) := up86' h h a0 a1
noncomputable def E86 (n : Nat) : Entry := Es86 n (p86 n)
theorem ok86' (n : Nat) : ∀ m : Nat, EntryOk prog (Es86 n (p86' n m))
  | 0 => mkE_none (F := f86) (by kernel_rfl) (by kernel_rfl) (by kernel_rfl) fun _ _ => rfl
  | m + 1 => mkE_ok (Φ := Φ86 n (p86' n m)) (ann := a86) (n := n) (F := f86) (by kernel_rfl) (by kernel_rfl) (by kernel_rfl) (known_prog (known_cons (ok86' n m) (known_cons (ok138 n) known_nil))) mixed fun a b y h =>
    (show _ = M86 n (p86' n m) (fun _ => n) (.F a.1 a.2.1) by kernel_rfl).trans (flow_sound (nat86 n (p86' n m)) (h86 n (p86' n m)) n _ _ y (Nat.le_refl _) (fun _ => Nat.le_refl _) h)
theorem ok86 (n : Nat) : EntryOk prog (E86 n) := ok86' n n
/-! ### F36 horarium/horariumref3.Length -/
noncomputable def a36 : Ann := { res := [I64, .bool] }
noncomputable def e36 (y : Int × Bool) : List CRes × List CVar := ([.v I64 y.1, .v .bool y.2], [])
noncomputable def Φ36 (n : Nat) : Prog := Prog.of [E85 n, E86 n]
inductive P36 where
  | F (a0 : List (Int × (Int × Int)))
noncomputable def s36 (n : Nat) (γ : Type) : P36 → (P36 → Option γ) → ((Int × Bool) → Option γ) → Option γ
  | .F a0, k, r =>
    (p85 n a0).bind fun y1 =>
    cond ((eqB y1 (0 : Int))) (
      r ((0 : Int), false)) (
      (p86 n a0 (0 : Int)).bind fun y2 =>
      cond ((ltB (4096 : Int) y2)) (
        r ((0 : Int), false)) (
        r (y2, true)))
theorem nat36 (n : Nat) : NatS (s36 n) := fun g p k r => by
  cases p <;> simp only [s36, bind_cond, bind_ite, bind_optK, Option.bind_assoc, Option.bind_none]
theorem us36 {n m : Nat} (h : n ≤ m) : UpS (s36 n) (s36 m) := fun γ p k r => by
  cases p <;> dsimp only [s36] <;> repeat' first | with_reducible exact up_rfl | apply up_cond | apply up_ite | apply up_bind | apply up_optK | apply up85 h | apply up86 h | intro
noncomputable def k36_0 (n : Nat)  : Ex → St → Option (List CRes × List CVar) := finK' Γ f36 a36 0
noncomputable def M36 (n : Nat) (u : Nat → Nat) : P36 → Option (List CRes × List CVar)
  | .F a0 => stepIn (fun A => codeK Γ (Φ36 n) a36 n (bodyOf f36) 0 A (k36_0 n)) (mkSt 13 13 [(0, (.val TyS38 a0))] [])
theorem h36 (n : Nat) (u : Nat → Nat) : ∀ p, (∀ i, 1 ≤ u i) → Ok1 (s36 n) e36 n (M36 n) u p
  | .F a0, _ => pl [] (at_code rfl ((codeK_seq (by kernel_rfl)).trans (by kernel_rfl)))
noncomputable def p36 (n : Nat) (a0 : List (Int × (Int × Int))) : Option (Int × Bool) := flow (s36 n) n (.F a0)
theorem up36 {n m : Nat} (h : n ≤ m) (a0 : List (Int × (Int × Int))) : Up (p36 n a0) (p36 m a0) := flow_up (nat36 n) (us36 h) h _
noncomputable def E36 (n : Nat) : Entry := mkE 36 .flat [.tree TyS38] [] (fun a b => p36 n a.1) e36
theorem ok36 (n : Nat) : EntryOk prog (E36 n) := mkE_ok (Φ := Φ36 n) (ann := a36) (n := n) (F := f36) (by kernel_rfl) (by kernel_rfl) (by kernel_rfl) (known_prog (known_cons (ok85 n) (known_cons (ok86 n) known_nil))) mixed fun a b y h =>
  (show _ = M36 n (fun _ => n) (.F a.1) by kernel_rfl).trans (flow_sound (nat36 n) (h36 n) n _ _ y (Nat.le_refl _) (fun _ => Nat.le_refl _) h)
/-! ### F37 horarium/horariumref3.Right -/
noncomputable def a37 : Ann := { res := [I64] }
noncomputable def e37 (y : Int) : List CRes × List CVar := ([.v I64 y], [])
noncomputable def Φ37 (n : Nat) : Prog := Prog.of [E36 n, E85 n]
inductive P37 where
  | F (a0 : List (Int × (Int × Int)))
noncomputable def s37 (n : Nat) (γ : Type) : P37 → (P37 → Option γ) → (Int → Option γ) → Option γ
  | .F a0, k, r =>
    cond ((ltB (128 : Int) (List.length a0 : Int))) (
      r (3 : Int)) (
      (p85 n a0).bind fun y1 =>
      cond ((eqB y1 (0 : Int))) (
        r (12 : Int)) (
        (p85 n a0).bind fun y2 =>
        cond ((ltB (16 : Int) y2)) (
          r (14 : Int)) (
          (p36 n a0).bind fun cy3 =>
          cond ((!cy3.2)) (
            r (18 : Int)) (
            r (0 : Int)))))
theorem nat37 (n : Nat) : NatS (s37 n) := fun g p k r => by
  cases p <;> simp only [s37, bind_cond, bind_ite, bind_optK, Option.bind_assoc, Option.bind_none]
theorem us37 {n m : Nat} (h : n ≤ m) : UpS (s37 n) (s37 m) := fun γ p k r => by
  cases p <;> dsimp only [s37] <;> repeat' first | with_reducible exact up_rfl | apply up_cond | apply up_ite | apply up_bind | apply up_optK | apply up36 h | apply up85 h | intro
noncomputable def k37_0 (n : Nat)  : Ex → St → Option (List CRes × List CVar) := finK' Γ f37 a37 0
noncomputable def M37 (n : Nat) (u : Nat → Nat) : P37 → Option (List CRes × List CVar)
  | .F a0 => stepIn (fun A => codeK Γ (Φ37 n) a37 n (bodyOf f37) 0 A (k37_0 n)) (mkSt 21 21 [(0, (.val TyS38 a0))] [])
theorem h37 (n : Nat) (u : Nat → Nat) : ∀ p, (∀ i, 1 ≤ u i) → Ok1 (s37 n) e37 n (M37 n) u p
  | .F a0, _ => pl [] (at_code rfl ((codeK_seq (by kernel_rfl)).trans (by kernel_rfl)))
noncomputable def p37 (n : Nat) (a0 : List (Int × (Int × Int))) : Option (Int) := flow (s37 n) n (.F a0)
theorem up37 {n m : Nat} (h : n ≤ m) (a0 : List (Int × (Int × Int))) : Up (p37 n a0) (p37 m a0) := flow_up (nat37 n) (us37 h) h _
noncomputable def E37 (n : Nat) : Entry := mkE 37 .flat [.tree TyS38] [] (fun a b => p37 n a.1) e37
theorem ok37 (n : Nat) : EntryOk prog (E37 n) := mkE_ok (Φ := Φ37 n) (ann := a37) (n := n) (F := f37) (by kernel_rfl) (by kernel_rfl) (by kernel_rfl) (known_prog (known_cons (ok36 n) (known_cons (ok85 n) known_nil))) mixed fun a b y h =>
  (show _ = M37 n (fun _ => n) (.F a.1) by kernel_rfl).trans (flow_sound (nat37 n) (h37 n) n _ _ y (Nat.le_refl _) (fun _ => Nat.le_refl _) h)
end Go.Am
