/- B1: pure meanings of functions, printed by wip/tools/gen5.py. -/
import Derived.Test.YtebmpngnbnigcaaS1Tys
set_option linter.unusedVariables false
set_option linter.unusedSimpArgs false
set_option maxRecDepth 20000
set_option maxHeartbeats 0
namespace Go.Am
open Go.Proofs.Try
/-! ### F19 horarium/horariumlaw9.tape -/
noncomputable def a19 : Ann := { loops := [(0, { vars := [], sites := [3], slots := [(0, .keep), (3, .tree (.ow 3 I64)), (4, .keep)] })], ends := [(0, { vars := [], sites := [3], slots := [(3, .tree (.ow 3 I64))] })], res := [(.ow 3 I64)] }
noncomputable def e19 (y : List Int) : List CRes × List CVar := ([.v (.ow 3 I64) y], [])
noncomputable def Φ19 (n : Nat) : Prog := Prog.of []
inductive P19 where
  | F (a0 : Int)
  | E0 (x15 : List Int)
  | L0 (x9 x10 : Int) (x11 : List Int)
noncomputable def s19 (n : Nat) (γ : Type) : P19 → (P19 → Option γ) → ((List Int) → Option γ) → Option γ
  | .F a0, k, r =>
    k (.L0 a0 (0 : Int) ([] : (List Int)))
  | .E0 x15, k, r =>
    r x15
  | .L0 x9 x10 x11, k, r =>
    cond ((ltB x10 (400 : Int))) (
      let u12 : Int := (w64 ((w64 (x10 * x10)) * (7 : Int)))
      let u13 : Int := (w64 (u12 + (w64 (x9 * (47 : Int)))))
      let u14 : Int := (Int.tmod (w64 (u13 + (w64 (x10 * x9)))) (211 : Int))
      if (List.length x11 + List.length [u14]) * 8 ≤ 140737488355328 then (
      k (.L0 x9 (w64 (x10 + (1 : Int))) (x11 ++ [u14]))) else none) (
      k (.E0 x11))
theorem nat19 (n : Nat) : NatS (s19 n) := fun g p k r => by
  cases p <;> simp only [s19, bind_cond, bind_ite, Option.bind_assoc, Option.bind_none]
theorem us19 {n m : Nat} (h : n ≤ m) : UpS (s19 n) (s19 m) := fun γ p k r => by
  cases p <;> dsimp only [s19] <;> repeat' first | with_reducible exact up_rfl | apply up_cond | apply up_ite | apply up_bind | intro
noncomputable def k19_0 (n : Nat)  : Ex → St → Option (List CRes × List CVar) := finK' Γ f19 a19 0
noncomputable def c19_0 : Code := partB (bodyOf f19)
noncomputable def c19_1 : Code := partB c19_0
noncomputable def c19_2 : Code := partB c19_1
noncomputable def k19_1 (n : Nat)  : Ex → St → Option (List CRes × List CVar) := seqK Γ (Φ19 n) a19 n c19_2 0 (k19_0 n)
noncomputable def c19_3 : Code := partA c19_1
noncomputable def c19_4 : Code := partB c19_3
noncomputable def c19_5 : Code := partA c19_4
noncomputable def c19_6 : Code := partA c19_5
noncomputable def k19_2 (n : Nat)  : Ex → St → Option (List CRes × List CVar) := blockK a19 0 (k19_1 n)
noncomputable def M19 (n : Nat) (u : Nat → Nat) : P19 → Option (List CRes × List CVar)
  | .F a0 => stepIn (fun A => codeK Γ (Φ19 n) a19 n (bodyOf f19) 0 A (k19_0 n)) (mkSt 25 25 [(0, (iv a0))] [])
  | .E0 x15 => stepIn ((k19_1 n) .normal) (mkSt 25 25 [(3, (.ref 3 []))] [(3, .tmp (.ow 3 I64) x15)])
  | .L0 x9 x10 x11 => stepIn (fun A => loopK Γ (Φ19 n) a19 n c19_6 0 (u 0) A (k19_2 n)) (mkSt 25 25 [(0, (iv x9)), (3, (.ref 3 [])), (4, (iv x10))] [(3, .tmp (.ow 3 I64) x11)])
theorem h19 (n : Nat) (u : Nat → Nat) : ∀ p, (∀ i, 1 ≤ u i) → Ok1 (s19 n) e19 n (M19 n) u p
  | .F a0, _ => pl [] (at_code rfl ((codeK_seq (by kernel_rfl)).trans (by kernel_rfl)))
  | .E0 x15, _ => pl [] (by kernel_rfl)
  | .L0 x9 x10 x11, hu => hd 0 [0] hu fun m hm => (loopK_at hm).trans ((codeK_seq (by kernel_rfl)).trans ((codeK_seq (by kernel_rfl)).trans (by kernel_rfl)))
noncomputable def p19 (n : Nat) (a0 : Int) : Option (List Int) := flow (s19 n) n (.F a0)
theorem up19 {n m : Nat} (h : n ≤ m) (a0 : Int) : Up (p19 n a0) (p19 m a0) := flow_up (nat19 n) (us19 h) h _
noncomputable def E19 (n : Nat) : Entry := mkE 19 .look [.tree I64] [] (fun a b => p19 n a.1) e19
theorem ok19 (n : Nat) : EntryOk prog (E19 n) := mkE_ok (Φ := Φ19 n) (ann := a19) (n := n) (F := f19) (by kernel_rfl) (by kernel_rfl) (by kernel_rfl) (known_prog known_nil) mixed fun a b y h =>
  (show _ = M19 n (fun _ => n) (.F a.1) by kernel_rfl).trans (flow_sound (nat19 n) (h19 n) n _ _ y (Nat.le_refl _) (fun _ => Nat.le_refl _) h)
/-! ### F35 horarium/horariumbook.Within -/
noncomputable def a35 : Ann := { res := [I64] }
noncomputable def e35 (y : Int) : List CRes × List CVar := ([.v I64 y], [])
noncomputable def Φ35 (n : Nat) : Prog := Prog.of []
inductive P35 where
  | F (a0 a1 a2 : Int)
noncomputable def s35 (n : Nat) (γ : Type) : P35 → (P35 → Option γ) → (Int → Option γ) → Option γ
  | .F a0 a1 a2, k, r =>
    cond ((leB a1 a0)) (
      cond ((leB a0 a2)) (
        r a0) (
        let u1 : Int := (w64 ((w64 (a2 - a1)) + (1 : Int)))
        if u1 = 0 then none else (
        cond ((ltB (Int.tmod a0 u1) (0 : Int))) (
          let u2 : Int := (w64 ((w64 ((Int.tmod a0 u1) + a2)) - a1))
          let u3 : Int := (w64 (a1 + (w64 (u2 + (1 : Int)))))
          r u3) (
          r (w64 (a1 + (Int.tmod a0 u1))))))) (
      let u4 : Int := (w64 ((w64 (a2 - a1)) + (1 : Int)))
      if u4 = 0 then none else (
      cond ((ltB (Int.tmod a0 u4) (0 : Int))) (
        let u5 : Int := (w64 ((w64 ((Int.tmod a0 u4) + a2)) - a1))
        let u6 : Int := (w64 (a1 + (w64 (u5 + (1 : Int)))))
        r u6) (
        r (w64 (a1 + (Int.tmod a0 u4))))))
theorem nat35 (n : Nat) : NatS (s35 n) := fun g p k r => by
  cases p <;> simp only [s35, bind_cond, bind_ite, Option.bind_assoc, Option.bind_none]
theorem us35 {n m : Nat} (h : n ≤ m) : UpS (s35 n) (s35 m) := fun γ p k r => by
  cases p <;> dsimp only [s35] <;> repeat' first | with_reducible exact up_rfl | apply up_cond | apply up_ite | apply up_bind | intro
noncomputable def k35_0 (n : Nat)  : Ex → St → Option (List CRes × List CVar) := finK' Γ f35 a35 0
noncomputable def M35 (n : Nat) (u : Nat → Nat) : P35 → Option (List CRes × List CVar)
  | .F a0 a1 a2 => stepIn (fun A => codeK Γ (Φ35 n) a35 n (bodyOf f35) 0 A (k35_0 n)) (mkSt 33 33 [(0, (iv a0)), (1, (iv a1)), (2, (iv a2))] [])
theorem h35 (n : Nat) (u : Nat → Nat) : ∀ p, (∀ i, 1 ≤ u i) → Ok1 (s35 n) e35 n (M35 n) u p
  | .F a0 a1 a2, _ => pl [] (at_code rfl ((codeK_seq (by kernel_rfl)).trans (by kernel_rfl)))
noncomputable def p35 (n : Nat) (a0 a1 a2 : Int) : Option (Int) := flow (s35 n) n (.F a0 a1 a2)
theorem up35 {n m : Nat} (h : n ≤ m) (a0 a1 a2 : Int) : Up (p35 n a0 a1 a2) (p35 m a0 a1 a2) := flow_up (nat35 n) (us35 h) h _
noncomputable def E35 (n : Nat) : Entry := mkE 35 .flat [.tree I64, .tree I64, .tree I64] [] (fun a b => p35 n a.1 a.2.1 a.2.2.1) e35
theorem ok35 (n : Nat) : EntryOk prog (E35 n) := mkE_ok (Φ := Φ35 n) (ann := a35) (n := n) (F := f35) (by kernel_rfl) (by kernel_rfl) (by kernel_rfl) (known_prog known_nil) mixed fun a b y h =>
  (show _ = M35 n (fun _ => n) (.F a.1 a.2.1 a.2.2.1) by kernel_rfl).trans (flow_sound (nat35 n) (h35 n) n _ _ y (Nat.le_refl _) (fun _ => Nat.le_refl _) h)
/-! ### F74 (*horarium/horariumkeep.Tape).Next -/
noncomputable def a74 : Ann := { draws := [(1, { order := [0, 1, 2, 3, 4, 5, 6, 7, 8, 9, 10, 11, 12, 13] }), (4, { order := [0, 1, 2, 3, 4, 5, 6, 7, 8, 9, 10, 12, 11, 13, 14], touch := [(11, [])] })], res := [I64] }
noncomputable def e74 (y : Int × ((List Int) × Int)) : List CRes × List CVar := ([.v I64 y.1], [⟨26, (.pair (.sh 3 I64) I64), y.2⟩])
noncomputable def Φ74 (n : Nat) : Prog := Prog.of [E35 n]
inductive P74 where
  | F (a1 : Int) (b0 : (List Int) × Int)
noncomputable def s74 (n : Nat) (γ : Type) : P74 → (P74 → Option γ) → ((Int × ((List Int) × Int)) → Option γ) → Option γ
  | .F a1 b0, k, r =>
    cond ((leB (List.length b0.1 : Int) b0.2)) (
      r ((0 : Int), b0)) (
      cond ((ltB a1 (1 : Int))) (
        r ((0 : Int), b0)) (
        let u1 : Int := (w64 ((w64 (b0.2 + (1 : Int))) - (1 : Int)))
        if 0 ≤ u1 then (
        if u1 < (List.length b0.1 : Int) then (
        (p35 n (List.getD b0.1 (Int.toNat u1) (0 : Int)) (0 : Int) (1073741824 : Int)).bind fun y2 =>
        if a1 = 0 then none else (
        r ((Int.tmod y2 a1), (b0.1, (w64 (b0.2 + (1 : Int))))))) else none) else none))
theorem nat74 (n : Nat) : NatS (s74 n) := fun g p k r => by
  cases p <;> simp only [s74, bind_cond, bind_ite, Option.bind_assoc, Option.bind_none]
theorem us74 {n m : Nat} (h : n ≤ m) : UpS (s74 n) (s74 m) := fun γ p k r => by
  cases p <;> dsimp only [s74] <;> repeat' first | with_reducible exact up_rfl | apply up_cond | apply up_ite | apply up_bind | apply up35 h | intro
noncomputable def k74_0 (n : Nat)  : Ex → St → Option (List CRes × List CVar) := finK' Γ f74 a74 1
noncomputable def M74 (n : Nat) (u : Nat → Nat) : P74 → Option (List CRes × List CVar)
  | .F a1 b0 => stepIn (fun A => codeK Γ (Φ74 n) a74 n (bodyOf f74) 0 A (k74_0 n)) (mkSt 40 41 [(0, (.ptr 40 [])), (1, (iv a1))] [(40, .var 26 (.pair (.sh 3 I64) I64) b0)])
theorem h74 (n : Nat) (u : Nat → Nat) : ∀ p, (∀ i, 1 ≤ u i) → Ok1 (s74 n) e74 n (M74 n) u p
  | .F a1 b0, _ => pl [] (at_code rfl ((codeK_seq (by kernel_rfl)).trans (by kernel_rfl)))
noncomputable def p74 (n : Nat) (a1 : Int) (b0 : (List Int) × Int) : Option (Int × ((List Int) × Int)) := flow (s74 n) n (.F a1 b0)
theorem up74 {n m : Nat} (h : n ≤ m) (a1 : Int) (b0 : (List Int) × Int) : Up (p74 n a1 b0) (p74 m a1 b0) := flow_up (nat74 n) (us74 h) h _
noncomputable def E74 (n : Nat) : Entry := mkE 74 .move [.point, .tree I64] [(26, (.pair (.sh 3 I64) I64))] (fun a b => p74 n a.1 b.1) e74
theorem ok74 (n : Nat) : EntryOk prog (E74 n) := mkE_ok (Φ := Φ74 n) (ann := a74) (n := n) (F := f74) (by kernel_rfl) (by kernel_rfl) (by kernel_rfl) (known_prog (known_cons (ok35 n) known_nil)) mixed fun a b y h =>
  (show _ = M74 n (fun _ => n) (.F a.1 b.1) by kernel_rfl).trans (flow_sound (nat74 n) (h74 n) n _ _ y (Nat.le_refl _) (fun _ => Nat.le_refl _) h)
/-! ### F20 (*horarium/horariumkeep.Tape).Runs -/
noncomputable def a20 : Ann := { loops := [(0, { vars := [], sites := [7, 30], slots := [(0, .keep), (1, .keep), (7, .tree (.ow 44 (.pair I64 I64))), (8, .keep)] })], ends := [(0, { vars := [], sites := [7, 30], slots := [(7, .tree (.ow 44 (.pair I64 I64)))] })], res := [(.ow 44 (.pair I64 I64))] }
noncomputable def e20 (y : (List (Int × Int)) × ((List Int) × Int)) : List CRes × List CVar := ([.v (.ow 44 (.pair I64 I64)) y.1], [⟨26, (.pair (.sh 3 I64) I64), y.2⟩])
noncomputable def Φ20 (n : Nat) : Prog := Prog.of [E74 n]
inductive P20 where
  | F (a1 a2 : Int) (b0 : (List Int) × Int)
  | E0 (x29 : List (Int × Int)) (x30 : List Int) (x31 : Int)
  | L0 (x19 x20 : Int) (x21 : List (Int × Int)) (x22 : List Int) (x23 : Int)
noncomputable def s20 (n : Nat) (γ : Type) : P20 → (P20 → Option γ) → ((List (Int × Int)) × ((List Int) × Int) → Option γ) → Option γ
  | .F a1 a2 b0, k, r =>
    (p74 n a2 b0).bind fun cy1 =>
    k (.L0 a1 (w64 ((1 : Int) + cy1.1)) ([] : (List (Int × Int))) cy1.2.1 cy1.2.2)
  | .E0 x29 x30 x31, k, r =>
    r (x29, (x30, x31))
  | .L0 x19 x20 x21 x22 x23, k, r =>
    cond ((ltB (0 : Int) x20)) (
      (p74 n (w64 (x19 + (1 : Int))) (x22, x23)).bind fun cy24 =>
      (p74 n (4 : Int) cy24.2).bind fun cy26 =>
      if (List.length x21 + List.length [((w64 (cy24.1 - (1 : Int))), (w64 ((1 : Int) + cy26.1)))]) * 16 ≤ 140737488355328 then (
      let u28 : List (Int × Int) := (x21 ++ [((w64 (cy24.1 - (1 : Int))), (w64 ((1 : Int) + cy26.1)))])
      k (.L0 x19 (w64 (x20 - (1 : Int))) u28 cy26.2.1 cy26.2.2)) else none) (
      k (.E0 x21 x22 x23))
theorem nat20 (n : Nat) : NatS (s20 n) := fun g p k r => by
  cases p <;> simp only [s20, bind_cond, bind_ite, Option.bind_assoc, Option.bind_none]
theorem us20 {n m : Nat} (h : n ≤ m) : UpS (s20 n) (s20 m) := fun γ p k r => by
  cases p <;> dsimp only [s20] <;> repeat' first | with_reducible exact up_rfl | apply up_cond | apply up_ite | apply up_bind | apply up74 h | intro
noncomputable def k20_0 (n : Nat)  : Ex → St → Option (List CRes × List CVar) := finK' Γ f20 a20 1
noncomputable def c20_0 : Code := partB (bodyOf f20)
noncomputable def c20_1 : Code := partB c20_0
noncomputable def c20_2 : Code := partB c20_1
noncomputable def k20_1 (n : Nat)  : Ex → St → Option (List CRes × List CVar) := seqK Γ (Φ20 n) a20 n c20_2 0 (k20_0 n)
noncomputable def c20_3 : Code := partA c20_1
noncomputable def c20_4 : Code := partB c20_3
noncomputable def c20_5 : Code := partA c20_4
noncomputable def c20_6 : Code := partA c20_5
noncomputable def k20_2 (n : Nat)  : Ex → St → Option (List CRes × List CVar) := blockK a20 0 (k20_1 n)
noncomputable def M20 (n : Nat) (u : Nat → Nat) : P20 → Option (List CRes × List CVar)
  | .F a1 a2 b0 => stepIn (fun A => codeK Γ (Φ20 n) a20 n (bodyOf f20) 0 A (k20_0 n)) (mkSt 30 31 [(0, (.ptr 30 [])), (1, (iv a1)), (2, (iv a2))] [(30, .var 26 (.pair (.sh 3 I64) I64) b0)])
  | .E0 x29 x30 x31 => stepIn ((k20_1 n) .normal) (mkSt 30 31 [(7, (.ref 7 []))] [(7, .tmp (.ow 44 (.pair I64 I64)) x29), (30, .var 26 (.pair (.sh 3 I64) I64) (x30, x31))])
  | .L0 x19 x20 x21 x22 x23 => stepIn (fun A => loopK Γ (Φ20 n) a20 n c20_6 0 (u 0) A (k20_2 n)) (mkSt 30 31 [(0, (.ptr 30 [])), (1, (iv x19)), (7, (.ref 7 [])), (8, (iv x20))] [(7, .tmp (.ow 44 (.pair I64 I64)) x21), (30, .var 26 (.pair (.sh 3 I64) I64) (x22, x23))])
theorem h20 (n : Nat) (u : Nat → Nat) : ∀ p, (∀ i, 1 ≤ u i) → Ok1 (s20 n) e20 n (M20 n) u p
  | .F a1 a2 b0, _ => pl [] (at_code rfl ((codeK_seq (by kernel_rfl)).trans (by kernel_rfl)))
  | .E0 x29 x30 x31, _ => pl [] (by kernel_rfl)
  | .L0 x19 x20 x21 x22 x23, hu => hd 0 [0] hu fun m hm => (loopK_at hm).trans ((codeK_seq (by kernel_rfl)).trans ((codeK_seq (by kernel_rfl)).trans (by kernel_rfl)))
noncomputable def p20 (n : Nat) (a1 a2 : Int) (b0 : (List Int) × Int) : Option ((List (Int × Int)) × ((List Int) × Int)) := flow (s20 n) n (.F a1 a2 b0)
theorem up20 {n m : Nat} (h : n ≤ m) (a1 a2 : Int) (b0 : (List Int) × Int) : Up (p20 n a1 a2 b0) (p20 m a1 a2 b0) := flow_up (nat20 n) (us20 h) h _
noncomputable def E20 (n : Nat) : Entry := mkE 20 .move [.point, .tree I64, .tree I64] [(26, (.pair (.sh 3 I64) I64))] (fun a b => p20 n a.1 a.2.1 b.1) e20
theorem ok20 (n : Nat) : EntryOk prog (E20 n) := mkE_ok (Φ := Φ20 n) (ann := a20) (n := n) (F := f20) (by kernel_rfl) (by kernel_rfl) (by kernel_rfl) (known_prog (known_cons (ok74 n) known_nil)) mixed fun a b y h =>
  (show _ = M20 n (fun _ => n) (.F a.1 a.2.1 b.1) by kernel_rfl).trans (flow_sound (nat20 n) (h20 n) n _ _ y (Nat.le_refl _) (fun _ => Nat.le_refl _) h)
/-! ### F75 horarium/horariumref3.Sum -/
noncomputable def a75 : Ann := { res := [I64] }
noncomputable def e75 (y : Int) : List CRes × List CVar := ([.v I64 y], [])
noncomputable def Φ75 (n : Nat) : Prog := Prog.of []
inductive P75 where
  | F (a0 a1 : Int)
noncomputable def s75 (n : Nat) (γ : Type) : P75 → (P75 → Option γ) → (Int → Option γ) → Option γ
  | .F a0 a1, k, r =>
    let u1 : Int := (w64 ((9223372036854775807 : Int) - (max a1 (0 : Int))))
    cond ((ltB u1 (max a0 (0 : Int)))) (
      r (9223372036854775807 : Int)) (
      r (w64 ((max a0 (0 : Int)) + (max a1 (0 : Int)))))
theorem nat75 (n : Nat) : NatS (s75 n) := fun g p k r => by
  cases p <;> simp only [s75, bind_cond, bind_ite, Option.bind_assoc, Option.bind_none]
theorem us75 {n m : Nat} (h : n ≤ m) : UpS (s75 n) (s75 m) := fun γ p k r => by
  cases p <;> dsimp only [s75] <;> repeat' first | with_reducible exact up_rfl | apply up_cond | apply up_ite | apply up_bind | intro
noncomputable def k75_0 (n : Nat)  : Ex → St → Option (List CRes × List CVar) := finK' Γ f75 a75 0
noncomputable def M75 (n : Nat) (u : Nat → Nat) : P75 → Option (List CRes × List CVar)
  | .F a0 a1 => stepIn (fun A => codeK Γ (Φ75 n) a75 n (bodyOf f75) 0 A (k75_0 n)) (mkSt 16 16 [(0, (iv a0)), (1, (iv a1))] [])
theorem h75 (n : Nat) (u : Nat → Nat) : ∀ p, (∀ i, 1 ≤ u i) → Ok1 (s75 n) e75 n (M75 n) u p
  | .F a0 a1, _ => pl [] (at_code rfl ((codeK_seq (by kernel_rfl)).trans (by kernel_rfl)))
noncomputable def p75 (n : Nat) (a0 a1 : Int) : Option (Int) := flow (s75 n) n (.F a0 a1)
theorem up75 {n m : Nat} (h : n ≤ m) (a0 a1 : Int) : Up (p75 n a0 a1) (p75 m a0 a1) := flow_up (nat75 n) (us75 h) h _
noncomputable def E75 (n : Nat) : Entry := mkE 75 .flat [.tree I64, .tree I64] [] (fun a b => p75 n a.1 a.2.1) e75
theorem ok75 (n : Nat) : EntryOk prog (E75 n) := mkE_ok (Φ := Φ75 n) (ann := a75) (n := n) (F := f75) (by kernel_rfl) (by kernel_rfl) (by kernel_rfl) (known_prog known_nil) mixed fun a b y h =>
  (show _ = M75 n (fun _ => n) (.F a.1 a.2.1) by kernel_rfl).trans (flow_sound (nat75 n) (h75 n) n _ _ y (Nat.le_refl _) (fun _ => Nat.le_refl _) h)
/-! ### F21 horarium/horariumref3.Total -/
noncomputable def a21 : Ann := { loops := [(0, { vars := [], sites := [], slots := [(3, .keep), (6, .keep), (7, .keep), (8, .keep)] })], ends := [(0, { vars := [], sites := [], slots := [(3, .keep)] })], res := [I64] }
noncomputable def e21 (y : Int) : List CRes × List CVar := ([.v I64 y], [])
noncomputable def Φ21 (n : Nat) : Prog := Prog.of [E75 n]
inductive P21 where
  | F (a0 : List (Int × Int))
  | E0 (x12 : Int)
  | L0 (x7 : Int) (x8 : List (Int × Int)) (x9 x10 : Int)
noncomputable def s21 (n : Nat) (γ : Type) : P21 → (P21 → Option γ) → (Int → Option γ) → Option γ
  | .F a0, k, r =>
    k (.L0 (0 : Int) a0 (List.length a0 : Int) (0 : Int))
  | .E0 x12, k, r =>
    r x12
  | .L0 x7 x8 x9 x10, k, r =>
    cond ((ltB x10 x9)) (
      if 0 ≤ x10 then (
      if x10 < (List.length x8 : Int) then (
      (p75 n x7 (List.getD x8 (Int.toNat x10) ((0 : Int), (0 : Int))).2).bind fun y11 =>
      k (.L0 y11 x8 x9 (w64 (x10 + (1 : Int))))) else none) else none) (
      k (.E0 x7))
theorem nat21 (n : Nat) : NatS (s21 n) := fun g p k r => by
  cases p <;> simp only [s21, bind_cond, bind_ite, Option.bind_assoc, Option.bind_none]
theorem us21 {n m : Nat} (h : n ≤ m) : UpS (s21 n) (s21 m) := fun γ p k r => by
  cases p <;> dsimp only [s21] <;> repeat' first | with_reducible exact up_rfl | apply up_cond | apply up_ite | apply up_bind | apply up75 h | intro
noncomputable def k21_0 (n : Nat)  : Ex → St → Option (List CRes × List CVar) := finK' Γ f21 a21 0
noncomputable def c21_0 : Code := partB (bodyOf f21)
noncomputable def c21_1 : Code := partB c21_0
noncomputable def c21_2 : Code := partB c21_1
noncomputable def k21_1 (n : Nat)  : Ex → St → Option (List CRes × List CVar) := seqK Γ (Φ21 n) a21 n c21_2 0 (k21_0 n)
noncomputable def c21_3 : Code := partA c21_1
noncomputable def c21_4 : Code := partB c21_3
noncomputable def c21_5 : Code := partA c21_4
noncomputable def c21_6 : Code := partA c21_5
noncomputable def k21_2 (n : Nat)  : Ex → St → Option (List CRes × List CVar) := blockK a21 0 (k21_1 n)
noncomputable def M21 (n : Nat) (u : Nat → Nat) : P21 → Option (List CRes × List CVar)
  | .F a0 => stepIn (fun A => codeK Γ (Φ21 n) a21 n (bodyOf f21) 0 A (k21_0 n)) (mkSt 18 18 [(0, (.val (.sh 44 (.pair I64 I64)) a0))] [])
  | .E0 x12 => stepIn ((k21_1 n) .normal) (mkSt 18 18 [(3, (iv x12))] [])
  | .L0 x7 x8 x9 x10 => stepIn (fun A => loopK Γ (Φ21 n) a21 n c21_6 0 (u 0) A (k21_2 n)) (mkSt 18 18 [(3, (iv x7)), (6, (.val (.sh 44 (.pair I64 I64)) x8)), (7, (iv x9)), (8, (iv x10))] [])
theorem h21 (n : Nat) (u : Nat → Nat) : ∀ p, (∀ i, 1 ≤ u i) → Ok1 (s21 n) e21 n (M21 n) u p
  | .F a0, _ => pl [] (at_code rfl ((codeK_seq (by kernel_rfl)).trans (by kernel_rfl)))
  | .E0 x12, _ => pl [] (by kernel_rfl)
  | .L0 x7 x8 x9 x10, hu => hd 0 [0] hu fun m hm => (loopK_at hm).trans ((codeK_seq (by kernel_rfl)).trans (by kernel_rfl))
noncomputable def p21 (n : Nat) (a0 : List (Int × Int)) : Option (Int) := flow (s21 n) n (.F a0)
theorem up21 {n m : Nat} (h : n ≤ m) (a0 : List (Int × Int)) : Up (p21 n a0) (p21 m a0) := flow_up (nat21 n) (us21 h) h _
noncomputable def E21 (n : Nat) : Entry := mkE 21 .flat [.tree (.sh 44 (.pair I64 I64))] [] (fun a b => p21 n a.1) e21
theorem ok21 (n : Nat) : EntryOk prog (E21 n) := mkE_ok (Φ := Φ21 n) (ann := a21) (n := n) (F := f21) (by kernel_rfl) (by kernel_rfl) (by kernel_rfl) (known_prog (known_cons (ok75 n) known_nil)) mixed fun a b y h =>
  (show _ = M21 n (fun _ => n) (.F a.1) by kernel_rfl).trans (flow_sound (nat21 n) (h21 n) n _ _ y (Nat.le_refl _) (fun _ => Nat.le_refl _) h)
/-! ### F103 horarium/runs.Add -/
noncomputable def a103 : Ann := { res := [I64] }
noncomputable def e103 (y : Int) : List CRes × List CVar := ([.v I64 y], [])
noncomputable def Φ103 (n : Nat) : Prog := Prog.of []
inductive P103 where
  | F (a0 a1 : Int)
noncomputable def s103 (n : Nat) (γ : Type) : P103 → (P103 → Option γ) → (Int → Option γ) → Option γ
  | .F a0 a1, k, r =>
    let u1 : Int := (w64 ((9223372036854775807 : Int) - (max (0 : Int) a1)))
    cond ((ltB u1 (max (0 : Int) a0))) (
      r (9223372036854775807 : Int)) (
      r (w64 ((max (0 : Int) a0) + (max (0 : Int) a1))))
theorem nat103 (n : Nat) : NatS (s103 n) := fun g p k r => by
  cases p <;> simp only [s103, bind_cond, bind_ite, Option.bind_assoc, Option.bind_none]
theorem us103 {n m : Nat} (h : n ≤ m) : UpS (s103 n) (s103 m) := fun γ p k r => by
  cases p <;> dsimp only [s103] <;> repeat' first | with_reducible exact up_rfl | apply up_cond | apply up_ite | apply up_bind | intro
noncomputable def k103_0 (n : Nat)  : Ex → St → Option (List CRes × List CVar) := finK' Γ f103 a103 0
noncomputable def M103 (n : Nat) (u : Nat → Nat) : P103 → Option (List CRes × List CVar)
  | .F a0 a1 => stepIn (fun A => codeK Γ (Φ103 n) a103 n (bodyOf f103) 0 A (k103_0 n)) (mkSt 16 16 [(0, (iv a0)), (1, (iv a1))] [])
theorem h103 (n : Nat) (u : Nat → Nat) : ∀ p, (∀ i, 1 ≤ u i) → Ok1 (s103 n) e103 n (M103 n) u p
  | .F a0 a1, _ => pl [] (at_code rfl ((codeK_seq (by kernel_rfl)).trans (by kernel_rfl)))
noncomputable def p103 (n : Nat) (a0 a1 : Int) : Option (Int) := flow (s103 n) n (.F a0 a1)
theorem up103 {n m : Nat} (h : n ≤ m) (a0 a1 : Int) : Up (p103 n a0 a1) (p103 m a0 a1) := flow_up (nat103 n) (us103 h) h _
noncomputable def E103 (n : Nat) : Entry := mkE 103 .flat [.tree I64, .tree I64] [] (fun a b => p103 n a.1 a.2.1) e103
theorem ok103 (n : Nat) : EntryOk prog (E103 n) := mkE_ok (Φ := Φ103 n) (ann := a103) (n := n) (F := f103) (by kernel_rfl) (by kernel_rfl) (by kernel_rfl) (known_prog known_nil) mixed fun a b y h =>
  (show _ = M103 n (fun _ => n) (.F a.1 a.2.1) by kernel_rfl).trans (flow_sound (nat103 n) (h103 n) n _ _ y (Nat.le_refl _) (fun _ => Nat.le_refl _) h)
/-! ### F80 horarium/bound.spans -/
noncomputable def a80 : Ann := { loops := [(0, { vars := [], sites := [5], slots := [(1, .keep), (5, .tree TyO112), (6, .keep), (10, .keep), (11, .keep), (12, .keep)] })], ends := [(0, { vars := [], sites := [5], slots := [(5, .tree TyO112)] })], res := [TyO112] }
noncomputable def e80 (y : List (Int × Int)) : List CRes × List CVar := ([.v TyO112 y], [])
noncomputable def Φ80 (n : Nat) : Prog := Prog.of [E103 n]
inductive P80 where
  | F (a0 : List (Int × Int)) (a1 : Int)
  | E0 (x18 : List (Int × Int))
  | L0 (x10 x11 : Int) (x12 : List (Int × Int)) (x13 x14 : Int) (x15 : List (Int × Int))
noncomputable def s80 (n : Nat) (γ : Type) : P80 → (P80 → Option γ) → ((List (Int × Int)) → Option γ) → Option γ
  | .F a0 a1, k, r =>
    k (.L0 a1 (0 : Int) a0 (List.length a0 : Int) (0 : Int) ([] : (List (Int × Int))))
  | .E0 x18, k, r =>
    r x18
  | .L0 x10 x11 x12 x13 x14 x15, k, r =>
    cond ((ltB x14 x13)) (
      if 0 ≤ x14 then (
      if x14 < (List.length x12 : Int) then (
      (p103 n x11 (List.getD x12 (Int.toNat x14) ((0 : Int), (0 : Int))).2).bind fun y16 =>
      let u17 : Bool := (eqB (List.getD x12 (Int.toNat x14) ((0 : Int), (0 : Int))).1 x10)
      cond (u17) (
        cond ((ltB x11 y16)) (
          if (List.length x15 + List.length [(x11, y16)]) * 16 ≤ 140737488355328 then (
          k (.L0 x10 y16 x12 x13 (w64 (x14 + (1 : Int))) (x15 ++ [(x11, y16)]))) else none) (
          k (.L0 x10 y16 x12 x13 (w64 (x14 + (1 : Int))) x15))) (
        k (.L0 x10 y16 x12 x13 (w64 (x14 + (1 : Int))) x15))) else none) else none) (
      k (.E0 x15))
theorem nat80 (n : Nat) : NatS (s80 n) := fun g p k r => by
  cases p <;> simp only [s80, bind_cond, bind_ite, Option.bind_assoc, Option.bind_none]
theorem us80 {n m : Nat} (h : n ≤ m) : UpS (s80 n) (s80 m) := fun γ p k r => by
  cases p <;> dsimp only [s80] <;> repeat' first | with_reducible exact up_rfl | apply up_cond | apply up_ite | apply up_bind | apply up103 h | intro
noncomputable def k80_0 (n : Nat)  : Ex → St → Option (List CRes × List CVar) := finK' Γ f80 a80 0
noncomputable def c80_0 : Code := partB (bodyOf f80)
noncomputable def c80_1 : Code := partB c80_0
noncomputable def c80_2 : Code := partB c80_1
noncomputable def c80_3 : Code := partB c80_2
noncomputable def k80_1 (n : Nat)  : Ex → St → Option (List CRes × List CVar) := seqK Γ (Φ80 n) a80 n c80_3 0 (k80_0 n)
noncomputable def c80_4 : Code := partA c80_2
noncomputable def c80_5 : Code := partB c80_4
noncomputable def c80_6 : Code := partA c80_5
noncomputable def c80_7 : Code := partA c80_6
noncomputable def k80_2 (n : Nat)  : Ex → St → Option (List CRes × List CVar) := blockK a80 0 (k80_1 n)
noncomputable def M80 (n : Nat) (u : Nat → Nat) : P80 → Option (List CRes × List CVar)
  | .F a0 a1 => stepIn (fun A => codeK Γ (Φ80 n) a80 n (bodyOf f80) 0 A (k80_0 n)) (mkSt 38 38 [(0, (.val (.sh 44 (.pair I64 I64)) a0)), (1, (iv a1))] [])
  | .E0 x18 => stepIn ((k80_1 n) .normal) (mkSt 38 38 [(5, (.ref 5 []))] [(5, .tmp TyO112 x18)])
  | .L0 x10 x11 x12 x13 x14 x15 => stepIn (fun A => loopK Γ (Φ80 n) a80 n c80_7 0 (u 0) A (k80_2 n)) (mkSt 38 38 [(1, (iv x10)), (5, (.ref 5 [])), (6, (iv x11)), (10, (.val (.sh 44 (.pair I64 I64)) x12)), (11, (iv x13)), (12, (iv x14))] [(5, .tmp TyO112 x15)])
theorem h80 (n : Nat) (u : Nat → Nat) : ∀ p, (∀ i, 1 ≤ u i) → Ok1 (s80 n) e80 n (M80 n) u p
  | .F a0 a1, _ => pl [] (at_code rfl ((codeK_seq (by kernel_rfl)).trans (by kernel_rfl)))
  | .E0 x18, _ => pl [] (by kernel_rfl)
  | .L0 x10 x11 x12 x13 x14 x15, hu => hd 0 [0] hu fun m hm => (loopK_at hm).trans ((codeK_seq (by kernel_rfl)).trans (by kernel_rfl))
noncomputable def p80 (n : Nat) (a0 : List (Int × Int)) (a1 : Int) : Option (List (Int × Int)) := flow (s80 n) n (.F a0 a1)
theorem up80 {n m : Nat} (h : n ≤ m) (a0 : List (Int × Int)) (a1 : Int) : Up (p80 n a0 a1) (p80 m a0 a1) := flow_up (nat80 n) (us80 h) h _
noncomputable def E80 (n : Nat) : Entry := mkE 80 .look [.tree (.sh 44 (.pair I64 I64)), .tree I64] [] (fun a b => p80 n a.1 a.2.1) e80
theorem ok80 (n : Nat) : EntryOk prog (E80 n) := mkE_ok (Φ := Φ80 n) (ann := a80) (n := n) (F := f80) (by kernel_rfl) (by kernel_rfl) (by kernel_rfl) (known_prog (known_cons (ok103 n) known_nil)) mixed fun a b y h =>
  (show _ = M80 n (fun _ => n) (.F a.1 a.2.1) by kernel_rfl).trans (flow_sound (nat80 n) (h80 n) n _ _ y (Nat.le_refl _) (fun _ => Nat.le_refl _) h)
/-! ### F58 horarium/runs.Length -/
noncomputable def a58 : Ann := { loops := [(0, { vars := [], sites := [], slots := [(3, .keep), (6, .keep), (7, .keep), (8, .keep)] })], ends := [(0, { vars := [], sites := [], slots := [(3, .keep)] })], res := [I64] }
noncomputable def e58 (y : Int) : List CRes × List CVar := ([.v I64 y], [])
noncomputable def Φ58 (n : Nat) : Prog := Prog.of [E103 n]
inductive P58 where
  | F (a0 : List (Int × Int))
  | E0 (x12 : Int)
  | L0 (x7 : Int) (x8 : List (Int × Int)) (x9 x10 : Int)
noncomputable def s58 (n : Nat) (γ : Type) : P58 → (P58 → Option γ) → (Int → Option γ) → Option γ
  | .F a0, k, r =>
    k (.L0 (0 : Int) a0 (List.length a0 : Int) (0 : Int))
  | .E0 x12, k, r =>
    r x12
  | .L0 x7 x8 x9 x10, k, r =>
    cond ((ltB x10 x9)) (
      if 0 ≤ x10 then (
      if x10 < (List.length x8 : Int) then (
      (p103 n x7 (List.getD x8 (Int.toNat x10) ((0 : Int), (0 : Int))).2).bind fun y11 =>
      k (.L0 y11 x8 x9 (w64 (x10 + (1 : Int))))) else none) else none) (
      k (.E0 x7))
theorem nat58 (n : Nat) : NatS (s58 n) := fun g p k r => by
  cases p <;> simp only [s58, bind_cond, bind_ite, Option.bind_assoc, Option.bind_none]
theorem us58 {n m : Nat} (h : n ≤ m) : UpS (s58 n) (s58 m) := fun γ p k r => by
  cases p <;> dsimp only [s58] <;> repeat' first | with_reducible exact up_rfl | apply up_cond | apply up_ite | apply up_bind | apply up103 h | intro
noncomputable def k58_0 (n : Nat)  : Ex → St → Option (List CRes × List CVar) := finK' Γ f58 a58 0
noncomputable def c58_0 : Code := partB (bodyOf f58)
noncomputable def c58_1 : Code := partB c58_0
noncomputable def c58_2 : Code := partB c58_1
noncomputable def k58_1 (n : Nat)  : Ex → St → Option (List CRes × List CVar) := seqK Γ (Φ58 n) a58 n c58_2 0 (k58_0 n)
noncomputable def c58_3 : Code := partA c58_1
noncomputable def c58_4 : Code := partB c58_3
noncomputable def c58_5 : Code := partA c58_4
noncomputable def c58_6 : Code := partA c58_5
noncomputable def k58_2 (n : Nat)  : Ex → St → Option (List CRes × List CVar) := blockK a58 0 (k58_1 n)
noncomputable def M58 (n : Nat) (u : Nat → Nat) : P58 → Option (List CRes × List CVar)
  | .F a0 => stepIn (fun A => codeK Γ (Φ58 n) a58 n (bodyOf f58) 0 A (k58_0 n)) (mkSt 18 18 [(0, (.val (.sh 44 (.pair I64 I64)) a0))] [])
  | .E0 x12 => stepIn ((k58_1 n) .normal) (mkSt 18 18 [(3, (iv x12))] [])
  | .L0 x7 x8 x9 x10 => stepIn (fun A => loopK Γ (Φ58 n) a58 n c58_6 0 (u 0) A (k58_2 n)) (mkSt 18 18 [(3, (iv x7)), (6, (.val (.sh 44 (.pair I64 I64)) x8)), (7, (iv x9)), (8, (iv x10))] [])
theorem h58 (n : Nat) (u : Nat → Nat) : ∀ p, (∀ i, 1 ≤ u i) → Ok1 (s58 n) e58 n (M58 n) u p
  | .F a0, _ => pl [] (at_code rfl ((codeK_seq (by kernel_rfl)).trans (by kernel_rfl)))
  | .E0 x12, _ => pl [] (by kernel_rfl)
  | .L0 x7 x8 x9 x10, hu => hd 0 [0] hu fun m hm => (loopK_at hm).trans ((codeK_seq (by kernel_rfl)).trans (by kernel_rfl))
noncomputable def p58 (n : Nat) (a0 : List (Int × Int)) : Option (Int) := flow (s58 n) n (.F a0)
theorem up58 {n m : Nat} (h : n ≤ m) (a0 : List (Int × Int)) : Up (p58 n a0) (p58 m a0) := flow_up (nat58 n) (us58 h) h _
noncomputable def E58 (n : Nat) : Entry := mkE 58 .flat [.tree (.sh 44 (.pair I64 I64))] [] (fun a b => p58 n a.1) e58
theorem ok58 (n : Nat) : EntryOk prog (E58 n) := mkE_ok (Φ := Φ58 n) (ann := a58) (n := n) (F := f58) (by kernel_rfl) (by kernel_rfl) (by kernel_rfl) (known_prog (known_cons (ok103 n) known_nil)) mixed fun a b y h =>
  (show _ = M58 n (fun _ => n) (.F a.1) by kernel_rfl).trans (flow_sound (nat58 n) (h58 n) n _ _ y (Nat.le_refl _) (fun _ => Nat.le_refl _) h)
/-! ### F133 horarium/bound.next -/
noncomputable def a133 : Ann := { loops := [(0, { vars := [], sites := [], slots := [(0, .keep), (1, .keep), (2, .keep), (9, .keep), (10, .keep), (11, .keep)] })], ends := [(0, { vars := [], sites := [], slots := [(0, .keep), (2, .keep)] })], res := [I64] }
noncomputable def e133 (y : Int) : List CRes × List CVar := ([.v I64 y], [])
noncomputable def Φ133 (n : Nat) : Prog := Prog.of []
inductive P133 where
  | F (a0 : List (Int × Int)) (a1 a2 : Int)
  | E0 (x19 : List (Int × Int)) (x20 : Int)
  | L0 (x11 : List (Int × Int)) (x12 x13 : Int) (x14 : List (Int × Int)) (x15 x16 : Int)
noncomputable def s133 (n : Nat) (γ : Type) : P133 → (P133 → Option γ) → (Int → Option γ) → Option γ
  | .F a0 a1 a2, k, r =>
    k (.L0 a0 a1 a2 a0 (List.length a0 : Int) (0 : Int))
  | .E0 x19 x20, k, r =>
    if 0 ≤ (0 : Int) then (
    if (0 : Int) < (List.length x19 : Int) then (
    let u21 : Int := (w64 (x20 + (List.getD x19 0 ((0 : Int), (0 : Int))).1))
    r u21) else none) else none
  | .L0 x11 x12 x13 x14 x15 x16, k, r =>
    cond ((ltB x16 x15)) (
      if 0 ≤ x16 then (
      if x16 < (List.length x14 : Int) then (
      let u17 : Bool := (ltB (w64 (x12 + (1 : Int))) (List.getD x14 (Int.toNat x16) ((0 : Int), (0 : Int))).2)
      cond (u17) (
        let u18 : Int := (max (w64 (x12 + (1 : Int))) (List.getD x14 (Int.toNat x16) ((0 : Int), (0 : Int))).1)
        r u18) (
        k (.L0 x11 x12 x13 x14 x15 (w64 (x16 + (1 : Int)))))) else none) else none) (
      k (.E0 x11 x13))
theorem nat133 (n : Nat) : NatS (s133 n) := fun g p k r => by
  cases p <;> simp only [s133, bind_cond, bind_ite, Option.bind_assoc, Option.bind_none]
theorem us133 {n m : Nat} (h : n ≤ m) : UpS (s133 n) (s133 m) := fun γ p k r => by
  cases p <;> dsimp only [s133] <;> repeat' first | with_reducible exact up_rfl | apply up_cond | apply up_ite | apply up_bind | intro
noncomputable def k133_0 (n : Nat)  : Ex → St → Option (List CRes × List CVar) := finK' Γ f133 a133 0
noncomputable def c133_0 : Code := partB (bodyOf f133)
noncomputable def c133_1 : Code := partB c133_0
noncomputable def k133_1 (n : Nat)  : Ex → St → Option (List CRes × List CVar) := seqK Γ (Φ133 n) a133 n c133_1 0 (k133_0 n)
noncomputable def c133_2 : Code := partA c133_0
noncomputable def c133_3 : Code := partB c133_2
noncomputable def c133_4 : Code := partA c133_3
noncomputable def c133_5 : Code := partA c133_4
noncomputable def k133_2 (n : Nat)  : Ex → St → Option (List CRes × List CVar) := blockK a133 0 (k133_1 n)
noncomputable def M133 (n : Nat) (u : Nat → Nat) : P133 → Option (List CRes × List CVar)
  | .F a0 a1 a2 => stepIn (fun A => codeK Γ (Φ133 n) a133 n (bodyOf f133) 0 A (k133_0 n)) (mkSt 32 32 [(0, (.val TyS112 a0)), (1, (iv a1)), (2, (iv a2))] [])
  | .E0 x19 x20 => stepIn ((k133_1 n) .normal) (mkSt 32 32 [(0, (.val TyS112 x19)), (2, (iv x20))] [])
  | .L0 x11 x12 x13 x14 x15 x16 => stepIn (fun A => loopK Γ (Φ133 n) a133 n c133_5 0 (u 0) A (k133_2 n)) (mkSt 32 32 [(0, (.val TyS112 x11)), (1, (iv x12)), (2, (iv x13)), (9, (.val TyS112 x14)), (10, (iv x15)), (11, (iv x16))] [])
theorem h133 (n : Nat) (u : Nat → Nat) : ∀ p, (∀ i, 1 ≤ u i) → Ok1 (s133 n) e133 n (M133 n) u p
  | .F a0 a1 a2, _ => pl [] (at_code rfl ((codeK_seq (by kernel_rfl)).trans (by kernel_rfl)))
  | .E0 x19 x20, _ => pl [] (by kernel_rfl)
  | .L0 x11 x12 x13 x14 x15 x16, hu => hd 0 [0] hu fun m hm => (loopK_at hm).trans ((codeK_seq (by kernel_rfl)).trans (by kernel_rfl))
noncomputable def p133 (n : Nat) (a0 : List (Int × Int)) (a1 a2 : Int) : Option (Int) := flow (s133 n) n (.F a0 a1 a2)
theorem up133 {n m : Nat} (h : n ≤ m) (a0 : List (Int × Int)) (a1 a2 : Int) : Up (p133 n a0 a1 a2) (p133 m a0 a1 a2) := flow_up (nat133 n) (us133 h) h _
noncomputable def E133 (n : Nat) : Entry := mkE 133 .flat [.tree TyS112, .tree I64, .tree I64] [] (fun a b => p133 n a.1 a.2.1 a.2.2.1) e133
theorem ok133 (n : Nat) : EntryOk prog (E133 n) := mkE_ok (Φ := Φ133 n) (ann := a133) (n := n) (F := f133) (by kernel_rfl) (by kernel_rfl) (by kernel_rfl) (known_prog known_nil) mixed fun a b y h =>
  (show _ = M133 n (fun _ => n) (.F a.1 a.2.1 a.2.2.1) by kernel_rfl).trans (flow_sound (nat133 n) (h133 n) n _ _ y (Nat.le_refl _) (fun _ => Nat.le_refl _) h)
/-! ### F76 horarium/bound.Late -/
noncomputable def a76 : Ann := { loops := [(1, { vars := [], sites := [8, 31], slots := [(8, .tree TyO112), (9, .keep), (10, .keep), (31, .tree TyO112), (32, .keep), (33, .keep)] }), (3, { vars := [], sites := [8, 31, 42], slots := [(8, .tree TyO112), (9, .keep), (10, .keep), (31, .tree TyO112), (32, .keep), (33, .keep), (42, .tree (.ow 2 I64)), (43, .keep), (44, .keep)] })], ends := [(1, { vars := [], sites := [], slots := [(10, .keep)] }), (3, { vars := [], sites := [8, 31], slots := [(8, .tree TyO112), (9, .keep), (10, .keep), (31, .tree TyO112), (32, .keep), (33, .keep)] })], heads := [(10, { vars := [], sites := [8, 31], slots := [(8, .tree TyO112), (9, .keep), (10, .keep), (31, .tree TyO112), (32, .keep), (33, .keep)] })], res := [I64] }
noncomputable def e76 (y : Int) : List CRes × List CVar := ([.v I64 y], [])
noncomputable def Φ76 (n : Nat) : Prog := Prog.of [E58 n, E80 n, E133 n]
inductive P76 where
  | F (a0 : List (Int × Int)) (a1 a2 : Int)
  | E1 (x92 : Int)
  | L1 (x86 x87 x88 x89 : Int) (x90 x91 : List (Int × Int))
  | E3 (x80 x81 x82 x83 : Int) (x84 x85 : List (Int × Int))
  | L3 (x69 x70 x71 x72 x73 x74 : Int) (x75 x76 : List (Int × Int)) (x77 : List Int)
  | Q10 (x48 x49 x50 x51 : Int) (x52 x53 : List (Int × Int))
noncomputable def s76 (n : Nat) (γ : Type) : P76 → (P76 → Option γ) → (Int → Option γ) → Option γ
  | .F a0 a1 a2, k, r =>
    (p80 n a0 a1).bind fun y1 =>
    (p80 n a0 a2).bind fun y2 =>
    cond ((eqB (List.length y1 : Int) (0 : Int))) (
      r (0 : Int)) (
      cond ((eqB (List.length y2 : Int) (0 : Int))) (
        r (-1 : Int)) (
        (p58 n a0).bind fun y3 =>
        k (.L1 y3 (0 : Int) (List.length y1 : Int) (0 : Int) y2 y1)))
  | .E1 x92, k, r =>
    r x92
  | .L1 x86 x87 x88 x89 x90 x91, k, r =>
    cond ((ltB x89 x88)) (
      k (.Q10 x86 x87 x88 x89 x90 x91)) (
      k (.E1 x87))
  | .E3 x80 x81 x82 x83 x84 x85, k, r =>
    k (.L1 x80 x81 x82 (w64 (x83 + (1 : Int))) x84 x85)
  | .L3 x69 x70 x71 x72 x73 x74 x75 x76 x77, k, r =>
    cond ((ltB x74 x73)) (
      if 0 ≤ x74 then (
      if x74 < (List.length x77 : Int) then (
      (p133 n x75 (List.getD x77 (Int.toNat x74) (0 : Int)) x69).bind fun y94 =>
      let u95 : Int := (w64 (y94 - (List.getD x77 (Int.toNat x74) (0 : Int))))
      k (.L3 x69 (max x70 u95) x71 x72 x73 (w64 (x74 + (1 : Int))) x75 x76 x77)) else none) else none) (
      k (.E3 x69 x70 x71 x72 x75 x76))
  | .Q10 x48 x49 x50 x51 x52 x53, k, r =>
    if 0 ≤ x51 then (
    if x51 < (List.length x53 : Int) then (
    let u93 : Int := (w64 ((List.getD x53 (Int.toNat x51) ((0 : Int), (0 : Int))).2 - (1 : Int)))
    k (.L3 x48 x49 x50 x51 (List.length [(List.getD x53 (Int.toNat x51) ((0 : Int), (0 : Int))).1, u93] : Int) (0 : Int) x52 x53 [(List.getD x53 (Int.toNat x51) ((0 : Int), (0 : Int))).1, u93])) else none) else none
theorem nat76 (n : Nat) : NatS (s76 n) := fun g p k r => by
  cases p <;> simp only [s76, bind_cond, bind_ite, Option.bind_assoc, Option.bind_none]
theorem us76 {n m : Nat} (h : n ≤ m) : UpS (s76 n) (s76 m) := fun γ p k r => by
  cases p <;> dsimp only [s76] <;> repeat' first | with_reducible exact up_rfl | apply up_cond | apply up_ite | apply up_bind | apply up58 h | apply up80 h | apply up133 h | intro
noncomputable def k76_0 (n : Nat)  : Ex → St → Option (List CRes × List CVar) := finK' Γ f76 a76 0
noncomputable def c76_0 : Code := partB (bodyOf f76)
noncomputable def c76_1 : Code := partB c76_0
noncomputable def c76_2 : Code := partB c76_1
noncomputable def c76_3 : Code := partB c76_2
noncomputable def c76_4 : Code := partB c76_3
noncomputable def c76_5 : Code := partB c76_4
noncomputable def k76_1 (n : Nat)  : Ex → St → Option (List CRes × List CVar) := seqK Γ (Φ76 n) a76 n c76_5 0 (k76_0 n)
noncomputable def c76_6 : Code := partA c76_4
noncomputable def c76_7 : Code := partB c76_6
noncomputable def c76_8 : Code := partA c76_7
noncomputable def c76_9 : Code := partA c76_8
noncomputable def k76_2 (n : Nat)  : Ex → St → Option (List CRes × List CVar) := blockK a76 1 (k76_1 n)
noncomputable def k76_3 (n : Nat) (u : Nat → Nat) : Ex → St → Option (List CRes × List CVar) := roundK Γ (Φ76 n) a76 n c76_9 1 (u 1) (k76_2 n)
noncomputable def c76_10 : Code := partB c76_9
noncomputable def c76_11 : Code := partB c76_10
noncomputable def c76_12 : Code := partB c76_11
noncomputable def k76_4 (n : Nat) (u : Nat → Nat) : Ex → St → Option (List CRes × List CVar) := seqK Γ (Φ76 n) a76 n c76_12 1 (k76_3 n u)
noncomputable def k76_5 (n : Nat) (u : Nat → Nat) : Ex → St → Option (List CRes × List CVar) := blockK a76 2 (k76_4 n u)
noncomputable def c76_13 : Code := partA c76_11
noncomputable def c76_14 : Code := partA c76_13
noncomputable def c76_15 : Code := partB c76_14
noncomputable def c76_16 : Code := partB c76_15
noncomputable def c76_17 : Code := partA c76_16
noncomputable def c76_18 : Code := partA c76_17
noncomputable def k76_6 (n : Nat) (u : Nat → Nat) : Ex → St → Option (List CRes × List CVar) := blockK a76 3 (k76_5 n u)
noncomputable def M76 (n : Nat) (u : Nat → Nat) : P76 → Option (List CRes × List CVar)
  | .F a0 a1 a2 => stepIn (fun A => codeK Γ (Φ76 n) a76 n (bodyOf f76) 0 A (k76_0 n)) (mkSt 59 59 [(0, (.val (.sh 44 (.pair I64 I64)) a0)), (1, (iv a1)), (2, (iv a2))] [])
  | .E1 x92 => stepIn ((k76_1 n) .normal) (mkSt 59 59 [(10, (iv x92))] [])
  | .L1 x86 x87 x88 x89 x90 x91 => stepIn (fun A => loopK Γ (Φ76 n) a76 n c76_9 1 (u 1) A (k76_2 n)) (mkSt 59 59 [(8, (.ref 8 [])), (9, (iv x86)), (10, (iv x87)), (31, (.ref 31 [])), (32, (iv x88)), (33, (iv x89))] [(8, .tmp TyO112 x90), (31, .tmp TyO112 x91)])
  | .E3 x80 x81 x82 x83 x84 x85 => stepIn ((k76_5 n u) .normal) (mkSt 59 59 [(8, (.ref 8 [])), (9, (iv x80)), (10, (iv x81)), (31, (.ref 31 [])), (32, (iv x82)), (33, (iv x83))] [(8, .tmp TyO112 x84), (31, .tmp TyO112 x85)])
  | .L3 x69 x70 x71 x72 x73 x74 x75 x76 x77 => stepIn (fun A => loopK Γ (Φ76 n) a76 n c76_18 3 (u 3) A (k76_6 n u)) (mkSt 59 59 [(8, (.ref 8 [])), (9, (iv x69)), (10, (iv x70)), (31, (.ref 31 [])), (32, (iv x71)), (33, (iv x72)), (42, (.ref 42 [])), (43, (iv x73)), (44, (iv x74))] [(8, .tmp TyO112 x75), (31, .tmp TyO112 x76), (42, .tmp (.ow 2 I64) x77)])
  | .Q10 x48 x49 x50 x51 x52 x53 => stepIn (fun A => codeK Γ (Φ76 n) a76 n c76_11 1 A (k76_3 n u)) (mkSt 59 59 [(8, (.ref 8 [])), (9, (iv x48)), (10, (iv x49)), (31, (.ref 31 [])), (32, (iv x50)), (33, (iv x51))] [(8, .tmp TyO112 x52), (31, .tmp TyO112 x53)])
theorem h76 (n : Nat) (u : Nat → Nat) : ∀ p, (∀ i, 1 ≤ u i) → Ok1 (s76 n) e76 n (M76 n) u p
  | .F a0 a1 a2, _ => pl [] (at_code rfl ((codeK_seq (by kernel_rfl)).trans (by kernel_rfl)))
  | .E1 x92, _ => pl [] (by kernel_rfl)
  | .L1 x86 x87 x88 x89 x90 x91, hu => hd 1 [1] hu fun m hm => (loopK_at hm).trans ((codeK_seq (by kernel_rfl)).trans (by kernel_rfl))
  | .E3 x80 x81 x82 x83 x84 x85, _ => pl [1] (by kernel_rfl)
  | .L3 x69 x70 x71 x72 x73 x74 x75 x76 x77, hu => hd 3 [1, 3] hu fun m hm => (loopK_at hm).trans ((codeK_seq (by kernel_rfl)).trans (by kernel_rfl))
  | .Q10 x48 x49 x50 x51 x52 x53, _ => pl [1] (at_code rfl ((codeK_seq (by kernel_rfl)).trans ((codeK_block 2 (by kernel_rfl)).trans ((codeK_seq (by kernel_rfl)).trans (by kernel_rfl)))))
noncomputable def p76 (n : Nat) (a0 : List (Int × Int)) (a1 a2 : Int) : Option (Int) := flow (s76 n) n (.F a0 a1 a2)
theorem up76 {n m : Nat} (h : n ≤ m) (a0 : List (Int × Int)) (a1 a2 : Int) : Up (p76 n a0 a1 a2) (p76 m a0 a1 a2) := flow_up (nat76 n) (us76 h) h _
noncomputable def E76 (n : Nat) : Entry := mkE 76 .flat [.tree (.sh 44 (.pair I64 I64)), .tree I64, .tree I64] [] (fun a b => p76 n a.1 a.2.1 a.2.2.1) e76
theorem ok76 (n : Nat) : EntryOk prog (E76 n) := mkE_ok (Φ := Φ76 n) (ann := a76) (n := n) (F := f76) (by kernel_rfl) (by kernel_rfl) (by kernel_rfl) (known_prog (known_cons (ok58 n) (known_cons (ok80 n) (known_cons (ok133 n) known_nil)))) mixed fun a b y h =>
  (show _ = M76 n (fun _ => n) (.F a.1 a.2.1 a.2.2.1) by kernel_rfl).trans (flow_sound (nat76 n) (h76 n) n _ _ y (Nat.le_refl _) (fun _ => Nat.le_refl _) h)
/-! ### F81 horarium/horariumref7.words -/
noncomputable def a81 : Ann := { loops := [(0, { vars := [], sites := [3], slots := [(3, .tree (.ow 3 I64)), (7, .keep), (8, .keep), (9, .keep)] }), (2, { vars := [], sites := [3, 5], slots := [(3, .tree (.ow 3 I64)), (5, .keep), (6, .keep), (7, .keep), (8, .keep), (9, .keep)] })], ends := [(0, { vars := [], sites := [3], slots := [(3, .tree (.ow 3 I64))] }), (2, { vars := [], sites := [3], slots := [(3, .tree (.ow 3 I64)), (7, .keep), (8, .keep), (9, .keep)] })], heads := [(4, { vars := [], sites := [3], slots := [(3, .tree (.ow 3 I64)), (7, .keep), (8, .keep), (9, .keep)] })], res := [(.ow 3 I64)] }
noncomputable def e81 (y : List Int) : List CRes × List CVar := ([.v (.ow 3 I64) y], [])
noncomputable def Φ81 (n : Nat) : Prog := Prog.of []
inductive P81 where
  | F (a0 : List (Int × Int))
  | E0 (x57 : List Int)
  | L0 (x53 : List (Int × Int)) (x54 x55 : Int) (x56 : List Int)
  | E2 (x49 : List (Int × Int)) (x50 x51 : Int) (x52 : List Int)
  | L2 (x42 : Int) (x43 : List (Int × Int)) (x44 x45 : Int) (x46 : List Int) (x47 x48 : Int)
  | Q4 (x29 : List (Int × Int)) (x30 x31 : Int) (x32 : List Int)
noncomputable def s81 (n : Nat) (γ : Type) : P81 → (P81 → Option γ) → ((List Int) → Option γ) → Option γ
  | .F a0, k, r =>
    k (.L0 a0 (List.length a0 : Int) (0 : Int) ([] : (List Int)))
  | .E0 x57, k, r =>
    r x57
  | .L0 x53 x54 x55 x56, k, r =>
    cond ((ltB x55 x54)) (
      k (.Q4 x53 x54 x55 x56)) (
      k (.E0 x56))
  | .E2 x49 x50 x51 x52, k, r =>
    k (.L0 x49 x50 (w64 (x51 + (1 : Int))) x52)
  | .L2 x42 x43 x44 x45 x46 x47 x48, k, r =>
    cond ((ltB x42 x48)) (
      cond ((ltB (List.length x46 : Int) (8192 : Int))) (
        if (List.length x46 + List.length [x47]) * 8 ≤ 140737488355328 then (
        k (.L2 (w64 (x42 + (1 : Int))) x43 x44 x45 (x46 ++ [x47]) x47 x48)) else none) (
        k (.E2 x43 x44 x45 x46))) (
      k (.E2 x43 x44 x45 x46))
  | .Q4 x29 x30 x31 x32, k, r =>
    if 0 ≤ x31 then (
    if x31 < (List.length x29 : Int) then (
    k (.L2 (0 : Int) x29 x30 x31 x32 (List.getD x29 (Int.toNat x31) ((0 : Int), (0 : Int))).1 (List.getD x29 (Int.toNat x31) ((0 : Int), (0 : Int))).2)) else none) else none
theorem nat81 (n : Nat) : NatS (s81 n) := fun g p k r => by
  cases p <;> simp only [s81, bind_cond, bind_ite, Option.bind_assoc, Option.bind_none]
theorem us81 {n m : Nat} (h : n ≤ m) : UpS (s81 n) (s81 m) := fun γ p k r => by
  cases p <;> dsimp only [s81] <;> repeat' first | with_reducible exact up_rfl | apply up_cond | apply up_ite | apply up_bind | intro
noncomputable def k81_0 (n : Nat)  : Ex → St → Option (List CRes × List CVar) := finK' Γ f81 a81 0
noncomputable def c81_0 : Code := partB (bodyOf f81)
noncomputable def c81_1 : Code := partB c81_0
noncomputable def c81_2 : Code := partB c81_1
noncomputable def k81_1 (n : Nat)  : Ex → St → Option (List CRes × List CVar) := seqK Γ (Φ81 n) a81 n c81_2 0 (k81_0 n)
noncomputable def c81_3 : Code := partA c81_1
noncomputable def c81_4 : Code := partB c81_3
noncomputable def c81_5 : Code := partA c81_4
noncomputable def c81_6 : Code := partA c81_5
noncomputable def k81_2 (n : Nat)  : Ex → St → Option (List CRes × List CVar) := blockK a81 0 (k81_1 n)
noncomputable def k81_3 (n : Nat) (u : Nat → Nat) : Ex → St → Option (List CRes × List CVar) := roundK Γ (Φ81 n) a81 n c81_6 0 (u 0) (k81_2 n)
noncomputable def c81_7 : Code := partB c81_6
noncomputable def c81_8 : Code := partB c81_7
noncomputable def c81_9 : Code := partB c81_8
noncomputable def k81_4 (n : Nat) (u : Nat → Nat) : Ex → St → Option (List CRes × List CVar) := seqK Γ (Φ81 n) a81 n c81_9 0 (k81_3 n u)
noncomputable def k81_5 (n : Nat) (u : Nat → Nat) : Ex → St → Option (List CRes × List CVar) := blockK a81 1 (k81_4 n u)
noncomputable def c81_10 : Code := partA c81_8
noncomputable def c81_11 : Code := partA c81_10
noncomputable def c81_12 : Code := partB c81_11
noncomputable def c81_13 : Code := partB c81_12
noncomputable def c81_14 : Code := partA c81_13
noncomputable def c81_15 : Code := partA c81_14
noncomputable def k81_6 (n : Nat) (u : Nat → Nat) : Ex → St → Option (List CRes × List CVar) := blockK a81 2 (k81_5 n u)
noncomputable def M81 (n : Nat) (u : Nat → Nat) : P81 → Option (List CRes × List CVar)
  | .F a0 => stepIn (fun A => codeK Γ (Φ81 n) a81 n (bodyOf f81) 0 A (k81_0 n)) (mkSt 31 31 [(0, (.val (.sh 44 (.pair I64 I64)) a0))] [])
  | .E0 x57 => stepIn ((k81_1 n) .normal) (mkSt 31 31 [(3, (.ref 3 []))] [(3, .tmp (.ow 3 I64) x57)])
  | .L0 x53 x54 x55 x56 => stepIn (fun A => loopK Γ (Φ81 n) a81 n c81_6 0 (u 0) A (k81_2 n)) (mkSt 31 31 [(3, (.ref 3 [])), (7, (.val (.sh 44 (.pair I64 I64)) x53)), (8, (iv x54)), (9, (iv x55))] [(3, .tmp (.ow 3 I64) x56)])
  | .E2 x49 x50 x51 x52 => stepIn ((k81_5 n u) .normal) (mkSt 31 31 [(3, (.ref 3 [])), (7, (.val (.sh 44 (.pair I64 I64)) x49)), (8, (iv x50)), (9, (iv x51))] [(3, .tmp (.ow 3 I64) x52)])
  | .L2 x42 x43 x44 x45 x46 x47 x48 => stepIn (fun A => loopK Γ (Φ81 n) a81 n c81_15 2 (u 2) A (k81_6 n u)) (mkSt 31 31 [(3, (.ref 3 [])), (5, (.ptr 5 [])), (6, (iv x42)), (7, (.val (.sh 44 (.pair I64 I64)) x43)), (8, (iv x44)), (9, (iv x45))] [(3, .tmp (.ow 3 I64) x46), (5, .var 44 (.pair I64 I64) (x47, x48))])
  | .Q4 x29 x30 x31 x32 => stepIn (fun A => codeK Γ (Φ81 n) a81 n c81_8 0 A (k81_3 n u)) (mkSt 31 31 [(3, (.ref 3 [])), (7, (.val (.sh 44 (.pair I64 I64)) x29)), (8, (iv x30)), (9, (iv x31))] [(3, .tmp (.ow 3 I64) x32)])
theorem h81 (n : Nat) (u : Nat → Nat) : ∀ p, (∀ i, 1 ≤ u i) → Ok1 (s81 n) e81 n (M81 n) u p
  | .F a0, _ => pl [] (at_code rfl ((codeK_seq (by kernel_rfl)).trans (by kernel_rfl)))
  | .E0 x57, _ => pl [] (by kernel_rfl)
  | .L0 x53 x54 x55 x56, hu => hd 0 [0] hu fun m hm => (loopK_at hm).trans ((codeK_seq (by kernel_rfl)).trans (by kernel_rfl))
  | .E2 x49 x50 x51 x52, _ => pl [0] (by kernel_rfl)
  | .L2 x42 x43 x44 x45 x46 x47 x48, hu => hd 2 [0, 2] hu fun m hm => (loopK_at hm).trans ((codeK_seq (by kernel_rfl)).trans ((codeK_seq (by kernel_rfl)).trans (by kernel_rfl)))
  | .Q4 x29 x30 x31 x32, _ => pl [0] (at_code rfl ((codeK_seq (by kernel_rfl)).trans ((codeK_block 1 (by kernel_rfl)).trans ((codeK_seq (by kernel_rfl)).trans (by kernel_rfl)))))
noncomputable def p81 (n : Nat) (a0 : List (Int × Int)) : Option (List Int) := flow (s81 n) n (.F a0)
theorem up81 {n m : Nat} (h : n ≤ m) (a0 : List (Int × Int)) : Up (p81 n a0) (p81 m a0) := flow_up (nat81 n) (us81 h) h _
noncomputable def E81 (n : Nat) : Entry := mkE 81 .look [.tree (.sh 44 (.pair I64 I64))] [] (fun a b => p81 n a.1) e81
theorem ok81 (n : Nat) : EntryOk prog (E81 n) := mkE_ok (Φ := Φ81 n) (ann := a81) (n := n) (F := f81) (by kernel_rfl) (by kernel_rfl) (by kernel_rfl) (known_prog known_nil) mixed fun a b y h =>
  (show _ = M81 n (fun _ => n) (.F a.1) by kernel_rfl).trans (flow_sound (nat81 n) (h81 n) n _ _ y (Nat.le_refl _) (fun _ => Nat.le_refl _) h)
/-! ### F77 horarium/horariumref7.Late -/
noncomputable def a77 : Ann := { loops := [(0, { vars := [], sites := [], slots := [(1, .keep), (2, .keep), (7, .keep), (8, .keep), (9, .keep), (10, .keep), (18, .keep), (19, .keep), (20, .keep)] }), (2, { vars := [], sites := [], slots := [(1, .keep), (2, .keep), (7, .keep), (8, .keep), (41, .keep), (42, .keep), (43, .keep)] }), (4, { vars := [], sites := [], slots := [(1, .keep), (2, .keep), (7, .keep), (8, .keep), (13, .keep), (15, .keep), (41, .keep), (42, .keep), (43, .keep)] })], ends := [(0, { vars := [], sites := [], slots := [(1, .keep), (2, .keep), (7, .keep), (8, .keep), (9, .keep), (10, .keep)] }), (2, { vars := [], sites := [], slots := [(8, .keep)] }), (4, { vars := [], sites := [], slots := [(1, .keep), (2, .keep), (7, .keep), (8, .keep), (15, .keep), (41, .keep), (42, .keep), (43, .keep)] })], heads := [(14, { vars := [], sites := [], slots := [(1, .keep), (2, .keep), (7, .keep), (8, .keep), (41, .keep), (42, .keep), (43, .keep)] })], acts := [((1, 1), (.sh 3 I64))], res := [I64] }
noncomputable def e77 (y : Int) : List CRes × List CVar := ([.v I64 y], [])
noncomputable def Φ77 (n : Nat) : Prog := Prog.of [E81 n]
inductive P77 where
  | F (a0 : List (Int × Int)) (a1 a2 : Int)
  | E0 (x20 x21 : Int) (x22 : List Int) (x23 : Int) (x24 x25 : Bool)
  | L0 (x11 x12 : Int) (x13 : List Int) (x14 : Int) (x15 x16 : Bool) (x17 : List Int) (x18 x19 : Int)
  | E2 (x112 : Int)
  | L2 (x105 x106 : Int) (x107 : List Int) (x108 : Int) (x109 : List Int) (x110 x111 : Int)
  | E4 (x97 x98 : Int) (x99 : List Int) (x100 x101 : Int) (x102 : List Int) (x103 x104 : Int)
  | L4 (x87 x88 : Int) (x89 : List Int) (x90 x91 x92 : Int) (x93 : List Int) (x94 x95 : Int)
  | Q14 (x69 x70 : Int) (x71 : List Int) (x72 : Int) (x73 : List Int) (x74 x75 : Int)
noncomputable def s77 (n : Nat) (γ : Type) : P77 → (P77 → Option γ) → (Int → Option γ) → Option γ
  | .F a0 a1 a2, k, r =>
    (p81 n a0).bind fun y1 =>
    k (.L0 a1 a2 y1 (0 : Int) false false y1 (List.length y1 : Int) (0 : Int))
  | .E0 x20 x21 x22 x23 x24 x25, k, r =>
    cond ((!x25)) (
      r (0 : Int)) (
      cond ((!x24)) (
        r (-1 : Int)) (
        k (.L2 x20 x21 x22 x23 x22 (List.length x22 : Int) (0 : Int))))
  | .L0 x11 x12 x13 x14 x15 x16 x17 x18 x19, k, r =>
    cond ((ltB x19 x18)) (
      if 0 ≤ x19 then (
      if x19 < (List.length x17 : Int) then (
      cond (x15) (
        cond (x16) (
          k (.L0 x11 x12 x13 x14 true true x17 x18 (w64 (x19 + (1 : Int))))) (
          k (.L0 x11 x12 x13 x14 true (eqB (List.getD x17 (Int.toNat x19) (0 : Int)) x11) x17 x18 (w64 (x19 + (1 : Int)))))) (
        cond (x16) (
          k (.L0 x11 x12 x13 x14 (eqB (List.getD x17 (Int.toNat x19) (0 : Int)) x12) true x17 x18 (w64 (x19 + (1 : Int))))) (
          k (.L0 x11 x12 x13 x14 (eqB (List.getD x17 (Int.toNat x19) (0 : Int)) x12) (eqB (List.getD x17 (Int.toNat x19) (0 : Int)) x11) x17 x18 (w64 (x19 + (1 : Int))))))) else none) else none) (
      k (.E0 x11 x12 x13 x14 x15 x16))
  | .E2 x112, k, r =>
    r x112
  | .L2 x105 x106 x107 x108 x109 x110 x111, k, r =>
    cond ((ltB x111 x110)) (
      k (.Q14 x105 x106 x107 x108 x109 x110 x111)) (
      k (.E2 x108))
  | .E4 x97 x98 x99 x100 x101 x102 x103 x104, k, r =>
    k (.L2 x97 x98 x99 (max x100 x101) x102 x103 (w64 (x104 + (1 : Int))))
  | .L4 x87 x88 x89 x90 x91 x92 x93 x94 x95, k, r =>
    if (List.length x89 : Int) = 0 then none else (
    let u113 : Int := (Int.tmod (w64 (x91 + x92)) (List.length x89 : Int))
    if 0 ≤ u113 then (
    if u113 < (List.length x89 : Int) then (
    cond ((!eqB (List.getD x89 (Int.toNat u113) (0 : Int)) x88)) (
      k (.L4 x87 x88 x89 x90 x91 (w64 (x92 + (1 : Int))) x93 x94 x95)) (
      k (.E4 x87 x88 x89 x90 x92 x93 x94 x95))) else none) else none)
  | .Q14 x69 x70 x71 x72 x73 x74 x75, k, r =>
    if 0 ≤ x75 then (
    if x75 < (List.length x73 : Int) then (
    cond ((!eqB (List.getD x73 (Int.toNat x75) (0 : Int)) x69)) (
      k (.L2 x69 x70 x71 x72 x73 x74 (w64 (x75 + (1 : Int))))) (
      k (.L4 x69 x70 x71 x72 x75 (1 : Int) x73 x74 x75))) else none) else none
theorem nat77 (n : Nat) : NatS (s77 n) := fun g p k r => by
  cases p <;> simp only [s77, bind_cond, bind_ite, Option.bind_assoc, Option.bind_none]
theorem us77 {n m : Nat} (h : n ≤ m) : UpS (s77 n) (s77 m) := fun γ p k r => by
  cases p <;> dsimp only [s77] <;> repeat' first | with_reducible exact up_rfl | apply up_cond | apply up_ite | apply up_bind | apply up81 h | intro
noncomputable def k77_0 (n : Nat)  : Ex → St → Option (List CRes × List CVar) := finK' Γ f77 a77 0
noncomputable def c77_0 : Code := partB (bodyOf f77)
noncomputable def c77_1 : Code := partB c77_0
noncomputable def c77_2 : Code := partB c77_1
noncomputable def c77_3 : Code := partB c77_2
noncomputable def k77_1 (n : Nat)  : Ex → St → Option (List CRes × List CVar) := seqK Γ (Φ77 n) a77 n c77_3 0 (k77_0 n)
noncomputable def c77_4 : Code := partA c77_2
noncomputable def c77_5 : Code := partB c77_4
noncomputable def c77_6 : Code := partA c77_5
noncomputable def c77_7 : Code := partA c77_6
noncomputable def k77_2 (n : Nat)  : Ex → St → Option (List CRes × List CVar) := blockK a77 0 (k77_1 n)
noncomputable def c77_8 : Code := partB c77_3
noncomputable def c77_9 : Code := partB c77_8
noncomputable def c77_10 : Code := partB c77_9
noncomputable def k77_3 (n : Nat)  : Ex → St → Option (List CRes × List CVar) := seqK Γ (Φ77 n) a77 n c77_10 0 (k77_0 n)
noncomputable def c77_11 : Code := partA c77_9
noncomputable def c77_12 : Code := partB c77_11
noncomputable def c77_13 : Code := partA c77_12
noncomputable def c77_14 : Code := partA c77_13
noncomputable def k77_4 (n : Nat)  : Ex → St → Option (List CRes × List CVar) := blockK a77 2 (k77_3 n)
noncomputable def k77_5 (n : Nat) (u : Nat → Nat) : Ex → St → Option (List CRes × List CVar) := roundK Γ (Φ77 n) a77 n c77_14 2 (u 2) (k77_4 n)
noncomputable def c77_15 : Code := partB c77_14
noncomputable def c77_16 : Code := partB c77_15
noncomputable def c77_17 : Code := partB c77_16
noncomputable def k77_6 (n : Nat) (u : Nat → Nat) : Ex → St → Option (List CRes × List CVar) := seqK Γ (Φ77 n) a77 n c77_17 2 (k77_5 n u)
noncomputable def k77_7 (n : Nat) (u : Nat → Nat) : Ex → St → Option (List CRes × List CVar) := blockK a77 3 (k77_6 n u)
noncomputable def c77_18 : Code := partA c77_16
noncomputable def c77_19 : Code := partA c77_18
noncomputable def c77_20 : Code := partB c77_19
noncomputable def c77_21 : Code := partB c77_20
noncomputable def c77_22 : Code := partB c77_21
noncomputable def c77_23 : Code := partB c77_22
noncomputable def k77_8 (n : Nat) (u : Nat → Nat) : Ex → St → Option (List CRes × List CVar) := seqK Γ (Φ77 n) a77 n c77_23 3 (k77_7 n u)
noncomputable def c77_24 : Code := partA c77_22
noncomputable def c77_25 : Code := partA c77_24
noncomputable def c77_26 : Code := partA c77_25
noncomputable def k77_9 (n : Nat) (u : Nat → Nat) : Ex → St → Option (List CRes × List CVar) := blockK a77 4 (k77_8 n u)
noncomputable def M77 (n : Nat) (u : Nat → Nat) : P77 → Option (List CRes × List CVar)
  | .F a0 a1 a2 => stepIn (fun A => codeK Γ (Φ77 n) a77 n (bodyOf f77) 0 A (k77_0 n)) (mkSt 69 69 [(0, (.val (.sh 44 (.pair I64 I64)) a0)), (1, (iv a1)), (2, (iv a2))] [])
  | .E0 x20 x21 x22 x23 x24 x25 => stepIn ((k77_1 n) .normal) (mkSt 69 69 [(1, (iv x20)), (2, (iv x21)), (7, (.val (.sh 3 I64) x22)), (8, (iv x23)), (9, (.val .bool x24)), (10, (.val .bool x25))] [])
  | .L0 x11 x12 x13 x14 x15 x16 x17 x18 x19 => stepIn (fun A => loopK Γ (Φ77 n) a77 n c77_7 0 (u 0) A (k77_2 n)) (mkSt 69 69 [(1, (iv x11)), (2, (iv x12)), (7, (.val (.sh 3 I64) x13)), (8, (iv x14)), (9, (.val .bool x15)), (10, (.val .bool x16)), (18, (.val (.sh 3 I64) x17)), (19, (iv x18)), (20, (iv x19))] [])
  | .E2 x112 => stepIn ((k77_3 n) .normal) (mkSt 69 69 [(8, (iv x112))] [])
  | .L2 x105 x106 x107 x108 x109 x110 x111 => stepIn (fun A => loopK Γ (Φ77 n) a77 n c77_14 2 (u 2) A (k77_4 n)) (mkSt 69 69 [(1, (iv x105)), (2, (iv x106)), (7, (.val (.sh 3 I64) x107)), (8, (iv x108)), (41, (.val (.sh 3 I64) x109)), (42, (iv x110)), (43, (iv x111))] [])
  | .E4 x97 x98 x99 x100 x101 x102 x103 x104 => stepIn ((k77_8 n u) .normal) (mkSt 69 69 [(1, (iv x97)), (2, (iv x98)), (7, (.val (.sh 3 I64) x99)), (8, (iv x100)), (15, (iv x101)), (41, (.val (.sh 3 I64) x102)), (42, (iv x103)), (43, (iv x104))] [])
  | .L4 x87 x88 x89 x90 x91 x92 x93 x94 x95 => stepIn (fun A => loopK Γ (Φ77 n) a77 n c77_26 4 (u 4) A (k77_9 n u)) (mkSt 69 69 [(1, (iv x87)), (2, (iv x88)), (7, (.val (.sh 3 I64) x89)), (8, (iv x90)), (13, (iv x91)), (15, (iv x92)), (41, (.val (.sh 3 I64) x93)), (42, (iv x94)), (43, (iv x95))] [])
  | .Q14 x69 x70 x71 x72 x73 x74 x75 => stepIn (fun A => codeK Γ (Φ77 n) a77 n c77_16 2 A (k77_5 n u)) (mkSt 69 69 [(1, (iv x69)), (2, (iv x70)), (7, (.val (.sh 3 I64) x71)), (8, (iv x72)), (41, (.val (.sh 3 I64) x73)), (42, (iv x74)), (43, (iv x75))] [])
theorem h77 (n : Nat) (u : Nat → Nat) : ∀ p, (∀ i, 1 ≤ u i) → Ok1 (s77 n) e77 n (M77 n) u p
  | .F a0 a1 a2, _ => pl [] (at_code rfl ((codeK_seq (by kernel_rfl)).trans (by kernel_rfl)))
  | .E0 x20 x21 x22 x23 x24 x25, _ => pl [] (by kernel_rfl)
  | .L0 x11 x12 x13 x14 x15 x16 x17 x18 x19, hu => hd 0 [0] hu fun m hm => (loopK_at hm).trans ((codeK_seq (by kernel_rfl)).trans (by kernel_rfl))
  | .E2 x112, _ => pl [] (by kernel_rfl)
  | .L2 x105 x106 x107 x108 x109 x110 x111, hu => hd 2 [2] hu fun m hm => (loopK_at hm).trans ((codeK_seq (by kernel_rfl)).trans (by kernel_rfl))
  | .E4 x97 x98 x99 x100 x101 x102 x103 x104, _ => pl [2] (by kernel_rfl)
  | .L4 x87 x88 x89 x90 x91 x92 x93 x94 x95, hu => hd 4 [2, 4] hu fun m hm => (loopK_at hm).trans ((codeK_seq (by kernel_rfl)).trans ((codeK_seq (by kernel_rfl)).trans (by kernel_rfl)))
  | .Q14 x69 x70 x71 x72 x73 x74 x75, _ => pl [2] (at_code rfl ((codeK_seq (by kernel_rfl)).trans ((codeK_block 3 (by kernel_rfl)).trans ((codeK_seq (by kernel_rfl)).trans (by kernel_rfl)))))
noncomputable def p77 (n : Nat) (a0 : List (Int × Int)) (a1 a2 : Int) : Option (Int) := flow (s77 n) n (.F a0 a1 a2)
theorem up77 {n m : Nat} (h : n ≤ m) (a0 : List (Int × Int)) (a1 a2 : Int) : Up (p77 n a0 a1 a2) (p77 m a0 a1 a2) := flow_up (nat77 n) (us77 h) h _
noncomputable def E77 (n : Nat) : Entry := mkE 77 .flat [.tree (.sh 44 (.pair I64 I64)), .tree I64, .tree I64] [] (fun a b => p77 n a.1 a.2.1 a.2.2.1) e77
theorem ok77 (n : Nat) : EntryOk prog (E77 n) := mkE_ok (Φ := Φ77 n) (ann := a77) (n := n) (F := f77) (by kernel_rfl) (by kernel_rfl) (by kernel_rfl) (known_prog (known_cons (ok81 n) known_nil)) mixed fun a b y h =>
  (show _ = M77 n (fun _ => n) (.F a.1 a.2.1 a.2.2.1) by kernel_rfl).trans (flow_sound (nat77 n) (h77 n) n _ _ y (Nat.le_refl _) (fun _ => Nat.le_refl _) h)
end Go.Am
