/- G20: functions as steps, printed by wip/tools/gen6.py. -/
import Derived.Test.YtebmpngnbnigcaaS1Tys
import Derived.Test.YtebmpngnbnigcaaG1
import Derived.Test.YtebmpngnbnigcaaG11
import Derived.Test.YtebmpngnbnigcaaG15
set_option linter.unusedVariables false
set_option linter.unusedSimpArgs false
set_option maxRecDepth 20000
set_option maxHeartbeats 0
namespace Go.Am
open Go.Proofs.Try
/-! ### F30 horarium/horariumlaw4.tape -/
noncomputable def a30 : Ann := { loops := [(0, { vars := [], sites := [3], slots := [(0, .keep), (3, .tree (.ow 3 I64)), (4, .keep)] })], ends := [(0, { vars := [], sites := [3], slots := [(3, .tree (.ow 3 I64))] })], res := [(.ow 3 I64)] }
noncomputable def e30 (y : List Int) : List CRes × List CVar := ([.v (.ow 3 I64) y], [])
noncomputable def Φ30 (n : Nat) : Prog := Prog.of []
inductive P30 where
  | F (a0 : Int)
  | E0 (x15 : List Int)
  | L0 (x9 x10 : Int) (x11 : List Int)
noncomputable def s30 (n : Nat) (γ : Type) : P30 → (P30 → Option γ) → ((List Int) → Option γ) → Option γ
  | .F a0, k, r =>
    k (.L0 a0 (0 : Int) ([] : (List Int)))
  | .E0 x15, k, r =>
    r x15
  | .L0 x9 x10 x11, k, r =>
    cond ((ltB x10 (400 : Int))) (
      let u12 : Int := (w64 ((w64 (x10 * x10)) * (7 : Int)))
      let u13 : Int := (w64 (u12 + (w64 (x9 * (29 : Int)))))
      let u14 : Int := (Int.tmod (w64 (u13 + (w64 (x10 * x9)))) (211 : Int))
      if (List.length x11 + List.length [u14]) * 8 ≤ 140737488355328 then (
      k (.L0 x9 (w64 (x10 + (1 : Int))) (x11 ++ [u14]))) else none) (
      k (.E0 x11))
theorem nat30 (n : Nat) : NatS (s30 n) := fun g p k r => by
  cases p <;> simp only [s30, bind_cond, bind_ite, bind_optK, Option.bind_assoc, Option.bind_none]
theorem us30 {n m : Nat} (h : n ≤ m) : UpS (s30 n) (s30 m) := fun γ p k r => by
  cases p <;> dsimp only [s30] <;> repeat' first | with_reducible exact up_rfl | apply up_cond | apply up_ite | apply up_bind | apply up_optK | intro
noncomputable def k30_0 (n : Nat)  : Ex → St → Option (List CRes × List CVar) := finK' Γ f30 a30 0
noncomputable def c30_0 : Code := partB (bodyOf f30)
noncomputable def c30_1 : Code := partB c30_0
noncomputable def c30_2 : Code := partB c30_1
noncomputable def k30_1 (n : Nat)  : Ex → St → Option (List CRes × List CVar) := seqK Γ (Φ30 n) a30 n c30_2 0 (k30_0 n)
noncomputable def c30_3 : Code := partA c30_1
noncomputable def c30_4 : Code := partB c30_3
noncomputable def c30_5 : Code := partA c30_4
noncomputable def c30_6 : Code := partA c30_5
noncomputable def k30_2 (n : Nat)  : Ex → St → Option (List CRes × List CVar) := blockK a30 0 (k30_1 n)
noncomputable def M30 (n : Nat) (u : Nat → Nat) : P30 → Option (List CRes × List CVar)
  | .F a0 => stepIn (fun A => codeK Γ (Φ30 n) a30 n (bodyOf f30) 0 A (k30_0 n)) (mkSt 25 25 [(0, (iv a0))] [])
  | .E0 x15 => stepIn ((k30_1 n) .normal) (mkSt 25 25 [(3, (.ref 3 []))] [(3, .tmp (.ow 3 I64) x15)])
  | .L0 x9 x10 x11 => stepIn (fun A => loopK Γ (Φ30 n) a30 n c30_6 0 (u 0) A (k30_2 n)) (mkSt 25 25 [(0, (iv x9)), (3, (.ref 3 [])), (4, (iv x10))] [(3, .tmp (.ow 3 I64) x11)])
theorem h30 (n : Nat) (u : Nat → Nat) : ∀ p, (∀ i, 1 ≤ u i) → Ok1 (s30 n) e30 n (M30 n) u p
  | .F a0, _ => pl [] (at_code rfl ((codeK_seq (by kernel_rfl)).trans (by kernel_rfl)))
  | .E0 x15, _ => pl [] (by kernel_rfl)
  | .L0 x9 x10 x11, hu => hd 0 [0] hu fun m hm => (loopK_at hm).trans ((codeK_seq (by kernel_rfl)).trans ((codeK_seq (by kernel_rfl)).trans (by kernel_rfl)))
noncomputable def p30 (n : Nat) (a0 : Int) : Option (List Int) := flow (s30 n) n (.F a0)
theorem up30 {n m : Nat} (h : n ≤ m) (a0 : Int) : Up (p30 n a0) (p30 m a0) := flow_up (nat30 n) (us30 h) h _
noncomputable def E30 (n : Nat) : Entry := mkE 30 .look [.tree I64] [] (fun a b => p30 n a.1) e30
theorem ok30 (n : Nat) : EntryOk prog (E30 n) := mkE_ok (Φ := Φ30 n) (ann := a30) (n := n) (F := f30) (by kernel_rfl) (by kernel_rfl) (by kernel_rfl) (known_prog known_nil) mixed fun a b y h =>
  (show _ = M30 n (fun _ => n) (.F a.1) by kernel_rfl).trans (flow_sound (nat30 n) (h30 n) n _ _ y (Nat.le_refl _) (fun _ => Nat.le_refl _) h)
/-! ### F5 horarium/horariumlaw4.CursorNumbers -/
noncomputable def a5 : Ann := { loops := [(0, { vars := [], sites := [], slots := [(1, .keep)] })], ends := [(0, { vars := [], sites := [], slots := [] })], acts := [((4, 2), (.pair (.sh 3 I64) I64))], res := [.bool] }
noncomputable def e5 (y : Bool) : List CRes × List CVar := ([.v .bool y], [])
noncomputable def Φ5 (n : Nat) : Prog := Prog.of [E30 n, E31 n, E32 n, E33 n, E34 n]
inductive P5 where
  | F 
  | E0 
  | L0 (x14 : Int)
noncomputable def s5 (n : Nat) (γ : Type) : P5 → (P5 → Option γ) → (Bool → Option γ) → Option γ
  | .F, k, r =>
    k (.L0 (0 : Int))
  | .E0, k, r =>
    (p32 n [((3 : Int), ((0 : Int), (1 : Int)))] ([] : (List Int))).bind fun y21 =>
    cond (y21) (
      (p33 n [((1 : Int), ((3 : Int), (2 : Int)))] (2 : Int)).bind fun y22 =>
      cond ((eqB y22 (-1 : Int))) (
        (p33 n [((1 : Int), ((3 : Int), (2 : Int)))] (-1 : Int)).bind fun y23 =>
        cond ((eqB y23 (-1 : Int))) (
          (p34 n).bind fun y24 =>
          r y24) (
          r false)) (
        r false)) (
      r false)
  | .L0 x14, k, r =>
    cond ((ltB x14 (40 : Int))) (
      (p30 n x14).bind fun y15 =>
      (p31 n (3 : Int) (Int.tmod x14 (5 : Int)) (y15, (0 : Int))).bind fun cy16 =>
      (p32 n cy16.1 ([] : (List Int))).bind fun y18 =>
      cond ((!y18)) (
        r false) (
        (p32 n cy16.1 (List.replicate (Int.toNat (300 : Int)) (0 : Int))).bind fun y19 =>
        cond ((!y19)) (
          r false) (
          (p32 n cy16.1 [(0 : Int), (1 : Int), (1 : Int), (0 : Int), (2 : Int), (0 : Int), (0 : Int), (1 : Int)]).bind fun y20 =>
          cond ((!y20)) (
            r false) (
            k (.L0 (w64 (x14 + (1 : Int)))))))) (
      k .E0)
theorem nat5 (n : Nat) : NatS (s5 n) := fun g p k r => by
  cases p <;> simp only [s5, bind_cond, bind_ite, bind_optK, Option.bind_assoc, Option.bind_none]
theorem us5 {n m : Nat} (h : n ≤ m) : UpS (s5 n) (s5 m) := fun γ p k r => by
  cases p <;> dsimp only [s5] <;> repeat' first | with_reducible exact up_rfl | apply up_cond | apply up_ite | apply up_bind | apply up_optK | apply up30 h | apply up31 h | apply up32 h | apply up33 h | apply up34 h | intro
noncomputable def k5_0 (n : Nat)  : Ex → St → Option (List CRes × List CVar) := finK' Γ f5 a5 0
noncomputable def c5_0 : Code := partB (bodyOf f5)
noncomputable def c5_1 : Code := partB c5_0
noncomputable def k5_1 (n : Nat)  : Ex → St → Option (List CRes × List CVar) := seqK Γ (Φ5 n) a5 n c5_1 0 (k5_0 n)
noncomputable def c5_2 : Code := partA c5_0
noncomputable def c5_3 : Code := partB c5_2
noncomputable def c5_4 : Code := partA c5_3
noncomputable def c5_5 : Code := partA c5_4
noncomputable def k5_2 (n : Nat)  : Ex → St → Option (List CRes × List CVar) := blockK a5 0 (k5_1 n)
noncomputable def M5 (n : Nat) (u : Nat → Nat) : P5 → Option (List CRes × List CVar)
  | .F => stepIn (fun A => codeK Γ (Φ5 n) a5 n (bodyOf f5) 0 A (k5_0 n)) (mkSt 47 47 [] [])
  | .E0 => stepIn ((k5_1 n) .normal) (mkSt 47 47 [] [])
  | .L0 x14 => stepIn (fun A => loopK Γ (Φ5 n) a5 n c5_5 0 (u 0) A (k5_2 n)) (mkSt 47 47 [(1, (iv x14))] [])
theorem h5 (n : Nat) (u : Nat → Nat) : ∀ p, (∀ i, 1 ≤ u i) → Ok1 (s5 n) e5 n (M5 n) u p
  | .F, _ => pl [] (at_code rfl ((codeK_seq (by kernel_rfl)).trans (by kernel_rfl)))
  | .E0, _ => pl [] (by kernel_rfl)
  | .L0 x14, hu => hd 0 [0] hu fun m hm => (loopK_at hm).trans ((codeK_seq (by kernel_rfl)).trans ((codeK_seq (by kernel_rfl)).trans (by kernel_rfl)))
noncomputable def p5 (n : Nat)  : Option (Bool) := flow (s5 n) n .F
theorem up5 {n m : Nat} (h : n ≤ m)  : Up (p5 n ) (p5 m ) := flow_up (nat5 n) (us5 h) h _
noncomputable def E5 (n : Nat) : Entry := mkE 5 .flat [] [] (fun a b => p5 n ) e5
theorem ok5 (n : Nat) : EntryOk prog (E5 n) := mkE_ok (Φ := Φ5 n) (ann := a5) (n := n) (F := f5) (by kernel_rfl) (by kernel_rfl) (by kernel_rfl) (known_prog (known_cons (ok30 n) (known_cons (ok31 n) (known_cons (ok32 n) (known_cons (ok33 n) (known_cons (ok34 n) known_nil)))))) mixed fun a b y h =>
  (show _ = M5 n (fun _ => n) (.F ) by kernel_rfl).trans (flow_sound (nat5 n) (h5 n) n _ _ y (Nat.le_refl _) (fun _ => Nat.le_refl _) h)
end Go.Am
