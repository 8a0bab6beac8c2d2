/- G11: functions as steps, printed by wip/tools/gen6.py. -/
import Derived.Test.YtebmpngnbnigcaaS1Tys
import Derived.Test.YtebmpngnbnigcaaG5
set_option linter.unusedVariables false
set_option linter.unusedSimpArgs false
set_option maxRecDepth 20000
set_option maxHeartbeats 0
namespace Go.Am
open Go.Proofs.Try
/-! ### F33 horarium/cursor.Part -/
noncomputable def a33 : Ann := { loops := [(0, { vars := [], sites := [9], slots := [(1, .keep), (5, .keep)] })], res := [I64] }
noncomputable def e33 (y : Int) : List CRes × List CVar := ([.v I64 y], [])
noncomputable def Φ33 (n : Nat) : Prog := Prog.of [E40 n, E43 n]
inductive P33 where
  | F (a0 : List (Int × (Int × Int))) (a1 : Int)
  | L0 (x14 : Int) (x15 : List (Int × (Int × Int))) (x16 : List (Int × Int)) (x17 x18 x19 : Int)
noncomputable def s33 (n : Nat) (γ : Type) : P33 → (P33 → Option γ) → (Int → Option γ) → Option γ
  | .F a0 a1, k, r =>
    (p40 n a0).bind fun oy1 => optK oy1 (
      r (-1 : Int)) (fun y1 =>
      cond ((ltB a1 (0 : Int))) (
        r (-1 : Int)) (
        k (.L0 a1 y1.1 y1.2.1 y1.2.2.1 y1.2.2.2.1 y1.2.2.2.2)))
  | .L0 x14 x15 x16 x17 x18 x19, k, r =>
    (p43 n (x15, (x16, (x17, (x18, x19))))).bind fun cy20 =>
    cond ((!cy20.2.1)) (
      r (-1 : Int)) (
      cond ((ltB x14 cy20.1.2)) (
        r cy20.1.1) (
        k (.L0 (w64 (x14 - cy20.1.2)) cy20.2.2.1 cy20.2.2.2.1 cy20.2.2.2.2.1 cy20.2.2.2.2.2.1 cy20.2.2.2.2.2.2)))
theorem nat33 (n : Nat) : NatS (s33 n) := fun g p k r => by
  cases p <;> simp only [s33, bind_cond, bind_ite, bind_optK, Option.bind_assoc, Option.bind_none]
theorem us33 {n m : Nat} (h : n ≤ m) : UpS (s33 n) (s33 m) := fun γ p k r => by
  cases p <;> dsimp only [s33] <;> repeat' first | with_reducible exact up_rfl | apply up_cond | apply up_ite | apply up_bind | apply up_optK | apply up40 h | apply up43 h | intro
noncomputable def k33_0 (n : Nat)  : Ex → St → Option (List CRes × List CVar) := finK' Γ f33 a33 0
noncomputable def c33_0 : Code := partB (bodyOf f33)
noncomputable def c33_1 : Code := partB c33_0
noncomputable def c33_2 : Code := partB c33_1
noncomputable def c33_3 : Code := partA c33_2
noncomputable def c33_4 : Code := partA c33_3
noncomputable def k33_1 (n : Nat)  : Ex → St → Option (List CRes × List CVar) := blockK a33 0 (k33_0 n)
noncomputable def M33 (n : Nat) (u : Nat → Nat) : P33 → Option (List CRes × List CVar)
  | .F a0 a1 => stepIn (fun A => codeK Γ (Φ33 n) a33 n (bodyOf f33) 0 A (k33_0 n)) (mkSt 35 35 [(0, (.val TyS38 a0)), (1, (iv a1))] [])
  | .L0 x14 x15 x16 x17 x18 x19 => stepIn (fun A => loopK Γ (Φ33 n) a33 n c33_4 0 (u 0) A (k33_1 n)) (mkSt 35 35 [(1, (iv x14)), (5, (.ptr 9 []))] [(9, .var 124 TyO123 (x15, (x16, (x17, (x18, x19)))))])
theorem h33 (n : Nat) (u : Nat → Nat) : ∀ p, (∀ i, 1 ≤ u i) → Ok1 (s33 n) e33 n (M33 n) u p
  | .F a0 a1, _ => pl [] (at_code rfl ((codeK_seq (by kernel_rfl)).trans (by kernel_rfl)))
  | .L0 x14 x15 x16 x17 x18 x19, hu => hd 0 [0] hu fun m hm => (loopK_at hm).trans ((codeK_block 1 (by kernel_rfl)).trans ((codeK_seq (by kernel_rfl)).trans (by kernel_rfl)))
noncomputable def p33 (n : Nat) (a0 : List (Int × (Int × Int))) (a1 : Int) : Option (Int) := flow (s33 n) n (.F a0 a1)
theorem up33 {n m : Nat} (h : n ≤ m) (a0 : List (Int × (Int × Int))) (a1 : Int) : Up (p33 n a0 a1) (p33 m a0 a1) := flow_up (nat33 n) (us33 h) h _
noncomputable def E33 (n : Nat) : Entry := mkE 33 .flat [.tree TyS38, .tree I64] [] (fun a b => p33 n a.1 a.2.1) e33
theorem ok33 (n : Nat) : EntryOk prog (E33 n) := mkE_ok (Φ := Φ33 n) (ann := a33) (n := n) (F := f33) (by kernel_rfl) (by kernel_rfl) (by kernel_rfl) (known_prog (known_cons (ok40 n) (known_cons (ok43 n) known_nil))) mixed fun a b y h =>
  (show _ = M33 n (fun _ => n) (.F a.1 a.2.1) by kernel_rfl).trans (flow_sound (nat33 n) (h33 n) n _ _ y (Nat.le_refl _) (fun _ => Nat.le_refl _) h)
/-! ### F44 (*horarium/cursor.Cursor).At -/
noncomputable def a44 : Ann := { res := [I64] }
noncomputable def e44 (y : Int × Vl123) : List CRes × List CVar := ([.v I64 y.1], [⟨124, TyO123, y.2⟩])
noncomputable def Φ44 (n : Nat) : Prog := Prog.of []
inductive P44 where
  | F (b0 : (List (Int × (Int × Int))) × ((List (Int × Int)) × (Int × (Int × Int))))
noncomputable def s44 (n : Nat) (γ : Type) : P44 → (P44 → Option γ) → ((Int × Vl123) → Option γ) → Option γ
  | .F b0, k, r =>
    r (b0.2.2.2.2, b0)
theorem nat44 (n : Nat) : NatS (s44 n) := fun g p k r => by
  cases p <;> simp only [s44, bind_cond, bind_ite, bind_optK, Option.bind_assoc, Option.bind_none]
theorem us44 {n m : Nat} (h : n ≤ m) : UpS (s44 n) (s44 m) := fun γ p k r => by
  cases p <;> dsimp only [s44] <;> repeat' first | with_reducible exact up_rfl | apply up_cond | apply up_ite | apply up_bind | apply up_optK | intro
noncomputable def k44_0 (n : Nat)  : Ex → St → Option (List CRes × List CVar) := finK' Γ f44 a44 1
noncomputable def M44 (n : Nat) (u : Nat → Nat) : P44 → Option (List CRes × List CVar)
  | .F b0 => stepIn (fun A => codeK Γ (Φ44 n) a44 n (bodyOf f44) 0 A (k44_0 n)) (mkSt 7 8 [(0, (.ptr 7 []))] [(7, .var 124 TyO123 b0)])
theorem h44 (n : Nat) (u : Nat → Nat) : ∀ p, (∀ i, 1 ≤ u i) → Ok1 (s44 n) e44 n (M44 n) u p
  | .F b0, _ => pl [] (at_code rfl ((codeK_seq (by kernel_rfl)).trans (by kernel_rfl)))
noncomputable def p44 (n : Nat) (b0 : (List (Int × (Int × Int))) × ((List (Int × Int)) × (Int × (Int × Int)))) : Option (Int × Vl123) := flow (s44 n) n (.F b0)
theorem up44 {n m : Nat} (h : n ≤ m) (b0 : (List (Int × (Int × Int))) × ((List (Int × Int)) × (Int × (Int × Int)))) : Up (p44 n b0) (p44 m b0) := flow_up (nat44 n) (us44 h) h _
noncomputable def E44 (n : Nat) : Entry := mkE 44 .move [.point] [(124, TyO123)] (fun a b => p44 n b.1) e44
theorem ok44 (n : Nat) : EntryOk prog (E44 n) := mkE_ok (Φ := Φ44 n) (ann := a44) (n := n) (F := f44) (by kernel_rfl) (by kernel_rfl) (by kernel_rfl) (known_prog known_nil) mixed fun a b y h =>
  (show _ = M44 n (fun _ => n) (.F b.1) by kernel_rfl).trans (flow_sound (nat44 n) (h44 n) n _ _ y (Nat.le_refl _) (fun _ => Nat.le_refl _) h)
/-! ### F41 (*horarium/cursor.Cursor).Tick -/
noncomputable def a41 : Ann := { draws := [(1, { order := [0, 1, 2, 3, 4, 5, 6, 7, 8, 9] }), (3, { order := [0, 1, 2, 3, 4, 5, 6, 7, 8, 9, 10, 11], touch := [(10, [])] }), (6, { order := [0, 1, 2, 3, 4, 5, 6, 7, 8, 9, 10, 11, 12, 13, 14, 15] })], res := [I64, .bool] }
noncomputable def e41 (y : Int × Bool × Vl123) : List CRes × List CVar := ([.v I64 y.1, .v .bool y.2.1], [⟨124, TyO123, y.2.2⟩])
noncomputable def Φ41 (n : Nat) : Prog := Prog.of [E89 n, E90 n]
inductive P41 where
  | F (b0 : (List (Int × (Int × Int))) × ((List (Int × Int)) × (Int × (Int × Int))))
noncomputable def s41 (n : Nat) (γ : Type) : P41 → (P41 → Option γ) → ((Int × Bool × Vl123) → Option γ) → Option γ
  | .F b0, k, r =>
    cond ((leB (List.length b0.1 : Int) b0.2.2.1)) (
      r ((-1 : Int), false, b0)) (
      if 0 ≤ b0.2.2.1 then (
      if b0.2.2.1 < (List.length b0.1 : Int) then (
      (p89 n (List.getD b0.1 (Int.toNat b0.2.2.1) ((0 : Int), ((0 : Int), (0 : Int))))).bind fun y1 =>
      if 0 ≤ b0.2.2.1 then (
      if b0.2.2.1 < (List.length b0.1 : Int) then (
      let u2 : Bool := (eqB (w64 (b0.2.2.2.1 + (1 : Int))) (List.getD b0.1 (Int.toNat b0.2.2.1) ((0 : Int), ((0 : Int), (0 : Int)))).2.2)
      cond (u2) (
        (p90 n (b0.1, (b0.2.1, (b0.2.2.1, ((w64 (b0.2.2.2.1 + (1 : Int))), (w64 (b0.2.2.2.2 + (1 : Int)))))))).bind fun w3 =>
        r (y1, true, w3)) (
        r (y1, true, (b0.1, (b0.2.1, (b0.2.2.1, ((w64 (b0.2.2.2.1 + (1 : Int))), (w64 (b0.2.2.2.2 + (1 : Int)))))))))) else none) else none) else none) else none)
theorem nat41 (n : Nat) : NatS (s41 n) := fun g p k r => by
  cases p <;> simp only [s41, bind_cond, bind_ite, bind_optK, Option.bind_assoc, Option.bind_none]
theorem us41 {n m : Nat} (h : n ≤ m) : UpS (s41 n) (s41 m) := fun γ p k r => by
  cases p <;> dsimp only [s41] <;> repeat' first | with_reducible exact up_rfl | apply up_cond | apply up_ite | apply up_bind | apply up_optK | apply up89 h | apply up90 h | intro
noncomputable def k41_0 (n : Nat)  : Ex → St → Option (List CRes × List CVar) := finK' Γ f41 a41 1
noncomputable def M41 (n : Nat) (u : Nat → Nat) : P41 → Option (List CRes × List CVar)
  | .F b0 => stepIn (fun A => codeK Γ (Φ41 n) a41 n (bodyOf f41) 0 A (k41_0 n)) (mkSt 59 60 [(0, (.ptr 59 []))] [(59, .var 124 TyO123 b0)])
theorem h41 (n : Nat) (u : Nat → Nat) : ∀ p, (∀ i, 1 ≤ u i) → Ok1 (s41 n) e41 n (M41 n) u p
  | .F b0, _ => pl [] (at_code rfl ((codeK_seq (by kernel_rfl)).trans (by kernel_rfl)))
noncomputable def p41 (n : Nat) (b0 : (List (Int × (Int × Int))) × ((List (Int × Int)) × (Int × (Int × Int)))) : Option (Int × Bool × Vl123) := flow (s41 n) n (.F b0)
theorem up41 {n m : Nat} (h : n ≤ m) (b0 : (List (Int × (Int × Int))) × ((List (Int × Int)) × (Int × (Int × Int)))) : Up (p41 n b0) (p41 m b0) := flow_up (nat41 n) (us41 h) h _
noncomputable def E41 (n : Nat) : Entry := mkE 41 .move [.point] [(124, TyO123)] (fun a b => p41 n b.1) e41
theorem ok41 (n : Nat) : EntryOk prog (E41 n) := mkE_ok (Φ := Φ41 n) (ann := a41) (n := n) (F := f41) (by kernel_rfl) (by kernel_rfl) (by kernel_rfl) (known_prog (known_cons (ok89 n) (known_cons (ok90 n) known_nil))) mixed fun a b y h =>
  (show _ = M41 n (fun _ => n) (.F b.1) by kernel_rfl).trans (flow_sound (nat41 n) (h41 n) n _ _ y (Nat.le_refl _) (fun _ => Nat.le_refl _) h)
/-! ### F34 horarium/horariumlaw4.known -/
noncomputable def a34 : Ann := { res := [.bool] }
noncomputable def Φ34 (n : Nat) : Prog := Prog.of [E33 n, E40 n, E41 n, E43 n, E44 n]
noncomputable def p34 (n : Nat) : Option Bool := some true
theorem up34 {n m : Nat} (h : n ≤ m) : Up (p34 n) (p34 m) := up_rfl
noncomputable def E34 (n : Nat) : Entry := mkE 34 .flat [] [] (fun _ _ => p34 n) (fun y => ([.v .bool y], []))
theorem ok34 (n : Nat) : EntryOk prog (E34 n) := mkE_ok (Φ := Φ34 1000) (ann := a34) (n := 1000) (F := f34) (by kernel_rfl) (by kernel_rfl) (by kernel_rfl) (known_prog (known_cons (ok33 1000) (known_cons (ok40 1000) (known_cons (ok41 1000) (known_cons (ok43 1000) (known_cons (ok44 1000) known_nil)))))) mixed fun _ _ y h => Option.some.inj h ▸ (show den Γ (Φ34 1000) a34 f34 1000 [] [] = some ([.v .bool true], []) by kernel_rfl)
end Go.Am
