/- B2: pure meanings of functions, printed by wip/tools/gen5.py. -/
import Derived.Test.YtebmpngnbnigcaaS1Tys
import Derived.Test.YtebmpngnbnigcaaB1
set_option linter.unusedVariables false
set_option linter.unusedSimpArgs false
set_option maxRecDepth 20000
set_option maxHeartbeats 0
namespace Go.Am
open Go.Proofs.Try
/-! ### F23 horarium/bound.Budget -/
noncomputable def a23 : Ann := { loops := [(0, { vars := [], sites := [], slots := [(2, .keep), (7, .keep), (8, .keep), (9, .keep), (10, .keep)] }), (2, { vars := [], sites := [], slots := [(2, .keep), (7, .keep), (8, .keep), (9, .keep), (10, .keep), (11, .keep), (38, .keep), (39, .keep), (40, .keep)] })], ends := [(0, { vars := [], sites := [], slots := [(9, .keep)] }), (2, { vars := [], sites := [], slots := [(2, .keep), (7, .keep), (8, .keep), (9, .keep), (10, .keep), (11, .keep)] })], heads := [(9, { vars := [], sites := [], slots := [(2, .keep), (7, .keep), (8, .keep), (9, .keep), (10, .keep)] })], acts := [((4, 2), TyS112)], res := [I64] }
noncomputable def e23 (y : Int) : List CRes × List CVar := ([.v I64 y], [])
noncomputable def Φ23 (n : Nat) : Prog := Prog.of [E58 n, E80 n]
inductive P23 where
  | F (a0 : List (Int × Int)) (a1 a2 : Int)
  | E0 (x87 : Int)
  | L0 (x82 x83 : Int) (x84 : List (Int × Int)) (x85 x86 : Int)
  | E2 (x76 x77 : Int) (x78 : List (Int × Int)) (x79 x80 x81 : Int)
  | L2 (x64 x65 : Int) (x66 : List (Int × Int)) (x67 x68 x69 : Int) (x70 : List (Int × Int)) (x71 x72 : Int)
  | Q9 (x45 x46 : Int) (x47 : List (Int × Int)) (x48 x49 : Int)
noncomputable def s23 (n : Nat) (γ : Type) : P23 → (P23 → Option γ) → (Int → Option γ) → Option γ
  | .F a0 a1 a2, k, r =>
    (p58 n a0).bind fun y1 =>
    cond ((ltB a2 (1 : Int))) (
      r (-1 : Int)) (
      cond ((eqB y1 (0 : Int))) (
        r (-1 : Int)) (
        if a2 = 0 then none else (
        cond ((!eqB (Int.tmod y1 a2) (0 : Int))) (
          r (-1 : Int)) (
          (p80 n a0 a1).bind fun y2 =>
          k (.L0 a2 y1 y2 a2 (0 : Int))))))
  | .E0 x87, k, r =>
    r x87
  | .L0 x82 x83 x84 x85 x86, k, r =>
    cond ((ltB x86 x83)) (
      k (.Q9 x82 x83 x84 x85 x86)) (
      k (.E0 x85))
  | .E2 x76 x77 x78 x79 x80 x81, k, r =>
    k (.L0 x76 x77 x78 (min x79 x81) (w64 (x80 + x76)))
  | .L2 x64 x65 x66 x67 x68 x69 x70 x71 x72, k, r =>
    cond ((ltB x72 x71)) (
      if 0 ≤ x72 then (
      if x72 < (List.length x70 : Int) then (
      let u88 : Int := (min (List.getD x70 (Int.toNat x72) ((0 : Int), (0 : Int))).2 (w64 (x68 + x64)))
      let u89 : Int := (max (List.getD x70 (Int.toNat x72) ((0 : Int), (0 : Int))).1 x68)
      let u90 : Int := (w64 (x69 + (max (0 : Int) (w64 (u88 - u89)))))
      k (.L2 x64 x65 x66 x67 x68 u90 x70 x71 (w64 (x72 + (1 : Int))))) else none) else none) (
      k (.E2 x64 x65 x66 x67 x68 x69))
  | .Q9 x45 x46 x47 x48 x49, k, r =>
    k (.L2 x45 x46 x47 x48 x49 (0 : Int) x47 (List.length x47 : Int) (0 : Int))
theorem nat23 (n : Nat) : NatS (s23 n) := fun g p k r => by
  cases p <;> simp only [s23, bind_cond, bind_ite, Option.bind_assoc, Option.bind_none]
theorem us23 {n m : Nat} (h : n ≤ m) : UpS (s23 n) (s23 m) := fun γ p k r => by
  cases p <;> dsimp only [s23] <;> repeat' first | with_reducible exact up_rfl | apply up_cond | apply up_ite | apply up_bind | apply up58 h | apply up80 h | intro
noncomputable def k23_0 (n : Nat)  : Ex → St → Option (List CRes × List CVar) := finK' Γ f23 a23 0
noncomputable def c23_0 : Code := partB (bodyOf f23)
noncomputable def c23_1 : Code := partB c23_0
noncomputable def c23_2 : Code := partB c23_1
noncomputable def c23_3 : Code := partB c23_2
noncomputable def c23_4 : Code := partB c23_3
noncomputable def c23_5 : Code := partB c23_4
noncomputable def k23_1 (n : Nat)  : Ex → St → Option (List CRes × List CVar) := seqK Γ (Φ23 n) a23 n c23_5 0 (k23_0 n)
noncomputable def c23_6 : Code := partA c23_4
noncomputable def c23_7 : Code := partB c23_6
noncomputable def c23_8 : Code := partA c23_7
noncomputable def c23_9 : Code := partA c23_8
noncomputable def k23_2 (n : Nat)  : Ex → St → Option (List CRes × List CVar) := blockK a23 0 (k23_1 n)
noncomputable def k23_3 (n : Nat) (u : Nat → Nat) : Ex → St → Option (List CRes × List CVar) := roundK Γ (Φ23 n) a23 n c23_9 0 (u 0) (k23_2 n)
noncomputable def c23_10 : Code := partB c23_9
noncomputable def c23_11 : Code := partB c23_10
noncomputable def k23_4 (n : Nat) (u : Nat → Nat) : Ex → St → Option (List CRes × List CVar) := seqK Γ (Φ23 n) a23 n c23_11 0 (k23_3 n u)
noncomputable def k23_5 (n : Nat) (u : Nat → Nat) : Ex → St → Option (List CRes × List CVar) := blockK a23 1 (k23_4 n u)
noncomputable def c23_12 : Code := partA c23_10
noncomputable def c23_13 : Code := partA c23_12
noncomputable def c23_14 : Code := partB c23_13
noncomputable def c23_15 : Code := partB c23_14
noncomputable def k23_6 (n : Nat) (u : Nat → Nat) : Ex → St → Option (List CRes × List CVar) := seqK Γ (Φ23 n) a23 n c23_15 1 (k23_5 n u)
noncomputable def c23_16 : Code := partA c23_14
noncomputable def c23_17 : Code := partB c23_16
noncomputable def c23_18 : Code := partA c23_17
noncomputable def c23_19 : Code := partA c23_18
noncomputable def k23_7 (n : Nat) (u : Nat → Nat) : Ex → St → Option (List CRes × List CVar) := blockK a23 2 (k23_6 n u)
noncomputable def M23 (n : Nat) (u : Nat → Nat) : P23 → Option (List CRes × List CVar)
  | .F a0 a1 a2 => stepIn (fun A => codeK Γ (Φ23 n) a23 n (bodyOf f23) 0 A (k23_0 n)) (mkSt 63 63 [(0, (.val (.sh 44 (.pair I64 I64)) a0)), (1, (iv a1)), (2, (iv a2))] [])
  | .E0 x87 => stepIn ((k23_1 n) .normal) (mkSt 63 63 [(9, (iv x87))] [])
  | .L0 x82 x83 x84 x85 x86 => stepIn (fun A => loopK Γ (Φ23 n) a23 n c23_9 0 (u 0) A (k23_2 n)) (mkSt 63 63 [(2, (iv x82)), (7, (iv x83)), (8, (.val TyS112 x84)), (9, (iv x85)), (10, (iv x86))] [])
  | .E2 x76 x77 x78 x79 x80 x81 => stepIn ((k23_6 n u) .normal) (mkSt 63 63 [(2, (iv x76)), (7, (iv x77)), (8, (.val TyS112 x78)), (9, (iv x79)), (10, (iv x80)), (11, (iv x81))] [])
  | .L2 x64 x65 x66 x67 x68 x69 x70 x71 x72 => stepIn (fun A => loopK Γ (Φ23 n) a23 n c23_19 2 (u 2) A (k23_7 n u)) (mkSt 63 63 [(2, (iv x64)), (7, (iv x65)), (8, (.val TyS112 x66)), (9, (iv x67)), (10, (iv x68)), (11, (iv x69)), (38, (.val TyS112 x70)), (39, (iv x71)), (40, (iv x72))] [])
  | .Q9 x45 x46 x47 x48 x49 => stepIn (fun A => codeK Γ (Φ23 n) a23 n c23_10 0 A (k23_3 n u)) (mkSt 63 63 [(2, (iv x45)), (7, (iv x46)), (8, (.val TyS112 x47)), (9, (iv x48)), (10, (iv x49))] [])
theorem h23 (n : Nat) (u : Nat → Nat) : ∀ p, (∀ i, 1 ≤ u i) → Ok1 (s23 n) e23 n (M23 n) u p
  | .F a0 a1 a2, _ => pl [] (at_code rfl ((codeK_seq (by kernel_rfl)).trans (by kernel_rfl)))
  | .E0 x87, _ => pl [] (by kernel_rfl)
  | .L0 x82 x83 x84 x85 x86, hu => hd 0 [0] hu fun m hm => (loopK_at hm).trans ((codeK_seq (by kernel_rfl)).trans ((codeK_seq (by kernel_rfl)).trans (by kernel_rfl)))
  | .E2 x76 x77 x78 x79 x80 x81, _ => pl [0] (by kernel_rfl)
  | .L2 x64 x65 x66 x67 x68 x69 x70 x71 x72, hu => hd 2 [0, 2] hu fun m hm => (loopK_at hm).trans ((codeK_seq (by kernel_rfl)).trans (by kernel_rfl))
  | .Q9 x45 x46 x47 x48 x49, _ => pl [0] (at_code rfl ((codeK_seq (by kernel_rfl)).trans ((codeK_block 1 (by kernel_rfl)).trans ((codeK_seq (by kernel_rfl)).trans (by kernel_rfl)))))
noncomputable def p23 (n : Nat) (a0 : List (Int × Int)) (a1 a2 : Int) : Option (Int) := flow (s23 n) n (.F a0 a1 a2)
theorem up23 {n m : Nat} (h : n ≤ m) (a0 : List (Int × Int)) (a1 a2 : Int) : Up (p23 n a0 a1 a2) (p23 m a0 a1 a2) := flow_up (nat23 n) (us23 h) h _
noncomputable def E23 (n : Nat) : Entry := mkE 23 .flat [.tree (.sh 44 (.pair I64 I64)), .tree I64, .tree I64] [] (fun a b => p23 n a.1 a.2.1 a.2.2.1) e23
theorem ok23 (n : Nat) : EntryOk prog (E23 n) := mkE_ok (Φ := Φ23 n) (ann := a23) (n := n) (F := f23) (by kernel_rfl) (by kernel_rfl) (by kernel_rfl) (known_prog (known_cons (ok58 n) (known_cons (ok80 n) known_nil))) mixed fun a b y h =>
  (show _ = M23 n (fun _ => n) (.F a.1 a.2.1 a.2.2.1) by kernel_rfl).trans (flow_sound (nat23 n) (h23 n) n _ _ y (Nat.le_refl _) (fun _ => Nat.le_refl _) h)
/-! ### F24 horarium/horariumref7.Budget -/
noncomputable def a24 : Ann := { loops := [(0, { vars := [], sites := [], slots := [(1, .keep), (2, .keep), (7, .keep), (8, .keep), (9, .keep)] }), (2, { vars := [], sites := [], slots := [(1, .keep), (2, .keep), (7, .keep), (8, .keep), (9, .keep), (10, .keep), (43, .keep), (44, .keep), (45, .keep)] })], ends := [(0, { vars := [], sites := [], slots := [(8, .keep)] }), (2, { vars := [], sites := [], slots := [(1, .keep), (2, .keep), (7, .keep), (8, .keep), (9, .keep), (10, .keep)] })], heads := [(8, { vars := [], sites := [], slots := [(1, .keep), (2, .keep), (7, .keep), (8, .keep), (9, .keep)] })], acts := [((1, 1), (.sh 3 I64))], res := [I64] }
noncomputable def e24 (y : Int) : List CRes × List CVar := ([.v I64 y], [])
noncomputable def Φ24 (n : Nat) : Prog := Prog.of [E81 n]
inductive P24 where
  | F (a0 : List (Int × Int)) (a1 a2 : Int)
  | E0 (x72 : Int)
  | L0 (x67 x68 : Int) (x69 : List Int) (x70 x71 : Int)
  | E2 (x61 x62 : Int) (x63 : List Int) (x64 x65 x66 : Int)
  | L2 (x52 x53 : Int) (x54 : List Int) (x55 x56 x57 : Int) (x58 : List Int) (x59 x60 : Int)
  | Q8 (x37 x38 : Int) (x39 : List Int) (x40 x41 : Int)
noncomputable def s24 (n : Nat) (γ : Type) : P24 → (P24 → Option γ) → (Int → Option γ) → Option γ
  | .F a0 a1 a2, k, r =>
    (p81 n a0).bind fun y1 =>
    cond ((ltB a2 (1 : Int))) (
      r (-1 : Int)) (
      cond ((eqB (List.length y1 : Int) (0 : Int))) (
        r (-1 : Int)) (
        if a2 = 0 then none else (
        cond ((!eqB (Int.tmod (List.length y1 : Int) a2) (0 : Int))) (
          r (-1 : Int)) (
          k (.L0 a1 a2 y1 (w64 (a2 + (1 : Int))) (0 : Int))))))
  | .E0 x72, k, r =>
    r x72
  | .L0 x67 x68 x69 x70 x71, k, r =>
    cond ((ltB x71 (List.length x69 : Int))) (
      k (.Q8 x67 x68 x69 x70 x71)) (
      k (.E0 x70))
  | .E2 x61 x62 x63 x64 x65 x66, k, r =>
    k (.L0 x61 x62 x63 (min x64 x66) (w64 (x65 + x62)))
  | .L2 x52 x53 x54 x55 x56 x57 x58 x59 x60, k, r =>
    cond ((ltB x60 x59)) (
      if 0 ≤ x60 then (
      if x60 < (List.length x58 : Int) then (
      cond ((eqB (List.getD x58 (Int.toNat x60) (0 : Int)) x52)) (
        k (.L2 x52 x53 x54 x55 x56 (w64 (x57 + (1 : Int))) x58 x59 (w64 (x60 + (1 : Int))))) (
        k (.L2 x52 x53 x54 x55 x56 x57 x58 x59 (w64 (x60 + (1 : Int)))))) else none) else none) (
      k (.E2 x52 x53 x54 x55 x56 x57))
  | .Q8 x37 x38 x39 x40 x41, k, r =>
    if 0 ≤ x41 then (
    if x41 ≤ (w64 (x41 + x38)) then (
    if (w64 (x41 + x38)) ≤ (List.length x39 : Int) then (
    let u73 : List Int := (List.take (Int.toNat (w64 (x41 + x38)) - Int.toNat x41) (List.drop (Int.toNat x41) x39))
    k (.L2 x37 x38 x39 x40 x41 (0 : Int) u73 (List.length u73 : Int) (0 : Int))) else none) else none) else none
theorem nat24 (n : Nat) : NatS (s24 n) := fun g p k r => by
  cases p <;> simp only [s24, bind_cond, bind_ite, Option.bind_assoc, Option.bind_none]
theorem us24 {n m : Nat} (h : n ≤ m) : UpS (s24 n) (s24 m) := fun γ p k r => by
  cases p <;> dsimp only [s24] <;> repeat' first | with_reducible exact up_rfl | apply up_cond | apply up_ite | apply up_bind | apply up81 h | intro
noncomputable def k24_0 (n : Nat)  : Ex → St → Option (List CRes × List CVar) := finK' Γ f24 a24 0
noncomputable def c24_0 : Code := partB (bodyOf f24)
noncomputable def c24_1 : Code := partB c24_0
noncomputable def c24_2 : Code := partB c24_1
noncomputable def c24_3 : Code := partB c24_2
noncomputable def c24_4 : Code := partB c24_3
noncomputable def k24_1 (n : Nat)  : Ex → St → Option (List CRes × List CVar) := seqK Γ (Φ24 n) a24 n c24_4 0 (k24_0 n)
noncomputable def c24_5 : Code := partA c24_3
noncomputable def c24_6 : Code := partB c24_5
noncomputable def c24_7 : Code := partA c24_6
noncomputable def c24_8 : Code := partA c24_7
noncomputable def k24_2 (n : Nat)  : Ex → St → Option (List CRes × List CVar) := blockK a24 0 (k24_1 n)
noncomputable def k24_3 (n : Nat) (u : Nat → Nat) : Ex → St → Option (List CRes × List CVar) := roundK Γ (Φ24 n) a24 n c24_8 0 (u 0) (k24_2 n)
noncomputable def c24_9 : Code := partB c24_8
noncomputable def c24_10 : Code := partB c24_9
noncomputable def k24_4 (n : Nat) (u : Nat → Nat) : Ex → St → Option (List CRes × List CVar) := seqK Γ (Φ24 n) a24 n c24_10 0 (k24_3 n u)
noncomputable def k24_5 (n : Nat) (u : Nat → Nat) : Ex → St → Option (List CRes × List CVar) := blockK a24 1 (k24_4 n u)
noncomputable def c24_11 : Code := partA c24_9
noncomputable def c24_12 : Code := partA c24_11
noncomputable def c24_13 : Code := partB c24_12
noncomputable def c24_14 : Code := partB c24_13
noncomputable def k24_6 (n : Nat) (u : Nat → Nat) : Ex → St → Option (List CRes × List CVar) := seqK Γ (Φ24 n) a24 n c24_14 1 (k24_5 n u)
noncomputable def c24_15 : Code := partA c24_13
noncomputable def c24_16 : Code := partB c24_15
noncomputable def c24_17 : Code := partA c24_16
noncomputable def c24_18 : Code := partA c24_17
noncomputable def k24_7 (n : Nat) (u : Nat → Nat) : Ex → St → Option (List CRes × List CVar) := blockK a24 2 (k24_6 n u)
noncomputable def M24 (n : Nat) (u : Nat → Nat) : P24 → Option (List CRes × List CVar)
  | .F a0 a1 a2 => stepIn (fun A => codeK Γ (Φ24 n) a24 n (bodyOf f24) 0 A (k24_0 n)) (mkSt 59 59 [(0, (.val (.sh 44 (.pair I64 I64)) a0)), (1, (iv a1)), (2, (iv a2))] [])
  | .E0 x72 => stepIn ((k24_1 n) .normal) (mkSt 59 59 [(8, (iv x72))] [])
  | .L0 x67 x68 x69 x70 x71 => stepIn (fun A => loopK Γ (Φ24 n) a24 n c24_8 0 (u 0) A (k24_2 n)) (mkSt 59 59 [(1, (iv x67)), (2, (iv x68)), (7, (.val (.sh 3 I64) x69)), (8, (iv x70)), (9, (iv x71))] [])
  | .E2 x61 x62 x63 x64 x65 x66 => stepIn ((k24_6 n u) .normal) (mkSt 59 59 [(1, (iv x61)), (2, (iv x62)), (7, (.val (.sh 3 I64) x63)), (8, (iv x64)), (9, (iv x65)), (10, (iv x66))] [])
  | .L2 x52 x53 x54 x55 x56 x57 x58 x59 x60 => stepIn (fun A => loopK Γ (Φ24 n) a24 n c24_18 2 (u 2) A (k24_7 n u)) (mkSt 59 59 [(1, (iv x52)), (2, (iv x53)), (7, (.val (.sh 3 I64) x54)), (8, (iv x55)), (9, (iv x56)), (10, (iv x57)), (43, (.val (.sh 3 I64) x58)), (44, (iv x59)), (45, (iv x60))] [])
  | .Q8 x37 x38 x39 x40 x41 => stepIn (fun A => codeK Γ (Φ24 n) a24 n c24_9 0 A (k24_3 n u)) (mkSt 59 59 [(1, (iv x37)), (2, (iv x38)), (7, (.val (.sh 3 I64) x39)), (8, (iv x40)), (9, (iv x41))] [])
theorem h24 (n : Nat) (u : Nat → Nat) : ∀ p, (∀ i, 1 ≤ u i) → Ok1 (s24 n) e24 n (M24 n) u p
  | .F a0 a1 a2, _ => pl [] (at_code rfl ((codeK_seq (by kernel_rfl)).trans (by kernel_rfl)))
  | .E0 x72, _ => pl [] (by kernel_rfl)
  | .L0 x67 x68 x69 x70 x71, hu => hd 0 [0] hu fun m hm => (loopK_at hm).trans ((codeK_seq (by kernel_rfl)).trans ((codeK_seq (by kernel_rfl)).trans (by kernel_rfl)))
  | .E2 x61 x62 x63 x64 x65 x66, _ => pl [0] (by kernel_rfl)
  | .L2 x52 x53 x54 x55 x56 x57 x58 x59 x60, hu => hd 2 [0, 2] hu fun m hm => (loopK_at hm).trans ((codeK_seq (by kernel_rfl)).trans (by kernel_rfl))
  | .Q8 x37 x38 x39 x40 x41, _ => pl [0] (at_code rfl ((codeK_seq (by kernel_rfl)).trans ((codeK_block 1 (by kernel_rfl)).trans ((codeK_seq (by kernel_rfl)).trans (by kernel_rfl)))))
noncomputable def p24 (n : Nat) (a0 : List (Int × Int)) (a1 a2 : Int) : Option (Int) := flow (s24 n) n (.F a0 a1 a2)
theorem up24 {n m : Nat} (h : n ≤ m) (a0 : List (Int × Int)) (a1 a2 : Int) : Up (p24 n a0 a1 a2) (p24 m a0 a1 a2) := flow_up (nat24 n) (us24 h) h _
noncomputable def E24 (n : Nat) : Entry := mkE 24 .flat [.tree (.sh 44 (.pair I64 I64)), .tree I64, .tree I64] [] (fun a b => p24 n a.1 a.2.1 a.2.2.1) e24
theorem ok24 (n : Nat) : EntryOk prog (E24 n) := mkE_ok (Φ := Φ24 n) (ann := a24) (n := n) (F := f24) (by kernel_rfl) (by kernel_rfl) (by kernel_rfl) (known_prog (known_cons (ok81 n) known_nil)) mixed fun a b y h =>
  (show _ = M24 n (fun _ => n) (.F a.1 a.2.1 a.2.2.1) by kernel_rfl).trans (flow_sound (nat24 n) (h24 n) n _ _ y (Nat.le_refl _) (fun _ => Nat.le_refl _) h)
/-! ### F78 horarium/bound.Gaps -/
noncomputable def a78 : Ann := { draws := [(4, { order := [0, 1, 2, 3, 4, 7, 8, 9, 10, 11, 12, 13, 5, 6, 14, 15], touch := [(5, [])] }), (8, { order := [0, 1, 2, 3, 4, 5, 6, 7, 8, 9, 10, 11, 12, 13, 14] })], loops := [(0, { vars := [], sites := [5], slots := [(5, .tree TyO112), (6, .keep), (7, .keep)] })], ends := [(0, { vars := [], sites := [], slots := [(6, .keep)] })], res := [I64] }
noncomputable def e78 (y : Int) : List CRes × List CVar := ([.v I64 y], [])
noncomputable def Φ78 (n : Nat) : Prog := Prog.of [E58 n, E80 n]
inductive P78 where
  | F (a0 : List (Int × Int)) (a1 : Int)
  | E0 (x14 : Int)
  | L0 (x10 x11 : Int) (x12 : List (Int × Int))
noncomputable def s78 (n : Nat) (γ : Type) : P78 → (P78 → Option γ) → (Int → Option γ) → Option γ
  | .F a0 a1, k, r =>
    (p80 n a0 a1).bind fun y1 =>
    cond ((eqB (List.length y1 : Int) (0 : Int))) (
      r (-1 : Int)) (
      if 0 ≤ (0 : Int) then (
      if (0 : Int) < (List.length y1 : Int) then (
      if 0 ≤ (w64 ((List.length y1 : Int) - (1 : Int))) then (
      if (w64 ((List.length y1 : Int) - (1 : Int))) < (List.length y1 : Int) then (
      (p58 n a0).bind fun y2 =>
      let u3 : Int := (w64 ((List.getD y1 0 ((0 : Int), (0 : Int))).1 + y2))
      let u4 : Int := (w64 (u3 - (List.getD y1 (Int.toNat (w64 ((List.length y1 : Int) - (1 : Int)))) ((0 : Int), (0 : Int))).2))
      k (.L0 u4 (1 : Int) y1)) else none) else none) else none) else none)
  | .E0 x14, k, r =>
    r x14
  | .L0 x10 x11 x12, k, r =>
    cond ((ltB x11 (List.length x12 : Int))) (
      if 0 ≤ x11 then (
      if x11 < (List.length x12 : Int) then (
      if 0 ≤ (w64 (x11 - (1 : Int))) then (
      if (w64 (x11 - (1 : Int))) < (List.length x12 : Int) then (
      let u13 : Int := (w64 ((List.getD x12 (Int.toNat x11) ((0 : Int), (0 : Int))).1 - (List.getD x12 (Int.toNat (w64 (x11 - (1 : Int)))) ((0 : Int), (0 : Int))).2))
      k (.L0 (max x10 u13) (w64 (x11 + (1 : Int))) x12)) else none) else none) else none) else none) (
      k (.E0 x10))
theorem nat78 (n : Nat) : NatS (s78 n) := fun g p k r => by
  cases p <;> simp only [s78, bind_cond, bind_ite, Option.bind_assoc, Option.bind_none]
theorem us78 {n m : Nat} (h : n ≤ m) : UpS (s78 n) (s78 m) := fun γ p k r => by
  cases p <;> dsimp only [s78] <;> repeat' first | with_reducible exact up_rfl | apply up_cond | apply up_ite | apply up_bind | apply up58 h | apply up80 h | intro
noncomputable def k78_0 (n : Nat)  : Ex → St → Option (List CRes × List CVar) := finK' Γ f78 a78 0
noncomputable def c78_0 : Code := partB (bodyOf f78)
noncomputable def c78_1 : Code := partB c78_0
noncomputable def c78_2 : Code := partB c78_1
noncomputable def c78_3 : Code := partB c78_2
noncomputable def c78_4 : Code := partB c78_3
noncomputable def k78_1 (n : Nat)  : Ex → St → Option (List CRes × List CVar) := seqK Γ (Φ78 n) a78 n c78_4 0 (k78_0 n)
noncomputable def c78_5 : Code := partA c78_3
noncomputable def c78_6 : Code := partB c78_5
noncomputable def c78_7 : Code := partA c78_6
noncomputable def c78_8 : Code := partA c78_7
noncomputable def k78_2 (n : Nat)  : Ex → St → Option (List CRes × List CVar) := blockK a78 0 (k78_1 n)
noncomputable def M78 (n : Nat) (u : Nat → Nat) : P78 → Option (List CRes × List CVar)
  | .F a0 a1 => stepIn (fun A => codeK Γ (Φ78 n) a78 n (bodyOf f78) 0 A (k78_0 n)) (mkSt 50 50 [(0, (.val (.sh 44 (.pair I64 I64)) a0)), (1, (iv a1))] [])
  | .E0 x14 => stepIn ((k78_1 n) .normal) (mkSt 50 50 [(6, (iv x14))] [])
  | .L0 x10 x11 x12 => stepIn (fun A => loopK Γ (Φ78 n) a78 n c78_8 0 (u 0) A (k78_2 n)) (mkSt 50 50 [(5, (.ref 5 [])), (6, (iv x10)), (7, (iv x11))] [(5, .tmp TyO112 x12)])
theorem h78 (n : Nat) (u : Nat → Nat) : ∀ p, (∀ i, 1 ≤ u i) → Ok1 (s78 n) e78 n (M78 n) u p
  | .F a0 a1, _ => pl [] (at_code rfl ((codeK_seq (by kernel_rfl)).trans (by kernel_rfl)))
  | .E0 x14, _ => pl [] (by kernel_rfl)
  | .L0 x10 x11 x12, hu => hd 0 [0] hu fun m hm => (loopK_at hm).trans ((codeK_seq (by kernel_rfl)).trans ((codeK_seq (by kernel_rfl)).trans (by kernel_rfl)))
noncomputable def p78 (n : Nat) (a0 : List (Int × Int)) (a1 : Int) : Option (Int) := flow (s78 n) n (.F a0 a1)
theorem up78 {n m : Nat} (h : n ≤ m) (a0 : List (Int × Int)) (a1 : Int) : Up (p78 n a0 a1) (p78 m a0 a1) := flow_up (nat78 n) (us78 h) h _
noncomputable def E78 (n : Nat) : Entry := mkE 78 .flat [.tree (.sh 44 (.pair I64 I64)), .tree I64] [] (fun a b => p78 n a.1 a.2.1) e78
theorem ok78 (n : Nat) : EntryOk prog (E78 n) := mkE_ok (Φ := Φ78 n) (ann := a78) (n := n) (F := f78) (by kernel_rfl) (by kernel_rfl) (by kernel_rfl) (known_prog (known_cons (ok58 n) (known_cons (ok80 n) known_nil))) mixed fun a b y h =>
  (show _ = M78 n (fun _ => n) (.F a.1 a.2.1) by kernel_rfl).trans (flow_sound (nat78 n) (h78 n) n _ _ y (Nat.le_refl _) (fun _ => Nat.le_refl _) h)
/-! ### F79 horarium/horariumref7.Gaps -/
noncomputable def a79 : Ann := { res := [I64] }
noncomputable def e79 (y : Int) : List CRes × List CVar := ([.v I64 y], [])
noncomputable def Φ79 (n : Nat) : Prog := Prog.of [E77 n]
inductive P79 where
  | F (a0 : List (Int × Int)) (a1 : Int)
noncomputable def s79 (n : Nat) (γ : Type) : P79 → (P79 → Option γ) → (Int → Option γ) → Option γ
  | .F a0 a1, k, r =>
    (p77 n a0 a1 a1).bind fun y1 =>
    cond ((ltB y1 (1 : Int))) (
      r (-1 : Int)) (
      r (w64 (y1 - (1 : Int))))
theorem nat79 (n : Nat) : NatS (s79 n) := fun g p k r => by
  cases p <;> simp only [s79, bind_cond, bind_ite, Option.bind_assoc, Option.bind_none]
theorem us79 {n m : Nat} (h : n ≤ m) : UpS (s79 n) (s79 m) := fun γ p k r => by
  cases p <;> dsimp only [s79] <;> repeat' first | with_reducible exact up_rfl | apply up_cond | apply up_ite | apply up_bind | apply up77 h | intro
noncomputable def k79_0 (n : Nat)  : Ex → St → Option (List CRes × List CVar) := finK' Γ f79 a79 0
noncomputable def M79 (n : Nat) (u : Nat → Nat) : P79 → Option (List CRes × List CVar)
  | .F a0 a1 => stepIn (fun A => codeK Γ (Φ79 n) a79 n (bodyOf f79) 0 A (k79_0 n)) (mkSt 14 14 [(0, (.val (.sh 44 (.pair I64 I64)) a0)), (1, (iv a1))] [])
theorem h79 (n : Nat) (u : Nat → Nat) : ∀ p, (∀ i, 1 ≤ u i) → Ok1 (s79 n) e79 n (M79 n) u p
  | .F a0 a1, _ => pl [] (at_code rfl ((codeK_seq (by kernel_rfl)).trans (by kernel_rfl)))
noncomputable def p79 (n : Nat) (a0 : List (Int × Int)) (a1 : Int) : Option (Int) := flow (s79 n) n (.F a0 a1)
theorem up79 {n m : Nat} (h : n ≤ m) (a0 : List (Int × Int)) (a1 : Int) : Up (p79 n a0 a1) (p79 m a0 a1) := flow_up (nat79 n) (us79 h) h _
noncomputable def E79 (n : Nat) : Entry := mkE 79 .flat [.tree (.sh 44 (.pair I64 I64)), .tree I64] [] (fun a b => p79 n a.1 a.2.1) e79
theorem ok79 (n : Nat) : EntryOk prog (E79 n) := mkE_ok (Φ := Φ79 n) (ann := a79) (n := n) (F := f79) (by kernel_rfl) (by kernel_rfl) (by kernel_rfl) (known_prog (known_cons (ok77 n) known_nil)) mixed fun a b y h =>
  (show _ = M79 n (fun _ => n) (.F a.1 a.2.1) by kernel_rfl).trans (flow_sound (nat79 n) (h79 n) n _ _ y (Nat.le_refl _) (fun _ => Nat.le_refl _) h)
/-! ### F22 horarium/horariumlaw9.same -/
noncomputable def a22 : Ann := { res := [.bool] }
noncomputable def e22 (y : Bool) : List CRes × List CVar := ([.v .bool y], [])
noncomputable def Φ22 (n : Nat) : Prog := Prog.of [E23 n, E24 n, E76 n, E77 n, E78 n, E79 n]
inductive P22 where
  | F (a0 : List (Int × Int)) (a1 a2 a3 : Int)
noncomputable def s22 (n : Nat) (γ : Type) : P22 → (P22 → Option γ) → (Bool → Option γ) → Option γ
  | .F a0 a1 a2 a3, k, r =>
    (p76 n a0 a1 a2).bind fun y1 =>
    (p77 n a0 a1 a2).bind fun y2 =>
    cond ((eqB y1 y2)) (
      (p23 n a0 a1 a3).bind fun y3 =>
      (p24 n a0 a1 a3).bind fun y4 =>
      cond ((eqB y3 y4)) (
        (p78 n a0 a1).bind fun y5 =>
        (p79 n a0 a1).bind fun y6 =>
        r (eqB y5 y6)) (
        r false)) (
      r false)
theorem nat22 (n : Nat) : NatS (s22 n) := fun g p k r => by
  cases p <;> simp only [s22, bind_cond, bind_ite, Option.bind_assoc, Option.bind_none]
theorem us22 {n m : Nat} (h : n ≤ m) : UpS (s22 n) (s22 m) := fun γ p k r => by
  cases p <;> dsimp only [s22] <;> repeat' first | with_reducible exact up_rfl | apply up_cond | apply up_ite | apply up_bind | apply up23 h | apply up24 h | apply up76 h | apply up77 h | apply up78 h | apply up79 h | intro
noncomputable def k22_0 (n : Nat)  : Ex → St → Option (List CRes × List CVar) := finK' Γ f22 a22 0
noncomputable def M22 (n : Nat) (u : Nat → Nat) : P22 → Option (List CRes × List CVar)
  | .F a0 a1 a2 a3 => stepIn (fun A => codeK Γ (Φ22 n) a22 n (bodyOf f22) 0 A (k22_0 n)) (mkSt 38 38 [(0, (.val (.sh 44 (.pair I64 I64)) a0)), (1, (iv a1)), (2, (iv a2)), (3, (iv a3))] [])
theorem h22 (n : Nat) (u : Nat → Nat) : ∀ p, (∀ i, 1 ≤ u i) → Ok1 (s22 n) e22 n (M22 n) u p
  | .F a0 a1 a2 a3, _ => pl [] (at_code rfl ((codeK_seq (by kernel_rfl)).trans (by kernel_rfl)))
noncomputable def p22 (n : Nat) (a0 : List (Int × Int)) (a1 a2 a3 : Int) : Option (Bool) := flow (s22 n) n (.F a0 a1 a2 a3)
theorem up22 {n m : Nat} (h : n ≤ m) (a0 : List (Int × Int)) (a1 a2 a3 : Int) : Up (p22 n a0 a1 a2 a3) (p22 m a0 a1 a2 a3) := flow_up (nat22 n) (us22 h) h _
noncomputable def E22 (n : Nat) : Entry := mkE 22 .flat [.tree (.sh 44 (.pair I64 I64)), .tree I64, .tree I64, .tree I64] [] (fun a b => p22 n a.1 a.2.1 a.2.2.1 a.2.2.2.1) e22
theorem ok22 (n : Nat) : EntryOk prog (E22 n) := mkE_ok (Φ := Φ22 n) (ann := a22) (n := n) (F := f22) (by kernel_rfl) (by kernel_rfl) (by kernel_rfl) (known_prog (known_cons (ok23 n) (known_cons (ok24 n) (known_cons (ok76 n) (known_cons (ok77 n) (known_cons (ok78 n) (known_cons (ok79 n) known_nil))))))) mixed fun a b y h =>
  (show _ = M22 n (fun _ => n) (.F a.1 a.2.1 a.2.2.1 a.2.2.2.1) by kernel_rfl).trans (flow_sound (nat22 n) (h22 n) n _ _ y (Nat.le_refl _) (fun _ => Nat.le_refl _) h)
/-! ### F31 (*horarium/horariumkeep.Tape).Table -/
noncomputable def a31 : Ann := { loops := [(0, { vars := [], sites := [9, 66], slots := [(0, .keep), (1, .keep), (2, .keep), (8, .keep), (9, .tree TyO38), (10, .keep)] })], ends := [(0, { vars := [], sites := [9, 66], slots := [(9, .tree TyO38)] })], res := [TyO38] }
noncomputable def e31 (y : (List (Int × (Int × Int))) × ((List Int) × Int)) : List CRes × List CVar := ([.v TyO38 y.1], [⟨26, (.pair (.sh 3 I64) I64), y.2⟩])
noncomputable def Es31 (n : Nat) (slf : Int → Int → ((List Int) × Int) → Option ((List (Int × (Int × Int))) × ((List Int) × Int))) : Entry := mkE 31 .move [.point, .tree I64, .tree I64] [(26, (.pair (.sh 3 I64) I64))] (fun a b => slf a.1 a.2.1 b.1) e31
noncomputable def Φ31 (n : Nat) (slf : Int → Int → ((List Int) × Int) → Option ((List (Int × (Int × Int))) × ((List Int) × Int))) : Prog := Prog.of [Es31 n slf, E74 n]
inductive P31 where
  | F (a1 a2 : Int) (b0 : (List Int) × Int)
  | E0 (x43 : List (Int × (Int × Int))) (x44 : List Int) (x45 : Int)
  | L0 (x34 x35 x36 x37 : Int) (x38 : List (Int × (Int × Int))) (x39 : List Int) (x40 : Int)
noncomputable def s31 (n : Nat) (slf : Int → Int → ((List Int) × Int) → Option ((List (Int × (Int × Int))) × ((List Int) × Int))) (γ : Type) : P31 → (P31 → Option γ) → ((List (Int × (Int × Int))) × ((List Int) × Int) → Option γ) → Option γ
  | .F a1 a2 b0, k, r =>
    (p74 n (7 : Int) b0).bind fun cy1 =>
    cond ((ltB a2 (1 : Int))) (
      cond ((eqB cy1.1 (0 : Int))) (
        (p74 n (4 : Int) cy1.2).bind fun cy3 =>
        r ([((2 : Int), ((0 : Int), (w64 ((1 : Int) + cy3.1))))], cy3.2)) (
        (p74 n a1 cy1.2).bind fun cy5 =>
        (p74 n (4 : Int) cy5.2).bind fun cy7 =>
        r ([((1 : Int), (cy5.1, (w64 ((1 : Int) + cy7.1))))], cy7.2))) (
      cond ((ltB cy1.1 (2 : Int))) (
        cond ((eqB cy1.1 (0 : Int))) (
          (p74 n (4 : Int) cy1.2).bind fun cy9 =>
          r ([((2 : Int), ((0 : Int), (w64 ((1 : Int) + cy9.1))))], cy9.2)) (
          (p74 n a1 cy1.2).bind fun cy11 =>
          (p74 n (4 : Int) cy11.2).bind fun cy13 =>
          r ([((1 : Int), (cy11.1, (w64 ((1 : Int) + cy13.1))))], cy13.2))) (
        cond ((eqB cy1.1 (2 : Int))) (
          (p74 n (3 : Int) cy1.2).bind fun cy15 =>
          (slf a1 (w64 (a2 - (1 : Int))) cy15.2).bind fun cy17 =>
          if (List.length [((4 : Int), ((0 : Int), (w64 ((1 : Int) + cy15.1))))] + List.length cy17.1) * 24 ≤ 140737488355328 then (
          let u19 : List (Int × (Int × Int)) := ([((4 : Int), ((0 : Int), (w64 ((1 : Int) + cy15.1))))] ++ cy17.1)
          r (u19, cy17.2)) else none) (
          (p74 n (4 : Int) cy1.2).bind fun cy20 =>
          k (.L0 a1 a2 (w64 ((1 : Int) + cy20.1)) (0 : Int) [((3 : Int), ((0 : Int), (w64 ((1 : Int) + cy20.1))))] cy20.2.1 cy20.2.2))))
  | .E0 x43 x44 x45, k, r =>
    r (x43, (x44, x45))
  | .L0 x34 x35 x36 x37 x38 x39 x40, k, r =>
    cond ((ltB x37 x36)) (
      (slf x34 (w64 (x35 - (1 : Int))) (x39, x40)).bind fun cy41 =>
      if (List.length x38 + List.length cy41.1) * 24 ≤ 140737488355328 then (
      k (.L0 x34 x35 x36 (w64 (x37 + (1 : Int))) (x38 ++ cy41.1) cy41.2.1 cy41.2.2)) else none) (
      k (.E0 x38 x39 x40))
theorem nat31 (n : Nat) (slf : Int → Int → ((List Int) × Int) → Option ((List (Int × (Int × Int))) × ((List Int) × Int))) : NatS (s31 n slf) := fun g p k r => by
  cases p <;> simp only [s31, bind_cond, bind_ite, Option.bind_assoc, Option.bind_none]
theorem us31 {n m : Nat} (h : n ≤ m) {slf slf' : Int → Int → ((List Int) × Int) → Option ((List (Int × (Int × Int))) × ((List Int) × Int))} (hs : ∀ a1 a2 b0, Up (slf a1 a2 b0) (slf' a1 a2 b0)) : UpS (s31 n slf) (s31 m slf') := fun γ p k r => by
  cases p <;> dsimp only [s31] <;> repeat' first | with_reducible exact up_rfl | apply up_cond | apply up_ite | apply up_bind | apply up74 h | apply hs | intro
noncomputable def k31_0 (n : Nat) (slf : Int → Int → ((List Int) × Int) → Option ((List (Int × (Int × Int))) × ((List Int) × Int)))  : Ex → St → Option (List CRes × List CVar) := finK' Γ f31 a31 1
noncomputable def c31_0 : Code := partB (bodyOf f31)
noncomputable def c31_1 : Code := partB c31_0
noncomputable def c31_2 : Code := partB c31_1
noncomputable def c31_3 : Code := partB c31_2
noncomputable def c31_4 : Code := partB c31_3
noncomputable def c31_5 : Code := partB c31_4
noncomputable def c31_6 : Code := partB c31_5
noncomputable def k31_1 (n : Nat) (slf : Int → Int → ((List Int) × Int) → Option ((List (Int × (Int × Int))) × ((List Int) × Int)))  : Ex → St → Option (List CRes × List CVar) := seqK Γ (Φ31 n slf) a31 n c31_6 0 (k31_0 n slf)
noncomputable def c31_7 : Code := partA c31_5
noncomputable def c31_8 : Code := partB c31_7
noncomputable def c31_9 : Code := partA c31_8
noncomputable def c31_10 : Code := partA c31_9
noncomputable def k31_2 (n : Nat) (slf : Int → Int → ((List Int) × Int) → Option ((List (Int × (Int × Int))) × ((List Int) × Int)))  : Ex → St → Option (List CRes × List CVar) := blockK a31 0 (k31_1 n slf)
noncomputable def M31 (n : Nat) (slf : Int → Int → ((List Int) × Int) → Option ((List (Int × (Int × Int))) × ((List Int) × Int))) (u : Nat → Nat) : P31 → Option (List CRes × List CVar)
  | .F a1 a2 b0 => stepIn (fun A => codeK Γ (Φ31 n slf) a31 n (bodyOf f31) 0 A (k31_0 n slf)) (mkSt 66 67 [(0, (.ptr 66 [])), (1, (iv a1)), (2, (iv a2))] [(66, .var 26 (.pair (.sh 3 I64) I64) b0)])
  | .E0 x43 x44 x45 => stepIn ((k31_1 n slf) .normal) (mkSt 66 67 [(9, (.ref 9 []))] [(9, .tmp TyO38 x43), (66, .var 26 (.pair (.sh 3 I64) I64) (x44, x45))])
  | .L0 x34 x35 x36 x37 x38 x39 x40 => stepIn (fun A => loopK Γ (Φ31 n slf) a31 n c31_10 0 (u 0) A (k31_2 n slf)) (mkSt 66 67 [(0, (.ptr 66 [])), (1, (iv x34)), (2, (iv x35)), (8, (iv x36)), (9, (.ref 9 [])), (10, (iv x37))] [(9, .tmp TyO38 x38), (66, .var 26 (.pair (.sh 3 I64) I64) (x39, x40))])
theorem h31 (n : Nat) (slf : Int → Int → ((List Int) × Int) → Option ((List (Int × (Int × Int))) × ((List Int) × Int))) (u : Nat → Nat) : ∀ p, (∀ i, 1 ≤ u i) → Ok1 (s31 n slf) e31 n (M31 n slf) u p
  | .F a1 a2 b0, _ => pl [] (at_code rfl ((codeK_seq (by kernel_rfl)).trans (by kernel_rfl)))
  | .E0 x43 x44 x45, _ => pl [] (by kernel_rfl)
  | .L0 x34 x35 x36 x37 x38 x39 x40, hu => hd 0 [0] hu fun m hm => (loopK_at hm).trans ((codeK_seq (by kernel_rfl)).trans ((codeK_seq (by kernel_rfl)).trans (by kernel_rfl)))
noncomputable def p31' (n : Nat) (m : Nat) : Int → Int → ((List Int) × Int) → Option ((List (Int × (Int × Int))) × ((List Int) × Int)) := Nat.rec (fun _ _ _ => none) (fun _ slf a1 a2 b0 => flow (s31 n slf) n (.F a1 a2 b0)) m
noncomputable def p31 (n : Nat) : Int → Int → ((List Int) × Int) → Option ((List (Int × (Int × Int))) × ((List Int) × Int)) := p31' n n
theorem up31' {n m : Nat} (h : n ≤ m) : ∀ {a b : Nat}, a ≤ b → ∀ a1 a2 b0, Up (p31' n a a1 a2 b0) (p31' m b a1 a2 b0)
  | 0, _, _, _, _, _ => fun v hv => by cases hv
  | _ + 1, 0, h1, _, _, _ => by omega
  | a + 1, b + 1, h1, a1, a2, b0 => flow_up (nat31 n _) (us31 h fun a1 a2 b0 => up31' h (Nat.le_of_succ_le_succ h1) a1 a2 b0) h _
theorem up31 {n m : Nat} (h : n ≤ m) (a1 a2 : Int) (b0 : (List Int) × Int) : Up (p31 n a1 a2 b0) (p31 m a1 a2 b0) := up31' h h a1 a2 b0
noncomputable def E31 (n : Nat) : Entry := Es31 n (p31 n)
theorem ok31' (n : Nat) : ∀ m : Nat, EntryOk prog (Es31 n (p31' n m))
  | 0 => mkE_none (F := f31) (by kernel_rfl) (by kernel_rfl) (by kernel_rfl) fun _ _ => rfl
  | m + 1 => mkE_ok (Φ := Φ31 n (p31' n m)) (ann := a31) (n := n) (F := f31) (by kernel_rfl) (by kernel_rfl) (by kernel_rfl) (known_prog (known_cons (ok31' n m) (known_cons (ok74 n) known_nil))) mixed fun a b y h =>
    (show _ = M31 n (p31' n m) (fun _ => n) (.F a.1 a.2.1 b.1) by kernel_rfl).trans (flow_sound (nat31 n (p31' n m)) (h31 n (p31' n m)) n _ _ y (Nat.le_refl _) (fun _ => Nat.le_refl _) h)
theorem ok31 (n : Nat) : EntryOk prog (E31 n) := ok31' n n
/-! ### F160 horarium/horariumref3.fine -/
noncomputable def a160 : Ann := { res := [.bool] }
noncomputable def e160 (y : Bool) : List CRes × List CVar := ([.v .bool y], [])
noncomputable def Φ160 (n : Nat) : Prog := Prog.of []
inductive P160 where
  | F (a0 : Int × (Int × Int))
noncomputable def s160 (n : Nat) (γ : Type) : P160 → (P160 → Option γ) → (Bool → Option γ) → Option γ
  | .F a0, k, r =>
    cond ((eqB a0.1 (1 : Int))) (
      cond ((leB (0 : Int) a0.2.1)) (
        cond ((ltB a0.2.1 (6 : Int))) (
          r (leB (1 : Int) a0.2.2)) (
          r false)) (
        r false)) (
      cond ((eqB a0.1 (2 : Int))) (
        cond ((eqB a0.2.1 (0 : Int))) (
          r (leB (1 : Int) a0.2.2)) (
          r false)) (
        cond ((eqB a0.1 (4 : Int))) (
          cond ((eqB a0.2.1 (0 : Int))) (
            r (leB (1 : Int) a0.2.2)) (
            r false)) (
          cond ((eqB a0.1 (3 : Int))) (
            cond ((eqB a0.2.1 (0 : Int))) (
              cond ((leB (1 : Int) a0.2.2)) (
                r (leB a0.2.2 (128 : Int))) (
                r false)) (
              r false)) (
            r false))))
theorem nat160 (n : Nat) : NatS (s160 n) := fun g p k r => by
  cases p <;> simp only [s160, bind_cond, bind_ite, Option.bind_assoc, Option.bind_none]
theorem us160 {n m : Nat} (h : n ≤ m) : UpS (s160 n) (s160 m) := fun γ p k r => by
  cases p <;> dsimp only [s160] <;> repeat' first | with_reducible exact up_rfl | apply up_cond | apply up_ite | apply up_bind | intro
noncomputable def k160_0 (n : Nat)  : Ex → St → Option (List CRes × List CVar) := finK' Γ f160 a160 0
noncomputable def M160 (n : Nat) (u : Nat → Nat) : P160 → Option (List CRes × List CVar)
  | .F a0 => stepIn (fun A => codeK Γ (Φ160 n) a160 n (bodyOf f160) 0 A (k160_0 n)) (mkSt 46 46 [(0, (.val TyO56 a0))] [])
theorem h160 (n : Nat) (u : Nat → Nat) : ∀ p, (∀ i, 1 ≤ u i) → Ok1 (s160 n) e160 n (M160 n) u p
  | .F a0, _ => pl [] (at_code rfl ((codeK_seq (by kernel_rfl)).trans (by kernel_rfl)))
noncomputable def p160 (n : Nat) (a0 : Int × (Int × Int)) : Option (Bool) := flow (s160 n) n (.F a0)
theorem up160 {n m : Nat} (h : n ≤ m) (a0 : Int × (Int × Int)) : Up (p160 n a0) (p160 m a0) := flow_up (nat160 n) (us160 h) h _
noncomputable def E160 (n : Nat) : Entry := mkE 160 .flat [.tree TyO56] [] (fun a b => p160 n a.1) e160
theorem ok160 (n : Nat) : EntryOk prog (E160 n) := mkE_ok (Φ := Φ160 n) (ann := a160) (n := n) (F := f160) (by kernel_rfl) (by kernel_rfl) (by kernel_rfl) (known_prog known_nil) mixed fun a b y h =>
  (show _ = M160 n (fun _ => n) (.F a.1) by kernel_rfl).trans (flow_sound (nat160 n) (h160 n) n _ _ y (Nat.le_refl _) (fun _ => Nat.le_refl _) h)
/-! ### F136 horarium/horariumref3.Size -/
noncomputable def a136 : Ann := { loops := [(0, { vars := [], sites := [], slots := [(0, .keep), (1, .keep), (5, .keep), (6, .keep)] })], ends := [(0, { vars := [], sites := [], slots := [] })], heads := [(6, { vars := [], sites := [], slots := [(0, .keep), (1, .keep), (5, .keep), (6, .keep)] })], res := [I64] }
noncomputable def e136 (y : Int) : List CRes × List CVar := ([.v I64 y], [])
noncomputable def Φ136 (n : Nat) : Prog := Prog.of [E160 n]
inductive P136 where
  | F (a0 : List (Int × (Int × Int))) (a1 : Int)
  | E0 
  | L0 (x27 : List (Int × (Int × Int))) (x28 x29 x30 : Int)
  | Q6 (x18 : List (Int × (Int × Int))) (x19 x20 x21 : Int)
noncomputable def s136 (n : Nat) (γ : Type) : P136 → (P136 → Option γ) → (Int → Option γ) → Option γ
  | .F a0 a1, k, r =>
    cond ((ltB a1 (0 : Int))) (
      r (0 : Int)) (
      cond ((leB (List.length a0 : Int) a1)) (
        r (0 : Int)) (
        k (.L0 a0 a1 (1 : Int) a1)))
  | .E0, k, r =>
    r (0 : Int)
  | .L0 x27 x28 x29 x30, k, r =>
    cond ((ltB x30 (List.length x27 : Int))) (
      if 0 ≤ x30 then (
      if x30 < (List.length x27 : Int) then (
      (p160 n (List.getD x27 (Int.toNat x30) ((0 : Int), ((0 : Int), (0 : Int))))).bind fun y31 =>
      cond ((!y31)) (
        r (0 : Int)) (
        if 0 ≤ x30 then (
        if x30 < (List.length x27 : Int) then (
        let u32 : Bool := (eqB (List.getD x27 (Int.toNat x30) ((0 : Int), ((0 : Int), (0 : Int)))).1 (3 : Int))
        cond (u32) (
          if 0 ≤ x30 then (
          if x30 < (List.length x27 : Int) then (
          let u33 : Int := (w64 ((w64 (x29 - (1 : Int))) + (List.getD x27 (Int.toNat x30) ((0 : Int), ((0 : Int), (0 : Int)))).2.2))
          if 0 ≤ x30 then (
          if x30 < (List.length x27 : Int) then (
          let u34 : Bool := (eqB (List.getD x27 (Int.toNat x30) ((0 : Int), ((0 : Int), (0 : Int)))).1 (4 : Int))
          cond (u34) (
            cond ((eqB (w64 (u33 + (1 : Int))) (0 : Int))) (
              let u35 : Int := (w64 ((w64 (x30 - x28)) + (1 : Int)))
              r u35) (
              k (.Q6 x27 x28 (w64 (u33 + (1 : Int))) x30))) (
            cond ((eqB u33 (0 : Int))) (
              let u36 : Int := (w64 ((w64 (x30 - x28)) + (1 : Int)))
              r u36) (
              k (.Q6 x27 x28 u33 x30)))) else none) else none) else none) else none) (
          if 0 ≤ x30 then (
          if x30 < (List.length x27 : Int) then (
          let u37 : Bool := (eqB (List.getD x27 (Int.toNat x30) ((0 : Int), ((0 : Int), (0 : Int)))).1 (4 : Int))
          cond (u37) (
            let u38 : Int := (w64 ((w64 (x29 - (1 : Int))) + (1 : Int)))
            cond ((eqB u38 (0 : Int))) (
              let u39 : Int := (w64 ((w64 (x30 - x28)) + (1 : Int)))
              r u39) (
              k (.Q6 x27 x28 u38 x30))) (
            cond ((eqB (w64 (x29 - (1 : Int))) (0 : Int))) (
              let u40 : Int := (w64 ((w64 (x30 - x28)) + (1 : Int)))
              r u40) (
              k (.Q6 x27 x28 (w64 (x29 - (1 : Int))) x30)))) else none) else none)) else none) else none)) else none) else none) (
      k .E0)
  | .Q6 x18 x19 x20 x21, k, r =>
    k (.L0 x18 x19 x20 (w64 (x21 + (1 : Int))))
theorem nat136 (n : Nat) : NatS (s136 n) := fun g p k r => by
  cases p <;> simp only [s136, bind_cond, bind_ite, Option.bind_assoc, Option.bind_none]
theorem us136 {n m : Nat} (h : n ≤ m) : UpS (s136 n) (s136 m) := fun γ p k r => by
  cases p <;> dsimp only [s136] <;> repeat' first | with_reducible exact up_rfl | apply up_cond | apply up_ite | apply up_bind | apply up160 h | intro
noncomputable def k136_0 (n : Nat)  : Ex → St → Option (List CRes × List CVar) := finK' Γ f136 a136 0
noncomputable def c136_0 : Code := partB (bodyOf f136)
noncomputable def c136_1 : Code := partB c136_0
noncomputable def c136_2 : Code := partB c136_1
noncomputable def c136_3 : Code := partB c136_2
noncomputable def k136_1 (n : Nat)  : Ex → St → Option (List CRes × List CVar) := seqK Γ (Φ136 n) a136 n c136_3 0 (k136_0 n)
noncomputable def c136_4 : Code := partA c136_2
noncomputable def c136_5 : Code := partB c136_4
noncomputable def c136_6 : Code := partA c136_5
noncomputable def c136_7 : Code := partA c136_6
noncomputable def k136_2 (n : Nat)  : Ex → St → Option (List CRes × List CVar) := blockK a136 0 (k136_1 n)
noncomputable def c136_8 : Code := partB c136_7
noncomputable def c136_9 : Code := partB c136_8
noncomputable def k136_3 (n : Nat) (u : Nat → Nat) : Ex → St → Option (List CRes × List CVar) := roundK Γ (Φ136 n) a136 n c136_7 0 (u 0) (k136_2 n)
noncomputable def M136 (n : Nat) (u : Nat → Nat) : P136 → Option (List CRes × List CVar)
  | .F a0 a1 => stepIn (fun A => codeK Γ (Φ136 n) a136 n (bodyOf f136) 0 A (k136_0 n)) (mkSt 57 57 [(0, (.val TyS38 a0)), (1, (iv a1))] [])
  | .E0 => stepIn ((k136_1 n) .normal) (mkSt 57 57 [] [])
  | .L0 x27 x28 x29 x30 => stepIn (fun A => loopK Γ (Φ136 n) a136 n c136_7 0 (u 0) A (k136_2 n)) (mkSt 57 57 [(0, (.val TyS38 x27)), (1, (iv x28)), (5, (iv x29)), (6, (iv x30))] [])
  | .Q6 x18 x19 x20 x21 => stepIn (fun A => codeK Γ (Φ136 n) a136 n c136_9 0 A (k136_3 n u)) (mkSt 57 57 [(0, (.val TyS38 x18)), (1, (iv x19)), (5, (iv x20)), (6, (iv x21))] [])
theorem h136 (n : Nat) (u : Nat → Nat) : ∀ p, (∀ i, 1 ≤ u i) → Ok1 (s136 n) e136 n (M136 n) u p
  | .F a0 a1, _ => pl [] (at_code rfl ((codeK_seq (by kernel_rfl)).trans (by kernel_rfl)))
  | .E0, _ => pl [] (by kernel_rfl)
  | .L0 x27 x28 x29 x30, hu => hd 0 [0] hu fun m hm => (loopK_at hm).trans ((codeK_seq (by kernel_rfl)).trans ((codeK_seq (by kernel_rfl)).trans (by kernel_rfl)))
  | .Q6 x18 x19 x20 x21, _ => pl [0] (by kernel_rfl)
noncomputable def p136 (n : Nat) (a0 : List (Int × (Int × Int))) (a1 : Int) : Option (Int) := flow (s136 n) n (.F a0 a1)
theorem up136 {n m : Nat} (h : n ≤ m) (a0 : List (Int × (Int × Int))) (a1 : Int) : Up (p136 n a0 a1) (p136 m a0 a1) := flow_up (nat136 n) (us136 h) h _
noncomputable def E136 (n : Nat) : Entry := mkE 136 .flat [.tree TyS38, .tree I64] [] (fun a b => p136 n a.1 a.2.1) e136
theorem ok136 (n : Nat) : EntryOk prog (E136 n) := mkE_ok (Φ := Φ136 n) (ann := a136) (n := n) (F := f136) (by kernel_rfl) (by kernel_rfl) (by kernel_rfl) (known_prog (known_cons (ok160 n) known_nil)) mixed fun a b y h =>
  (show _ = M136 n (fun _ => n) (.F a.1 a.2.1) by kernel_rfl).trans (flow_sound (nat136 n) (h136 n) n _ _ y (Nat.le_refl _) (fun _ => Nat.le_refl _) h)
/-! ### F138 horarium/horariumref3.Kids -/
noncomputable def a138 : Ann := { loops := [(0, { vars := [], sites := [6], slots := [(0, .keep), (1, .keep), (5, .keep), (6, .tree (.ow 3 I64)), (7, .keep)] })], ends := [(0, { vars := [], sites := [6], slots := [(6, .tree (.ow 3 I64))] })], res := [(.ow 3 I64)] }
noncomputable def e138 (y : List Int) : List CRes × List CVar := ([.v (.ow 3 I64) y], [])
noncomputable def Φ138 (n : Nat) : Prog := Prog.of [E136 n]
inductive P138 where
  | F (a0 : List (Int × (Int × Int))) (a1 : Int)
  | E0 (x17 : List Int)
  | L0 (x11 : List (Int × (Int × Int))) (x12 x13 x14 : Int) (x15 : List Int)
noncomputable def s138 (n : Nat) (γ : Type) : P138 → (P138 → Option γ) → ((List Int) → Option γ) → Option γ
  | .F a0 a1, k, r =>
    (p136 n a0 a1).bind fun y1 =>
    cond ((eqB y1 (0 : Int))) (
      r ([] : (List Int))) (
      k (.L0 a0 a1 y1 (w64 (a1 + (1 : Int))) ([] : (List Int))))
  | .E0 x17, k, r =>
    r x17
  | .L0 x11 x12 x13 x14 x15, k, r =>
    cond ((ltB x14 (w64 (x12 + x13)))) (
      if (List.length x15 + List.length [x14]) * 8 ≤ 140737488355328 then (
      (p136 n x11 x14).bind fun y16 =>
      k (.L0 x11 x12 x13 (w64 (x14 + y16)) (x15 ++ [x14]))) else none) (
      k (.E0 x15))
theorem nat138 (n : Nat) : NatS (s138 n) := fun g p k r => by
  cases p <;> simp only [s138, bind_cond, bind_ite, Option.bind_assoc, Option.bind_none]
theorem us138 {n m : Nat} (h : n ≤ m) : UpS (s138 n) (s138 m) := fun γ p k r => by
  cases p <;> dsimp only [s138] <;> repeat' first | with_reducible exact up_rfl | apply up_cond | apply up_ite | apply up_bind | apply up136 h | intro
noncomputable def k138_0 (n : Nat)  : Ex → St → Option (List CRes × List CVar) := finK' Γ f138 a138 0
noncomputable def c138_0 : Code := partB (bodyOf f138)
noncomputable def c138_1 : Code := partB c138_0
noncomputable def c138_2 : Code := partB c138_1
noncomputable def c138_3 : Code := partB c138_2
noncomputable def c138_4 : Code := partB c138_3
noncomputable def k138_1 (n : Nat)  : Ex → St → Option (List CRes × List CVar) := seqK Γ (Φ138 n) a138 n c138_4 0 (k138_0 n)
noncomputable def c138_5 : Code := partA c138_3
noncomputable def c138_6 : Code := partB c138_5
noncomputable def c138_7 : Code := partA c138_6
noncomputable def c138_8 : Code := partA c138_7
noncomputable def k138_2 (n : Nat)  : Ex → St → Option (List CRes × List CVar) := blockK a138 0 (k138_1 n)
noncomputable def M138 (n : Nat) (u : Nat → Nat) : P138 → Option (List CRes × List CVar)
  | .F a0 a1 => stepIn (fun A => codeK Γ (Φ138 n) a138 n (bodyOf f138) 0 A (k138_0 n)) (mkSt 31 31 [(0, (.val TyS38 a0)), (1, (iv a1))] [])
  | .E0 x17 => stepIn ((k138_1 n) .normal) (mkSt 31 31 [(6, (.ref 6 []))] [(6, .tmp (.ow 3 I64) x17)])
  | .L0 x11 x12 x13 x14 x15 => stepIn (fun A => loopK Γ (Φ138 n) a138 n c138_8 0 (u 0) A (k138_2 n)) (mkSt 31 31 [(0, (.val TyS38 x11)), (1, (iv x12)), (5, (iv x13)), (6, (.ref 6 [])), (7, (iv x14))] [(6, .tmp (.ow 3 I64) x15)])
theorem h138 (n : Nat) (u : Nat → Nat) : ∀ p, (∀ i, 1 ≤ u i) → Ok1 (s138 n) e138 n (M138 n) u p
  | .F a0 a1, _ => pl [] (at_code rfl ((codeK_seq (by kernel_rfl)).trans (by kernel_rfl)))
  | .E0 x17, _ => pl [] (by kernel_rfl)
  | .L0 x11 x12 x13 x14 x15, hu => hd 0 [0] hu fun m hm => (loopK_at hm).trans ((codeK_seq (by kernel_rfl)).trans ((codeK_seq (by kernel_rfl)).trans (by kernel_rfl)))
noncomputable def p138 (n : Nat) (a0 : List (Int × (Int × Int))) (a1 : Int) : Option (List Int) := flow (s138 n) n (.F a0 a1)
theorem up138 {n m : Nat} (h : n ≤ m) (a0 : List (Int × (Int × Int))) (a1 : Int) : Up (p138 n a0 a1) (p138 m a0 a1) := flow_up (nat138 n) (us138 h) h _
noncomputable def E138 (n : Nat) : Entry := mkE 138 .look [.tree TyS38, .tree I64] [] (fun a b => p138 n a.1 a.2.1) e138
theorem ok138 (n : Nat) : EntryOk prog (E138 n) := mkE_ok (Φ := Φ138 n) (ann := a138) (n := n) (F := f138) (by kernel_rfl) (by kernel_rfl) (by kernel_rfl) (known_prog (known_cons (ok136 n) known_nil)) mixed fun a b y h =>
  (show _ = M138 n (fun _ => n) (.F a.1 a.2.1) by kernel_rfl).trans (flow_sound (nat138 n) (h138 n) n _ _ y (Nat.le_refl _) (fun _ => Nat.le_refl _) h)
/-! ### F137 horarium/horariumref3.depth -/
noncomputable def a137 : Ann := { loops := [(0, { vars := [], sites := [10], slots := [(0, .keep), (5, .keep), (10, .tree (.ow 3 I64)), (11, .keep), (12, .keep)] })], ends := [(0, { vars := [], sites := [], slots := [(5, .keep)] })], res := [I64] }
noncomputable def e137 (y : Int) : List CRes × List CVar := ([.v I64 y], [])
noncomputable def Es137 (n : Nat) (slf : (List (Int × (Int × Int))) → Int → Option (Int)) : Entry := mkE 137 .flat [.tree TyS38, .tree I64] [] (fun a b => slf a.1 a.2.1) e137
noncomputable def Φ137 (n : Nat) (slf : (List (Int × (Int × Int))) → Int → Option (Int)) : Prog := Prog.of [Es137 n slf, E138 n]
inductive P137 where
  | F (a0 : List (Int × (Int × Int))) (a1 : Int)
  | E0 (x15 : Int)
  | L0 (x9 : List (Int × (Int × Int))) (x10 x11 x12 : Int) (x13 : List Int)
noncomputable def s137 (n : Nat) (slf : (List (Int × (Int × Int))) → Int → Option (Int)) (γ : Type) : P137 → (P137 → Option γ) → (Int → Option γ) → Option γ
  | .F a0 a1, k, r =>
    (p138 n a0 a1).bind fun y1 =>
    k (.L0 a0 (0 : Int) (List.length y1 : Int) (0 : Int) y1)
  | .E0 x15, k, r =>
    r (w64 (x15 + (1 : Int)))
  | .L0 x9 x10 x11 x12 x13, k, r =>
    cond ((ltB x12 x11)) (
      if 0 ≤ x12 then (
      if x12 < (List.length x13 : Int) then (
      (slf x9 (List.getD x13 (Int.toNat x12) (0 : Int))).bind fun y14 =>
      k (.L0 x9 (max x10 y14) x11 (w64 (x12 + (1 : Int))) x13)) else none) else none) (
      k (.E0 x10))
theorem nat137 (n : Nat) (slf : (List (Int × (Int × Int))) → Int → Option (Int)) : NatS (s137 n slf) := fun g p k r => by
  cases p <;> simp only [s137, bind_cond, bind_ite, Option.bind_assoc, Option.bind_none]
theorem us137 {n m : Nat} (h : n ≤ m) {slf slf' : (List (Int × (Int × Int))) → Int → Option (Int)} (hs : ∀ a0 a1, Up (slf a0 a1) (slf' a0 a1)) : UpS (s137 n slf) (s137 m slf') := fun γ p k r => by
  cases p <;> dsimp only [s137] <;> repeat' first | with_reducible exact up_rfl | apply up_cond | apply up_ite | apply up_bind | apply up138 h | apply hs | intro
noncomputable def k137_0 (n : Nat) (slf : (List (Int × (Int × Int))) → Int → Option (Int))  : Ex → St → Option (List CRes × List CVar) := finK' Γ f137 a137 0
noncomputable def c137_0 : Code := partB (bodyOf f137)
noncomputable def c137_1 : Code := partB c137_0
noncomputable def c137_2 : Code := partB c137_1
noncomputable def k137_1 (n : Nat) (slf : (List (Int × (Int × Int))) → Int → Option (Int))  : Ex → St → Option (List CRes × List CVar) := seqK Γ (Φ137 n slf) a137 n c137_2 0 (k137_0 n slf)
noncomputable def c137_3 : Code := partA c137_1
noncomputable def c137_4 : Code := partB c137_3
noncomputable def c137_5 : Code := partA c137_4
noncomputable def c137_6 : Code := partA c137_5
noncomputable def k137_2 (n : Nat) (slf : (List (Int × (Int × Int))) → Int → Option (Int))  : Ex → St → Option (List CRes × List CVar) := blockK a137 0 (k137_1 n slf)
noncomputable def M137 (n : Nat) (slf : (List (Int × (Int × Int))) → Int → Option (Int)) (u : Nat → Nat) : P137 → Option (List CRes × List CVar)
  | .F a0 a1 => stepIn (fun A => codeK Γ (Φ137 n slf) a137 n (bodyOf f137) 0 A (k137_0 n slf)) (mkSt 24 24 [(0, (.val TyS38 a0)), (1, (iv a1))] [])
  | .E0 x15 => stepIn ((k137_1 n slf) .normal) (mkSt 24 24 [(5, (iv x15))] [])
  | .L0 x9 x10 x11 x12 x13 => stepIn (fun A => loopK Γ (Φ137 n slf) a137 n c137_6 0 (u 0) A (k137_2 n slf)) (mkSt 24 24 [(0, (.val TyS38 x9)), (5, (iv x10)), (10, (.ref 10 [])), (11, (iv x11)), (12, (iv x12))] [(10, .tmp (.ow 3 I64) x13)])
theorem h137 (n : Nat) (slf : (List (Int × (Int × Int))) → Int → Option (Int)) (u : Nat → Nat) : ∀ p, (∀ i, 1 ≤ u i) → Ok1 (s137 n slf) e137 n (M137 n slf) u p
  | .F a0 a1, _ => pl [] (at_code rfl ((codeK_seq (by kernel_rfl)).trans (by kernel_rfl)))
  | .E0 x15, _ => pl [] (by kernel_rfl)
  | .L0 x9 x10 x11 x12 x13, hu => hd 0 [0] hu fun m hm => (loopK_at hm).trans ((codeK_seq (by kernel_rfl)).trans (by kernel_rfl))
noncomputable def p137' (n : Nat) (m : Nat) : (List (Int × (Int × Int))) → Int → Option (Int) := Nat.rec (fun _ _ => none) (fun _ slf a0 a1 => flow (s137 n slf) n (.F a0 a1)) m
noncomputable def p137 (n : Nat) : (List (Int × (Int × Int))) → Int → Option (Int) := p137' n n
theorem up137' {n m : Nat} (h : n ≤ m) : ∀ {a b : Nat}, a ≤ b → ∀ a0 a1, Up (p137' n a a0 a1) (p137' m b a0 a1)
  | 0, _, _, _, _ => fun v hv => by cases hv
  | _ + 1, 0, h1, _, _ => by omega
  | a + 1, b + 1, h1, a0, a1 => flow_up (nat137 n _) (us137 h fun a0 a1 => up137' h (Nat.le_of_succ_le_succ h1) a0 a1) h _
theorem up137 {n m : Nat} (h : n ≤ m) (a0 : List (Int × (Int × Int))) (a1 : Int) : Up (p137 n a0 a1) (p137 m a0 a1) := up137' h h a0 a1
noncomputable def E137 (n : Nat) : Entry := Es137 n (p137 n)
theorem ok137' (n : Nat) : ∀ m : Nat, EntryOk prog (Es137 n (p137' n m))
  | 0 => mkE_none (F := f137) (by kernel_rfl) (by kernel_rfl) (by kernel_rfl) fun _ _ => rfl
  | m + 1 => mkE_ok (Φ := Φ137 n (p137' n m)) (ann := a137) (n := n) (F := f137) (by kernel_rfl) (by kernel_rfl) (by kernel_rfl) (known_prog (known_cons (ok137' n m) (known_cons (ok138 n) known_nil))) mixed fun a b y h =>
    (show _ = M137 n (p137' n m) (fun _ => n) (.F a.1 a.2.1) by kernel_rfl).trans (flow_sound (nat137 n (p137' n m)) (h137 n (p137' n m)) n _ _ y (Nat.le_refl _) (fun _ => Nat.le_refl _) h)
theorem ok137 (n : Nat) : EntryOk prog (E137 n) := ok137' n n
/-! ### F85 horarium/horariumref3.Depth -/
noncomputable def a85 : Ann := { res := [I64] }
noncomputable def e85 (y : Int) : List CRes × List CVar := ([.v I64 y], [])
noncomputable def Φ85 (n : Nat) : Prog := Prog.of [E136 n, E137 n]
inductive P85 where
  | F (a0 : List (Int × (Int × Int)))
noncomputable def s85 (n : Nat) (γ : Type) : P85 → (P85 → Option γ) → (Int → Option γ) → Option γ
  | .F a0, k, r =>
    cond ((eqB (List.length a0 : Int) (0 : Int))) (
      r (0 : Int)) (
      (p136 n a0 (0 : Int)).bind fun y1 =>
      cond ((!eqB y1 (List.length a0 : Int))) (
        r (0 : Int)) (
        (p137 n a0 (0 : Int)).bind fun y2 =>
        r y2))
theorem nat85 (n : Nat) : NatS (s85 n) := fun g p k r => by
  cases p <;> simp only [s85, bind_cond, bind_ite, Option.bind_assoc, Option.bind_none]
theorem us85 {n m : Nat} (h : n ≤ m) : UpS (s85 n) (s85 m) := fun γ p k r => by
  cases p <;> dsimp only [s85] <;> repeat' first | with_reducible exact up_rfl | apply up_cond | apply up_ite | apply up_bind | apply up136 h | apply up137 h | intro
noncomputable def k85_0 (n : Nat)  : Ex → St → Option (List CRes × List CVar) := finK' Γ f85 a85 0
noncomputable def M85 (n : Nat) (u : Nat → Nat) : P85 → Option (List CRes × List CVar)
  | .F a0 => stepIn (fun A => codeK Γ (Φ85 n) a85 n (bodyOf f85) 0 A (k85_0 n)) (mkSt 15 15 [(0, (.val TyS38 a0))] [])
theorem h85 (n : Nat) (u : Nat → Nat) : ∀ p, (∀ i, 1 ≤ u i) → Ok1 (s85 n) e85 n (M85 n) u p
  | .F a0, _ => pl [] (at_code rfl ((codeK_seq (by kernel_rfl)).trans (by kernel_rfl)))
noncomputable def p85 (n : Nat) (a0 : List (Int × (Int × Int))) : Option (Int) := flow (s85 n) n (.F a0)
theorem up85 {n m : Nat} (h : n ≤ m) (a0 : List (Int × (Int × Int))) : Up (p85 n a0) (p85 m a0) := flow_up (nat85 n) (us85 h) h _
noncomputable def E85 (n : Nat) : Entry := mkE 85 .flat [.tree TyS38] [] (fun a b => p85 n a.1) e85
theorem ok85 (n : Nat) : EntryOk prog (E85 n) := mkE_ok (Φ := Φ85 n) (ann := a85) (n := n) (F := f85) (by kernel_rfl) (by kernel_rfl) (by kernel_rfl) (known_prog (known_cons (ok136 n) (known_cons (ok137 n) known_nil))) mixed fun a b y h =>
  (show _ = M85 n (fun _ => n) (.F a.1) by kernel_rfl).trans (flow_sound (nat85 n) (h85 n) n _ _ y (Nat.le_refl _) (fun _ => Nat.le_refl _) h)
/-! ### F86 horarium/horariumref3.length -/
noncomputable def a86 : Ann := { loops := [(0, { vars := [], sites := [10], slots := [(0, .keep), (1, .keep), (5, .keep), (10, .tree (.ow 3 I64)), (11, .keep), (12, .keep)] })], ends := [(0, { vars := [], sites := [], slots := [(0, .keep), (1, .keep), (5, .keep)] })], res := [I64] }
noncomputable def e86 (y : Int) : List CRes × List CVar := ([.v I64 y], [])
noncomputable def Es86 (n : Nat) (slf : (List (Int × (Int × Int))) → Int → Option (Int)) : Entry := mkE 86 .flat [.tree TyS38, .tree I64] [] (fun a b => slf a.1 a.2.1) e86
noncomputable def Φ86 (n : Nat) (slf : (List (Int × (Int × Int))) → Int → Option (Int)) : Prog := Prog.of [Es86 n slf, E138 n]
inductive P86 where
  | F (a0 : List (Int × (Int × Int))) (a1 : Int)
  | E0 (x17 : List (Int × (Int × Int))) (x18 x19 : Int)
  | L0 (x10 : List (Int × (Int × Int))) (x11 x12 x13 x14 : Int) (x15 : List Int)
noncomputable def s86 (n : Nat) (slf : (List (Int × (Int × Int))) → Int → Option (Int)) (γ : Type) : P86 → (P86 → Option γ) → (Int → Option γ) → Option γ
  | .F a0 a1, k, r =>
    (p138 n a0 a1).bind fun y1 =>
    k (.L0 a0 a1 (0 : Int) (List.length y1 : Int) (0 : Int) y1)
  | .E0 x17 x18 x19, k, r =>
    if 0 ≤ x18 then (
    if x18 < (List.length x17 : Int) then (
    let u20 : Bool := (eqB (List.getD x17 (Int.toNat x18) ((0 : Int), ((0 : Int), (0 : Int)))).1 (3 : Int))
    cond (u20) (
      r x19) (
      let u21 : Bool := (eqB (List.getD x17 (Int.toNat x18) ((0 : Int), ((0 : Int), (0 : Int)))).1 (4 : Int))
      cond (u21) (
        if 0 ≤ x18 then (
        if x18 < (List.length x17 : Int) then (
        let u22 : Int := (min (List.getD x17 (Int.toNat x18) ((0 : Int), ((0 : Int), (0 : Int)))).2.2 (4097 : Int))
        r (min (w64 (x19 * u22)) (4097 : Int))) else none) else none) (
        if 0 ≤ x18 then (
        if x18 < (List.length x17 : Int) then (
        let u23 : Int := (min (List.getD x17 (Int.toNat x18) ((0 : Int), ((0 : Int), (0 : Int)))).2.2 (4097 : Int))
        r u23) else none) else none))) else none) else none
  | .L0 x10 x11 x12 x13 x14 x15, k, r =>
    cond ((ltB x14 x13)) (
      if 0 ≤ x14 then (
      if x14 < (List.length x15 : Int) then (
      (slf x10 (List.getD x15 (Int.toNat x14) (0 : Int))).bind fun y16 =>
      k (.L0 x10 x11 (min (w64 (x12 + y16)) (4097 : Int)) x13 (w64 (x14 + (1 : Int))) x15)) else none) else none) (
      k (.E0 x10 x11 x12))
theorem nat86 (n : Nat) (slf : (List (Int × (Int × Int))) → Int → Option (Int)) : NatS (s86 n slf) := fun g p k r => by
  cases p <;> simp only [s86, bind_cond, bind_ite, Option.bind_assoc, Option.bind_none]
theorem us86 {n m : Nat} (h : n ≤ m) {slf slf' : (List (Int × (Int × Int))) → Int → Option (Int)} (hs : ∀ a0 a1, Up (slf a0 a1) (slf' a0 a1)) : UpS (s86 n slf) (s86 m slf') := fun γ p k r => by
  cases p <;> dsimp only [s86] <;> repeat' first | with_reducible exact up_rfl | apply up_cond | apply up_ite | apply up_bind | apply up138 h | apply hs | intro
noncomputable def k86_0 (n : Nat) (slf : (List (Int × (Int × Int))) → Int → Option (Int))  : Ex → St → Option (List CRes × List CVar) := finK' Γ f86 a86 0
noncomputable def c86_0 : Code := partB (bodyOf f86)
noncomputable def c86_1 : Code := partB c86_0
noncomputable def c86_2 : Code := partB c86_1
noncomputable def k86_1 (n : Nat) (slf : (List (Int × (Int × Int))) → Int → Option (Int))  : Ex → St → Option (List CRes × List CVar) := seqK Γ (Φ86 n slf) a86 n c86_2 0 (k86_0 n slf)
noncomputable def c86_3 : Code := partA c86_1
noncomputable def c86_4 : Code := partB c86_3
noncomputable def c86_5 : Code := partA c86_4
noncomputable def c86_6 : Code := partA c86_5
noncomputable def k86_2 (n : Nat) (slf : (List (Int × (Int × Int))) → Int → Option (Int))  : Ex → St → Option (List CRes × List CVar) := blockK a86 0 (k86_1 n slf)
noncomputable def M86 (n : Nat) (slf : (List (Int × (Int × Int))) → Int → Option (Int)) (u : Nat → Nat) : P86 → Option (List CRes × List CVar)
  | .F a0 a1 => stepIn (fun A => codeK Γ (Φ86 n slf) a86 n (bodyOf f86) 0 A (k86_0 n slf)) (mkSt 48 48 [(0, (.val TyS38 a0)), (1, (iv a1))] [])
  | .E0 x17 x18 x19 => stepIn ((k86_1 n slf) .normal) (mkSt 48 48 [(0, (.val TyS38 x17)), (1, (iv x18)), (5, (iv x19))] [])
  | .L0 x10 x11 x12 x13 x14 x15 => stepIn (fun A => loopK Γ (Φ86 n slf) a86 n c86_6 0 (u 0) A (k86_2 n slf)) (mkSt 48 48 [(0, (.val TyS38 x10)), (1, (iv x11)), (5, (iv x12)), (10, (.ref 10 [])), (11, (iv x13)), (12, (iv x14))] [(10, .tmp (.ow 3 I64) x15)])
theorem h86 (n : Nat) (slf : (List (Int × (Int × Int))) → Int → Option (Int)) (u : Nat → Nat) : ∀ p, (∀ i, 1 ≤ u i) → Ok1 (s86 n slf) e86 n (M86 n slf) u p
  | .F a0 a1, _ => pl [] (at_code rfl ((codeK_seq (by kernel_rfl)).trans (by kernel_rfl)))
  | .E0 x17 x18 x19, _ => pl [] (by kernel_rfl)
  | .L0 x10 x11 x12 x13 x14 x15, hu => hd 0 [0] hu fun m hm => (loopK_at hm).trans ((codeK_seq (by kernel_rfl)).trans (by kernel_rfl))
noncomputable def p86' (n : Nat) (m : Nat) : (List (Int × (Int × Int))) → Int → Option (Int) := Nat.rec (fun _ _ => none) (fun _ slf a0 a1 => flow (s86 n slf) n (.F a0 a1)) m
noncomputable def p86 (n : Nat) : (List (Int × (Int × Int))) → Int → Option (Int) := p86' n n
theorem up86' {n m : Nat} (h : n ≤ m) : ∀ {a b : Nat}, a ≤ b → ∀ a0 a1, Up (p86' n a a0 a1) (p86' m b a0 a1)
  | 0, _, _, _, _ => fun v hv => by cases hv
  | _ + 1, 0, h1, _, _ => by omega
  | a + 1, b + 1, h1, a0, a1 => flow_up (nat86 n _) (us86 h fun a0 a1 => up86' h (Nat.le_of_succ_le_succ h1) a0 a1) h _
theorem up86 {n m : Nat} (h : n ≤ m) (a0 : List (Int × (Int × Int))) (a1 : Int) : Up (p86 n a0 a1) (p86 m a0 a1) := up86' h h a0 a1
noncomputable def E86 (n : Nat) : Entry := Es86 n (p86 n)
theorem ok86' (n : Nat) : ∀ m : Nat, EntryOk prog (Es86 n (p86' n m))
  | 0 => mkE_none (F := f86) (by kernel_rfl) (by kernel_rfl) (by kernel_rfl) fun _ _ => rfl
  | m + 1 => mkE_ok (Φ := Φ86 n (p86' n m)) (ann := a86) (n := n) (F := f86) (by kernel_rfl) (by kernel_rfl) (by kernel_rfl) (known_prog (known_cons (ok86' n m) (known_cons (ok138 n) known_nil))) mixed fun a b y h =>
    (show _ = M86 n (p86' n m) (fun _ => n) (.F a.1 a.2.1) by kernel_rfl).trans (flow_sound (nat86 n (p86' n m)) (h86 n (p86' n m)) n _ _ y (Nat.le_refl _) (fun _ => Nat.le_refl _) h)
theorem ok86 (n : Nat) : EntryOk prog (E86 n) := ok86' n n
end Go.Am
