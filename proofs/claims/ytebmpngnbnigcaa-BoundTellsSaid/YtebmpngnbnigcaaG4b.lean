/- G4b: functions as steps, printed by wip/tools/gen6.py. -/
import Derived.Test.YtebmpngnbnigcaaS1Tys
import Derived.Test.YtebmpngnbnigcaaG3
import Derived.Test.YtebmpngnbnigcaaG4a
set_option linter.unusedVariables false
set_option linter.unusedSimpArgs false
set_option maxRecDepth 20000
set_option maxHeartbeats 0
namespace Go.Am
open Go.Proofs.Try
/-! ### F150 horarium/horariumref12.chanRight -/
noncomputable def a150 : Ann := { res := [.bool] }
noncomputable def e150 (y : Bool) : List CRes × List CVar := ([.v .bool y], [])
noncomputable def Φ150 (n : Nat) : Prog := Prog.of []
inductive P150 where
  | F (a0 : Int × (Int × (Bool × (Int × (Int × Int))))) (a1 : Int)
noncomputable def s150 (n : Nat) (γ : Type) : P150 → (P150 → Option γ) → (Bool → Option γ) → Option γ
  | .F a0 a1, k, r =>
    cond ((ltB a0.1 (0 : Int))) (
      r false) (
      cond ((leB a1 a0.1)) (
        r false) (
        cond ((ltB a0.2.1 (0 : Int))) (
          r false) (
          cond ((leB a1 a0.2.1)) (
            r false) (
            cond ((eqB a0.1 a0.2.1)) (
              r false) (
              cond ((ltB a0.2.2.2.2.2 (0 : Int))) (
                r false) (
                cond ((ltB (4096 : Int) a0.2.2.2.2.2)) (
                  r false) (
                  cond (a0.2.2.1) (
                    cond ((leB (1 : Int) a0.2.2.2.1)) (
                      cond ((leB a0.2.2.2.1 (8 : Int))) (
                        r true) (
                        cond ((!a0.2.2.1)) (
                          r (eqB a0.2.2.2.1 (0 : Int))) (
                          r false))) (
                      cond ((!a0.2.2.1)) (
                        r (eqB a0.2.2.2.1 (0 : Int))) (
                        r false))) (
                    cond ((!a0.2.2.1)) (
                      r (eqB a0.2.2.2.1 (0 : Int))) (
                      r false)))))))))
theorem nat150 (n : Nat) : NatS (s150 n) := fun g p k r => by
  cases p <;> simp only [s150, bind_cond, bind_ite, bind_optK, Option.bind_assoc, Option.bind_none]
theorem us150 {n m : Nat} (h : n ≤ m) : UpS (s150 n) (s150 m) := fun γ p k r => by
  cases p <;> dsimp only [s150] <;> repeat' first | with_reducible exact up_rfl | apply up_cond | apply up_ite | apply up_bind | apply up_optK | intro
noncomputable def k150_0 (n : Nat)  : Ex → St → Option (List CRes × List CVar) := finK' Γ f150 a150 0
noncomputable def M150 (n : Nat) (u : Nat → Nat) : P150 → Option (List CRes × List CVar)
  | .F a0 a1 => stepIn (fun A => codeK Γ (Φ150 n) a150 n (bodyOf f150) 0 A (k150_0 n)) (mkSt 64 64 [(0, (.val TyO47 a0)), (1, (iv a1))] [])
theorem h150 (n : Nat) (u : Nat → Nat) : ∀ p, (∀ i, 1 ≤ u i) → Ok1 (s150 n) e150 n (M150 n) u p
  | .F a0 a1, _ => pl [] (at_code rfl ((codeK_seq (by kernel_rfl)).trans (by kernel_rfl)))
noncomputable def p150 (n : Nat) (a0 : Int × (Int × (Bool × (Int × (Int × Int))))) (a1 : Int) : Option (Bool) := flow (s150 n) n (.F a0 a1)
theorem up150 {n m : Nat} (h : n ≤ m) (a0 : Int × (Int × (Bool × (Int × (Int × Int))))) (a1 : Int) : Up (p150 n a0 a1) (p150 m a0 a1) := flow_up (nat150 n) (us150 h) h _
noncomputable def E150 (n : Nat) : Entry := mkE 150 .flat [.tree TyO47, .tree I64] [] (fun a b => p150 n a.1 a.2.1) e150
theorem ok150 (n : Nat) : EntryOk prog (E150 n) := mkE_ok (Φ := Φ150 n) (ann := a150) (n := n) (F := f150) (by kernel_rfl) (by kernel_rfl) (by kernel_rfl) (known_prog known_nil) mixed fun a b y h =>
  (show _ = M150 n (fun _ => n) (.F a.1 a.2.1) by kernel_rfl).trans (flow_sound (nat150 n) (h150 n) n _ _ y (Nat.le_refl _) (fun _ => Nat.le_refl _) h)
/-! ### F28 horarium/horariumref7.Holds -/
noncomputable def a28 : Ann := { draws := [(11, { order := [0, 1, 2, 3, 4, 5, 6, 7, 9, 10, 8, 11, 12], touch := [(8, [])] })], loops := [(0, { vars := [], sites := [2], slots := [(1, .keep), (2, .keep), (11, .keep), (12, .keep), (13, .keep)] }), (2, { vars := [], sites := [], slots := [(1, .keep), (38, .keep), (39, .keep), (40, .keep)] })], ends := [(0, { vars := [], sites := [2], slots := [(1, .keep), (2, .keep)] }), (2, { vars := [], sites := [], slots := [] })], res := [I64] }
noncomputable def e28 (y : Int) : List CRes × List CVar := ([.v I64 y], [])
noncomputable def Φ28 (n : Nat) : Prog := Prog.of [E24 n, E77 n]
inductive P28 where
  | F (a0 : Vl32 × (Vl33 × Vl34)) (a1 : List (Int × Int))
  | E0 (x24 : List (Int × Int)) (x25 : List Vl51) (x26 : List Vl47) (x27 : List (List (Int × (Int × Int))))
  | L0 (x14 : List (Int × Int)) (x15 : List Vl47) (x16 x17 : Int) (x18 : List Vl51) (x19 : List Vl47) (x20 : List (List (Int × (Int × Int))))
  | E2 
  | L2 (x38 : List (Int × Int)) (x39 : List Vl51) (x40 x41 : Int)
noncomputable def s28 (n : Nat) (γ : Type) : P28 → (P28 → Option γ) → (Int → Option γ) → Option γ
  | .F a0 a1, k, r =>
    k (.L0 a1 a0.2.1 (List.length a0.2.1 : Int) (0 : Int) a0.1 a0.2.1 a0.2.2)
  | .E0 x24 x25 x26 x27, k, r =>
    k (.L2 x24 x25 (List.length x25 : Int) (0 : Int))
  | .L0 x14 x15 x16 x17 x18 x19 x20, k, r =>
    cond ((ltB x17 x16)) (
      if 0 ≤ x17 then (
      if x17 < (List.length x15 : Int) then (
      (p77 n x14 (List.getD x15 (Int.toNat x17) ((0 : Int), ((0 : Int), (false, ((0 : Int), ((0 : Int), (0 : Int))))))).1 (List.getD x15 (Int.toNat x17) ((0 : Int), ((0 : Int), (false, ((0 : Int), ((0 : Int), (0 : Int))))))).2.1).bind fun y21 =>
      let u22 : Bool := (ltB (0 : Int) (List.getD x15 (Int.toNat x17) ((0 : Int), ((0 : Int), (false, ((0 : Int), ((0 : Int), (0 : Int))))))).2.2.2.2.2)
      cond (u22) (
        cond ((ltB y21 (0 : Int))) (
          r (19 : Int)) (
          let u23 : Bool := (ltB (List.getD x15 (Int.toNat x17) ((0 : Int), ((0 : Int), (false, ((0 : Int), ((0 : Int), (0 : Int))))))).2.2.2.2.2 y21)
          cond (u23) (
            r (19 : Int)) (
            k (.L0 x14 x15 x16 (w64 (x17 + (1 : Int))) x18 x19 x20)))) (
        k (.L0 x14 x15 x16 (w64 (x17 + (1 : Int))) x18 x19 x20))) else none) else none) (
      k (.E0 x14 x18 x19 x20))
  | .E2, k, r =>
    r (0 : Int)
  | .L2 x38 x39 x40 x41, k, r =>
    cond ((ltB x41 x40)) (
      if 0 ≤ x41 then (
      if x41 < (List.length x39 : Int) then (
      let u42 : Bool := (ltB (0 : Int) (List.getD x39 (Int.toNat x41) (([] : List UInt8), ((0 : Int), ((0 : Int), (false, (false, (([] : (List (Int × Int))), (List.replicate 5 (0 : Int))))))))).2.1)
      cond (u42) (
        (p24 n x38 x41 (List.getD x39 (Int.toNat x41) (([] : List UInt8), ((0 : Int), ((0 : Int), (false, (false, (([] : (List (Int × Int))), (List.replicate 5 (0 : Int))))))))).2.2.1).bind fun y43 =>
        let u44 : Bool := (ltB y43 (List.getD x39 (Int.toNat x41) (([] : List UInt8), ((0 : Int), ((0 : Int), (false, (false, (([] : (List (Int × Int))), (List.replicate 5 (0 : Int))))))))).2.1)
        cond (u44) (
          r (20 : Int)) (
          k (.L2 x38 x39 x40 (w64 (x41 + (1 : Int)))))) (
        k (.L2 x38 x39 x40 (w64 (x41 + (1 : Int)))))) else none) else none) (
      k .E2)
theorem nat28 (n : Nat) : NatS (s28 n) := fun g p k r => by
  cases p <;> simp only [s28, bind_cond, bind_ite, bind_optK, Option.bind_assoc, Option.bind_none]
theorem us28 {n m : Nat} (h : n ≤ m) : UpS (s28 n) (s28 m) := fun γ p k r => by
  cases p <;> dsimp only [s28] <;> repeat' first | with_reducible exact up_rfl | apply up_cond | apply up_ite | apply up_bind | apply up_optK | apply up24 h | apply up77 h | intro
noncomputable def k28_0 (n : Nat)  : Ex → St → Option (List CRes × List CVar) := finK' Γ f28 a28 0
noncomputable def c28_0 : Code := partB (bodyOf f28)
noncomputable def c28_1 : Code := partB c28_0
noncomputable def k28_1 (n : Nat)  : Ex → St → Option (List CRes × List CVar) := seqK Γ (Φ28 n) a28 n c28_1 0 (k28_0 n)
noncomputable def c28_2 : Code := partA c28_0
noncomputable def c28_3 : Code := partB c28_2
noncomputable def c28_4 : Code := partA c28_3
noncomputable def c28_5 : Code := partA c28_4
noncomputable def k28_2 (n : Nat)  : Ex → St → Option (List CRes × List CVar) := blockK a28 0 (k28_1 n)
noncomputable def c28_6 : Code := partB c28_1
noncomputable def k28_3 (n : Nat)  : Ex → St → Option (List CRes × List CVar) := seqK Γ (Φ28 n) a28 n c28_6 0 (k28_0 n)
noncomputable def c28_7 : Code := partA c28_1
noncomputable def c28_8 : Code := partB c28_7
noncomputable def c28_9 : Code := partA c28_8
noncomputable def c28_10 : Code := partA c28_9
noncomputable def k28_4 (n : Nat)  : Ex → St → Option (List CRes × List CVar) := blockK a28 2 (k28_3 n)
noncomputable def M28 (n : Nat) (u : Nat → Nat) : P28 → Option (List CRes × List CVar)
  | .F a0 a1 => stepIn (fun A => codeK Γ (Φ28 n) a28 n (bodyOf f28) 0 A (k28_0 n)) (mkSt 59 59 [(0, (.val TyS35 a0)), (1, (.val (.sh 44 (.pair I64 I64)) a1))] [])
  | .E0 x24 x25 x26 x27 => stepIn ((k28_1 n) .normal) (mkSt 59 59 [(1, (.val (.sh 44 (.pair I64 I64)) x24)), (2, (.ptr 2 []))] [(2, .var 36 TyS35 (x25, (x26, x27)))])
  | .L0 x14 x15 x16 x17 x18 x19 x20 => stepIn (fun A => loopK Γ (Φ28 n) a28 n c28_5 0 (u 0) A (k28_2 n)) (mkSt 59 59 [(1, (.val (.sh 44 (.pair I64 I64)) x14)), (2, (.ptr 2 [])), (11, (.val TyS33 x15)), (12, (iv x16)), (13, (iv x17))] [(2, .var 36 TyS35 (x18, (x19, x20)))])
  | .E2 => stepIn ((k28_3 n) .normal) (mkSt 59 59 [] [])
  | .L2 x38 x39 x40 x41 => stepIn (fun A => loopK Γ (Φ28 n) a28 n c28_10 2 (u 2) A (k28_4 n)) (mkSt 59 59 [(1, (.val (.sh 44 (.pair I64 I64)) x38)), (38, (.val TyS32 x39)), (39, (iv x40)), (40, (iv x41))] [])
theorem h28 (n : Nat) (u : Nat → Nat) : ∀ p, (∀ i, 1 ≤ u i) → Ok1 (s28 n) e28 n (M28 n) u p
  | .F a0 a1, _ => pl [] (at_code rfl ((codeK_seq (by kernel_rfl)).trans (by kernel_rfl)))
  | .E0 x24 x25 x26 x27, _ => pl [] (by kernel_rfl)
  | .L0 x14 x15 x16 x17 x18 x19 x20, hu => hd 0 [0] hu fun m hm => (loopK_at hm).trans ((codeK_seq (by kernel_rfl)).trans (by kernel_rfl))
  | .E2, _ => pl [] (by kernel_rfl)
  | .L2 x38 x39 x40 x41, hu => hd 2 [2] hu fun m hm => (loopK_at hm).trans ((codeK_seq (by kernel_rfl)).trans (by kernel_rfl))
noncomputable def p28 (n : Nat) (a0 : Vl32 × (Vl33 × Vl34)) (a1 : List (Int × Int)) : Option (Int) := flow (s28 n) n (.F a0 a1)
theorem up28 {n m : Nat} (h : n ≤ m) (a0 : Vl32 × (Vl33 × Vl34)) (a1 : List (Int × Int)) : Up (p28 n a0 a1) (p28 m a0 a1) := flow_up (nat28 n) (us28 h) h _
noncomputable def E28 (n : Nat) : Entry := mkE 28 .flat [.tree TyS35, .tree (.sh 44 (.pair I64 I64))] [] (fun a b => p28 n a.1 a.2.1) e28
theorem ok28 (n : Nat) : EntryOk prog (E28 n) := mkE_ok (Φ := Φ28 n) (ann := a28) (n := n) (F := f28) (by kernel_rfl) (by kernel_rfl) (by kernel_rfl) (known_prog (known_cons (ok24 n) (known_cons (ok77 n) known_nil))) mixed fun a b y h =>
  (show _ = M28 n (fun _ => n) (.F a.1 a.2.1) by kernel_rfl).trans (flow_sound (nat28 n) (h28 n) n _ _ y (Nat.le_refl _) (fun _ => Nat.le_refl _) h)
/-! ### F113 horarium/horariumref12.Where -/
noncomputable def a113 : Ann := { draws := [(11, { order := [0, 1, 2, 3, 4, 5, 6, 7, 8] })], loops := [(0, { vars := [], sites := [1], slots := [(1, .keep), (45, .keep), (46, .keep), (47, .keep)] }), (2, { vars := [], sites := [1, 5], slots := [(1, .keep), (4, .keep), (5, .keep), (6, .keep), (45, .keep), (46, .keep), (47, .keep)] }), (4, { vars := [], sites := [1], slots := [(1, .keep), (78, .keep), (79, .keep), (80, .keep)] }), (6, { vars := [], sites := [1], slots := [(1, .keep), (94, .keep), (95, .keep), (96, .keep)] }), (8, { vars := [], sites := [1], slots := [(1, .keep), (9, .keep), (11, .keep), (94, .keep), (95, .keep), (96, .keep), (110, .keep), (111, .keep), (112, .keep)] })], ends := [(0, { vars := [], sites := [1], slots := [(1, .keep)] }), (2, { vars := [], sites := [1, 5], slots := [(1, .keep), (4, .keep), (5, .keep), (45, .keep), (46, .keep), (47, .keep)] }), (4, { vars := [], sites := [1], slots := [(1, .keep)] }), (6, { vars := [], sites := [], slots := [] }), (8, { vars := [], sites := [1], slots := [(1, .keep), (9, .keep), (11, .keep), (94, .keep), (95, .keep), (96, .keep)] })], heads := [(5, { vars := [], sites := [1], slots := [(1, .keep), (45, .keep), (46, .keep), (47, .keep)] }), (24, { vars := [], sites := [1], slots := [(1, .keep), (94, .keep), (95, .keep), (96, .keep)] })], acts := [((25, 1), (.pair (.sh 44 (.pair I64 I64)) I64))], res := [I64, I64] }
noncomputable def e113 (y : Int × Int) : List CRes × List CVar := ([.v I64 y.1, .v I64 y.2], [])
noncomputable def Φ113 (n : Nat) : Prog := Prog.of [E26 n, E28 n, E66 n, E149 n, E150 n]
inductive P113 where
  | F (a0 : Vl32 × (Vl33 × Vl34))
  | E0 (x117 : List Vl51) (x118 : List Vl47) (x119 : List (List (Int × (Int × Int))))
  | L0 (x111 : List Vl51) (x112 x113 : Int) (x114 : List Vl51) (x115 : List Vl47) (x116 : List (List (Int × (Int × Int))))
  | E2 (x96 : Int) (x97 : List Vl51) (x98 x99 : Int) (x100 : List Vl51) (x101 : List Vl47) (x102 : List (List (Int × (Int × Int)))) (x103 : List UInt8) (x104 x105 : Int) (x106 x107 : Bool) (x108 : List (Int × Int)) (x109 : List Int)
  | L2 (x81 x82 : Int) (x83 : List Vl51) (x84 x85 : Int) (x86 : List Vl51) (x87 : List Vl47) (x88 : List (List (Int × (Int × Int)))) (x89 : List UInt8) (x90 x91 : Int) (x92 x93 : Bool) (x94 : List (Int × Int)) (x95 : List Int)
  | E4 (x136 : List Vl51) (x137 : List Vl47) (x138 : List (List (Int × (Int × Int))))
  | L4 (x129 : List Vl47) (x130 x131 : Int) (x132 : List Vl51) (x133 : List Vl47) (x134 : List (List (Int × (Int × Int))))
  | Q5 (x59 : List Vl51) (x60 x61 : Int) (x62 : List Vl51) (x63 : List Vl47) (x64 : List (List (Int × (Int × Int))))
  | E6 
  | L6 (x230 : List (List (Int × (Int × Int)))) (x231 x232 : Int) (x233 : List Vl51) (x234 : List Vl47) (x235 : List (List (Int × (Int × Int))))
  | E8 (x221 : Int) (x222 : List (Int × Int)) (x223 : List (List (Int × (Int × Int)))) (x224 x225 : Int) (x226 : List Vl51) (x227 : List Vl47) (x228 : List (List (Int × (Int × Int))))
  | L8 (x209 : Int) (x210 : List (Int × Int)) (x211 : List (List (Int × (Int × Int)))) (x212 x213 : Int) (x214 : List (Int × Int)) (x215 x216 : Int) (x217 : List Vl51) (x218 : List Vl47) (x219 : List (List (Int × (Int × Int))))
  | Q24 (x188 : List (List (Int × (Int × Int)))) (x189 x190 : Int) (x191 : List Vl51) (x192 : List Vl47) (x193 : List (List (Int × (Int × Int))))
noncomputable def s113 (n : Nat) (γ : Type) : P113 → (P113 → Option γ) → ((Int × Int) → Option γ) → Option γ
  | .F a0, k, r =>
    cond ((ltB (List.length a0.1 : Int) (1 : Int))) (
      r ((3 : Int), (0 : Int))) (
      cond ((ltB (6 : Int) (List.length a0.1 : Int))) (
        r ((3 : Int), (0 : Int))) (
        cond ((ltB (8 : Int) (List.length a0.2.1 : Int))) (
          r ((3 : Int), (0 : Int))) (
          cond ((ltB (List.length a0.2.2 : Int) (1 : Int))) (
            r ((3 : Int), (0 : Int))) (
            cond ((ltB (3 : Int) (List.length a0.2.2 : Int))) (
              r ((3 : Int), (0 : Int))) (
              k (.L0 a0.1 (List.length a0.1 : Int) (0 : Int) a0.1 a0.2.1 a0.2.2))))))
  | .E0 x117 x118 x119, k, r =>
    k (.L4 x118 (List.length x118 : Int) (0 : Int) x117 x118 x119)
  | .L0 x111 x112 x113 x114 x115 x116, k, r =>
    cond ((ltB x113 x112)) (
      k (.Q5 x111 x112 x113 x114 x115 x116)) (
      k (.E0 x114 x115 x116))
  | .E2 x96 x97 x98 x99 x100 x101 x102 x103 x104 x105 x106 x107 x108 x109, k, r =>
    (p149 n (x103, (x104, (x105, (x106, (x107, (x108, x109))))))).bind fun y139 =>
    cond ((!y139)) (
      r ((16 : Int), x96)) (
      k (.L0 x97 x98 (w64 (x99 + (1 : Int))) x100 x101 x102))
  | .L2 x81 x82 x83 x84 x85 x86 x87 x88 x89 x90 x91 x92 x93 x94 x95, k, r =>
    cond ((ltB x82 x81)) (
      if 0 ≤ x82 then (
      if x82 < (List.length x86 : Int) then (
      cond ((bytesEq (List.getD x86 (Int.toNat x82) (([] : List UInt8), ((0 : Int), ((0 : Int), (false, (false, (([] : (List (Int × Int))), (List.replicate 5 (0 : Int))))))))).1 x89)) (
        r ((15 : Int), x81)) (
        k (.L2 x81 (w64 (x82 + (1 : Int))) x83 x84 x85 x86 x87 x88 x89 x90 x91 x92 x93 x94 x95))) else none) else none) (
      k (.E2 x81 x83 x84 x85 x86 x87 x88 x89 x90 x91 x92 x93 x94 x95))
  | .E4 x136 x137 x138, k, r =>
    k (.L6 x138 (List.length x138 : Int) (0 : Int) x136 x137 x138)
  | .L4 x129 x130 x131 x132 x133 x134, k, r =>
    cond ((ltB x131 x130)) (
      if 0 ≤ x131 then (
      if x131 < (List.length x129 : Int) then (
      (p150 n (List.getD x129 (Int.toNat x131) ((0 : Int), ((0 : Int), (false, ((0 : Int), ((0 : Int), (0 : Int))))))) (List.length x132 : Int)).bind fun y135 =>
      cond ((!y135)) (
        r ((17 : Int), x131)) (
        k (.L4 x129 x130 (w64 (x131 + (1 : Int))) x132 x133 x134))) else none) else none) (
      k (.E4 x132 x133 x134))
  | .Q5 x59 x60 x61 x62 x63 x64, k, r =>
    if 0 ≤ x61 then (
    if x61 < (List.length x59 : Int) then (
    (p66 n (List.getD x59 (Int.toNat x61) (([] : List UInt8), ((0 : Int), ((0 : Int), (false, (false, (([] : (List (Int × Int))), (List.replicate 5 (0 : Int))))))))).1).bind fun y120 =>
    cond ((!y120)) (
      r ((15 : Int), x61)) (
      k (.L2 x61 (0 : Int) x59 x60 x61 x62 x63 x64 (List.getD x59 (Int.toNat x61) (([] : List UInt8), ((0 : Int), ((0 : Int), (false, (false, (([] : (List (Int × Int))), (List.replicate 5 (0 : Int))))))))).1 (List.getD x59 (Int.toNat x61) (([] : List UInt8), ((0 : Int), ((0 : Int), (false, (false, (([] : (List (Int × Int))), (List.replicate 5 (0 : Int))))))))).2.1 (List.getD x59 (Int.toNat x61) (([] : List UInt8), ((0 : Int), ((0 : Int), (false, (false, (([] : (List (Int × Int))), (List.replicate 5 (0 : Int))))))))).2.2.1 (List.getD x59 (Int.toNat x61) (([] : List UInt8), ((0 : Int), ((0 : Int), (false, (false, (([] : (List (Int × Int))), (List.replicate 5 (0 : Int))))))))).2.2.2.1 (List.getD x59 (Int.toNat x61) (([] : List UInt8), ((0 : Int), ((0 : Int), (false, (false, (([] : (List (Int × Int))), (List.replicate 5 (0 : Int))))))))).2.2.2.2.1 (List.getD x59 (Int.toNat x61) (([] : List UInt8), ((0 : Int), ((0 : Int), (false, (false, (([] : (List (Int × Int))), (List.replicate 5 (0 : Int))))))))).2.2.2.2.2.1 (List.getD x59 (Int.toNat x61) (([] : List UInt8), ((0 : Int), ((0 : Int), (false, (false, (([] : (List (Int × Int))), (List.replicate 5 (0 : Int))))))))).2.2.2.2.2.2))) else none) else none
  | .E6, k, r =>
    r ((0 : Int), (-1 : Int))
  | .L6 x230 x231 x232 x233 x234 x235, k, r =>
    cond ((ltB x232 x231)) (
      k (.Q24 x230 x231 x232 x233 x234 x235)) (
      k .E6)
  | .E8 x221 x222 x223 x224 x225 x226 x227 x228, k, r =>
    (p28 n (x226, (x227, x228)) x222).bind fun y239 =>
    cond ((!eqB y239 (0 : Int))) (
      r (y239, x221)) (
      k (.L6 x223 x224 (w64 (x225 + (1 : Int))) x226 x227 x228))
  | .L8 x209 x210 x211 x212 x213 x214 x215 x216 x217 x218 x219, k, r =>
    cond ((ltB x216 x215)) (
      if 0 ≤ x216 then (
      if x216 < (List.length x214 : Int) then (
      let u238 : Bool := (leB (List.length x217 : Int) (List.getD x214 (Int.toNat x216) ((0 : Int), (0 : Int))).1)
      cond (u238) (
        r ((16 : Int), x209)) (
        k (.L8 x209 x210 x211 x212 x213 x214 x215 (w64 (x216 + (1 : Int))) x217 x218 x219))) else none) else none) (
      k (.E8 x209 x210 x211 x212 x213 x217 x218 x219))
  | .Q24 x188 x189 x190 x191 x192 x193, k, r =>
    if 0 ≤ x190 then (
    if x190 < (List.length x188 : Int) then (
    (p26 n (List.getD x188 (Int.toNat x190) ([] : (List (Int × (Int × Int)))))).bind fun cy236 =>
    cond ((!eqB cy236.2 (0 : Int))) (
      r (cy236.2, x190)) (
      k (.L8 x190 cy236.1 x188 x189 x190 cy236.1 (List.length cy236.1 : Int) (0 : Int) x191 x192 x193))) else none) else none
theorem nat113 (n : Nat) : NatS (s113 n) := fun g p k r => by
  cases p <;> simp only [s113, bind_cond, bind_ite, bind_optK, Option.bind_assoc, Option.bind_none]
theorem us113 {n m : Nat} (h : n ≤ m) : UpS (s113 n) (s113 m) := fun γ p k r => by
  cases p <;> dsimp only [s113] <;> repeat' first | with_reducible exact up_rfl | apply up_cond | apply up_ite | apply up_bind | apply up_optK | apply up26 h | apply up28 h | apply up66 h | apply up149 h | apply up150 h | intro
noncomputable def k113_0 (n : Nat)  : Ex → St → Option (List CRes × List CVar) := finK' Γ f113 a113 0
noncomputable def c113_0 : Code := partB (bodyOf f113)
noncomputable def c113_1 : Code := partB c113_0
noncomputable def c113_2 : Code := partB c113_1
noncomputable def k113_1 (n : Nat)  : Ex → St → Option (List CRes × List CVar) := seqK Γ (Φ113 n) a113 n c113_2 0 (k113_0 n)
noncomputable def c113_3 : Code := partA c113_1
noncomputable def c113_4 : Code := partB c113_3
noncomputable def c113_5 : Code := partA c113_4
noncomputable def c113_6 : Code := partA c113_5
noncomputable def k113_2 (n : Nat)  : Ex → St → Option (List CRes × List CVar) := blockK a113 0 (k113_1 n)
noncomputable def k113_3 (n : Nat) (u : Nat → Nat) : Ex → St → Option (List CRes × List CVar) := roundK Γ (Φ113 n) a113 n c113_6 0 (u 0) (k113_2 n)
noncomputable def c113_7 : Code := partB c113_6
noncomputable def c113_8 : Code := partB c113_7
noncomputable def c113_9 : Code := partB c113_8
noncomputable def k113_4 (n : Nat) (u : Nat → Nat) : Ex → St → Option (List CRes × List CVar) := seqK Γ (Φ113 n) a113 n c113_9 0 (k113_3 n u)
noncomputable def k113_5 (n : Nat) (u : Nat → Nat) : Ex → St → Option (List CRes × List CVar) := blockK a113 1 (k113_4 n u)
noncomputable def c113_10 : Code := partA c113_8
noncomputable def c113_11 : Code := partA c113_10
noncomputable def c113_12 : Code := partB c113_11
noncomputable def c113_13 : Code := partB c113_12
noncomputable def c113_14 : Code := partB c113_13
noncomputable def k113_6 (n : Nat) (u : Nat → Nat) : Ex → St → Option (List CRes × List CVar) := seqK Γ (Φ113 n) a113 n c113_14 1 (k113_5 n u)
noncomputable def c113_15 : Code := partA c113_13
noncomputable def c113_16 : Code := partB c113_15
noncomputable def c113_17 : Code := partA c113_16
noncomputable def c113_18 : Code := partA c113_17
noncomputable def k113_7 (n : Nat) (u : Nat → Nat) : Ex → St → Option (List CRes × List CVar) := blockK a113 2 (k113_6 n u)
noncomputable def c113_19 : Code := partB c113_2
noncomputable def k113_8 (n : Nat)  : Ex → St → Option (List CRes × List CVar) := seqK Γ (Φ113 n) a113 n c113_19 0 (k113_0 n)
noncomputable def c113_20 : Code := partA c113_2
noncomputable def c113_21 : Code := partB c113_20
noncomputable def c113_22 : Code := partA c113_21
noncomputable def c113_23 : Code := partA c113_22
noncomputable def k113_9 (n : Nat)  : Ex → St → Option (List CRes × List CVar) := blockK a113 4 (k113_8 n)
noncomputable def c113_24 : Code := partB c113_19
noncomputable def k113_10 (n : Nat)  : Ex → St → Option (List CRes × List CVar) := seqK Γ (Φ113 n) a113 n c113_24 0 (k113_0 n)
noncomputable def c113_25 : Code := partA c113_19
noncomputable def c113_26 : Code := partB c113_25
noncomputable def c113_27 : Code := partA c113_26
noncomputable def c113_28 : Code := partA c113_27
noncomputable def k113_11 (n : Nat)  : Ex → St → Option (List CRes × List CVar) := blockK a113 6 (k113_10 n)
noncomputable def k113_12 (n : Nat) (u : Nat → Nat) : Ex → St → Option (List CRes × List CVar) := roundK Γ (Φ113 n) a113 n c113_28 6 (u 6) (k113_11 n)
noncomputable def c113_29 : Code := partB c113_28
noncomputable def c113_30 : Code := partB c113_29
noncomputable def c113_31 : Code := partB c113_30
noncomputable def k113_13 (n : Nat) (u : Nat → Nat) : Ex → St → Option (List CRes × List CVar) := seqK Γ (Φ113 n) a113 n c113_31 6 (k113_12 n u)
noncomputable def k113_14 (n : Nat) (u : Nat → Nat) : Ex → St → Option (List CRes × List CVar) := blockK a113 7 (k113_13 n u)
noncomputable def c113_32 : Code := partA c113_30
noncomputable def c113_33 : Code := partA c113_32
noncomputable def c113_34 : Code := partB c113_33
noncomputable def c113_35 : Code := partB c113_34
noncomputable def c113_36 : Code := partB c113_35
noncomputable def c113_37 : Code := partB c113_36
noncomputable def k113_15 (n : Nat) (u : Nat → Nat) : Ex → St → Option (List CRes × List CVar) := seqK Γ (Φ113 n) a113 n c113_37 7 (k113_14 n u)
noncomputable def c113_38 : Code := partA c113_36
noncomputable def c113_39 : Code := partB c113_38
noncomputable def c113_40 : Code := partA c113_39
noncomputable def c113_41 : Code := partA c113_40
noncomputable def k113_16 (n : Nat) (u : Nat → Nat) : Ex → St → Option (List CRes × List CVar) := blockK a113 8 (k113_15 n u)
noncomputable def M113 (n : Nat) (u : Nat → Nat) : P113 → Option (List CRes × List CVar)
  | .F a0 => stepIn (fun A => codeK Γ (Φ113 n) a113 n (bodyOf f113) 0 A (k113_0 n)) (mkSt 132 132 [(0, (.val TyS35 a0))] [])
  | .E0 x117 x118 x119 => stepIn ((k113_1 n) .normal) (mkSt 132 132 [(1, (.ptr 1 []))] [(1, .var 36 TyS35 (x117, (x118, x119)))])
  | .L0 x111 x112 x113 x114 x115 x116 => stepIn (fun A => loopK Γ (Φ113 n) a113 n c113_6 0 (u 0) A (k113_2 n)) (mkSt 132 132 [(1, (.ptr 1 [])), (45, (.val TyS32 x111)), (46, (iv x112)), (47, (iv x113))] [(1, .var 36 TyS35 (x114, (x115, x116)))])
  | .E2 x96 x97 x98 x99 x100 x101 x102 x103 x104 x105 x106 x107 x108 x109 => stepIn ((k113_6 n u) .normal) (mkSt 132 132 [(1, (.ptr 1 [])), (4, (iv x96)), (5, (.ptr 5 [])), (45, (.val TyS32 x97)), (46, (iv x98)), (47, (iv x99))] [(1, .var 36 TyS35 (x100, (x101, x102))), (5, .var 52 TyS51 (x103, (x104, (x105, (x106, (x107, (x108, x109)))))))])
  | .L2 x81 x82 x83 x84 x85 x86 x87 x88 x89 x90 x91 x92 x93 x94 x95 => stepIn (fun A => loopK Γ (Φ113 n) a113 n c113_18 2 (u 2) A (k113_7 n u)) (mkSt 132 132 [(1, (.ptr 1 [])), (4, (iv x81)), (5, (.ptr 5 [])), (6, (iv x82)), (45, (.val TyS32 x83)), (46, (iv x84)), (47, (iv x85))] [(1, .var 36 TyS35 (x86, (x87, x88))), (5, .var 52 TyS51 (x89, (x90, (x91, (x92, (x93, (x94, x95)))))))])
  | .E4 x136 x137 x138 => stepIn ((k113_8 n) .normal) (mkSt 132 132 [(1, (.ptr 1 []))] [(1, .var 36 TyS35 (x136, (x137, x138)))])
  | .L4 x129 x130 x131 x132 x133 x134 => stepIn (fun A => loopK Γ (Φ113 n) a113 n c113_23 4 (u 4) A (k113_9 n)) (mkSt 132 132 [(1, (.ptr 1 [])), (78, (.val TyS33 x129)), (79, (iv x130)), (80, (iv x131))] [(1, .var 36 TyS35 (x132, (x133, x134)))])
  | .Q5 x59 x60 x61 x62 x63 x64 => stepIn (fun A => codeK Γ (Φ113 n) a113 n c113_8 0 A (k113_3 n u)) (mkSt 132 132 [(1, (.ptr 1 [])), (45, (.val TyS32 x59)), (46, (iv x60)), (47, (iv x61))] [(1, .var 36 TyS35 (x62, (x63, x64)))])
  | .E6 => stepIn ((k113_10 n) .normal) (mkSt 132 132 [] [])
  | .L6 x230 x231 x232 x233 x234 x235 => stepIn (fun A => loopK Γ (Φ113 n) a113 n c113_28 6 (u 6) A (k113_11 n)) (mkSt 132 132 [(1, (.ptr 1 [])), (94, (.val TyS34 x230)), (95, (iv x231)), (96, (iv x232))] [(1, .var 36 TyS35 (x233, (x234, x235)))])
  | .E8 x221 x222 x223 x224 x225 x226 x227 x228 => stepIn ((k113_15 n u) .normal) (mkSt 132 132 [(1, (.ptr 1 [])), (9, (iv x221)), (11, (.val (.sh 44 (.pair I64 I64)) x222)), (94, (.val TyS34 x223)), (95, (iv x224)), (96, (iv x225))] [(1, .var 36 TyS35 (x226, (x227, x228)))])
  | .L8 x209 x210 x211 x212 x213 x214 x215 x216 x217 x218 x219 => stepIn (fun A => loopK Γ (Φ113 n) a113 n c113_41 8 (u 8) A (k113_16 n u)) (mkSt 132 132 [(1, (.ptr 1 [])), (9, (iv x209)), (11, (.val (.sh 44 (.pair I64 I64)) x210)), (94, (.val TyS34 x211)), (95, (iv x212)), (96, (iv x213)), (110, (.val (.sh 44 (.pair I64 I64)) x214)), (111, (iv x215)), (112, (iv x216))] [(1, .var 36 TyS35 (x217, (x218, x219)))])
  | .Q24 x188 x189 x190 x191 x192 x193 => stepIn (fun A => codeK Γ (Φ113 n) a113 n c113_30 6 A (k113_12 n u)) (mkSt 132 132 [(1, (.ptr 1 [])), (94, (.val TyS34 x188)), (95, (iv x189)), (96, (iv x190))] [(1, .var 36 TyS35 (x191, (x192, x193)))])
theorem h113 (n : Nat) (u : Nat → Nat) : ∀ p, (∀ i, 1 ≤ u i) → Ok1 (s113 n) e113 n (M113 n) u p
  | .F a0, _ => pl [] (at_code rfl ((codeK_seq (by kernel_rfl)).trans (by kernel_rfl)))
  | .E0 x117 x118 x119, _ => pl [] (by kernel_rfl)
  | .L0 x111 x112 x113 x114 x115 x116, hu => hd 0 [0] hu fun m hm => (loopK_at hm).trans ((codeK_seq (by kernel_rfl)).trans (by kernel_rfl))
  | .E2 x96 x97 x98 x99 x100 x101 x102 x103 x104 x105 x106 x107 x108 x109, _ => pl [0] (by kernel_rfl)
  | .L2 x81 x82 x83 x84 x85 x86 x87 x88 x89 x90 x91 x92 x93 x94 x95, hu => hd 2 [0, 2] hu fun m hm => (loopK_at hm).trans ((codeK_seq (by kernel_rfl)).trans ((codeK_seq (by kernel_rfl)).trans (by kernel_rfl)))
  | .E4 x136 x137 x138, _ => pl [] (by kernel_rfl)
  | .L4 x129 x130 x131 x132 x133 x134, hu => hd 4 [4] hu fun m hm => (loopK_at hm).trans ((codeK_seq (by kernel_rfl)).trans (by kernel_rfl))
  | .Q5 x59 x60 x61 x62 x63 x64, _ => pl [0] (at_code rfl ((codeK_seq (by kernel_rfl)).trans ((codeK_block 1 (by kernel_rfl)).trans ((codeK_seq (by kernel_rfl)).trans (by kernel_rfl)))))
  | .E6, _ => pl [] (by kernel_rfl)
  | .L6 x230 x231 x232 x233 x234 x235, hu => hd 6 [6] hu fun m hm => (loopK_at hm).trans ((codeK_seq (by kernel_rfl)).trans (by kernel_rfl))
  | .E8 x221 x222 x223 x224 x225 x226 x227 x228, _ => pl [6] (by kernel_rfl)
  | .L8 x209 x210 x211 x212 x213 x214 x215 x216 x217 x218 x219, hu => hd 8 [6, 8] hu fun m hm => (loopK_at hm).trans ((codeK_seq (by kernel_rfl)).trans (by kernel_rfl))
  | .Q24 x188 x189 x190 x191 x192 x193, _ => pl [6] (at_code rfl ((codeK_seq (by kernel_rfl)).trans ((codeK_block 7 (by kernel_rfl)).trans ((codeK_seq (by kernel_rfl)).trans (by kernel_rfl)))))
noncomputable def p113 (n : Nat) (a0 : Vl32 × (Vl33 × Vl34)) : Option (Int × Int) := flow (s113 n) n (.F a0)
theorem up113 {n m : Nat} (h : n ≤ m) (a0 : Vl32 × (Vl33 × Vl34)) : Up (p113 n a0) (p113 m a0) := flow_up (nat113 n) (us113 h) h _
noncomputable def E113 (n : Nat) : Entry := mkE 113 .flat [.tree TyS35] [] (fun a b => p113 n a.1) e113
theorem ok113 (n : Nat) : EntryOk prog (E113 n) := mkE_ok (Φ := Φ113 n) (ann := a113) (n := n) (F := f113) (by kernel_rfl) (by kernel_rfl) (by kernel_rfl) (known_prog (known_cons (ok26 n) (known_cons (ok28 n) (known_cons (ok66 n) (known_cons (ok149 n) (known_cons (ok150 n) known_nil)))))) mixed fun a b y h =>
  (show _ = M113 n (fun _ => n) (.F a.1) by kernel_rfl).trans (flow_sound (nat113 n) (h113 n) n _ _ y (Nat.le_refl _) (fun _ => Nat.le_refl _) h)
/-! ### F134 horarium/horariumref12.Right -/
noncomputable def a134 : Ann := { res := [I64] }
noncomputable def e134 (y : Int) : List CRes × List CVar := ([.v I64 y], [])
noncomputable def Φ134 (n : Nat) : Prog := Prog.of [E113 n]
inductive P134 where
  | F (a0 : Vl32 × (Vl33 × Vl34))
noncomputable def s134 (n : Nat) (γ : Type) : P134 → (P134 → Option γ) → (Int → Option γ) → Option γ
  | .F a0, k, r =>
    (p113 n a0).bind fun cy1 =>
    r cy1.1
theorem nat134 (n : Nat) : NatS (s134 n) := fun g p k r => by
  cases p <;> simp only [s134, bind_cond, bind_ite, bind_optK, Option.bind_assoc, Option.bind_none]
theorem us134 {n m : Nat} (h : n ≤ m) : UpS (s134 n) (s134 m) := fun γ p k r => by
  cases p <;> dsimp only [s134] <;> repeat' first | with_reducible exact up_rfl | apply up_cond | apply up_ite | apply up_bind | apply up_optK | apply up113 h | intro
noncomputable def k134_0 (n : Nat)  : Ex → St → Option (List CRes × List CVar) := finK' Γ f134 a134 0
noncomputable def M134 (n : Nat) (u : Nat → Nat) : P134 → Option (List CRes × List CVar)
  | .F a0 => stepIn (fun A => codeK Γ (Φ134 n) a134 n (bodyOf f134) 0 A (k134_0 n)) (mkSt 11 11 [(0, (.val TyS35 a0))] [])
theorem h134 (n : Nat) (u : Nat → Nat) : ∀ p, (∀ i, 1 ≤ u i) → Ok1 (s134 n) e134 n (M134 n) u p
  | .F a0, _ => pl [] (at_code rfl ((codeK_seq (by kernel_rfl)).trans (by kernel_rfl)))
noncomputable def p134 (n : Nat) (a0 : Vl32 × (Vl33 × Vl34)) : Option (Int) := flow (s134 n) n (.F a0)
theorem up134 {n m : Nat} (h : n ≤ m) (a0 : Vl32 × (Vl33 × Vl34)) : Up (p134 n a0) (p134 m a0) := flow_up (nat134 n) (us134 h) h _
noncomputable def E134 (n : Nat) : Entry := mkE 134 .flat [.tree TyS35] [] (fun a b => p134 n a.1) e134
theorem ok134 (n : Nat) : EntryOk prog (E134 n) := mkE_ok (Φ := Φ134 n) (ann := a134) (n := n) (F := f134) (by kernel_rfl) (by kernel_rfl) (by kernel_rfl) (known_prog (known_cons (ok113 n) known_nil)) mixed fun a b y h =>
  (show _ = M134 n (fun _ => n) (.F a.1) by kernel_rfl).trans (flow_sound (nat134 n) (h134 n) n _ _ y (Nat.le_refl _) (fun _ => Nat.le_refl _) h)
end Go.Am
