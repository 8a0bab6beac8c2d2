/- G5: functions as steps, printed by wip/tools/gen6.py. -/
import Derived.Test.YtebmpngnbnigcaaS1Tys
set_option linter.unusedVariables false
set_option linter.unusedSimpArgs false
set_option maxRecDepth 20000
set_option maxHeartbeats 0
namespace Go.Am
open Go.Proofs.Try
/-! ### F167 horarium/node.kids -/
noncomputable def a167 : Ann := { heads := [(10, { vars := [], sites := [], slots := [] })], res := [I64] }
noncomputable def e167 (y : Int) : List CRes × List CVar := ([.v I64 y], [])
noncomputable def Φ167 (n : Nat) : Prog := Prog.of []
inductive P167 where
  | F (a0 : Int × (Int × Int))
  | Q10 
noncomputable def s167 (n : Nat) (γ : Type) : P167 → (P167 → Option γ) → (Int → Option γ) → Option γ
  | .F a0, k, r =>
    cond ((ltB a0.2.2 (1 : Int))) (
      r (-1 : Int)) (
      cond ((!eqB a0.1 (1 : Int))) (
        cond ((!eqB a0.2.1 (0 : Int))) (
          r (-1 : Int)) (
          cond ((eqB a0.1 (1 : Int))) (
            cond ((leB (0 : Int) a0.2.1)) (
              cond ((ltB a0.2.1 (6 : Int))) (
                r (0 : Int)) (
                cond ((eqB a0.1 (2 : Int))) (
                  r (0 : Int)) (
                  cond ((eqB a0.1 (3 : Int))) (
                    cond ((leB a0.2.2 (128 : Int))) (
                      r a0.2.2) (
                      cond ((eqB a0.1 (4 : Int))) (
                        r (1 : Int)) (
                        k .Q10))) (
                    cond ((eqB a0.1 (4 : Int))) (
                      r (1 : Int)) (
                      k .Q10))))) (
              cond ((eqB a0.1 (2 : Int))) (
                r (0 : Int)) (
                cond ((eqB a0.1 (3 : Int))) (
                  cond ((leB a0.2.2 (128 : Int))) (
                    r a0.2.2) (
                    cond ((eqB a0.1 (4 : Int))) (
                      r (1 : Int)) (
                      k .Q10))) (
                  cond ((eqB a0.1 (4 : Int))) (
                    r (1 : Int)) (
                    k .Q10))))) (
            cond ((eqB a0.1 (2 : Int))) (
              r (0 : Int)) (
              cond ((eqB a0.1 (3 : Int))) (
                cond ((leB a0.2.2 (128 : Int))) (
                  r a0.2.2) (
                  cond ((eqB a0.1 (4 : Int))) (
                    r (1 : Int)) (
                    k .Q10))) (
                cond ((eqB a0.1 (4 : Int))) (
                  r (1 : Int)) (
                  k .Q10)))))) (
        cond ((eqB a0.1 (1 : Int))) (
          cond ((leB (0 : Int) a0.2.1)) (
            cond ((ltB a0.2.1 (6 : Int))) (
              r (0 : Int)) (
              cond ((eqB a0.1 (2 : Int))) (
                r (0 : Int)) (
                cond ((eqB a0.1 (3 : Int))) (
                  cond ((leB a0.2.2 (128 : Int))) (
                    r a0.2.2) (
                    cond ((eqB a0.1 (4 : Int))) (
                      r (1 : Int)) (
                      k .Q10))) (
                  cond ((eqB a0.1 (4 : Int))) (
                    r (1 : Int)) (
                    k .Q10))))) (
            cond ((eqB a0.1 (2 : Int))) (
              r (0 : Int)) (
              cond ((eqB a0.1 (3 : Int))) (
                cond ((leB a0.2.2 (128 : Int))) (
                  r a0.2.2) (
                  cond ((eqB a0.1 (4 : Int))) (
                    r (1 : Int)) (
                    k .Q10))) (
                cond ((eqB a0.1 (4 : Int))) (
                  r (1 : Int)) (
                  k .Q10))))) (
          cond ((eqB a0.1 (2 : Int))) (
            r (0 : Int)) (
            cond ((eqB a0.1 (3 : Int))) (
              cond ((leB a0.2.2 (128 : Int))) (
                r a0.2.2) (
                cond ((eqB a0.1 (4 : Int))) (
                  r (1 : Int)) (
                  k .Q10))) (
              cond ((eqB a0.1 (4 : Int))) (
                r (1 : Int)) (
                k .Q10))))))
  | .Q10, k, r =>
    r (-1 : Int)
theorem nat167 (n : Nat) : NatS (s167 n) := fun g p k r => by
  cases p <;> simp only [s167, bind_cond, bind_ite, bind_optK, Option.bind_assoc, Option.bind_none]
theorem us167 {n m : Nat} (h : n ≤ m) : UpS (s167 n) (s167 m) := fun γ p k r => by
  cases p <;> dsimp only [s167] <;> repeat' first | with_reducible exact up_rfl | apply up_cond | apply up_ite | apply up_bind | apply up_optK | intro
noncomputable def k167_0 (n : Nat)  : Ex → St → Option (List CRes × List CVar) := finK' Γ f167 a167 0
noncomputable def c167_0 : Code := partB (bodyOf f167)
noncomputable def c167_1 : Code := partB c167_0
noncomputable def M167 (n : Nat) (u : Nat → Nat) : P167 → Option (List CRes × List CVar)
  | .F a0 => stepIn (fun A => codeK Γ (Φ167 n) a167 n (bodyOf f167) 0 A (k167_0 n)) (mkSt 49 49 [(0, (.val TyO56 a0))] [])
  | .Q10 => stepIn (fun A => codeK Γ (Φ167 n) a167 n c167_1 0 A (k167_0 n)) (mkSt 49 49 [] [])
theorem h167 (n : Nat) (u : Nat → Nat) : ∀ p, (∀ i, 1 ≤ u i) → Ok1 (s167 n) e167 n (M167 n) u p
  | .F a0, _ => pl [] (at_code rfl ((codeK_seq (by kernel_rfl)).trans (by kernel_rfl)))
  | .Q10, _ => pl [] (at_code rfl ((codeK_seq (by kernel_rfl)).trans (by kernel_rfl)))
noncomputable def p167 (n : Nat) (a0 : Int × (Int × Int)) : Option (Int) := flow (s167 n) n (.F a0)
theorem up167 {n m : Nat} (h : n ≤ m) (a0 : Int × (Int × Int)) : Up (p167 n a0) (p167 m a0) := flow_up (nat167 n) (us167 h) h _
noncomputable def E167 (n : Nat) : Entry := mkE 167 .flat [.tree TyO56] [] (fun a b => p167 n a.1) e167
theorem ok167 (n : Nat) : EntryOk prog (E167 n) := mkE_ok (Φ := Φ167 n) (ann := a167) (n := n) (F := f167) (by kernel_rfl) (by kernel_rfl) (by kernel_rfl) (known_prog known_nil) mixed fun a b y h =>
  (show _ = M167 n (fun _ => n) (.F a.1) by kernel_rfl).trans (flow_sound (nat167 n) (h167 n) n _ _ y (Nat.le_refl _) (fun _ => Nat.le_refl _) h)
/-! ### F162 horarium/node.Size -/
noncomputable def a162 : Ann := { loops := [(0, { vars := [], sites := [], slots := [(0, .keep), (1, .keep), (5, .keep), (6, .keep)] })], ends := [(0, { vars := [], sites := [], slots := [] })], res := [I64] }
noncomputable def e162 (y : Int) : List CRes × List CVar := ([.v I64 y], [])
noncomputable def Φ162 (n : Nat) : Prog := Prog.of [E167 n]
inductive P162 where
  | F (a0 : List (Int × (Int × Int))) (a1 : Int)
  | E0 
  | L0 (x11 : List (Int × (Int × Int))) (x12 x13 x14 : Int)
noncomputable def s162 (n : Nat) (γ : Type) : P162 → (P162 → Option γ) → (Int → Option γ) → Option γ
  | .F a0 a1, k, r =>
    cond ((ltB a1 (0 : Int))) (
      r (0 : Int)) (
      cond ((leB (List.length a0 : Int) a1)) (
        r (0 : Int)) (
        k (.L0 a0 a1 (1 : Int) a1)))
  | .E0, k, r =>
    r (0 : Int)
  | .L0 x11 x12 x13 x14, k, r =>
    cond ((ltB x14 (List.length x11 : Int))) (
      if 0 ≤ x14 then (
      if x14 < (List.length x11 : Int) then (
      (p167 n (List.getD x11 (Int.toNat x14) ((0 : Int), ((0 : Int), (0 : Int))))).bind fun y15 =>
      cond ((ltB y15 (0 : Int))) (
        r (0 : Int)) (
        let u16 : Int := (w64 (x13 + (w64 (y15 - (1 : Int)))))
        cond ((eqB u16 (0 : Int))) (
          let u17 : Int := (w64 ((w64 (x14 + (1 : Int))) - x12))
          r u17) (
          k (.L0 x11 x12 u16 (w64 (x14 + (1 : Int))))))) else none) else none) (
      k .E0)
theorem nat162 (n : Nat) : NatS (s162 n) := fun g p k r => by
  cases p <;> simp only [s162, bind_cond, bind_ite, bind_optK, Option.bind_assoc, Option.bind_none]
theorem us162 {n m : Nat} (h : n ≤ m) : UpS (s162 n) (s162 m) := fun γ p k r => by
  cases p <;> dsimp only [s162] <;> repeat' first | with_reducible exact up_rfl | apply up_cond | apply up_ite | apply up_bind | apply up_optK | apply up167 h | intro
noncomputable def k162_0 (n : Nat)  : Ex → St → Option (List CRes × List CVar) := finK' Γ f162 a162 0
noncomputable def c162_0 : Code := partB (bodyOf f162)
noncomputable def c162_1 : Code := partB c162_0
noncomputable def c162_2 : Code := partB c162_1
noncomputable def c162_3 : Code := partB c162_2
noncomputable def k162_1 (n : Nat)  : Ex → St → Option (List CRes × List CVar) := seqK Γ (Φ162 n) a162 n c162_3 0 (k162_0 n)
noncomputable def c162_4 : Code := partA c162_2
noncomputable def c162_5 : Code := partB c162_4
noncomputable def c162_6 : Code := partA c162_5
noncomputable def c162_7 : Code := partA c162_6
noncomputable def k162_2 (n : Nat)  : Ex → St → Option (List CRes × List CVar) := blockK a162 0 (k162_1 n)
noncomputable def M162 (n : Nat) (u : Nat → Nat) : P162 → Option (List CRes × List CVar)
  | .F a0 a1 => stepIn (fun A => codeK Γ (Φ162 n) a162 n (bodyOf f162) 0 A (k162_0 n)) (mkSt 40 40 [(0, (.val TyS38 a0)), (1, (iv a1))] [])
  | .E0 => stepIn ((k162_1 n) .normal) (mkSt 40 40 [] [])
  | .L0 x11 x12 x13 x14 => stepIn (fun A => loopK Γ (Φ162 n) a162 n c162_7 0 (u 0) A (k162_2 n)) (mkSt 40 40 [(0, (.val TyS38 x11)), (1, (iv x12)), (5, (iv x13)), (6, (iv x14))] [])
theorem h162 (n : Nat) (u : Nat → Nat) : ∀ p, (∀ i, 1 ≤ u i) → Ok1 (s162 n) e162 n (M162 n) u p
  | .F a0 a1, _ => pl [] (at_code rfl ((codeK_seq (by kernel_rfl)).trans (by kernel_rfl)))
  | .E0, _ => pl [] (by kernel_rfl)
  | .L0 x11 x12 x13 x14, hu => hd 0 [0] hu fun m hm => (loopK_at hm).trans ((codeK_seq (by kernel_rfl)).trans ((codeK_seq (by kernel_rfl)).trans (by kernel_rfl)))
noncomputable def p162 (n : Nat) (a0 : List (Int × (Int × Int))) (a1 : Int) : Option (Int) := flow (s162 n) n (.F a0 a1)
theorem up162 {n m : Nat} (h : n ≤ m) (a0 : List (Int × (Int × Int))) (a1 : Int) : Up (p162 n a0 a1) (p162 m a0 a1) := flow_up (nat162 n) (us162 h) h _
noncomputable def E162 (n : Nat) : Entry := mkE 162 .flat [.tree TyS38, .tree I64] [] (fun a b => p162 n a.1 a.2.1) e162
theorem ok162 (n : Nat) : EntryOk prog (E162 n) := mkE_ok (Φ := Φ162 n) (ann := a162) (n := n) (F := f162) (by kernel_rfl) (by kernel_rfl) (by kernel_rfl) (known_prog (known_cons (ok167 n) known_nil)) mixed fun a b y h =>
  (show _ = M162 n (fun _ => n) (.F a.1 a.2.1) by kernel_rfl).trans (flow_sound (nat162 n) (h162 n) n _ _ y (Nat.le_refl _) (fun _ => Nat.le_refl _) h)
/-! ### F140 horarium/node.whole -/
noncomputable def a140 : Ann := { res := [.bool] }
noncomputable def e140 (y : Bool) : List CRes × List CVar := ([.v .bool y], [])
noncomputable def Φ140 (n : Nat) : Prog := Prog.of [E162 n]
inductive P140 where
  | F (a0 : List (Int × (Int × Int)))
noncomputable def s140 (n : Nat) (γ : Type) : P140 → (P140 → Option γ) → (Bool → Option γ) → Option γ
  | .F a0, k, r =>
    cond ((ltB (0 : Int) (List.length a0 : Int))) (
      (p162 n a0 (0 : Int)).bind fun y1 =>
      r (eqB y1 (List.length a0 : Int))) (
      r false)
theorem nat140 (n : Nat) : NatS (s140 n) := fun g p k r => by
  cases p <;> simp only [s140, bind_cond, bind_ite, bind_optK, Option.bind_assoc, Option.bind_none]
theorem us140 {n m : Nat} (h : n ≤ m) : UpS (s140 n) (s140 m) := fun γ p k r => by
  cases p <;> dsimp only [s140] <;> repeat' first | with_reducible exact up_rfl | apply up_cond | apply up_ite | apply up_bind | apply up_optK | apply up162 h | intro
noncomputable def k140_0 (n : Nat)  : Ex → St → Option (List CRes × List CVar) := finK' Γ f140 a140 0
noncomputable def M140 (n : Nat) (u : Nat → Nat) : P140 → Option (List CRes × List CVar)
  | .F a0 => stepIn (fun A => codeK Γ (Φ140 n) a140 n (bodyOf f140) 0 A (k140_0 n)) (mkSt 13 13 [(0, (.val TyS38 a0))] [])
theorem h140 (n : Nat) (u : Nat → Nat) : ∀ p, (∀ i, 1 ≤ u i) → Ok1 (s140 n) e140 n (M140 n) u p
  | .F a0, _ => pl [] (at_code rfl ((codeK_seq (by kernel_rfl)).trans (by kernel_rfl)))
noncomputable def p140 (n : Nat) (a0 : List (Int × (Int × Int))) : Option (Bool) := flow (s140 n) n (.F a0)
theorem up140 {n m : Nat} (h : n ≤ m) (a0 : List (Int × (Int × Int))) : Up (p140 n a0) (p140 m a0) := flow_up (nat140 n) (us140 h) h _
noncomputable def E140 (n : Nat) : Entry := mkE 140 .flat [.tree TyS38] [] (fun a b => p140 n a.1) e140
theorem ok140 (n : Nat) : EntryOk prog (E140 n) := mkE_ok (Φ := Φ140 n) (ann := a140) (n := n) (F := f140) (by kernel_rfl) (by kernel_rfl) (by kernel_rfl) (known_prog (known_cons (ok162 n) known_nil)) mixed fun a b y h =>
  (show _ = M140 n (fun _ => n) (.F a.1) by kernel_rfl).trans (flow_sound (nat140 n) (h140 n) n _ _ y (Nat.le_refl _) (fun _ => Nat.le_refl _) h)
/-! ### F168 horarium/node.times -/
noncomputable def a168 : Ann := { res := [I64] }
noncomputable def e168 (y : Int) : List CRes × List CVar := ([.v I64 y], [])
noncomputable def Φ168 (n : Nat) : Prog := Prog.of []
inductive P168 where
  | F (a0 a1 : Int)
noncomputable def s168 (n : Nat) (γ : Type) : P168 → (P168 → Option γ) → (Int → Option γ) → Option γ
  | .F a0 a1, k, r =>
    let u1 : Int := (min (4097 : Int) (w64 ((min (4097 : Int) a0) * a1)))
    r u1
theorem nat168 (n : Nat) : NatS (s168 n) := fun g p k r => by
  cases p <;> simp only [s168, bind_cond, bind_ite, bind_optK, Option.bind_assoc, Option.bind_none]
theorem us168 {n m : Nat} (h : n ≤ m) : UpS (s168 n) (s168 m) := fun γ p k r => by
  cases p <;> dsimp only [s168] <;> repeat' first | with_reducible exact up_rfl | apply up_cond | apply up_ite | apply up_bind | apply up_optK | intro
noncomputable def k168_0 (n : Nat)  : Ex → St → Option (List CRes × List CVar) := finK' Γ f168 a168 0
noncomputable def M168 (n : Nat) (u : Nat → Nat) : P168 → Option (List CRes × List CVar)
  | .F a0 a1 => stepIn (fun A => codeK Γ (Φ168 n) a168 n (bodyOf f168) 0 A (k168_0 n)) (mkSt 10 10 [(0, (iv a0)), (1, (iv a1))] [])
theorem h168 (n : Nat) (u : Nat → Nat) : ∀ p, (∀ i, 1 ≤ u i) → Ok1 (s168 n) e168 n (M168 n) u p
  | .F a0 a1, _ => pl [] (at_code rfl ((codeK_seq (by kernel_rfl)).trans (by kernel_rfl)))
noncomputable def p168 (n : Nat) (a0 a1 : Int) : Option (Int) := flow (s168 n) n (.F a0 a1)
theorem up168 {n m : Nat} (h : n ≤ m) (a0 a1 : Int) : Up (p168 n a0 a1) (p168 m a0 a1) := flow_up (nat168 n) (us168 h) h _
noncomputable def E168 (n : Nat) : Entry := mkE 168 .flat [.tree I64, .tree I64] [] (fun a b => p168 n a.1 a.2.1) e168
theorem ok168 (n : Nat) : EntryOk prog (E168 n) := mkE_ok (Φ := Φ168 n) (ann := a168) (n := n) (F := f168) (by kernel_rfl) (by kernel_rfl) (by kernel_rfl) (known_prog known_nil) mixed fun a b y h =>
  (show _ = M168 n (fun _ => n) (.F a.1 a.2.1) by kernel_rfl).trans (flow_sound (nat168 n) (h168 n) n _ _ y (Nat.le_refl _) (fun _ => Nat.le_refl _) h)
/-! ### F169 horarium/node.add -/
noncomputable def a169 : Ann := { res := [I64] }
noncomputable def e169 (y : Int) : List CRes × List CVar := ([.v I64 y], [])
noncomputable def Φ169 (n : Nat) : Prog := Prog.of []
inductive P169 where
  | F (a0 a1 : Int)
noncomputable def s169 (n : Nat) (γ : Type) : P169 → (P169 → Option γ) → (Int → Option γ) → Option γ
  | .F a0 a1, k, r =>
    let u1 : Int := (min (4097 : Int) (w64 (a0 + (min (4097 : Int) a1))))
    r u1
theorem nat169 (n : Nat) : NatS (s169 n) := fun g p k r => by
  cases p <;> simp only [s169, bind_cond, bind_ite, bind_optK, Option.bind_assoc, Option.bind_none]
theorem us169 {n m : Nat} (h : n ≤ m) : UpS (s169 n) (s169 m) := fun γ p k r => by
  cases p <;> dsimp only [s169] <;> repeat' first | with_reducible exact up_rfl | apply up_cond | apply up_ite | apply up_bind | apply up_optK | intro
noncomputable def k169_0 (n : Nat)  : Ex → St → Option (List CRes × List CVar) := finK' Γ f169 a169 0
noncomputable def M169 (n : Nat) (u : Nat → Nat) : P169 → Option (List CRes × List CVar)
  | .F a0 a1 => stepIn (fun A => codeK Γ (Φ169 n) a169 n (bodyOf f169) 0 A (k169_0 n)) (mkSt 10 10 [(0, (iv a0)), (1, (iv a1))] [])
theorem h169 (n : Nat) (u : Nat → Nat) : ∀ p, (∀ i, 1 ≤ u i) → Ok1 (s169 n) e169 n (M169 n) u p
  | .F a0 a1, _ => pl [] (at_code rfl ((codeK_seq (by kernel_rfl)).trans (by kernel_rfl)))
noncomputable def p169 (n : Nat) (a0 a1 : Int) : Option (Int) := flow (s169 n) n (.F a0 a1)
theorem up169 {n m : Nat} (h : n ≤ m) (a0 a1 : Int) : Up (p169 n a0 a1) (p169 m a0 a1) := flow_up (nat169 n) (us169 h) h _
noncomputable def E169 (n : Nat) : Entry := mkE 169 .flat [.tree I64, .tree I64] [] (fun a b => p169 n a.1 a.2.1) e169
theorem ok169 (n : Nat) : EntryOk prog (E169 n) := mkE_ok (Φ := Φ169 n) (ann := a169) (n := n) (F := f169) (by kernel_rfl) (by kernel_rfl) (by kernel_rfl) (known_prog known_nil) mixed fun a b y h =>
  (show _ = M169 n (fun _ => n) (.F a.1 a.2.1) by kernel_rfl).trans (flow_sound (nat169 n) (h169 n) n _ _ y (Nat.le_refl _) (fun _ => Nat.le_refl _) h)
/-! ### F161 horarium/node.measure -/
noncomputable def a161 : Ann := { draws := [(5, { order := [0, 1, 2, 3, 4, 5, 6, 7], touch := [(3, []), (5, []), (6, [4, 23])] }), (10, { order := [0, 1, 2, 3, 4, 5, 6, 7, 8, 9, 10, 11, 12, 13], touch := [(11, []), (12, [8])] }), (15, { order := [0, 1, 2, 3, 4, 5, 6, 7, 8, 9, 10, 11], touch := [(11, [4])] }), (16, { order := [0, 1, 2, 3, 4, 5, 6, 7, 8, 9, 10], touch := [(7, []), (10, [4])] }), (18, { order := [0, 1, 2, 3, 4, 5, 6, 7, 8, 9] })], loops := [(0, { vars := [], sites := [4], slots := [(4, .tree TyO186), (12, .keep), (13, .keep), (14, .keep)] }), (2, { vars := [], sites := [4], slots := [(4, .tree TyO186), (12, .keep), (13, .keep), (14, .keep)] })], ends := [(0, { vars := [], sites := [4], slots := [(4, .keep)] }), (2, { vars := [], sites := [4], slots := [(4, .keep), (12, .keep), (13, .keep), (14, .keep)] })], heads := [(4, { vars := [], sites := [4], slots := [(4, .keep), (12, .keep), (13, .keep), (14, .keep)] })], acts := [((11, 4), (.pair (.arr 9 .unit) .unit))], res := [I64, I64] }
noncomputable def e161 (y : Int × Int) : List CRes × List CVar := ([.v I64 y.1, .v I64 y.2], [])
noncomputable def Φ161 (n : Nat) : Prog := Prog.of [E167 n, E168 n, E169 n]
inductive P161 where
  | F (a0 : List (Int × (Int × Int)))
  | E0 (x279 : List Vl184)
  | L0 (x275 : List (Int × (Int × Int))) (x276 x277 : Int) (x278 : List Vl184)
  | E2 (x271 : List (Int × (Int × Int))) (x272 x273 : Int) (x274 : List Vl184)
  | L2 (x250 : List (Int × (Int × Int))) (x251 x252 : Int) (x253 : List Vl184)
  | Q4 (x140 : List (Int × (Int × Int))) (x141 x142 : Int) (x143 : List Vl184)
noncomputable def s161 (n : Nat) (γ : Type) : P161 → (P161 → Option γ) → ((Int × Int) → Option γ) → Option γ
  | .F a0, k, r =>
    k (.L0 a0 (List.length a0 : Int) (0 : Int) [(((0 : Int), ((0 : Int), (0 : Int))), ((1 : Int), ((0 : Int), (0 : Int))))])
  | .E0 x279, k, r =>
    if 0 ≤ (0 : Int) then (
    if (0 : Int) < (List.length x279 : Int) then (
    if 0 ≤ (0 : Int) then (
    if (0 : Int) < (List.length x279 : Int) then (
    r ((List.getD x279 0 (((0 : Int), ((0 : Int), (0 : Int))), ((0 : Int), ((0 : Int), (0 : Int))))).2.2.1, (List.getD x279 0 (((0 : Int), ((0 : Int), (0 : Int))), ((0 : Int), ((0 : Int), (0 : Int))))).2.2.2)) else none) else none) else none) else none
  | .L0 x275 x276 x277 x278, k, r =>
    cond ((ltB x277 x276)) (
      k (.Q4 x275 x276 x277 x278)) (
      k (.E0 x278))
  | .E2 x271 x272 x273 x274, k, r =>
    k (.L0 x271 x272 (w64 (x273 + (1 : Int))) x274)
  | .L2 x250 x251 x252 x253, k, r =>
    cond ((ltB (1 : Int) (List.length x253 : Int))) (
      if 0 ≤ (w64 ((List.length x253 : Int) - (1 : Int))) then (
      if (w64 ((List.length x253 : Int) - (1 : Int))) < (List.length x253 : Int) then (
      let u285 : Bool := (eqB (List.getD x253 (Int.toNat (w64 ((List.length x253 : Int) - (1 : Int)))) (((0 : Int), ((0 : Int), (0 : Int))), ((0 : Int), ((0 : Int), (0 : Int))))).2.1 (0 : Int))
      cond (u285) (
        if 0 ≤ (w64 ((List.length x253 : Int) - (1 : Int))) then (
        if (w64 ((List.length x253 : Int) - (1 : Int))) < (List.length x253 : Int) then (
        if 0 ≤ (w64 ((List.length x253 : Int) - (2 : Int))) then (
        if (w64 ((List.length x253 : Int) - (2 : Int))) < (List.length x253 : Int) then (
        if 0 ≤ (w64 ((List.length x253 : Int) - (1 : Int))) then (
        if (w64 ((List.length x253 : Int) - (1 : Int))) ≤ (List.length x253 : Int) then (
        if (Int.toNat (w64 ((List.length x253 : Int) - (2 : Int)))) < (Int.toNat (w64 ((List.length x253 : Int) - (1 : Int)))) then (
        let u286 : Bool := (eqB (List.getD x253 (Int.toNat (w64 ((List.length x253 : Int) - (1 : Int)))) (((0 : Int), ((0 : Int), (0 : Int))), ((0 : Int), ((0 : Int), (0 : Int))))).1.1 (4 : Int))
        cond (u286) (
          (p168 n (List.getD x253 (Int.toNat (w64 ((List.length x253 : Int) - (1 : Int)))) (((0 : Int), ((0 : Int), (0 : Int))), ((0 : Int), ((0 : Int), (0 : Int))))).1.2.2 (List.getD x253 (Int.toNat (w64 ((List.length x253 : Int) - (1 : Int)))) (((0 : Int), ((0 : Int), (0 : Int))), ((0 : Int), ((0 : Int), (0 : Int))))).2.2.2).bind fun y287 =>
          let u288 : Int := (w64 ((List.getD (List.take (Int.toNat (w64 ((List.length x253 : Int) - (1 : Int)))) x253) (Int.toNat (w64 ((List.length x253 : Int) - (2 : Int)))) (((0 : Int), ((0 : Int), (0 : Int))), ((0 : Int), ((0 : Int), (0 : Int))))).2.1 - (1 : Int)))
          let u289 : List Vl184 := (List.set (List.take (Int.toNat (w64 ((List.length x253 : Int) - (1 : Int)))) x253) (Int.toNat (w64 ((List.length x253 : Int) - (2 : Int)))) ((List.getD (List.take (Int.toNat (w64 ((List.length x253 : Int) - (1 : Int)))) x253) (Int.toNat (w64 ((List.length x253 : Int) - (2 : Int)))) (((0 : Int), ((0 : Int), (0 : Int))), ((0 : Int), ((0 : Int), (0 : Int))))).1, (u288, (List.getD (List.take (Int.toNat (w64 ((List.length x253 : Int) - (1 : Int)))) x253) (Int.toNat (w64 ((List.length x253 : Int) - (2 : Int)))) (((0 : Int), ((0 : Int), (0 : Int))), ((0 : Int), ((0 : Int), (0 : Int))))).2.2)))
          let u290 : Int := (w64 ((List.getD x253 (Int.toNat (w64 ((List.length x253 : Int) - (1 : Int)))) (((0 : Int), ((0 : Int), (0 : Int))), ((0 : Int), ((0 : Int), (0 : Int))))).2.2.1 + (1 : Int)))
          let u291 : Int := (max (List.getD u289 (Int.toNat (w64 ((List.length x253 : Int) - (2 : Int)))) (((0 : Int), ((0 : Int), (0 : Int))), ((0 : Int), ((0 : Int), (0 : Int))))).2.2.1 u290)
          let u292 : List Vl184 := (List.set u289 (Int.toNat (w64 ((List.length x253 : Int) - (2 : Int)))) ((List.getD u289 (Int.toNat (w64 ((List.length x253 : Int) - (2 : Int)))) (((0 : Int), ((0 : Int), (0 : Int))), ((0 : Int), ((0 : Int), (0 : Int))))).1, ((List.getD u289 (Int.toNat (w64 ((List.length x253 : Int) - (2 : Int)))) (((0 : Int), ((0 : Int), (0 : Int))), ((0 : Int), ((0 : Int), (0 : Int))))).2.1, (u291, (List.getD u289 (Int.toNat (w64 ((List.length x253 : Int) - (2 : Int)))) (((0 : Int), ((0 : Int), (0 : Int))), ((0 : Int), ((0 : Int), (0 : Int))))).2.2.2))))
          (p169 n (List.getD u292 (Int.toNat (w64 ((List.length x253 : Int) - (2 : Int)))) (((0 : Int), ((0 : Int), (0 : Int))), ((0 : Int), ((0 : Int), (0 : Int))))).2.2.2 y287).bind fun y293 =>
          let u294 : List Vl184 := (List.set u292 (Int.toNat (w64 ((List.length x253 : Int) - (2 : Int)))) ((List.getD u292 (Int.toNat (w64 ((List.length x253 : Int) - (2 : Int)))) (((0 : Int), ((0 : Int), (0 : Int))), ((0 : Int), ((0 : Int), (0 : Int))))).1, ((List.getD u292 (Int.toNat (w64 ((List.length x253 : Int) - (2 : Int)))) (((0 : Int), ((0 : Int), (0 : Int))), ((0 : Int), ((0 : Int), (0 : Int))))).2.1, ((List.getD u292 (Int.toNat (w64 ((List.length x253 : Int) - (2 : Int)))) (((0 : Int), ((0 : Int), (0 : Int))), ((0 : Int), ((0 : Int), (0 : Int))))).2.2.1, y293))))
          k (.L2 x250 x251 x252 u294)) (
          let u295 : Int := (w64 ((List.getD (List.take (Int.toNat (w64 ((List.length x253 : Int) - (1 : Int)))) x253) (Int.toNat (w64 ((List.length x253 : Int) - (2 : Int)))) (((0 : Int), ((0 : Int), (0 : Int))), ((0 : Int), ((0 : Int), (0 : Int))))).2.1 - (1 : Int)))
          let u296 : List Vl184 := (List.set (List.take (Int.toNat (w64 ((List.length x253 : Int) - (1 : Int)))) x253) (Int.toNat (w64 ((List.length x253 : Int) - (2 : Int)))) ((List.getD (List.take (Int.toNat (w64 ((List.length x253 : Int) - (1 : Int)))) x253) (Int.toNat (w64 ((List.length x253 : Int) - (2 : Int)))) (((0 : Int), ((0 : Int), (0 : Int))), ((0 : Int), ((0 : Int), (0 : Int))))).1, (u295, (List.getD (List.take (Int.toNat (w64 ((List.length x253 : Int) - (1 : Int)))) x253) (Int.toNat (w64 ((List.length x253 : Int) - (2 : Int)))) (((0 : Int), ((0 : Int), (0 : Int))), ((0 : Int), ((0 : Int), (0 : Int))))).2.2)))
          let u297 : Int := (w64 ((List.getD x253 (Int.toNat (w64 ((List.length x253 : Int) - (1 : Int)))) (((0 : Int), ((0 : Int), (0 : Int))), ((0 : Int), ((0 : Int), (0 : Int))))).2.2.1 + (1 : Int)))
          let u298 : Int := (max (List.getD u296 (Int.toNat (w64 ((List.length x253 : Int) - (2 : Int)))) (((0 : Int), ((0 : Int), (0 : Int))), ((0 : Int), ((0 : Int), (0 : Int))))).2.2.1 u297)
          let u299 : List Vl184 := (List.set u296 (Int.toNat (w64 ((List.length x253 : Int) - (2 : Int)))) ((List.getD u296 (Int.toNat (w64 ((List.length x253 : Int) - (2 : Int)))) (((0 : Int), ((0 : Int), (0 : Int))), ((0 : Int), ((0 : Int), (0 : Int))))).1, ((List.getD u296 (Int.toNat (w64 ((List.length x253 : Int) - (2 : Int)))) (((0 : Int), ((0 : Int), (0 : Int))), ((0 : Int), ((0 : Int), (0 : Int))))).2.1, (u298, (List.getD u296 (Int.toNat (w64 ((List.length x253 : Int) - (2 : Int)))) (((0 : Int), ((0 : Int), (0 : Int))), ((0 : Int), ((0 : Int), (0 : Int))))).2.2.2))))
          (p169 n (List.getD u299 (Int.toNat (w64 ((List.length x253 : Int) - (2 : Int)))) (((0 : Int), ((0 : Int), (0 : Int))), ((0 : Int), ((0 : Int), (0 : Int))))).2.2.2 (List.getD x253 (Int.toNat (w64 ((List.length x253 : Int) - (1 : Int)))) (((0 : Int), ((0 : Int), (0 : Int))), ((0 : Int), ((0 : Int), (0 : Int))))).2.2.2).bind fun y300 =>
          let u301 : List Vl184 := (List.set u299 (Int.toNat (w64 ((List.length x253 : Int) - (2 : Int)))) ((List.getD u299 (Int.toNat (w64 ((List.length x253 : Int) - (2 : Int)))) (((0 : Int), ((0 : Int), (0 : Int))), ((0 : Int), ((0 : Int), (0 : Int))))).1, ((List.getD u299 (Int.toNat (w64 ((List.length x253 : Int) - (2 : Int)))) (((0 : Int), ((0 : Int), (0 : Int))), ((0 : Int), ((0 : Int), (0 : Int))))).2.1, ((List.getD u299 (Int.toNat (w64 ((List.length x253 : Int) - (2 : Int)))) (((0 : Int), ((0 : Int), (0 : Int))), ((0 : Int), ((0 : Int), (0 : Int))))).2.2.1, y300))))
          k (.L2 x250 x251 x252 u301))) else none) else none) else none) else none) else none) else none) else none) (
        k (.E2 x250 x251 x252 x253))) else none) else none) (
      k (.E2 x250 x251 x252 x253))
  | .Q4 x140 x141 x142 x143, k, r =>
    if 0 ≤ x142 then (
    if x142 < (List.length x140 : Int) then (
    (p167 n (List.getD x140 (Int.toNat x142) ((0 : Int), ((0 : Int), (0 : Int))))).bind fun y280 =>
    if (List.length x143 + List.length [((List.getD x140 (Int.toNat x142) ((0 : Int), ((0 : Int), (0 : Int)))), (y280, ((0 : Int), (0 : Int))))]) * 48 ≤ 140737488355328 then (
    let u281 : List Vl184 := (x143 ++ [((List.getD x140 (Int.toNat x142) ((0 : Int), ((0 : Int), (0 : Int)))), (y280, ((0 : Int), (0 : Int))))])
    if 0 ≤ (w64 ((List.length u281 : Int) - (1 : Int))) then (
    if (w64 ((List.length u281 : Int) - (1 : Int))) < (List.length u281 : Int) then (
    let u282 : Bool := (eqB (List.getD u281 (Int.toNat (w64 ((List.length u281 : Int) - (1 : Int)))) (((0 : Int), ((0 : Int), (0 : Int))), ((0 : Int), ((0 : Int), (0 : Int))))).2.1 (0 : Int))
    cond (u282) (
      let u283 : Int := (min (4097 : Int) (List.getD x140 (Int.toNat x142) ((0 : Int), ((0 : Int), (0 : Int)))).2.2)
      if 0 ≤ (w64 ((List.length u281 : Int) - (1 : Int))) then (
      if (w64 ((List.length u281 : Int) - (1 : Int))) < (List.length u281 : Int) then (
      let u284 : List Vl184 := (List.set u281 (Int.toNat (w64 ((List.length u281 : Int) - (1 : Int)))) ((List.getD u281 (Int.toNat (w64 ((List.length u281 : Int) - (1 : Int)))) (((0 : Int), ((0 : Int), (0 : Int))), ((0 : Int), ((0 : Int), (0 : Int))))).1, ((List.getD u281 (Int.toNat (w64 ((List.length u281 : Int) - (1 : Int)))) (((0 : Int), ((0 : Int), (0 : Int))), ((0 : Int), ((0 : Int), (0 : Int))))).2.1, ((List.getD u281 (Int.toNat (w64 ((List.length u281 : Int) - (1 : Int)))) (((0 : Int), ((0 : Int), (0 : Int))), ((0 : Int), ((0 : Int), (0 : Int))))).2.2.1, u283))))
      k (.L2 x140 x141 x142 u284)) else none) else none) (
      k (.L2 x140 x141 x142 u281))) else none) else none) else none) else none) else none
theorem nat161 (n : Nat) : NatS (s161 n) := fun g p k r => by
  cases p <;> simp only [s161, bind_cond, bind_ite, bind_optK, Option.bind_assoc, Option.bind_none]
theorem us161 {n m : Nat} (h : n ≤ m) : UpS (s161 n) (s161 m) := fun γ p k r => by
  cases p <;> dsimp only [s161] <;> repeat' first | with_reducible exact up_rfl | apply up_cond | apply up_ite | apply up_bind | apply up_optK | apply up167 h | apply up168 h | apply up169 h | intro
noncomputable def k161_0 (n : Nat)  : Ex → St → Option (List CRes × List CVar) := finK' Γ f161 a161 0
noncomputable def c161_0 : Code := partB (bodyOf f161)
noncomputable def c161_1 : Code := partB c161_0
noncomputable def c161_2 : Code := partB c161_1
noncomputable def k161_1 (n : Nat)  : Ex → St → Option (List CRes × List CVar) := seqK Γ (Φ161 n) a161 n c161_2 0 (k161_0 n)
noncomputable def c161_3 : Code := partA c161_1
noncomputable def c161_4 : Code := partB c161_3
noncomputable def c161_5 : Code := partA c161_4
noncomputable def c161_6 : Code := partA c161_5
noncomputable def k161_2 (n : Nat)  : Ex → St → Option (List CRes × List CVar) := blockK a161 0 (k161_1 n)
noncomputable def k161_3 (n : Nat) (u : Nat → Nat) : Ex → St → Option (List CRes × List CVar) := roundK Γ (Φ161 n) a161 n c161_6 0 (u 0) (k161_2 n)
noncomputable def c161_7 : Code := partB c161_6
noncomputable def c161_8 : Code := partB c161_7
noncomputable def c161_9 : Code := partB c161_8
noncomputable def k161_4 (n : Nat) (u : Nat → Nat) : Ex → St → Option (List CRes × List CVar) := seqK Γ (Φ161 n) a161 n c161_9 0 (k161_3 n u)
noncomputable def k161_5 (n : Nat) (u : Nat → Nat) : Ex → St → Option (List CRes × List CVar) := blockK a161 1 (k161_4 n u)
noncomputable def c161_10 : Code := partA c161_8
noncomputable def c161_11 : Code := partA c161_10
noncomputable def c161_12 : Code := partB c161_11
noncomputable def c161_13 : Code := partB c161_12
noncomputable def c161_14 : Code := partB c161_13
noncomputable def c161_15 : Code := partA c161_14
noncomputable def c161_16 : Code := partA c161_15
noncomputable def k161_6 (n : Nat) (u : Nat → Nat) : Ex → St → Option (List CRes × List CVar) := blockK a161 2 (k161_5 n u)
noncomputable def M161 (n : Nat) (u : Nat → Nat) : P161 → Option (List CRes × List CVar)
  | .F a0 => stepIn (fun A => codeK Γ (Φ161 n) a161 n (bodyOf f161) 0 A (k161_0 n)) (mkSt 118 118 [(0, (.val TyS38 a0))] [])
  | .E0 x279 => stepIn ((k161_1 n) .normal) (mkSt 118 118 [(4, (.ref 4 []))] [(4, .tmp TyO186 x279)])
  | .L0 x275 x276 x277 x278 => stepIn (fun A => loopK Γ (Φ161 n) a161 n c161_6 0 (u 0) A (k161_2 n)) (mkSt 118 118 [(4, (.ref 4 [])), (12, (.val TyS38 x275)), (13, (iv x276)), (14, (iv x277))] [(4, .tmp TyO186 x278)])
  | .E2 x271 x272 x273 x274 => stepIn ((k161_5 n u) .normal) (mkSt 118 118 [(4, (.ref 4 [])), (12, (.val TyS38 x271)), (13, (iv x272)), (14, (iv x273))] [(4, .tmp TyO186 x274)])
  | .L2 x250 x251 x252 x253 => stepIn (fun A => loopK Γ (Φ161 n) a161 n c161_16 2 (u 2) A (k161_6 n u)) (mkSt 118 118 [(4, (.ref 4 [])), (12, (.val TyS38 x250)), (13, (iv x251)), (14, (iv x252))] [(4, .tmp TyO186 x253)])
  | .Q4 x140 x141 x142 x143 => stepIn (fun A => codeK Γ (Φ161 n) a161 n c161_8 0 A (k161_3 n u)) (mkSt 118 118 [(4, (.ref 4 [])), (12, (.val TyS38 x140)), (13, (iv x141)), (14, (iv x142))] [(4, .tmp TyO186 x143)])
theorem h161 (n : Nat) (u : Nat → Nat) : ∀ p, (∀ i, 1 ≤ u i) → Ok1 (s161 n) e161 n (M161 n) u p
  | .F a0, _ => pl [] (at_code rfl ((codeK_seq (by kernel_rfl)).trans (by kernel_rfl)))
  | .E0 x279, _ => pl [] (by kernel_rfl)
  | .L0 x275 x276 x277 x278, hu => hd 0 [0] hu fun m hm => (loopK_at hm).trans ((codeK_seq (by kernel_rfl)).trans (by kernel_rfl))
  | .E2 x271 x272 x273 x274, _ => pl [0] (by kernel_rfl)
  | .L2 x250 x251 x252 x253, hu => hd 2 [0, 2] hu fun m hm => (loopK_at hm).trans ((codeK_seq (by kernel_rfl)).trans ((codeK_seq (by kernel_rfl)).trans (by kernel_rfl)))
  | .Q4 x140 x141 x142 x143, _ => pl [0] (at_code rfl ((codeK_seq (by kernel_rfl)).trans ((codeK_block 1 (by kernel_rfl)).trans ((codeK_seq (by kernel_rfl)).trans (by kernel_rfl)))))
noncomputable def p161 (n : Nat) (a0 : List (Int × (Int × Int))) : Option (Int × Int) := flow (s161 n) n (.F a0)
theorem up161 {n m : Nat} (h : n ≤ m) (a0 : List (Int × (Int × Int))) : Up (p161 n a0) (p161 m a0) := flow_up (nat161 n) (us161 h) h _
noncomputable def E161 (n : Nat) : Entry := mkE 161 .flat [.tree TyS38] [] (fun a b => p161 n a.1) e161
theorem ok161 (n : Nat) : EntryOk prog (E161 n) := mkE_ok (Φ := Φ161 n) (ann := a161) (n := n) (F := f161) (by kernel_rfl) (by kernel_rfl) (by kernel_rfl) (known_prog (known_cons (ok167 n) (known_cons (ok168 n) (known_cons (ok169 n) known_nil)))) mixed fun a b y h =>
  (show _ = M161 n (fun _ => n) (.F a.1) by kernel_rfl).trans (flow_sound (nat161 n) (h161 n) n _ _ y (Nat.le_refl _) (fun _ => Nat.le_refl _) h)
/-! ### F139 horarium/node.Length -/
noncomputable def a139 : Ann := { res := [I64, .bool] }
noncomputable def e139 (y : Int × Bool) : List CRes × List CVar := ([.v I64 y.1, .v .bool y.2], [])
noncomputable def Φ139 (n : Nat) : Prog := Prog.of [E140 n, E161 n]
inductive P139 where
  | F (a0 : List (Int × (Int × Int)))
noncomputable def s139 (n : Nat) (γ : Type) : P139 → (P139 → Option γ) → ((Int × Bool) → Option γ) → Option γ
  | .F a0, k, r =>
    (p140 n a0).bind fun y1 =>
    cond ((!y1)) (
      r ((0 : Int), false)) (
      (p161 n a0).bind fun cy2 =>
      cond ((leB cy2.2 (4096 : Int))) (
        r (cy2.2, true)) (
        r ((0 : Int), false)))
theorem nat139 (n : Nat) : NatS (s139 n) := fun g p k r => by
  cases p <;> simp only [s139, bind_cond, bind_ite, bind_optK, Option.bind_assoc, Option.bind_none]
theorem us139 {n m : Nat} (h : n ≤ m) : UpS (s139 n) (s139 m) := fun γ p k r => by
  cases p <;> dsimp only [s139] <;> repeat' first | with_reducible exact up_rfl | apply up_cond | apply up_ite | apply up_bind | apply up_optK | apply up140 h | apply up161 h | intro
noncomputable def k139_0 (n : Nat)  : Ex → St → Option (List CRes × List CVar) := finK' Γ f139 a139 0
noncomputable def M139 (n : Nat) (u : Nat → Nat) : P139 → Option (List CRes × List CVar)
  | .F a0 => stepIn (fun A => codeK Γ (Φ139 n) a139 n (bodyOf f139) 0 A (k139_0 n)) (mkSt 17 17 [(0, (.val TyS38 a0))] [])
theorem h139 (n : Nat) (u : Nat → Nat) : ∀ p, (∀ i, 1 ≤ u i) → Ok1 (s139 n) e139 n (M139 n) u p
  | .F a0, _ => pl [] (at_code rfl ((codeK_seq (by kernel_rfl)).trans (by kernel_rfl)))
noncomputable def p139 (n : Nat) (a0 : List (Int × (Int × Int))) : Option (Int × Bool) := flow (s139 n) n (.F a0)
theorem up139 {n m : Nat} (h : n ≤ m) (a0 : List (Int × (Int × Int))) : Up (p139 n a0) (p139 m a0) := flow_up (nat139 n) (us139 h) h _
noncomputable def E139 (n : Nat) : Entry := mkE 139 .flat [.tree TyS38] [] (fun a b => p139 n a.1) e139
theorem ok139 (n : Nat) : EntryOk prog (E139 n) := mkE_ok (Φ := Φ139 n) (ann := a139) (n := n) (F := f139) (by kernel_rfl) (by kernel_rfl) (by kernel_rfl) (known_prog (known_cons (ok140 n) (known_cons (ok161 n) known_nil))) mixed fun a b y h =>
  (show _ = M139 n (fun _ => n) (.F a.1) by kernel_rfl).trans (flow_sound (nat139 n) (h139 n) n _ _ y (Nat.le_refl _) (fun _ => Nat.le_refl _) h)
/-! ### F141 horarium/node.Depth -/
noncomputable def a141 : Ann := { res := [I64] }
noncomputable def e141 (y : Int) : List CRes × List CVar := ([.v I64 y], [])
noncomputable def Φ141 (n : Nat) : Prog := Prog.of [E140 n, E161 n]
inductive P141 where
  | F (a0 : List (Int × (Int × Int)))
noncomputable def s141 (n : Nat) (γ : Type) : P141 → (P141 → Option γ) → (Int → Option γ) → Option γ
  | .F a0, k, r =>
    (p140 n a0).bind fun y1 =>
    cond ((!y1)) (
      r (0 : Int)) (
      (p161 n a0).bind fun cy2 =>
      r cy2.1)
theorem nat141 (n : Nat) : NatS (s141 n) := fun g p k r => by
  cases p <;> simp only [s141, bind_cond, bind_ite, bind_optK, Option.bind_assoc, Option.bind_none]
theorem us141 {n m : Nat} (h : n ≤ m) : UpS (s141 n) (s141 m) := fun γ p k r => by
  cases p <;> dsimp only [s141] <;> repeat' first | with_reducible exact up_rfl | apply up_cond | apply up_ite | apply up_bind | apply up_optK | apply up140 h | apply up161 h | intro
noncomputable def k141_0 (n : Nat)  : Ex → St → Option (List CRes × List CVar) := finK' Γ f141 a141 0
noncomputable def M141 (n : Nat) (u : Nat → Nat) : P141 → Option (List CRes × List CVar)
  | .F a0 => stepIn (fun A => codeK Γ (Φ141 n) a141 n (bodyOf f141) 0 A (k141_0 n)) (mkSt 14 14 [(0, (.val TyS38 a0))] [])
theorem h141 (n : Nat) (u : Nat → Nat) : ∀ p, (∀ i, 1 ≤ u i) → Ok1 (s141 n) e141 n (M141 n) u p
  | .F a0, _ => pl [] (at_code rfl ((codeK_seq (by kernel_rfl)).trans (by kernel_rfl)))
noncomputable def p141 (n : Nat) (a0 : List (Int × (Int × Int))) : Option (Int) := flow (s141 n) n (.F a0)
theorem up141 {n m : Nat} (h : n ≤ m) (a0 : List (Int × (Int × Int))) : Up (p141 n a0) (p141 m a0) := flow_up (nat141 n) (us141 h) h _
noncomputable def E141 (n : Nat) : Entry := mkE 141 .flat [.tree TyS38] [] (fun a b => p141 n a.1) e141
theorem ok141 (n : Nat) : EntryOk prog (E141 n) := mkE_ok (Φ := Φ141 n) (ann := a141) (n := n) (F := f141) (by kernel_rfl) (by kernel_rfl) (by kernel_rfl) (known_prog (known_cons (ok140 n) (known_cons (ok161 n) known_nil))) mixed fun a b y h =>
  (show _ = M141 n (fun _ => n) (.F a.1) by kernel_rfl).trans (flow_sound (nat141 n) (h141 n) n _ _ y (Nat.le_refl _) (fun _ => Nat.le_refl _) h)
/-! ### F87 horarium/node.Right -/
noncomputable def a87 : Ann := { res := [I64] }
noncomputable def e87 (y : Int) : List CRes × List CVar := ([.v I64 y], [])
noncomputable def Φ87 (n : Nat) : Prog := Prog.of [E139 n, E140 n, E141 n]
inductive P87 where
  | F (a0 : List (Int × (Int × Int)))
noncomputable def s87 (n : Nat) (γ : Type) : P87 → (P87 → Option γ) → (Int → Option γ) → Option γ
  | .F a0, k, r =>
    (p139 n a0).bind fun cy1 =>
    cond ((ltB (128 : Int) (List.length a0 : Int))) (
      r (3 : Int)) (
      (p140 n a0).bind fun y3 =>
      cond ((!y3)) (
        r (12 : Int)) (
        (p141 n a0).bind fun y4 =>
        cond ((ltB (16 : Int) y4)) (
          r (14 : Int)) (
          cond ((!cy1.2)) (
            r (18 : Int)) (
            r (0 : Int)))))
theorem nat87 (n : Nat) : NatS (s87 n) := fun g p k r => by
  cases p <;> simp only [s87, bind_cond, bind_ite, bind_optK, Option.bind_assoc, Option.bind_none]
theorem us87 {n m : Nat} (h : n ≤ m) : UpS (s87 n) (s87 m) := fun γ p k r => by
  cases p <;> dsimp only [s87] <;> repeat' first | with_reducible exact up_rfl | apply up_cond | apply up_ite | apply up_bind | apply up_optK | apply up139 h | apply up140 h | apply up141 h | intro
noncomputable def k87_0 (n : Nat)  : Ex → St → Option (List CRes × List CVar) := finK' Γ f87 a87 0
noncomputable def M87 (n : Nat) (u : Nat → Nat) : P87 → Option (List CRes × List CVar)
  | .F a0 => stepIn (fun A => codeK Γ (Φ87 n) a87 n (bodyOf f87) 0 A (k87_0 n)) (mkSt 25 25 [(0, (.val TyS38 a0))] [])
theorem h87 (n : Nat) (u : Nat → Nat) : ∀ p, (∀ i, 1 ≤ u i) → Ok1 (s87 n) e87 n (M87 n) u p
  | .F a0, _ => pl [] (at_code rfl ((codeK_seq (by kernel_rfl)).trans (by kernel_rfl)))
noncomputable def p87 (n : Nat) (a0 : List (Int × (Int × Int))) : Option (Int) := flow (s87 n) n (.F a0)
theorem up87 {n m : Nat} (h : n ≤ m) (a0 : List (Int × (Int × Int))) : Up (p87 n a0) (p87 m a0) := flow_up (nat87 n) (us87 h) h _
noncomputable def E87 (n : Nat) : Entry := mkE 87 .flat [.tree TyS38] [] (fun a b => p87 n a.1) e87
theorem ok87 (n : Nat) : EntryOk prog (E87 n) := mkE_ok (Φ := Φ87 n) (ann := a87) (n := n) (F := f87) (by kernel_rfl) (by kernel_rfl) (by kernel_rfl) (known_prog (known_cons (ok139 n) (known_cons (ok140 n) (known_cons (ok141 n) known_nil)))) mixed fun a b y h =>
  (show _ = M87 n (fun _ => n) (.F a.1) by kernel_rfl).trans (flow_sound (nat87 n) (h87 n) n _ _ y (Nat.le_refl _) (fun _ => Nat.le_refl _) h)
/-! ### F88 slices.Clone[[]horarium/api.Node,horarium/api.Node] -/
noncomputable def a88 : Ann := { res := [TyO38] }
noncomputable def e88 (y : List (Int × (Int × Int))) : List CRes × List CVar := ([.v TyO38 y], [])
noncomputable def Φ88 (n : Nat) : Prog := Prog.of []
inductive P88 where
  | F (a0 : List (Int × (Int × Int)))
noncomputable def s88 (n : Nat) (γ : Type) : P88 → (P88 → Option γ) → ((List (Int × (Int × Int))) → Option γ) → Option γ
  | .F a0, k, r =>
    if (List.length ([] : (List (Int × (Int × Int)))) + List.length a0) * 24 ≤ 140737488355328 then (
    r a0) else none
theorem nat88 (n : Nat) : NatS (s88 n) := fun g p k r => by
  cases p <;> simp only [s88, bind_cond, bind_ite, bind_optK, Option.bind_assoc, Option.bind_none]
theorem us88 {n m : Nat} (h : n ≤ m) : UpS (s88 n) (s88 m) := fun γ p k r => by
  cases p <;> dsimp only [s88] <;> repeat' first | with_reducible exact up_rfl | apply up_cond | apply up_ite | apply up_bind | apply up_optK | intro
noncomputable def k88_0 (n : Nat)  : Ex → St → Option (List CRes × List CVar) := finK' Γ f88 a88 0
noncomputable def M88 (n : Nat) (u : Nat → Nat) : P88 → Option (List CRes × List CVar)
  | .F a0 => stepIn (fun A => codeK Γ (Φ88 n) a88 n (bodyOf f88) 0 A (k88_0 n)) (mkSt 8 8 [(0, (.val TyS38 a0))] [])
theorem h88 (n : Nat) (u : Nat → Nat) : ∀ p, (∀ i, 1 ≤ u i) → Ok1 (s88 n) e88 n (M88 n) u p
  | .F a0, _ => pl [] (at_code rfl (match a0 with | [] => both_of (by kernel_rfl) | _ :: _ => by kernel_rfl))
noncomputable def p88 (n : Nat) (a0 : List (Int × (Int × Int))) : Option (List (Int × (Int × Int))) := flow (s88 n) n (.F a0)
theorem up88 {n m : Nat} (h : n ≤ m) (a0 : List (Int × (Int × Int))) : Up (p88 n a0) (p88 m a0) := flow_up (nat88 n) (us88 h) h _
noncomputable def E88 (n : Nat) : Entry := mkE 88 .look [.tree TyS38] [] (fun a b => p88 n a.1) e88
theorem ok88 (n : Nat) : EntryOk prog (E88 n) := mkE_ok (Φ := Φ88 n) (ann := a88) (n := n) (F := f88) (by kernel_rfl) (by kernel_rfl) (by kernel_rfl) (known_prog known_nil) mixed fun a b y h =>
  (show _ = M88 n (fun _ => n) (.F a.1) by kernel_rfl).trans (flow_sound (nat88 n) (h88 n) n _ _ y (Nat.le_refl _) (fun _ => Nat.le_refl _) h)
/-! ### F91 (*horarium/cursor.Cursor).down -/
noncomputable def a91 : Ann := { draws := [(1, { order := [0, 1, 2, 3, 4, 5, 6, 7, 8, 9, 10, 11, 12, 13, 14, 15, 16, 17, 18, 19], touch := [(15, []), (16, [39, 49]), (19, [40, 49])] })], loops := [(0, { vars := [], sites := [49], slots := [(0, .keep), (1, .keep)] })], ends := [(0, { vars := [], sites := [49], slots := [(0, .keep), (1, .keep)] })], res := [] }
noncomputable def e91 (y : (List (Int × (Int × Int))) × ((List (Int × Int)) × (Int × (Int × Int)))) : List CRes × List CVar := ([], [⟨124, TyO123, y⟩])
noncomputable def Φ91 (n : Nat) : Prog := Prog.of []
inductive P91 where
  | F (a1 : Int) (b0 : (List (Int × (Int × Int))) × ((List (Int × Int)) × (Int × (Int × Int))))
  | E0 (x25 : Int) (x26 : List (Int × (Int × Int))) (x27 : List (Int × Int)) (x28 x29 x30 : Int)
  | L0 (x15 : Int) (x16 : List (Int × (Int × Int))) (x17 : List (Int × Int)) (x18 x19 x20 : Int)
noncomputable def s91 (n : Nat) (γ : Type) : P91 → (P91 → Option γ) → ((List (Int × (Int × Int))) × ((List (Int × Int)) × (Int × (Int × Int))) → Option γ) → Option γ
  | .F a1 b0, k, r =>
    k (.L0 a1 b0.1 b0.2.1 b0.2.2.1 b0.2.2.2.1 b0.2.2.2.2)
  | .E0 x25 x26 x27 x28 x29 x30, k, r =>
    r (x26, (x27, (x25, (x29, x30))))
  | .L0 x15 x16 x17 x18 x19 x20, k, r =>
    if 0 ≤ x15 then (
    if x15 < (List.length x16 : Int) then (
    let u21 : Bool := (eqB (List.getD x16 (Int.toNat x15) ((0 : Int), ((0 : Int), (0 : Int)))).1 (3 : Int))
    cond (u21) (
      if 0 ≤ x15 then (
      if x15 < (List.length x16 : Int) then (
      if (List.length x17 + List.length [(x15, (List.getD x16 (Int.toNat x15) ((0 : Int), ((0 : Int), (0 : Int)))).2.2)]) * 16 ≤ 140737488355328 then (
      let u22 : List (Int × Int) := (x17 ++ [(x15, (List.getD x16 (Int.toNat x15) ((0 : Int), ((0 : Int), (0 : Int)))).2.2)])
      k (.L0 (w64 (x15 + (1 : Int))) x16 u22 x18 x19 x20)) else none) else none) else none) (
      if 0 ≤ x15 then (
      if x15 < (List.length x16 : Int) then (
      let u23 : Bool := (eqB (List.getD x16 (Int.toNat x15) ((0 : Int), ((0 : Int), (0 : Int)))).1 (4 : Int))
      cond (u23) (
        if 0 ≤ x15 then (
        if x15 < (List.length x16 : Int) then (
        if (List.length x17 + List.length [(x15, (List.getD x16 (Int.toNat x15) ((0 : Int), ((0 : Int), (0 : Int)))).2.2)]) * 16 ≤ 140737488355328 then (
        let u24 : List (Int × Int) := (x17 ++ [(x15, (List.getD x16 (Int.toNat x15) ((0 : Int), ((0 : Int), (0 : Int)))).2.2)])
        k (.L0 (w64 (x15 + (1 : Int))) x16 u24 x18 x19 x20)) else none) else none) else none) (
        k (.E0 x15 x16 x17 x18 x19 x20))) else none) else none)) else none) else none
theorem nat91 (n : Nat) : NatS (s91 n) := fun g p k r => by
  cases p <;> simp only [s91, bind_cond, bind_ite, bind_optK, Option.bind_assoc, Option.bind_none]
theorem us91 {n m : Nat} (h : n ≤ m) : UpS (s91 n) (s91 m) := fun γ p k r => by
  cases p <;> dsimp only [s91] <;> repeat' first | with_reducible exact up_rfl | apply up_cond | apply up_ite | apply up_bind | apply up_optK | intro
noncomputable def k91_0 (n : Nat)  : Ex → St → Option (List CRes × List CVar) := finK' Γ f91 a91 1
noncomputable def c91_0 : Code := partB (bodyOf f91)
noncomputable def k91_1 (n : Nat)  : Ex → St → Option (List CRes × List CVar) := seqK Γ (Φ91 n) a91 n c91_0 0 (k91_0 n)
noncomputable def c91_1 : Code := partA (bodyOf f91)
noncomputable def c91_2 : Code := partA c91_1
noncomputable def c91_3 : Code := partA c91_2
noncomputable def k91_2 (n : Nat)  : Ex → St → Option (List CRes × List CVar) := blockK a91 0 (k91_1 n)
noncomputable def M91 (n : Nat) (u : Nat → Nat) : P91 → Option (List CRes × List CVar)
  | .F a1 b0 => stepIn (fun A => codeK Γ (Φ91 n) a91 n (bodyOf f91) 0 A (k91_0 n)) (mkSt 49 50 [(0, (.ptr 49 [])), (1, (iv a1))] [(49, .var 124 TyO123 b0)])
  | .E0 x25 x26 x27 x28 x29 x30 => stepIn ((k91_1 n) .normal) (mkSt 49 50 [(0, (.ptr 49 [])), (1, (iv x25))] [(49, .var 124 TyO123 (x26, (x27, (x28, (x29, x30)))))])
  | .L0 x15 x16 x17 x18 x19 x20 => stepIn (fun A => loopK Γ (Φ91 n) a91 n c91_3 0 (u 0) A (k91_2 n)) (mkSt 49 50 [(0, (.ptr 49 [])), (1, (iv x15))] [(49, .var 124 TyO123 (x16, (x17, (x18, (x19, x20)))))])
theorem h91 (n : Nat) (u : Nat → Nat) : ∀ p, (∀ i, 1 ≤ u i) → Ok1 (s91 n) e91 n (M91 n) u p
  | .F a1 b0, _ => pl [] (at_code rfl ((codeK_seq (by kernel_rfl)).trans ((codeK_block 0 (by kernel_rfl)).trans (by kernel_rfl))))
  | .E0 x25 x26 x27 x28 x29 x30, _ => pl [] (by kernel_rfl)
  | .L0 x15 x16 x17 x18 x19 x20, hu => hd 0 [0] hu fun m hm => (loopK_at hm).trans ((codeK_seq (by kernel_rfl)).trans ((codeK_seq (by kernel_rfl)).trans (by kernel_rfl)))
noncomputable def p91 (n : Nat) (a1 : Int) (b0 : (List (Int × (Int × Int))) × ((List (Int × Int)) × (Int × (Int × Int)))) : Option Vl123 := flow (s91 n) n (.F a1 b0)
theorem up91 {n m : Nat} (h : n ≤ m) (a1 : Int) (b0 : (List (Int × (Int × Int))) × ((List (Int × Int)) × (Int × (Int × Int)))) : Up (p91 n a1 b0) (p91 m a1 b0) := flow_up (nat91 n) (us91 h) h _
noncomputable def E91 (n : Nat) : Entry := mkE 91 .move [.point, .tree I64] [(124, TyO123)] (fun a b => p91 n a.1 b.1) e91
theorem ok91 (n : Nat) : EntryOk prog (E91 n) := mkE_ok (Φ := Φ91 n) (ann := a91) (n := n) (F := f91) (by kernel_rfl) (by kernel_rfl) (by kernel_rfl) (known_prog known_nil) mixed fun a b y h =>
  (show _ = M91 n (fun _ => n) (.F a.1 b.1) by kernel_rfl).trans (flow_sound (nat91 n) (h91 n) n _ _ y (Nat.le_refl _) (fun _ => Nat.le_refl _) h)
/-! ### F42 (*horarium/cursor.Cursor).Reset -/
noncomputable def a42 : Ann := { res := [] }
noncomputable def e42 (y : (List (Int × (Int × Int))) × ((List (Int × Int)) × (Int × (Int × Int)))) : List CRes × List CVar := ([], [⟨124, TyO123, y⟩])
noncomputable def Φ42 (n : Nat) : Prog := Prog.of [E91 n]
inductive P42 where
  | F (b0 : (List (Int × (Int × Int))) × ((List (Int × Int)) × (Int × (Int × Int))))
noncomputable def s42 (n : Nat) (γ : Type) : P42 → (P42 → Option γ) → ((List (Int × (Int × Int))) × ((List (Int × Int)) × (Int × (Int × Int))) → Option γ) → Option γ
  | .F b0, k, r =>
    (p91 n (0 : Int) (b0.1, (([] : (List (Int × Int))), (b0.2.2.1, ((0 : Int), (0 : Int)))))).bind fun w1 =>
    r w1
theorem nat42 (n : Nat) : NatS (s42 n) := fun g p k r => by
  cases p <;> simp only [s42, bind_cond, bind_ite, bind_optK, Option.bind_assoc, Option.bind_none]
theorem us42 {n m : Nat} (h : n ≤ m) : UpS (s42 n) (s42 m) := fun γ p k r => by
  cases p <;> dsimp only [s42] <;> repeat' first | with_reducible exact up_rfl | apply up_cond | apply up_ite | apply up_bind | apply up_optK | apply up91 h | intro
noncomputable def k42_0 (n : Nat)  : Ex → St → Option (List CRes × List CVar) := finK' Γ f42 a42 1
noncomputable def M42 (n : Nat) (u : Nat → Nat) : P42 → Option (List CRes × List CVar)
  | .F b0 => stepIn (fun A => codeK Γ (Φ42 n) a42 n (bodyOf f42) 0 A (k42_0 n)) (mkSt 13 14 [(0, (.ptr 13 []))] [(13, .var 124 TyO123 b0)])
theorem h42 (n : Nat) (u : Nat → Nat) : ∀ p, (∀ i, 1 ≤ u i) → Ok1 (s42 n) e42 n (M42 n) u p
  | .F b0, _ => pl [] (at_code rfl ((codeK_seq (by kernel_rfl)).trans (by kernel_rfl)))
noncomputable def p42 (n : Nat) (b0 : (List (Int × (Int × Int))) × ((List (Int × Int)) × (Int × (Int × Int)))) : Option Vl123 := flow (s42 n) n (.F b0)
theorem up42 {n m : Nat} (h : n ≤ m) (b0 : (List (Int × (Int × Int))) × ((List (Int × Int)) × (Int × (Int × Int)))) : Up (p42 n b0) (p42 m b0) := flow_up (nat42 n) (us42 h) h _
noncomputable def E42 (n : Nat) : Entry := mkE 42 .move [.point] [(124, TyO123)] (fun a b => p42 n b.1) e42
theorem ok42 (n : Nat) : EntryOk prog (E42 n) := mkE_ok (Φ := Φ42 n) (ann := a42) (n := n) (F := f42) (by kernel_rfl) (by kernel_rfl) (by kernel_rfl) (known_prog (known_cons (ok91 n) known_nil)) mixed fun a b y h =>
  (show _ = M42 n (fun _ => n) (.F b.1) by kernel_rfl).trans (flow_sound (nat42 n) (h42 n) n _ _ y (Nat.le_refl _) (fun _ => Nat.le_refl _) h)
/-! ### F40 horarium/cursor.New -/
noncomputable def a40 : Ann := { res := [] }
noncomputable def e40 (y : Option Vl123) : List CRes × List CVar := encO ([.nilp], []) (fun v => ([.new 124 TyO123 v], [])) y
noncomputable def Φ40 (n : Nat) : Prog := Prog.of [E42 n, E87 n, E88 n]
inductive P40 where
  | F (a0 : List (Int × (Int × Int)))
noncomputable def s40 (n : Nat) (γ : Type) : P40 → (P40 → Option γ) → ((Option Vl123) → Option γ) → Option γ
  | .F a0, k, r =>
    (p87 n a0).bind fun y1 =>
    cond ((!eqB y1 (0 : Int))) (
      r none) (
      (p88 n a0).bind fun y2 =>
      (p42 n (y2, (([] : (List (Int × Int))), ((0 : Int), ((0 : Int), (0 : Int)))))).bind fun w3 =>
      r (some w3))
theorem nat40 (n : Nat) : NatS (s40 n) := fun g p k r => by
  cases p <;> simp only [s40, bind_cond, bind_ite, bind_optK, Option.bind_assoc, Option.bind_none]
theorem us40 {n m : Nat} (h : n ≤ m) : UpS (s40 n) (s40 m) := fun γ p k r => by
  cases p <;> dsimp only [s40] <;> repeat' first | with_reducible exact up_rfl | apply up_cond | apply up_ite | apply up_bind | apply up_optK | apply up42 h | apply up87 h | apply up88 h | intro
noncomputable def k40_0 (n : Nat)  : Ex → St → Option (List CRes × List CVar) := finK' Γ f40 a40 0
noncomputable def M40 (n : Nat) (u : Nat → Nat) : P40 → Option (List CRes × List CVar)
  | .F a0 => stepIn (fun A => codeK Γ (Φ40 n) a40 n (bodyOf f40) 0 A (k40_0 n)) (mkSt 14 14 [(0, (.val TyS38 a0))] [])
theorem h40 (n : Nat) (u : Nat → Nat) : ∀ p, (∀ i, 1 ≤ u i) → Ok1 (s40 n) e40 n (M40 n) u p
  | .F a0, _ => pl [] (at_code rfl ((codeK_seq (by kernel_rfl)).trans (by kernel_rfl)))
noncomputable def p40 (n : Nat) (a0 : List (Int × (Int × Int))) : Option (Option Vl123) := flow (s40 n) n (.F a0)
theorem up40 {n m : Nat} (h : n ≤ m) (a0 : List (Int × (Int × Int))) : Up (p40 n a0) (p40 m a0) := flow_up (nat40 n) (us40 h) h _
noncomputable def E40 (n : Nat) : Entry := mkEo 40 .look [.tree TyS38] [] (fun a b => p40 n a.1) ([.nilp], []) (fun v => ([.new 124 TyO123 v], []))
theorem ok40 (n : Nat) : EntryOk prog (E40 n) := mkEo_ok (Φ := Φ40 n) (ann := a40) (n := n) (F := f40) (by kernel_rfl) (by kernel_rfl) (by kernel_rfl) (known_prog (known_cons (ok42 n) (known_cons (ok87 n) (known_cons (ok88 n) known_nil)))) mixed fun a b y h =>
  (show _ = M40 n (fun _ => n) (.F a.1) by kernel_rfl).trans (flow_sound (nat40 n) (h40 n) n _ _ y (Nat.le_refl _) (fun _ => Nat.le_refl _) h)
/-! ### F89 horarium/cursor.part -/
noncomputable def a89 : Ann := { res := [I64] }
noncomputable def e89 (y : Int) : List CRes × List CVar := ([.v I64 y], [])
noncomputable def Φ89 (n : Nat) : Prog := Prog.of []
inductive P89 where
  | F (a0 : Int × (Int × Int))
noncomputable def s89 (n : Nat) (γ : Type) : P89 → (P89 → Option γ) → (Int → Option γ) → Option γ
  | .F a0, k, r =>
    cond ((eqB a0.1 (2 : Int))) (
      r (-1 : Int)) (
      r a0.2.1)
theorem nat89 (n : Nat) : NatS (s89 n) := fun g p k r => by
  cases p <;> simp only [s89, bind_cond, bind_ite, bind_optK, Option.bind_assoc, Option.bind_none]
theorem us89 {n m : Nat} (h : n ≤ m) : UpS (s89 n) (s89 m) := fun γ p k r => by
  cases p <;> dsimp only [s89] <;> repeat' first | with_reducible exact up_rfl | apply up_cond | apply up_ite | apply up_bind | apply up_optK | intro
noncomputable def k89_0 (n : Nat)  : Ex → St → Option (List CRes × List CVar) := finK' Γ f89 a89 0
noncomputable def M89 (n : Nat) (u : Nat → Nat) : P89 → Option (List CRes × List CVar)
  | .F a0 => stepIn (fun A => codeK Γ (Φ89 n) a89 n (bodyOf f89) 0 A (k89_0 n)) (mkSt 8 8 [(0, (.val TyO56 a0))] [])
theorem h89 (n : Nat) (u : Nat → Nat) : ∀ p, (∀ i, 1 ≤ u i) → Ok1 (s89 n) e89 n (M89 n) u p
  | .F a0, _ => pl [] (at_code rfl ((codeK_seq (by kernel_rfl)).trans (by kernel_rfl)))
noncomputable def p89 (n : Nat) (a0 : Int × (Int × Int)) : Option (Int) := flow (s89 n) n (.F a0)
theorem up89 {n m : Nat} (h : n ≤ m) (a0 : Int × (Int × Int)) : Up (p89 n a0) (p89 m a0) := flow_up (nat89 n) (us89 h) h _
noncomputable def E89 (n : Nat) : Entry := mkE 89 .flat [.tree TyO56] [] (fun a b => p89 n a.1) e89
theorem ok89 (n : Nat) : EntryOk prog (E89 n) := mkE_ok (Φ := Φ89 n) (ann := a89) (n := n) (F := f89) (by kernel_rfl) (by kernel_rfl) (by kernel_rfl) (known_prog known_nil) mixed fun a b y h =>
  (show _ = M89 n (fun _ => n) (.F a.1) by kernel_rfl).trans (flow_sound (nat89 n) (h89 n) n _ _ y (Nat.le_refl _) (fun _ => Nat.le_refl _) h)
/-! ### F90 (*horarium/cursor.Cursor).step -/
noncomputable def a90 : Ann := { draws := [(3, { order := [0, 1, 2, 3, 4, 5, 6, 7, 8, 9, 10, 11] }), (6, { order := [0, 1, 2, 3, 4, 5, 6, 7, 8, 9, 10, 11] }), (9, { order := [0, 1, 2, 3, 4, 5, 6, 7, 8, 9, 10, 11, 12, 13, 14], touch := [(11, [83]), (14, [72, 83])] })], loops := [(0, { vars := [], sites := [83], slots := [(0, .keep), (2, .keep)] })], ends := [(0, { vars := [], sites := [83], slots := [(0, .keep)] })], res := [] }
noncomputable def e90 (y : (List (Int × (Int × Int))) × ((List (Int × Int)) × (Int × (Int × Int)))) : List CRes × List CVar := ([], [⟨124, TyO123, y⟩])
noncomputable def Φ90 (n : Nat) : Prog := Prog.of [E91 n]
inductive P90 where
  | F (b0 : (List (Int × (Int × Int))) × ((List (Int × Int)) × (Int × (Int × Int))))
  | E0 (x34 : List (Int × (Int × Int))) (x35 : List (Int × Int)) (x36 x37 x38 : Int)
  | L0 (x21 : Int) (x22 : List (Int × (Int × Int))) (x23 : List (Int × Int)) (x24 x25 x26 : Int)
noncomputable def s90 (n : Nat) (γ : Type) : P90 → (P90 → Option γ) → ((List (Int × (Int × Int))) × ((List (Int × Int)) × (Int × (Int × Int))) → Option γ) → Option γ
  | .F b0, k, r =>
    k (.L0 (w64 (b0.2.2.1 + (1 : Int))) b0.1 b0.2.1 b0.2.2.1 (0 : Int) b0.2.2.2.2)
  | .E0 x34 x35 x36 x37 x38, k, r =>
    r (x34, (x35, ((List.length x34 : Int), (x37, x38))))
  | .L0 x21 x22 x23 x24 x25 x26, k, r =>
    cond ((ltB (0 : Int) (List.length x23 : Int))) (
      if 0 ≤ (w64 ((List.length x23 : Int) - (1 : Int))) then (
      if (w64 ((List.length x23 : Int) - (1 : Int))) < (List.length x23 : Int) then (
      let u27 : Int := (w64 ((List.getD x23 (Int.toNat (w64 ((List.length x23 : Int) - (1 : Int)))) ((0 : Int), (0 : Int))).2 - (1 : Int)))
      let u28 : Bool := (ltB (0 : Int) (List.getD (List.set x23 (Int.toNat (w64 ((List.length x23 : Int) - (1 : Int)))) ((List.getD x23 (Int.toNat (w64 ((List.length x23 : Int) - (1 : Int)))) ((0 : Int), (0 : Int))).1, u27)) (Int.toNat (w64 ((List.length x23 : Int) - (1 : Int)))) ((0 : Int), (0 : Int))).2)
      cond (u28) (
        if 0 ≤ (List.getD (List.set x23 (Int.toNat (w64 ((List.length x23 : Int) - (1 : Int)))) ((List.getD x23 (Int.toNat (w64 ((List.length x23 : Int) - (1 : Int)))) ((0 : Int), (0 : Int))).1, u27)) (Int.toNat (w64 ((List.length x23 : Int) - (1 : Int)))) ((0 : Int), (0 : Int))).1 then (
        if (List.getD (List.set x23 (Int.toNat (w64 ((List.length x23 : Int) - (1 : Int)))) ((List.getD x23 (Int.toNat (w64 ((List.length x23 : Int) - (1 : Int)))) ((0 : Int), (0 : Int))).1, u27)) (Int.toNat (w64 ((List.length x23 : Int) - (1 : Int)))) ((0 : Int), (0 : Int))).1 < (List.length x22 : Int) then (
        let u29 : Bool := (eqB (List.getD x22 (Int.toNat (List.getD (List.set x23 (Int.toNat (w64 ((List.length x23 : Int) - (1 : Int)))) ((List.getD x23 (Int.toNat (w64 ((List.length x23 : Int) - (1 : Int)))) ((0 : Int), (0 : Int))).1, u27)) (Int.toNat (w64 ((List.length x23 : Int) - (1 : Int)))) ((0 : Int), (0 : Int))).1) ((0 : Int), ((0 : Int), (0 : Int)))).1 (4 : Int))
        cond (u29) (
          let u30 : Int := (w64 ((List.getD (List.set x23 (Int.toNat (w64 ((List.length x23 : Int) - (1 : Int)))) ((List.getD x23 (Int.toNat (w64 ((List.length x23 : Int) - (1 : Int)))) ((0 : Int), (0 : Int))).1, u27)) (Int.toNat (w64 ((List.length x23 : Int) - (1 : Int)))) ((0 : Int), (0 : Int))).1 + (1 : Int)))
          (p91 n u30 (x22, ((List.set x23 (Int.toNat (w64 ((List.length x23 : Int) - (1 : Int)))) ((List.getD x23 (Int.toNat (w64 ((List.length x23 : Int) - (1 : Int)))) ((0 : Int), (0 : Int))).1, u27)), (x24, (x25, x26))))).bind fun w31 =>
          r w31) (
          (p91 n x21 (x22, ((List.set x23 (Int.toNat (w64 ((List.length x23 : Int) - (1 : Int)))) ((List.getD x23 (Int.toNat (w64 ((List.length x23 : Int) - (1 : Int)))) ((0 : Int), (0 : Int))).1, u27)), (x24, (x25, x26))))).bind fun w32 =>
          r w32)) else none) else none) (
        let u33 : Int := (w64 ((List.length (List.set x23 (Int.toNat (w64 ((List.length x23 : Int) - (1 : Int)))) ((List.getD x23 (Int.toNat (w64 ((List.length x23 : Int) - (1 : Int)))) ((0 : Int), (0 : Int))).1, u27)) : Int) - (1 : Int)))
        if 0 ≤ u33 then (
        if u33 ≤ (List.length (List.set x23 (Int.toNat (w64 ((List.length x23 : Int) - (1 : Int)))) ((List.getD x23 (Int.toNat (w64 ((List.length x23 : Int) - (1 : Int)))) ((0 : Int), (0 : Int))).1, u27)) : Int) then (
        k (.L0 x21 x22 (List.take (Int.toNat u33) (List.set x23 (Int.toNat (w64 ((List.length x23 : Int) - (1 : Int)))) ((List.getD x23 (Int.toNat (w64 ((List.length x23 : Int) - (1 : Int)))) ((0 : Int), (0 : Int))).1, u27))) x24 x25 x26)) else none) else none)) else none) else none) (
      k (.E0 x22 x23 x24 x25 x26))
theorem nat90 (n : Nat) : NatS (s90 n) := fun g p k r => by
  cases p <;> simp only [s90, bind_cond, bind_ite, bind_optK, Option.bind_assoc, Option.bind_none]
theorem us90 {n m : Nat} (h : n ≤ m) : UpS (s90 n) (s90 m) := fun γ p k r => by
  cases p <;> dsimp only [s90] <;> repeat' first | with_reducible exact up_rfl | apply up_cond | apply up_ite | apply up_bind | apply up_optK | apply up91 h | intro
noncomputable def k90_0 (n : Nat)  : Ex → St → Option (List CRes × List CVar) := finK' Γ f90 a90 1
noncomputable def c90_0 : Code := partB (bodyOf f90)
noncomputable def c90_1 : Code := partB c90_0
noncomputable def c90_2 : Code := partB c90_1
noncomputable def k90_1 (n : Nat)  : Ex → St → Option (List CRes × List CVar) := seqK Γ (Φ90 n) a90 n c90_2 0 (k90_0 n)
noncomputable def c90_3 : Code := partA c90_1
noncomputable def c90_4 : Code := partA c90_3
noncomputable def c90_5 : Code := partA c90_4
noncomputable def k90_2 (n : Nat)  : Ex → St → Option (List CRes × List CVar) := blockK a90 0 (k90_1 n)
noncomputable def M90 (n : Nat) (u : Nat → Nat) : P90 → Option (List CRes × List CVar)
  | .F b0 => stepIn (fun A => codeK Γ (Φ90 n) a90 n (bodyOf f90) 0 A (k90_0 n)) (mkSt 83 84 [(0, (.ptr 83 []))] [(83, .var 124 TyO123 b0)])
  | .E0 x34 x35 x36 x37 x38 => stepIn ((k90_1 n) .normal) (mkSt 83 84 [(0, (.ptr 83 []))] [(83, .var 124 TyO123 (x34, (x35, (x36, (x37, x38)))))])
  | .L0 x21 x22 x23 x24 x25 x26 => stepIn (fun A => loopK Γ (Φ90 n) a90 n c90_5 0 (u 0) A (k90_2 n)) (mkSt 83 84 [(0, (.ptr 83 [])), (2, (iv x21))] [(83, .var 124 TyO123 (x22, (x23, (x24, (x25, x26)))))])
theorem h90 (n : Nat) (u : Nat → Nat) : ∀ p, (∀ i, 1 ≤ u i) → Ok1 (s90 n) e90 n (M90 n) u p
  | .F b0, _ => pl [] (at_code rfl ((codeK_seq (by kernel_rfl)).trans (by kernel_rfl)))
  | .E0 x34 x35 x36 x37 x38, _ => pl [] (by kernel_rfl)
  | .L0 x21 x22 x23 x24 x25 x26, hu => hd 0 [0] hu fun m hm => (loopK_at hm).trans ((codeK_seq (by kernel_rfl)).trans ((codeK_seq (by kernel_rfl)).trans (by kernel_rfl)))
noncomputable def p90 (n : Nat) (b0 : (List (Int × (Int × Int))) × ((List (Int × Int)) × (Int × (Int × Int)))) : Option Vl123 := flow (s90 n) n (.F b0)
theorem up90 {n m : Nat} (h : n ≤ m) (b0 : (List (Int × (Int × Int))) × ((List (Int × Int)) × (Int × (Int × Int)))) : Up (p90 n b0) (p90 m b0) := flow_up (nat90 n) (us90 h) h _
noncomputable def E90 (n : Nat) : Entry := mkE 90 .move [.point] [(124, TyO123)] (fun a b => p90 n b.1) e90
theorem ok90 (n : Nat) : EntryOk prog (E90 n) := mkE_ok (Φ := Φ90 n) (ann := a90) (n := n) (F := f90) (by kernel_rfl) (by kernel_rfl) (by kernel_rfl) (known_prog (known_cons (ok91 n) known_nil)) mixed fun a b y h =>
  (show _ = M90 n (fun _ => n) (.F b.1) by kernel_rfl).trans (flow_sound (nat90 n) (h90 n) n _ _ y (Nat.le_refl _) (fun _ => Nat.le_refl _) h)
/-! ### F43 (*horarium/cursor.Cursor).Next -/
noncomputable def a43 : Ann := { draws := [(1, { order := [0, 1, 2, 3, 4, 5, 6, 7, 8, 9] }), (3, { order := [0, 1, 2, 3, 4, 5, 6, 7, 8, 9, 11, 12, 13, 14, 15, 16, 17, 18, 19, 20, 21, 22, 23, 24, 25, 26, 10, 27, 28, 29], touch := [(10, []), (28, []), (29, [4])], early := [28] }), (4, { order := [0, 1, 2, 3, 4, 5, 6, 7, 8, 9], touch := [(9, [56])] })], res := [(.pair I64 I64), .bool] }
noncomputable def e43 (y : (Int × Int) × Bool × Vl123) : List CRes × List CVar := ([.v (.pair I64 I64) y.1, .v .bool y.2.1], [⟨124, TyO123, y.2.2⟩])
noncomputable def Φ43 (n : Nat) : Prog := Prog.of [E89 n, E90 n]
inductive P43 where
  | F (b0 : (List (Int × (Int × Int))) × ((List (Int × Int)) × (Int × (Int × Int))))
noncomputable def s43 (n : Nat) (γ : Type) : P43 → (P43 → Option γ) → ((Int × Int) × Bool × Vl123 → Option γ) → Option γ
  | .F b0, k, r =>
    cond ((leB (List.length b0.1 : Int) b0.2.2.1)) (
      r (((0 : Int), (0 : Int)), false, b0)) (
      if 0 ≤ b0.2.2.1 then (
      if b0.2.2.1 < (List.length b0.1 : Int) then (
      if 0 ≤ b0.2.2.1 then (
      if b0.2.2.1 < (List.length b0.1 : Int) then (
      let u1 : Int := (w64 ((List.getD b0.1 (Int.toNat b0.2.2.1) ((0 : Int), ((0 : Int), (0 : Int)))).2.2 - b0.2.2.2.1))
      (p89 n (List.getD b0.1 (Int.toNat b0.2.2.1) ((0 : Int), ((0 : Int), (0 : Int))))).bind fun y2 =>
      (p90 n (b0.1, (b0.2.1, (b0.2.2.1, (b0.2.2.2.1, (w64 (b0.2.2.2.2 + u1))))))).bind fun w3 =>
      r ((y2, u1), true, w3)) else none) else none) else none) else none)
theorem nat43 (n : Nat) : NatS (s43 n) := fun g p k r => by
  cases p <;> simp only [s43, bind_cond, bind_ite, bind_optK, Option.bind_assoc, Option.bind_none]
theorem us43 {n m : Nat} (h : n ≤ m) : UpS (s43 n) (s43 m) := fun γ p k r => by
  cases p <;> dsimp only [s43] <;> repeat' first | with_reducible exact up_rfl | apply up_cond | apply up_ite | apply up_bind | apply up_optK | apply up89 h | apply up90 h | intro
noncomputable def k43_0 (n : Nat)  : Ex → St → Option (List CRes × List CVar) := finK' Γ f43 a43 1
noncomputable def M43 (n : Nat) (u : Nat → Nat) : P43 → Option (List CRes × List CVar)
  | .F b0 => stepIn (fun A => codeK Γ (Φ43 n) a43 n (bodyOf f43) 0 A (k43_0 n)) (mkSt 56 57 [(0, (.ptr 56 []))] [(56, .var 124 TyO123 b0)])
theorem h43 (n : Nat) (u : Nat → Nat) : ∀ p, (∀ i, 1 ≤ u i) → Ok1 (s43 n) e43 n (M43 n) u p
  | .F b0, _ => pl [] (at_code rfl ((codeK_seq (by kernel_rfl)).trans (by kernel_rfl)))
noncomputable def p43 (n : Nat) (b0 : (List (Int × (Int × Int))) × ((List (Int × Int)) × (Int × (Int × Int)))) : Option ((Int × Int) × Bool × Vl123) := flow (s43 n) n (.F b0)
theorem up43 {n m : Nat} (h : n ≤ m) (b0 : (List (Int × (Int × Int))) × ((List (Int × Int)) × (Int × (Int × Int)))) : Up (p43 n b0) (p43 m b0) := flow_up (nat43 n) (us43 h) h _
noncomputable def E43 (n : Nat) : Entry := mkE 43 .move [.point] [(124, TyO123)] (fun a b => p43 n b.1) e43
theorem ok43 (n : Nat) : EntryOk prog (E43 n) := mkE_ok (Φ := Φ43 n) (ann := a43) (n := n) (F := f43) (by kernel_rfl) (by kernel_rfl) (by kernel_rfl) (known_prog (known_cons (ok89 n) (known_cons (ok90 n) known_nil))) mixed fun a b y h =>
  (show _ = M43 n (fun _ => n) (.F b.1) by kernel_rfl).trans (flow_sound (nat43 n) (h43 n) n _ _ y (Nat.le_refl _) (fun _ => Nat.le_refl _) h)
end Go.Am
