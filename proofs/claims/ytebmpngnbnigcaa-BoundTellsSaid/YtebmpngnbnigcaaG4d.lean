/- G4d: functions as steps, printed by wip/tools/gen6.py. -/
import Derived.Test.YtebmpngnbnigcaaS1Tys
import Derived.Test.YtebmpngnbnigcaaG1
import Derived.Test.YtebmpngnbnigcaaG4a
import Derived.Test.YtebmpngnbnigcaaG4c
set_option linter.unusedVariables false
set_option linter.unusedSimpArgs false
set_option maxRecDepth 20000
set_option maxHeartbeats 0
namespace Go.Am
open Go.Proofs.Try
/-! ### F25 (*horarium/horariumkeep.Tape).Config -/
noncomputable def a25 : Ann := { draws := [(10, { order := [0, 1, 2, 5, 3, 4, 6, 7, 8, 9, 10, 11], touch := [(3, [129]), (6, [129]), (8, []), (9, [6, 47]), (11, [6, 48])] }), (21, { order := [0, 1, 2, 3, 4, 5, 8, 10, 14, 6, 7, 9, 11, 12, 15, 13, 16, 17, 18, 19, 20], touch := [(6, [129]), (11, [129]), (13, []), (15, [129]), (19, []), (20, [11])], early := [13, 19] }), (28, { order := [0, 1, 2, 3, 4, 5, 6, 7, 8], touch := [(4, [129]), (5, [122]), (6, [3, 123]), (8, [3, 124])] })], loops := [(0, { vars := [], sites := [2, 3, 129], slots := [(0, .keep), (2, .keep), (3, .keep), (4, .keep), (5, .keep)] }), (2, { vars := [], sites := [2, 3, 6, 129], slots := [(0, .keep), (2, .keep), (3, .keep), (4, .keep), (5, .keep), (6, .keep), (7, .keep)] }), (4, { vars := [], sites := [2, 3, 6, 129], slots := [(0, .keep), (2, .keep), (3, .keep), (4, .keep), (5, .keep), (6, .keep), (50, .keep)] }), (6, { vars := [], sites := [2, 3, 129], slots := [(0, .keep), (2, .keep), (3, .keep), (4, .keep), (9, .keep)] }), (8, { vars := [], sites := [2, 3, 129], slots := [(0, .keep), (2, .keep), (3, .keep), (4, .keep), (12, .keep)] })], ends := [(0, { vars := [], sites := [2, 3, 129], slots := [(0, .keep), (2, .keep), (3, .keep), (4, .keep)] }), (2, { vars := [], sites := [2, 3, 6, 129], slots := [(0, .keep), (2, .keep), (3, .keep), (4, .keep), (5, .keep), (6, .keep)] }), (4, { vars := [], sites := [2, 3, 6, 129], slots := [(0, .keep), (2, .keep), (3, .keep), (4, .keep), (5, .keep), (6, .keep)] }), (6, { vars := [], sites := [2, 3, 129], slots := [(0, .keep), (2, .keep), (3, .keep), (4, .keep)] }), (8, { vars := [], sites := [2, 3, 129], slots := [(0, .keep), (2, .keep), (3, .keep)] })], heads := [(6, { vars := [], sites := [2, 3, 129], slots := [(0, .keep), (2, .keep), (3, .keep), (4, .keep), (5, .keep)] })], res := [TyO35] }
noncomputable def e25 (y : Vl35 × ((List Int) × Int)) : List CRes × List CVar := ([.v TyO35 y.1], [⟨26, (.pair (.sh 3 I64) I64), y.2⟩])
noncomputable def Φ25 (n : Nat) : Prog := Prog.of [E74 n, E82 n, E83 n]
inductive P25 where
  | F (b0 : (List Int) × Int)
  | E0 (x307 : Int) (x308 : List Vl51) (x309 : List Vl47) (x310 : List (List (Int × (Int × Int)))) (x311 : List Vl51) (x312 : List Vl47) (x313 : List (List (Int × (Int × Int)))) (x314 : List Int) (x315 : Int)
  | L0 (x297 x298 : Int) (x299 : List Vl51) (x300 : List Vl47) (x301 : List (List (Int × (Int × Int)))) (x302 : List Vl51) (x303 : List Vl47) (x304 : List (List (Int × (Int × Int)))) (x305 : List Int) (x306 : Int)
  | E2 (x220 x221 : Int) (x222 : List Vl51) (x223 : List Vl47) (x224 : List (List (Int × (Int × Int)))) (x225 : List Vl51) (x226 : List Vl47) (x227 : List (List (Int × (Int × Int)))) (x228 : List UInt8) (x229 x230 : Int) (x231 x232 : Bool) (x233 : List (Int × Int)) (x234 x235 : List Int) (x236 : Int)
  | L2 (x198 x199 x200 : Int) (x201 : List Vl51) (x202 : List Vl47) (x203 : List (List (Int × (Int × Int)))) (x204 : List Vl51) (x205 : List Vl47) (x206 : List (List (Int × (Int × Int)))) (x207 : List UInt8) (x208 x209 : Int) (x210 x211 : Bool) (x212 : List (Int × Int)) (x213 x214 : List Int) (x215 : Int)
  | E4 (x279 x280 : Int) (x281 : List Vl51) (x282 : List Vl47) (x283 : List (List (Int × (Int × Int)))) (x284 : List Vl51) (x285 : List Vl47) (x286 : List (List (Int × (Int × Int)))) (x287 : List UInt8) (x288 x289 : Int) (x290 x291 : Bool) (x292 : List (Int × Int)) (x293 x294 : List Int) (x295 : Int)
  | L4 (x259 x260 x261 : Int) (x262 : List Vl51) (x263 : List Vl47) (x264 : List (List (Int × (Int × Int)))) (x265 : List Vl51) (x266 : List Vl47) (x267 : List (List (Int × (Int × Int)))) (x268 : List UInt8) (x269 x270 : Int) (x271 x272 : Bool) (x273 : List (Int × Int)) (x274 x275 : List Int) (x276 : Int)
  | E6 (x388 : Int) (x389 : List Vl51) (x390 : List Vl47) (x391 : List (List (Int × (Int × Int)))) (x392 : List Vl51) (x393 : List Vl47) (x394 : List (List (Int × (Int × Int)))) (x395 : List Int) (x396 : Int)
  | L6 (x365 x366 : Int) (x367 : List Vl51) (x368 : List Vl47) (x369 : List (List (Int × (Int × Int)))) (x370 : List Vl51) (x371 : List Vl47) (x372 : List (List (Int × (Int × Int)))) (x373 : List Int) (x374 : Int)
  | Q6 (x155 x156 : Int) (x157 : List Vl51) (x158 : List Vl47) (x159 : List (List (Int × (Int × Int)))) (x160 : List Vl51) (x161 : List Vl47) (x162 : List (List (Int × (Int × Int)))) (x163 : List Int) (x164 : Int)
  | E8 (x427 : List Vl51) (x428 : List Vl47) (x429 : List (List (Int × (Int × Int)))) (x430 : List Vl51) (x431 : List Vl47) (x432 : List (List (Int × (Int × Int)))) (x433 : List Int) (x434 : Int)
  | L8 (x415 x416 : Int) (x417 : List Vl51) (x418 : List Vl47) (x419 : List (List (Int × (Int × Int)))) (x420 : List Vl51) (x421 : List Vl47) (x422 : List (List (Int × (Int × Int)))) (x423 : List Int) (x424 : Int)
noncomputable def s25 (n : Nat) (γ : Type) : P25 → (P25 → Option γ) → (Vl35 × ((List Int) × Int) → Option γ) → Option γ
  | .F b0, k, r =>
    (p74 n (4 : Int) b0).bind fun cy1 =>
    k (.L0 (w64 ((1 : Int) + cy1.1)) (0 : Int) ([] : Vl32) ([] : Vl33) ([] : Vl34) ([] : Vl32) ([] : Vl33) ([] : Vl34) cy1.2.1 cy1.2.2)
  | .E0 x307 x308 x309 x310 x311 x312 x313 x314 x315, k, r =>
    (p74 n (4 : Int) (x314, x315)).bind fun cy327 =>
    k (.L6 x307 cy327.1 x308 x309 x310 x311 x312 x313 cy327.2.1 cy327.2.2)
  | .L0 x297 x298 x299 x300 x301 x302 x303 x304 x305 x306, k, r =>
    cond ((ltB x298 x297)) (
      k (.Q6 x297 x298 x299 x300 x301 x302 x303 x304 x305 x306)) (
      k (.E0 x297 x299 x300 x301 x302 x303 x304 x305 x306))
  | .E2 x220 x221 x222 x223 x224 x225 x226 x227 x228 x229 x230 x231 x232 x233 x234 x235 x236, k, r =>
    k (.L4 x220 x221 (0 : Int) x222 x223 x224 x225 x226 x227 x228 x229 x230 x231 x232 x233 x234 x235 x236)
  | .L2 x198 x199 x200 x201 x202 x203 x204 x205 x206 x207 x208 x209 x210 x211 x212 x213 x214 x215, k, r =>
    cond ((leB (0 : Int) x200)) (
      (p74 n (6 : Int) (x214, x215)).bind fun cy323 =>
      (p74 n (4 : Int) cy323.2).bind fun cy325 =>
      if (List.length x212 + List.length [((w64 ((4 : Int) * cy323.1)), cy325.1)]) * 16 ≤ 140737488355328 then (
      k (.L2 x198 x199 (w64 (x200 - (1 : Int))) x201 x202 x203 x204 x205 x206 x207 x208 x209 x210 x211 (x212 ++ [((w64 ((4 : Int) * cy323.1)), cy325.1)]) x213 cy325.2.1 cy325.2.2)) else none) (
      k (.E2 x198 x199 x201 x202 x203 x204 x205 x206 x207 x208 x209 x210 x211 x212 x213 x214 x215))
  | .E4 x279 x280 x281 x282 x283 x284 x285 x286 x287 x288 x289 x290 x291 x292 x293 x294 x295, k, r =>
    if (List.length x284 + List.length [(x287, (x288, (x289, (x290, (x291, (x292, x293))))))]) * 104 ≤ 140737488355328 then (
    let u435 : List Vl51 := (x284 ++ [(x287, (x288, (x289, (x290, (x291, (x292, x293))))))])
    k (.L0 x279 (w64 (x280 + (1 : Int))) x281 x282 x283 u435 x285 x286 x294 x295)) else none
  | .L4 x259 x260 x261 x262 x263 x264 x265 x266 x267 x268 x269 x270 x271 x272 x273 x274 x275 x276, k, r =>
    cond ((ltB x261 (5 : Int))) (
      (p74 n (5 : Int) (x275, x276)).bind fun cy397 =>
      if 0 ≤ cy397.1 then (
      if cy397.1 < (List.length [(0 : Int), (1 : Int), (0 : Int), (2 : Int), (1 : Int)] : Int) then (
      if 0 ≤ x261 then (
      if x261 < (5 : Int) then (
      k (.L4 x259 x260 (w64 (x261 + (1 : Int))) x262 x263 x264 x265 x266 x267 x268 x269 x270 x271 x272 x273 (List.set x274 (Int.toNat x261) (List.getD [(0 : Int), (1 : Int), (0 : Int), (2 : Int), (1 : Int)] (Int.toNat cy397.1) (0 : Int))) cy397.2.1 cy397.2.2)) else none) else none) else none) else none) (
      k (.E4 x259 x260 x262 x263 x264 x265 x266 x267 x268 x269 x270 x271 x272 x273 x274 x275 x276))
  | .E6 x388 x389 x390 x391 x392 x393 x394 x395 x396, k, r =>
    (p74 n (2 : Int) (x395, x396)).bind fun cy399 =>
    k (.L8 x388 cy399.1 x389 x390 x391 x392 x393 x394 cy399.2.1 cy399.2.2)
  | .L6 x365 x366 x367 x368 x369 x370 x371 x372 x373 x374, k, r =>
    cond ((ltB (0 : Int) x366)) (
      cond ((ltB (1 : Int) x365)) (
        (p74 n x365 (x373, x374)).bind fun cy375 =>
        (p74 n (w64 (x365 - (1 : Int))) cy375.2).bind fun cy377 =>
        let u379 : Int := (w64 ((w64 (cy375.1 + (1 : Int))) + cy377.1))
        if x365 = 0 then none else (
        (p74 n (2 : Int) cy377.2).bind fun cy380 =>
        (p74 n (3 : Int) cy380.2).bind fun cy382 =>
        if 0 ≤ cy382.1 then (
        if cy382.1 < (List.length [(4294967295 : Int), (200 : Int), (3 : Int)] : Int) then (
        cond ((eqB cy380.1 (0 : Int))) (
          (p74 n (3 : Int) cy382.2).bind fun cy384 =>
          if (List.length x371 + List.length [(cy375.1, ((Int.tmod u379 x365), ((eqB cy380.1 (0 : Int)), ((w64 ((1 : Int) + cy384.1)), ((List.getD [(4294967295 : Int), (200 : Int), (3 : Int)] (Int.toNat cy382.1) (0 : Int)), (0 : Int))))))]) * 48 ≤ 140737488355328 then (
          let u386 : List Vl47 := (x371 ++ [(cy375.1, ((Int.tmod u379 x365), ((eqB cy380.1 (0 : Int)), ((w64 ((1 : Int) + cy384.1)), ((List.getD [(4294967295 : Int), (200 : Int), (3 : Int)] (Int.toNat cy382.1) (0 : Int)), (0 : Int))))))])
          k (.L6 x365 (w64 (x366 - (1 : Int))) x367 x368 x369 x370 u386 x372 cy384.2.1 cy384.2.2)) else none) (
          if (List.length x371 + List.length [(cy375.1, ((Int.tmod u379 x365), ((eqB cy380.1 (0 : Int)), ((0 : Int), ((List.getD [(4294967295 : Int), (200 : Int), (3 : Int)] (Int.toNat cy382.1) (0 : Int)), (0 : Int))))))]) * 48 ≤ 140737488355328 then (
          let u387 : List Vl47 := (x371 ++ [(cy375.1, ((Int.tmod u379 x365), ((eqB cy380.1 (0 : Int)), ((0 : Int), ((List.getD [(4294967295 : Int), (200 : Int), (3 : Int)] (Int.toNat cy382.1) (0 : Int)), (0 : Int))))))])
          k (.L6 x365 (w64 (x366 - (1 : Int))) x367 x368 x369 x370 u387 x372 cy382.2.1 cy382.2.2)) else none)) else none) else none)) (
        k (.E6 x365 x367 x368 x369 x370 x371 x372 x373 x374))) (
      k (.E6 x365 x367 x368 x369 x370 x371 x372 x373 x374))
  | .Q6 x155 x156 x157 x158 x159 x160 x161 x162 x163 x164, k, r =>
    cond (leB 0 (IntKind.i32.wrap (w64 ((97 : Int) + x156))) && ltB (IntKind.i32.wrap (w64 ((97 : Int) + x156))) 128) (
      let u316 : List UInt8 := ([112] ++ [UInt8.ofNat (Int.toNat (IntKind.i32.wrap (w64 ((97 : Int) + x156))))])
      (p74 n (5 : Int) (x163, x164)).bind fun cy317 =>
      (p74 n (8 : Int) cy317.2).bind fun cy319 =>
      (p74 n (2 : Int) cy319.2).bind fun cy321 =>
      k (.L2 x155 x156 cy321.1 x157 x158 x159 x160 x161 x162 u316 (0 : Int) (0 : Int) (eqB cy317.1 (0 : Int)) (eqB cy319.1 (0 : Int)) ([] : (List (Int × Int))) (List.replicate 5 (0 : Int)) cy321.2.1 cy321.2.2)) (
      none)
  | .E8 x427 x428 x429 x430 x431 x432 x433 x434, k, r =>
    (p83 n (x430, (x431, x432)) (x433, x434)).bind fun cy436 =>
    r ((cy436.1.1, (cy436.1.2.1, cy436.1.2.2)), cy436.2)
  | .L8 x415 x416 x417 x418 x419 x420 x421 x422 x423 x424, k, r =>
    cond ((leB (0 : Int) x416)) (
      (p82 n x415 (x423, x424)).bind fun cy425 =>
      if (List.length x422 + List.length [cy425.1]) * 24 ≤ 140737488355328 then (
      k (.L8 x415 (w64 (x416 - (1 : Int))) x417 x418 x419 x420 x421 (x422 ++ [cy425.1]) cy425.2.1 cy425.2.2)) else none) (
      k (.E8 x417 x418 x419 x420 x421 x422 x423 x424))
theorem nat25 (n : Nat) : NatS (s25 n) := fun g p k r => by
  cases p <;> simp only [s25, bind_cond, bind_ite, bind_optK, Option.bind_assoc, Option.bind_none]
theorem us25 {n m : Nat} (h : n ≤ m) : UpS (s25 n) (s25 m) := fun γ p k r => by
  cases p <;> dsimp only [s25] <;> repeat' first | with_reducible exact up_rfl | apply up_cond | apply up_ite | apply up_bind | apply up_optK | apply up74 h | apply up82 h | apply up83 h | intro
noncomputable def k25_0 (n : Nat)  : Ex → St → Option (List CRes × List CVar) := finK' Γ f25 a25 1
noncomputable def c25_0 : Code := partB (bodyOf f25)
noncomputable def c25_1 : Code := partB c25_0
noncomputable def c25_2 : Code := partB c25_1
noncomputable def c25_3 : Code := partB c25_2
noncomputable def k25_1 (n : Nat)  : Ex → St → Option (List CRes × List CVar) := seqK Γ (Φ25 n) a25 n c25_3 0 (k25_0 n)
noncomputable def c25_4 : Code := partA c25_2
noncomputable def c25_5 : Code := partB c25_4
noncomputable def c25_6 : Code := partA c25_5
noncomputable def c25_7 : Code := partA c25_6
noncomputable def k25_2 (n : Nat)  : Ex → St → Option (List CRes × List CVar) := blockK a25 0 (k25_1 n)
noncomputable def k25_3 (n : Nat) (u : Nat → Nat) : Ex → St → Option (List CRes × List CVar) := roundK Γ (Φ25 n) a25 n c25_7 0 (u 0) (k25_2 n)
noncomputable def c25_8 : Code := partB c25_7
noncomputable def c25_9 : Code := partB c25_8
noncomputable def k25_4 (n : Nat) (u : Nat → Nat) : Ex → St → Option (List CRes × List CVar) := seqK Γ (Φ25 n) a25 n c25_9 0 (k25_3 n u)
noncomputable def k25_5 (n : Nat) (u : Nat → Nat) : Ex → St → Option (List CRes × List CVar) := blockK a25 1 (k25_4 n u)
noncomputable def c25_10 : Code := partA c25_8
noncomputable def c25_11 : Code := partA c25_10
noncomputable def c25_12 : Code := partB c25_11
noncomputable def c25_13 : Code := partB c25_12
noncomputable def k25_6 (n : Nat) (u : Nat → Nat) : Ex → St → Option (List CRes × List CVar) := seqK Γ (Φ25 n) a25 n c25_13 1 (k25_5 n u)
noncomputable def c25_14 : Code := partA c25_12
noncomputable def c25_15 : Code := partB c25_14
noncomputable def c25_16 : Code := partA c25_15
noncomputable def c25_17 : Code := partA c25_16
noncomputable def k25_7 (n : Nat) (u : Nat → Nat) : Ex → St → Option (List CRes × List CVar) := blockK a25 2 (k25_6 n u)
noncomputable def c25_18 : Code := partB c25_13
noncomputable def k25_8 (n : Nat) (u : Nat → Nat) : Ex → St → Option (List CRes × List CVar) := seqK Γ (Φ25 n) a25 n c25_18 1 (k25_5 n u)
noncomputable def c25_19 : Code := partA c25_13
noncomputable def c25_20 : Code := partB c25_19
noncomputable def c25_21 : Code := partA c25_20
noncomputable def c25_22 : Code := partA c25_21
noncomputable def k25_9 (n : Nat) (u : Nat → Nat) : Ex → St → Option (List CRes × List CVar) := blockK a25 4 (k25_8 n u)
noncomputable def c25_23 : Code := partB c25_3
noncomputable def k25_10 (n : Nat)  : Ex → St → Option (List CRes × List CVar) := seqK Γ (Φ25 n) a25 n c25_23 0 (k25_0 n)
noncomputable def c25_24 : Code := partA c25_3
noncomputable def c25_25 : Code := partB c25_24
noncomputable def c25_26 : Code := partA c25_25
noncomputable def c25_27 : Code := partA c25_26
noncomputable def k25_11 (n : Nat)  : Ex → St → Option (List CRes × List CVar) := blockK a25 6 (k25_10 n)
noncomputable def c25_28 : Code := partB c25_23
noncomputable def k25_12 (n : Nat)  : Ex → St → Option (List CRes × List CVar) := seqK Γ (Φ25 n) a25 n c25_28 0 (k25_0 n)
noncomputable def c25_29 : Code := partA c25_23
noncomputable def c25_30 : Code := partB c25_29
noncomputable def c25_31 : Code := partA c25_30
noncomputable def c25_32 : Code := partA c25_31
noncomputable def k25_13 (n : Nat)  : Ex → St → Option (List CRes × List CVar) := blockK a25 8 (k25_12 n)
noncomputable def M25 (n : Nat) (u : Nat → Nat) : P25 → Option (List CRes × List CVar)
  | .F b0 => stepIn (fun A => codeK Γ (Φ25 n) a25 n (bodyOf f25) 0 A (k25_0 n)) (mkSt 129 130 [(0, (.ptr 129 []))] [(129, .var 26 (.pair (.sh 3 I64) I64) b0)])
  | .E0 x307 x308 x309 x310 x311 x312 x313 x314 x315 => stepIn ((k25_1 n) .normal) (mkSt 129 130 [(0, (.ptr 129 [])), (2, (.ptr 2 [])), (3, (.ptr 3 [])), (4, (iv x307))] [(2, .var 36 TyO35 (x308, (x309, x310))), (3, .var 36 TyO35 (x311, (x312, x313))), (129, .var 26 (.pair (.sh 3 I64) I64) (x314, x315))])
  | .L0 x297 x298 x299 x300 x301 x302 x303 x304 x305 x306 => stepIn (fun A => loopK Γ (Φ25 n) a25 n c25_7 0 (u 0) A (k25_2 n)) (mkSt 129 130 [(0, (.ptr 129 [])), (2, (.ptr 2 [])), (3, (.ptr 3 [])), (4, (iv x297)), (5, (iv x298))] [(2, .var 36 TyO35 (x299, (x300, x301))), (3, .var 36 TyO35 (x302, (x303, x304))), (129, .var 26 (.pair (.sh 3 I64) I64) (x305, x306))])
  | .E2 x220 x221 x222 x223 x224 x225 x226 x227 x228 x229 x230 x231 x232 x233 x234 x235 x236 => stepIn ((k25_6 n u) .normal) (mkSt 129 130 [(0, (.ptr 129 [])), (2, (.ptr 2 [])), (3, (.ptr 3 [])), (4, (iv x220)), (5, (iv x221)), (6, (.ptr 6 []))] [(2, .var 36 TyO35 (x222, (x223, x224))), (3, .var 36 TyO35 (x225, (x226, x227))), (6, .var 52 TyO51 (x228, (x229, (x230, (x231, (x232, (x233, x234))))))), (129, .var 26 (.pair (.sh 3 I64) I64) (x235, x236))])
  | .L2 x198 x199 x200 x201 x202 x203 x204 x205 x206 x207 x208 x209 x210 x211 x212 x213 x214 x215 => stepIn (fun A => loopK Γ (Φ25 n) a25 n c25_17 2 (u 2) A (k25_7 n u)) (mkSt 129 130 [(0, (.ptr 129 [])), (2, (.ptr 2 [])), (3, (.ptr 3 [])), (4, (iv x198)), (5, (iv x199)), (6, (.ptr 6 [])), (7, (iv x200))] [(2, .var 36 TyO35 (x201, (x202, x203))), (3, .var 36 TyO35 (x204, (x205, x206))), (6, .var 52 TyO51 (x207, (x208, (x209, (x210, (x211, (x212, x213))))))), (129, .var 26 (.pair (.sh 3 I64) I64) (x214, x215))])
  | .E4 x279 x280 x281 x282 x283 x284 x285 x286 x287 x288 x289 x290 x291 x292 x293 x294 x295 => stepIn ((k25_8 n u) .normal) (mkSt 129 130 [(0, (.ptr 129 [])), (2, (.ptr 2 [])), (3, (.ptr 3 [])), (4, (iv x279)), (5, (iv x280)), (6, (.ptr 6 []))] [(2, .var 36 TyO35 (x281, (x282, x283))), (3, .var 36 TyO35 (x284, (x285, x286))), (6, .var 52 TyO51 (x287, (x288, (x289, (x290, (x291, (x292, x293))))))), (129, .var 26 (.pair (.sh 3 I64) I64) (x294, x295))])
  | .L4 x259 x260 x261 x262 x263 x264 x265 x266 x267 x268 x269 x270 x271 x272 x273 x274 x275 x276 => stepIn (fun A => loopK Γ (Φ25 n) a25 n c25_22 4 (u 4) A (k25_9 n u)) (mkSt 129 130 [(0, (.ptr 129 [])), (2, (.ptr 2 [])), (3, (.ptr 3 [])), (4, (iv x259)), (5, (iv x260)), (6, (.ptr 6 [])), (50, (iv x261))] [(2, .var 36 TyO35 (x262, (x263, x264))), (3, .var 36 TyO35 (x265, (x266, x267))), (6, .var 52 TyO51 (x268, (x269, (x270, (x271, (x272, (x273, x274))))))), (129, .var 26 (.pair (.sh 3 I64) I64) (x275, x276))])
  | .E6 x388 x389 x390 x391 x392 x393 x394 x395 x396 => stepIn ((k25_10 n) .normal) (mkSt 129 130 [(0, (.ptr 129 [])), (2, (.ptr 2 [])), (3, (.ptr 3 [])), (4, (iv x388))] [(2, .var 36 TyO35 (x389, (x390, x391))), (3, .var 36 TyO35 (x392, (x393, x394))), (129, .var 26 (.pair (.sh 3 I64) I64) (x395, x396))])
  | .L6 x365 x366 x367 x368 x369 x370 x371 x372 x373 x374 => stepIn (fun A => loopK Γ (Φ25 n) a25 n c25_27 6 (u 6) A (k25_11 n)) (mkSt 129 130 [(0, (.ptr 129 [])), (2, (.ptr 2 [])), (3, (.ptr 3 [])), (4, (iv x365)), (9, (iv x366))] [(2, .var 36 TyO35 (x367, (x368, x369))), (3, .var 36 TyO35 (x370, (x371, x372))), (129, .var 26 (.pair (.sh 3 I64) I64) (x373, x374))])
  | .Q6 x155 x156 x157 x158 x159 x160 x161 x162 x163 x164 => stepIn (fun A => codeK Γ (Φ25 n) a25 n c25_8 0 A (k25_3 n u)) (mkSt 129 130 [(0, (.ptr 129 [])), (2, (.ptr 2 [])), (3, (.ptr 3 [])), (4, (iv x155)), (5, (iv x156))] [(2, .var 36 TyO35 (x157, (x158, x159))), (3, .var 36 TyO35 (x160, (x161, x162))), (129, .var 26 (.pair (.sh 3 I64) I64) (x163, x164))])
  | .E8 x427 x428 x429 x430 x431 x432 x433 x434 => stepIn ((k25_12 n) .normal) (mkSt 129 130 [(0, (.ptr 129 [])), (2, (.ptr 2 [])), (3, (.ptr 3 []))] [(2, .var 36 TyO35 (x427, (x428, x429))), (3, .var 36 TyO35 (x430, (x431, x432))), (129, .var 26 (.pair (.sh 3 I64) I64) (x433, x434))])
  | .L8 x415 x416 x417 x418 x419 x420 x421 x422 x423 x424 => stepIn (fun A => loopK Γ (Φ25 n) a25 n c25_32 8 (u 8) A (k25_13 n)) (mkSt 129 130 [(0, (.ptr 129 [])), (2, (.ptr 2 [])), (3, (.ptr 3 [])), (4, (iv x415)), (12, (iv x416))] [(2, .var 36 TyO35 (x417, (x418, x419))), (3, .var 36 TyO35 (x420, (x421, x422))), (129, .var 26 (.pair (.sh 3 I64) I64) (x423, x424))])
theorem h25 (n : Nat) (u : Nat → Nat) : ∀ p, (∀ i, 1 ≤ u i) → Ok1 (s25 n) e25 n (M25 n) u p
  | .F b0, _ => pl [] (at_code rfl ((codeK_seq (by kernel_rfl)).trans (by kernel_rfl)))
  | .E0 x307 x308 x309 x310 x311 x312 x313 x314 x315, _ => pl [] (by kernel_rfl)
  | .L0 x297 x298 x299 x300 x301 x302 x303 x304 x305 x306, hu => hd 0 [0] hu fun m hm => (loopK_at hm).trans ((codeK_seq (by kernel_rfl)).trans ((codeK_seq (by kernel_rfl)).trans (by kernel_rfl)))
  | .E2 x220 x221 x222 x223 x224 x225 x226 x227 x228 x229 x230 x231 x232 x233 x234 x235 x236, _ => pl [0] (by kernel_rfl)
  | .L2 x198 x199 x200 x201 x202 x203 x204 x205 x206 x207 x208 x209 x210 x211 x212 x213 x214 x215, hu => hd 2 [0, 2] hu fun m hm => (loopK_at hm).trans ((codeK_seq (by kernel_rfl)).trans ((codeK_seq (by kernel_rfl)).trans (by kernel_rfl)))
  | .E4 x279 x280 x281 x282 x283 x284 x285 x286 x287 x288 x289 x290 x291 x292 x293 x294 x295, _ => pl [0] (by kernel_rfl)
  | .L4 x259 x260 x261 x262 x263 x264 x265 x266 x267 x268 x269 x270 x271 x272 x273 x274 x275 x276, hu => hd 4 [0, 4] hu fun m hm => (loopK_at hm).trans ((codeK_seq (by kernel_rfl)).trans (by kernel_rfl))
  | .E6 x388 x389 x390 x391 x392 x393 x394 x395 x396, _ => pl [] (by kernel_rfl)
  | .L6 x365 x366 x367 x368 x369 x370 x371 x372 x373 x374, hu => hd 6 [6] hu fun m hm => (loopK_at hm).trans ((codeK_seq (by kernel_rfl)).trans ((codeK_seq (by kernel_rfl)).trans (by kernel_rfl)))
  | .Q6 x155 x156 x157 x158 x159 x160 x161 x162 x163 x164, _ => pl [0] (at_code rfl ((codeK_seq (by kernel_rfl)).trans ((codeK_block 1 (by kernel_rfl)).trans ((codeK_seq (by kernel_rfl)).trans (by kernel_rfl)))))
  | .E8 x427 x428 x429 x430 x431 x432 x433 x434, _ => pl [] (by kernel_rfl)
  | .L8 x415 x416 x417 x418 x419 x420 x421 x422 x423 x424, hu => hd 8 [8] hu fun m hm => (loopK_at hm).trans ((codeK_seq (by kernel_rfl)).trans ((codeK_seq (by kernel_rfl)).trans (by kernel_rfl)))
noncomputable def p25 (n : Nat) (b0 : (List Int) × Int) : Option (Vl35 × ((List Int) × Int)) := flow (s25 n) n (.F b0)
theorem up25 {n m : Nat} (h : n ≤ m) (b0 : (List Int) × Int) : Up (p25 n b0) (p25 m b0) := flow_up (nat25 n) (us25 h) h _
noncomputable def E25 (n : Nat) : Entry := mkE 25 .move [.point] [(26, (.pair (.sh 3 I64) I64))] (fun a b => p25 n b.1) e25
theorem ok25 (n : Nat) : EntryOk prog (E25 n) := mkE_ok (Φ := Φ25 n) (ann := a25) (n := n) (F := f25) (by kernel_rfl) (by kernel_rfl) (by kernel_rfl) (known_prog (known_cons (ok74 n) (known_cons (ok82 n) (known_cons (ok83 n) known_nil)))) mixed fun a b y h =>
  (show _ = M25 n (fun _ => n) (.F b.1) by kernel_rfl).trans (flow_sound (nat25 n) (h25 n) n _ _ y (Nat.le_refl _) (fun _ => Nat.le_refl _) h)
/-! ### F27 horarium/bound.Holds -/
noncomputable def a27 : Ann := { draws := [(11, { order := [0, 1, 2, 3, 4, 5, 6, 7, 9, 10, 8, 11, 12], touch := [(8, [])] })], loops := [(0, { vars := [], sites := [2], slots := [(1, .keep), (2, .keep), (11, .keep), (12, .keep), (13, .keep)] }), (2, { vars := [], sites := [], slots := [(1, .keep), (38, .keep), (39, .keep), (40, .keep)] })], ends := [(0, { vars := [], sites := [2], slots := [(1, .keep), (2, .keep)] }), (2, { vars := [], sites := [], slots := [] })], res := [I64] }
noncomputable def e27 (y : Int) : List CRes × List CVar := ([.v I64 y], [])
noncomputable def Φ27 (n : Nat) : Prog := Prog.of [E23 n, E76 n]
inductive P27 where
  | F (a0 : Vl32 × (Vl33 × Vl34)) (a1 : List (Int × Int))
  | E0 (x24 : List (Int × Int)) (x25 : List Vl51) (x26 : List Vl47) (x27 : List (List (Int × (Int × Int))))
  | L0 (x14 : List (Int × Int)) (x15 : List Vl47) (x16 x17 : Int) (x18 : List Vl51) (x19 : List Vl47) (x20 : List (List (Int × (Int × Int))))
  | E2 
  | L2 (x38 : List (Int × Int)) (x39 : List Vl51) (x40 x41 : Int)
noncomputable def s27 (n : Nat) (γ : Type) : P27 → (P27 → Option γ) → (Int → Option γ) → Option γ
  | .F a0 a1, k, r =>
    k (.L0 a1 a0.2.1 (List.length a0.2.1 : Int) (0 : Int) a0.1 a0.2.1 a0.2.2)
  | .E0 x24 x25 x26 x27, k, r =>
    k (.L2 x24 x25 (List.length x25 : Int) (0 : Int))
  | .L0 x14 x15 x16 x17 x18 x19 x20, k, r =>
    cond ((ltB x17 x16)) (
      if 0 ≤ x17 then (
      if x17 < (List.length x15 : Int) then (
      (p76 n x14 (List.getD x15 (Int.toNat x17) ((0 : Int), ((0 : Int), (false, ((0 : Int), ((0 : Int), (0 : Int))))))).1 (List.getD x15 (Int.toNat x17) ((0 : Int), ((0 : Int), (false, ((0 : Int), ((0 : Int), (0 : Int))))))).2.1).bind fun y21 =>
      let u22 : Bool := (ltB (0 : Int) (List.getD x15 (Int.toNat x17) ((0 : Int), ((0 : Int), (false, ((0 : Int), ((0 : Int), (0 : Int))))))).2.2.2.2.2)
      cond (u22) (
        let u23 : Bool := (ltB (List.getD x15 (Int.toNat x17) ((0 : Int), ((0 : Int), (false, ((0 : Int), ((0 : Int), (0 : Int))))))).2.2.2.2.2 y21)
        cond (u23) (
          r (19 : Int)) (
          cond ((eqB y21 (-1 : Int))) (
            r (19 : Int)) (
            k (.L0 x14 x15 x16 (w64 (x17 + (1 : Int))) x18 x19 x20)))) (
        k (.L0 x14 x15 x16 (w64 (x17 + (1 : Int))) x18 x19 x20))) else none) else none) (
      k (.E0 x14 x18 x19 x20))
  | .E2, k, r =>
    r (0 : Int)
  | .L2 x38 x39 x40 x41, k, r =>
    cond ((ltB x41 x40)) (
      if 0 ≤ x41 then (
      if x41 < (List.length x39 : Int) then (
      let u42 : Bool := (ltB (0 : Int) (List.getD x39 (Int.toNat x41) (([] : List UInt8), ((0 : Int), ((0 : Int), (false, (false, (([] : (List (Int × Int))), (List.replicate 5 (0 : Int))))))))).2.1)
      cond (u42) (
        (p23 n x38 x41 (List.getD x39 (Int.toNat x41) (([] : List UInt8), ((0 : Int), ((0 : Int), (false, (false, (([] : (List (Int × Int))), (List.replicate 5 (0 : Int))))))))).2.2.1).bind fun y43 =>
        let u44 : Bool := (ltB y43 (List.getD x39 (Int.toNat x41) (([] : List UInt8), ((0 : Int), ((0 : Int), (false, (false, (([] : (List (Int × Int))), (List.replicate 5 (0 : Int))))))))).2.1)
        cond (u44) (
          r (20 : Int)) (
          k (.L2 x38 x39 x40 (w64 (x41 + (1 : Int)))))) (
        k (.L2 x38 x39 x40 (w64 (x41 + (1 : Int)))))) else none) else none) (
      k .E2)
theorem nat27 (n : Nat) : NatS (s27 n) := fun g p k r => by
  cases p <;> simp only [s27, bind_cond, bind_ite, bind_optK, Option.bind_assoc, Option.bind_none]
theorem us27 {n m : Nat} (h : n ≤ m) : UpS (s27 n) (s27 m) := fun γ p k r => by
  cases p <;> dsimp only [s27] <;> repeat' first | with_reducible exact up_rfl | apply up_cond | apply up_ite | apply up_bind | apply up_optK | apply up23 h | apply up76 h | intro
noncomputable def k27_0 (n : Nat)  : Ex → St → Option (List CRes × List CVar) := finK' Γ f27 a27 0
noncomputable def c27_0 : Code := partB (bodyOf f27)
noncomputable def c27_1 : Code := partB c27_0
noncomputable def k27_1 (n : Nat)  : Ex → St → Option (List CRes × List CVar) := seqK Γ (Φ27 n) a27 n c27_1 0 (k27_0 n)
noncomputable def c27_2 : Code := partA c27_0
noncomputable def c27_3 : Code := partB c27_2
noncomputable def c27_4 : Code := partA c27_3
noncomputable def c27_5 : Code := partA c27_4
noncomputable def k27_2 (n : Nat)  : Ex → St → Option (List CRes × List CVar) := blockK a27 0 (k27_1 n)
noncomputable def c27_6 : Code := partB c27_1
noncomputable def k27_3 (n : Nat)  : Ex → St → Option (List CRes × List CVar) := seqK Γ (Φ27 n) a27 n c27_6 0 (k27_0 n)
noncomputable def c27_7 : Code := partA c27_1
noncomputable def c27_8 : Code := partB c27_7
noncomputable def c27_9 : Code := partA c27_8
noncomputable def c27_10 : Code := partA c27_9
noncomputable def k27_4 (n : Nat)  : Ex → St → Option (List CRes × List CVar) := blockK a27 2 (k27_3 n)
noncomputable def M27 (n : Nat) (u : Nat → Nat) : P27 → Option (List CRes × List CVar)
  | .F a0 a1 => stepIn (fun A => codeK Γ (Φ27 n) a27 n (bodyOf f27) 0 A (k27_0 n)) (mkSt 59 59 [(0, (.val TyS35 a0)), (1, (.val (.sh 44 (.pair I64 I64)) a1))] [])
  | .E0 x24 x25 x26 x27 => stepIn ((k27_1 n) .normal) (mkSt 59 59 [(1, (.val (.sh 44 (.pair I64 I64)) x24)), (2, (.ptr 2 []))] [(2, .var 36 TyS35 (x25, (x26, x27)))])
  | .L0 x14 x15 x16 x17 x18 x19 x20 => stepIn (fun A => loopK Γ (Φ27 n) a27 n c27_5 0 (u 0) A (k27_2 n)) (mkSt 59 59 [(1, (.val (.sh 44 (.pair I64 I64)) x14)), (2, (.ptr 2 [])), (11, (.val TyS33 x15)), (12, (iv x16)), (13, (iv x17))] [(2, .var 36 TyS35 (x18, (x19, x20)))])
  | .E2 => stepIn ((k27_3 n) .normal) (mkSt 59 59 [] [])
  | .L2 x38 x39 x40 x41 => stepIn (fun A => loopK Γ (Φ27 n) a27 n c27_10 2 (u 2) A (k27_4 n)) (mkSt 59 59 [(1, (.val (.sh 44 (.pair I64 I64)) x38)), (38, (.val TyS32 x39)), (39, (iv x40)), (40, (iv x41))] [])
theorem h27 (n : Nat) (u : Nat → Nat) : ∀ p, (∀ i, 1 ≤ u i) → Ok1 (s27 n) e27 n (M27 n) u p
  | .F a0 a1, _ => pl [] (at_code rfl ((codeK_seq (by kernel_rfl)).trans (by kernel_rfl)))
  | .E0 x24 x25 x26 x27, _ => pl [] (by kernel_rfl)
  | .L0 x14 x15 x16 x17 x18 x19 x20, hu => hd 0 [0] hu fun m hm => (loopK_at hm).trans ((codeK_seq (by kernel_rfl)).trans (by kernel_rfl))
  | .E2, _ => pl [] (by kernel_rfl)
  | .L2 x38 x39 x40 x41, hu => hd 2 [2] hu fun m hm => (loopK_at hm).trans ((codeK_seq (by kernel_rfl)).trans (by kernel_rfl))
noncomputable def p27 (n : Nat) (a0 : Vl32 × (Vl33 × Vl34)) (a1 : List (Int × Int)) : Option (Int) := flow (s27 n) n (.F a0 a1)
theorem up27 {n m : Nat} (h : n ≤ m) (a0 : Vl32 × (Vl33 × Vl34)) (a1 : List (Int × Int)) : Up (p27 n a0 a1) (p27 m a0 a1) := flow_up (nat27 n) (us27 h) h _
noncomputable def E27 (n : Nat) : Entry := mkE 27 .flat [.tree TyS35, .tree (.sh 44 (.pair I64 I64))] [] (fun a b => p27 n a.1 a.2.1) e27
theorem ok27 (n : Nat) : EntryOk prog (E27 n) := mkE_ok (Φ := Φ27 n) (ann := a27) (n := n) (F := f27) (by kernel_rfl) (by kernel_rfl) (by kernel_rfl) (known_prog (known_cons (ok23 n) (known_cons (ok76 n) known_nil))) mixed fun a b y h =>
  (show _ = M27 n (fun _ => n) (.F a.1 a.2.1) by kernel_rfl).trans (flow_sound (nat27 n) (h27 n) n _ _ y (Nat.le_refl _) (fun _ => Nat.le_refl _) h)
end Go.Am
