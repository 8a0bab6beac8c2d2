/- G4c: functions as steps, printed by wip/tools/gen6.py. -/
import Derived.Test.YtebmpngnbnigcaaS1Tys
import Derived.Test.YtebmpngnbnigcaaG1
import Derived.Test.YtebmpngnbnigcaaG3
import Derived.Test.YtebmpngnbnigcaaG4a
import Derived.Test.YtebmpngnbnigcaaG4b
set_option linter.unusedVariables false
set_option linter.unusedSimpArgs false
set_option maxRecDepth 20000
set_option maxHeartbeats 0
namespace Go.Am
open Go.Proofs.Try
/-! ### F83 (*horarium/horariumkeep.Tape).asks -/
noncomputable def a83 : Ann := { draws := [(15, { order := [0, 1, 2, 3, 4, 5, 6, 7, 8, 9, 10, 11, 12, 13, 14], touch := [(13, [])] }), (21, { order := [0, 1, 2, 3, 4, 5, 6, 7, 8, 9, 10], touch := [(5, [175]), (10, [3])], inner := [10] }), (39, { order := [0, 1, 2, 3, 4, 5, 6, 7, 11, 8, 9, 10, 12, 13, 14, 15, 16, 17], touch := [(8, [175]), (14, [3]), (17, [3])], inner := [14, 17] }), (45, { order := [0, 1, 2, 3, 4, 5, 6, 7, 8, 9, 10, 11], touch := [(8, [3]), (11, [3])], inner := [8, 11] })], loops := [(0, { vars := [], sites := [3, 4, 5, 175], slots := [(0, .keep), (3, .keep), (4, .keep), (5, .tree TyO159), (23, .keep), (24, .keep), (25, .keep)] }), (2, { vars := [], sites := [3, 4, 175], slots := [(0, .keep), (3, .keep), (4, .keep), (5, .keep), (41, .keep), (42, .keep)] }), (4, { vars := [], sites := [3, 4, 175], slots := [(0, .keep), (3, .keep), (4, .keep), (5, .keep), (10, .keep), (11, .keep), (41, .keep), (42, .keep), (45, .keep), (46, .keep), (47, .keep)] }), (6, { vars := [], sites := [3, 4, 175], slots := [(0, .keep), (3, .keep), (4, .keep), (5, .keep), (15, .keep), (16, .keep)] }), (8, { vars := [], sites := [3, 4, 175], slots := [(0, .keep), (3, .keep), (4, .keep), (5, .keep), (15, .keep), (113, .keep), (114, .keep)] }), (10, { vars := [], sites := [3, 4, 175], slots := [(0, .keep), (3, .keep), (4, .keep), (5, .keep), (15, .keep), (17, .keep), (18, .keep), (113, .keep), (114, .keep), (117, .keep), (118, .keep), (119, .keep)] }), (12, { vars := [], sites := [3, 4, 175], slots := [(3, .keep), (4, .keep), (159, .keep), (160, .keep)] })], ends := [(0, { vars := [], sites := [3, 4, 5, 175], slots := [(0, .keep), (3, .keep), (4, .keep), (5, .tree TyS159)] }), (2, { vars := [], sites := [3, 4, 175], slots := [(0, .keep), (3, .keep), (4, .keep), (5, .keep)] }), (4, { vars := [], sites := [3, 4, 175], slots := [(0, .keep), (3, .keep), (4, .keep), (5, .keep), (10, .keep), (11, .keep), (41, .keep), (42, .keep)] }), (6, { vars := [], sites := [3, 4, 175], slots := [(0, .keep), (3, .keep), (4, .keep), (5, .keep), (15, .keep)] }), (8, { vars := [], sites := [3, 4, 175], slots := [(3, .keep), (4, .keep)] }), (10, { vars := [], sites := [3, 4, 175], slots := [(0, .keep), (3, .keep), (4, .keep), (5, .keep), (15, .keep), (17, .keep), (18, .keep), (113, .keep), (114, .keep)] }), (12, { vars := [], sites := [3, 4, 175], slots := [(3, .keep), (4, .keep)] })], heads := [(10, { vars := [], sites := [3, 4, 175], slots := [(0, .keep), (3, .keep), (4, .keep), (5, .keep), (41, .keep), (42, .keep)] }), (31, { vars := [], sites := [3, 4, 175], slots := [(0, .keep), (3, .keep), (4, .keep), (5, .keep), (15, .keep), (113, .keep), (114, .keep)] })], res := [TyO35] }
noncomputable def e83 (y : Vl35 × ((List Int) × Int)) : List CRes × List CVar := ([.v TyO35 y.1], [⟨26, (.pair (.sh 3 I64) I64), y.2⟩])
noncomputable def Φ83 (n : Nat) : Prog := Prog.of [E21 n, E24 n, E26 n, E74 n, E77 n, E134 n]
inductive P83 where
  | F (a1 : Vl32 × (Vl33 × Vl34)) (b0 : (List Int) × Int)
  | E0 (x29 : List (List (Int × Int))) (x30 : List Vl51) (x31 : List Vl47) (x32 : List (List (Int × (Int × Int)))) (x33 : List Vl51) (x34 : List Vl47) (x35 : List (List (Int × (Int × Int)))) (x36 : List Int) (x37 : Int)
  | L0 (x16 x17 : Int) (x18 : List Vl51) (x19 : List Vl47) (x20 : List (List (Int × (Int × Int)))) (x21 : List Vl51) (x22 : List Vl47) (x23 : List (List (Int × (Int × Int)))) (x24 : List (List (Int × Int))) (x25 : List Int) (x26 : Int)
  | E2 (x186 : List (List (Int × Int))) (x187 : List Vl51) (x188 : List Vl47) (x189 : List (List (Int × (Int × Int)))) (x190 : List Vl51) (x191 : List Vl47) (x192 : List (List (Int × (Int × Int)))) (x193 : List Int) (x194 : Int)
  | L2 (x175 : List (List (Int × Int))) (x176 x177 : Int) (x178 : List Vl51) (x179 : List Vl47) (x180 : List (List (Int × (Int × Int)))) (x181 : List Vl51) (x182 : List Vl47) (x183 : List (List (Int × (Int × Int)))) (x184 : List Int) (x185 : Int)
  | E4 (x158 : List (List (Int × Int))) (x159 x160 x161 x162 : Int) (x163 : List Vl51) (x164 : List Vl47) (x165 : List (List (Int × (Int × Int)))) (x166 : List Vl51) (x167 : List Vl47) (x168 : List (List (Int × (Int × Int)))) (x169 : List Int) (x170 : Int)
  | L4 (x141 : List (List (Int × Int))) (x142 x143 x144 x145 : Int) (x146 : List (List (Int × Int))) (x147 x148 : Int) (x149 : List Vl51) (x150 : List Vl47) (x151 : List (List (Int × (Int × Int)))) (x152 : List Vl51) (x153 : List Vl47) (x154 : List (List (Int × (Int × Int)))) (x155 : List Int) (x156 : Int)
  | E6 (x224 : List (List (Int × Int))) (x225 : Int) (x226 : List Vl51) (x227 : List Vl47) (x228 : List (List (Int × (Int × Int)))) (x229 : List Vl51) (x230 : List Vl47) (x231 : List (List (Int × (Int × Int)))) (x232 : List Int) (x233 : Int)
  | L6 (x213 : List (List (Int × Int))) (x214 x215 : Int) (x216 : List Vl51) (x217 : List Vl47) (x218 : List (List (Int × (Int × Int)))) (x219 : List Vl51) (x220 : List Vl47) (x221 : List (List (Int × (Int × Int)))) (x222 : List Int) (x223 : Int)
  | E8 (x396 : List Vl51) (x397 : List Vl47) (x398 : List (List (Int × (Int × Int)))) (x399 : List Vl51) (x400 : List Vl47) (x401 : List (List (Int × (Int × Int)))) (x402 : List Int) (x403 : Int)
  | L8 (x384 : List (List (Int × Int))) (x385 x386 x387 : Int) (x388 : List Vl51) (x389 : List Vl47) (x390 : List (List (Int × (Int × Int)))) (x391 : List Vl51) (x392 : List Vl47) (x393 : List (List (Int × (Int × Int)))) (x394 : List Int) (x395 : Int)
  | E10 (x366 : List (List (Int × Int))) (x367 x368 x369 x370 x371 : Int) (x372 : List Vl51) (x373 : List Vl47) (x374 : List (List (Int × (Int × Int)))) (x375 : List Vl51) (x376 : List Vl47) (x377 : List (List (Int × (Int × Int)))) (x378 : List Int) (x379 : Int)
  | L10 (x348 : List (List (Int × Int))) (x349 x350 x351 x352 x353 : Int) (x354 : List (List (Int × Int))) (x355 x356 : Int) (x357 : List Vl51) (x358 : List Vl47) (x359 : List (List (Int × (Int × Int)))) (x360 : List Vl51) (x361 : List Vl47) (x362 : List (List (Int × (Int × Int)))) (x363 : List Int) (x364 : Int)
  | Q10 (x112 : List (List (Int × Int))) (x113 x114 : Int) (x115 : List Vl51) (x116 : List Vl47) (x117 : List (List (Int × (Int × Int)))) (x118 : List Vl51) (x119 : List Vl47) (x120 : List (List (Int × (Int × Int)))) (x121 : List Int) (x122 : Int)
  | E12 (x426 : List Vl51) (x427 : List Vl47) (x428 : List (List (Int × (Int × Int)))) (x429 : List Vl51) (x430 : List Vl47) (x431 : List (List (Int × (Int × Int)))) (x432 : List Int) (x433 : Int)
  | L12 (x416 x417 : Int) (x418 : List Vl51) (x419 : List Vl47) (x420 : List (List (Int × (Int × Int)))) (x421 : List Vl51) (x422 : List Vl47) (x423 : List (List (Int × (Int × Int)))) (x424 : List Int) (x425 : Int)
  | Q31 (x317 : List (List (Int × Int))) (x318 x319 x320 : Int) (x321 : List Vl51) (x322 : List Vl47) (x323 : List (List (Int × (Int × Int)))) (x324 : List Vl51) (x325 : List Vl47) (x326 : List (List (Int × (Int × Int)))) (x327 : List Int) (x328 : Int)
noncomputable def s83 (n : Nat) (γ : Type) : P83 → (P83 → Option γ) → (Vl35 × ((List Int) × Int) → Option γ) → Option γ
  | .F a1 b0, k, r =>
    k (.L0 (List.length a1.2.2 : Int) (0 : Int) a1.1 a1.2.1 a1.2.2 ([] : Vl32) ([] : Vl33) ([] : Vl34) ([] : (List (List (Int × Int)))) b0.1 b0.2)
  | .E0 x29 x30 x31 x32 x33 x34 x35 x36 x37, k, r =>
    k (.L2 x29 (List.length x31 : Int) (0 : Int) x30 x31 x32 x33 x34 x35 x36 x37)
  | .L0 x16 x17 x18 x19 x20 x21 x22 x23 x24 x25 x26, k, r =>
    cond ((ltB x17 x16)) (
      if 0 ≤ x17 then (
      if x17 < (List.length x20 : Int) then (
      (p26 n (List.getD x20 (Int.toNat x17) ([] : (List (Int × (Int × Int)))))).bind fun cy27 =>
      if (List.length x24 + List.length [cy27.1]) * 24 ≤ 140737488355328 then (
      k (.L0 x16 (w64 (x17 + (1 : Int))) x18 x19 x20 x21 x22 x23 (x24 ++ [cy27.1]) x25 x26)) else none) else none) else none) (
      k (.E0 x24 x18 x19 x20 x21 x22 x23 x25 x26))
  | .E2 x186 x187 x188 x189 x190 x191 x192 x193 x194, k, r =>
    if 0 ≤ (0 : Int) then (
    if (0 : Int) < (List.length x186 : Int) then (
    (p21 n (List.getD x186 0 ([] : (List (Int × Int))))).bind fun y196 =>
    (p74 n (3 : Int) (x193, x194)).bind fun cy197 =>
    k (.L6 x186 y196 (w64 ((2 : Int) + cy197.1)) x187 x188 x189 x190 x191 x192 cy197.2.1 cy197.2.2)) else none) else none
  | .L2 x175 x176 x177 x178 x179 x180 x181 x182 x183 x184 x185, k, r =>
    cond ((ltB x177 x176)) (
      k (.Q10 x175 x176 x177 x178 x179 x180 x181 x182 x183 x184 x185)) (
      k (.E2 x175 x178 x179 x180 x181 x182 x183 x184 x185))
  | .E4 x158 x159 x160 x161 x162 x163 x164 x165 x166 x167 x168 x169 x170, k, r =>
    cond ((ltB (0 : Int) x160)) (
      (p74 n (3 : Int) (x169, x170)).bind fun cy234 =>
      cond ((ltB (0 : Int) cy234.1)) (
        (p74 n (6 : Int) cy234.2).bind fun cy236 =>
        if 0 ≤ x159 then (
        if x159 < (List.length x164 : Int) then (
        k (.L2 x158 x161 (w64 (x162 + (1 : Int))) x163 (List.set x164 (Int.toNat x159) ((List.getD x164 (Int.toNat x159) ((0 : Int), ((0 : Int), (false, ((0 : Int), ((0 : Int), (0 : Int))))))).1, ((List.getD x164 (Int.toNat x159) ((0 : Int), ((0 : Int), (false, ((0 : Int), ((0 : Int), (0 : Int))))))).2.1, ((List.getD x164 (Int.toNat x159) ((0 : Int), ((0 : Int), (false, ((0 : Int), ((0 : Int), (0 : Int))))))).2.2.1, ((List.getD x164 (Int.toNat x159) ((0 : Int), ((0 : Int), (false, ((0 : Int), ((0 : Int), (0 : Int))))))).2.2.2.1, ((List.getD x164 (Int.toNat x159) ((0 : Int), ((0 : Int), (false, ((0 : Int), ((0 : Int), (0 : Int))))))).2.2.2.2.1, (min (w64 (x160 + cy236.1)) (4096 : Int)))))))) x165 x166 x167 x168 cy236.2.1 cy236.2.2)) else none) else none) (
        k (.L2 x158 x161 (w64 (x162 + (1 : Int))) x163 x164 x165 x166 x167 x168 cy234.2.1 cy234.2.2))) (
      k (.L2 x158 x161 (w64 (x162 + (1 : Int))) x163 x164 x165 x166 x167 x168 x169 x170))
  | .L4 x141 x142 x143 x144 x145 x146 x147 x148 x149 x150 x151 x152 x153 x154 x155 x156, k, r =>
    cond ((ltB x148 x147)) (
      if 0 ≤ x148 then (
      if x148 < (List.length x146 : Int) then (
      if 0 ≤ x142 then (
      if x142 < (List.length x150 : Int) then (
      if 0 ≤ x142 then (
      if x142 < (List.length x150 : Int) then (
      (p77 n (List.getD x146 (Int.toNat x148) ([] : (List (Int × Int)))) (List.getD x150 (Int.toNat x142) ((0 : Int), ((0 : Int), (false, ((0 : Int), ((0 : Int), (0 : Int))))))).1 (List.getD x150 (Int.toNat x142) ((0 : Int), ((0 : Int), (false, ((0 : Int), ((0 : Int), (0 : Int))))))).2.1).bind fun y195 =>
      cond ((ltB y195 (0 : Int))) (
        k (.L4 x141 x142 (-1 : Int) x144 x145 x146 x147 (w64 (x148 + (1 : Int))) x149 x150 x151 x152 x153 x154 x155 x156)) (
        cond ((ltB x143 (0 : Int))) (
          k (.L4 x141 x142 (-1 : Int) x144 x145 x146 x147 (w64 (x148 + (1 : Int))) x149 x150 x151 x152 x153 x154 x155 x156)) (
          k (.L4 x141 x142 (max x143 y195) x144 x145 x146 x147 (w64 (x148 + (1 : Int))) x149 x150 x151 x152 x153 x154 x155 x156)))) else none) else none) else none) else none) else none) else none) (
      k (.E4 x141 x142 x143 x144 x145 x149 x150 x151 x152 x153 x154 x155 x156))
  | .E6 x224 x225 x226 x227 x228 x229 x230 x231 x232 x233, k, r =>
    k (.L8 x224 x225 (List.length x226 : Int) (0 : Int) x226 x227 x228 x229 x230 x231 x232 x233)
  | .L6 x213 x214 x215 x216 x217 x218 x219 x220 x221 x222 x223, k, r =>
    cond ((ltB (1 : Int) x215)) (
      if x215 = 0 then none else (
      cond ((eqB (Int.tmod x214 x215) (0 : Int))) (
        if x215 = 0 then none else (
        k (.E6 x213 (w64 (Int.tdiv x214 x215)) x216 x217 x218 x219 x220 x221 x222 x223))) (
        k (.L6 x213 x214 (w64 (x215 - (1 : Int))) x216 x217 x218 x219 x220 x221 x222 x223)))) (
      k (.E6 x213 x214 x216 x217 x218 x219 x220 x221 x222 x223))
  | .E8 x396 x397 x398 x399 x400 x401 x402 x403, k, r =>
    (p134 n (x396, (x397, x398))).bind fun y405 =>
    cond ((!eqB y405 (0 : Int))) (
      k (.L12 (List.length x396 : Int) (0 : Int) x396 x397 x398 x399 x400 x401 x402 x403)) (
      r ((x396, (x397, x398)), (x402, x403)))
  | .L8 x384 x385 x386 x387 x388 x389 x390 x391 x392 x393 x394 x395, k, r =>
    cond ((ltB x387 x386)) (
      k (.Q31 x384 x385 x386 x387 x388 x389 x390 x391 x392 x393 x394 x395)) (
      k (.E8 x388 x389 x390 x391 x392 x393 x394 x395))
  | .E10 x366 x367 x368 x369 x370 x371 x372 x373 x374 x375 x376 x377 x378 x379, k, r =>
    cond ((ltB (0 : Int) x369)) (
      (p74 n (2 : Int) (x378, x379)).bind fun cy434 =>
      cond ((eqB cy434.1 (0 : Int))) (
        (p74 n (2 : Int) cy434.2).bind fun cy436 =>
        if 0 ≤ x368 then (
        if x368 < (List.length x372 : Int) then (
        if 0 ≤ x368 then (
        if x368 < (List.length (List.set x372 (Int.toNat x368) ((List.getD x372 (Int.toNat x368) (([] : List UInt8), ((0 : Int), ((0 : Int), (false, (false, (([] : (List (Int × Int))), (List.replicate 5 (0 : Int))))))))).1, ((max (w64 (x369 - cy436.1)) (1 : Int)), (List.getD x372 (Int.toNat x368) (([] : List UInt8), ((0 : Int), ((0 : Int), (false, (false, (([] : (List (Int × Int))), (List.replicate 5 (0 : Int))))))))).2.2))) : Int) then (
        k (.L8 x366 x367 x370 (w64 (x371 + (1 : Int))) (List.set (List.set x372 (Int.toNat x368) ((List.getD x372 (Int.toNat x368) (([] : List UInt8), ((0 : Int), ((0 : Int), (false, (false, (([] : (List (Int × Int))), (List.replicate 5 (0 : Int))))))))).1, ((max (w64 (x369 - cy436.1)) (1 : Int)), (List.getD x372 (Int.toNat x368) (([] : List UInt8), ((0 : Int), ((0 : Int), (false, (false, (([] : (List (Int × Int))), (List.replicate 5 (0 : Int))))))))).2.2))) (Int.toNat x368) ((List.getD (List.set x372 (Int.toNat x368) ((List.getD x372 (Int.toNat x368) (([] : List UInt8), ((0 : Int), ((0 : Int), (false, (false, (([] : (List (Int × Int))), (List.replicate 5 (0 : Int))))))))).1, ((max (w64 (x369 - cy436.1)) (1 : Int)), (List.getD x372 (Int.toNat x368) (([] : List UInt8), ((0 : Int), ((0 : Int), (false, (false, (([] : (List (Int × Int))), (List.replicate 5 (0 : Int))))))))).2.2))) (Int.toNat x368) (([] : List UInt8), ((0 : Int), ((0 : Int), (false, (false, (([] : (List (Int × Int))), (List.replicate 5 (0 : Int))))))))).1, ((List.getD (List.set x372 (Int.toNat x368) ((List.getD x372 (Int.toNat x368) (([] : List UInt8), ((0 : Int), ((0 : Int), (false, (false, (([] : (List (Int × Int))), (List.replicate 5 (0 : Int))))))))).1, ((max (w64 (x369 - cy436.1)) (1 : Int)), (List.getD x372 (Int.toNat x368) (([] : List UInt8), ((0 : Int), ((0 : Int), (false, (false, (([] : (List (Int × Int))), (List.replicate 5 (0 : Int))))))))).2.2))) (Int.toNat x368) (([] : List UInt8), ((0 : Int), ((0 : Int), (false, (false, (([] : (List (Int × Int))), (List.replicate 5 (0 : Int))))))))).2.1, (x367, (List.getD (List.set x372 (Int.toNat x368) ((List.getD x372 (Int.toNat x368) (([] : List UInt8), ((0 : Int), ((0 : Int), (false, (false, (([] : (List (Int × Int))), (List.replicate 5 (0 : Int))))))))).1, ((max (w64 (x369 - cy436.1)) (1 : Int)), (List.getD x372 (Int.toNat x368) (([] : List UInt8), ((0 : Int), ((0 : Int), (false, (false, (([] : (List (Int × Int))), (List.replicate 5 (0 : Int))))))))).2.2))) (Int.toNat x368) (([] : List UInt8), ((0 : Int), ((0 : Int), (false, (false, (([] : (List (Int × Int))), (List.replicate 5 (0 : Int))))))))).2.2.2)))) x373 x374 x375 x376 x377 cy436.2.1 cy436.2.2)) else none) else none) else none) else none) (
        k (.L8 x366 x367 x370 (w64 (x371 + (1 : Int))) x372 x373 x374 x375 x376 x377 cy434.2.1 cy434.2.2))) (
      k (.L8 x366 x367 x370 (w64 (x371 + (1 : Int))) x372 x373 x374 x375 x376 x377 x378 x379))
  | .L10 x348 x349 x350 x351 x352 x353 x354 x355 x356 x357 x358 x359 x360 x361 x362 x363 x364, k, r =>
    cond ((ltB x356 x355)) (
      if 0 ≤ x356 then (
      if x356 < (List.length x354 : Int) then (
      (p24 n (List.getD x354 (Int.toNat x356) ([] : (List (Int × Int)))) x350 x349).bind fun y404 =>
      k (.L10 x348 x349 x350 (min x351 y404) x352 x353 x354 x355 (w64 (x356 + (1 : Int))) x357 x358 x359 x360 x361 x362 x363 x364)) else none) else none) (
      k (.E10 x348 x349 x350 x351 x352 x353 x357 x358 x359 x360 x361 x362 x363 x364))
  | .Q10 x112 x113 x114 x115 x116 x117 x118 x119 x120 x121 x122, k, r =>
    k (.L4 x112 x114 (0 : Int) x113 x114 x112 (List.length x112 : Int) (0 : Int) x115 x116 x117 x118 x119 x120 x121 x122)
  | .E12 x426 x427 x428 x429 x430 x431 x432 x433, k, r =>
    r ((x426, (x427, x428)), (x432, x433))
  | .L12 x416 x417 x418 x419 x420 x421 x422 x423 x424 x425, k, r =>
    cond ((ltB x417 x416)) (
      if 0 ≤ x417 then (
      if x417 < (List.length x418 : Int) then (
      if 0 ≤ x417 then (
      if x417 < (List.length (List.set x418 (Int.toNat x417) ((List.getD x418 (Int.toNat x417) (([] : List UInt8), ((0 : Int), ((0 : Int), (false, (false, (([] : (List (Int × Int))), (List.replicate 5 (0 : Int))))))))).1, ((0 : Int), (List.getD x418 (Int.toNat x417) (([] : List UInt8), ((0 : Int), ((0 : Int), (false, (false, (([] : (List (Int × Int))), (List.replicate 5 (0 : Int))))))))).2.2))) : Int) then (
      k (.L12 x416 (w64 (x417 + (1 : Int))) (List.set (List.set x418 (Int.toNat x417) ((List.getD x418 (Int.toNat x417) (([] : List UInt8), ((0 : Int), ((0 : Int), (false, (false, (([] : (List (Int × Int))), (List.replicate 5 (0 : Int))))))))).1, ((0 : Int), (List.getD x418 (Int.toNat x417) (([] : List UInt8), ((0 : Int), ((0 : Int), (false, (false, (([] : (List (Int × Int))), (List.replicate 5 (0 : Int))))))))).2.2))) (Int.toNat x417) ((List.getD (List.set x418 (Int.toNat x417) ((List.getD x418 (Int.toNat x417) (([] : List UInt8), ((0 : Int), ((0 : Int), (false, (false, (([] : (List (Int × Int))), (List.replicate 5 (0 : Int))))))))).1, ((0 : Int), (List.getD x418 (Int.toNat x417) (([] : List UInt8), ((0 : Int), ((0 : Int), (false, (false, (([] : (List (Int × Int))), (List.replicate 5 (0 : Int))))))))).2.2))) (Int.toNat x417) (([] : List UInt8), ((0 : Int), ((0 : Int), (false, (false, (([] : (List (Int × Int))), (List.replicate 5 (0 : Int))))))))).1, ((List.getD (List.set x418 (Int.toNat x417) ((List.getD x418 (Int.toNat x417) (([] : List UInt8), ((0 : Int), ((0 : Int), (false, (false, (([] : (List (Int × Int))), (List.replicate 5 (0 : Int))))))))).1, ((0 : Int), (List.getD x418 (Int.toNat x417) (([] : List UInt8), ((0 : Int), ((0 : Int), (false, (false, (([] : (List (Int × Int))), (List.replicate 5 (0 : Int))))))))).2.2))) (Int.toNat x417) (([] : List UInt8), ((0 : Int), ((0 : Int), (false, (false, (([] : (List (Int × Int))), (List.replicate 5 (0 : Int))))))))).2.1, ((0 : Int), (List.getD (List.set x418 (Int.toNat x417) ((List.getD x418 (Int.toNat x417) (([] : List UInt8), ((0 : Int), ((0 : Int), (false, (false, (([] : (List (Int × Int))), (List.replicate 5 (0 : Int))))))))).1, ((0 : Int), (List.getD x418 (Int.toNat x417) (([] : List UInt8), ((0 : Int), ((0 : Int), (false, (false, (([] : (List (Int × Int))), (List.replicate 5 (0 : Int))))))))).2.2))) (Int.toNat x417) (([] : List UInt8), ((0 : Int), ((0 : Int), (false, (false, (([] : (List (Int × Int))), (List.replicate 5 (0 : Int))))))))).2.2.2)))) x419 x420 x421 x422 x423 x424 x425)) else none) else none) else none) else none) (
      k (.E12 x418 x419 x420 x421 x422 x423 x424 x425))
  | .Q31 x317 x318 x319 x320 x321 x322 x323 x324 x325 x326 x327 x328, k, r =>
    k (.L10 x317 x318 x320 (4096 : Int) x319 x320 x317 (List.length x317 : Int) (0 : Int) x321 x322 x323 x324 x325 x326 x327 x328)
theorem nat83 (n : Nat) : NatS (s83 n) := fun g p k r => by
  cases p <;> simp only [s83, bind_cond, bind_ite, bind_optK, Option.bind_assoc, Option.bind_none]
theorem us83 {n m : Nat} (h : n ≤ m) : UpS (s83 n) (s83 m) := fun γ p k r => by
  cases p <;> dsimp only [s83] <;> repeat' first | with_reducible exact up_rfl | apply up_cond | apply up_ite | apply up_bind | apply up_optK | apply up21 h | apply up24 h | apply up26 h | apply up74 h | apply up77 h | apply up134 h | intro
noncomputable def k83_0 (n : Nat)  : Ex → St → Option (List CRes × List CVar) := finK' Γ f83 a83 1
noncomputable def c83_0 : Code := partB (bodyOf f83)
noncomputable def c83_1 : Code := partB c83_0
noncomputable def c83_2 : Code := partB c83_1
noncomputable def k83_1 (n : Nat)  : Ex → St → Option (List CRes × List CVar) := seqK Γ (Φ83 n) a83 n c83_2 0 (k83_0 n)
noncomputable def c83_3 : Code := partA c83_1
noncomputable def c83_4 : Code := partB c83_3
noncomputable def c83_5 : Code := partA c83_4
noncomputable def c83_6 : Code := partA c83_5
noncomputable def k83_2 (n : Nat)  : Ex → St → Option (List CRes × List CVar) := blockK a83 0 (k83_1 n)
noncomputable def c83_7 : Code := partB c83_2
noncomputable def k83_3 (n : Nat)  : Ex → St → Option (List CRes × List CVar) := seqK Γ (Φ83 n) a83 n c83_7 0 (k83_0 n)
noncomputable def c83_8 : Code := partA c83_2
noncomputable def c83_9 : Code := partB c83_8
noncomputable def c83_10 : Code := partA c83_9
noncomputable def c83_11 : Code := partA c83_10
noncomputable def k83_4 (n : Nat)  : Ex → St → Option (List CRes × List CVar) := blockK a83 2 (k83_3 n)
noncomputable def k83_5 (n : Nat) (u : Nat → Nat) : Ex → St → Option (List CRes × List CVar) := roundK Γ (Φ83 n) a83 n c83_11 2 (u 2) (k83_4 n)
noncomputable def c83_12 : Code := partB c83_11
noncomputable def c83_13 : Code := partB c83_12
noncomputable def c83_14 : Code := partB c83_13
noncomputable def k83_6 (n : Nat) (u : Nat → Nat) : Ex → St → Option (List CRes × List CVar) := seqK Γ (Φ83 n) a83 n c83_14 2 (k83_5 n u)
noncomputable def k83_7 (n : Nat) (u : Nat → Nat) : Ex → St → Option (List CRes × List CVar) := blockK a83 3 (k83_6 n u)
noncomputable def c83_15 : Code := partA c83_13
noncomputable def c83_16 : Code := partA c83_15
noncomputable def c83_17 : Code := partB c83_16
noncomputable def c83_18 : Code := partB c83_17
noncomputable def c83_19 : Code := partB c83_18
noncomputable def k83_8 (n : Nat) (u : Nat → Nat) : Ex → St → Option (List CRes × List CVar) := seqK Γ (Φ83 n) a83 n c83_19 3 (k83_7 n u)
noncomputable def c83_20 : Code := partA c83_18
noncomputable def c83_21 : Code := partB c83_20
noncomputable def c83_22 : Code := partA c83_21
noncomputable def c83_23 : Code := partA c83_22
noncomputable def k83_9 (n : Nat) (u : Nat → Nat) : Ex → St → Option (List CRes × List CVar) := blockK a83 4 (k83_8 n u)
noncomputable def c83_24 : Code := partB c83_7
noncomputable def c83_25 : Code := partB c83_24
noncomputable def k83_10 (n : Nat)  : Ex → St → Option (List CRes × List CVar) := seqK Γ (Φ83 n) a83 n c83_25 0 (k83_0 n)
noncomputable def c83_26 : Code := partA c83_24
noncomputable def c83_27 : Code := partB c83_26
noncomputable def c83_28 : Code := partA c83_27
noncomputable def c83_29 : Code := partA c83_28
noncomputable def k83_11 (n : Nat)  : Ex → St → Option (List CRes × List CVar) := blockK a83 6 (k83_10 n)
noncomputable def c83_30 : Code := partB c83_25
noncomputable def k83_12 (n : Nat)  : Ex → St → Option (List CRes × List CVar) := seqK Γ (Φ83 n) a83 n c83_30 0 (k83_0 n)
noncomputable def c83_31 : Code := partA c83_25
noncomputable def c83_32 : Code := partB c83_31
noncomputable def c83_33 : Code := partA c83_32
noncomputable def c83_34 : Code := partA c83_33
noncomputable def k83_13 (n : Nat)  : Ex → St → Option (List CRes × List CVar) := blockK a83 8 (k83_12 n)
noncomputable def k83_14 (n : Nat) (u : Nat → Nat) : Ex → St → Option (List CRes × List CVar) := roundK Γ (Φ83 n) a83 n c83_34 8 (u 8) (k83_13 n)
noncomputable def c83_35 : Code := partB c83_34
noncomputable def c83_36 : Code := partB c83_35
noncomputable def c83_37 : Code := partB c83_36
noncomputable def k83_15 (n : Nat) (u : Nat → Nat) : Ex → St → Option (List CRes × List CVar) := seqK Γ (Φ83 n) a83 n c83_37 8 (k83_14 n u)
noncomputable def k83_16 (n : Nat) (u : Nat → Nat) : Ex → St → Option (List CRes × List CVar) := blockK a83 9 (k83_15 n u)
noncomputable def c83_38 : Code := partA c83_36
noncomputable def c83_39 : Code := partA c83_38
noncomputable def c83_40 : Code := partB c83_39
noncomputable def c83_41 : Code := partB c83_40
noncomputable def c83_42 : Code := partB c83_41
noncomputable def k83_17 (n : Nat) (u : Nat → Nat) : Ex → St → Option (List CRes × List CVar) := seqK Γ (Φ83 n) a83 n c83_42 9 (k83_16 n u)
noncomputable def c83_43 : Code := partA c83_41
noncomputable def c83_44 : Code := partB c83_43
noncomputable def c83_45 : Code := partA c83_44
noncomputable def c83_46 : Code := partA c83_45
noncomputable def k83_18 (n : Nat) (u : Nat → Nat) : Ex → St → Option (List CRes × List CVar) := blockK a83 10 (k83_17 n u)
noncomputable def c83_47 : Code := partB c83_30
noncomputable def k83_19 (n : Nat)  : Ex → St → Option (List CRes × List CVar) := seqK Γ (Φ83 n) a83 n c83_47 0 (k83_0 n)
noncomputable def c83_48 : Code := partA c83_30
noncomputable def c83_49 : Code := partB c83_48
noncomputable def c83_50 : Code := partA c83_49
noncomputable def c83_51 : Code := partB c83_50
noncomputable def c83_52 : Code := partA c83_51
noncomputable def c83_53 : Code := partA c83_52
noncomputable def k83_20 (n : Nat)  : Ex → St → Option (List CRes × List CVar) := blockK a83 12 (k83_19 n)
noncomputable def M83 (n : Nat) (u : Nat → Nat) : P83 → Option (List CRes × List CVar)
  | .F a1 b0 => stepIn (fun A => codeK Γ (Φ83 n) a83 n (bodyOf f83) 0 A (k83_0 n)) (mkSt 175 176 [(0, (.ptr 175 [])), (1, (.pr (.ref 1 [.fst]) (.pr (.ref 1 [.snd, .fst]) (.ref 1 [.snd, .snd]))))] [(1, .tmp TyO35 a1), (175, .var 26 (.pair (.sh 3 I64) I64) b0)])
  | .E0 x29 x30 x31 x32 x33 x34 x35 x36 x37 => stepIn ((k83_1 n) .normal) (mkSt 175 176 [(0, (.ptr 175 [])), (3, (.ptr 3 [])), (4, (.ptr 4 [])), (5, (.val TyS159 x29))] [(3, .var 36 TyO35 (x30, (x31, x32))), (4, .var 36 TyO35 (x33, (x34, x35))), (175, .var 26 (.pair (.sh 3 I64) I64) (x36, x37))])
  | .L0 x16 x17 x18 x19 x20 x21 x22 x23 x24 x25 x26 => stepIn (fun A => loopK Γ (Φ83 n) a83 n c83_6 0 (u 0) A (k83_2 n)) (mkSt 175 176 [(0, (.ptr 175 [])), (3, (.ptr 3 [])), (4, (.ptr 4 [])), (5, (.ref 5 [])), (23, (.ref 3 [.snd, .snd])), (24, (iv x16)), (25, (iv x17))] [(3, .var 36 TyO35 (x18, (x19, x20))), (4, .var 36 TyO35 (x21, (x22, x23))), (5, .tmp TyO159 x24), (175, .var 26 (.pair (.sh 3 I64) I64) (x25, x26))])
  | .E2 x186 x187 x188 x189 x190 x191 x192 x193 x194 => stepIn ((k83_3 n) .normal) (mkSt 175 176 [(0, (.ptr 175 [])), (3, (.ptr 3 [])), (4, (.ptr 4 [])), (5, (.val TyS159 x186))] [(3, .var 36 TyO35 (x187, (x188, x189))), (4, .var 36 TyO35 (x190, (x191, x192))), (175, .var 26 (.pair (.sh 3 I64) I64) (x193, x194))])
  | .L2 x175 x176 x177 x178 x179 x180 x181 x182 x183 x184 x185 => stepIn (fun A => loopK Γ (Φ83 n) a83 n c83_11 2 (u 2) A (k83_4 n)) (mkSt 175 176 [(0, (.ptr 175 [])), (3, (.ptr 3 [])), (4, (.ptr 4 [])), (5, (.val TyS159 x175)), (41, (iv x176)), (42, (iv x177))] [(3, .var 36 TyO35 (x178, (x179, x180))), (4, .var 36 TyO35 (x181, (x182, x183))), (175, .var 26 (.pair (.sh 3 I64) I64) (x184, x185))])
  | .E4 x158 x159 x160 x161 x162 x163 x164 x165 x166 x167 x168 x169 x170 => stepIn ((k83_8 n u) .normal) (mkSt 175 176 [(0, (.ptr 175 [])), (3, (.ptr 3 [])), (4, (.ptr 4 [])), (5, (.val TyS159 x158)), (10, (iv x159)), (11, (iv x160)), (41, (iv x161)), (42, (iv x162))] [(3, .var 36 TyO35 (x163, (x164, x165))), (4, .var 36 TyO35 (x166, (x167, x168))), (175, .var 26 (.pair (.sh 3 I64) I64) (x169, x170))])
  | .L4 x141 x142 x143 x144 x145 x146 x147 x148 x149 x150 x151 x152 x153 x154 x155 x156 => stepIn (fun A => loopK Γ (Φ83 n) a83 n c83_23 4 (u 4) A (k83_9 n u)) (mkSt 175 176 [(0, (.ptr 175 [])), (3, (.ptr 3 [])), (4, (.ptr 4 [])), (5, (.val TyS159 x141)), (10, (iv x142)), (11, (iv x143)), (41, (iv x144)), (42, (iv x145)), (45, (.val TyS159 x146)), (46, (iv x147)), (47, (iv x148))] [(3, .var 36 TyO35 (x149, (x150, x151))), (4, .var 36 TyO35 (x152, (x153, x154))), (175, .var 26 (.pair (.sh 3 I64) I64) (x155, x156))])
  | .E6 x224 x225 x226 x227 x228 x229 x230 x231 x232 x233 => stepIn ((k83_10 n) .normal) (mkSt 175 176 [(0, (.ptr 175 [])), (3, (.ptr 3 [])), (4, (.ptr 4 [])), (5, (.val TyS159 x224)), (15, (iv x225))] [(3, .var 36 TyO35 (x226, (x227, x228))), (4, .var 36 TyO35 (x229, (x230, x231))), (175, .var 26 (.pair (.sh 3 I64) I64) (x232, x233))])
  | .L6 x213 x214 x215 x216 x217 x218 x219 x220 x221 x222 x223 => stepIn (fun A => loopK Γ (Φ83 n) a83 n c83_29 6 (u 6) A (k83_11 n)) (mkSt 175 176 [(0, (.ptr 175 [])), (3, (.ptr 3 [])), (4, (.ptr 4 [])), (5, (.val TyS159 x213)), (15, (iv x214)), (16, (iv x215))] [(3, .var 36 TyO35 (x216, (x217, x218))), (4, .var 36 TyO35 (x219, (x220, x221))), (175, .var 26 (.pair (.sh 3 I64) I64) (x222, x223))])
  | .E8 x396 x397 x398 x399 x400 x401 x402 x403 => stepIn ((k83_12 n) .normal) (mkSt 175 176 [(3, (.ptr 3 [])), (4, (.ptr 4 []))] [(3, .var 36 TyO35 (x396, (x397, x398))), (4, .var 36 TyO35 (x399, (x400, x401))), (175, .var 26 (.pair (.sh 3 I64) I64) (x402, x403))])
  | .L8 x384 x385 x386 x387 x388 x389 x390 x391 x392 x393 x394 x395 => stepIn (fun A => loopK Γ (Φ83 n) a83 n c83_34 8 (u 8) A (k83_13 n)) (mkSt 175 176 [(0, (.ptr 175 [])), (3, (.ptr 3 [])), (4, (.ptr 4 [])), (5, (.val TyS159 x384)), (15, (iv x385)), (113, (iv x386)), (114, (iv x387))] [(3, .var 36 TyO35 (x388, (x389, x390))), (4, .var 36 TyO35 (x391, (x392, x393))), (175, .var 26 (.pair (.sh 3 I64) I64) (x394, x395))])
  | .E10 x366 x367 x368 x369 x370 x371 x372 x373 x374 x375 x376 x377 x378 x379 => stepIn ((k83_17 n u) .normal) (mkSt 175 176 [(0, (.ptr 175 [])), (3, (.ptr 3 [])), (4, (.ptr 4 [])), (5, (.val TyS159 x366)), (15, (iv x367)), (17, (iv x368)), (18, (iv x369)), (113, (iv x370)), (114, (iv x371))] [(3, .var 36 TyO35 (x372, (x373, x374))), (4, .var 36 TyO35 (x375, (x376, x377))), (175, .var 26 (.pair (.sh 3 I64) I64) (x378, x379))])
  | .L10 x348 x349 x350 x351 x352 x353 x354 x355 x356 x357 x358 x359 x360 x361 x362 x363 x364 => stepIn (fun A => loopK Γ (Φ83 n) a83 n c83_46 10 (u 10) A (k83_18 n u)) (mkSt 175 176 [(0, (.ptr 175 [])), (3, (.ptr 3 [])), (4, (.ptr 4 [])), (5, (.val TyS159 x348)), (15, (iv x349)), (17, (iv x350)), (18, (iv x351)), (113, (iv x352)), (114, (iv x353)), (117, (.val TyS159 x354)), (118, (iv x355)), (119, (iv x356))] [(3, .var 36 TyO35 (x357, (x358, x359))), (4, .var 36 TyO35 (x360, (x361, x362))), (175, .var 26 (.pair (.sh 3 I64) I64) (x363, x364))])
  | .Q10 x112 x113 x114 x115 x116 x117 x118 x119 x120 x121 x122 => stepIn (fun A => codeK Γ (Φ83 n) a83 n c83_13 2 A (k83_5 n u)) (mkSt 175 176 [(0, (.ptr 175 [])), (3, (.ptr 3 [])), (4, (.ptr 4 [])), (5, (.val TyS159 x112)), (41, (iv x113)), (42, (iv x114))] [(3, .var 36 TyO35 (x115, (x116, x117))), (4, .var 36 TyO35 (x118, (x119, x120))), (175, .var 26 (.pair (.sh 3 I64) I64) (x121, x122))])
  | .E12 x426 x427 x428 x429 x430 x431 x432 x433 => stepIn ((k83_19 n) .normal) (mkSt 175 176 [(3, (.ptr 3 [])), (4, (.ptr 4 []))] [(3, .var 36 TyO35 (x426, (x427, x428))), (4, .var 36 TyO35 (x429, (x430, x431))), (175, .var 26 (.pair (.sh 3 I64) I64) (x432, x433))])
  | .L12 x416 x417 x418 x419 x420 x421 x422 x423 x424 x425 => stepIn (fun A => loopK Γ (Φ83 n) a83 n c83_53 12 (u 12) A (k83_20 n)) (mkSt 175 176 [(3, (.ptr 3 [])), (4, (.ptr 4 [])), (159, (iv x416)), (160, (iv x417))] [(3, .var 36 TyO35 (x418, (x419, x420))), (4, .var 36 TyO35 (x421, (x422, x423))), (175, .var 26 (.pair (.sh 3 I64) I64) (x424, x425))])
  | .Q31 x317 x318 x319 x320 x321 x322 x323 x324 x325 x326 x327 x328 => stepIn (fun A => codeK Γ (Φ83 n) a83 n c83_36 8 A (k83_14 n u)) (mkSt 175 176 [(0, (.ptr 175 [])), (3, (.ptr 3 [])), (4, (.ptr 4 [])), (5, (.val TyS159 x317)), (15, (iv x318)), (113, (iv x319)), (114, (iv x320))] [(3, .var 36 TyO35 (x321, (x322, x323))), (4, .var 36 TyO35 (x324, (x325, x326))), (175, .var 26 (.pair (.sh 3 I64) I64) (x327, x328))])
theorem h83 (n : Nat) (u : Nat → Nat) : ∀ p, (∀ i, 1 ≤ u i) → Ok1 (s83 n) e83 n (M83 n) u p
  | .F a1 b0, _ => pl [] (at_code rfl ((codeK_seq (by kernel_rfl)).trans (by kernel_rfl)))
  | .E0 x29 x30 x31 x32 x33 x34 x35 x36 x37, _ => pl [] (by kernel_rfl)
  | .L0 x16 x17 x18 x19 x20 x21 x22 x23 x24 x25 x26, hu => hd 0 [0] hu fun m hm => (loopK_at hm).trans ((codeK_seq (by kernel_rfl)).trans (by kernel_rfl))
  | .E2 x186 x187 x188 x189 x190 x191 x192 x193 x194, _ => pl [] (by kernel_rfl)
  | .L2 x175 x176 x177 x178 x179 x180 x181 x182 x183 x184 x185, hu => hd 2 [2] hu fun m hm => (loopK_at hm).trans ((codeK_seq (by kernel_rfl)).trans (by kernel_rfl))
  | .E4 x158 x159 x160 x161 x162 x163 x164 x165 x166 x167 x168 x169 x170, _ => pl [2] (by kernel_rfl)
  | .L4 x141 x142 x143 x144 x145 x146 x147 x148 x149 x150 x151 x152 x153 x154 x155 x156, hu => hd 4 [2, 4] hu fun m hm => (loopK_at hm).trans ((codeK_seq (by kernel_rfl)).trans (by kernel_rfl))
  | .E6 x224 x225 x226 x227 x228 x229 x230 x231 x232 x233, _ => pl [] (by kernel_rfl)
  | .L6 x213 x214 x215 x216 x217 x218 x219 x220 x221 x222 x223, hu => hd 6 [6] hu fun m hm => (loopK_at hm).trans ((codeK_seq (by kernel_rfl)).trans ((codeK_seq (by kernel_rfl)).trans (by kernel_rfl)))
  | .E8 x396 x397 x398 x399 x400 x401 x402 x403, _ => pl [] (by kernel_rfl)
  | .L8 x384 x385 x386 x387 x388 x389 x390 x391 x392 x393 x394 x395, hu => hd 8 [8] hu fun m hm => (loopK_at hm).trans ((codeK_seq (by kernel_rfl)).trans (by kernel_rfl))
  | .E10 x366 x367 x368 x369 x370 x371 x372 x373 x374 x375 x376 x377 x378 x379, _ => pl [8] (by kernel_rfl)
  | .L10 x348 x349 x350 x351 x352 x353 x354 x355 x356 x357 x358 x359 x360 x361 x362 x363 x364, hu => hd 10 [8, 10] hu fun m hm => (loopK_at hm).trans ((codeK_seq (by kernel_rfl)).trans (by kernel_rfl))
  | .Q10 x112 x113 x114 x115 x116 x117 x118 x119 x120 x121 x122, _ => pl [2] (at_code rfl ((codeK_seq (by kernel_rfl)).trans ((codeK_block 3 (by kernel_rfl)).trans ((codeK_seq (by kernel_rfl)).trans (by kernel_rfl)))))
  | .E12 x426 x427 x428 x429 x430 x431 x432 x433, _ => pl [] (by kernel_rfl)
  | .L12 x416 x417 x418 x419 x420 x421 x422 x423 x424 x425, hu => hd 12 [12] hu fun m hm => (loopK_at hm).trans ((codeK_seq (by kernel_rfl)).trans (by kernel_rfl))
  | .Q31 x317 x318 x319 x320 x321 x322 x323 x324 x325 x326 x327 x328, _ => pl [8] (at_code rfl ((codeK_seq (by kernel_rfl)).trans ((codeK_block 9 (by kernel_rfl)).trans ((codeK_seq (by kernel_rfl)).trans (by kernel_rfl)))))
noncomputable def p83 (n : Nat) (a1 : Vl32 × (Vl33 × Vl34)) (b0 : (List Int) × Int) : Option (Vl35 × ((List Int) × Int)) := flow (s83 n) n (.F a1 b0)
theorem up83 {n m : Nat} (h : n ≤ m) (a1 : Vl32 × (Vl33 × Vl34)) (b0 : (List Int) × Int) : Up (p83 n a1 b0) (p83 m a1 b0) := flow_up (nat83 n) (us83 h) h _
noncomputable def E83 (n : Nat) : Entry := mkE 83 .move [.point, .tree TyO35] [(26, (.pair (.sh 3 I64) I64))] (fun a b => p83 n a.1 b.1) e83
theorem ok83 (n : Nat) : EntryOk prog (E83 n) := mkE_ok (Φ := Φ83 n) (ann := a83) (n := n) (F := f83) (by kernel_rfl) (by kernel_rfl) (by kernel_rfl) (known_prog (known_cons (ok21 n) (known_cons (ok24 n) (known_cons (ok26 n) (known_cons (ok74 n) (known_cons (ok77 n) (known_cons (ok134 n) known_nil))))))) mixed fun a b y h =>
  (show _ = M83 n (fun _ => n) (.F a.1 b.1) by kernel_rfl).trans (flow_sound (nat83 n) (h83 n) n _ _ y (Nat.le_refl _) (fun _ => Nat.le_refl _) h)
end Go.Am
