/- Types of the program, as the machine wants them. Printed by wip/tools/genv.py. -/
import Derived.Test.YtebmpngnbnigcaaMD
import Derived.Test.YtebmpngnbnigcaaProg

import Derived.KernelRfl
namespace Go.Am
def Γ : Env := [(2, { ty := (.int .i64), bytes := 8 }),
  (3, { ty := (.int .i64), bytes := 8 }),
  (4, { ty := .bool, bytes := 1 }),
  (5, { ty := (.int .u8), bytes := 1 }),
  (9, { ty := .str, bytes := 16 }),
  (21, { ty := (.int .i32), bytes := 4 }),
  (22, { ty := .hole }),
  (23, { ty := (.ow 3 (.int .i64)), elem := 3, bytes := 8 }),
  (26, { ty := (.pair (.ow 3 (.int .i64)) (.int .i64)), nf := 2, bytes := 32 }),
  (27, { ty := (.ow 44 (.pair (.int .i64) (.int .i64))), elem := 44, bytes := 16 }),
  (32, { ty := (.ow 52 (.pair .str (.pair (.int .i64) (.pair (.int .i64) (.pair .bool (.pair .bool (.pair (.ow 106 (.pair (.int .i64) (.int .i64))) (.arr 5 (.int .i64))))))))), elem := 52, bytes := 104 }),
  (33, { ty := (.ow 48 (.pair (.int .i64) (.pair (.int .i64) (.pair .bool (.pair (.int .i64) (.pair (.int .u32) (.int .i64))))))), elem := 48, bytes := 48 }),
  (34, { ty := (.ow 38 (.ow 57 (.pair (.int .i64) (.pair (.int .i64) (.int .i64))))), elem := 38, bytes := 24 }),
  (36, { ty := (.pair (.ow 52 (.pair .str (.pair (.int .i64) (.pair (.int .i64) (.pair .bool (.pair .bool (.pair (.ow 106 (.pair (.int .i64) (.int .i64))) (.arr 5 (.int .i64))))))))) (.pair (.ow 48 (.pair (.int .i64) (.pair (.int .i64) (.pair .bool (.pair (.int .i64) (.pair (.int .u32) (.int .i64))))))) (.ow 38 (.ow 57 (.pair (.int .i64) (.pair (.int .i64) (.int .i64))))))), nf := 3, bytes := 72 }),
  (38, { ty := (.ow 57 (.pair (.int .i64) (.pair (.int .i64) (.int .i64)))), elem := 57, bytes := 24 }),
  (39, { ty := (.int .i64), bytes := 8 }),
  (44, { ty := (.pair (.int .i64) (.int .i64)), nf := 2, bytes := 16, eq := true }),
  (46, { ty := (.int .u32), bytes := 4 }),
  (48, { ty := (.pair (.int .i64) (.pair (.int .i64) (.pair .bool (.pair (.int .i64) (.pair (.int .u32) (.int .i64)))))), nf := 6, bytes := 48, eq := true }),
  (49, { ty := (.ow 106 (.pair (.int .i64) (.int .i64))), elem := 106, bytes := 16 }),
  (50, { ty := (.arr 5 (.int .i64)), elem := 3, bytes := 40 }),
  (52, { ty := (.pair .str (.pair (.int .i64) (.pair (.int .i64) (.pair .bool (.pair .bool (.pair (.ow 106 (.pair (.int .i64) (.int .i64))) (.arr 5 (.int .i64)))))))), nf := 7, bytes := 104 }),
  (57, { ty := (.pair (.int .i64) (.pair (.int .i64) (.int .i64))), nf := 3, bytes := 24, eq := true }),
  (66, { ty := .hole }),
  (77, { ty := (.pair (.int .i64) (.pair (.int .i64) .bool)), nf := 3, bytes := 24, eq := true }),
  (80, { ty := (.ow 90 (.ow 4 .bool)), elem := 90, bytes := 24 }),
  (82, { ty := (.ow 77 (.pair (.int .i64) (.pair (.int .i64) .bool))), elem := 77, bytes := 24 }),
  (90, { ty := (.ow 4 .bool), elem := 4, bytes := 1 }),
  (96, { ty := (.ow 2 (.int .i64)), elem := 2, bytes := 8 }),
  (98, { ty := (.ow 9 .str), elem := 9, bytes := 16 }),
  (103, { ty := (.ow 5 (.int .u8)), elem := 5, bytes := 1 }),
  (106, { ty := (.pair (.int .i64) (.int .i64)), nf := 2, bytes := 16, eq := true }),
  (112, { ty := (.ow 115 (.pair (.int .i64) (.int .i64))), elem := 115, bytes := 16 }),
  (115, { ty := (.pair (.int .i64) (.int .i64)), nf := 2, bytes := 16 }),
  (117, { ty := (.ow 46 (.int .u32)), elem := 46, bytes := 4 }),
  (122, { ty := (.ow 166 (.pair (.int .i64) (.int .i64))), elem := 166, bytes := 16 }),
  (124, { ty := (.pair (.ow 57 (.pair (.int .i64) (.pair (.int .i64) (.int .i64)))) (.pair (.ow 166 (.pair (.int .i64) (.int .i64))) (.pair (.int .i64) (.pair (.int .i64) (.int .i64))))), nf := 5, bytes := 72 }),
  (127, { ty := (.ow 130 (.pair (.int .i64) (.pair (.int .i64) .bool))), elem := 130, bytes := 24 }),
  (130, { ty := (.pair (.int .i64) (.pair (.int .i64) .bool)), nf := 3, bytes := 24, eq := true }),
  (159, { ty := (.ow 27 (.ow 44 (.pair (.int .i64) (.int .i64)))), elem := 27, bytes := 24 }),
  (166, { ty := (.pair (.int .i64) (.int .i64)), nf := 2, bytes := 16 }),
  (173, { ty := (.int .u64), bytes := 8 }),
  (185, { ty := (.pair (.pair (.int .i64) (.pair (.int .i64) (.int .i64))) (.pair (.int .i64) (.pair (.int .i64) (.int .i64)))), nf := 4, bytes := 48 }),
  (186, { ty := (.ow 185 (.pair (.pair (.int .i64) (.pair (.int .i64) (.int .i64))) (.pair (.int .i64) (.pair (.int .i64) (.int .i64))))), elem := 185, bytes := 48 })]
abbrev Vl34 : Type := (List (List (Int × (Int × Int))))
abbrev Vl189 : Type := (Unit × (Unit × (Unit × List UInt8)))
abbrev TyS122 : Ty := (.sh 166 (.pair (.int .i64) (.int .i64)))
abbrev TyO122 : Ty := (.ow 166 (.pair (.int .i64) (.int .i64)))
abbrev TyS112 : Ty := (.sh 115 (.pair (.int .i64) (.int .i64)))
abbrev TyO112 : Ty := (.ow 115 (.pair (.int .i64) (.int .i64)))
abbrev TyS49 : Ty := (.sh 106 (.pair (.int .i64) (.int .i64)))
abbrev TyO49 : Ty := (.ow 106 (.pair (.int .i64) (.int .i64)))
abbrev Vl184 : Type := ((Int × (Int × Int)) × (Int × (Int × Int)))
abbrev Vl47 : Type := (Int × (Int × (Bool × (Int × (Int × Int)))))
abbrev TyO76 : Ty := (.pair (.int .i64) (.pair (.int .i64) .bool))
abbrev TyO189 : Ty := (.pair .hole (.pair .hole (.pair .hole .str)))
abbrev TyS159 : Ty := (.sh 27 (.sh 44 (.pair (.int .i64) (.int .i64))))
abbrev TyO159 : Ty := (.ow 27 (.ow 44 (.pair (.int .i64) (.int .i64))))
abbrev Vl186 : Type := (List Vl184)
abbrev TyO56 : Ty := (.pair (.int .i64) (.pair (.int .i64) (.int .i64)))
abbrev Vl33 : Type := (List Vl47)
abbrev TyS82 : Ty := (.sh 77 TyO76)
abbrev TyO82 : Ty := (.ow 77 TyO76)
abbrev TyS127 : Ty := (.sh 130 TyO76)
abbrev TyO127 : Ty := (.ow 130 TyO76)
abbrev TyS38 : Ty := (.sh 57 TyO56)
abbrev TyO38 : Ty := (.ow 57 TyO56)
abbrev TyO7 : Ty := (.pair (.int .i64) (.pair (.int .i64) (.pair .bool (.int .u8))))
abbrev TyS34 : Ty := (.sh 38 TyS38)
abbrev TyO34 : Ty := (.ow 38 TyO38)
abbrev Vl123 : Type := ((List (Int × (Int × Int))) × ((List (Int × Int)) × (Int × (Int × Int))))
abbrev Vl51 : Type := (List UInt8 × (Int × (Int × (Bool × (Bool × ((List (Int × Int)) × (List Int)))))))
abbrev Vl32 : Type := (List Vl51)
abbrev TyO47 : Ty := (.pair (.int .i64) (.pair (.int .i64) (.pair .bool (.pair (.int .i64) (.pair (.int .u32) (.int .i64))))))
abbrev TyO184 : Ty := (.pair TyO56 TyO56)
abbrev TyS33 : Ty := (.sh 48 TyO47)
abbrev TyO33 : Ty := (.ow 48 TyO47)
abbrev TyS186 : Ty := (.sh 185 TyO184)
abbrev TyO186 : Ty := (.ow 185 TyO184)
abbrev TyS51 : Ty := (.pair .str (.pair (.int .i64) (.pair (.int .i64) (.pair .bool (.pair .bool (.pair TyS49 (.arr 5 (.int .i64))))))))
abbrev TyO51 : Ty := (.pair .str (.pair (.int .i64) (.pair (.int .i64) (.pair .bool (.pair .bool (.pair TyO49 (.arr 5 (.int .i64))))))))
abbrev TyS32 : Ty := (.sh 52 TyS51)
abbrev TyO32 : Ty := (.ow 52 TyO51)
abbrev TyS123 : Ty := (.pair TyS38 (.pair TyS122 TyO56))
abbrev TyO123 : Ty := (.pair TyO38 (.pair TyO122 TyO56))
abbrev Vl35 : Type := (Vl32 × (Vl33 × Vl34))
abbrev TyS35 : Ty := (.pair TyS32 (.pair TyS33 TyS34))
abbrev TyO35 : Ty := (.pair TyO32 (.pair TyO33 TyO34))
theorem tys : tysOk Go.Proofs.Try.prog Γ = true := by kernel_rfl
theorem mixed : Go.Proofs.Try.prog.follows .mixedOrders = true := by kernel_rfl
theorem known_prog {l : List Entry} (h : ∀ e ∈ l, EntryOk Go.Proofs.Try.prog e) : Known Go.Proofs.Try.prog Γ (Prog.of l) := Known.of tys (eqs_of (by kernel_rfl)) h
end Go.Am
