/- Law 9, the closed sentence: five tapes, run by the kernel. -/
import Derived.Test.YtebmpngnbnigcaaB6
import Derived.Test.YtebmpngnbnigcaaMD
namespace Go.Am
theorem st10 : flowTo (s3 1000000) (fun | .L0 _ => true | _ => false) 100000 (.L0 10) = some (.inl (.L0 11)) := by kernel_rfl
theorem st11 : flowTo (s3 1000000) (fun | .L0 _ => true | _ => false) 100000 (.L0 11) = some (.inl (.L0 12)) := by kernel_rfl
theorem st12 : flowTo (s3 1000000) (fun | .L0 _ => true | _ => false) 100000 (.L0 12) = some (.inl (.L0 13)) := by kernel_rfl
theorem st13 : flowTo (s3 1000000) (fun | .L0 _ => true | _ => false) 100000 (.L0 13) = some (.inl (.L0 14)) := by kernel_rfl
theorem st14 : flowTo (s3 1000000) (fun | .L0 _ => true | _ => false) 100000 (.L0 14) = some (.inl (.L0 15)) := by kernel_rfl
end Go.Am
