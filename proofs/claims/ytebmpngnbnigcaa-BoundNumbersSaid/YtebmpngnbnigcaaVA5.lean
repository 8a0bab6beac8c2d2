/- Law 9, the closed sentence: five tapes, run by the kernel. -/
import Derived.Test.YtebmpngnbnigcaaB6
import Derived.Test.YtebmpngnbnigcaaMD
namespace Go.Am
theorem st25 : flowTo (s3 1000000) (fun | .L0 _ => true | _ => false) 100000 (.L0 25) = some (.inl (.L0 26)) := by kernel_rfl
theorem st26 : flowTo (s3 1000000) (fun | .L0 _ => true | _ => false) 100000 (.L0 26) = some (.inl (.L0 27)) := by kernel_rfl
theorem st27 : flowTo (s3 1000000) (fun | .L0 _ => true | _ => false) 100000 (.L0 27) = some (.inl (.L0 28)) := by kernel_rfl
theorem st28 : flowTo (s3 1000000) (fun | .L0 _ => true | _ => false) 100000 (.L0 28) = some (.inl (.L0 29)) := by kernel_rfl
theorem st29 : flowTo (s3 1000000) (fun | .L0 _ => true | _ => false) 100000 (.L0 29) = some (.inl (.L0 30)) := by kernel_rfl
end Go.Am
