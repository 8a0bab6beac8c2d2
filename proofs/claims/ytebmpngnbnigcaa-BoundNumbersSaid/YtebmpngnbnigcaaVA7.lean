/- Law 9, the closed sentence: five tapes, run by the kernel. -/
import Derived.Test.YtebmpngnbnigcaaB6
import Derived.Test.YtebmpngnbnigcaaMD
namespace Go.Am
theorem st35 : flowTo (s3 1000000) (fun | .L0 _ => true | _ => false) 100000 (.L0 35) = some (.inl (.L0 36)) := by kernel_rfl
theorem st36 : flowTo (s3 1000000) (fun | .L0 _ => true | _ => false) 100000 (.L0 36) = some (.inl (.L0 37)) := by kernel_rfl
theorem st37 : flowTo (s3 1000000) (fun | .L0 _ => true | _ => false) 100000 (.L0 37) = some (.inl (.L0 38)) := by kernel_rfl
theorem st38 : flowTo (s3 1000000) (fun | .L0 _ => true | _ => false) 100000 (.L0 38) = some (.inl (.L0 39)) := by kernel_rfl
theorem st39 : flowTo (s3 1000000) (fun | .L0 _ => true | _ => false) 100000 (.L0 39) = some (.inl (.L0 40)) := by kernel_rfl
end Go.Am
