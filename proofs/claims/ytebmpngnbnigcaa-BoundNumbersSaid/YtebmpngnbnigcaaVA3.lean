/- Law 9, the closed sentence: five tapes, run by the kernel. -/
import Derived.Test.YtebmpngnbnigcaaB6
import Derived.Test.YtebmpngnbnigcaaMD
namespace Go.Am
theorem st15 : flowTo (s3 1000000) (fun | .L0 _ => true | _ => false) 100000 (.L0 15) = some (.inl (.L0 16)) := by kernel_rfl
theorem st16 : flowTo (s3 1000000) (fun | .L0 _ => true | _ => false) 100000 (.L0 16) = some (.inl (.L0 17)) := by kernel_rfl
theorem st17 : flowTo (s3 1000000) (fun | .L0 _ => true | _ => false) 100000 (.L0 17) = some (.inl (.L0 18)) := by kernel_rfl
theorem st18 : flowTo (s3 1000000) (fun | .L0 _ => true | _ => false) 100000 (.L0 18) = some (.inl (.L0 19)) := by kernel_rfl
theorem st19 : flowTo (s3 1000000) (fun | .L0 _ => true | _ => false) 100000 (.L0 19) = some (.inl (.L0 20)) := by kernel_rfl
end Go.Am
