/- Law 9, the closed sentence: five tapes, run by the kernel. -/
import Derived.Test.YtebmpngnbnigcaaB6
import Derived.Test.YtebmpngnbnigcaaMD
namespace Go.Am
theorem st30 : flowTo (s3 1000000) (fun | .L0 _ => true | _ => false) 100000 (.L0 30) = some (.inl (.L0 31)) := by kernel_rfl
theorem st31 : flowTo (s3 1000000) (fun | .L0 _ => true | _ => false) 100000 (.L0 31) = some (.inl (.L0 32)) := by kernel_rfl
theorem st32 : flowTo (s3 1000000) (fun | .L0 _ => true | _ => false) 100000 (.L0 32) = some (.inl (.L0 33)) := by kernel_rfl
theorem st33 : flowTo (s3 1000000) (fun | .L0 _ => true | _ => false) 100000 (.L0 33) = some (.inl (.L0 34)) := by kernel_rfl
theorem st34 : flowTo (s3 1000000) (fun | .L0 _ => true | _ => false) 100000 (.L0 34) = some (.inl (.L0 35)) := by kernel_rfl
end Go.Am
