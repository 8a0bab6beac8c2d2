/- Law 9, the closed sentence: five tapes, run by the kernel. -/
import Derived.Test.YtebmpngnbnigcaaB6
import Derived.Test.YtebmpngnbnigcaaMD
namespace Go.Am
theorem st0 : flowTo (s3 1000000) (fun | .L0 _ => true | _ => false) 100000 (.L0 0) = some (.inl (.L0 1)) := by kernel_rfl
theorem st1 : flowTo (s3 1000000) (fun | .L0 _ => true | _ => false) 100000 (.L0 1) = some (.inl (.L0 2)) := by kernel_rfl
theorem st2 : flowTo (s3 1000000) (fun | .L0 _ => true | _ => false) 100000 (.L0 2) = some (.inl (.L0 3)) := by kernel_rfl
theorem st3 : flowTo (s3 1000000) (fun | .L0 _ => true | _ => false) 100000 (.L0 3) = some (.inl (.L0 4)) := by kernel_rfl
theorem st4 : flowTo (s3 1000000) (fun | .L0 _ => true | _ => false) 100000 (.L0 4) = some (.inl (.L0 5)) := by kernel_rfl
end Go.Am
