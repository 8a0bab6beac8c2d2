/- Law 9, the closed sentence: five tapes, run by the kernel. -/
import Derived.Test.YtebmpngnbnigcaaB6
import Derived.Test.YtebmpngnbnigcaaMD
namespace Go.Am
theorem st20 : flowTo (s3 1000000) (fun | .L0 _ => true | _ => false) 100000 (.L0 20) = some (.inl (.L0 21)) := by kernel_rfl
theorem st21 : flowTo (s3 1000000) (fun | .L0 _ => true | _ => false) 100000 (.L0 21) = some (.inl (.L0 22)) := by kernel_rfl
theorem st22 : flowTo (s3 1000000) (fun | .L0 _ => true | _ => false) 100000 (.L0 22) = some (.inl (.L0 23)) := by kernel_rfl
theorem st23 : flowTo (s3 1000000) (fun | .L0 _ => true | _ => false) 100000 (.L0 23) = some (.inl (.L0 24)) := by kernel_rfl
theorem st24 : flowTo (s3 1000000) (fun | .L0 _ => true | _ => false) 100000 (.L0 24) = some (.inl (.L0 25)) := by kernel_rfl
end Go.Am
