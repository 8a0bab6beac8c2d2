/- Law 9, the closed sentence: five tapes, run by the kernel. -/
import Derived.Test.YtebmpngnbnigcaaB6
import Derived.Test.YtebmpngnbnigcaaMD
namespace Go.Am
theorem st5 : flowTo (s3 1000000) (fun | .L0 _ => true | _ => false) 100000 (.L0 5) = some (.inl (.L0 6)) := by kernel_rfl
theorem st6 : flowTo (s3 1000000) (fun | .L0 _ => true | _ => false) 100000 (.L0 6) = some (.inl (.L0 7)) := by kernel_rfl
theorem st7 : flowTo (s3 1000000) (fun | .L0 _ => true | _ => false) 100000 (.L0 7) = some (.inl (.L0 8)) := by kernel_rfl
theorem st8 : flowTo (s3 1000000) (fun | .L0 _ => true | _ => false) 100000 (.L0 8) = some (.inl (.L0 9)) := by kernel_rfl
theorem st9 : flowTo (s3 1000000) (fun | .L0 _ => true | _ => false) 100000 (.L0 9) = some (.inl (.L0 10)) := by kernel_rfl
end Go.Am
