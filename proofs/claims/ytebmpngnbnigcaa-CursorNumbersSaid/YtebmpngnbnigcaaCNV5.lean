/- CursorNumbers: some tapes of the closed sentence, run by the kernel. -/
import Derived.Test.YtebmpngnbnigcaaG20
namespace Go.Am
theorem cn_st25 : flowTo (s5 1000000) (fun | .L0 _ => true | _ => false) 100000 (.L0 25) = some (.inl (.L0 26)) := by kernel_rfl
theorem cn_st26 : flowTo (s5 1000000) (fun | .L0 _ => true | _ => false) 100000 (.L0 26) = some (.inl (.L0 27)) := by kernel_rfl
theorem cn_st27 : flowTo (s5 1000000) (fun | .L0 _ => true | _ => false) 100000 (.L0 27) = some (.inl (.L0 28)) := by kernel_rfl
theorem cn_st28 : flowTo (s5 1000000) (fun | .L0 _ => true | _ => false) 100000 (.L0 28) = some (.inl (.L0 29)) := by kernel_rfl
theorem cn_st29 : flowTo (s5 1000000) (fun | .L0 _ => true | _ => false) 100000 (.L0 29) = some (.inl (.L0 30)) := by kernel_rfl
end Go.Am
