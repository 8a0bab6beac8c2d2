/- CursorNumbers: some tapes of the closed sentence, run by the kernel. -/
import Derived.Test.YtebmpngnbnigcaaG20
namespace Go.Am
theorem cn_st35 : flowTo (s5 1000000) (fun | .L0 _ => true | _ => false) 100000 (.L0 35) = some (.inl (.L0 36)) := by kernel_rfl
theorem cn_st36 : flowTo (s5 1000000) (fun | .L0 _ => true | _ => false) 100000 (.L0 36) = some (.inl (.L0 37)) := by kernel_rfl
theorem cn_st37 : flowTo (s5 1000000) (fun | .L0 _ => true | _ => false) 100000 (.L0 37) = some (.inl (.L0 38)) := by kernel_rfl
theorem cn_st38 : flowTo (s5 1000000) (fun | .L0 _ => true | _ => false) 100000 (.L0 38) = some (.inl (.L0 39)) := by kernel_rfl
theorem cn_st39 : flowTo (s5 1000000) (fun | .L0 _ => true | _ => false) 100000 (.L0 39) = some (.inl (.L0 40)) := by kernel_rfl
end Go.Am
