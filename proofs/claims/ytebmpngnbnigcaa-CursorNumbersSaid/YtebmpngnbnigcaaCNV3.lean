/- CursorNumbers: some tapes of the closed sentence, run by the kernel. -/
import Derived.Test.YtebmpngnbnigcaaG20
namespace Go.Am
theorem cn_st15 : flowTo (s5 1000000) (fun | .L0 _ => true | _ => false) 100000 (.L0 15) = some (.inl (.L0 16)) := by kernel_rfl
theorem cn_st16 : flowTo (s5 1000000) (fun | .L0 _ => true | _ => false) 100000 (.L0 16) = some (.inl (.L0 17)) := by kernel_rfl
theorem cn_st17 : flowTo (s5 1000000) (fun | .L0 _ => true | _ => false) 100000 (.L0 17) = some (.inl (.L0 18)) := by kernel_rfl
theorem cn_st18 : flowTo (s5 1000000) (fun | .L0 _ => true | _ => false) 100000 (.L0 18) = some (.inl (.L0 19)) := by kernel_rfl
theorem cn_st19 : flowTo (s5 1000000) (fun | .L0 _ => true | _ => false) 100000 (.L0 19) = some (.inl (.L0 20)) := by kernel_rfl
end Go.Am
