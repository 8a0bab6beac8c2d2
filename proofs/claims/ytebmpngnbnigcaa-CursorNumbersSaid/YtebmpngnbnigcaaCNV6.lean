/- CursorNumbers: some tapes of the closed sentence, run by the kernel. -/
import Derived.Test.YtebmpngnbnigcaaG20
namespace Go.Am
theorem cn_st30 : flowTo (s5 1000000) (fun | .L0 _ => true | _ => false) 100000 (.L0 30) = some (.inl (.L0 31)) := by kernel_rfl
theorem cn_st31 : flowTo (s5 1000000) (fun | .L0 _ => true | _ => false) 100000 (.L0 31) = some (.inl (.L0 32)) := by kernel_rfl
theorem cn_st32 : flowTo (s5 1000000) (fun | .L0 _ => true | _ => false) 100000 (.L0 32) = some (.inl (.L0 33)) := by kernel_rfl
theorem cn_st33 : flowTo (s5 1000000) (fun | .L0 _ => true | _ => false) 100000 (.L0 33) = some (.inl (.L0 34)) := by kernel_rfl
theorem cn_st34 : flowTo (s5 1000000) (fun | .L0 _ => true | _ => false) 100000 (.L0 34) = some (.inl (.L0 35)) := by kernel_rfl
end Go.Am
