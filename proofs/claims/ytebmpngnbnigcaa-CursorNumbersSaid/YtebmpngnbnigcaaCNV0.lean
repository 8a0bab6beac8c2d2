/- CursorNumbers: some tapes of the closed sentence, run by the kernel. -/
import Derived.Test.YtebmpngnbnigcaaG20
namespace Go.Am
theorem cn_st0 : flowTo (s5 1000000) (fun | .L0 _ => true | _ => false) 100000 (.L0 0) = some (.inl (.L0 1)) := by kernel_rfl
theorem cn_st1 : flowTo (s5 1000000) (fun | .L0 _ => true | _ => false) 100000 (.L0 1) = some (.inl (.L0 2)) := by kernel_rfl
theorem cn_st2 : flowTo (s5 1000000) (fun | .L0 _ => true | _ => false) 100000 (.L0 2) = some (.inl (.L0 3)) := by kernel_rfl
theorem cn_st3 : flowTo (s5 1000000) (fun | .L0 _ => true | _ => false) 100000 (.L0 3) = some (.inl (.L0 4)) := by kernel_rfl
theorem cn_st4 : flowTo (s5 1000000) (fun | .L0 _ => true | _ => false) 100000 (.L0 4) = some (.inl (.L0 5)) := by kernel_rfl
end Go.Am
