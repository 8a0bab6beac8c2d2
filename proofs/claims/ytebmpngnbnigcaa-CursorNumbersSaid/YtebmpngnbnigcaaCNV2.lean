/- CursorNumbers: some tapes of the closed sentence, run by the kernel. -/
import Derived.Test.YtebmpngnbnigcaaG20
namespace Go.Am
theorem cn_st10 : flowTo (s5 1000000) (fun | .L0 _ => true | _ => false) 100000 (.L0 10) = some (.inl (.L0 11)) := by kernel_rfl
theorem cn_st11 : flowTo (s5 1000000) (fun | .L0 _ => true | _ => false) 100000 (.L0 11) = some (.inl (.L0 12)) := by kernel_rfl
theorem cn_st12 : flowTo (s5 1000000) (fun | .L0 _ => true | _ => false) 100000 (.L0 12) = some (.inl (.L0 13)) := by kernel_rfl
theorem cn_st13 : flowTo (s5 1000000) (fun | .L0 _ => true | _ => false) 100000 (.L0 13) = some (.inl (.L0 14)) := by kernel_rfl
theorem cn_st14 : flowTo (s5 1000000) (fun | .L0 _ => true | _ => false) 100000 (.L0 14) = some (.inl (.L0 15)) := by kernel_rfl
end Go.Am
