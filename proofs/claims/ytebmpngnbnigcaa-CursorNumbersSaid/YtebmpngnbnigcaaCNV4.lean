/- CursorNumbers: some tapes of the closed sentence, run by the kernel. -/
import Derived.Test.YtebmpngnbnigcaaG20
namespace Go.Am
theorem cn_st20 : flowTo (s5 1000000) (fun | .L0 _ => true | _ => false) 100000 (.L0 20) = some (.inl (.L0 21)) := by kernel_rfl
theorem cn_st21 : flowTo (s5 1000000) (fun | .L0 _ => true | _ => false) 100000 (.L0 21) = some (.inl (.L0 22)) := by kernel_rfl
theorem cn_st22 : flowTo (s5 1000000) (fun | .L0 _ => true | _ => false) 100000 (.L0 22) = some (.inl (.L0 23)) := by kernel_rfl
theorem cn_st23 : flowTo (s5 1000000) (fun | .L0 _ => true | _ => false) 100000 (.L0 23) = some (.inl (.L0 24)) := by kernel_rfl
theorem cn_st24 : flowTo (s5 1000000) (fun | .L0 _ => true | _ => false) 100000 (.L0 24) = some (.inl (.L0 25)) := by kernel_rfl
end Go.Am
