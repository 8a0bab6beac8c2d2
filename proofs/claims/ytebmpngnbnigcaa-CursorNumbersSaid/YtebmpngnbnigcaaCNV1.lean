/- CursorNumbers: some tapes of the closed sentence, run by the kernel. -/
import Derived.Test.YtebmpngnbnigcaaG20
namespace Go.Am
theorem cn_st5 : flowTo (s5 1000000) (fun | .L0 _ => true | _ => false) 100000 (.L0 5) = some (.inl (.L0 6)) := by kernel_rfl
theorem cn_st6 : flowTo (s5 1000000) (fun | .L0 _ => true | _ => false) 100000 (.L0 6) = some (.inl (.L0 7)) := by kernel_rfl
theorem cn_st7 : flowTo (s5 1000000) (fun | .L0 _ => true | _ => false) 100000 (.L0 7) = some (.inl (.L0 8)) := by kernel_rfl
theorem cn_st8 : flowTo (s5 1000000) (fun | .L0 _ => true | _ => false) 100000 (.L0 8) = some (.inl (.L0 9)) := by kernel_rfl
theorem cn_st9 : flowTo (s5 1000000) (fun | .L0 _ => true | _ => false) 100000 (.L0 9) = some (.inl (.L0 10)) := by kernel_rfl
end Go.Am
