/- CursorNumbers: from tape to tape. -/
import Derived.Test.YtebmpngnbnigcaaCNV0
import Derived.Test.YtebmpngnbnigcaaCNV1
import Derived.Test.YtebmpngnbnigcaaCNV2
import Derived.Test.YtebmpngnbnigcaaCNV3
import Derived.Test.YtebmpngnbnigcaaCNV4
import Derived.Test.YtebmpngnbnigcaaCNV5
import Derived.Test.YtebmpngnbnigcaaCNV6
import Derived.Test.YtebmpngnbnigcaaCNV7
set_option linter.unusedVariables false
namespace Go.Am
theorem cn_tapes : EvL s5 (.L0 0) (.L0 40) :=
  (EvL.run nat5 us5 cn_st0).trans <|
  (EvL.run nat5 us5 cn_st1).trans <|
  (EvL.run nat5 us5 cn_st2).trans <|
  (EvL.run nat5 us5 cn_st3).trans <|
  (EvL.run nat5 us5 cn_st4).trans <|
  (EvL.run nat5 us5 cn_st5).trans <|
  (EvL.run nat5 us5 cn_st6).trans <|
  (EvL.run nat5 us5 cn_st7).trans <|
  (EvL.run nat5 us5 cn_st8).trans <|
  (EvL.run nat5 us5 cn_st9).trans <|
  (EvL.run nat5 us5 cn_st10).trans <|
  (EvL.run nat5 us5 cn_st11).trans <|
  (EvL.run nat5 us5 cn_st12).trans <|
  (EvL.run nat5 us5 cn_st13).trans <|
  (EvL.run nat5 us5 cn_st14).trans <|
  (EvL.run nat5 us5 cn_st15).trans <|
  (EvL.run nat5 us5 cn_st16).trans <|
  (EvL.run nat5 us5 cn_st17).trans <|
  (EvL.run nat5 us5 cn_st18).trans <|
  (EvL.run nat5 us5 cn_st19).trans <|
  (EvL.run nat5 us5 cn_st20).trans <|
  (EvL.run nat5 us5 cn_st21).trans <|
  (EvL.run nat5 us5 cn_st22).trans <|
  (EvL.run nat5 us5 cn_st23).trans <|
  (EvL.run nat5 us5 cn_st24).trans <|
  (EvL.run nat5 us5 cn_st25).trans <|
  (EvL.run nat5 us5 cn_st26).trans <|
  (EvL.run nat5 us5 cn_st27).trans <|
  (EvL.run nat5 us5 cn_st28).trans <|
  (EvL.run nat5 us5 cn_st29).trans <|
  (EvL.run nat5 us5 cn_st30).trans <|
  (EvL.run nat5 us5 cn_st31).trans <|
  (EvL.run nat5 us5 cn_st32).trans <|
  (EvL.run nat5 us5 cn_st33).trans <|
  (EvL.run nat5 us5 cn_st34).trans <|
  (EvL.run nat5 us5 cn_st35).trans <|
  (EvL.run nat5 us5 cn_st36).trans <|
  (EvL.run nat5 us5 cn_st37).trans <|
  (EvL.run nat5 us5 cn_st38).trans <|
  (EvL.run nat5 us5 cn_st39)
end Go.Am
