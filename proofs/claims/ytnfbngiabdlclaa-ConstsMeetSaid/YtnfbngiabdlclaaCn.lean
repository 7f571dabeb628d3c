/- Plain: the constants' sums stand in order, by reckoning. -/
import Derived.Test.YtnfbngiabdlclaaCo
namespace Go.Proofs.Ytnfbngiabdlclaa
namespace Co
set_option maxRecDepth 1000000
theorem ln_all : allB lnOK 901 = true := by kernel_rfl
theorem at5_all : allB (atOK 5) 901 = true := by kernel_rfl
theorem at239_all : allB (atOK 239) 901 = true := by kernel_rfl
end Co
end Go.Proofs.Ytnfbngiabdlclaa
