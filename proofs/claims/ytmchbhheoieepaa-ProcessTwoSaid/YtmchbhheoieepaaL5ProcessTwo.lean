/- The law ProcessTwo: its pure function answers true, whatever it is called with; so does the machine's function. No condition. Own work. -/
import Derived.Test.YtmchbhheoieepaaL0ProcessTwo
import Derived.KernelRfl
set_option linter.unusedSimpArgs false
set_option linter.unusedVariables false
namespace Go.Proofs.Ytmchbhheoieepaa
open Go Go.Am
theorem rz:two 10 0=true:=by kernel_rfl
theorem sf:two 10 1=true:=by kernel_rfl
theorem sG:two 10 2=true:=by kernel_rfl
theorem sa:two 10 3=true:=by kernel_rfl
theorem r8:two 10 4=true:=by kernel_rfl
theorem sm:two 10 5=true:=by kernel_rfl
theorem rV:two 10 6=true:=by kernel_rfl
theorem tC:two 10 7=true:=by kernel_rfl
theorem sJ:two 10 8=true:=by kernel_rfl
theorem BC {b:Int} (h0:0≤b) (h1:b < 9):two 10 b=true:=by
 have:b=0∨b=1∨b=2∨b=3∨b=4∨b=5∨b=6∨b=7∨b=8:=by omega
 rcases this with rfl | rfl | rfl | rfl | rfl | rfl | rfl | rfl | rfl
 ·exact rz
 ·exact sf
 ·exact sG
 ·exact sa
 ·exact r8
 ·exact sm
 ·exact rV
 ·exact tC
 exact sJ
theorem yd:two 8 0=true:=by kernel_rfl
theorem yb:two 8 1=true:=by kernel_rfl
theorem zK:two 8 2=true:=by kernel_rfl
theorem wN:two 8 3=true:=by kernel_rfl
theorem yv:two 8 4=true:=by kernel_rfl
theorem zD:two 8 5=true:=by kernel_rfl
theorem vg:two 8 6=true:=by kernel_rfl
theorem zH:two 8 7=true:=by kernel_rfl
theorem wa:two 8 8=true:=by kernel_rfl
theorem Dk {b:Int} (h0:0≤b) (h1:b < 9):two 8 b=true:=by
 have:b=0∨b=1∨b=2∨b=3∨b=4∨b=5∨b=6∨b=7∨b=8:=by omega
 rcases this with rfl | rfl | rfl | rfl | rfl | rfl | rfl | rfl | rfl
 ·exact yd
 ·exact yb
 ·exact zK
 ·exact wN
 ·exact yv
 ·exact zD
 ·exact vg
 ·exact zH
 exact wa
theorem zw:two 4 0=true:=by kernel_rfl
theorem wF:two 4 1=true:=by kernel_rfl
theorem xb:two 4 2=true:=by kernel_rfl
theorem vI:two 4 3=true:=by kernel_rfl
theorem yq:two 4 4=true:=by kernel_rfl
theorem xi:two 4 5=true:=by kernel_rfl
theorem xj:two 4 6=true:=by kernel_rfl
theorem wT:two 4 7=true:=by kernel_rfl
theorem vK:two 4 8=true:=by kernel_rfl
theorem CP {b:Int} (h0:0≤b) (h1:b < 9):two 4 b=true:=by
 have:b=0∨b=1∨b=2∨b=3∨b=4∨b=5∨b=6∨b=7∨b=8:=by omega
 rcases this with rfl | rfl | rfl | rfl | rfl | rfl | rfl | rfl | rfl
 ·exact zw
 ·exact wF
 ·exact xb
 ·exact vI
 ·exact yq
 ·exact xi
 ·exact xj
 ·exact wT
 exact vK
end Go.Proofs.Ytmchbhheoieepaa
