/- The law ProcessTwo: its pure function answers true, whatever it is called with; so does the machine's function. No condition. Own work. -/
import Derived.Test.YtmchbhheoieepaaL0ProcessTwo
import Derived.KernelRfl
set_option linter.unusedSimpArgs false
set_option linter.unusedVariables false
namespace Go.Proofs.Ytmchbhheoieepaa
open Go Go.Am
theorem tw:two 11 0=true:=by kernel_rfl
theorem tG:two 11 1=true:=by kernel_rfl
theorem sU:two 11 2=true:=by kernel_rfl
theorem sD:two 11 3=true:=by kernel_rfl
theorem tl:two 11 4=true:=by kernel_rfl
theorem sC:two 11 5=true:=by kernel_rfl
theorem th:two 11 6=true:=by kernel_rfl
theorem rK:two 11 7=true:=by kernel_rfl
theorem tV:two 11 8=true:=by kernel_rfl
theorem zX {b:Int} (h0:0≤b) (h1:b < 9):two 11 b=true:=by
 have:b=0∨b=1∨b=2∨b=3∨b=4∨b=5∨b=6∨b=7∨b=8:=by omega
 rcases this with rfl | rfl | rfl | rfl | rfl | rfl | rfl | rfl | rfl
 ·exact tw
 ·exact tG
 ·exact sU
 ·exact sD
 ·exact tl
 ·exact sC
 ·exact th
 ·exact rK
 exact tV
theorem vv:two 9 0=true:=by kernel_rfl
theorem wI:two 9 1=true:=by kernel_rfl
theorem xW:two 9 2=true:=by kernel_rfl
theorem zx:two 9 3=true:=by kernel_rfl
theorem yT:two 9 4=true:=by kernel_rfl
theorem v9:two 9 5=true:=by kernel_rfl
theorem vP:two 9 6=true:=by kernel_rfl
theorem uK:two 9 7=true:=by kernel_rfl
theorem yA:two 9 8=true:=by kernel_rfl
theorem Da {b:Int} (h0:0≤b) (h1:b < 9):two 9 b=true:=by
 have:b=0∨b=1∨b=2∨b=3∨b=4∨b=5∨b=6∨b=7∨b=8:=by omega
 rcases this with rfl | rfl | rfl | rfl | rfl | rfl | rfl | rfl | rfl
 ·exact vv
 ·exact wI
 ·exact xW
 ·exact zx
 ·exact yT
 ·exact v9
 ·exact vP
 ·exact uK
 exact yA
theorem yL:two 0 0=true:=by kernel_rfl
theorem vf:two 0 1=true:=by kernel_rfl
theorem yp:two 0 2=true:=by kernel_rfl
theorem yQ:two 0 3=true:=by kernel_rfl
theorem xl:two 0 4=true:=by kernel_rfl
theorem xH:two 0 5=true:=by kernel_rfl
theorem ya:two 0 6=true:=by kernel_rfl
theorem wJ:two 0 7=true:=by kernel_rfl
theorem ym:two 0 8=true:=by kernel_rfl
theorem Dp {b:Int} (h0:0≤b) (h1:b < 9):two 0 b=true:=by
 have:b=0∨b=1∨b=2∨b=3∨b=4∨b=5∨b=6∨b=7∨b=8:=by omega
 rcases this with rfl | rfl | rfl | rfl | rfl | rfl | rfl | rfl | rfl
 ·exact yL
 ·exact vf
 ·exact yp
 ·exact yQ
 ·exact xl
 ·exact xH
 ·exact ya
 ·exact wJ
 exact ym
end Go.Proofs.Ytmchbhheoieepaa
