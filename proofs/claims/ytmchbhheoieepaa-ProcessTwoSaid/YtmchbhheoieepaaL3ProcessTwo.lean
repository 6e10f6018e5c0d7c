/- The law ProcessTwo: its pure function answers true, whatever it is called with; so does the machine's function. No condition. Own work. -/
import Derived.Test.YtmchbhheoieepaaL0ProcessTwo
import Derived.KernelRfl
set_option linter.unusedSimpArgs false
set_option linter.unusedVariables false
namespace Go.Proofs.Ytmchbhheoieepaa
open Go Go.Am
theorem tz:two 12 0=true:=by kernel_rfl
theorem td:two 12 1=true:=by kernel_rfl
theorem te:two 12 2=true:=by kernel_rfl
theorem sF:two 12 3=true:=by kernel_rfl
theorem sZ:two 12 4=true:=by kernel_rfl
theorem rR:two 12 5=true:=by kernel_rfl
theorem tv:two 12 6=true:=by kernel_rfl
theorem rY:two 12 7=true:=by kernel_rfl
theorem tD:two 12 8=true:=by kernel_rfl
theorem A6 {b:Int} (h0:0≤b) (h1:b < 9):two 12 b=true:=by
 have:b=0∨b=1∨b=2∨b=3∨b=4∨b=5∨b=6∨b=7∨b=8:=by omega
 rcases this with rfl | rfl | rfl | rfl | rfl | rfl | rfl | rfl | rfl
 ·exact tz
 ·exact td
 ·exact te
 ·exact sF
 ·exact sZ
 ·exact rR
 ·exact tv
 ·exact rY
 exact tD
theorem xo:two 6 0=true:=by kernel_rfl
theorem uU:two 6 1=true:=by kernel_rfl
theorem yG:two 6 2=true:=by kernel_rfl
theorem zp:two 6 3=true:=by kernel_rfl
theorem vG:two 6 4=true:=by kernel_rfl
theorem wV:two 6 5=true:=by kernel_rfl
theorem yn:two 6 6=true:=by kernel_rfl
theorem xS:two 6 7=true:=by kernel_rfl
theorem xh:two 6 8=true:=by kernel_rfl
theorem C3 {b:Int} (h0:0≤b) (h1:b < 9):two 6 b=true:=by
 have:b=0∨b=1∨b=2∨b=3∨b=4∨b=5∨b=6∨b=7∨b=8:=by omega
 rcases this with rfl | rfl | rfl | rfl | rfl | rfl | rfl | rfl | rfl
 ·exact xo
 ·exact uU
 ·exact yG
 ·exact zp
 ·exact vG
 ·exact wV
 ·exact yn
 ·exact xS
 exact xh
theorem vY:two 3 0=true:=by kernel_rfl
theorem yy:two 3 1=true:=by kernel_rfl
theorem vO:two 3 2=true:=by kernel_rfl
theorem zd:two 3 3=true:=by kernel_rfl
theorem yY:two 3 4=true:=by kernel_rfl
theorem yF:two 3 5=true:=by kernel_rfl
theorem w9:two 3 6=true:=by kernel_rfl
theorem wy:two 3 7=true:=by kernel_rfl
theorem vl:two 3 8=true:=by kernel_rfl
theorem Dv {b:Int} (h0:0≤b) (h1:b < 9):two 3 b=true:=by
 have:b=0∨b=1∨b=2∨b=3∨b=4∨b=5∨b=6∨b=7∨b=8:=by omega
 rcases this with rfl | rfl | rfl | rfl | rfl | rfl | rfl | rfl | rfl
 ·exact vY
 ·exact yy
 ·exact vO
 ·exact zd
 ·exact yY
 ·exact yF
 ·exact w9
 ·exact wy
 exact vl
end Go.Proofs.Ytmchbhheoieepaa
