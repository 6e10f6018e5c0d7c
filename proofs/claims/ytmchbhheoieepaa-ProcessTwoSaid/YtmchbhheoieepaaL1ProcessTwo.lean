/- The law ProcessTwo: its pure function answers true, whatever it is called with; so does the machine's function. No condition. Own work. -/
import Derived.Test.YtmchbhheoieepaaL0ProcessTwo
import Derived.KernelRfl
set_option linter.unusedSimpArgs false
set_option linter.unusedVariables false
namespace Go.Proofs.Ytmchbhheoieepaa
open Go Go.Am
theorem rQ:two 14 0=true:=by kernel_rfl
theorem sS:two 14 1=true:=by kernel_rfl
theorem rL:two 14 2=true:=by kernel_rfl
theorem sd:two 14 3=true:=by kernel_rfl
theorem sX:two 14 4=true:=by kernel_rfl
theorem ta:two 14 5=true:=by kernel_rfl
theorem tn:two 14 6=true:=by kernel_rfl
theorem tP:two 14 7=true:=by kernel_rfl
theorem r6:two 14 8=true:=by kernel_rfl
theorem B3 {b:Int} (h0:0≤b) (h1:b < 9):two 14 b=true:=by
 have:b=0∨b=1∨b=2∨b=3∨b=4∨b=5∨b=6∨b=7∨b=8:=by omega
 rcases this with rfl | rfl | rfl | rfl | rfl | rfl | rfl | rfl | rfl
 ·exact rQ
 ·exact sS
 ·exact rL
 ·exact sd
 ·exact sX
 ·exact ta
 ·exact tn
 ·exact tP
 exact r6
theorem uM:two 5 0=true:=by kernel_rfl
theorem vb:two 5 1=true:=by kernel_rfl
theorem wu:two 5 2=true:=by kernel_rfl
theorem wG:two 5 3=true:=by kernel_rfl
theorem vC:two 5 4=true:=by kernel_rfl
theorem u9:two 5 5=true:=by kernel_rfl
theorem uR:two 5 6=true:=by kernel_rfl
theorem xc:two 5 7=true:=by kernel_rfl
theorem yE:two 5 8=true:=by kernel_rfl
theorem CX {b:Int} (h0:0≤b) (h1:b < 9):two 5 b=true:=by
 have:b=0∨b=1∨b=2∨b=3∨b=4∨b=5∨b=6∨b=7∨b=8:=by omega
 rcases this with rfl | rfl | rfl | rfl | rfl | rfl | rfl | rfl | rfl
 ·exact uM
 ·exact vb
 ·exact wu
 ·exact wG
 ·exact vC
 ·exact u9
 ·exact uR
 ·exact xc
 exact yE
theorem wo:two 2 0=true:=by kernel_rfl
theorem vj:two 2 1=true:=by kernel_rfl
theorem yX:two 2 2=true:=by kernel_rfl
theorem uZ:two 2 3=true:=by kernel_rfl
theorem xU:two 2 4=true:=by kernel_rfl
theorem wm:two 2 5=true:=by kernel_rfl
theorem zf:two 2 6=true:=by kernel_rfl
theorem vT:two 2 7=true:=by kernel_rfl
theorem vm:two 2 8=true:=by kernel_rfl
theorem DE {b:Int} (h0:0≤b) (h1:b < 9):two 2 b=true:=by
 have:b=0∨b=1∨b=2∨b=3∨b=4∨b=5∨b=6∨b=7∨b=8:=by omega
 rcases this with rfl | rfl | rfl | rfl | rfl | rfl | rfl | rfl | rfl
 ·exact wo
 ·exact vj
 ·exact yX
 ·exact uZ
 ·exact xU
 ·exact wm
 ·exact zf
 ·exact vT
 exact vm
end Go.Proofs.Ytmchbhheoieepaa
