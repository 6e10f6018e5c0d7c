/- The law ProcessTwo: its pure function answers true, whatever it is called with; so does the machine's function. No condition. Own work. -/
import Derived.Test.YtmchbhheoieepaaL0ProcessTwo
import Derived.KernelRfl
set_option linter.unusedSimpArgs false
set_option linter.unusedVariables false
namespace Go.Proofs.Ytmchbhheoieepaa
open Go Go.Am
theorem rX:two 13 0=true:=by kernel_rfl
theorem tf:two 13 1=true:=by kernel_rfl
theorem sn:two 13 2=true:=by kernel_rfl
theorem sz:two 13 3=true:=by kernel_rfl
theorem tq:two 13 4=true:=by kernel_rfl
theorem sO:two 13 5=true:=by kernel_rfl
theorem rG:two 13 6=true:=by kernel_rfl
theorem ti:two 13 7=true:=by kernel_rfl
theorem sM:two 13 8=true:=by kernel_rfl
theorem Bt {b:Int} (h0:0≤b) (h1:b < 9):two 13 b=true:=by
 have:b=0∨b=1∨b=2∨b=3∨b=4∨b=5∨b=6∨b=7∨b=8:=by omega
 rcases this with rfl | rfl | rfl | rfl | rfl | rfl | rfl | rfl | rfl
 ·exact rX
 ·exact tf
 ·exact sn
 ·exact sz
 ·exact tq
 ·exact sO
 ·exact rG
 ·exact ti
 exact sM
theorem yH:two 7 0=true:=by kernel_rfl
theorem zm:two 7 1=true:=by kernel_rfl
theorem zt:two 7 2=true:=by kernel_rfl
theorem wK:two 7 3=true:=by kernel_rfl
theorem zg:two 7 4=true:=by kernel_rfl
theorem xZ:two 7 5=true:=by kernel_rfl
theorem zF:two 7 6=true:=by kernel_rfl
theorem vL:two 7 7=true:=by kernel_rfl
theorem yr:two 7 8=true:=by kernel_rfl
theorem Cx {b:Int} (h0:0≤b) (h1:b < 9):two 7 b=true:=by
 have:b=0∨b=1∨b=2∨b=3∨b=4∨b=5∨b=6∨b=7∨b=8:=by omega
 rcases this with rfl | rfl | rfl | rfl | rfl | rfl | rfl | rfl | rfl
 ·exact yH
 ·exact zm
 ·exact zt
 ·exact wK
 ·exact zg
 ·exact xZ
 ·exact zF
 ·exact vL
 exact yr
theorem yz:two 1 0=true:=by kernel_rfl
theorem zr:two 1 1=true:=by kernel_rfl
theorem v7:two 1 2=true:=by kernel_rfl
theorem vD:two 1 3=true:=by kernel_rfl
theorem zB:two 1 4=true:=by kernel_rfl
theorem yf:two 1 5=true:=by kernel_rfl
theorem xB:two 1 6=true:=by kernel_rfl
theorem xu:two 1 7=true:=by kernel_rfl
theorem xR:two 1 8=true:=by kernel_rfl
theorem CE {b:Int} (h0:0≤b) (h1:b < 9):two 1 b=true:=by
 have:b=0∨b=1∨b=2∨b=3∨b=4∨b=5∨b=6∨b=7∨b=8:=by omega
 rcases this with rfl | rfl | rfl | rfl | rfl | rfl | rfl | rfl | rfl
 ·exact yz
 ·exact zr
 ·exact v7
 ·exact vD
 ·exact zB
 ·exact yf
 ·exact xB
 ·exact xu
 exact xR
end Go.Proofs.Ytmchbhheoieepaa
