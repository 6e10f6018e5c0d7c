/- The machine's code of the law's functions, computed, and that it is the program's. No condition. Own work. -/
import Derived.Test.YtmchbhheoieepaaAm6ProcessNever
import Derived.Test.YtmchbhheoieepaaProg
import Derived.KernelRfl
set_option linter.unusedVariables false
namespace Go.Proofs.Ytmchbhheoieepaa
open Go Go.Am
noncomputable section
abbrev mK:d7:=[(0,.any),(1,.any),(5,(.int .i64)),(6,.any),(7,(.int .i64))]
abbrev mQ:d7:=[(0,.any),(1,.any),(4,.any),(5,(.int .i64))]
def s50:SC:=ann Try.prog Try.f50 [(mK,[2],false),(mQ,[0],true)]
def qS:SC:=lb s50 0
def pd:SC:=lb s50 1
def fn4:AFn:=⟨2,aI Try.prog Try.f4,bu Try.prog Try.f4⟩
def yE:AFn:=⟨0,aI Try.prog Try.f11,bu Try.prog Try.f11⟩
def xK:AFn:=⟨4,aI Try.prog Try.f14,bu Try.prog Try.f14⟩
def yh:AFn:=⟨1,aI Try.prog Try.f16,bu Try.prog Try.f16⟩
def xP:AFn:=⟨1,aI Try.prog Try.f17,bu Try.prog Try.f17⟩
def yZ:AFn:=⟨1,aI Try.prog Try.f18,bu Try.prog Try.f18⟩
def xN:AFn:=⟨1,aI Try.prog Try.f20,bu Try.prog Try.f20⟩
def yN:AFn:=⟨1,aI Try.prog Try.f23,bu Try.prog Try.f23⟩
def ze:AFn:=⟨2,aI Try.prog Try.f24,bu Try.prog Try.f24⟩
def yv:AFn:=⟨2,aI Try.prog Try.f36,bu Try.prog Try.f36⟩
def xm:AFn:=⟨3,aI Try.prog Try.f37,bu Try.prog Try.f37⟩
def zi:AFn:=⟨1,aI Try.prog Try.f39,bu Try.prog Try.f39⟩
def zd:AFn:=⟨1,aI Try.prog Try.f40,bu Try.prog Try.f40⟩
def yV:AFn:=⟨2,aI Try.prog Try.f41,bu Try.prog Try.f41⟩
def yU:AFn:=⟨1,aI Try.prog Try.f42,bu Try.prog Try.f42⟩
def yS:AFn:=⟨2,aI Try.prog Try.f46,bu Try.prog Try.f46⟩
def yf:AFn:=⟨2,aI Try.prog Try.f47,bu Try.prog Try.f47⟩
def yi:AFn:=⟨1,aI Try.prog Try.f48,bu Try.prog Try.f48⟩
def yK:AFn:=⟨2,aI Try.prog Try.f49,bu Try.prog Try.f49⟩
def zL:AFn:=⟨2,aI Try.prog Try.f50,bu Try.prog Try.f50⟩
def xR:AFn:=⟨2,aI Try.prog Try.f51,bu Try.prog Try.f51⟩
def yl:AFn:=⟨1,aI Try.prog Try.f63,bu Try.prog Try.f63⟩
def yT:AFn:=⟨1,aI Try.prog Try.f64,bu Try.prog Try.f64⟩
def xu:AFn:=⟨2,aI Try.prog Try.f65,bu Try.prog Try.f65⟩
def yR:AFn:=⟨2,aI Try.prog Try.f66,bu Try.prog Try.f66⟩
def xW:AFn:=⟨5,aI Try.prog Try.f69,bu Try.prog Try.f69⟩
def yW:AFn:=⟨1,aI Try.prog Try.f70,bu Try.prog Try.f70⟩
def ym:AFn:=⟨1,aI Try.prog Try.f71,bu Try.prog Try.f71⟩
def yd:AFn:=⟨4,aI Try.prog Try.f83,bu Try.prog Try.f83⟩
def yo:AFn:=⟨4,aI Try.prog Try.f84,bu Try.prog Try.f84⟩
def zk:AFn:=⟨4,aI Try.prog Try.f85,bu Try.prog Try.f85⟩
def zr:AFn:=⟨4,aI Try.prog Try.f86,bu Try.prog Try.f86⟩
def xp:AFn:=⟨4,aI Try.prog Try.f87,bu Try.prog Try.f87⟩
def zl:AFn:=⟨4,aI Try.prog Try.f88,bu Try.prog Try.f88⟩
def xU:AFn:=⟨5,aI Try.prog Try.f89,bu Try.prog Try.f89⟩
def xH:AFn:=⟨5,aI Try.prog Try.f90,bu Try.prog Try.f90⟩
def BD:AFn:=⟨1,aI Try.prog Try.f91,bu Try.prog Try.f91⟩
def xZ:AFn:=⟨1,aI Try.prog Try.f92,bu Try.prog Try.f92⟩
def xB:AFn:=⟨5,aI Try.prog Try.f99,bu Try.prog Try.f99⟩
def qm:AFn:=⟨1,aI Try.prog Try.f100,bu Try.prog Try.f100⟩
def qT:AFn:=⟨1,aI Try.prog Try.f101,bu Try.prog Try.f101⟩
def qN:AFn:=⟨4,aI Try.prog Try.f102,bu Try.prog Try.f102⟩
def rb:AFn:=⟨6,aI Try.prog Try.f103,bu Try.prog Try.f103⟩
def pv:AFn:=⟨5,aI Try.prog Try.f109,bu Try.prog Try.f109⟩
def pp:AFn:=⟨2,aI Try.prog Try.f126,bu Try.prog Try.f126⟩
def ph:AFn:=⟨2,aI Try.prog Try.f127,bu Try.prog Try.f127⟩
def pF:AFn:=⟨1,aI Try.prog Try.f128,bu Try.prog Try.f128⟩
def o9:AFn:=⟨1,aI Try.prog Try.f129,bu Try.prog Try.f129⟩
def pC:AFn:=⟨1,aI Try.prog Try.f130,bu Try.prog Try.f130⟩
def rh:AFn:=⟨2,aI Try.prog Try.f131,bu Try.prog Try.f131⟩
def kx:AFn:=⟨1,aI Try.prog Try.f132,bu Try.prog Try.f132⟩
def pn:AFn:=⟨1,aI Try.prog Try.f133,bu Try.prog Try.f133⟩
def qU:AFn:=⟨3,aI Try.prog Try.f134,bu Try.prog Try.f134⟩
def o6:AFn:=⟨2,aI Try.prog Try.f135,bu Try.prog Try.f135⟩
def pz:AFn:=⟨3,aI Try.prog Try.f136,bu Try.prog Try.f136⟩
def om:AFn:=⟨2,aI Try.prog Try.f137,bu Try.prog Try.f137⟩
def pL:AFn:=⟨2,aI Try.prog Try.f138,bu Try.prog Try.f138⟩
def ov:AFn:=⟨1,aI Try.prog Try.f139,bu Try.prog Try.f139⟩
def qd:AFn:=⟨2,aI Try.prog Try.f140,bu Try.prog Try.f140⟩
def F:Nat→Option AFn
 | 4=>some fn4
 | 11=>some yE
 | 14=>some xK
 | 16=>some yh
 | 17=>some xP
 | 18=>some yZ
 | 20=>some xN
 | 23=>some yN
 | 24=>some ze
 | 36=>some yv
 | 37=>some xm
 | 39=>some zi
 | 40=>some zd
 | 41=>some yV
 | 42=>some yU
 | 46=>some yS
 | 47=>some yf
 | 48=>some yi
 | 49=>some yK
 | 50=>some zL
 | 51=>some xR
 | 63=>some yl
 | 64=>some yT
 | 65=>some xu
 | 66=>some yR
 | 69=>some xW
 | 70=>some yW
 | 71=>some ym
 | 83=>some yd
 | 84=>some yo
 | 85=>some zk
 | 86=>some zr
 | 87=>some xp
 | 88=>some zl
 | 89=>some xU
 | 90=>some xH
 | 91=>some BD
 | 92=>some xZ
 | 99=>some xB
 | 100=>some qm
 | 101=>some qT
 | 102=>some qN
 | 103=>some rb
 | 109=>some pv
 | 126=>some pp
 | 127=>some ph
 | 128=>some pF
 | 129=>some o9
 | 130=>some pC
 | 131=>some rh
 | 132=>some kx
 | 133=>some pn
 | 134=>some qU
 | 135=>some o6
 | 136=>some pz
 | 137=>some om
 | 138=>some pL
 | 139=>some ov
 | 140=>some qd
 | _=>none
theorem ok4:FnOk Try.prog 4 fn4:=af Try.func4 (by kernel_rfl) (by kernel_rfl)
theorem BP:FnOk Try.prog 11 yE:=af Try.func11 (by kernel_rfl) (by kernel_rfl)
theorem Dk:FnOk Try.prog 14 xK:=af Try.func14 (by kernel_rfl) (by kernel_rfl)
theorem Cy:FnOk Try.prog 16 yh:=af Try.func16 (by kernel_rfl) (by kernel_rfl)
theorem B2:FnOk Try.prog 17 xP:=af Try.func17 (by kernel_rfl) (by kernel_rfl)
theorem Dd:FnOk Try.prog 18 yZ:=af Try.func18 (by kernel_rfl) (by kernel_rfl)
theorem CO:FnOk Try.prog 20 xN:=af Try.func20 (by kernel_rfl) (by kernel_rfl)
theorem B1:FnOk Try.prog 23 yN:=af Try.func23 (by kernel_rfl) (by kernel_rfl)
theorem Ck:FnOk Try.prog 24 ze:=af Try.func24 (by kernel_rfl) (by kernel_rfl)
theorem CH:FnOk Try.prog 36 yv:=af Try.func36 (by kernel_rfl) (by kernel_rfl)
theorem BQ:FnOk Try.prog 37 xm:=af Try.func37 (by kernel_rfl) (by kernel_rfl)
theorem Dg:FnOk Try.prog 39 zi:=af Try.func39 (by kernel_rfl) (by kernel_rfl)
theorem Cc:FnOk Try.prog 40 zd:=af Try.func40 (by kernel_rfl) (by kernel_rfl)
theorem C6:FnOk Try.prog 41 yV:=af Try.func41 (by kernel_rfl) (by kernel_rfl)
theorem Dq:FnOk Try.prog 42 yU:=af Try.func42 (by kernel_rfl) (by kernel_rfl)
theorem CT:FnOk Try.prog 46 yS:=af Try.func46 (by kernel_rfl) (by kernel_rfl)
theorem BO:FnOk Try.prog 47 yf:=af Try.func47 (by kernel_rfl) (by kernel_rfl)
theorem B6:FnOk Try.prog 48 yi:=af Try.func48 (by kernel_rfl) (by kernel_rfl)
theorem Cb:FnOk Try.prog 49 yK:=af Try.func49 (by kernel_rfl) (by kernel_rfl)
theorem CA:FnOk Try.prog 50 zL:=af Try.func50 (by kernel_rfl) (by kernel_rfl)
theorem BN:FnOk Try.prog 51 xR:=af Try.func51 (by kernel_rfl) (by kernel_rfl)
theorem Cv:FnOk Try.prog 63 yl:=af Try.func63 (by kernel_rfl) (by kernel_rfl)
theorem C9:FnOk Try.prog 64 yT:=af Try.func64 (by kernel_rfl) (by kernel_rfl)
theorem Ct:FnOk Try.prog 65 xu:=af Try.func65 (by kernel_rfl) (by kernel_rfl)
theorem Dp:FnOk Try.prog 66 yR:=af Try.func66 (by kernel_rfl) (by kernel_rfl)
theorem Dn:FnOk Try.prog 69 xW:=af Try.func69 (by kernel_rfl) (by kernel_rfl)
theorem CC:FnOk Try.prog 70 yW:=af Try.func70 (by kernel_rfl) (by kernel_rfl)
theorem CN:FnOk Try.prog 71 ym:=af Try.func71 (by kernel_rfl) (by kernel_rfl)
theorem Df:FnOk Try.prog 83 yd:=af Try.func83 (by kernel_rfl) (by kernel_rfl)
theorem Cr:FnOk Try.prog 84 yo:=af Try.func84 (by kernel_rfl) (by kernel_rfl)
theorem Da:FnOk Try.prog 85 zk:=af Try.func85 (by kernel_rfl) (by kernel_rfl)
theorem BX:FnOk Try.prog 86 zr:=af Try.func86 (by kernel_rfl) (by kernel_rfl)
theorem Cp:FnOk Try.prog 87 xp:=af Try.func87 (by kernel_rfl) (by kernel_rfl)
theorem BU:FnOk Try.prog 88 zl:=af Try.func88 (by kernel_rfl) (by kernel_rfl)
theorem CE:FnOk Try.prog 89 xU:=af Try.func89 (by kernel_rfl) (by kernel_rfl)
theorem B0:FnOk Try.prog 90 xH:=af Try.func90 (by kernel_rfl) (by kernel_rfl)
theorem C8:FnOk Try.prog 91 BD:=af Try.func91 (by kernel_rfl) (by kernel_rfl)
theorem CK:FnOk Try.prog 92 xZ:=af Try.func92 (by kernel_rfl) (by kernel_rfl)
theorem Du:FnOk Try.prog 99 xB:=af Try.func99 (by kernel_rfl) (by kernel_rfl)
theorem AI:FnOk Try.prog 100 qm:=af Try.func100 (by kernel_rfl) (by kernel_rfl)
theorem A0:FnOk Try.prog 101 qT:=af Try.func101 (by kernel_rfl) (by kernel_rfl)
theorem Bg:FnOk Try.prog 102 qN:=af Try.func102 (by kernel_rfl) (by kernel_rfl)
theorem Ax:FnOk Try.prog 103 rb:=af Try.func103 (by kernel_rfl) (by kernel_rfl)
theorem zU:FnOk Try.prog 109 pv:=af Try.func109 (by kernel_rfl) (by kernel_rfl)
theorem AS:FnOk Try.prog 126 pp:=af Try.func126 (by kernel_rfl) (by kernel_rfl)
theorem AH:FnOk Try.prog 127 ph:=af Try.func127 (by kernel_rfl) (by kernel_rfl)
theorem Ai:FnOk Try.prog 128 pF:=af Try.func128 (by kernel_rfl) (by kernel_rfl)
theorem Au:FnOk Try.prog 129 o9:=af Try.func129 (by kernel_rfl) (by kernel_rfl)
theorem AE:FnOk Try.prog 130 pC:=af Try.func130 (by kernel_rfl) (by kernel_rfl)
theorem Ac:FnOk Try.prog 131 rh:=af Try.func131 (by kernel_rfl) (by kernel_rfl)
theorem Bf:FnOk Try.prog 132 kx:=af Try.func132 (by kernel_rfl) (by kernel_rfl)
theorem AA:FnOk Try.prog 133 pn:=af Try.func133 (by kernel_rfl) (by kernel_rfl)
theorem z9:FnOk Try.prog 134 qU:=af Try.func134 (by kernel_rfl) (by kernel_rfl)
theorem A4:FnOk Try.prog 135 o6:=af Try.func135 (by kernel_rfl) (by kernel_rfl)
theorem AL:FnOk Try.prog 136 pz:=af Try.func136 (by kernel_rfl) (by kernel_rfl)
theorem Al:FnOk Try.prog 137 om:=af Try.func137 (by kernel_rfl) (by kernel_rfl)
theorem Bh:FnOk Try.prog 138 pL:=af Try.func138 (by kernel_rfl) (by kernel_rfl)
theorem A2:FnOk Try.prog 139 ov:=af Try.func139 (by kernel_rfl) (by kernel_rfl)
theorem zT:FnOk Try.prog 140 qd:=af Try.func140 (by kernel_rfl) (by kernel_rfl)
theorem Ap:TabOk Try.prog F:=by
 refine ⟨by kernel_rfl,fun f fn h=>?_⟩
 unfold F at h
 split at h
 · cases h; exact ok4
 · cases h; exact BP
 · cases h; exact Dk
 · cases h; exact Cy
 · cases h; exact B2
 · cases h; exact Dd
 · cases h; exact CO
 · cases h; exact B1
 · cases h; exact Ck
 · cases h; exact CH
 · cases h; exact BQ
 · cases h; exact Dg
 · cases h; exact Cc
 · cases h; exact C6
 · cases h; exact Dq
 · cases h; exact CT
 · cases h; exact BO
 · cases h; exact B6
 · cases h; exact Cb
 · cases h; exact CA
 · cases h; exact BN
 · cases h; exact Cv
 · cases h; exact C9
 · cases h; exact Ct
 · cases h; exact Dp
 · cases h; exact Dn
 · cases h; exact CC
 · cases h; exact CN
 · cases h; exact Df
 · cases h; exact Cr
 · cases h; exact Da
 · cases h; exact BX
 · cases h; exact Cp
 · cases h; exact BU
 · cases h; exact CE
 · cases h; exact B0
 · cases h; exact C8
 · cases h; exact CK
 · cases h; exact Du
 · cases h; exact AI
 · cases h; exact A0
 · cases h; exact Bg
 · cases h; exact Ax
 · cases h; exact zU
 · cases h; exact AS
 · cases h; exact AH
 · cases h; exact Ai
 · cases h; exact Au
 · cases h; exact AE
 · cases h; exact Ac
 · cases h; exact Bf
 · cases h; exact AA
 · cases h; exact z9
 · cases h; exact A4
 · cases h; exact AL
 · cases h; exact Al
 · cases h; exact Bh
 · cases h; exact A2
 · cases h; exact zT
 cases h
end
end Go.Proofs.Ytmchbhheoieepaa
