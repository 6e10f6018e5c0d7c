/- The machine's code of the law's functions, computed, and that it is the program's. No condition. Own work. -/
import Derived.Test.YtmchbhheoieepaaAm6ProcessClocks
import Derived.Test.YtmchbhheoieepaaProg
import Derived.KernelRfl
set_option linter.unusedVariables false
namespace Go.Proofs.Ytmchbhheoieepaa
open Go Go.Am
noncomputable section
abbrev mU:eh:=[(0,.any),(1,.any),(5,(.int .i64)),(6,.any),(7,(.int .i64))]
abbrev nc:eh:=[(0,.any),(1,.any),(4,.any),(5,(.int .i64))]
def s50:SC:=ann Try.prog Try.f50 [(mU,[2],false),(nc,[0],true)]
def oY:SC:=lb s50 0
def ra:SC:=lb s50 1
def fn6:AFn:=⟨2,aJ Try.prog Try.f6,bx Try.prog Try.f6⟩
def Ab:AFn:=⟨0,aJ Try.prog Try.f11,bx Try.prog Try.f11⟩
def zh:AFn:=⟨4,aJ Try.prog Try.f14,bx Try.prog Try.f14⟩
def yG:AFn:=⟨1,aJ Try.prog Try.f16,bx Try.prog Try.f16⟩
def zt:AFn:=⟨1,aJ Try.prog Try.f17,bx Try.prog Try.f17⟩
def Ae:AFn:=⟨1,aJ Try.prog Try.f18,bx Try.prog Try.f18⟩
def yr:AFn:=⟨1,aJ Try.prog Try.f20,bx Try.prog Try.f20⟩
def z8:AFn:=⟨2,aJ Try.prog Try.f22,bx Try.prog Try.f22⟩
def zA:AFn:=⟨1,aJ Try.prog Try.f23,bx Try.prog Try.f23⟩
def xS:AFn:=⟨2,aJ Try.prog Try.f24,bx Try.prog Try.f24⟩
def yY:AFn:=⟨2,aJ Try.prog Try.f36,bx Try.prog Try.f36⟩
def yE:AFn:=⟨3,aJ Try.prog Try.f37,bx Try.prog Try.f37⟩
def zi:AFn:=⟨1,aJ Try.prog Try.f39,bx Try.prog Try.f39⟩
def zj:AFn:=⟨1,aJ Try.prog Try.f40,bx Try.prog Try.f40⟩
def zD:AFn:=⟨2,aJ Try.prog Try.f41,bx Try.prog Try.f41⟩
def xV:AFn:=⟨1,aJ Try.prog Try.f42,bx Try.prog Try.f42⟩
def zP:AFn:=⟨2,aJ Try.prog Try.f46,bx Try.prog Try.f46⟩
def yC:AFn:=⟨2,aJ Try.prog Try.f47,bx Try.prog Try.f47⟩
def yc:AFn:=⟨1,aJ Try.prog Try.f48,bx Try.prog Try.f48⟩
def zy:AFn:=⟨2,aJ Try.prog Try.f49,bx Try.prog Try.f49⟩
def AJ:AFn:=⟨2,aJ Try.prog Try.f50,bx Try.prog Try.f50⟩
def yX:AFn:=⟨2,aJ Try.prog Try.f51,bx Try.prog Try.f51⟩
def zO:AFn:=⟨1,aJ Try.prog Try.f63,bx Try.prog Try.f63⟩
def yx:AFn:=⟨1,aJ Try.prog Try.f64,bx Try.prog Try.f64⟩
def Al:AFn:=⟨2,aJ Try.prog Try.f65,bx Try.prog Try.f65⟩
def xU:AFn:=⟨2,aJ Try.prog Try.f66,bx Try.prog Try.f66⟩
def yJ:AFn:=⟨5,aJ Try.prog Try.f69,bx Try.prog Try.f69⟩
def zK:AFn:=⟨1,aJ Try.prog Try.f70,bx Try.prog Try.f70⟩
def zf:AFn:=⟨1,aJ Try.prog Try.f71,bx Try.prog Try.f71⟩
def yT:AFn:=⟨4,aJ Try.prog Try.f83,bx Try.prog Try.f83⟩
def xR:AFn:=⟨4,aJ Try.prog Try.f84,bx Try.prog Try.f84⟩
def yl:AFn:=⟨4,aJ Try.prog Try.f85,bx Try.prog Try.f85⟩
def xY:AFn:=⟨4,aJ Try.prog Try.f86,bx Try.prog Try.f86⟩
def Ao:AFn:=⟨4,aJ Try.prog Try.f87,bx Try.prog Try.f87⟩
def Ak:AFn:=⟨4,aJ Try.prog Try.f88,bx Try.prog Try.f88⟩
def zu:AFn:=⟨5,aJ Try.prog Try.f89,bx Try.prog Try.f89⟩
def zq:AFn:=⟨5,aJ Try.prog Try.f90,bx Try.prog Try.f90⟩
def Cj:AFn:=⟨1,aJ Try.prog Try.f91,bx Try.prog Try.f91⟩
def zd:AFn:=⟨1,aJ Try.prog Try.f92,bx Try.prog Try.f92⟩
def zS:AFn:=⟨5,aJ Try.prog Try.f99,bx Try.prog Try.f99⟩
def rv:AFn:=⟨1,aJ Try.prog Try.f100,bx Try.prog Try.f100⟩
def qL:AFn:=⟨1,aJ Try.prog Try.f101,bx Try.prog Try.f101⟩
def pP:AFn:=⟨4,aJ Try.prog Try.f102,bx Try.prog Try.f102⟩
def qh:AFn:=⟨6,aJ Try.prog Try.f103,bx Try.prog Try.f103⟩
def ru:AFn:=⟨5,aJ Try.prog Try.f109,bx Try.prog Try.f109⟩
def rD:AFn:=⟨2,aJ Try.prog Try.f126,bx Try.prog Try.f126⟩
def pW:AFn:=⟨2,aJ Try.prog Try.f127,bx Try.prog Try.f127⟩
def oW:AFn:=⟨1,aJ Try.prog Try.f128,bx Try.prog Try.f128⟩
def qX:AFn:=⟨1,aJ Try.prog Try.f129,bx Try.prog Try.f129⟩
def qo:AFn:=⟨1,aJ Try.prog Try.f130,bx Try.prog Try.f130⟩
def qq:AFn:=⟨2,aJ Try.prog Try.f131,bx Try.prog Try.f131⟩
def kV:AFn:=⟨1,aJ Try.prog Try.f132,bx Try.prog Try.f132⟩
def oK:AFn:=⟨1,aJ Try.prog Try.f133,bx Try.prog Try.f133⟩
def pj:AFn:=⟨3,aJ Try.prog Try.f134,bx Try.prog Try.f134⟩
def oS:AFn:=⟨2,aJ Try.prog Try.f135,bx Try.prog Try.f135⟩
def pv:AFn:=⟨3,aJ Try.prog Try.f136,bx Try.prog Try.f136⟩
def rp:AFn:=⟨2,aJ Try.prog Try.f137,bx Try.prog Try.f137⟩
def qw:AFn:=⟨2,aJ Try.prog Try.f138,bx Try.prog Try.f138⟩
def qJ:AFn:=⟨1,aJ Try.prog Try.f139,bx Try.prog Try.f139⟩
def rt:AFn:=⟨2,aJ Try.prog Try.f140,bx Try.prog Try.f140⟩
def F:Nat→Option AFn
 | 6=>some fn6
 | 11=>some Ab
 | 14=>some zh
 | 16=>some yG
 | 17=>some zt
 | 18=>some Ae
 | 20=>some yr
 | 22=>some z8
 | 23=>some zA
 | 24=>some xS
 | 36=>some yY
 | 37=>some yE
 | 39=>some zi
 | 40=>some zj
 | 41=>some zD
 | 42=>some xV
 | 46=>some zP
 | 47=>some yC
 | 48=>some yc
 | 49=>some zy
 | 50=>some AJ
 | 51=>some yX
 | 63=>some zO
 | 64=>some yx
 | 65=>some Al
 | 66=>some xU
 | 69=>some yJ
 | 70=>some zK
 | 71=>some zf
 | 83=>some yT
 | 84=>some xR
 | 85=>some yl
 | 86=>some xY
 | 87=>some Ao
 | 88=>some Ak
 | 89=>some zu
 | 90=>some zq
 | 91=>some Cj
 | 92=>some zd
 | 99=>some zS
 | 100=>some rv
 | 101=>some qL
 | 102=>some pP
 | 103=>some qh
 | 109=>some ru
 | 126=>some rD
 | 127=>some pW
 | 128=>some oW
 | 129=>some qX
 | 130=>some qo
 | 131=>some qq
 | 132=>some kV
 | 133=>some oK
 | 134=>some pj
 | 135=>some oS
 | 136=>some pv
 | 137=>some rp
 | 138=>some qw
 | 139=>some qJ
 | 140=>some rt
 | _=>none
theorem ok6:FnOk Try.prog 6 fn6:=af Try.func6 (by kernel_rfl) (by kernel_rfl)
theorem Ei:FnOk Try.prog 11 Ab:=af Try.func11 (by kernel_rfl) (by kernel_rfl)
theorem C2:FnOk Try.prog 14 zh:=af Try.func14 (by kernel_rfl) (by kernel_rfl)
theorem CK:FnOk Try.prog 16 yG:=af Try.func16 (by kernel_rfl) (by kernel_rfl)
theorem DT:FnOk Try.prog 17 zt:=af Try.func17 (by kernel_rfl) (by kernel_rfl)
theorem CI:FnOk Try.prog 18 Ae:=af Try.func18 (by kernel_rfl) (by kernel_rfl)
theorem Dl:FnOk Try.prog 20 yr:=af Try.func20 (by kernel_rfl) (by kernel_rfl)
theorem DL:FnOk Try.prog 22 z8:=af Try.func22 (by kernel_rfl) (by kernel_rfl)
theorem C5:FnOk Try.prog 23 zA:=af Try.func23 (by kernel_rfl) (by kernel_rfl)
theorem CP:FnOk Try.prog 24 xS:=af Try.func24 (by kernel_rfl) (by kernel_rfl)
theorem CM:FnOk Try.prog 36 yY:=af Try.func36 (by kernel_rfl) (by kernel_rfl)
theorem DB:FnOk Try.prog 37 yE:=af Try.func37 (by kernel_rfl) (by kernel_rfl)
theorem Dd:FnOk Try.prog 39 zi:=af Try.func39 (by kernel_rfl) (by kernel_rfl)
theorem CN:FnOk Try.prog 40 zj:=af Try.func40 (by kernel_rfl) (by kernel_rfl)
theorem Ej:FnOk Try.prog 41 zD:=af Try.func41 (by kernel_rfl) (by kernel_rfl)
theorem DM:FnOk Try.prog 42 xV:=af Try.func42 (by kernel_rfl) (by kernel_rfl)
theorem Ec:FnOk Try.prog 46 zP:=af Try.func46 (by kernel_rfl) (by kernel_rfl)
theorem Ep:FnOk Try.prog 47 yC:=af Try.func47 (by kernel_rfl) (by kernel_rfl)
theorem Dc:FnOk Try.prog 48 yc:=af Try.func48 (by kernel_rfl) (by kernel_rfl)
theorem D9:FnOk Try.prog 49 zy:=af Try.func49 (by kernel_rfl) (by kernel_rfl)
theorem Da:FnOk Try.prog 50 AJ:=af Try.func50 (by kernel_rfl) (by kernel_rfl)
theorem DW:FnOk Try.prog 51 yX:=af Try.func51 (by kernel_rfl) (by kernel_rfl)
theorem D3:FnOk Try.prog 63 zO:=af Try.func63 (by kernel_rfl) (by kernel_rfl)
theorem CL:FnOk Try.prog 64 yx:=af Try.func64 (by kernel_rfl) (by kernel_rfl)
theorem DG:FnOk Try.prog 65 Al:=af Try.func65 (by kernel_rfl) (by kernel_rfl)
theorem CG:FnOk Try.prog 66 xU:=af Try.func66 (by kernel_rfl) (by kernel_rfl)
theorem Dx:FnOk Try.prog 69 yJ:=af Try.func69 (by kernel_rfl) (by kernel_rfl)
theorem CE:FnOk Try.prog 70 zK:=af Try.func70 (by kernel_rfl) (by kernel_rfl)
theorem DY:FnOk Try.prog 71 zf:=af Try.func71 (by kernel_rfl) (by kernel_rfl)
theorem DE:FnOk Try.prog 83 yT:=af Try.func83 (by kernel_rfl) (by kernel_rfl)
theorem Dt:FnOk Try.prog 84 xR:=af Try.func84 (by kernel_rfl) (by kernel_rfl)
theorem CY:FnOk Try.prog 85 yl:=af Try.func85 (by kernel_rfl) (by kernel_rfl)
theorem CV:FnOk Try.prog 86 xY:=af Try.func86 (by kernel_rfl) (by kernel_rfl)
theorem CU:FnOk Try.prog 87 Ao:=af Try.func87 (by kernel_rfl) (by kernel_rfl)
theorem CQ:FnOk Try.prog 88 Ak:=af Try.func88 (by kernel_rfl) (by kernel_rfl)
theorem CT:FnOk Try.prog 89 zu:=af Try.func89 (by kernel_rfl) (by kernel_rfl)
theorem D6:FnOk Try.prog 90 zq:=af Try.func90 (by kernel_rfl) (by kernel_rfl)
theorem DZ:FnOk Try.prog 91 Cj:=af Try.func91 (by kernel_rfl) (by kernel_rfl)
theorem C3:FnOk Try.prog 92 zd:=af Try.func92 (by kernel_rfl) (by kernel_rfl)
theorem Ea:FnOk Try.prog 99 zS:=af Try.func99 (by kernel_rfl) (by kernel_rfl)
theorem Bj:FnOk Try.prog 100 rv:=af Try.func100 (by kernel_rfl) (by kernel_rfl)
theorem Bn:FnOk Try.prog 101 qL:=af Try.func101 (by kernel_rfl) (by kernel_rfl)
theorem Bx:FnOk Try.prog 102 pP:=af Try.func102 (by kernel_rfl) (by kernel_rfl)
theorem Br:FnOk Try.prog 103 qh:=af Try.func103 (by kernel_rfl) (by kernel_rfl)
theorem Bt:FnOk Try.prog 109 ru:=af Try.func109 (by kernel_rfl) (by kernel_rfl)
theorem BH:FnOk Try.prog 126 rD:=af Try.func126 (by kernel_rfl) (by kernel_rfl)
theorem A6:FnOk Try.prog 127 pW:=af Try.func127 (by kernel_rfl) (by kernel_rfl)
theorem A8:FnOk Try.prog 128 oW:=af Try.func128 (by kernel_rfl) (by kernel_rfl)
theorem AZ:FnOk Try.prog 129 qX:=af Try.func129 (by kernel_rfl) (by kernel_rfl)
theorem Bv:FnOk Try.prog 130 qo:=af Try.func130 (by kernel_rfl) (by kernel_rfl)
theorem B6:FnOk Try.prog 131 qq:=af Try.func131 (by kernel_rfl) (by kernel_rfl)
theorem BP:FnOk Try.prog 132 kV:=af Try.func132 (by kernel_rfl) (by kernel_rfl)
theorem B1:FnOk Try.prog 133 oK:=af Try.func133 (by kernel_rfl) (by kernel_rfl)
theorem BM:FnOk Try.prog 134 pj:=af Try.func134 (by kernel_rfl) (by kernel_rfl)
theorem B0:FnOk Try.prog 135 oS:=af Try.func135 (by kernel_rfl) (by kernel_rfl)
theorem A9:FnOk Try.prog 136 pv:=af Try.func136 (by kernel_rfl) (by kernel_rfl)
theorem AY:FnOk Try.prog 137 rp:=af Try.func137 (by kernel_rfl) (by kernel_rfl)
theorem Bs:FnOk Try.prog 138 qw:=af Try.func138 (by kernel_rfl) (by kernel_rfl)
theorem A3:FnOk Try.prog 139 qJ:=af Try.func139 (by kernel_rfl) (by kernel_rfl)
theorem B8:FnOk Try.prog 140 rt:=af Try.func140 (by kernel_rfl) (by kernel_rfl)
theorem A1:TabOk Try.prog F:=by
 refine ⟨by kernel_rfl,fun f fn h=>?_⟩
 unfold F at h
 split at h
 · cases h; exact ok6
 · cases h; exact Ei
 · cases h; exact C2
 · cases h; exact CK
 · cases h; exact DT
 · cases h; exact CI
 · cases h; exact Dl
 · cases h; exact DL
 · cases h; exact C5
 · cases h; exact CP
 · cases h; exact CM
 · cases h; exact DB
 · cases h; exact Dd
 · cases h; exact CN
 · cases h; exact Ej
 · cases h; exact DM
 · cases h; exact Ec
 · cases h; exact Ep
 · cases h; exact Dc
 · cases h; exact D9
 · cases h; exact Da
 · cases h; exact DW
 · cases h; exact D3
 · cases h; exact CL
 · cases h; exact DG
 · cases h; exact CG
 · cases h; exact Dx
 · cases h; exact CE
 · cases h; exact DY
 · cases h; exact DE
 · cases h; exact Dt
 · cases h; exact CY
 · cases h; exact CV
 · cases h; exact CU
 · cases h; exact CQ
 · cases h; exact CT
 · cases h; exact D6
 · cases h; exact DZ
 · cases h; exact C3
 · cases h; exact Ea
 · cases h; exact Bj
 · cases h; exact Bn
 · cases h; exact Bx
 · cases h; exact Br
 · cases h; exact Bt
 · cases h; exact BH
 · cases h; exact A6
 · cases h; exact A8
 · cases h; exact AZ
 · cases h; exact Bv
 · cases h; exact B6
 · cases h; exact BP
 · cases h; exact B1
 · cases h; exact BM
 · cases h; exact B0
 · cases h; exact A9
 · cases h; exact AY
 · cases h; exact Bs
 · cases h; exact A3
 · cases h; exact B8
 cases h
end
end Go.Proofs.Ytmchbhheoieepaa
