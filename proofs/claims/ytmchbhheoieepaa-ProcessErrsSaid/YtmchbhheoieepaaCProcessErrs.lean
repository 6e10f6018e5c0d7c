/- The machine's code of the law's functions, computed, and that it is the program's. No condition. Own work. -/
import Derived.Test.YtmchbhheoieepaaAm6ProcessErrs
import Derived.Test.YtmchbhheoieepaaProg
import Derived.KernelRfl
set_option linter.unusedVariables false
namespace Go.Proofs.Ytmchbhheoieepaa
open Go Go.Am
noncomputable section
abbrev pB:eY:=[(0,.any),(1,.any),(5,(.int .i64)),(6,.any),(7,(.int .i64))]
abbrev oS:eY:=[(0,.any),(1,.any),(4,.any),(5,(.int .i64))]
def s50:SC:=ann Try.prog Try.f50 [(pB,[2],false),(oS,[0],true)]
def sW:SC:=lb s50 0
def tK:SC:=lb s50 1
abbrev vW:eY:=[(0,.str),(2,.bool),(6,.any)]
def s96:SC:=ann Try.prog Try.f96 [(vW,[0],true)]
def CA:SC:=lb s96 0
def JP:SC:=ann Try.prog Try.f105 []
def JW:SC:=ann Try.prog Try.f106 []
def fn3:AFn:=⟨2,ax Try.prog Try.f3,aR Try.prog Try.f3⟩
def fn5:AFn:=⟨4,ax Try.prog Try.f5,aR Try.prog Try.f5⟩
def fn8:AFn:=⟨5,ax Try.prog Try.f8,aR Try.prog Try.f8⟩
def fn9:AFn:=⟨3,ax Try.prog Try.f9,aR Try.prog Try.f9⟩
def GF:AFn:=⟨2,ax Try.prog Try.f10,aR Try.prog Try.f10⟩
def B7:AFn:=⟨0,ax Try.prog Try.f11,aR Try.prog Try.f11⟩
def Cf:AFn:=⟨1,ax Try.prog Try.f12,aR Try.prog Try.f12⟩
def D0:AFn:=⟨1,ax Try.prog Try.f13,aR Try.prog Try.f13⟩
def BX:AFn:=⟨4,ax Try.prog Try.f14,aR Try.prog Try.f14⟩
def BJ:AFn:=⟨2,ax Try.prog Try.f15,aR Try.prog Try.f15⟩
def wz:AFn:=⟨1,ax Try.prog Try.f16,aR Try.prog Try.f16⟩
def wq:AFn:=⟨1,ax Try.prog Try.f17,aR Try.prog Try.f17⟩
def wm:AFn:=⟨1,ax Try.prog Try.f18,aR Try.prog Try.f18⟩
def C0:AFn:=⟨2,ax Try.prog Try.f19,aR Try.prog Try.f19⟩
def wk:AFn:=⟨1,ax Try.prog Try.f20,aR Try.prog Try.f20⟩
def CR:AFn:=⟨3,ax Try.prog Try.f21,aR Try.prog Try.f21⟩
def Bw:AFn:=⟨2,ax Try.prog Try.f22,aR Try.prog Try.f22⟩
def xa:AFn:=⟨1,ax Try.prog Try.f23,aR Try.prog Try.f23⟩
def DM:AFn:=⟨2,ax Try.prog Try.f24,aR Try.prog Try.f24⟩
def Gc:AFn:=⟨3,ax Try.prog Try.f25,aR Try.prog Try.f25⟩
def GB:AFn:=⟨0,ax Try.prog Try.f26,aR Try.prog Try.f26⟩
def GM:AFn:=⟨3,ax Try.prog Try.f27,aR Try.prog Try.f27⟩
def GJ:AFn:=⟨2,ax Try.prog Try.f28,aR Try.prog Try.f28⟩
def Ec:AFn:=⟨1,ax Try.prog Try.f29,aR Try.prog Try.f29⟩
def Ey:AFn:=⟨1,ax Try.prog Try.f30,aR Try.prog Try.f30⟩
def Eh:AFn:=⟨2,ax Try.prog Try.f31,aR Try.prog Try.f31⟩
def Er:AFn:=⟨3,ax Try.prog Try.f32,aR Try.prog Try.f32⟩
def Et:AFn:=⟨1,ax Try.prog Try.f33,aR Try.prog Try.f33⟩
def F6:AFn:=⟨2,ax Try.prog Try.f34,aR Try.prog Try.f34⟩
def DP:AFn:=⟨3,ax Try.prog Try.f35,aR Try.prog Try.f35⟩
def BP:AFn:=⟨2,ax Try.prog Try.f36,aR Try.prog Try.f36⟩
def D4:AFn:=⟨3,ax Try.prog Try.f37,aR Try.prog Try.f37⟩
def Du:AFn:=⟨2,ax Try.prog Try.f38,aR Try.prog Try.f38⟩
def Cv:AFn:=⟨1,ax Try.prog Try.f39,aR Try.prog Try.f39⟩
def CM:AFn:=⟨1,ax Try.prog Try.f40,aR Try.prog Try.f40⟩
def CD:AFn:=⟨2,ax Try.prog Try.f41,aR Try.prog Try.f41⟩
def C5:AFn:=⟨1,ax Try.prog Try.f42,aR Try.prog Try.f42⟩
def BD:AFn:=⟨2,ax Try.prog Try.f43,aR Try.prog Try.f43⟩
def Ct:AFn:=⟨2,ax Try.prog Try.f44,aR Try.prog Try.f44⟩
def B6:AFn:=⟨3,ax Try.prog Try.f45,aR Try.prog Try.f45⟩
def D3:AFn:=⟨2,ax Try.prog Try.f46,aR Try.prog Try.f46⟩
def Dg:AFn:=⟨2,ax Try.prog Try.f47,aR Try.prog Try.f47⟩
def Dy:AFn:=⟨1,ax Try.prog Try.f48,aR Try.prog Try.f48⟩
def DF:AFn:=⟨2,ax Try.prog Try.f49,aR Try.prog Try.f49⟩
def Eg:AFn:=⟨2,ax Try.prog Try.f50,aR Try.prog Try.f50⟩
def Cd:AFn:=⟨2,ax Try.prog Try.f51,aR Try.prog Try.f51⟩
def Gw:AFn:=⟨2,ax Try.prog Try.f52,aR Try.prog Try.f52⟩
def Ga:AFn:=⟨3,ax Try.prog Try.f53,aR Try.prog Try.f53⟩
def Gs:AFn:=⟨1,ax Try.prog Try.f54,aR Try.prog Try.f54⟩
def Gf:AFn:=⟨1,ax Try.prog Try.f55,aR Try.prog Try.f55⟩
def GX:AFn:=⟨1,ax Try.prog Try.f56,aR Try.prog Try.f56⟩
def GL:AFn:=⟨1,ax Try.prog Try.f57,aR Try.prog Try.f57⟩
def Gq:AFn:=⟨2,ax Try.prog Try.f58,aR Try.prog Try.f58⟩
def GZ:AFn:=⟨1,ax Try.prog Try.f59,aR Try.prog Try.f59⟩
def Gk:AFn:=⟨2,ax Try.prog Try.f60,aR Try.prog Try.f60⟩
def GP:AFn:=⟨3,ax Try.prog Try.f61,aR Try.prog Try.f61⟩
def GR:AFn:=⟨2,ax Try.prog Try.f62,aR Try.prog Try.f62⟩
def CO:AFn:=⟨1,ax Try.prog Try.f63,aR Try.prog Try.f63⟩
def B2:AFn:=⟨1,ax Try.prog Try.f64,aR Try.prog Try.f64⟩
def CF:AFn:=⟨2,ax Try.prog Try.f65,aR Try.prog Try.f65⟩
def DU:AFn:=⟨2,ax Try.prog Try.f66,aR Try.prog Try.f66⟩
def D7:AFn:=⟨2,ax Try.prog Try.f67,aR Try.prog Try.f67⟩
def Cm:AFn:=⟨1,ax Try.prog Try.f68,aR Try.prog Try.f68⟩
def D9:AFn:=⟨5,ax Try.prog Try.f69,aR Try.prog Try.f69⟩
def Dz:AFn:=⟨1,ax Try.prog Try.f70,aR Try.prog Try.f70⟩
def Dq:AFn:=⟨1,ax Try.prog Try.f71,aR Try.prog Try.f71⟩
def Gx:AFn:=⟨1,ax Try.prog Try.f72,aR Try.prog Try.f72⟩
def Gj:AFn:=⟨1,ax Try.prog Try.f73,aR Try.prog Try.f73⟩
def GG:AFn:=⟨1,ax Try.prog Try.f74,aR Try.prog Try.f74⟩
def GH:AFn:=⟨1,ax Try.prog Try.f75,aR Try.prog Try.f75⟩
def G3:AFn:=⟨1,ax Try.prog Try.f76,aR Try.prog Try.f76⟩
def Gz:AFn:=⟨1,ax Try.prog Try.f77,aR Try.prog Try.f77⟩
def GK:AFn:=⟨3,ax Try.prog Try.f78,aR Try.prog Try.f78⟩
def BU:AFn:=⟨2,ax Try.prog Try.f79,aR Try.prog Try.f79⟩
def Cz:AFn:=⟨2,ax Try.prog Try.f80,aR Try.prog Try.f80⟩
def B4:AFn:=⟨2,ax Try.prog Try.f81,aR Try.prog Try.f81⟩
def BN:AFn:=⟨2,ax Try.prog Try.f82,aR Try.prog Try.f82⟩
def DW:AFn:=⟨4,ax Try.prog Try.f83,aR Try.prog Try.f83⟩
def CZ:AFn:=⟨4,ax Try.prog Try.f84,aR Try.prog Try.f84⟩
def D6:AFn:=⟨4,ax Try.prog Try.f85,aR Try.prog Try.f85⟩
def D5:AFn:=⟨4,ax Try.prog Try.f86,aR Try.prog Try.f86⟩
def Df:AFn:=⟨4,ax Try.prog Try.f87,aR Try.prog Try.f87⟩
def CK:AFn:=⟨4,ax Try.prog Try.f88,aR Try.prog Try.f88⟩
def Cy:AFn:=⟨5,ax Try.prog Try.f89,aR Try.prog Try.f89⟩
def C3:AFn:=⟨5,ax Try.prog Try.f90,aR Try.prog Try.f90⟩
def GA:AFn:=⟨1,ax Try.prog Try.f91,aR Try.prog Try.f91⟩
def DR:AFn:=⟨1,ax Try.prog Try.f92,aR Try.prog Try.f92⟩
def Gh:AFn:=⟨2,ax Try.prog Try.f93,aR Try.prog Try.f93⟩
def Gp:AFn:=⟨1,ax Try.prog Try.f94,aR Try.prog Try.f94⟩
def Gg:AFn:=⟨1,ax Try.prog Try.f95,aR Try.prog Try.f95⟩
def F9:AFn:=⟨1,ax Try.prog Try.f96,aR Try.prog Try.f96⟩
def GW:AFn:=⟨2,ax Try.prog Try.f97,aR Try.prog Try.f97⟩
def Gy:AFn:=⟨2,ax Try.prog Try.f98,aR Try.prog Try.f98⟩
def Cr:AFn:=⟨5,ax Try.prog Try.f99,aR Try.prog Try.f99⟩
def sn:AFn:=⟨1,ax Try.prog Try.f100,aR Try.prog Try.f100⟩
def rh:AFn:=⟨1,ax Try.prog Try.f101,aR Try.prog Try.f101⟩
def rP:AFn:=⟨4,ax Try.prog Try.f102,aR Try.prog Try.f102⟩
def su:AFn:=⟨6,ax Try.prog Try.f103,aR Try.prog Try.f103⟩
def De:AFn:=⟨2,ax Try.prog Try.f104,aR Try.prog Try.f104⟩
def D8:AFn:=⟨1,ax Try.prog Try.f105,aR Try.prog Try.f105⟩
def CX:AFn:=⟨1,ax Try.prog Try.f106,aR Try.prog Try.f106⟩
def Dv:AFn:=⟨2,ax Try.prog Try.f107,aR Try.prog Try.f107⟩
def Bx:AFn:=⟨2,ax Try.prog Try.f108,aR Try.prog Try.f108⟩
def rb:AFn:=⟨5,ax Try.prog Try.f109,aR Try.prog Try.f109⟩
def CI:AFn:=⟨2,ax Try.prog Try.f110,aR Try.prog Try.f110⟩
def tX:AFn:=⟨2,ax Try.prog Try.f126,aR Try.prog Try.f126⟩
def uu:AFn:=⟨2,ax Try.prog Try.f127,aR Try.prog Try.f127⟩
def r9:AFn:=⟨1,ax Try.prog Try.f128,aR Try.prog Try.f128⟩
def rT:AFn:=⟨1,ax Try.prog Try.f129,aR Try.prog Try.f129⟩
def sX:AFn:=⟨1,ax Try.prog Try.f130,aR Try.prog Try.f130⟩
def rJ:AFn:=⟨2,ax Try.prog Try.f131,aR Try.prog Try.f131⟩
def lS:AFn:=⟨1,ax Try.prog Try.f132,aR Try.prog Try.f132⟩
def sy:AFn:=⟨1,ax Try.prog Try.f133,aR Try.prog Try.f133⟩
def tW:AFn:=⟨3,ax Try.prog Try.f134,aR Try.prog Try.f134⟩
def rL:AFn:=⟨2,ax Try.prog Try.f135,aR Try.prog Try.f135⟩
def uc:AFn:=⟨3,ax Try.prog Try.f136,aR Try.prog Try.f136⟩
def sU:AFn:=⟨2,ax Try.prog Try.f137,aR Try.prog Try.f137⟩
def ui:AFn:=⟨2,ax Try.prog Try.f138,aR Try.prog Try.f138⟩
def tF:AFn:=⟨1,ax Try.prog Try.f139,aR Try.prog Try.f139⟩
def sK:AFn:=⟨2,ax Try.prog Try.f140,aR Try.prog Try.f140⟩
def F:Nat→Option AFn
 | 3=>some fn3
 | 5=>some fn5
 | 8=>some fn8
 | 9=>some fn9
 | 10=>some GF
 | 11=>some B7
 | 12=>some Cf
 | 13=>some D0
 | 14=>some BX
 | 15=>some BJ
 | 16=>some wz
 | 17=>some wq
 | 18=>some wm
 | 19=>some C0
 | 20=>some wk
 | 21=>some CR
 | 22=>some Bw
 | 23=>some xa
 | 24=>some DM
 | 25=>some Gc
 | 26=>some GB
 | 27=>some GM
 | 28=>some GJ
 | 29=>some Ec
 | 30=>some Ey
 | 31=>some Eh
 | 32=>some Er
 | 33=>some Et
 | 34=>some F6
 | 35=>some DP
 | 36=>some BP
 | 37=>some D4
 | 38=>some Du
 | 39=>some Cv
 | 40=>some CM
 | 41=>some CD
 | 42=>some C5
 | 43=>some BD
 | 44=>some Ct
 | 45=>some B6
 | 46=>some D3
 | 47=>some Dg
 | 48=>some Dy
 | 49=>some DF
 | 50=>some Eg
 | 51=>some Cd
 | 52=>some Gw
 | 53=>some Ga
 | 54=>some Gs
 | 55=>some Gf
 | 56=>some GX
 | 57=>some GL
 | 58=>some Gq
 | 59=>some GZ
 | 60=>some Gk
 | 61=>some GP
 | 62=>some GR
 | 63=>some CO
 | 64=>some B2
 | 65=>some CF
 | 66=>some DU
 | 67=>some D7
 | 68=>some Cm
 | 69=>some D9
 | 70=>some Dz
 | 71=>some Dq
 | 72=>some Gx
 | 73=>some Gj
 | 74=>some GG
 | 75=>some GH
 | 76=>some G3
 | 77=>some Gz
 | 78=>some GK
 | 79=>some BU
 | 80=>some Cz
 | 81=>some B4
 | 82=>some BN
 | 83=>some DW
 | 84=>some CZ
 | 85=>some D6
 | 86=>some D5
 | 87=>some Df
 | 88=>some CK
 | 89=>some Cy
 | 90=>some C3
 | 91=>some GA
 | 92=>some DR
 | 93=>some Gh
 | 94=>some Gp
 | 95=>some Gg
 | 96=>some F9
 | 97=>some GW
 | 98=>some Gy
 | 99=>some Cr
 | 100=>some sn
 | 101=>some rh
 | 102=>some rP
 | 103=>some su
 | 104=>some De
 | 105=>some D8
 | 106=>some CX
 | 107=>some Dv
 | 108=>some Bx
 | 109=>some rb
 | 110=>some CI
 | 126=>some tX
 | 127=>some uu
 | 128=>some r9
 | 129=>some rT
 | 130=>some sX
 | 131=>some rJ
 | 132=>some lS
 | 133=>some sy
 | 134=>some tW
 | 135=>some rL
 | 136=>some uc
 | 137=>some sU
 | 138=>some ui
 | 139=>some tF
 | 140=>some sK
 | _=>none
theorem ok3:FnOk Try.prog 3 fn3:=ag Try.func3 (by kernel_rfl) (by kernel_rfl)
theorem ok5:FnOk Try.prog 5 fn5:=ag Try.func5 (by kernel_rfl) (by kernel_rfl)
theorem ok8:FnOk Try.prog 8 fn8:=ag Try.func8 (by kernel_rfl) (by kernel_rfl)
theorem ok9:FnOk Try.prog 9 fn9:=ag Try.func9 (by kernel_rfl) (by kernel_rfl)
theorem Ia:FnOk Try.prog 10 GF:=ag Try.func10 (by kernel_rfl) (by kernel_rfl)
theorem Ic:FnOk Try.prog 11 B7:=ag Try.func11 (by kernel_rfl) (by kernel_rfl)
theorem IG:FnOk Try.prog 12 Cf:=ag Try.func12 (by kernel_rfl) (by kernel_rfl)
theorem JH:FnOk Try.prog 13 D0:=ag Try.func13 (by kernel_rfl) (by kernel_rfl)
theorem Ie:FnOk Try.prog 14 BX:=ag Try.func14 (by kernel_rfl) (by kernel_rfl)
theorem H9:FnOk Try.prog 15 BJ:=ag Try.func15 (by kernel_rfl) (by kernel_rfl)
theorem Iu:FnOk Try.prog 16 wz:=ag Try.func16 (by kernel_rfl) (by kernel_rfl)
theorem G9:FnOk Try.prog 17 wq:=ag Try.func17 (by kernel_rfl) (by kernel_rfl)
theorem I4:FnOk Try.prog 18 wm:=ag Try.func18 (by kernel_rfl) (by kernel_rfl)
theorem Jv:FnOk Try.prog 19 C0:=ag Try.func19 (by kernel_rfl) (by kernel_rfl)
theorem Hr:FnOk Try.prog 20 wk:=ag Try.func20 (by kernel_rfl) (by kernel_rfl)
theorem HW:FnOk Try.prog 21 CR:=ag Try.func21 (by kernel_rfl) (by kernel_rfl)
theorem G8:FnOk Try.prog 22 Bw:=ag Try.func22 (by kernel_rfl) (by kernel_rfl)
theorem JG:FnOk Try.prog 23 xa:=ag Try.func23 (by kernel_rfl) (by kernel_rfl)
theorem H0:FnOk Try.prog 24 DM:=ag Try.func24 (by kernel_rfl) (by kernel_rfl)
theorem HK:FnOk Try.prog 25 Gc:=ag Try.func25 (by kernel_rfl) (by kernel_rfl)
theorem H8:FnOk Try.prog 26 GB:=ag Try.func26 (by kernel_rfl) (by kernel_rfl)
theorem II:FnOk Try.prog 27 GM:=ag Try.func27 (by kernel_rfl) (by kernel_rfl)
theorem Hj:FnOk Try.prog 28 GJ:=ag Try.func28 (by kernel_rfl) (by kernel_rfl)
theorem Hb:FnOk Try.prog 29 Ec:=ag Try.func29 (by kernel_rfl) (by kernel_rfl)
theorem IK:FnOk Try.prog 30 Ey:=ag Try.func30 (by kernel_rfl) (by kernel_rfl)
theorem Il:FnOk Try.prog 31 Eh:=ag Try.func31 (by kernel_rfl) (by kernel_rfl)
theorem I5:FnOk Try.prog 32 Er:=ag Try.func32 (by kernel_rfl) (by kernel_rfl)
theorem JI:FnOk Try.prog 33 Et:=ag Try.func33 (by kernel_rfl) (by kernel_rfl)
theorem IV:FnOk Try.prog 34 F6:=ag Try.func34 (by kernel_rfl) (by kernel_rfl)
theorem HE:FnOk Try.prog 35 DP:=ag Try.func35 (by kernel_rfl) (by kernel_rfl)
theorem Jd:FnOk Try.prog 36 BP:=ag Try.func36 (by kernel_rfl) (by kernel_rfl)
theorem Hn:FnOk Try.prog 37 D4:=ag Try.func37 (by kernel_rfl) (by kernel_rfl)
theorem HJ:FnOk Try.prog 38 Du:=ag Try.func38 (by kernel_rfl) (by kernel_rfl)
theorem HT:FnOk Try.prog 39 Cv:=ag Try.func39 (by kernel_rfl) (by kernel_rfl)
theorem IR:FnOk Try.prog 40 CM:=ag Try.func40 (by kernel_rfl) (by kernel_rfl)
theorem I1:FnOk Try.prog 41 CD:=ag Try.func41 (by kernel_rfl) (by kernel_rfl)
theorem JO:FnOk Try.prog 42 C5:=ag Try.func42 (by kernel_rfl) (by kernel_rfl)
theorem HN:FnOk Try.prog 43 BD:=ag Try.func43 (by kernel_rfl) (by kernel_rfl)
theorem I7:FnOk Try.prog 44 Ct:=ag Try.func44 (by kernel_rfl) (by kernel_rfl)
theorem Ir:FnOk Try.prog 45 B6:=ag Try.func45 (by kernel_rfl) (by kernel_rfl)
theorem Hd:FnOk Try.prog 46 D3:=ag Try.func46 (by kernel_rfl) (by kernel_rfl)
theorem HG:FnOk Try.prog 47 Dg:=ag Try.func47 (by kernel_rfl) (by kernel_rfl)
theorem JB:FnOk Try.prog 48 Dy:=ag Try.func48 (by kernel_rfl) (by kernel_rfl)
theorem HA:FnOk Try.prog 49 DF:=ag Try.func49 (by kernel_rfl) (by kernel_rfl)
theorem I8:FnOk Try.prog 50 Eg:=ag Try.func50 (by kernel_rfl) (by kernel_rfl)
theorem Ho:FnOk Try.prog 51 Cd:=ag Try.func51 (by kernel_rfl) (by kernel_rfl)
theorem Ix:FnOk Try.prog 52 Gw:=ag Try.func52 (by kernel_rfl) (by kernel_rfl)
theorem HS:FnOk Try.prog 53 Ga:=ag Try.func53 (by kernel_rfl) (by kernel_rfl)
theorem IP:FnOk Try.prog 54 Gs:=ag Try.func54 (by kernel_rfl) (by kernel_rfl)
theorem I6:FnOk Try.prog 55 Gf:=ag Try.func55 (by kernel_rfl) (by kernel_rfl)
theorem JN:FnOk Try.prog 56 GX:=ag Try.func56 (by kernel_rfl) (by kernel_rfl)
theorem HP:FnOk Try.prog 57 GL:=ag Try.func57 (by kernel_rfl) (by kernel_rfl)
theorem IX:FnOk Try.prog 58 Gq:=ag Try.func58 (by kernel_rfl) (by kernel_rfl)
theorem JJ:FnOk Try.prog 59 GZ:=ag Try.func59 (by kernel_rfl) (by kernel_rfl)
theorem Hu:FnOk Try.prog 60 Gk:=ag Try.func60 (by kernel_rfl) (by kernel_rfl)
theorem Jj:FnOk Try.prog 61 GP:=ag Try.func61 (by kernel_rfl) (by kernel_rfl)
theorem HC:FnOk Try.prog 62 GR:=ag Try.func62 (by kernel_rfl) (by kernel_rfl)
theorem Hg:FnOk Try.prog 63 CO:=ag Try.func63 (by kernel_rfl) (by kernel_rfl)
theorem Jt:FnOk Try.prog 64 B2:=ag Try.func64 (by kernel_rfl) (by kernel_rfl)
theorem Iv:FnOk Try.prog 65 CF:=ag Try.func65 (by kernel_rfl) (by kernel_rfl)
theorem IA:FnOk Try.prog 66 DU:=ag Try.func66 (by kernel_rfl) (by kernel_rfl)
theorem Hx:FnOk Try.prog 67 D7:=ag Try.func67 (by kernel_rfl) (by kernel_rfl)
theorem IM:FnOk Try.prog 68 Cm:=ag Try.func68 (by kernel_rfl) (by kernel_rfl)
theorem Hm:FnOk Try.prog 69 D9:=ag Try.func69 (by kernel_rfl) (by kernel_rfl)
theorem JK:FnOk Try.prog 70 Dz:=ag Try.func70 (by kernel_rfl) (by kernel_rfl)
theorem He:FnOk Try.prog 71 Dq:=ag Try.func71 (by kernel_rfl) (by kernel_rfl)
theorem Ja:FnOk Try.prog 72 Gx:=ag Try.func72 (by kernel_rfl) (by kernel_rfl)
theorem JA:FnOk Try.prog 73 Gj:=ag Try.func73 (by kernel_rfl) (by kernel_rfl)
theorem JC:FnOk Try.prog 74 GG:=ag Try.func74 (by kernel_rfl) (by kernel_rfl)
theorem I3:FnOk Try.prog 75 GH:=ag Try.func75 (by kernel_rfl) (by kernel_rfl)
theorem Jf:FnOk Try.prog 76 G3:=ag Try.func76 (by kernel_rfl) (by kernel_rfl)
theorem Jn:FnOk Try.prog 77 Gz:=ag Try.func77 (by kernel_rfl) (by kernel_rfl)
theorem H7:FnOk Try.prog 78 GK:=ag Try.func78 (by kernel_rfl) (by kernel_rfl)
theorem G5:FnOk Try.prog 79 BU:=ag Try.func79 (by kernel_rfl) (by kernel_rfl)
theorem Jb:FnOk Try.prog 80 Cz:=ag Try.func80 (by kernel_rfl) (by kernel_rfl)
theorem HU:FnOk Try.prog 81 B4:=ag Try.func81 (by kernel_rfl) (by kernel_rfl)
theorem Ij:FnOk Try.prog 82 BN:=ag Try.func82 (by kernel_rfl) (by kernel_rfl)
theorem Hh:FnOk Try.prog 83 DW:=ag Try.func83 (by kernel_rfl) (by kernel_rfl)
theorem Jh:FnOk Try.prog 84 CZ:=ag Try.func84 (by kernel_rfl) (by kernel_rfl)
theorem Ib:FnOk Try.prog 85 D6:=ag Try.func85 (by kernel_rfl) (by kernel_rfl)
theorem Hl:FnOk Try.prog 86 D5:=ag Try.func86 (by kernel_rfl) (by kernel_rfl)
theorem JL:FnOk Try.prog 87 Df:=ag Try.func87 (by kernel_rfl) (by kernel_rfl)
theorem IZ:FnOk Try.prog 88 CK:=ag Try.func88 (by kernel_rfl) (by kernel_rfl)
theorem IU:FnOk Try.prog 89 Cy:=ag Try.func89 (by kernel_rfl) (by kernel_rfl)
theorem Iq:FnOk Try.prog 90 C3:=ag Try.func90 (by kernel_rfl) (by kernel_rfl)
theorem HO:FnOk Try.prog 91 GA:=ag Try.func91 (by kernel_rfl) (by kernel_rfl)
theorem Ih:FnOk Try.prog 92 DR:=ag Try.func92 (by kernel_rfl) (by kernel_rfl)
theorem HM:FnOk Try.prog 93 Gh:=ag Try.func93 (by kernel_rfl) (by kernel_rfl)
theorem H4:FnOk Try.prog 94 Gp:=ag Try.func94 (by kernel_rfl) (by kernel_rfl)
theorem Io:FnOk Try.prog 95 Gg:=ag Try.func95 (by kernel_rfl) (by kernel_rfl)
theorem Iw:FnOk Try.prog 96 F9:=ag Try.func96 (by kernel_rfl) (by kernel_rfl)
theorem IB:FnOk Try.prog 97 GW:=ag Try.func97 (by kernel_rfl) (by kernel_rfl)
theorem JE:FnOk Try.prog 98 Gy:=ag Try.func98 (by kernel_rfl) (by kernel_rfl)
theorem Hy:FnOk Try.prog 99 Cr:=ag Try.func99 (by kernel_rfl) (by kernel_rfl)
theorem EL:FnOk Try.prog 100 sn:=ag Try.func100 (by kernel_rfl) (by kernel_rfl)
theorem FA:FnOk Try.prog 101 rh:=ag Try.func101 (by kernel_rfl) (by kernel_rfl)
theorem FX:FnOk Try.prog 102 rP:=ag Try.func102 (by kernel_rfl) (by kernel_rfl)
theorem Fd:FnOk Try.prog 103 su:=ag Try.func103 (by kernel_rfl) (by kernel_rfl)
theorem FH:FnOk Try.prog 104 De:=ag Try.func104 (by kernel_rfl) (by kernel_rfl)
theorem Fu:FnOk Try.prog 105 D8:=ag Try.func105 (by kernel_rfl) (by kernel_rfl)
theorem F0:FnOk Try.prog 106 CX:=ag Try.func106 (by kernel_rfl) (by kernel_rfl)
theorem FR:FnOk Try.prog 107 Dv:=ag Try.func107 (by kernel_rfl) (by kernel_rfl)
theorem FK:FnOk Try.prog 108 Bx:=ag Try.func108 (by kernel_rfl) (by kernel_rfl)
theorem E9:FnOk Try.prog 109 rb:=ag Try.func109 (by kernel_rfl) (by kernel_rfl)
theorem Fc:FnOk Try.prog 110 CI:=ag Try.func110 (by kernel_rfl) (by kernel_rfl)
theorem EP:FnOk Try.prog 126 tX:=ag Try.func126 (by kernel_rfl) (by kernel_rfl)
theorem EX:FnOk Try.prog 127 uu:=ag Try.func127 (by kernel_rfl) (by kernel_rfl)
theorem Fw:FnOk Try.prog 128 r9:=ag Try.func128 (by kernel_rfl) (by kernel_rfl)
theorem E4:FnOk Try.prog 129 rT:=ag Try.func129 (by kernel_rfl) (by kernel_rfl)
theorem E1:FnOk Try.prog 130 sX:=ag Try.func130 (by kernel_rfl) (by kernel_rfl)
theorem EO:FnOk Try.prog 131 rJ:=ag Try.func131 (by kernel_rfl) (by kernel_rfl)
theorem EK:FnOk Try.prog 132 lS:=ag Try.func132 (by kernel_rfl) (by kernel_rfl)
theorem FS:FnOk Try.prog 133 sy:=ag Try.func133 (by kernel_rfl) (by kernel_rfl)
theorem EG:FnOk Try.prog 134 tW:=ag Try.func134 (by kernel_rfl) (by kernel_rfl)
theorem Fy:FnOk Try.prog 135 rL:=ag Try.func135 (by kernel_rfl) (by kernel_rfl)
theorem FG:FnOk Try.prog 136 uc:=ag Try.func136 (by kernel_rfl) (by kernel_rfl)
theorem FU:FnOk Try.prog 137 sU:=ag Try.func137 (by kernel_rfl) (by kernel_rfl)
theorem FV:FnOk Try.prog 138 ui:=ag Try.func138 (by kernel_rfl) (by kernel_rfl)
theorem F1:FnOk Try.prog 139 tF:=ag Try.func139 (by kernel_rfl) (by kernel_rfl)
theorem E8:FnOk Try.prog 140 sK:=ag Try.func140 (by kernel_rfl) (by kernel_rfl)
theorem Fp:TabOk Try.prog F:=by
 refine ⟨by kernel_rfl,fun f fn h=>?_⟩
 unfold F at h
 split at h
 · cases h; exact ok3
 · cases h; exact ok5
 · cases h; exact ok8
 · cases h; exact ok9
 · cases h; exact Ia
 · cases h; exact Ic
 · cases h; exact IG
 · cases h; exact JH
 · cases h; exact Ie
 · cases h; exact H9
 · cases h; exact Iu
 · cases h; exact G9
 · cases h; exact I4
 · cases h; exact Jv
 · cases h; exact Hr
 · cases h; exact HW
 · cases h; exact G8
 · cases h; exact JG
 · cases h; exact H0
 · cases h; exact HK
 · cases h; exact H8
 · cases h; exact II
 · cases h; exact Hj
 · cases h; exact Hb
 · cases h; exact IK
 · cases h; exact Il
 · cases h; exact I5
 · cases h; exact JI
 · cases h; exact IV
 · cases h; exact HE
 · cases h; exact Jd
 · cases h; exact Hn
 · cases h; exact HJ
 · cases h; exact HT
 · cases h; exact IR
 · cases h; exact I1
 · cases h; exact JO
 · cases h; exact HN
 · cases h; exact I7
 · cases h; exact Ir
 · cases h; exact Hd
 · cases h; exact HG
 · cases h; exact JB
 · cases h; exact HA
 · cases h; exact I8
 · cases h; exact Ho
 · cases h; exact Ix
 · cases h; exact HS
 · cases h; exact IP
 · cases h; exact I6
 · cases h; exact JN
 · cases h; exact HP
 · cases h; exact IX
 · cases h; exact JJ
 · cases h; exact Hu
 · cases h; exact Jj
 · cases h; exact HC
 · cases h; exact Hg
 · cases h; exact Jt
 · cases h; exact Iv
 · cases h; exact IA
 · cases h; exact Hx
 · cases h; exact IM
 · cases h; exact Hm
 · cases h; exact JK
 · cases h; exact He
 · cases h; exact Ja
 · cases h; exact JA
 · cases h; exact JC
 · cases h; exact I3
 · cases h; exact Jf
 · cases h; exact Jn
 · cases h; exact H7
 · cases h; exact G5
 · cases h; exact Jb
 · cases h; exact HU
 · cases h; exact Ij
 · cases h; exact Hh
 · cases h; exact Jh
 · cases h; exact Ib
 · cases h; exact Hl
 · cases h; exact JL
 · cases h; exact IZ
 · cases h; exact IU
 · cases h; exact Iq
 · cases h; exact HO
 · cases h; exact Ih
 · cases h; exact HM
 · cases h; exact H4
 · cases h; exact Io
 · cases h; exact Iw
 · cases h; exact IB
 · cases h; exact JE
 · cases h; exact Hy
 · cases h; exact EL
 · cases h; exact FA
 · cases h; exact FX
 · cases h; exact Fd
 · cases h; exact FH
 · cases h; exact Fu
 · cases h; exact F0
 · cases h; exact FR
 · cases h; exact FK
 · cases h; exact E9
 · cases h; exact Fc
 · cases h; exact EP
 · cases h; exact EX
 · cases h; exact Fw
 · cases h; exact E4
 · cases h; exact E1
 · cases h; exact EO
 · cases h; exact EK
 · cases h; exact FS
 · cases h; exact EG
 · cases h; exact Fy
 · cases h; exact FG
 · cases h; exact FU
 · cases h; exact FV
 · cases h; exact F1
 · cases h; exact E8
 cases h
end
end Go.Proofs.Ytmchbhheoieepaa
