/- The machine's code of the law's functions, computed, and that it is the program's. No condition. Own work. -/
import Derived.Test.YtmchbhheoieepaaAm6KernelLazy
import Derived.Test.YtmchbhheoieepaaProg
import Derived.KernelRfl
set_option linter.unusedVariables false
namespace Go.Proofs.Ytmchbhheoieepaa
open Go Go.Am
noncomputable section
abbrev oM:eh:=[(0,.any),(1,.any),(5,(.int .i64)),(6,.any),(7,(.int .i64))]
abbrev nw:eh:=[(0,.any),(1,.any),(4,.any),(5,(.int .i64))]
def s50:SC:=ann Try.prog Try.f50 [(oM,[2],false),(nw,[0],true)]
def tB:SC:=lb s50 0
def rF:SC:=lb s50 1
abbrev oj:eh:=[(0,.str),(2,.bool),(6,.any)]
def s96:SC:=ann Try.prog Try.f96 [(oj,[0],true)]
def pZ:SC:=lb s96 0
def HT:SC:=ann Try.prog Try.f105 []
def HU:SC:=ann Try.prog Try.f106 []
def Bi:AFn:=⟨2,ax Try.prog Try.f10,aR Try.prog Try.f10⟩
def AS:AFn:=⟨4,ax Try.prog Try.f14,aR Try.prog Try.f14⟩
def B4:AFn:=⟨1,ax Try.prog Try.f16,aR Try.prog Try.f16⟩
def CG:AFn:=⟨1,ax Try.prog Try.f17,aR Try.prog Try.f17⟩
def Cr:AFn:=⟨1,ax Try.prog Try.f18,aR Try.prog Try.f18⟩
def CF:AFn:=⟨1,ax Try.prog Try.f20,aR Try.prog Try.f20⟩
def Bs:AFn:=⟨2,ax Try.prog Try.f22,aR Try.prog Try.f22⟩
def BV:AFn:=⟨1,ax Try.prog Try.f23,aR Try.prog Try.f23⟩
def BE:AFn:=⟨2,ax Try.prog Try.f24,aR Try.prog Try.f24⟩
def Af:AFn:=⟨3,ax Try.prog Try.f25,aR Try.prog Try.f25⟩
def BS:AFn:=⟨0,ax Try.prog Try.f26,aR Try.prog Try.f26⟩
def B1:AFn:=⟨3,ax Try.prog Try.f27,aR Try.prog Try.f27⟩
def AM:AFn:=⟨2,ax Try.prog Try.f28,aR Try.prog Try.f28⟩
def Ai:AFn:=⟨1,ax Try.prog Try.f29,aR Try.prog Try.f29⟩
def Cj:AFn:=⟨1,ax Try.prog Try.f30,aR Try.prog Try.f30⟩
def Cb:AFn:=⟨2,ax Try.prog Try.f31,aR Try.prog Try.f31⟩
def BN:AFn:=⟨3,ax Try.prog Try.f32,aR Try.prog Try.f32⟩
def Bp:AFn:=⟨1,ax Try.prog Try.f33,aR Try.prog Try.f33⟩
def Cm:AFn:=⟨2,ax Try.prog Try.f34,aR Try.prog Try.f34⟩
def BJ:AFn:=⟨2,ax Try.prog Try.f36,aR Try.prog Try.f36⟩
def AP:AFn:=⟨3,ax Try.prog Try.f37,aR Try.prog Try.f37⟩
def AN:AFn:=⟨1,ax Try.prog Try.f39,aR Try.prog Try.f39⟩
def Ap:AFn:=⟨1,ax Try.prog Try.f40,aR Try.prog Try.f40⟩
def Ah:AFn:=⟨2,ax Try.prog Try.f41,aR Try.prog Try.f41⟩
def Ce:AFn:=⟨1,ax Try.prog Try.f42,aR Try.prog Try.f42⟩
def B5:AFn:=⟨2,ax Try.prog Try.f46,aR Try.prog Try.f46⟩
def Bk:AFn:=⟨2,ax Try.prog Try.f47,aR Try.prog Try.f47⟩
def Cl:AFn:=⟨1,ax Try.prog Try.f48,aR Try.prog Try.f48⟩
def As:AFn:=⟨2,ax Try.prog Try.f49,aR Try.prog Try.f49⟩
def CK:AFn:=⟨2,ax Try.prog Try.f50,aR Try.prog Try.f50⟩
def AW:AFn:=⟨2,ax Try.prog Try.f51,aR Try.prog Try.f51⟩
def AI:AFn:=⟨2,ax Try.prog Try.f52,aR Try.prog Try.f52⟩
def BZ:AFn:=⟨3,ax Try.prog Try.f53,aR Try.prog Try.f53⟩
def Cg:AFn:=⟨1,ax Try.prog Try.f54,aR Try.prog Try.f54⟩
def AY:AFn:=⟨1,ax Try.prog Try.f55,aR Try.prog Try.f55⟩
def BT:AFn:=⟨1,ax Try.prog Try.f56,aR Try.prog Try.f56⟩
def B0:AFn:=⟨1,ax Try.prog Try.f57,aR Try.prog Try.f57⟩
def z9:AFn:=⟨2,ax Try.prog Try.f58,aR Try.prog Try.f58⟩
def Az:AFn:=⟨1,ax Try.prog Try.f59,aR Try.prog Try.f59⟩
def A7:AFn:=⟨2,ax Try.prog Try.f60,aR Try.prog Try.f60⟩
def CD:AFn:=⟨3,ax Try.prog Try.f61,aR Try.prog Try.f61⟩
def A1:AFn:=⟨2,ax Try.prog Try.f62,aR Try.prog Try.f62⟩
def B2:AFn:=⟨1,ax Try.prog Try.f63,aR Try.prog Try.f63⟩
def A2:AFn:=⟨1,ax Try.prog Try.f64,aR Try.prog Try.f64⟩
def AR:AFn:=⟨2,ax Try.prog Try.f65,aR Try.prog Try.f65⟩
def Ck:AFn:=⟨2,ax Try.prog Try.f66,aR Try.prog Try.f66⟩
def Cw:AFn:=⟨5,ax Try.prog Try.f69,aR Try.prog Try.f69⟩
def Ci:AFn:=⟨1,ax Try.prog Try.f70,aR Try.prog Try.f70⟩
def Ad:AFn:=⟨1,ax Try.prog Try.f71,aR Try.prog Try.f71⟩
def Bt:AFn:=⟨1,ax Try.prog Try.f72,aR Try.prog Try.f72⟩
def A3:AFn:=⟨1,ax Try.prog Try.f73,aR Try.prog Try.f73⟩
def BW:AFn:=⟨1,ax Try.prog Try.f74,aR Try.prog Try.f74⟩
def Aw:AFn:=⟨1,ax Try.prog Try.f75,aR Try.prog Try.f75⟩
def Cz:AFn:=⟨1,ax Try.prog Try.f76,aR Try.prog Try.f76⟩
def Cc:AFn:=⟨1,ax Try.prog Try.f77,aR Try.prog Try.f77⟩
def Av:AFn:=⟨3,ax Try.prog Try.f78,aR Try.prog Try.f78⟩
def Cu:AFn:=⟨4,ax Try.prog Try.f83,aR Try.prog Try.f83⟩
def Bv:AFn:=⟨4,ax Try.prog Try.f84,aR Try.prog Try.f84⟩
def Co:AFn:=⟨4,ax Try.prog Try.f85,aR Try.prog Try.f85⟩
def BA:AFn:=⟨4,ax Try.prog Try.f86,aR Try.prog Try.f86⟩
def A8:AFn:=⟨4,ax Try.prog Try.f87,aR Try.prog Try.f87⟩
def B7:AFn:=⟨4,ax Try.prog Try.f88,aR Try.prog Try.f88⟩
def Cq:AFn:=⟨5,ax Try.prog Try.f89,aR Try.prog Try.f89⟩
def Be:AFn:=⟨5,ax Try.prog Try.f90,aR Try.prog Try.f90⟩
def EM:AFn:=⟨1,ax Try.prog Try.f91,aR Try.prog Try.f91⟩
def BB:AFn:=⟨1,ax Try.prog Try.f92,aR Try.prog Try.f92⟩
def Bg:AFn:=⟨2,ax Try.prog Try.f93,aR Try.prog Try.f93⟩
def Bx:AFn:=⟨1,ax Try.prog Try.f94,aR Try.prog Try.f94⟩
def AZ:AFn:=⟨1,ax Try.prog Try.f95,aR Try.prog Try.f95⟩
def CR:AFn:=⟨1,ax Try.prog Try.f96,aR Try.prog Try.f96⟩
def CH:AFn:=⟨2,ax Try.prog Try.f97,aR Try.prog Try.f97⟩
def BI:AFn:=⟨2,ax Try.prog Try.f98,aR Try.prog Try.f98⟩
def Ar:AFn:=⟨5,ax Try.prog Try.f99,aR Try.prog Try.f99⟩
def ta:AFn:=⟨1,ax Try.prog Try.f100,aR Try.prog Try.f100⟩
def sC:AFn:=⟨1,ax Try.prog Try.f101,aR Try.prog Try.f101⟩
def sF:AFn:=⟨4,ax Try.prog Try.f102,aR Try.prog Try.f102⟩
def rf:AFn:=⟨6,ax Try.prog Try.f103,aR Try.prog Try.f103⟩
def pO:AFn:=⟨2,ax Try.prog Try.f104,aR Try.prog Try.f104⟩
def sJ:AFn:=⟨1,ax Try.prog Try.f105,aR Try.prog Try.f105⟩
def tx:AFn:=⟨1,ax Try.prog Try.f106,aR Try.prog Try.f106⟩
def pW:AFn:=⟨2,ax Try.prog Try.f107,aR Try.prog Try.f107⟩
def qB:AFn:=⟨2,ax Try.prog Try.f108,aR Try.prog Try.f108⟩
def tq:AFn:=⟨5,ax Try.prog Try.f109,aR Try.prog Try.f109⟩
def si:AFn:=⟨2,ax Try.prog Try.f110,aR Try.prog Try.f110⟩
def qC:AFn:=⟨2,ax Try.prog Try.f126,aR Try.prog Try.f126⟩
def tl:AFn:=⟨2,ax Try.prog Try.f127,aR Try.prog Try.f127⟩
def pR:AFn:=⟨1,ax Try.prog Try.f128,aR Try.prog Try.f128⟩
def rH:AFn:=⟨1,ax Try.prog Try.f129,aR Try.prog Try.f129⟩
def rA:AFn:=⟨1,ax Try.prog Try.f130,aR Try.prog Try.f130⟩
def sd:AFn:=⟨2,ax Try.prog Try.f131,aR Try.prog Try.f131⟩
def li:AFn:=⟨1,ax Try.prog Try.f132,aR Try.prog Try.f132⟩
def sW:AFn:=⟨1,ax Try.prog Try.f133,aR Try.prog Try.f133⟩
def rz:AFn:=⟨3,ax Try.prog Try.f134,aR Try.prog Try.f134⟩
def rP:AFn:=⟨2,ax Try.prog Try.f135,aR Try.prog Try.f135⟩
def rc:AFn:=⟨3,ax Try.prog Try.f136,aR Try.prog Try.f136⟩
def sV:AFn:=⟨2,ax Try.prog Try.f137,aR Try.prog Try.f137⟩
def qI:AFn:=⟨2,ax Try.prog Try.f138,aR Try.prog Try.f138⟩
def qJ:AFn:=⟨1,ax Try.prog Try.f139,aR Try.prog Try.f139⟩
def rZ:AFn:=⟨2,ax Try.prog Try.f140,aR Try.prog Try.f140⟩
def F:Nat→Option AFn
 | 10=>some Bi
 | 14=>some AS
 | 16=>some B4
 | 17=>some CG
 | 18=>some Cr
 | 20=>some CF
 | 22=>some Bs
 | 23=>some BV
 | 24=>some BE
 | 25=>some Af
 | 26=>some BS
 | 27=>some B1
 | 28=>some AM
 | 29=>some Ai
 | 30=>some Cj
 | 31=>some Cb
 | 32=>some BN
 | 33=>some Bp
 | 34=>some Cm
 | 36=>some BJ
 | 37=>some AP
 | 39=>some AN
 | 40=>some Ap
 | 41=>some Ah
 | 42=>some Ce
 | 46=>some B5
 | 47=>some Bk
 | 48=>some Cl
 | 49=>some As
 | 50=>some CK
 | 51=>some AW
 | 52=>some AI
 | 53=>some BZ
 | 54=>some Cg
 | 55=>some AY
 | 56=>some BT
 | 57=>some B0
 | 58=>some z9
 | 59=>some Az
 | 60=>some A7
 | 61=>some CD
 | 62=>some A1
 | 63=>some B2
 | 64=>some A2
 | 65=>some AR
 | 66=>some Ck
 | 69=>some Cw
 | 70=>some Ci
 | 71=>some Ad
 | 72=>some Bt
 | 73=>some A3
 | 74=>some BW
 | 75=>some Aw
 | 76=>some Cz
 | 77=>some Cc
 | 78=>some Av
 | 83=>some Cu
 | 84=>some Bv
 | 85=>some Co
 | 86=>some BA
 | 87=>some A8
 | 88=>some B7
 | 89=>some Cq
 | 90=>some Be
 | 91=>some EM
 | 92=>some BB
 | 93=>some Bg
 | 94=>some Bx
 | 95=>some AZ
 | 96=>some CR
 | 97=>some CH
 | 98=>some BI
 | 99=>some Ar
 | 100=>some ta
 | 101=>some sC
 | 102=>some sF
 | 103=>some rf
 | 104=>some pO
 | 105=>some sJ
 | 106=>some tx
 | 107=>some pW
 | 108=>some qB
 | 109=>some tq
 | 110=>some si
 | 126=>some qC
 | 127=>some tl
 | 128=>some pR
 | 129=>some rH
 | 130=>some rA
 | 131=>some sd
 | 132=>some li
 | 133=>some sW
 | 134=>some rz
 | 135=>some rP
 | 136=>some rc
 | 137=>some sV
 | 138=>some qI
 | 139=>some qJ
 | 140=>some rZ
 | _=>none
theorem Hq:FnOk Try.prog 10 Bi:=ab Try.func10 (by kernel_rfl) (by kernel_rfl)
theorem Fo:FnOk Try.prog 14 AS:=ab Try.func14 (by kernel_rfl) (by kernel_rfl)
theorem F7:FnOk Try.prog 16 B4:=ab Try.func16 (by kernel_rfl) (by kernel_rfl)
theorem GN:FnOk Try.prog 17 CG:=ab Try.func17 (by kernel_rfl) (by kernel_rfl)
theorem Fm:FnOk Try.prog 18 Cr:=ab Try.func18 (by kernel_rfl) (by kernel_rfl)
theorem FZ:FnOk Try.prog 20 CF:=ab Try.func20 (by kernel_rfl) (by kernel_rfl)
theorem Gk:FnOk Try.prog 22 Bs:=ab Try.func22 (by kernel_rfl) (by kernel_rfl)
theorem GU:FnOk Try.prog 23 BV:=ab Try.func23 (by kernel_rfl) (by kernel_rfl)
theorem E5:FnOk Try.prog 24 BE:=ab Try.func24 (by kernel_rfl) (by kernel_rfl)
theorem GB:FnOk Try.prog 25 Af:=ab Try.func25 (by kernel_rfl) (by kernel_rfl)
theorem Gz:FnOk Try.prog 26 BS:=ab Try.func26 (by kernel_rfl) (by kernel_rfl)
theorem Hd:FnOk Try.prog 27 B1:=ab Try.func27 (by kernel_rfl) (by kernel_rfl)
theorem GG:FnOk Try.prog 28 AM:=ab Try.func28 (by kernel_rfl) (by kernel_rfl)
theorem Gc:FnOk Try.prog 29 Ai:=ab Try.func29 (by kernel_rfl) (by kernel_rfl)
theorem Hs:FnOk Try.prog 30 Cj:=ab Try.func30 (by kernel_rfl) (by kernel_rfl)
theorem Hc:FnOk Try.prog 31 Cb:=ab Try.func31 (by kernel_rfl) (by kernel_rfl)
theorem F4:FnOk Try.prog 32 BN:=ab Try.func32 (by kernel_rfl) (by kernel_rfl)
theorem Fx:FnOk Try.prog 33 Bp:=ab Try.func33 (by kernel_rfl) (by kernel_rfl)
theorem E7:FnOk Try.prog 34 Cm:=ab Try.func34 (by kernel_rfl) (by kernel_rfl)
theorem F5:FnOk Try.prog 36 BJ:=ab Try.func36 (by kernel_rfl) (by kernel_rfl)
theorem Gl:FnOk Try.prog 37 AP:=ab Try.func37 (by kernel_rfl) (by kernel_rfl)
theorem Hu:FnOk Try.prog 39 AN:=ab Try.func39 (by kernel_rfl) (by kernel_rfl)
theorem HE:FnOk Try.prog 40 Ap:=ab Try.func40 (by kernel_rfl) (by kernel_rfl)
theorem FP:FnOk Try.prog 41 Ah:=ab Try.func41 (by kernel_rfl) (by kernel_rfl)
theorem Gf:FnOk Try.prog 42 Ce:=ab Try.func42 (by kernel_rfl) (by kernel_rfl)
theorem FM:FnOk Try.prog 46 B5:=ab Try.func46 (by kernel_rfl) (by kernel_rfl)
theorem G4:FnOk Try.prog 47 Bk:=ab Try.func47 (by kernel_rfl) (by kernel_rfl)
theorem GC:FnOk Try.prog 48 Cl:=ab Try.func48 (by kernel_rfl) (by kernel_rfl)
theorem F9:FnOk Try.prog 49 As:=ab Try.func49 (by kernel_rfl) (by kernel_rfl)
theorem HD:FnOk Try.prog 50 CK:=ab Try.func50 (by kernel_rfl) (by kernel_rfl)
theorem Gd:FnOk Try.prog 51 AW:=ab Try.func51 (by kernel_rfl) (by kernel_rfl)
theorem FG:FnOk Try.prog 52 AI:=ab Try.func52 (by kernel_rfl) (by kernel_rfl)
theorem FH:FnOk Try.prog 53 BZ:=ab Try.func53 (by kernel_rfl) (by kernel_rfl)
theorem Gw:FnOk Try.prog 54 Cg:=ab Try.func54 (by kernel_rfl) (by kernel_rfl)
theorem FJ:FnOk Try.prog 55 AY:=ab Try.func55 (by kernel_rfl) (by kernel_rfl)
theorem FR:FnOk Try.prog 56 BT:=ab Try.func56 (by kernel_rfl) (by kernel_rfl)
theorem HA:FnOk Try.prog 57 B0:=ab Try.func57 (by kernel_rfl) (by kernel_rfl)
theorem GA:FnOk Try.prog 58 z9:=ab Try.func58 (by kernel_rfl) (by kernel_rfl)
theorem Gj:FnOk Try.prog 59 Az:=ab Try.func59 (by kernel_rfl) (by kernel_rfl)
theorem Gb:FnOk Try.prog 60 A7:=ab Try.func60 (by kernel_rfl) (by kernel_rfl)
theorem E6:FnOk Try.prog 61 CD:=ab Try.func61 (by kernel_rfl) (by kernel_rfl)
theorem FC:FnOk Try.prog 62 A1:=ab Try.func62 (by kernel_rfl) (by kernel_rfl)
theorem Fc:FnOk Try.prog 63 B2:=ab Try.func63 (by kernel_rfl) (by kernel_rfl)
theorem Hg:FnOk Try.prog 64 A2:=ab Try.func64 (by kernel_rfl) (by kernel_rfl)
theorem Fa:FnOk Try.prog 65 AR:=ab Try.func65 (by kernel_rfl) (by kernel_rfl)
theorem FD:FnOk Try.prog 66 Ck:=ab Try.func66 (by kernel_rfl) (by kernel_rfl)
theorem GH:FnOk Try.prog 69 Cw:=ab Try.func69 (by kernel_rfl) (by kernel_rfl)
theorem Gg:FnOk Try.prog 70 Ci:=ab Try.func70 (by kernel_rfl) (by kernel_rfl)
theorem Gn:FnOk Try.prog 71 Ad:=ab Try.func71 (by kernel_rfl) (by kernel_rfl)
theorem GD:FnOk Try.prog 72 Bt:=ab Try.func72 (by kernel_rfl) (by kernel_rfl)
theorem GY:FnOk Try.prog 73 A3:=ab Try.func73 (by kernel_rfl) (by kernel_rfl)
theorem Hm:FnOk Try.prog 74 BW:=ab Try.func74 (by kernel_rfl) (by kernel_rfl)
theorem Hb:FnOk Try.prog 75 Aw:=ab Try.func75 (by kernel_rfl) (by kernel_rfl)
theorem GX:FnOk Try.prog 76 Cz:=ab Try.func76 (by kernel_rfl) (by kernel_rfl)
theorem G6:FnOk Try.prog 77 Cc:=ab Try.func77 (by kernel_rfl) (by kernel_rfl)
theorem Gu:FnOk Try.prog 78 Av:=ab Try.func78 (by kernel_rfl) (by kernel_rfl)
theorem GF:FnOk Try.prog 83 Cu:=ab Try.func83 (by kernel_rfl) (by kernel_rfl)
theorem Fs:FnOk Try.prog 84 Bv:=ab Try.func84 (by kernel_rfl) (by kernel_rfl)
theorem GR:FnOk Try.prog 85 Co:=ab Try.func85 (by kernel_rfl) (by kernel_rfl)
theorem Hx:FnOk Try.prog 86 BA:=ab Try.func86 (by kernel_rfl) (by kernel_rfl)
theorem He:FnOk Try.prog 87 A8:=ab Try.func87 (by kernel_rfl) (by kernel_rfl)
theorem Fq:FnOk Try.prog 88 B7:=ab Try.func88 (by kernel_rfl) (by kernel_rfl)
theorem GS:FnOk Try.prog 89 Cq:=ab Try.func89 (by kernel_rfl) (by kernel_rfl)
theorem GL:FnOk Try.prog 90 Be:=ab Try.func90 (by kernel_rfl) (by kernel_rfl)
theorem Fg:FnOk Try.prog 91 EM:=ab Try.func91 (by kernel_rfl) (by kernel_rfl)
theorem FY:FnOk Try.prog 92 BB:=ab Try.func92 (by kernel_rfl) (by kernel_rfl)
theorem G9:FnOk Try.prog 93 Bg:=ab Try.func93 (by kernel_rfl) (by kernel_rfl)
theorem FS:FnOk Try.prog 94 Bx:=ab Try.func94 (by kernel_rfl) (by kernel_rfl)
theorem FI:FnOk Try.prog 95 AZ:=ab Try.func95 (by kernel_rfl) (by kernel_rfl)
theorem Hv:FnOk Try.prog 96 CR:=ab Try.func96 (by kernel_rfl) (by kernel_rfl)
theorem F0:FnOk Try.prog 97 CH:=ab Try.func97 (by kernel_rfl) (by kernel_rfl)
theorem Fb:FnOk Try.prog 98 BI:=ab Try.func98 (by kernel_rfl) (by kernel_rfl)
theorem GV:FnOk Try.prog 99 Ar:=ab Try.func99 (by kernel_rfl) (by kernel_rfl)
theorem Ec:FnOk Try.prog 100 ta:=ab Try.func100 (by kernel_rfl) (by kernel_rfl)
theorem Dk:FnOk Try.prog 101 sC:=ab Try.func101 (by kernel_rfl) (by kernel_rfl)
theorem Ed:FnOk Try.prog 102 sF:=ab Try.func102 (by kernel_rfl) (by kernel_rfl)
theorem Et:FnOk Try.prog 103 rf:=ab Try.func103 (by kernel_rfl) (by kernel_rfl)
theorem DQ:FnOk Try.prog 104 pO:=ab Try.func104 (by kernel_rfl) (by kernel_rfl)
theorem Ee:FnOk Try.prog 105 sJ:=ab Try.func105 (by kernel_rfl) (by kernel_rfl)
theorem DD:FnOk Try.prog 106 tx:=ab Try.func106 (by kernel_rfl) (by kernel_rfl)
theorem Dw:FnOk Try.prog 107 pW:=ab Try.func107 (by kernel_rfl) (by kernel_rfl)
theorem Eb:FnOk Try.prog 108 qB:=ab Try.func108 (by kernel_rfl) (by kernel_rfl)
theorem D3:FnOk Try.prog 109 tq:=ab Try.func109 (by kernel_rfl) (by kernel_rfl)
theorem Es:FnOk Try.prog 110 si:=ab Try.func110 (by kernel_rfl) (by kernel_rfl)
theorem DX:FnOk Try.prog 126 qC:=ab Try.func126 (by kernel_rfl) (by kernel_rfl)
theorem C7:FnOk Try.prog 127 tl:=ab Try.func127 (by kernel_rfl) (by kernel_rfl)
theorem D8:FnOk Try.prog 128 pR:=ab Try.func128 (by kernel_rfl) (by kernel_rfl)
theorem D2:FnOk Try.prog 129 rH:=ab Try.func129 (by kernel_rfl) (by kernel_rfl)
theorem D4:FnOk Try.prog 130 rA:=ab Try.func130 (by kernel_rfl) (by kernel_rfl)
theorem De:FnOk Try.prog 131 sd:=ab Try.func131 (by kernel_rfl) (by kernel_rfl)
theorem Db:FnOk Try.prog 132 li:=ab Try.func132 (by kernel_rfl) (by kernel_rfl)
theorem Ew:FnOk Try.prog 133 sW:=ab Try.func133 (by kernel_rfl) (by kernel_rfl)
theorem Dh:FnOk Try.prog 134 rz:=ab Try.func134 (by kernel_rfl) (by kernel_rfl)
theorem Dr:FnOk Try.prog 135 rP:=ab Try.func135 (by kernel_rfl) (by kernel_rfl)
theorem Dv:FnOk Try.prog 136 rc:=ab Try.func136 (by kernel_rfl) (by kernel_rfl)
theorem Du:FnOk Try.prog 137 sV:=ab Try.func137 (by kernel_rfl) (by kernel_rfl)
theorem Ej:FnOk Try.prog 138 qI:=ab Try.func138 (by kernel_rfl) (by kernel_rfl)
theorem D0:FnOk Try.prog 139 qJ:=ab Try.func139 (by kernel_rfl) (by kernel_rfl)
theorem Ev:FnOk Try.prog 140 rZ:=ab Try.func140 (by kernel_rfl) (by kernel_rfl)
theorem El:TabOk Try.prog F:=by
 refine ⟨by kernel_rfl,fun f fn h=>?_⟩
 unfold F at h
 split at h
 · cases h; exact Hq
 · cases h; exact Fo
 · cases h; exact F7
 · cases h; exact GN
 · cases h; exact Fm
 · cases h; exact FZ
 · cases h; exact Gk
 · cases h; exact GU
 · cases h; exact E5
 · cases h; exact GB
 · cases h; exact Gz
 · cases h; exact Hd
 · cases h; exact GG
 · cases h; exact Gc
 · cases h; exact Hs
 · cases h; exact Hc
 · cases h; exact F4
 · cases h; exact Fx
 · cases h; exact E7
 · cases h; exact F5
 · cases h; exact Gl
 · cases h; exact Hu
 · cases h; exact HE
 · cases h; exact FP
 · cases h; exact Gf
 · cases h; exact FM
 · cases h; exact G4
 · cases h; exact GC
 · cases h; exact F9
 · cases h; exact HD
 · cases h; exact Gd
 · cases h; exact FG
 · cases h; exact FH
 · cases h; exact Gw
 · cases h; exact FJ
 · cases h; exact FR
 · cases h; exact HA
 · cases h; exact GA
 · cases h; exact Gj
 · cases h; exact Gb
 · cases h; exact E6
 · cases h; exact FC
 · cases h; exact Fc
 · cases h; exact Hg
 · cases h; exact Fa
 · cases h; exact FD
 · cases h; exact GH
 · cases h; exact Gg
 · cases h; exact Gn
 · cases h; exact GD
 · cases h; exact GY
 · cases h; exact Hm
 · cases h; exact Hb
 · cases h; exact GX
 · cases h; exact G6
 · cases h; exact Gu
 · cases h; exact GF
 · cases h; exact Fs
 · cases h; exact GR
 · cases h; exact Hx
 · cases h; exact He
 · cases h; exact Fq
 · cases h; exact GS
 · cases h; exact GL
 · cases h; exact Fg
 · cases h; exact FY
 · cases h; exact G9
 · cases h; exact FS
 · cases h; exact FI
 · cases h; exact Hv
 · cases h; exact F0
 · cases h; exact Fb
 · cases h; exact GV
 · cases h; exact Ec
 · cases h; exact Dk
 · cases h; exact Ed
 · cases h; exact Et
 · cases h; exact DQ
 · cases h; exact Ee
 · cases h; exact DD
 · cases h; exact Dw
 · cases h; exact Eb
 · cases h; exact D3
 · cases h; exact Es
 · cases h; exact DX
 · cases h; exact C7
 · cases h; exact D8
 · cases h; exact D2
 · cases h; exact D4
 · cases h; exact De
 · cases h; exact Db
 · cases h; exact Ew
 · cases h; exact Dh
 · cases h; exact Dr
 · cases h; exact Dv
 · cases h; exact Du
 · cases h; exact Ej
 · cases h; exact D0
 · cases h; exact Ev
 cases h
end
end Go.Proofs.Ytmchbhheoieepaa
