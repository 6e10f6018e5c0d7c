/- The machine's code of the law's functions, computed, and that it is the program's. No condition. Own work. -/
import Derived.Test.YtmchbhheoieepaaAm6ProcessTwo
import Derived.Test.YtmchbhheoieepaaProg
import Derived.KernelRfl
set_option linter.unusedVariables false
namespace Go.Proofs.Ytmchbhheoieepaa
open Go Go.Am
noncomputable section
abbrev mL:d7:=[(0,.any),(1,.any),(5,(.int .i64)),(6,.any),(7,(.int .i64))]
abbrev nx:d7:=[(0,.any),(1,.any),(4,.any),(5,(.int .i64))]
def s50:SC:=ann Try.prog Try.f50 [(mL,[2],false),(nx,[0],true)]
def qV:SC:=lb s50 0
def rk:SC:=lb s50 1
def fn7:AFn:=⟨3,aH Try.prog Try.f7,bt Try.prog Try.f7⟩
def AD:AFn:=⟨0,aH Try.prog Try.f11,bt Try.prog Try.f11⟩
def BS:AFn:=⟨4,aH Try.prog Try.f14,bt Try.prog Try.f14⟩
def Ao:AFn:=⟨1,aH Try.prog Try.f16,bt Try.prog Try.f16⟩
def Bl:AFn:=⟨1,aH Try.prog Try.f17,bt Try.prog Try.f17⟩
def AH:AFn:=⟨1,aH Try.prog Try.f18,bt Try.prog Try.f18⟩
def Ap:AFn:=⟨1,aH Try.prog Try.f20,bt Try.prog Try.f20⟩
def AN:AFn:=⟨2,aH Try.prog Try.f22,bt Try.prog Try.f22⟩
def Az:AFn:=⟨1,aH Try.prog Try.f23,bt Try.prog Try.f23⟩
def B2:AFn:=⟨2,aH Try.prog Try.f24,bt Try.prog Try.f24⟩
def Aa:AFn:=⟨2,aH Try.prog Try.f36,bt Try.prog Try.f36⟩
def Bs:AFn:=⟨3,aH Try.prog Try.f37,bt Try.prog Try.f37⟩
def zU:AFn:=⟨1,aH Try.prog Try.f39,bt Try.prog Try.f39⟩
def Bv:AFn:=⟨1,aH Try.prog Try.f40,bt Try.prog Try.f40⟩
def BZ:AFn:=⟨2,aH Try.prog Try.f41,bt Try.prog Try.f41⟩
def Bj:AFn:=⟨1,aH Try.prog Try.f42,bt Try.prog Try.f42⟩
def Br:AFn:=⟨2,aH Try.prog Try.f46,bt Try.prog Try.f46⟩
def AC:AFn:=⟨2,aH Try.prog Try.f47,bt Try.prog Try.f47⟩
def AI:AFn:=⟨1,aH Try.prog Try.f48,bt Try.prog Try.f48⟩
def AU:AFn:=⟨2,aH Try.prog Try.f49,bt Try.prog Try.f49⟩
def Cj:AFn:=⟨2,aH Try.prog Try.f50,bt Try.prog Try.f50⟩
def AW:AFn:=⟨2,aH Try.prog Try.f51,bt Try.prog Try.f51⟩
def AL:AFn:=⟨1,aH Try.prog Try.f63,bt Try.prog Try.f63⟩
def AS:AFn:=⟨1,aH Try.prog Try.f64,bt Try.prog Try.f64⟩
def B0:AFn:=⟨2,aH Try.prog Try.f65,bt Try.prog Try.f65⟩
def z9:AFn:=⟨2,aH Try.prog Try.f66,bt Try.prog Try.f66⟩
def Bk:AFn:=⟨5,aH Try.prog Try.f69,bt Try.prog Try.f69⟩
def zZ:AFn:=⟨1,aH Try.prog Try.f70,bt Try.prog Try.f70⟩
def BE:AFn:=⟨1,aH Try.prog Try.f71,bt Try.prog Try.f71⟩
def AE:AFn:=⟨4,aH Try.prog Try.f83,bt Try.prog Try.f83⟩
def BW:AFn:=⟨4,aH Try.prog Try.f84,bt Try.prog Try.f84⟩
def Ai:AFn:=⟨4,aH Try.prog Try.f85,bt Try.prog Try.f85⟩
def A8:AFn:=⟨4,aH Try.prog Try.f86,bt Try.prog Try.f86⟩
def BR:AFn:=⟨4,aH Try.prog Try.f87,bt Try.prog Try.f87⟩
def Ba:AFn:=⟨4,aH Try.prog Try.f88,bt Try.prog Try.f88⟩
def Ab:AFn:=⟨5,aH Try.prog Try.f89,bt Try.prog Try.f89⟩
def AZ:AFn:=⟨5,aH Try.prog Try.f90,bt Try.prog Try.f90⟩
def Ed:AFn:=⟨1,aH Try.prog Try.f91,bt Try.prog Try.f91⟩
def Bd:AFn:=⟨1,aH Try.prog Try.f92,bt Try.prog Try.f92⟩
def A1:AFn:=⟨5,aH Try.prog Try.f99,bt Try.prog Try.f99⟩
def om:AFn:=⟨1,aH Try.prog Try.f100,bt Try.prog Try.f100⟩
def qJ:AFn:=⟨1,aH Try.prog Try.f101,bt Try.prog Try.f101⟩
def qU:AFn:=⟨4,aH Try.prog Try.f102,bt Try.prog Try.f102⟩
def qq:AFn:=⟨6,aH Try.prog Try.f103,bt Try.prog Try.f103⟩
def pQ:AFn:=⟨5,aH Try.prog Try.f109,bt Try.prog Try.f109⟩
def pj:AFn:=⟨2,aH Try.prog Try.f126,bt Try.prog Try.f126⟩
def pJ:AFn:=⟨2,aH Try.prog Try.f127,bt Try.prog Try.f127⟩
def qT:AFn:=⟨1,aH Try.prog Try.f128,bt Try.prog Try.f128⟩
def qu:AFn:=⟨1,aH Try.prog Try.f129,bt Try.prog Try.f129⟩
def qK:AFn:=⟨1,aH Try.prog Try.f130,bt Try.prog Try.f130⟩
def qQ:AFn:=⟨2,aH Try.prog Try.f131,bt Try.prog Try.f131⟩
def kJ:AFn:=⟨1,aH Try.prog Try.f132,bt Try.prog Try.f132⟩
def qm:AFn:=⟨1,aH Try.prog Try.f133,bt Try.prog Try.f133⟩
def pM:AFn:=⟨3,aH Try.prog Try.f134,bt Try.prog Try.f134⟩
def qd:AFn:=⟨2,aH Try.prog Try.f135,bt Try.prog Try.f135⟩
def qZ:AFn:=⟨3,aH Try.prog Try.f136,bt Try.prog Try.f136⟩
def oZ:AFn:=⟨2,aH Try.prog Try.f137,bt Try.prog Try.f137⟩
def qa:AFn:=⟨2,aH Try.prog Try.f138,bt Try.prog Try.f138⟩
def oq:AFn:=⟨1,aH Try.prog Try.f139,bt Try.prog Try.f139⟩
def pc:AFn:=⟨2,aH Try.prog Try.f140,bt Try.prog Try.f140⟩
def F:Nat→Option AFn
 | 7=>some fn7
 | 11=>some AD
 | 14=>some BS
 | 16=>some Ao
 | 17=>some Bl
 | 18=>some AH
 | 20=>some Ap
 | 22=>some AN
 | 23=>some Az
 | 24=>some B2
 | 36=>some Aa
 | 37=>some Bs
 | 39=>some zU
 | 40=>some Bv
 | 41=>some BZ
 | 42=>some Bj
 | 46=>some Br
 | 47=>some AC
 | 48=>some AI
 | 49=>some AU
 | 50=>some Cj
 | 51=>some AW
 | 63=>some AL
 | 64=>some AS
 | 65=>some B0
 | 66=>some z9
 | 69=>some Bk
 | 70=>some zZ
 | 71=>some BE
 | 83=>some AE
 | 84=>some BW
 | 85=>some Ai
 | 86=>some A8
 | 87=>some BR
 | 88=>some Ba
 | 89=>some Ab
 | 90=>some AZ
 | 91=>some Ed
 | 92=>some Bd
 | 99=>some A1
 | 100=>some om
 | 101=>some qJ
 | 102=>some qU
 | 103=>some qq
 | 109=>some pQ
 | 126=>some pj
 | 127=>some pJ
 | 128=>some qT
 | 129=>some qu
 | 130=>some qK
 | 131=>some qQ
 | 132=>some kJ
 | 133=>some qm
 | 134=>some pM
 | 135=>some qd
 | 136=>some qZ
 | 137=>some oZ
 | 138=>some qa
 | 139=>some oq
 | 140=>some pc
 | _=>none
theorem ok7:FnOk Try.prog 7 fn7:=af Try.func7 (by kernel_rfl) (by kernel_rfl)
theorem EW:FnOk Try.prog 11 AD:=af Try.func11 (by kernel_rfl) (by kernel_rfl)
theorem F4:FnOk Try.prog 14 BS:=af Try.func14 (by kernel_rfl) (by kernel_rfl)
theorem FH:FnOk Try.prog 16 Ao:=af Try.func16 (by kernel_rfl) (by kernel_rfl)
theorem EM:FnOk Try.prog 17 Bl:=af Try.func17 (by kernel_rfl) (by kernel_rfl)
theorem Ep:FnOk Try.prog 18 AH:=af Try.func18 (by kernel_rfl) (by kernel_rfl)
theorem FQ:FnOk Try.prog 20 Ap:=af Try.func20 (by kernel_rfl) (by kernel_rfl)
theorem FY:FnOk Try.prog 22 AN:=af Try.func22 (by kernel_rfl) (by kernel_rfl)
theorem F7:FnOk Try.prog 23 Az:=af Try.func23 (by kernel_rfl) (by kernel_rfl)
theorem FT:FnOk Try.prog 24 B2:=af Try.func24 (by kernel_rfl) (by kernel_rfl)
theorem E9:FnOk Try.prog 36 Aa:=af Try.func36 (by kernel_rfl) (by kernel_rfl)
theorem EH:FnOk Try.prog 37 Bs:=af Try.func37 (by kernel_rfl) (by kernel_rfl)
theorem Fb:FnOk Try.prog 39 zU:=af Try.func39 (by kernel_rfl) (by kernel_rfl)
theorem Fc:FnOk Try.prog 40 Bv:=af Try.func40 (by kernel_rfl) (by kernel_rfl)
theorem FZ:FnOk Try.prog 41 BZ:=af Try.func41 (by kernel_rfl) (by kernel_rfl)
theorem FJ:FnOk Try.prog 42 Bj:=af Try.func42 (by kernel_rfl) (by kernel_rfl)
theorem E1:FnOk Try.prog 46 Br:=af Try.func46 (by kernel_rfl) (by kernel_rfl)
theorem ES:FnOk Try.prog 47 AC:=af Try.func47 (by kernel_rfl) (by kernel_rfl)
theorem Fy:FnOk Try.prog 48 AI:=af Try.func48 (by kernel_rfl) (by kernel_rfl)
theorem E4:FnOk Try.prog 49 AU:=af Try.func49 (by kernel_rfl) (by kernel_rfl)
theorem EL:FnOk Try.prog 50 Cj:=af Try.func50 (by kernel_rfl) (by kernel_rfl)
theorem Er:FnOk Try.prog 51 AW:=af Try.func51 (by kernel_rfl) (by kernel_rfl)
theorem FC:FnOk Try.prog 63 AL:=af Try.func63 (by kernel_rfl) (by kernel_rfl)
theorem E6:FnOk Try.prog 64 AS:=af Try.func64 (by kernel_rfl) (by kernel_rfl)
theorem Em:FnOk Try.prog 65 B0:=af Try.func65 (by kernel_rfl) (by kernel_rfl)
theorem EI:FnOk Try.prog 66 z9:=af Try.func66 (by kernel_rfl) (by kernel_rfl)
theorem FA:FnOk Try.prog 69 Bk:=af Try.func69 (by kernel_rfl) (by kernel_rfl)
theorem EB:FnOk Try.prog 70 zZ:=af Try.func70 (by kernel_rfl) (by kernel_rfl)
theorem Fg:FnOk Try.prog 71 BE:=af Try.func71 (by kernel_rfl) (by kernel_rfl)
theorem Ft:FnOk Try.prog 83 AE:=af Try.func83 (by kernel_rfl) (by kernel_rfl)
theorem EO:FnOk Try.prog 84 BW:=af Try.func84 (by kernel_rfl) (by kernel_rfl)
theorem F1:FnOk Try.prog 85 Ai:=af Try.func85 (by kernel_rfl) (by kernel_rfl)
theorem EY:FnOk Try.prog 86 A8:=af Try.func86 (by kernel_rfl) (by kernel_rfl)
theorem E2:FnOk Try.prog 87 BR:=af Try.func87 (by kernel_rfl) (by kernel_rfl)
theorem EP:FnOk Try.prog 88 Ba:=af Try.func88 (by kernel_rfl) (by kernel_rfl)
theorem E5:FnOk Try.prog 89 Ab:=af Try.func89 (by kernel_rfl) (by kernel_rfl)
theorem Ev:FnOk Try.prog 90 AZ:=af Try.func90 (by kernel_rfl) (by kernel_rfl)
theorem EU:FnOk Try.prog 91 Ed:=af Try.func91 (by kernel_rfl) (by kernel_rfl)
theorem Fe:FnOk Try.prog 92 Bd:=af Try.func92 (by kernel_rfl) (by kernel_rfl)
theorem FE:FnOk Try.prog 99 A1:=af Try.func99 (by kernel_rfl) (by kernel_rfl)
theorem C9:FnOk Try.prog 100 om:=af Try.func100 (by kernel_rfl) (by kernel_rfl)
theorem CV:FnOk Try.prog 101 qJ:=af Try.func101 (by kernel_rfl) (by kernel_rfl)
theorem DP:FnOk Try.prog 102 qU:=af Try.func102 (by kernel_rfl) (by kernel_rfl)
theorem DL:FnOk Try.prog 103 qq:=af Try.func103 (by kernel_rfl) (by kernel_rfl)
theorem Dd:FnOk Try.prog 109 pQ:=af Try.func109 (by kernel_rfl) (by kernel_rfl)
theorem DQ:FnOk Try.prog 126 pj:=af Try.func126 (by kernel_rfl) (by kernel_rfl)
theorem Df:FnOk Try.prog 127 pJ:=af Try.func127 (by kernel_rfl) (by kernel_rfl)
theorem Dm:FnOk Try.prog 128 qT:=af Try.func128 (by kernel_rfl) (by kernel_rfl)
theorem C0:FnOk Try.prog 129 qu:=af Try.func129 (by kernel_rfl) (by kernel_rfl)
theorem CU:FnOk Try.prog 130 qK:=af Try.func130 (by kernel_rfl) (by kernel_rfl)
theorem C6:FnOk Try.prog 131 qQ:=af Try.func131 (by kernel_rfl) (by kernel_rfl)
theorem DR:FnOk Try.prog 132 kJ:=af Try.func132 (by kernel_rfl) (by kernel_rfl)
theorem Dz:FnOk Try.prog 133 qm:=af Try.func133 (by kernel_rfl) (by kernel_rfl)
theorem CL:FnOk Try.prog 134 pM:=af Try.func134 (by kernel_rfl) (by kernel_rfl)
theorem DI:FnOk Try.prog 135 qd:=af Try.func135 (by kernel_rfl) (by kernel_rfl)
theorem DB:FnOk Try.prog 136 qZ:=af Try.func136 (by kernel_rfl) (by kernel_rfl)
theorem CW:FnOk Try.prog 137 oZ:=af Try.func137 (by kernel_rfl) (by kernel_rfl)
theorem Ds:FnOk Try.prog 138 qa:=af Try.func138 (by kernel_rfl) (by kernel_rfl)
theorem Dn:FnOk Try.prog 139 oq:=af Try.func139 (by kernel_rfl) (by kernel_rfl)
theorem CM:FnOk Try.prog 140 pc:=af Try.func140 (by kernel_rfl) (by kernel_rfl)
theorem DG:TabOk Try.prog F:=by
 refine ⟨by kernel_rfl,fun f fn h=>?_⟩
 unfold F at h
 split at h
 · cases h; exact ok7
 · cases h; exact EW
 · cases h; exact F4
 · cases h; exact FH
 · cases h; exact EM
 · cases h; exact Ep
 · cases h; exact FQ
 · cases h; exact FY
 · cases h; exact F7
 · cases h; exact FT
 · cases h; exact E9
 · cases h; exact EH
 · cases h; exact Fb
 · cases h; exact Fc
 · cases h; exact FZ
 · cases h; exact FJ
 · cases h; exact E1
 · cases h; exact ES
 · cases h; exact Fy
 · cases h; exact E4
 · cases h; exact EL
 · cases h; exact Er
 · cases h; exact FC
 · cases h; exact E6
 · cases h; exact Em
 · cases h; exact EI
 · cases h; exact FA
 · cases h; exact EB
 · cases h; exact Fg
 · cases h; exact Ft
 · cases h; exact EO
 · cases h; exact F1
 · cases h; exact EY
 · cases h; exact E2
 · cases h; exact EP
 · cases h; exact E5
 · cases h; exact Ev
 · cases h; exact EU
 · cases h; exact Fe
 · cases h; exact FE
 · cases h; exact C9
 · cases h; exact CV
 · cases h; exact DP
 · cases h; exact DL
 · cases h; exact Dd
 · cases h; exact DQ
 · cases h; exact Df
 · cases h; exact Dm
 · cases h; exact C0
 · cases h; exact CU
 · cases h; exact C6
 · cases h; exact DR
 · cases h; exact Dz
 · cases h; exact CL
 · cases h; exact DI
 · cases h; exact DB
 · cases h; exact CW
 · cases h; exact Ds
 · cases h; exact Dn
 · cases h; exact CM
 cases h
end
end Go.Proofs.Ytmchbhheoieepaa
