/- The law ProcessTwo: its pure function answers true, whatever it is called with; so does the machine's function. No condition. Own work. -/
import Derived.Test.YtmchbhheoieepaaL1ProcessTwo
import Derived.Test.YtmchbhheoieepaaL2ProcessTwo
import Derived.Test.YtmchbhheoieepaaL3ProcessTwo
import Derived.Test.YtmchbhheoieepaaL4ProcessTwo
import Derived.Test.YtmchbhheoieepaaL5ProcessTwo
set_option linter.unusedSimpArgs false
set_option linter.unusedVariables false
namespace Go.Proofs.Ytmchbhheoieepaa
open Go Go.Am
theorem vd {a b:Int} (h0:0≤a) (h1:a < 15) (k0:0≤b) (k1:b < 9):two a b=true:=by
 have:a=0∨a=1∨a=2∨a=3∨a=4∨a=5∨a=6∨a=7∨a=8∨a=9∨a=10∨a=11∨a=12∨a=13∨a=14:=by omega
 rcases this with rfl | rfl | rfl | rfl | rfl | rfl | rfl | rfl | rfl | rfl | rfl | rfl | rfl | rfl | rfl
 ·exact Dp k0 k1
 ·exact CE k0 k1
 ·exact DE k0 k1
 ·exact Dv k0 k1
 ·exact CP k0 k1
 ·exact CX k0 k1
 ·exact C3 k0 k1
 ·exact Cx k0 k1
 ·exact Dk k0 k1
 ·exact Da k0 k1
 ·exact BC k0 k1
 ·exact zX k0 k1
 ·exact A6 k0 k1
 ·exact Bt k0 k1
 exact B3 k0 k1
theorem jj {a b:Int} (h0:0≤a) (hb:0 < b):sQ .u8 a b=sQ .u8 (a % b) b:=by
 unfold sQ
 rw [if_neg (by omega),if_neg (by omega),Int.tmod_eq_emod_of_nonneg h0,Int.tmod_eq_emod_of_nonneg (Int.emod_nonneg a (by omega)),Int.emod_emod_of_dvd a (Int.dvd_refl b)]
theorem zb {a b c:Int} (ha:0≤a) (hb:0≤b) (hc:0≤c):p7 (a,b,c)=some true:=by
 have e:p7 (a,b,c)=p7 (a % 15,b % 9,c % 20):=by
  unfold p7
  dsimp only
  rw [jj ha (by decide),jj hb (by decide),jj hc (by decide)]
 rw [e]
 have:=vd (Int.emod_nonneg a (by decide)) (Int.emod_lt_of_pos a (b:=15) (by decide)) (Int.emod_nonneg b (by decide)) (Int.emod_lt_of_pos b (b:=9) (by decide))
 exact B1 (xr this (Int.emod_nonneg c (by decide)) (Int.emod_lt_of_pos c (b:=20) (by decide)))
theorem w8 {n:Int} (h:(Lit.int .u8 n).wf=true):0≤n:=by
 have w:0≤n∧n≤255:=by
  simp only [Lit.wf,Bool.and_eq_true,decide_eq_true_eq] at h
  exact h
 exact w.1
theorem law_processTwo:∀ h xs,rt [(.int .u8),(.int .u8),(.int .u8)] h xs→cQ F 7 xs h fun v _=>v=.bool true:=by
 intro h xs ht
 obtain ⟨a,b,rfl,⟨n1,e1,w1⟩,_,_,rfl,⟨n2,e2,w2⟩,_,_,rfl,⟨n3,e3,w3⟩,h4⟩:=ht
 simp only [rt] at h4
 subst h4
 cases e1
 cases e2
 cases e3
 exact law_bool o7 (x:=(n1,n2,n3,())) (zb (w8 w1) (w8 w2) (w8 w3)) rfl (Fz.refl h) (am:=fun _=>.nilPtr) ⟨_,rfl,rfl,⟨_,rfl,rfl⟩,_,rfl,rfl,⟨_,rfl,rfl⟩,_,rfl,rfl,⟨_,rfl,rfl⟩,rfl⟩
end Go.Proofs.Ytmchbhheoieepaa
