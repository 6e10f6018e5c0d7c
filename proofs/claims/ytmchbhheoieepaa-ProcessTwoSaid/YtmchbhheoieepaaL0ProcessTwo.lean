/- The law ProcessTwo: its pure function answers true, whatever it is called with; so does the machine's function. No condition. Own work. -/
import Derived.Test.YtmchbhheoieepaaGProcessTwo
import Derived.KernelRfl
set_option linter.unusedSimpArgs false
set_option linter.unusedVariables false
namespace Go.Proofs.Ytmchbhheoieepaa
open Go Go.Am
def yes:Option Bool→Bool
 | some true=>true
 | _=>false
theorem B1 {o:Option Bool} (h:yes o=true):o=some true:=by
 cases o with
 | none=>cases h
 | some b=>cases b<;>first | rfl | cases h
def Cy (n:Nat) (f:Int→Bool):Bool:=(List.range n).all fun k=>f (k:Int)
theorem xr {n:Nat} {f:Int→Bool} (h:Cy n f=true) {k:Int} (h0:0≤k) (h1:k < n):f k=true:=by
 unfold Cy at h
 rw [List.all_eq_true] at h
 have:=h k.toNat (List.mem_range.2 (by omega))
 rwa [show ((k.toNat:Nat):Int)=k by omega] at this
noncomputable def two (a b:Int):Bool:=Cy 20 fun c=>yes (p7 (a,b,c))
end Go.Proofs.Ytmchbhheoieepaa
