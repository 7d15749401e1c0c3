/-
 Several numbers;lowest places,heights,weights.
-/
import Derived.Test.YtdpngipofekcfaaGreatAbsRM
namespace Go.AL
set_option linter.unusedSimpArgs false
set_option linter.unusedVariables false
def l7 (l:List (List Nat)):List (List IV):=l.map fun a=>[.sl (bW a)]
theorem gW (l:List (List Nat)):(l7 l).length=l.length:=by simp[l7]
theorem tZ {l:List (List Nat)}{i:Nat}(h:i<l.length):(l7 l).getD i []=[.sl (bW (l.getD i []))]:=by simp[l7,List.getD,h]
theorem tY (l:List (List Nat))(a:List Nat):l7 l++[[.sl (bW a)]]=l7 (l++[a]):=by simp[l7]
theorem Lj (l m:List (List Nat)):l7 l++l7 m=l7 (l++m):=by simp[l7]
theorem FP (l:List (List Nat)):(∀ r∈l7 l,r.length=1)↔True:=by simp[l7]
theorem wP:l7 []=[]:=rfl
end Go.AL
