/-
 Several numbers;lowest places,heights,weights.
-/
import Derived.Test.YtnhghmibjddlkaaGreatDoorAbsRM
namespace Go.AL
set_option linter.unusedSimpArgs false
set_option linter.unusedVariables false
def rH (l:List (List Nat)):List (List IV):=l.map λa=>[.sl (dJ a)]
theorem aK (l:List (List Nat)):(rH l).length=l.length:=by simp[rH]
theorem aT {l:List (List Nat)}{i:Nat}(h:i<l.length):(rH l).getD i []=[.sl (dJ (l.getD i []))]:=by simp[rH,List.getD,h]
theorem bJ (l:List (List Nat))(a:List Nat):rH l++[[.sl (dJ a)]]=rH (l++[a]):=by simp[rH]
theorem cO (l m:List (List Nat)):rH l++rH m=rH (l++m):=by simp[rH]
theorem bK (l:List (List Nat)):(∀r∈rH l,r.length=1)↔True:=by simp[rH]
theorem bZ:rH []=[]:=rfl
def Dx (x y:Int):Int:=if x<y then -1 else if y<x then 1 else 0
end Go.AL
