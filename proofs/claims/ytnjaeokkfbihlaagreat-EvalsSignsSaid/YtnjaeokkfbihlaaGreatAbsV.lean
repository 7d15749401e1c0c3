/-
 Several numbers;lowest places,heights,weights.
-/
import Derived.Test.YtnjaeokkfbihlaaGreatAbsRM
namespace Go.AL
set_option linter.unusedSimpArgs false
set_option linter.unusedVariables false
def natsr (l:List (List Nat)):List (List IV):=l.map λa=>[.sl (lims a)]
theorem natsr_len (l:List (List Nat)):(natsr l).length=l.length:=by simp[natsr]
theorem natsr_at {l:List (List Nat)}{i:Nat}(h:i<l.length):(natsr l).getD i []=[.sl (lims (l.getD i []))]:=by simp[natsr,List.getD,h]
theorem natsr_snoc (l:List (List Nat))(a:List Nat):natsr l++[[.sl (lims a)]]=natsr (l++[a]):=by simp[natsr]
theorem natsr_app (l m:List (List Nat)):natsr l++natsr m=natsr (l++m):=by simp[natsr]
theorem natsr_rows (l:List (List Nat)):(∀r∈natsr l,r.length=1)↔True:=by simp[natsr]
theorem natsr_nil:natsr []=[]:=rfl
def hgt (q:List Int):Nat:=q.foldl (λm z=>max m z.natAbs) 0
end Go.AL
