/-
 Contracts of the functions that the law reaches.
-/
import Derived.Test.YtdpngipofekcfaaGreatL36M
import Derived.Test.YtdpngipofekcfaaGreatL1M
import Derived.Test.YtdpngipofekcfaaGreatAbsYM
import Derived.Test.YtdpngipofekcfaaGreatL12M
import Derived.Test.YtdpngipofekcfaaGreatL51M
import Derived.Test.YtdpngipofekcfaaGreatAbsV
import Derived.Test.YtdpngipofekcfaaGreatL59M
set_option maxHeartbeats 2000000
namespace Go.Proofs.YtdpngipofekcfaaGreat
open Go Go.Proofs Go.AL Go.RowKit
set_option linter.unusedSimpArgs false
set_option linter.unusedVariables false
theorem Gl {w:World}{D:Nat→Prop}:∀ {xs:List CV} {vs:List Value},dM w D xs vs→∀ (j:Nat) (c:CV) (v:Value),xs[j]?=some c→vs[j]?=some v→iE w D c v
 | [],[],_,j,c,v,h,_=>by simp at h
 | x::xs,u::vs,h,0,c,v,h1,h2=>by
  simp only[List.getElem?_cons_zero,Option.some.injEq]at h1 h2;subst h1 h2;exact h.1
 | x::xs,u::vs,h,j+1,c,v,h1,h2=>Gl h.2 j c v (by simpa using h1) (by simpa using h2)
 | [],_::_,h,_,_,_,_,_=>h.elim
 | _::_,[],h,_,_,_,_,_=>h.elim
theorem ACX.plain {P:Program}{g:Nat}{args res:List CV}{R:Nat→Nat→List CV→Prop}(h:ACX P g args R)(hs:∀ B E r,R B E r→Ah r res):AC P g args none res:=by
 intro w D vs hD hv;refine nG.mono (h.2 w D vs hD hv) ?_;rintro v w' ⟨hb,us,r,rfl,hR,hr⟩;have h2:=(hs _ _ _ hR).Z7 hr;refine⟨hb,us,rfl,⟨(dM.length h2).symm,fun j c v _ hc hv=>?_,fun i e sz rows h=>by cases h⟩⟩;exact(Gl h2 j c v hc hv).mono (bD.of_sub fun b hb=>hb.elim id fun h=>h.elim)
theorem ZI {b:Option (Nat×Nat)}{e sz k:Nat}{rows:List (List IV)}(h:∀ r∈rows,r.length=k):NU (.own b e sz rows) (.sl rows) :=
 .own _ _ _ _ _ rfl (fun i r r' h1 h2=>by rw[h1]at h2;injection h2 with h2;rw[h2]) (fun i r r' h1 h2 j x x' h3 h4=>by
  rw[h1]at h2;injection h2 with h2;subst h2;rw[h3]at h4;injection h4 with h4;subst h4;exact .refl _)
abbrev fint (b:OB)(n:Int):List IV:=[.bool (canon n).1,jo b (canon n).2]
def a8d (n:Int)(B E:Nat)(res:List CV):Prop:=∃ b,res=[.agg (fint b n)]∧Nw B E (oid b)
theorem Xa (n:Int)(B:Nat):∃ E res,B≤E∧a8d n B E res:=⟨B,_,Nat.le_refl _,none,rfl,.nil _ _⟩
theorem UZ (s:Bool)(n:Nat)(b:OB):AC Tryz.prog 189 [cb s,.iv (jo b (wd n))] none [.agg (fint b (sg s n))]:=by
 refine AC.aA (rs:=[.cell 4 30]) aX Tryz.func189 (by rfl) (by rfl) (by rfl) (by rfl) (by rfl) ?_;have hz:(0<((wd n).length:Int))↔n≠0:=by have:=fC (n:=n);omega
 cases s
 ·simp (disch:=omega) only[wt,seval,dD,dh];unfold fint;rw[uG];rfl
 ·simp (disch:=omega) only[wt,seval,dD,dh];unfold fint;rw[uG];have h':decide (0<(wd n).length)=decide (n≠0):=by rw[decide_eq_decide];omega
  simp[h']
theorem JD (c:RI)(h:Sz (2^40) c):ACX Tryz.prog 190 [cr c] (a8d (iv c)):=by
 refine ACX.aA zi0 (rs:=[.cell 2 30]) aX Tryz.func190 (by rfl) (by rfl) (by rfl) (by rfl) (by rfl) (Xa _) (fun B=>?_);have hl:=h.1;simp (disch:=omega) only[wt,seval];refine .inl ⟨aS (by kernel_rfl),?_⟩;refine aK ((Ik c.2 h.2 (by omega))) (by rfl) (by simp) (by rfl) ?_;rintro B' E _ hB hE ⟨b,rfl,hb⟩;simp only[wt,seval];refine ah ((UZ c.1 (nv c.2) b)) (by rfl) (by simp) ?_;simp (disch:=omega) only[wt,seval,dh];refine⟨bH (by kernel_rfl),?_⟩;refine aT [.agg (fint b (iv c))] (by rfl) (by simp (disch:=omega) only[wt,seval];rfl) ?_;intro E hE;exact⟨b,rfl,hb.mono hB (by omega)⟩
theorem Zh (s:Bool)(n:Nat)(h:(wd n).length≤2^40):ACX Tryz.prog 100 [cb s,cl (wd n)] (a8d (sg s n)):=by
 refine ACX.aA zi0 (rs:=[.cell 4 30]) aX Tryz.func100 (by rfl) (by rfl) (by rfl) (by rfl) (by rfl) (Xa _) (fun B=>?_);simp (disch:=omega) only[wt,seval];have m:=JD (s,wd n) ⟨h,aO _⟩;rw[show iv (s,wd n)=sg s n by show sg s (nv (wd n))=sg s n;rw[bC]]at m;refine aK (m) (by rfl) (by simp) (by rfl) ?_;rintro B' E _ hB hE ⟨b,rfl,hb⟩;simp (disch:=omega) only[wt,seval,dh];refine aT [.agg (fint b (sg s n))] (by rfl) (by simp (disch:=omega) only[wt,seval];rfl) ?_;intro E hE;exact⟨b,rfl,hb.mono hB (by omega)⟩
theorem a0L (a b:List Nat)(ha:Lim a)(hb:Lim b)(hla:a.length≤2^40)(hlb:b.length≤2^40) :
  ACX Tryz.prog 207 [cl a,cl b] (YH (wd (nv a+nv b))):=by
 refine ACX.aA zi0 (rs:=[.tmp 4]) aX Tryz.func207 (by rfl) (by rfl) (by rfl) (by rfl) (by rfl) (uT _) (fun B=>?_);simp only[wt,seval];refine ah ((Xn a b ha hb hla hlb)) (by rfl) (by simp) ?_;simp (disch:=omega) only[wt,seval];generalize hn:max a.length b.length=n at *;refine ah ((lY (pad n (nv a+nv b)) (by rw[iI];omega))) (by rfl) (by simp) ?_;simp (disch:=omega) only[wt,seval,iI];have hc:(nv a+nv b)/W^n<W:=by
  rw[Nat.div_lt_iff_lt_mul (dL n)];have h4:=iJ ha;have h5:=iJ hb;have h6:W^a.length≤W^n:=Nat.pow_le_pow_right (by decide) (by omega);have h7:W^b.length≤W^n:=Nat.pow_le_pow_right (by decide) (by omega);have:2*W^n≤W*W^n:=Nat.mul_le_mul_right _ (by decide);omega
 have e:nv (pad n (nv a+nv b)++[(nv a+nv b)/W^n])=nv a+nv b:=by
  rw[Ii,oV,iI];exact Nat.mod_add_div _ _
 have:=OO (pad n (nv a+nv b)++[(nv a+nv b)/W^n]) ((lG _ _).append (Lim.cons hc Lim.nil)) (by simp[iI];omega);rw[e]at this;refine aK (this) (by rfl) (by simp) (by rfl) ?_;rintro B' E _ hB hE ⟨c,rfl,hc⟩;simp only[wt,seval];refine aT [.iv (jo c (wd (nv a+nv b)))] (by rfl) (by simp (disch:=omega) only[wt,seval]) ?_;intro E hE;exact⟨c,rfl,hc.mono hB (by omega)⟩
theorem Vz (b:OB)(n:Int):∀ (j:Nat) (x y:IV),(fint b n)[j]?=some x→(lQ (canon n))[j]?=some y→NU x y
 | 0,x,y,hx,hy=>by cases hx;cases hy;exact .refl _
 | 1,x,y,hx,hy=>by
  cases hx;cases hy;refine .own _ _ _ _ _ rfl (fun i r r' h h'=>?_) (fun i r r' h h' j x x' hx hx'=>?_)
  ·rw[h]at h';cases h';rfl
  ·rw[h]at h';cases h';rw[hx]at hx';cases hx';exact .refl _
 | j+2,x,y,hx,_=>by simp at hx
end Go.Proofs.YtdpngipofekcfaaGreat

namespace Go.Proofs.YtdpngipofekcfaaGreat
open Go Go.Proofs Go.AL
set_option linter.unusedSimpArgs false
set_option linter.unusedVariables false
theorem a2j {v:Nat}(h:0<(wd v).length):0<(wd v).getD ((wd v).length-1) 0:=by
 rcases Nat.eq_zero_or_pos ((wd v).getD ((wd v).length-1) 0) with h0|h0
 ·exfalso
  have h1:=aJ W (wd v) ((wd v).length-1);rw[Nat.sub_add_cancel h,List.take_length,h0,Nat.mul_zero,Nat.add_zero]at h1;have h2:=iJ ((aO v).take ((wd v).length-1));rw[List.length_take,Nat.min_eq_left (Nat.sub_le _ _)]at h2;have h3:v<W^((wd v).length-1):=by
   have h4:=bC v;simp only[nv]at *;omega
  have:=bT.mpr h3;omega
 ·exact h0
theorem OY {y:Nat}(h:0<(wd y).length):∃ s,s=64-bl ((wd y).getD ((wd y).length-1) 0)∧s≤63∧(wd y).getD ((wd y).length-1) 0<W∧(wd (y*2^s)).length=(wd y).length:=by
 have ht:=a2j h;have hw:=(aO y).get ((wd y).length-1);have h1:=aJ W (wd y) ((wd y).length-1);rw[Nat.sub_add_cancel h,List.take_length]at h1;have h2:=iJ ((aO y).take ((wd y).length-1));rw[List.length_take,Nat.min_eq_left (Nat.sub_le _ _)]at h2;have h4:=bC y;simp only[nv]at *;rw[h4]at h1;have hmono:(wd y).length≤(wd (y*2^(64-bl ((wd y).getD ((wd y).length-1) 0)))).length:=bJ (Nat.le_mul_of_pos_right _ (Nat.pow_pos (by decide)));generalize hk:(wd y).length=k at *;generalize (wd y).getD (k-1) 0=t at *;have hb64:bl t≤64:=ER.mpr hw;have hb1:1≤bl t:=by
  rcases Nat.eq_zero_or_pos (bl t) with h0|h0
  ·have:=ER.mp (Nat.le_of_eq h0);omega
  ·exact h0
 have hbt:t<2^bl t:=ER.mp (Nat.le_refl _);refine⟨_,rfl,by omega,hw,Nat.le_antisymm (bT.mpr ?_) hmono⟩;have h5:y<W^(k-1)*2^bl t:=by
  have:=Nat.mul_le_mul_left (W^(k-1)) hbt;rw[Nat.mul_succ]at this;omega
 have h6:=Nat.mul_lt_mul_of_pos_right h5 (Nat.pow_pos (by decide:0<2):0<2^(64-bl t));rw[Nat.mul_assoc,← Nat.pow_add,show bl t+(64-bl t)=64 by omega]at h6;have h7:W^k=W^(k-1)*2^64:=by
  have h8:W^(k-1+1)=W^(k-1)*W:=Nat.pow_succ _ _;rw[Nat.sub_add_cancel h]at h8;exact h8
 rw[h7];exact h6
theorem Va (b:Nat):∀ n,vl b (List.replicate n 0)=0
 | 0=>rfl
 | n+1=>by rw[List.replicate_succ,vl,Va b n];rfl
theorem OE {X:List Nat}{k d:Nat}(h:k<X.length):(bW X).set k (splice ((bW X).getD k []) 0 [.int .u64 (d:Int)])=bW (X.set k d):=by
 rw[Ir h,yE,AY]
theorem put_eq {u rs:List Nat}{i n d:Nat}(h:i+n<u.length)(hr:rs.length=n):(u.take i++rs++u.drop (i+n)).set (i+n) d=u.take i++(rs++d::u.drop (i+n+1)):=by
 rw[List.drop_eq_getElem_cons h,List.set_append_right _ _ (by simp;omega)];have e:i+n-(u.take i++rs).length=0:=by simp;omega
 rw[e,List.set_cons_zero,List.append_assoc]
theorem CQ {u rs:List Nat}{i n d:Nat}(h:i+n<u.length)(hr:rs.length=n)(hu:Lim u)(hrs:Lim rs)(hd:d<W):∃ X,(u.take i++rs++u.drop (i+n)).set (i+n) d=X∧X.length=u.length∧X.take i=u.take i∧nv (X.drop i)=nv rs+W^n*(d+W*nv (u.drop (i+n+1))) ∧
  (X.drop i).take n=rs∧X.getD (i+n) 0=d∧X.drop (i+n+1)=u.drop (i+n+1)∧Lim X:=by
 refine⟨_,put_eq h hr,?_,?_,?_,?_,?_,?_,?_⟩
 ·simp;omega
 ·rw[List.take_append_of_le_length (by simp;omega),List.take_take,Nat.min_self]
 ·rw[List.drop_append_of_le_length (by simp;omega),List.drop_of_length_le (by rw[List.length_take];exact Nat.min_le_left _ _),List.nil_append];have:=fA W (rs++d::u.drop (i+n+1)) (k:=n) (by simp;omega);rw[← hr,List.take_left,List.drop_left,hr]at this;exact this
 ·rw[List.drop_append_of_le_length (by simp;omega),List.drop_of_length_le (by rw[List.length_take];exact Nat.min_le_left _ _),List.nil_append,← hr,List.take_left]
 ·rw[List.getD_eq_getElem?_getD,List.getElem?_append_right (by simp;omega)];have e:i+n-(u.take i).length=n:=by simp;omega
  rw[e,List.getElem?_append_right (by omega),hr];simp
 ·rw[← List.append_assoc,List.drop_append,List.drop_of_length_le (by simp;omega)];have e:i+n+1-(u.take i++rs).length=1:=by simp;omega
  rw[e];rfl
 ·exact(hu.take i).append (hrs.append (Lim.cons hd (hu.drop _)))
theorem FW {u u0 q:List Nat}{i V g D:Nat}(hul:i<u.length)(hu0:u0.length=u.length)(hq:i<q.length)(hT:u.take (i+1)=u0.take (i+1))(hE:nv (u0.drop (i+1))=nv (q.drop (i+1))*V+nv (u.drop (i+1)))(hD:nv (u.drop i)=D)(hg:g=D/V) :
  nv (u0.drop i)=nv ((q.set i g).drop i)*V+D%V∧u.take i=u0.take i:=by
 have e1:=lU u0 i (by omega);have e2:=lU u i hul;have e3:=lU (q.set i g) i (by simp;omega);have e4:(q.set i g).getD i 0=g:=by simp[List.getD,hq]
 have e5:(q.set i g).drop (i+1)=q.drop (i+1):=List.drop_set_of_lt (by omega);have e6:u0.getD i 0=u.getD i 0:=by
  have h1:u0.getD i 0=(u0.take (i+1)).getD i 0:=by simp[List.getD]
  have h2:u.getD i 0=(u.take (i+1)).getD i 0:=by simp[List.getD]
  rw[h1,h2,hT]
 have hd:=Nat.div_add_mod D V;rw[e4,e5]at e3;rw[e3,e1,e6,hE,Nat.add_mul,Nat.mul_add,← Nat.mul_assoc,Nat.mul_comm g V,hg];rw[hD]at e2;constructor
 ·omega
 ·have:=congrArg (List.take i) hT;simpa [List.take_take] using this
theorem Md (l:List Nat):∀ r∈bW l,∀ x∈r,NH x:=by
 intro r hr x hx;simp only[bW,List.mem_map]at hr;obtain⟨n,_,rfl⟩:=hr;simp only[List.mem_singleton]at hx;subst hx;trivial
theorem flat_own2 (e:Nat)(l l':List Nat)(a:Nat):sO (some (0,e,1,bW l)) [cl l',cu a]:=by
 refine⟨Md l,fun j c hj hc=>?_⟩
 match j,hj with
 | 1,_=>simp at hc;subst hc;trivial
 | j+2,_=>simp at hc
theorem flat_own3 (e:Nat)(l l':List Nat)(a b:Nat):sO (some (0,e,1,bW l)) [cl l',cu a,ci b]:=by
 refine⟨Md l,fun j c hj hc=>?_⟩
 match j,hj with
 | 1,_=>simp at hc;subst hc;trivial
 | 2,_=>simp at hc;subst hc;trivial
 | j+3,_=>simp at hc
def a9P (q r:Nat)(B E:Nat)(res:List CV):Prop:=∃ b,res=[.iv (jo b (wd q)),cl (wd r)]∧Nw B E (oid b)
theorem a6O (q r B:Nat):∃ E res,B≤E∧a9P q r B E res:=⟨B,_,Nat.le_refl _,none,rfl,.nil _ _⟩
theorem wo {b:OB}{l:List Nat}:NU (jo b l) (.sl (bW l)):=ZI (k:=1) (fun r hr=>by obtain⟨x,_,rfl⟩:=List.mem_map.1 hr;rfl)
set_option maxHeartbeats 4000000 in
theorem LG (x y m n:Nat)(hm:(wd x).length=m)(hn:(wd y).length=n)(h2:2≤n)(hxy:y≤x)(hl:m≤2^38):ACX Tryz.prog 286 [cl (wd x),cl (wd y)] (a9P (x/y) (x%y)):=by
 refine ACX.aA zi0 (rs:=[.tmp 4,.tmp 5]) aX Tryz.func286 (by rfl) (by rfl) (by rfl) (by rfl) (by rfl) (a6O _ _) (fun B0=>?_);obtain⟨s,hs,hs63,htw,hvl⟩:=OY (y:=y) (by omega);have hyl:n≤m:=by rw[← hm,← hn];exact bJ hxy
 have lz:=Xh _ htw;rw[← hs,hn]at lz;rw[hn]at hvl;have hn1:((n:Int)-1).toNat=n-1:=by omega
 simp (disch:=omega) only[wt,seval,hn,hn1];refine ah (lz) (by rfl) (by simp) ?_;simp only[wt,seval];refine ah ((X6 (wd y) s (aO _) (by omega) (by omega))) (by rfl) (by simp) ?_;simp (disch:=omega) only[wt,seval];rw[bC];refine ah ((X6 (wd x) s (aO _) (by omega) (by omega))) (by rfl) (by simp) ?_;simp (disch:=omega) only[wt,seval];rw[bC];have hUlt:x*2^s<W^(m+1):=by
  have h1:x<W^m:=by rw[← hm];exact bT.mp (Nat.le_refl _)
  rw[Nat.pow_succ];exact Nat.mul_lt_mul_of_lt_of_le h1 (Nat.pow_le_pow_right (by decide) (by omega:s≤64)) (by decide)
 have hul:(wd (x*2^s)).length≤m+1:=bT.mpr hUlt;generalize hup:(wd (x*2^s)).length=up at *;have hz1:((m:Int)+1-up).toNat=m+1-up:=by omega
 simp (disch:=omega) only[wt,seval,hm,hz1];have hcc:=Ye [wd (x*2^s),List.replicate (m+1-up) 0] (by simp) (by simp only[tot,List.map_cons,List.map_nil,List.sum_cons,List.sum_nil,List.length_replicate];omega);have hpu:[wd (x*2^s),List.replicate (m+1-up) 0].flatten=pad (m+1) (x*2^s):=by
  simp only[List.flatten_cons,List.flatten_nil,List.append_nil];refine mZ ((aO _).append (Lim.replicate _)) (by simp;omega) ?_;have h1:=fA W (wd (x*2^s)++List.replicate (m+1-up) 0) (k:=up) (by simp;omega);rw[List.take_append_of_le_length (by omega),List.drop_append_of_le_length (by omega),List.take_of_length_le (by omega),List.drop_of_length_le (by omega),List.nil_append,Va,Nat.mul_zero,Nat.add_zero]at h1;rw[Nat.mod_eq_of_lt hUlt];exact h1.trans (bC _)
 rw[hpu]at hcc;have hpl:=iI (m+1) (x*2^s);have hz2:(((m+1:Nat):Int)-n).toNat=m+1-n:=by omega
 refine ah (hcc) (by rfl) (by simp) ?_;simp (disch:=omega) only[wt,seval,hpl,hz2];have hV:Lim (wd (y*2^s)):=aO _;have hq0:Lim (List.replicate (m+1-n) 0):=Lim.replicate _;have hu0:=lG (m+1) (x*2^s);have hi1:nv ((pad (m+1) (x*2^s)).drop (m+1-n))<y*2^s:=by
  have h1:=fA W (pad (m+1) (x*2^s)) (k:=m+1-n) (by omega);have h3:=oV (m+1) (x*2^s);rw[Nat.mod_eq_of_lt hUlt]at h3;have hx:x<W^m:=by rw[← hm];exact bT.mp (Nat.le_refl _)
  have hy:W^(n-1)≤y:=by
   rcases Nat.lt_or_ge y (W^(n-1)) with h|h
   ·have:=bT.mpr h;omega
   ·exact h
  simp only[nv]at *;have h4:W^(m+1-n)*vl W ((pad (m+1) (x*2^s)).drop (m+1-n))<W^(m+1-n)*(y*2^s):=by
   refine Nat.lt_of_le_of_lt (Nat.le_trans (Nat.le_add_left _ _) (Nat.le_of_eq (h1.symm.trans h3))) ?_;rw[← Nat.mul_assoc];refine Nat.mul_lt_mul_of_pos_right (Nat.lt_of_lt_of_le hx ?_) (Nat.pow_pos (by decide));rw[show m=m+1-n+(n-1) by omega,Nat.pow_add];refine Nat.mul_le_mul (Nat.pow_le_pow_right (by decide) (by omega)) hy
  exact Nat.lt_of_mul_lt_mul_left h4
 have hi2:nv ((pad (m+1) (x*2^s)).drop (m+1-n))=nv ((List.replicate (m+1-n) 0).drop (m+1-n))*(y*2^s)+nv ((pad (m+1) (x*2^s)).drop (m+1-n)):=by
  rw[List.drop_of_length_le (l:=List.replicate _ _) (by simp)];simp[nv,vl]
 refine aH (fun f H=>∃ (k st st2:Nat) (u q:List Nat),k+n≤m+1∧Lim u∧u.length=m+1∧Lim q∧q.length=m+1-n∧nv (u.drop k)<y*2^s∧nv ((pad (m+1) (x*2^s)).drop k)=nv (q.drop k)*(y*2^s)+nv (u.drop k)∧u.take k=(pad (m+1) (x*2^s)).take k∧f 14=.iv (.int .i64 (k-1))∧f 12=.hs 54 st∧f 13=.hs 59 st2∧f 6=.iv (.int .i64 n)∧f 7=.iv (.int .i64 s)∧f 8=.iv (.sl (bW (wd (y*2^s))))∧H 54=.blk false st 148 1 (bW u)∧H 59=.blk false st2 148 1 (bW q)∧H 999=.mrk B0) (fun f H=>(aY f 14+1).toNat) ?_ ?_
 ·refine⟨m+1-n,1,1,pad (m+1) (x*2^s),List.replicate (m+1-n) 0,by omega,hu0,hpl,hq0,by simp,hi1,hi2,rfl,?_⟩;simp only[wt,seval]
 rintro f H ⟨k,st,st2,u,q,hk,hu,b1v,hq,hql,hR,hE,hT,hF⟩;rw[aB hF.1];simp (disch:=omega) only[wt,seval,hF];generalize hU0:pad (m+1) (x*2^s)=u0 at *;refine aQ (fun hge=>?_) (fun hge=>?_)
 ·obtain⟨i,rfl⟩:∃ i,k=i+1:=⟨k-1,by omega⟩;rw[show (((i+1:Nat):Int)-1)=i by omega]at *;have hnV:nv (wd (y*2^s))=y*2^s:=bC _;have hv1:0<(wd (y*2^s)).getD (n-1) 0:=by
   have:=a2j (v:=y*2^s) (by omega);rwa [hvl]at this
  have hR0:nv (u.drop (i+1))<nv (wd (y*2^s)):=by rw[hnV];exact hR
  have hV0:0<nv (wd (y*2^s)):=Nat.zero_lt_of_lt hR0;have hVn:=Nat.le_of_lt (iJ hV);rw[hvl]at hVn;generalize hv:wd (y*2^s)=v at *;generalize y*2^s=V at *;subst hnV;obtain⟨k1,k2,k3,k4,k5⟩:=OZ hu hV h2 (show i+n<u.length by omega) hvl hv1 hR;have gg:=a1l (u.getD (i+n) 0) (u.getD (i+n-1) 0) (u.getD (i+n-2) 0) (v.getD (n-1) 0) (v.getD (n-2) 0) k1 (hu.get _) (hu.get _) (hV.get _) (hV.get _) hv1;have hgW:gd3 (u.getD (i+n) 0) (u.getD (i+n-1) 0) (u.getD (i+n-2) 0) (v.getD (n-1) 0) (v.getD (n-2) 0)<W:=Nat.lt_of_le_of_lt (Nat.min_le_right _ _) (Nat.sub_lt (by decide) (by decide));generalize gd3 (u.getD (i+n) 0) (u.getD (i+n-1) 0) (u.getD (i+n-2) 0) (v.getD (n-1) 0) (v.getD (n-2) 0)=g at *;have t1:((i:Int)+n).toNat=i+n:=by omega
  have t2:((i:Int)+n-1).toNat=i+n-1:=by omega
  have t3:((i:Int)+n-2).toNat=i+n-2:=by omega
  have t4:((n:Int)-1).toNat=n-1:=by omega
  have t5:((n:Int)-2).toNat=n-2:=by omega
  simp (disch:=omega) only[wt,seval,hF,t1,t2,t3,t4,t5];refine .inl ⟨aS (by kernel_rfl),?_⟩;refine ah (gg) (by rfl) (by simp) ?_;simp (disch:=omega) only[wt,seval,hF];refine⟨bH (by kernel_rfl),?_⟩;have hal:((u.drop i).take n).length=n:=by simp;omega
  have ms:=Xc ((u.drop i).take n) v g ((hu.drop i).take n) hV hgW (by omega) (by omega);rw[hal]at ms;have hlo:=iJ ((hu.drop i).take n);rw[hal]at hlo;obtain⟨c1,c2⟩:=a3B (y:=nv v*g) (dL n) hlo;generalize hc:ZC (nv ((u.drop i).take n)) (nv v*g) (W^n)=c at *;have t6:((i:Int)+n-i).toNat=n:=by omega
  refine G8 (fun f H=>f 14=.iv (.int .i64 i)∧f 12=.hs 54 st∧f 13=.hs 59 st2∧f 6=.iv (.int .i64 n)∧f 7=.iv (.int .i64 s)∧f 8=.iv (.sl (bW v))∧f 15=.iv (.int .u64 g)∧H 54=.blk false st 148 1 (bW u)∧H 59=.blk false st2 148 1 (bW q)∧H 999=.mrk B0) ?_ (fun f H hF=>?_)
  ·simp only[wt,seval,hF]
  rw[t6];refine Eh ms (by simp only[gQ,tJ,hF,wS,Dj];rfl) (by simp only[jX];simp;omega) (.inr (flat_own3 ..)) ?_;have a6X:=iI n (nv ((u.drop i).take n)+W^n*c-nv v*g);have a8S:=lG n (nv ((u.drop i).take n)+W^n*c-nv v*g);have a9C:=oV n (nv ((u.drop i).take n)+W^n*c-nv v*g);rw[Nat.mod_eq_of_lt c2]at a9C;rw[← a9C]at c1 c2;generalize pad n (nv ((u.drop i).take n)+W^n*c-nv v*g)=rs at *;have hti:(u.take i).length=i:=by rw[List.length_take];omega
  have hdi:(u.drop (i+n)).length=m+1-(i+n):=by rw[List.length_drop];omega
  have hh1:i+n<i+n+(m+1-(i+n)):=by omega
  have hiq:i<m+1-n:=by omega
  have hut:=hu.get (i+n);have sb:=Gy (u.getD (i+n) 0) c 0 (by omega);obtain⟨p1,p2⟩:=Xo (b:=0) (g:=g) (dL n) hlo k2 hV0 hVn k4 k5 c1 c2;rcases Nat.lt_or_ge (u.getD (i+n) 0) c with hct|hct
  ·obtain⟨p3,p4,p5⟩:=p2 hct;obtain rfl:c=u.getD (i+n) 0+1:=by omega
   rw[show (u.getD (i+n) 0+W-(u.getD (i+n) 0+1)-0)%W=W-1 by rw[show u.getD (i+n) 0+W-(u.getD (i+n) 0+1)-0=W-1 by omega];exact Nat.mod_eq_of_lt (Nat.sub_lt (by decide) (by decide)),
    if_pos (by omega)]at sb
   have hWe:W-1+1=W:=Nat.sub_add_cancel (by decide);have hW1:W-1<W:=Nat.sub_lt (by decide) (by decide);generalize W-1=e at sb hWe hW1;obtain⟨X,x0,x1,x2,x3,x4,x5,x6,x7⟩:=CQ (d:=e) (show i+n<u.length by omega) a6X hu a8S hW1;have hpr:=OE (X:=u.take i++rs++u.drop (i+n)) (k:=i+n) (d:=e) (by simp only[List.length_append];omega);rw[x0]at hpr;simp (disch:=omega) only[wt,seval,hF,t1];refine ah (sb) (by rfl) (by simp) ?_;simp (disch:=omega) only[wt,seval,hF,a6X,t1,hti,hdi,hh1];rw[t6];have hg0:1≤g:=by rw[p3];exact Nat.succ_pos _
   have hgL:g<18446744073709551616:=hgW;have hg1:((g:Int)-1)=((g-1:Nat):Int):=(Int.ofNat_sub hg0).symm;have hgl:((g-1:Nat):Int)<18446744073709551616:=by rw[← hg1];clear p1 p2 p3;omega
   have hgw:=wrap_u64 (n:=((g-1:Nat):Int)) ⟨Int.natCast_nonneg _,hgl⟩;refine G8 (fun f H=>f 14=.iv (.int .i64 i)∧f 12=.hs 54 st∧f 13=.hs 59 st2∧f 6=.iv (.int .i64 n)∧f 7=.iv (.int .i64 s)∧f 8=.iv (.sl (bW v))∧f 15=.iv (.int .u64 (g-1:Nat))∧H 54=.blk false st 148 1 (bW X)∧H 59=.blk false st2 148 1 (bW q)∧H 999=.mrk B0) ?_ (fun f H hF=>?_)
   ·simp (disch:=omega) only[wt,seval,hF,hpr,hg1,hgw]
   have ad:=a1a rs v a8S hV (by omega) (by omega);rw[a6X,hvl,Nat.max_self,p5,Nat.add_div_right _ (dL n),Nat.div_eq_of_lt (Nat.lt_of_lt_of_le (Nat.mod_lt _ hV0) hVn)]at ad;have hbl:=iI n (nv (u.drop i)%nv v+W^n);have hbL:=lG n (nv (u.drop i)%nv v+W^n);have hbv:=oV n (nv (u.drop i)%nv v+W^n);rw[Nat.add_mod_right,Nat.mod_eq_of_lt (Nat.lt_of_lt_of_le (Nat.mod_lt _ hV0) hVn)]at hbv;generalize pad n (nv (u.drop i)%nv v+W^n)=bk at *;obtain⟨Y,z0,z1,z2,z3,z4,z5,z6,z7⟩:=CQ (d:=0) (show i+n<X.length by omega) hbl x7 hbL (by decide);have hqr:=OE (X:=X.take i++bk++X.drop (i+n)) (k:=i+n) (d:=0) (by simp only[List.length_append,List.length_take,List.length_drop];omega);rw[z0]at hqr;refine Eh ad (by simp only[gQ,tJ,hF,wS,Dj,x4];rfl) (by simp only[jX];simp;omega) (.inr (flat_own2 ..)) ?_;have a9B:(X.take i).length=i:=by rw[List.length_take];omega
   have b1o:(X.drop (i+n)).length=m+1-(i+n):=by rw[List.length_drop];omega
   have hbg:(X.take i++bk++X.drop (i+n)).getD (i+n) 0=e:=by
    rw[List.getD_eq_getElem?_getD,List.getElem?_append_right (by simp only[List.length_append];omega),List.length_append,a9B,hbl,Nat.sub_self,List.getElem?_drop,Nat.add_zero,← List.getD_eq_getElem?_getD,x5]
   have hrow:(bW (X.take i++bk++X.drop (i+n))).getD (i+n) []=[.int .u64 (e:Int)]:=by
    rw[Ir (by simp only[List.length_append];omega),hbg]
   rw[hrow,yE]at hqr;have b1d:(bW (X.take i++bk++X.drop (i+n))).set (i+n) [.int .u64 0]=bW Y:=hqr;have hwr:IntKind.u64.wrap ((e:Int)+1)=0:=by
    have h1:((e:Int)+1)=((e+1:Nat):Int):=rfl;rw[h1,hWe];rfl
   simp (disch:=omega) only[wt,seval,hF,hbl,t1,a9B,b1o,hh1,hrow,b1d,hwr];rw[x6,k3,Nat.mul_zero,Nat.add_zero,Nat.mul_zero,Nat.add_zero,hbv]at z3;have hq1:g-1=nv (u.drop i)/nv v:=by rw[p3];rfl
   obtain⟨y1,y2⟩:=FW (g:=g-1) (by omega) (by omega) (by omega) hT hE rfl hq1;exact⟨⟨i,st,st2,Y,q.set i (g-1),by omega,z7,by omega,hq.set (Nat.lt_of_le_of_lt (Nat.sub_le _ _) hgW),by simp;omega,by rw[z3];exact Nat.mod_lt _ hV0,by rw[z3];exact y1,by rw[z2,x2];exact y2,rfl,rfl,rfl,rfl,rfl⟩,by omega⟩
  ·obtain⟨p3,p4⟩:=p1 hct;rw[show (u.getD (i+n) 0+W-c-0)%W=u.getD (i+n) 0-c by rw[show u.getD (i+n) 0+W-c-0=u.getD (i+n) 0-c+W by omega,Nat.add_mod_right];exact Nat.mod_eq_of_lt (by omega),
    if_neg (by omega)]at sb
   simp (disch:=omega) only[wt,seval,hF,t1];refine ah (sb) (by rfl) (by simp) ?_;simp (disch:=omega) only[wt,seval,hF,a6X,t1,hti,hdi,hh1];rw[OE (by simp only[List.length_append];omega)];obtain⟨X,x0,x1,x2,x3,x4,x5,x6,x7⟩:=CQ (d:=u.getD (i+n) 0-c) (show i+n<u.length by omega) a6X hu a8S (by omega);rw[k3,Nat.mul_zero,Nat.add_zero]at x3;have x8:=x3.trans p4;obtain⟨y1,y2⟩:=FW (g:=g) (by omega) (by omega) (by omega) hT hE rfl p3;exact⟨⟨i,st,st2,X,q.set i g,by omega,x7,by omega,hq.set hgW,by simp;omega,by rw[x8];exact Nat.mod_lt _ hV0,by rw[x8];exact y1,by rw[x2];exact y2,rfl,rfl,rfl,by rw[x0],rfl⟩,by omega⟩
 ·obtain rfl:k=0:=by omega
  simp only[List.drop_zero]at hR hE;have hun:nv (u.take n)=nv u:=by
   have h1:=fA W u (k:=n) (by omega);have h2:nv u<W^n:=Nat.lt_of_lt_of_le hR (by rw[← bC (y*2^s),← hvl];exact Nat.le_of_lt (iJ hV));simp only[nv]at *;rcases Nat.eq_zero_or_pos (vl W (u.drop n)) with h|h
   ·rw[h,Nat.mul_zero]at h1;exact h1.symm
   ·have h3:=Nat.mul_le_mul_left (W^n) h;rw[Nat.mul_succ,Nat.mul_zero,Nat.zero_add]at h3;omega
  have hal:(u.take n).length=n:=by rw[List.length_take];omega
  have hut:=hu.take n;simp (disch:=omega) only[wt,seval,hF];refine ah (a4t (u.take n) s hut (by omega) (by omega)) (by simp only[gQ,tJ,hF,wS,List.drop_zero];rfl) (by simp only[jX];simp;omega) ?_;simp (disch:=omega) only[wt,seval,hF];refine aK ((Ik q hq (by omega))) (by simp only[gQ,tJ,BL,Nat.reduceEqDiff,↓reduceIte,hF];rfl) (by simp) (by first|rfl|assumption|(simp only[wt,seval,hF];done)|((repeat (replace hF:=hF.2));exact hF)) ?_;rintro B' E' _ hB hE' ⟨c,rfl,hc⟩;simp only[wt,seval,hF];have hpv:=oV (m+1) (x*2^s);rw[hU0,Nat.mod_eq_of_lt hUlt,hE]at hpv;have hps:0<2^s:=Nat.pow_pos (by decide);have hV0:0<y*2^s:=Nat.zero_lt_of_lt hR;have eq1:nv q=x/y:=by
   rw[← Nat.mul_div_mul_right x y hps,← hpv,Nat.mul_comm (nv q),Nat.mul_add_div hV0,Nat.div_eq_of_lt hR,Nat.add_zero]
  have eq2:nv u=x%y*2^s:=by
   rw[← Nat.mul_mod_mul_right,← hpv,Nat.mul_comm (nv q),Nat.mul_add_mod,Nat.mod_eq_of_lt hR]
  rw[hun,eq1,eq2,Nat.mul_div_cancel _ hps];refine aT [.iv (jo c (wd (x/y))),cl (wd (x%y))] (by rfl) (by simp (disch:=omega) only[wt,seval]) ?_;intro E hE;exact⟨c,rfl,hc.mono hB (by omega)⟩
theorem a1b (x y m n:Nat)(hm:(wd x).length=m)(hn:(wd y).length=n)(h2:2≤n)(hxy:y≤x)(hl:m≤2^38):AC Tryz.prog 286 [cl (wd x),cl (wd y)] none [cl (wd (x/y)),cl (wd (x%y))] :=
 ACX.plain (LG x y m n hm hn h2 hxy hl) fun B E r hr=>by
  obtain⟨b,rfl,-⟩:=hr;exact .cons (.iv wo) (.cons (.refl _) .nil)
theorem Vl {p:List Int}(h:tz p=0):dJ p=[]:=by rw[dJ,h];rfl
theorem a0z (p:List RI)(i:Int)(h:RP (2^40) (2^40) p):AC Tryz.prog 256 [cw p,ci i] none [cz (if i<0 then 0 else cf (pv p) i.toNat)]:=by
 refine AC.aA (rs:=[.cell 4 30]) aX Tryz.func256 (by rfl) (by rfl) (by rfl) (by rfl) (by rfl) ?_;have hl:=h.1;simp (disch:=omega) only[wt,seval];have key:AC Tryz.prog 287 [cw p,ci i] none [cr (if i<0 then (false,[]) else p.getD i.toNat (false,[]))]:=by
  refine AC.aA (rs:=[.cell 4 30]) aX Tryz.func287 (by rfl) (by rfl) (by rfl) (by rfl) (by rfl) ?_;by_cases h0:i<0
  ·simp (disch:=omega) only[wt,seval,h0]
  by_cases h1:(p.length:Int)≤i
  ·simp (disch:=omega) only[wt,seval,h0,h1];have e:p.getD i.toNat (false,[])=(false,[]):=by rw[List.getD_eq_getElem?_getD,List.getElem?_eq_none (by omega)];rfl
   rw[e]
  ·simp (disch:=omega) only[wt,seval,h0,h1]
 refine ah (key) (by rfl) (by simp) ?_;simp only[wt,seval];have hs:Sz (2^40) (if i<0 then (false,[]) else p.getD i.toNat (false,[])):=by
  split
  ·exact⟨by simp,Lim.nil⟩
  ·exact h.get _
 have e:iv (if i<0 then (false,[]) else p.getD i.toNat (false,[]))=if i<0 then 0 else cf (pv p) i.toNat:=by
  split
  ·exact Xq
  ·rw[← EP]
 refine ah ((qc _ hs)) (by rfl) (by simp) ?_;simp (disch:=omega) only[wt,seval];rw[e]
theorem a0x (p:List RI)(h:RP (2^40) (2^40) p):AC Tryz.prog 193 [cw p] none [cz (cf (pv p) (tz (pv p)-1))]:=by
 refine AC.aA (rs:=[.cell 2 30]) aX Tryz.func193 (by rfl) (by rfl) (by rfl) (by rfl) (by rfl) ?_;have hl:=h.1;simp (disch:=omega) only[wt,seval];refine ah ((a4p p h)) (by rfl) (by simp) ?_;simp only[wt,seval];have:=a0z p ((tz (pv p):Int)-1) h;have e:(if (tz (pv p):Int)-1<0 then 0 else cf (pv p) ((tz (pv p):Int)-1).toNat)=cf (pv p) (tz (pv p)-1):=by
  by_cases h0:tz (pv p)=0
  ·rw[if_pos (by omega),SN _ (by omega)]
  ·rw[if_neg (by omega)];congr 1;omega
 rw[e]at this;refine ah (this) (by rfl) (by simp) ?_;simp (disch:=omega) only[wt,seval]
theorem Vm {x y i:Nat}(h:x/W^(i+1)=y/W^(i+1))(hd:x/W^i%W<y/W^i%W):x<y:=by
 have e:∀ z:Nat,z/W^i=W*(z/W^(i+1))+z/W^i%W:=fun z=>by
  rw[Nat.pow_succ,← Nat.div_div_eq_div_mul];exact(Nat.div_add_mod _ _).symm
 have h1:=e x;have h2:=e y;rw[h]at h1;rcases Nat.lt_or_ge x y with h3|h3
 ·exact h3
 ·have:=Nat.div_le_div_right (c:=W^i) h3;omega
theorem O4 {l:List Nat}(h:Lim l)(k:Nat):l.getD k 0=nv l/W^k%W:=by
 have h1:=aJ W l k;have e1:=CY h (k+1);have e2:=CY h k;simp only[nv]at *;rw[e1,e2,Nat.mod_pow_succ]at h1;exact(Nat.eq_of_mul_eq_mul_left (dL k) (Nat.add_left_cancel h1)).symm
theorem a4O (a b:List Nat)(ha:Lim a)(hb:Lim b)(hla:a.length≤2^42)(hlb:b.length≤2^42):AC Tryz.prog 305 [cl a,cl b] none [ci (MP (nv a) (nv b))]:=by
 refine AC.aA (rs:=[.tmp 4]) aX Tryz.func305 (by rfl) (by rfl) (by rfl) (by rfl) (by rfl) ?_;generalize hn:max a.length b.length=n at *;have hnI:max (a.length:Int) (b.length:Int)=(n:Int):=by omega
 have h0:nv a/W^n=nv b/W^n:=by
  have hA:=iJ ha;have hB:=iJ hb;have hA2:W^a.length≤W^n:=Nat.pow_le_pow_right (by decide) (by omega);have hB2:W^b.length≤W^n:=Nat.pow_le_pow_right (by decide) (by omega);rw[Nat.div_eq_of_lt (by omega),Nat.div_eq_of_lt (by omega)]
 simp (disch:=omega) only[wt,seval,hnI];refine aH (fun f H=>∃ (i:Nat),i≤n∧nv a/W^i=nv b/W^i∧f 6=.iv (.int .i64 ((i:Int)-1))∧f 0=.iv (.sl (bW a))∧f 1=.iv (.sl (bW b))) (fun f H=>(aY f 6+1).toNat) ?_ ?_
 ·refine⟨n,by omega,h0,?_⟩;simp only[wt,seval]
 rintro f H ⟨i,hi,hv,hF⟩;rw[aB hF.1];simp (disch:=omega) only[wt,seval,hF];refine aQ (fun hlt=>?_) (fun hlt=>?_)
 ·obtain⟨j,rfl⟩:∃ j,i=j+1:=⟨i-1,by omega⟩;have ej:((j+1:Nat):Int)-1=(j:Int):=by omega
  have hx:=O4 ha j;have hy:=O4 hb j;rw[ej]at hF;simp (disch:=omega) only[wt,seval,hF];refine ah ((yZ a j (by omega))) (by rfl) (by simp) ?_;simp (disch:=omega) only[wt,seval,hF];refine ah ((yZ b j (by omega))) (by rfl) (by simp) ?_;simp (disch:=omega) only[wt,seval];refine aQ (fun h1=>?_) (fun h1=>?_)
  ·simp (disch:=omega) only[wt,seval,hF];refine⟨⟨j,by omega,?_,rfl⟩,by omega⟩;have e:∀ z:Nat,z/W^j=W*(z/W^(j+1))+z/W^j%W:=fun z=>by
    rw[Nat.pow_succ,← Nat.div_div_eq_div_mul];exact(Nat.div_add_mod _ _).symm
   rw[e (nv a),e (nv b),hv];omega
  simp (disch:=omega) only[wt,seval];refine aQ (fun h2=>?_) (fun h2=>?_)
  ·simp (disch:=omega) only[wt,seval];have:nv a<nv b:=Vm hv (by omega);rw[MP,if_pos this]
  simp (disch:=omega) only[wt,seval];have:nv b<nv a:=Vm hv.symm (by omega);rw[MP,if_neg (by omega),if_pos this]
 ·simp (disch:=omega) only[wt,seval];have:i=0:=by omega
  subst this;simp at hv;rw[hv,MP];simp
theorem Xb (a b:List Nat)(ha:Lim a)(hb:Lim b)(hla:a.length≤2^42)(hlb:b.length≤2^42):AC Tryz.prog 284 [cl a,cl b] none [ci (MP (nv a) (nv b))]:=by
 refine AC.aA (rs:=[.tmp 4]) aX Tryz.func284 (by rfl) (by rfl) (by rfl) (by rfl) (by rfl) ?_;simp only[wt,seval];refine ah ((a4O a b ha hb hla hlb)) (by rfl) (by simp) ?_;simp (disch:=omega) only[wt,seval]
theorem a2k {y:Nat}(h:(wd y).length=1):(wd y).getD 0 0=y∧y<W:=by
 have h1:=aJ W (wd y) 0;rw[Nat.zero_add,List.take_of_length_le (by omega),List.take_zero,Nat.pow_zero,Nat.one_mul]at h1;have h2:=bC y;simp only[nv,vl,Nat.zero_add]at *;have h3:=(aO y).get 0;omega
theorem Wi (a b:List Nat)(ha:Lim a)(hb:Lim b)(hla:a.length≤2^38)(hlb:b.length≤2^38)(h0:nv b≠0):AC Tryz.prog 255 [cl a,cl b] none [cl (wd (nv a/nv b)),cl (wd (nv a%nv b)),ci 0]:=by
 refine AC.aA (rs:=[.tmp 4,.tmp 5,.tmp 6]) aX Tryz.func255 (by rfl) (by rfl) (by rfl) (by rfl) (by rfl) ?_;simp only[wt,seval];refine ah ((jv a ha (by omega))) (by rfl) (by simp) ?_;simp only[wt,seval];refine ah ((jv b hb (by omega))) (by rfl) (by simp) ?_;simp (disch:=omega) only[wt,seval];have hxl:=fJ ha;have hyl:=fJ hb;generalize nv a=x at *;generalize nv b=y at *;refine aQ (fun h=>?_) (fun h=>?_)
 ·have:=fC.mp (Int.ofNat.inj h);exact absurd this h0
 simp only[wt,seval];refine ah ((Xb (wd x) (wd y) (aO _) (aO _) (by omega) (by omega))) (by rfl) (by simp) ?_;simp (disch:=omega) only[wt,seval];rw[bC,bC];refine aQ (fun hc=>?_) (fun hc=>?_)
 ·have hlt:x<y:=by
   unfold MP at hc;split at hc
   ·assumption
   ·split at hc<;>omega
  rw[Nat.div_eq_of_lt hlt,Nat.mod_eq_of_lt hlt,jG];simp (disch:=omega) only[wt,seval]
 have hle:y≤x:=by
  unfold MP at hc;split at hc
  ·omega
  ·omega
 simp (disch:=omega) only[wt,seval];refine aQ (fun h1=>?_) (fun h1=>?_)
 ·obtain⟨e1,e2⟩:=a2k (Int.ofNat.inj h1);have hp:0<(wd y).length:=by omega
  simp (disch:=omega) only[wt,seval];have m:=a1w (wd x) y (aO _) (by omega) h0 e2;rw[bC]at m;have n:=D8 (x%y) (Nat.lt_trans (Nat.mod_lt _ (by omega)) e2);simp only[seval,e1];refine ah (m) (by rfl) (by simp) ?_;simp (disch:=omega) only[wt,seval];refine ah (n) (by rfl) (by simp) ?_;simp (disch:=omega) only[wt,seval]
 ·have hn:2≤(wd y).length:=by omega
  simp only[wt,seval];refine ah ((a1b x y _ _ rfl rfl hn hle (by omega))) (by rfl) (by simp) ?_;simp (disch:=omega) only[wt,seval]
theorem a6Q (a b:List Nat)(ha:Lim a)(hb:Lim b)(hla:a.length≤2^38)(hlb:b.length≤2^38)(h0:nv b≠0):AC Tryz.prog 301 [cl a,cl b] none [cl (wd (nv a%nv b)),ci 0]:=by
 refine AC.aA (rs:=[.tmp 4,.tmp 5]) aX Tryz.func301 (by rfl) (by rfl) (by rfl) (by rfl) (by rfl) ?_;simp only[wt,seval];refine ah ((Wi a b ha hb hla hlb h0)) (by rfl) (by simp) ?_;simp (disch:=omega) only[wt,seval]
theorem a5d (a b:List Nat)(ha:Lim a)(hb:Lim b)(hla:a.length≤2^38)(hlb:b.length≤2^38)(h0:nv b≠0):AC Tryz.prog 281 [cl a,cl b] none [cl (wd (nv a%nv b))]:=by
 refine AC.aA (rs:=[.tmp 4]) aX Tryz.func281 (by rfl) (by rfl) (by rfl) (by rfl) (by rfl) ?_;simp only[wt,seval];refine ah ((a6Q a b ha hb hla hlb h0)) (by rfl) (by simp) ?_;simp (disch:=omega) only[wt,seval]
theorem xu (a b:List Nat)(ha:Lim a)(hb:Lim b)(hla:a.length≤2^38)(hlb:b.length≤2^38)(h0:nv b≠0):AC Tryz.prog 188 [cl a,cl b] none [cl (if nv a%nv b=0 then wd (nv a/nv b) else []),ci (if nv a%nv b=0 then 0 else 4)]:=by
 refine AC.aA (rs:=[.tmp 4,.tmp 5]) aX Tryz.func188 (by rfl) (by rfl) (by rfl) (by rfl) (by rfl) ?_;simp only[wt,seval];refine ah ((Wi a b ha hb hla hlb h0)) (by rfl) (by simp) ?_;simp (disch:=omega) only[wt,seval];refine aQ (fun h=>?_) (fun h=>?_)
 ·have h1:nv a%nv b≠0:=fun h2=>by rw[h2,jG]at h;simp at h
  rw[if_neg h1,if_neg h1];simp (disch:=omega) only[wt,seval]
 ·have h1:nv a%nv b=0:=by
   rcases Nat.eq_zero_or_pos (wd (nv a%nv b)).length with h2|h2
   ·exact fC.mp h2
   ·exact absurd (by omega) h
  rw[if_pos h1,if_pos h1];simp (disch:=omega) only[wt,seval]
def a4z (f:Fr)(t:Nat):Nat:=match f t with
 | .iv (.sl rows)=>nv (rows.map fun r=>match r with | [.int _ n]=>n.toNat|_=>0)
 | _=>0
theorem Ru {f:Fr}{t v:Nat}(h:f t=.iv (.sl (bW (wd v)))):a4z f t=v:=by
 unfold a4z;rw[h];have e:(bW (wd v)).map (fun r=>match r with | [.int _ n]=>n.toNat|_=>0)=wd v:=by
  simp only[bW,List.map_map]
  conv=>rhs;rw[← List.map_id (wd v)]
  rfl
 simp only[e,bC]
theorem LU (a b:List Nat)(ha:Lim a)(hb:Lim b)(hla:a.length≤2^38)(hlb:b.length≤2^38):AC Tryz.prog 250 [cl a,cl b] none [cl (wd (Nat.gcd (nv a) (nv b)))]:=by
 refine AC.aA (rs:=[.tmp 4]) aX Tryz.func250 (by rfl) (by rfl) (by rfl) (by rfl) (by rfl) ?_;simp only[wt,seval];refine ah ((jv a ha (by omega))) (by rfl) (by simp) ?_;simp only[wt,seval];refine ah ((jv b hb (by omega))) (by rfl) (by simp) ?_;simp only[wt,seval];have hxl:=fJ ha;have hyl:=fJ hb;generalize nv a=x at *;generalize nv b=y at *;refine aH (fun f H=>∃ u v:Nat,Nat.gcd u v=Nat.gcd x y∧(wd u).length≤2^38∧(wd v).length≤2^38∧f 0=.iv (.sl (bW (wd u)))∧f 1=.iv (.sl (bW (wd v)))) (fun f H=>a4z f 1) ?_ ?_
 ·exact⟨x,y,rfl,by omega,by omega,by simp only[wt,seval]⟩
 rintro f H ⟨u,v,hg,hu,hv,hF⟩;rw[Ru hF.2];simp (disch:=omega) only[wt,seval,hF];refine aQ (fun h=>?_) (fun h=>?_)
 ·have h0:v≠0:=fun h1=>by rw[h1,jG]at h;simp at h
  have hm:=a5d (wd u) (wd v) (aO _) (aO _) hu hv (by rw[bC];exact h0);rw[bC,bC]at hm;simp only[wt,seval,hF];refine ah (hm) (by rfl) (by simp) ?_;simp only[wt,seval];have hlt:=Nat.mod_lt u (Nat.pos_of_ne_zero h0);have:=bJ (Nat.le_of_lt hlt);rw[Ru rfl];exact⟨⟨v,u%v,by rw[← hg,Nat.gcd_comm u v,Nat.gcd_rec v u,Nat.gcd_comm],hv,by omega,rfl,rfl⟩,hlt⟩
 ·have h0:v=0:=fC.mp (by omega);subst h0;rw[Nat.gcd_zero_right]at hg;simp (disch:=omega) only[wt,seval,hF,hg]
theorem Dl (c:RI):iv c=sg c.1 (nv c.2):=rfl
theorem mG (s:Bool)(n:Nat)(h:(wd n).length≤2^40):AC Tryz.prog 100 [cb s,cl (wd n)] none [cz (sg s n)]:=by
 refine AC.aA (rs:=[.cell 4 30]) aX Tryz.func100 (by rfl) (by rfl) (by rfl) (by rfl) (by rfl) ?_;simp (disch:=omega) only[wt,seval];have m:=qc (s,wd n) ⟨h,aO _⟩;rw[Dl,bC]at m;refine ah (m) (by rfl) (by simp) ?_;simp (disch:=omega) only[wt,seval]
theorem a2p {s t:Bool}{x y:Nat}(h:x%y=0):sg s x/sg t y=sg (s != t) (x/y)∧sg t y∣sg s x:=by
 obtain⟨k,rfl⟩:=Nat.dvd_of_mod_eq_zero h;rcases Nat.eq_zero_or_pos y with h0|h0
 ·subst h0;cases s<;>cases t<;>simp[sg]
 ·rw[Nat.mul_div_cancel_left _ h0];have hy:(y:Int)≠0:=by omega
  cases s<;>cases t<;>simp[sg,Int.mul_ediv_cancel_left _ hy,← Int.mul_neg]
theorem a6A {s t:Bool}{x y:Nat}:sg t y∣sg s x↔x%y=0:=by
 constructor
 ·intro h;have h1:=Int.natAbs_dvd_natAbs.mpr h;have e:∀ (b:Bool) (n:Nat),(sg b n).natAbs=n:=fun b n=>by cases b<;>simp[sg]
  rw[e,e]at h1;exact Nat.mod_eq_zero_of_dvd h1
 ·intro h;exact(a2p h).2
theorem BI (a b:RI)(ha:Sz (2^38) a)(hb:Sz (2^38) b)(h0:iv b≠0)(hd:iv b∣iv a):AC Tryz.prog 99 [cr a,cr b] none [cz (iv a/iv b),ci 0]:=by
 refine AC.aA (rs:=[.cell 4 30,.tmp 5]) aX Tryz.func99 (by rfl) (by rfl) (by rfl) (by rfl) (by rfl) ?_;rw[Dl,Dl]at hd;rw[Dl]at h0;have hm:=a6A.mp hd;have hn:nv b.2≠0:=fun h=>h0 (by rw[h];cases b.1<;>rfl)
 have m:=xu a.2 b.2 ha.2 hb.2 ha.1 hb.1 hn;rw[if_pos hm,if_pos hm]at m;rw[Dl,Dl,(a2p hm).1];simp (disch:=omega) only[wt,seval];refine ah (m) (by rfl) (by simp) ?_;simp (disch:=omega) only[wt,seval];refine ah ((zk (a.1 != b.1) (nv a.2/nv b.2))) (by rfl) (by simp) ?_;simp (disch:=omega) only[wt,seval]
def gz (q:List Int):Nat:=q.foldl (fun g c=>Nat.gcd g c.natAbs) 0
theorem Dw {q:List Int}{i:Nat}(h:i<q.length):gz (q.take (i+1))=Nat.gcd (gz (q.take i)) (cf q i).natAbs:=by
 have e:q.take (i+1)=q.take i++[cf q i]:=by
  rw[List.take_add_one];congr 1;simp[cf,List.getD,h]
 rw[e,gz,List.foldl_append];rfl
theorem a3k (p:List RI)(h:RP (2^40) (2^38) p):AC Tryz.prog 194 [cw p] none [cl (wd (gz (pv p)))]:=by
 refine AC.aA (rs:=[.tmp 2]) aX Tryz.func194 (by rfl) (by rfl) (by rfl) (by rfl) (by rfl) ?_;have hl:=h.1;simp (disch:=omega) only[wt,seval];refine Jc (.iv 3 6 1 false 148 1 [] (by simp only[wt,seval]) (by simp only[wt,seval]) (.refl _ _)) (fun f H=>∃ (i:Nat),i≤p.length∧(wd (gz ((pv p).take i))).length≤2^38∧f 9=.iv (.int .i64 i)∧f 7=.iv (.sl (kF p))∧f 8=.iv (.int .i64 p.length)∧f 3=.iv (.sl (bW (wd (gz ((pv p).take i)))))) (fun f H=>(p.length-aY f 9).toNat) ?_ ?_
 ·refine⟨0,by omega,by rw[List.take_zero,gz,List.foldl_nil,jG];exact Nat.zero_le _,?_⟩;simp only[wt,seval,List.take_zero,gz,List.foldl_nil,jG]
 rintro f H ⟨i,hi,hs,hF⟩;rw[aB hF.1];simp (disch:=omega) only[wt,seval,hF];refine aQ (fun hlt=>?_) (fun hlt=>?_)
 ·have hc:=h.get i;have m:=LU (wd (gz ((pv p).take i))) (p.getD i (false,[])).2 (aO _) hc.2 hs hc.1;rw[bC,← LH,← EP,← Dw (by rw[nV];omega)]at m;simp (disch:=omega) only[wt,seval,hF];refine ah (m) (by rfl) (by simp) ?_;simp (disch:=omega) only[wt,seval,hF];refine⟨⟨i+1,by omega,?_,by omega,rfl⟩,by omega⟩;rw[Dw (by rw[nV];omega)];rcases Nat.eq_zero_or_pos (cf (pv p) i).natAbs with h0|h0
  ·rw[h0,Nat.gcd_zero_right];exact hs
  ·refine Nat.le_trans (bJ (Nat.gcd_le_right _ h0)) ?_;rw[EP,LH];exact Nat.le_trans (fJ hc.2) hc.1
 ·simp (disch:=omega) only[wt,seval,hF];rw[List.take_of_length_le (by rw[nV];omega)]
theorem RS {n k:Nat}{p:List RI}(h:RP n k p):(wd (gz (pv p))).length≤k:=by
 have key:∀ i,i≤p.length→(wd (gz ((pv p).take i))).length≤k:=by
  intro i
  induction i with
  | zero=>intro _;rw[List.take_zero,gz,List.foldl_nil,jG];exact Nat.zero_le _
  | succ i ih =>
   intro hi;rw[Dw (by rw[nV];omega)];rcases Nat.eq_zero_or_pos (cf (pv p) i).natAbs with h0|h0
   ·rw[h0,Nat.gcd_zero_right];exact ih (by omega)
   ·refine Nat.le_trans (bJ (Nat.gcd_le_right _ h0)) ?_;rw[EP,LH];exact Nat.le_trans (fJ (h.get i).2) (h.get i).1
 have:=key p.length (Nat.le_refl _);rwa [List.take_of_length_le (by rw[nV];exact Nat.le_refl _)]at this
def lc (q:List Int):Int:=cf q (tz q-1)
def cont (q:List Int):Int:=sg (decide (lc q<0)) (gz q)
theorem sign_neg (z:Int):z.sign<0↔z<0:=by
 rcases Int.lt_trichotomy z 0 with h|h|h
 ·rw[Int.sign_eq_neg_one_of_neg h];omega
 ·subst h;simp
 ·rw[Int.sign_eq_one_of_pos h];omega
theorem CU (p:List RI)(h:RP (2^40) (2^38) p):AC Tryz.prog 103 [cw p] none [cz (cont (pv p))]:=by
 refine AC.aA (rs:=[.cell 2 30]) aX Tryz.func103 (by rfl) (by rfl) (by rfl) (by rfl) (by rfl) ?_;have hl:=h.1;have hg:=RS h;have hs:=pY (canon (lc (pv p))) ((aW _).mono (by
  have:=(h.pv).cf (tz (pv p)-1);unfold lc;omega))
 rw[aN]at hs;simp (disch:=omega) only[wt,seval];refine ah ((a0x p (h.mono (by omega) (by omega)))) (by rfl) (by simp) ?_;simp only[wt,seval];refine ah (hs) (by rfl) (by simp) ?_;simp (disch:=omega) only[wt,seval];refine ah ((a3k p h)) (by rfl) (by simp) ?_;simp only[wt,seval];have m:=mG (decide (lc (pv p)<0)) (gz (pv p)) (by omega);have e:(decide ((lc (pv p)).sign<0))=decide (lc (pv p)<0):=by rw[decide_eq_decide];exact sign_neg _
 rw[e];refine ah (m) (by rfl) (by simp) ?_;simp (disch:=omega) only[wt,seval];rfl
def La (c:Int)(q:List Int):List Int:=q.map (· / c)
theorem xI (c:Int)(q:List Int)(k:Nat):cf (La c q) k=cf q k/c:=by
 unfold La cf;rw[List.getD_eq_getElem?_getD,List.getD_eq_getElem?_getD,List.getElem?_map];cases q[k]? with
 | none=>simp
 | some x=>rfl
theorem JE {a b:Int}(h:b∣a):zl (a/b)≤zl a:=by
 obtain⟨k,rfl⟩:=h;by_cases h0:b=0
 ·subst h0;simp
 ·rw[Int.mul_ediv_cancel_left _ h0];unfold zl;rw[Int.natAbs_mul];exact bJ (Nat.le_mul_of_pos_left _ (by omega))
theorem a2J (q:List Int)(k:Nat):(gz q:Int)∣cf q k:=by
 have key:∀ i,i≤q.length→∀ k,k<i→(gz (q.take i):Int)∣cf q k:=by
  intro i
  induction i with
  | zero=>intro _ k hk;omega
  | succ i ih =>
   intro hi k hk;rw[Dw (by omega)];rcases Nat.lt_or_ge k i with h|h
   ·exact Int.dvd_trans (Int.natCast_dvd_natCast.mpr (Nat.gcd_dvd_left _ _)) (ih (by omega) k h)
   ·obtain rfl:k=i:=by omega
    exact Int.ofNat_dvd_left.mpr (Nat.gcd_dvd_right _ _)
 rcases Nat.lt_or_ge k q.length with h|h
 ·have:=key q.length (Nat.le_refl _) k h;rwa [List.take_of_length_le (Nat.le_refl _)]at this
 ·rw[xJ h];exact Int.dvd_zero _
theorem IZ (q:List Int)(k:Nat):cont q∣cf q k:=by
 have:=a2J q k;unfold cont sg;split
 ·exact Int.neg_dvd.mpr this
 ·exact this
theorem vN (q:List Int):(cont q).natAbs=gz q:=by
 unfold cont sg;split<;>simp
def yN (q:List Int):List Int:=La (cont q) q

def a5o (f:Fr)(t:Nat):Nat:=match f t with
 | .iv (.sl rows)=>vl D16 (rows.map fun r=>match r with | [.int _ n]=>n.toNat|_=>0)
 | _=>0
theorem Sm {f:Fr}{t:Nat}{l:List Nat}(h:f t=.iv (.sl (nums l))):a5o f t=vl D16 l:=by
 unfold a5o;rw[h];simp only[nums,List.map_map]
 congr 1
 conv=>rhs;rw[← List.map_id l]
 exact List.map_congr_left fun x _=>by simp
theorem a1z {a b:Nat}(h:a≤b):(dgD a).length≤(dgD b).length:=by
 have h1:=fQ (eU b);rw[fK]at h1;exact(ig jE (dgD b).length (n:=a)).mpr (Nat.lt_of_le_of_lt h h1)
theorem Ov (a b:List Nat)(ha:Lim a)(hb:Lim b)(hla:a.length≤2^38)(hlb:b.length≤2^38):AC Tryz.prog 110 [cl a,cl b] none [cl (wd (Nat.gcd (nv a) (nv b)))]:=by
 refine AC.aA (rs:=[.tmp 4]) aX Tryz.func110 (by rfl) (by rfl) (by rfl) (by rfl) (by rfl) ?_;obtain⟨x,y,s,h1,h2⟩:=wF a b 63 ha hb (by omega) (by omega) (by omega);have h3:=kR ha;have h4:=kR hb;simp only[wt,seval];refine ah (h1) (by rfl) (by simp) ?_;simp (disch:=omega) only[wt,seval];cases s with
 | true =>
  obtain⟨rfl,rfl,b1,b2⟩:=h2 rfl;clear h1 h2;generalize nv a=x at *;generalize nv b=y at *;refine aH (fun f H=>∃ (u v:Nat),Nat.gcd u v=Nat.gcd x y∧u<2^63∧v<2^63∧f 6=.iv (.int .u64 v)∧f 5=.iv (.int .u64 u)∧f 7=.iv (.bool true)) (fun f H=>(aY f 6).toNat) ?_ ?_
  ·refine⟨x,y,rfl,b1,b2,?_⟩;simp only[wt,seval]
  rintro f H ⟨u,v,hg,hu,hv,hF⟩;rw[aB hF.1];simp (disch:=omega) only[wt,seval,hF];by_cases hp:0<v
  ·have hp':(0:Int)<(v:Int):=by omega
   have e2:((u:Nat):Int).tmod ((v:Nat):Int)=((u%v:Nat):Int):=by rw[Int.tmod_eq_emod_of_nonneg (by omega)];rfl
   have hlt:=Nat.mod_lt u hp;generalize hr:u%v=r at *;simp (disch:=omega) only[wt,seval,hF,hp',e2];refine .inl ⟨aS (by kernel_rfl),?_⟩;refine⟨bH (by kernel_rfl),?_⟩;refine⟨⟨v,r,?_,hv,by omega,rfl,rfl⟩,by omega⟩;rw[← hg,← hr,Nat.gcd_comm u v,Nat.gcd_rec v u,Nat.gcd_comm]
  ·obtain rfl:v=0:=by omega
   rw[Nat.gcd_zero_right]at hg;subst hg;simp (disch:=omega) only[wt,seval,hF];refine ah ((Fq (Nat.gcd x y) (by simp only[W];omega))) (by rfl) (by simp) ?_;simp (disch:=omega) only[wt,seval]
 | false =>
  clear h2;refine aH (fun f H=>True∧f 6=.iv (.int .u64 y)∧f 5=.iv (.int .u64 x)∧f 7=.iv (.bool false)∧f 0=.iv (.sl (bW a))∧f 1=.iv (.sl (bW b))) (fun f H=>(aY f 6).toNat) ?_ ?_
  ·refine⟨trivial,?_⟩;simp only[wt,seval]
  rintro f H ⟨_,hF⟩;rw[aB hF.1];simp (disch:=omega) only[wt,seval,hF];refine ah ((jW a ha (by omega))) (by rfl) (by simp) ?_;simp only[wt,seval,hF];refine ah ((jW b hb (by omega))) (by rfl) (by simp) ?_;simp only[wt,seval];generalize nv a=x1 at *;generalize nv b=y1 at *;refine aH (fun f H=>∃ u v:Nat,Nat.gcd u v=Nat.gcd x1 y1∧(dgD u).length≤2^40∧(dgD v).length≤2^40∧f 8=.iv (.sl (nums (dgD u)))∧f 9=.iv (.sl (nums (dgD v)))) (fun f H=>a5o f 9) ?_ ?_
  ·exact⟨x1,y1,rfl,by omega,by omega,by simp only[wt,seval]⟩
  clear hF;rintro f H ⟨u,v,hg,hu,hv,hF⟩;rw[Sm hF.2,fK];simp (disch:=omega) only[wt,seval,hF];refine aQ (fun h=>?_) (fun h=>?_)
  ·have h0:v≠0:=fun h1=>by rw[h1,o9.mpr rfl]at h;simp at h
   obtain⟨q,q1,q2,q3,m⟩:=Si u v h0 (by omega) (by omega);have hlt:=Nat.mod_lt u (Nat.pos_of_ne_zero h0);have hml:=a1z (Nat.le_of_lt hlt);have mc:=GV (dgD (u%v)) (by omega);rw[MH (eU _),fK]at mc;simp only[wt,seval,hF];refine ah (m) (by rfl) (by simp) ?_;simp (disch:=omega) only[wt,seval,hF];refine ah (mc) (by rfl) (by simp) ?_;simp only[wt,seval];rw[Sm rfl,fK];exact⟨⟨v,u%v,by rw[← hg,Nat.gcd_comm u v,Nat.gcd_rec v u,Nat.gcd_comm],hv,by omega,rfl,rfl⟩,hlt⟩
  ·have h0:v=0:=o9.mp (by omega);subst h0;rw[Nat.gcd_zero_right]at hg;subst hg;have mn:=jQ (dgD (Nat.gcd x1 y1)) (eU _) (by omega);rw[fK]at mn;simp only[wt,seval,hF];refine ah (mn) (by rfl) (by simp) ?_;simp (disch:=omega) only[wt,seval]
abbrev cqq (r:RQ):CV:=.agg (nJ r)
abbrev cqz (q:Rat):CV:=cqq (aP q)
abbrev cqw (l:List RQ):CV:=.iv (.sl (fD l))
abbrev cqp (q:List Rat):CV:=cqw (cqs q)
abbrev q0:RQ:=((false,[]),[])
theorem QH {l:List RQ}{i:Nat}(h:i<l.length):(fD l).getD i []=nJ (l.getD i q0):=by simp[fD,List.getD,h]
theorem VY (p:List RQ):(∀ r∈fD p,r.length=3)↔True:=by
 simp only[iff_true];intro r hr;obtain⟨c,_,rfl⟩:=List.mem_map.1 hr;rfl
theorem VX (p:List RQ)(c:RQ):fD p++[nJ c]=fD (p++[c]):=by simp[fD]
theorem a0e:fD []=[]:=rfl
theorem a0c (p:List RQ)(i:Nat)(c:RQ):(fD p).set i (nJ c)=fD (p.set i c):=by simp[fD,List.map_set]
theorem VW (p:List RQ)(k:Nat):(fD p).take k=fD (p.take k):=by simp[fD,List.map_take]
theorem a0d (n:Nat):List.replicate n [IV.bool false,IV.sl [],IV.sl []]=fD (List.replicate n q0):=by rw[fD,List.map_replicate];rfl
theorem Wj (r:RQ):List.take 3 (nJ r)=nJ r:=rfl
theorem TV (r:RQ):List.drop 2 (nJ r)=[.sl (bW r.2)]:=rfl
theorem TW (r:RQ):List.drop 1 (nJ r)=[.sl (bW r.1.2),.sl (bW r.2)]:=rfl
theorem TU (r:RQ):List.take 2 (nJ r)=lQ r.1:=rfl
theorem Wn (r:RQ)(c:RI):splice (nJ r) 0 (lQ c)=nJ (c,r.2):=rfl
theorem a0l (r:RQ):(nJ r).length=3:=rfl
theorem OC (x y z:IV)(r:RQ):splice [x,y,z] 0 (nJ r)=nJ r:=rfl
theorem a0k (r:RQ):[IV.bool r.1.1,IV.sl (bW r.1.2),IV.sl (bW r.2)]=nJ r:=rfl
theorem rqs:(∀ l:List RQ,(fD l).length=l.length)∧(∀ {l:List RQ} {i:Nat},i<l.length→(fD l).getD i []=nJ (l.getD i q0)) ∧
  (∀ (c:RI) (x:IV),lay (fun i=>[(0,2),(2,1)][i]?) [.bool false,.sl [],.sl []] ([0,1].zip [lQ c,[x]])=some ((2=2∧0+2≤3)∧(1=1∧2+1≤3)∧True,[.bool c.1,.sl (bW c.2),x])) ∧
  (∀ r:RQ,List.take 3 (nJ r)=nJ r)∧(∀ r:RQ,(nJ r).length=3)∧(∀ (x y z:IV) (r:RQ),splice [x,y,z] 0 (nJ r)=nJ r)∧(∀ r:RQ,[IV.bool r.1.1,IV.sl (bW r.1.2),IV.sl (bW r.2)]=nJ r) ∧
  (∀ p:List RQ,(∀ r∈fD p,r.length=3)↔True)∧(∀ (p:List RQ) (c:RQ),fD p++[nJ c]=fD (p++[c]))∧(∀ (p:List RQ) (i:Nat) (c:RQ),(fD p).set i (nJ c)=fD (p.set i c)) ∧
  (∀ (p:List RQ) (k:Nat),(fD p).take k=fD (p.take k))∧(∀ n:Nat,List.replicate n [IV.bool false,IV.sl [],IV.sl []]=fD (List.replicate n q0))∧(fD []=[]) ∧
  (∀ r:RQ,List.drop 2 (nJ r)=[.sl (bW r.2)])∧(∀ r:RQ,List.take 2 (nJ r)=lQ r.1)∧(∀ r:RQ,List.drop 1 (nJ r)=[.sl (bW r.1.2),.sl (bW r.2)])∧(∀ (r:RQ) (c:RI),splice (nJ r) 0 (lQ c)=nJ (c,r.2)) :=
 ⟨AA,QH,a4Q,Wj,a0l,OC,a0k,VY,VX,a0c,VW,a0d,a0e,TV,TU,TW,Wn⟩
theorem a8K (m:Nat):W^m=2^(64*m):=by rw[Nat.pow_mul]
theorem a7r {l:List Nat}(h:Lim l){m:Nat}(h0:jk l=m+1):l.getD m 0<W∧m*64+bl (l.getD m 0)=bl (nv l):=by
 have e:(wd (nv l)).length=m+1:=by rw[Tn h,List.length_take,Nat.min_eq_left (oC l),h0]
 have h1:nv l<W^(m+1):=bT.mp (by omega);have h2:W^m≤nv l:=Nat.le_of_not_lt fun h3=>by have:=bT.mpr h3;omega
 have h4:nv l/W^m<W:=by rw[Nat.div_lt_iff_lt_mul (dL m),Nat.mul_comm,← Nat.pow_succ];exact h1
 have h5:=O4 h m;rw[Nat.mod_eq_of_lt h4]at h5;refine⟨by rw[h5];exact h4,?_⟩;rw[h5,a8K]at *;rw[BA h2];omega
theorem a0U (l:List Nat)(h:Lim l)(hl:l.length≤2^42):AC Tryz.prog 269 [cl l] none [ci (bl (nv l))]:=by
 refine AC.aA (rs:=[.tmp 2]) aX Tryz.func269 (by rfl) (by rfl) (by rfl) (by rfl) (by rfl) ?_;simp only[wt,seval];refine ah ((JY l (by omega))) (by rfl) (by simp) ?_;simp (disch:=omega) only[wt,seval];have ht:=oC l;refine aQ (fun h1=>?_) (fun h1=>?_)
 ·have h2:jk l=0:=by omega
  simp (disch:=omega) only[wt,seval];rw[show nv l=0 from (qj lK l).mpr h2];rfl
 ·obtain⟨m,hm⟩:∃ m,jk l=m+1:=⟨jk l-1,by omega⟩;obtain⟨h3,h4⟩:=a7r h hm;have e:((m+1:Nat):Int)-1=(m:Int):=by omega
  rw[hm];have hb:bl (l.getD m 0)≤64:=ER.mpr h3;simp (disch:=omega) only[wt,seval,e];refine ah ((RF (l.getD m 0) h3)) (by rfl) (by simp) ?_;simp (disch:=omega) only[wt,seval];rw[← h4]
  push_cast
  rfl
theorem Rt (l:List Nat)(h:Lim l)(hl:l.length≤2^42):AC Tryz.prog 216 [cl l] none [ci (bl (nv l))]:=by
 refine AC.aA (rs:=[.tmp 2]) aX Tryz.func216 (by rfl) (by rfl) (by rfl) (by rfl) (by rfl) ?_;simp only[wt,seval];refine ah ((a0U l h hl)) (by rfl) (by simp) ?_;simp (disch:=omega) only[wt,seval]
theorem Jb {n:Nat}:bl n=0↔n=0:=by unfold bl;split<;>simp_all
theorem KY (r:RQ)(h:Nt (2^42) r.2):AC Tryz.prog 134 [cqq r] none [ci (if nv r.2=0 then 1 else 0)]:=by
 refine AC.aA (rs:=[.tmp 2]) aX Tryz.func134 (by rfl) (by rfl) (by rfl) (by rfl) (by rfl) ?_;simp (disch:=omega) only[wt,seval];refine ah ((Rt r.2 h.2 h.1)) (by rfl) (by simp) ?_;simp (disch:=omega) only[wt,seval];refine aQ (fun h1=>?_) (fun h1=>?_)
 ·rw[if_pos (Jb.mp (by omega))];simp (disch:=omega) only[wt,seval]
 ·rw[if_neg (fun h2=>h1 (by rw[Jb.mpr h2];rfl))];simp (disch:=omega) only[wt,seval]
theorem qy (r:RQ)(h:Nt (2^42) r.2)(h0:nv r.2≠0):AC Tryz.prog 134 [cqq r] none [ci 0]:=by
 have:=KY r h;rwa [if_neg h0]at this
theorem U3 (r:RQ)(h:Nt (2^42) r.2)(h0:nv r.2=0):AC Tryz.prog 134 [cqq r] none [ci 1]:=by
 have:=KY r h;rwa [if_pos h0]at this
theorem OD (l:List RQ)(e:Int)(hl:l.length≤2^40)(h:∀ r∈l,Nt (2^42) r.2)(hg:(∀ r∈l,nv r.2≠0)→e=0)(hb:(¬∀ r∈l,nv r.2≠0)→e=1):AC Tryz.prog 181 [cqw l] none [ci e]:=by
 refine AC.aA (rs:=[.tmp 2]) aX Tryz.func181 (by rfl) (by rfl) (by rfl) (by rfl) (by rfl) ?_;simp (disch:=omega) only[wt,seval,rqs];refine aH (fun f H=>∃ (i:Nat),i≤l.length∧(∀ j,j<i→nv (l.getD j q0).2≠0)∧f 8=.iv (.int .i64 i)∧f 6=.iv (.sl (fD l))∧f 7=.iv (.int .i64 l.length)) (fun f H=>(l.length-aY f 8).toNat) ?_ ?_
 ·refine⟨0,by omega,fun j hj=>by omega,?_⟩;simp only[wt,seval]
 rintro f H ⟨i,hi,hz,hF⟩;rw[aB hF.1];simp (disch:=omega) only[wt,seval,hF];refine aQ (fun hlt=>?_) (fun hlt=>?_)
 ·have hlt':i<l.length:=by omega
  have hmem:l.getD i q0∈l:=by rw[List.getD,List.getElem?_eq_getElem hlt',Option.getD_some];exact List.getElem_mem hlt'
  simp (disch:=omega) only[wt,seval,rqs,hF];by_cases h0:nv (l.getD i q0).2=0
  ·obtain rfl:=hb (fun h1=>h1 _ hmem h0);refine ah ((U3 (l.getD i q0) (h _ hmem) h0)) (by rfl) (by simp) ?_;simp (disch:=omega) only[wt,seval]
  ·have h0':=h0;refine ah ((qy (l.getD i q0) (h _ hmem) h0)) (by rfl) (by simp) ?_;simp (disch:=omega) only[wt,seval,hF];refine⟨⟨i+1,by omega,fun j hj=>?_,by omega⟩,by omega⟩;rcases Nat.lt_or_ge j i with hj'|hj'
   ·exact hz j hj'
   ·obtain rfl:j=i:=by omega
    exact h0
 ·obtain rfl:=hg (fun r hr=>by
   obtain⟨j,hj,rfl⟩:=List.getElem_of_mem hr;have:=hz j (by omega);rwa [List.getD,List.getElem?_eq_getElem hj,Option.getD_some]at this)
  simp (disch:=omega) only[wt,seval]
theorem Og (n:Int)(g:Nat)(h:(g:Int)∣n)(hg:g≠0):sg (decide (n<0)) (n.natAbs/g)=n/g:=by
 obtain⟨k,rfl⟩:=h;have hg':(g:Int)≠0:=by omega
 have hp:(0:Int)<g:=by omega
 rw[Int.mul_ediv_cancel_left _ hg',Int.natAbs_mul,Int.natAbs_natCast,Nat.mul_div_cancel_left _ (by omega)];unfold sg;by_cases hk:k<0
 ·rw[decide_eq_true (Int.mul_neg_of_pos_of_neg hp hk),if_pos rfl];omega
 ·rw[decide_eq_false (by have:=Int.mul_nonneg (a:=(g:Int)) (b:=k) (by omega) (by omega);omega),if_neg (by decide)];omega
theorem I4 (n:RI)(d:List Nat)(hn:Sz (2^38) n)(hd:Nt (2^38) d)(h0:nv d≠0):AC Tryz.prog 182 [cr n,cl d] none [cqz (mkRat (iv n) (nv d))]:=by
 rw[show cqz (mkRat (iv n) (nv d))=cqq (rq (iv n) (nv d)) by rw[GK h0]];have zn:=lI hn;have hgp:0<Nat.gcd (iv n).natAbs (nv d):=Nat.gcd_pos_of_pos_right _ (by omega);have hgd:(wd (Nat.gcd (iv n).natAbs (nv d))).length≤2^38:=Nat.le_trans (bJ (Nat.gcd_le_right _ (by omega))) (Nat.le_trans (fJ hd.2) hd.1);have h1:((Nat.gcd (iv n).natAbs (nv d):Nat):Int)∣iv n:=Int.ofNat_dvd_left.mpr (Nat.gcd_dvd_left _ _);have g:=LU (wd (iv n).natAbs) d (aO _) hd.2 zn hd.1;rw[bC]at g;have e1:=xu (wd (iv n).natAbs) (wd (Nat.gcd (iv n).natAbs (nv d))) (aO _) (aO _) zn hgd (by rw[bC];omega);rw[bC,bC,if_pos (Nat.mod_eq_zero_of_dvd (Nat.gcd_dvd_left _ _)),if_pos (Nat.mod_eq_zero_of_dvd (Nat.gcd_dvd_left _ _))]at e1;have e2:=xu d (wd (Nat.gcd (iv n).natAbs (nv d))) hd.2 (aO _) hd.1 hgd (by rw[bC];omega);rw[bC,if_pos (Nat.mod_eq_zero_of_dvd (Nat.gcd_dvd_right _ _)),if_pos (Nat.mod_eq_zero_of_dvd (Nat.gcd_dvd_right _ _))]at e2;have e3:=mG (decide (iv n<0)) ((iv n).natAbs/Nat.gcd (iv n).natAbs (nv d)) (Nat.le_trans (bJ (Nat.div_le_self _ _)) (Nat.le_trans zn (by omega)));rw[Og _ _ h1 (by omega)]at e3;refine AC.aA (rs:=[.cell 4 32]) aX Tryz.func182 (by rfl) (by rfl) (by rfl) (by rfl) (by rfl) ?_;simp (disch:=omega) only[wt,seval];refine ah ((qc n (hn.mono (by omega)))) (by rfl) (by simp) ?_;simp (disch:=omega) only[wt,seval];refine ah (g) (by rfl) (by simp) ?_;simp (disch:=omega) only[wt,seval];refine ah (e1) (by rfl) (by simp) ?_;simp (disch:=omega) only[wt,seval];refine ah (e2) (by rfl) (by simp) ?_;simp (disch:=omega) only[wt,seval];refine ah (e3) (by rfl) (by simp) ?_;simp (disch:=omega) only[wt,seval,rqs];rfl
theorem Ot (n:RI)(d:List Nat)(hn:Sz (2^38) n)(hd:Nt (2^38) d)(h0:nv d≠0):AC Tryz.prog 82 [cr n,cl d] none [cqz (mkRat (iv n) (nv d))]:=by
 rw[show cqz (mkRat (iv n) (nv d))=cqq (rq (iv n) (nv d)) by rw[GK h0]];have zn:=lI hn;have hgp:0<Nat.gcd (iv n).natAbs (nv d):=Nat.gcd_pos_of_pos_right _ (by omega);have hgd:(wd (Nat.gcd (iv n).natAbs (nv d))).length≤2^38:=Nat.le_trans (bJ (Nat.gcd_le_right _ (by omega))) (Nat.le_trans (fJ hd.2) hd.1);have h1:((Nat.gcd (iv n).natAbs (nv d):Nat):Int)∣iv n:=Int.ofNat_dvd_left.mpr (Nat.gcd_dvd_left _ _);have i1:=yK n.1 n.2 hn.2 (Nat.le_trans hn.1 (by omega));rw[← Dl]at i1;have g:=Ov (wd (iv n).natAbs) d (aO _) hd.2 zn hd.1;rw[bC]at g;have e1:=Ou (wd (iv n).natAbs) (wd (Nat.gcd (iv n).natAbs (nv d))) (aO _) (aO _) zn hgd (by rw[bC];omega);rw[bC,bC]at e1;have e2:=Ou d (wd (Nat.gcd (iv n).natAbs (nv d))) hd.2 (aO _) hd.1 hgd (by rw[bC];omega);rw[bC]at e2;have e3:=yK (decide (iv n<0)) (wd ((iv n).natAbs/Nat.gcd (iv n).natAbs (nv d))) (aO _) (Nat.le_trans (bJ (Nat.div_le_self _ _)) (Nat.le_trans zn (by omega)));rw[bC,Og _ _ h1 (by omega)]at e3;refine AC.aA (rs:=[.cell 4 32]) aX Tryz.func82 (by rfl) (by rfl) (by rfl) (by rfl) (by rfl) ?_;simp (disch:=omega) only[wt,seval];refine ah (i1) (by rfl) (by simp) ?_;simp (disch:=omega) only[wt,seval];refine ah (g) (by rfl) (by simp) ?_;simp (disch:=omega) only[wt,seval];refine ah (e1) (by rfl) (by simp) ?_;simp (disch:=omega) only[wt,seval];refine ah (e2) (by rfl) (by simp) ?_;simp (disch:=omega) only[wt,seval];refine ah (e3) (by rfl) (by simp) ?_;simp (disch:=omega) only[wt,seval,rqs];rfl
theorem Wh (r:RQ):qv r=(iv r.1:Rat)/(nv r.2:Rat):=Rat.mkRat_eq_div _ _
theorem a2D {r s:RQ}(hr:nv r.2≠0)(hs:nv s.2≠0):mkRat (iv r.1*nv s.2+iv s.1*nv r.2) (nv r.2*nv s.2)=qv r+qv s:=(Rat.mkRat_add_mkRat _ _ hr hs).symm
theorem Xg (r s:RQ):mkRat (iv r.1*iv s.1) (nv r.2*nv s.2)=qv r*qv s:=(Rat.mkRat_mul_mkRat _ _ _ _).symm
theorem a1C (n:Int):aP (n:Rat)=(canon n,[1]):=by
 unfold aP;rw[Rat.num_intCast,Rat.den_intCast];have:wd 1=[1]:=by decide +kernel
 rw[this]
theorem P5 (q:Rat):iv (aP q).1=q.num:=aN _
theorem bI (q:Rat):nv (aP q).2≠0:=Bg q
theorem SzQ.mono {j k:Nat}{r:RQ}(h:SzQ j r)(hk:j≤k):SzQ k r:=⟨h.1.mono hk,Nat.le_trans h.2.1 hk,h.2.2⟩
theorem aZ {q:Rat}{k:Nat}(h:qz q≤k):SzQ k (aP q):=(a3z q).mono h
theorem Zj (s:Bool)(l:List Nat)(h:Lim l)(hl:l.length≤2^40):AC Tryz.prog 100 [cb s,cl l] none [cz (sg s (nv l))]:=by
 refine AC.aA (rs:=[.cell 4 30]) aX Tryz.func100 (by rfl) (by rfl) (by rfl) (by rfl) (by rfl) ?_;simp (disch:=omega) only[wt,seval];have m:=qc (s,l) ⟨hl,h⟩;rw[Dl]at m;refine ah (m) (by rfl) (by simp) ?_;simp (disch:=omega) only[wt,seval]
theorem vI {l:List Nat}{k:Nat}(h:Nt k l):zl ((nv l:Nat):Int)≤k:=Nat.le_trans (fJ h.2) h.1
theorem sgf (n:Nat):sg false n=(n:Int):=rfl
theorem wK (a:RI)(d:List Nat)(ha:Sz (2^36) a)(hd:Nt (2^36) d):AC Tryz.prog 183 [cr a,cl d] none [cz (iv a*nv d)]:=by
 have m:=Zj false d hd.2 (Nat.le_trans hd.1 (by omega));rw[sgf]at m;have n:=uZ a (canon (nv d)) ha ((aW _).mono (vI hd));rw[aN]at n;refine AC.aA (rs:=[.cell 4 30]) aX Tryz.func183 (by rfl) (by rfl) (by rfl) (by rfl) (by rfl) ?_;simp (disch:=omega) only[wt,seval];refine .inl ⟨aS (by kernel_rfl),?_⟩;refine ah (m) (by rfl) (by simp) ?_;simp only[wt,seval];refine ah (n) (by rfl) (by simp) ?_;simp (disch:=omega) only[wt,seval];exact bH (by kernel_rfl)
 try rfl
theorem qx (a b:RQ)(ha:SzQ (2^36) a)(hb:SzQ (2^36) b)(h0:nv a.2≠0)(h1:nv b.2≠0):AC Tryz.prog 181 [cqw [a,b]] none [ci 0] :=
 OD [a,b] 0 (by simp) (fun r hr=>by
  simp only[List.mem_cons,List.not_mem_nil,or_false]at hr;rcases hr with rfl|rfl
  ·exact⟨Nat.le_trans ha.2.1 (by omega),ha.2.2⟩
  ·exact⟨Nat.le_trans hb.2.1 (by omega),hb.2.2⟩) (fun _=>rfl) (fun h=>(h fun r hr=>by
   simp only[List.mem_cons,List.not_mem_nil,or_false]at hr;rcases hr with rfl|rfl
   ·exact h0
   ·exact h1).elim)
theorem Az (a b:RQ):[nJ a,nJ b]=fD [a,b]:=rfl
theorem oz {a b:Nat}{j k:Nat}(ha:(wd a).length≤j)(hb:(wd b).length≤k):(wd (a*b)).length≤j+k:=Nat.le_trans (AL.dQ a b) (Nat.add_le_add ha hb)
theorem a4l (a b:RQ)(ha:SzQ (2^35) a)(hb:SzQ (2^35) b)(h0:nv a.2≠0)(h1:nv b.2≠0):AC Tryz.prog 96 [cqq a,cqq b] none [cqz (qv a*qv b),ci 0]:=by
 have c:=qx a b (ha.mono (by omega)) (hb.mono (by omega)) h0 h1;have z1:=jL (iv a.1) (iv b.1);have y1:=lI ha.1;have y2:=lI hb.1;have y3:=vI ha.2;have y4:=vI hb.2;have s:=uZ a.1 b.1 (ha.1.mono (by omega)) (hb.1.mono (by omega));have m:=Dc a.2 b.2 ha.2.2 hb.2.2 (Nat.le_trans ha.2.1 (by omega)) (Nat.le_trans hb.2.1 (by omega));have hw:(wd (nv a.2*nv b.2)).length≤2^35+2^35:=oz y3 y4;have r:=I4 (canon (iv a.1*iv b.1)) (wd (nv a.2*nv b.2)) ((aW _).mono (by omega)) ⟨by omega,aO _⟩ (by rw[bC];exact Nat.mul_ne_zero h0 h1);rw[aN,bC,Xg]at r;refine AC.aA (rs:=[.cell 4 32,.tmp 5]) aX Tryz.func96 (by rfl) (by rfl) (by rfl) (by rfl) (by rfl) ?_;simp (disch:=omega) only[wt,seval,rqs,Az];refine ah (c) (by rfl) (by simp) ?_;simp (disch:=omega) only[wt,seval,rqs];refine .inl ⟨aS (by kernel_rfl),?_⟩;refine ah (s) (by rfl) (by simp) ?_;simp (disch:=omega) only[wt,seval];refine ah (m) (by rfl) (by simp) ?_;simp only[wt,seval];refine ah (r) (by rfl) (by simp) ?_;simp (disch:=omega) only[wt,seval,rqs];exact bH (by kernel_rfl)
 try rfl
theorem NZ (c:RI)(h:Sz (2^40) c):AC Tryz.prog 185 [cr c] none [cz (-iv c)]:=by
 have e:sg (!c.1) (nv c.2) = -iv c:=by
  rw[Dl];unfold sg;cases c.1<;>simp
 have m:=zk (!c.1) (nv c.2);rw[e]at m;have n:=jv c.2 h.2 (Nat.le_trans h.1 (by omega));refine AC.aA (rs:=[.cell 2 30]) aX Tryz.func185 (by rfl) (by rfl) (by rfl) (by rfl) (by rfl) ?_;simp (disch:=omega) only[wt,seval];refine .inl ⟨aS (by kernel_rfl),?_⟩;refine ah (n) (by rfl) (by simp) ?_;simp only[wt,seval];refine ah (m) (by rfl) (by simp) ?_;simp (disch:=omega) only[wt,seval];exact bH (by kernel_rfl)
 try rfl
theorem a4v (c:RI)(x:List Nat):qv (canon (-iv c),x) = -qv (c,x):=by
 unfold qv;rw[aN,Rat.neg_mkRat]
theorem Qq (c:RI)(h:Sz (2^40) c):AC Tryz.prog 192 [cr c] none [cl (wd (iv c).natAbs)]:=by
 have n:=jv c.2 h.2 (Nat.le_trans h.1 (by omega));rw[← LH]at n;refine AC.aA (rs:=[.tmp 2]) aX Tryz.func192 (by rfl) (by rfl) (by rfl) (by rfl) (by rfl) ?_;simp (disch:=omega) only[wt,seval];refine ah (n) (by rfl) (by simp) ?_;simp (disch:=omega) only[wt,seval]
theorem Rz {a b:Int}(hb:b≠0):mkRat (if b<0 then -a else a) b.natAbs=(a:Rat)/(b:Rat):=by
 have hr:(b:Rat)≠0:=fun h=>hb (Rat.intCast_eq_zero_iff.mp h)
 rw[Rat.mkRat_eq_div];by_cases h:b<0
 ·have e:((b.natAbs:Nat):Rat) = -(b:Rat):=by
   rw[← Rat.intCast_natCast,← Rat.intCast_neg]
   congr 1
   omega
  rw[if_pos h,e,Rat.intCast_neg]
  grind
 ·have e:((b.natAbs:Nat):Rat)=(b:Rat):=by
   rw[← Rat.intCast_natCast]
   congr 1
   omega
  rw[if_neg h,e]
theorem QT (a b:RI)(ha:Sz (2^38) a)(hb:Sz (2^38) b)(h0:iv b≠0):AC Tryz.prog 102 [cr a,cr b] none [cqz ((iv a:Rat)/(iv b:Rat)),ci 0]:=by
 have s:=pY b (hb.mono (by omega));have hs0:(iv b).sign≠0:=fun h=>h0 (Int.sign_eq_zero_iff_zero.mp h)
 have n:=NZ a (ha.mono (by omega));have w:=Qq b (hb.mono (by omega));have za:=lI ha;have zb:=lI hb;have d:=Rz (a:=iv a) h0;refine AC.aA (rs:=[.cell 4 32,.tmp 5]) aX Tryz.func102 (by rfl) (by rfl) (by rfl) (by rfl) (by rfl) ?_;simp (disch:=omega) only[wt,seval];refine ah (s) (by rfl) (by simp) ?_;simp (disch:=omega) only[wt,seval];simp (disch:=omega) only[wt,seval,hs0];refine ah (s) (by rfl) (by simp) ?_;simp (disch:=omega) only[wt,seval];have hsg:=sign_neg (iv b);by_cases h:iv b<0
 ·have h1:=hsg.mpr h;rw[if_pos h]at d;have r:=I4 (canon (-iv a)) (wd (iv b).natAbs) ((aW _).mono (by rw[zu];exact za)) ⟨zb,aO _⟩ (by rw[bC];omega);rw[aN,bC,d]at r;simp (disch:=omega) only[wt,seval,h1];refine ah (n) (by rfl) (by simp) ?_;simp (disch:=omega) only[wt,seval];refine .inl ⟨aS (by kernel_rfl),?_⟩;refine ah (w) (by rfl) (by simp) ?_;simp only[wt,seval];refine ah (r) (by rfl) (by simp) ?_;simp (disch:=omega) only[wt,seval,rqs];exact bH (by kernel_rfl)
  try rfl
 ·have h1:¬(iv b).sign<0:=fun h'=>h (hsg.mp h')
  rw[if_neg h]at d;have r:=I4 a (wd (iv b).natAbs) ha ⟨zb,aO _⟩ (by rw[bC];omega);rw[bC,d]at r;simp (disch:=omega) only[wt,seval,h1];refine .inl ⟨aS (by kernel_rfl),?_⟩;refine ah (w) (by rfl) (by simp) ?_;simp only[wt,seval];refine ah (r) (by rfl) (by simp) ?_;simp (disch:=omega) only[wt,seval,rqs];exact bH (by kernel_rfl)
  try rfl
theorem a6E {a b:RQ}(h0:nv a.2≠0)(h1:nv b.2≠0)(h2:iv b.1≠0):((iv a.1*nv b.2:Int):Rat)/((iv b.1*nv a.2:Int):Rat)=qv a/qv b:=by
 rw[Wh,Wh,Rat.intCast_mul,Rat.intCast_mul,Rat.intCast_natCast,Rat.intCast_natCast];have e0:(nv a.2:Rat)≠0:=fun h=>h0 (Rat.natCast_eq_zero_iff.mp h)
 have e1:(nv b.2:Rat)≠0:=fun h=>h1 (Rat.natCast_eq_zero_iff.mp h)
 have e2:(iv b.1:Rat)≠0:=fun h=>h2 (Rat.intCast_eq_zero_iff.mp h)
 grind
theorem QN (r:RQ)(h:SzQ (2^38) r)(h0:nv r.2≠0):AC Tryz.prog 92 [cqq r] none [cqz (qv r),ci 0]:=by
 have c:=qy r ⟨Nat.le_trans h.2.1 (by omega),h.2.2⟩ h0;have m:=I4 r.1 r.2 h.1 h.2 h0;refine AC.aA (rs:=[.cell 2 32,.tmp 3]) aX Tryz.func92 (by rfl) (by rfl) (by rfl) (by rfl) (by rfl) ?_;simp (disch:=omega) only[wt,seval,rqs];refine ah (c) (by rfl) (by simp) ?_;simp (disch:=omega) only[wt,seval,rqs];refine ah (m) (by rfl) (by simp) ?_;simp (disch:=omega) only[wt,seval,rqs]
 try rfl
theorem a0j (r:RQ)(h:SzQ (2^38) r)(h0:nv r.2≠0):AC Tryz.prog 137 [cqq r] none [ci (iv r.1).sign,ci 0]:=by
 have c:=qy r ⟨Nat.le_trans h.2.1 (by omega),h.2.2⟩ h0;have m:=pY r.1 (h.1.mono (by omega));refine AC.aA (rs:=[.tmp 2,.tmp 3]) aX Tryz.func137 (by rfl) (by rfl) (by rfl) (by rfl) (by rfl) ?_;simp (disch:=omega) only[wt,seval,rqs];refine ah (c) (by rfl) (by simp) ?_;simp (disch:=omega) only[wt,seval,rqs];refine ah (m) (by rfl) (by simp) ?_;simp (disch:=omega) only[wt,seval]
 try rfl
theorem a2v (a b:Int)(ha : -9223372036854775808≤a)(ha':a≤9223372036854775807)(hb : -9223372036854775808≤b)(hb':b≤9223372036854775807)(h0:b≠0):AC Tryz.prog 97 [ci a,ci b] none [cqz ((a:Rat)/(b:Rat)),ci 0]:=by
 have z1:=V6 a ha ha';have z2:=V6 b hb hb';have s:∀ x:Int,-9223372036854775808≤x→x≤9223372036854775807→zl x≤1:=fun x h1 h2=>BH.mpr (by rw[Nat.pow_one];simp only[W];omega)
 have r:=QT (canon a) (canon b) ((aW _).mono (Nat.le_trans (s a ha ha') (by omega))) ((aW _).mono (Nat.le_trans (s b hb hb') (by omega))) (by rw[aN];exact h0);rw[aN,aN]at r;refine AC.aA (rs:=[.cell 4 32,.tmp 5]) aX Tryz.func97 (by rfl) (by rfl) (by rfl) (by rfl) (by rfl) ?_;simp (disch:=omega) only[wt,seval];refine ah (z1) (by rfl) (by simp) ?_;simp only[wt,seval];refine ah (z2) (by rfl) (by simp) ?_;simp only[wt,seval];refine ah (r) (by rfl) (by simp) ?_;simp (disch:=omega) only[wt,seval,rqs]
 try rfl
theorem Nw.a6I {B E:Nat}{l m:List Nat}(h:Nw B E l)(p:l.Perm m):Nw B E m:=⟨p.nodup_iff.1 h.1,fun g hg=>h.2 g (p.mem_iff.2 hg)⟩
theorem dK (c:Bool)(x y:IV):lay (fun i=>[(0,2),(2,1)][i]?) [.bool false,.sl [],.sl []] ([0,1].zip [[.bool c,x],[y]])=some ((2=2∧0+2≤3)∧(1=1∧2+1≤3)∧True,[.bool c,x,y]):=rfl
def a7A (l:List Nat)(e:Int)(B E:Nat)(res:List CV):Prop:=∃ b,res=[.iv (jo b l),ci e]∧Nw B E (oid b)
theorem a4x (l:List Nat)(e:Int)(B:Nat):∃ E res,B≤E∧a7A l e B E res:=⟨B,_,Nat.le_refl _,none,rfl,.nil _ _⟩
def a7B (q r:Nat)(B E:Nat)(res:List CV):Prop:=∃ b,res=[.iv (jo b (wd q)),cl (wd r),ci 0]∧Nw B E (oid b)
theorem a4y (q r B:Nat):∃ E res,B≤E∧a7B q r B E res:=⟨B,_,Nat.le_refl _,none,rfl,.nil _ _⟩
theorem Y0 (a:List Nat)(w:Nat)(ha:Lim a)(hl:a.length≤2^40)(hw0:w≠0)(hw:w<W):ACX Tryz.prog 285 [cl a,cu w] (fun B E res=>∃ b,res=[.iv (jo b (wd (nv a/w))),cu (nv a%w),ci 0]∧Nw B E (oid b)):=by
 refine ACX.aA zi0 (rs:=[.tmp 4,.tmp 5,.tmp 6]) aX Tryz.func285 (by rfl) (by rfl) (by rfl) (by rfl) (by rfl) (fun B=>⟨B,_,Nat.le_refl _,none,rfl,.nil _ _⟩) (fun B=>?_);simp only[wt,seval];refine ah ((MC a w ha hl hw0 hw)) (by rfl) (by simp) ?_;simp (disch:=omega) only[wt,seval];have:=Ik (pad a.length (nv a/w)) (lG _ _) (by rw[iI];omega);have h5:=iJ ha;have h6:=Nat.div_le_self (nv a) w;rw[oV,Nat.mod_eq_of_lt (by omega)]at this;refine aK (this) (by rfl) (by simp) (by rfl) ?_;rintro B' E _ hB hE ⟨b,rfl,hb⟩;simp only[wt,seval];refine aT [.iv (jo b (wd (nv a/w))),cu (nv a%w),ci 0] (by rfl) (by simp (disch:=omega) only[wt,seval]) ?_;intro E hE;exact⟨b,rfl,hb.mono hB (by omega)⟩
theorem a4g (a b:List Nat)(ha:Lim a)(hb:Lim b)(hla:a.length≤2^38)(hlb:b.length≤2^38)(h0:nv b≠0):ACX Tryz.prog 255 [cl a,cl b] (a7B (nv a/nv b) (nv a%nv b)):=by
 refine ACX.aA zi0 (rs:=[.tmp 4,.tmp 5,.tmp 6]) aX Tryz.func255 (by rfl) (by rfl) (by rfl) (by rfl) (by rfl) (a4y _ _) (fun B=>?_);simp only[wt,seval];refine ah ((jv a ha (by omega))) (by rfl) (by simp) ?_;simp only[wt,seval];refine ah ((jv b hb (by omega))) (by rfl) (by simp) ?_;simp (disch:=omega) only[wt,seval];have hxl:=fJ ha;have hyl:=fJ hb;generalize nv a=x at *;generalize nv b=y at *;refine aQ (fun h=>?_) (fun h=>?_)
 ·have:=fC.mp (Int.ofNat.inj h);exact absurd this h0
 simp only[wt,seval];refine ah ((Xb (wd x) (wd y) (aO _) (aO _) (by omega) (by omega))) (by rfl) (by simp) ?_;simp (disch:=omega) only[wt,seval];rw[bC,bC];refine aQ (fun hc=>?_) (fun hc=>?_)
 ·have hlt:x<y:=by
   unfold MP at hc;split at hc
   ·assumption
   ·split at hc<;>omega
  rw[Nat.div_eq_of_lt hlt,Nat.mod_eq_of_lt hlt];simp only[wt,seval];refine lT 4 148 1 (by rfl) ?_;refine aT [.iv (jo none []),cl (wd x),ci 0] (by rfl) (by simp (disch:=omega) only[wt,seval];rfl) ?_;intro E hE;exact⟨none,by rw[jG],.nil _ _⟩
 have hle:y≤x:=by
  unfold MP at hc;split at hc
  ·omega
  ·omega
 simp (disch:=omega) only[wt,seval];refine aQ (fun h1=>?_) (fun h1=>?_)
 ·obtain⟨e1,e2⟩:=a2k (Int.ofNat.inj h1);have hp:0<(wd y).length:=by omega
  simp (disch:=omega) only[wt,seval];have m:=Y0 (wd x) y (aO _) (by omega) h0 e2;rw[bC]at m;have n:=D8 (x%y) (Nat.lt_trans (Nat.mod_lt _ (by omega)) e2);simp only[seval,e1];refine aK (m) (by rfl) (by simp) (by rfl) ?_;rintro B' E _ hB hE ⟨c,rfl,hc⟩;simp (disch:=omega) only[wt,seval];refine ah (n) (by rfl) (by simp) ?_;simp only[wt,seval];refine aT [.iv (jo c (wd (x/y))),cl (wd (x%y)),ci 0] (by rfl) (by simp (disch:=omega) only[wt,seval]) ?_;intro E hE;exact⟨c,rfl,hc.mono hB (by omega)⟩
 ·have hn:2≤(wd y).length:=by omega
  simp only[wt,seval];refine aK ((LG x y _ _ rfl rfl hn hle (by omega))) (by rfl) (by simp) (by rfl) ?_;rintro B' E _ hB hE ⟨c,rfl,hc⟩;simp (disch:=omega) only[wt,seval];refine aT [.iv (jo c (wd (x/y))),cl (wd (x%y)),ci 0] (by rfl) (by simp (disch:=omega) only[wt,seval]) ?_;intro E hE;exact⟨c,rfl,hc.mono hB (by omega)⟩
theorem Uj (a b:List Nat)(ha:Lim a)(hb:Lim b)(hla:a.length≤2^38)(hlb:b.length≤2^38)(h0:nv b≠0)(h1:nv a%nv b=0):ACX Tryz.prog 188 [cl a,cl b] (a7A (wd (nv a/nv b)) 0):=by
 refine ACX.aA zi0 (rs:=[.tmp 4,.tmp 5]) aX Tryz.func188 (by rfl) (by rfl) (by rfl) (by rfl) (by rfl) (a4x _ _) (fun B=>?_);simp only[wt,seval];have q:=a4g a b ha hb hla hlb h0;rw[h1]at q;refine aK (q) (by rfl) (by simp) (by rfl) ?_;rintro B' E _ hB hE ⟨c,rfl,hc⟩;simp (disch:=omega) only[wt,seval,jG];refine aT [.iv (jo c (wd (nv a/nv b))),ci 0] (by rfl) (by simp (disch:=omega) only[wt,seval]) ?_;intro E hE;exact⟨c,rfl,hc.mono hB (by omega)⟩
abbrev frq (b c:OB)(r:RQ):List IV:=[.bool r.1.1,jo b r.1.2,jo c r.2]
def RRq (r:RQ)(B E:Nat)(res:List CV):Prop:=∃ b c,res=[.agg (frq b c r)]∧Nw B E (oid b++oid c)
theorem a4w (r:RQ)(B:Nat):∃ E res,B≤E∧RRq r B E res:=⟨B,_,Nat.le_refl _,none,none,rfl,.nil _ _⟩
def Zd (r:RQ)(e:Int)(B E:Nat)(res:List CV):Prop:=∃ b c,res=[.agg (frq b c r),ci e]∧Nw B E (oid b++oid c)
theorem D9 (r:RQ)(e:Int)(B:Nat):∃ E res,B≤E∧Zd r e B E res:=⟨B,_,Nat.le_refl _,none,none,rfl,.nil _ _⟩
theorem nU (b c:OB)(r:RQ):Jk (.agg (frq b c r)) (cqq r):=.agg rfl fun j x y hx hy=>by
 match j with
 | 0=>cases hx;cases hy;exact .refl _
 | 1=>cases hx;cases hy;exact wo
 | 2=>cases hx;cases hy;exact wo
 | j+3=>simp at hx
theorem wL (n:RI)(d:List Nat)(hn:Sz (2^38) n)(hd:Nt (2^38) d)(h0:nv d≠0):ACX Tryz.prog 182 [cr n,cl d] (RRq (aP (mkRat (iv n) (nv d)))):=by
 rw[show aP (mkRat (iv n) (nv d))=rq (iv n) (nv d) by rw[GK h0]];have zn:=lI hn;have hgp:0<Nat.gcd (iv n).natAbs (nv d):=Nat.gcd_pos_of_pos_right _ (by omega);have hgd:(wd (Nat.gcd (iv n).natAbs (nv d))).length≤2^38:=Nat.le_trans (bJ (Nat.gcd_le_right _ (by omega))) (Nat.le_trans (fJ hd.2) hd.1);have h1:((Nat.gcd (iv n).natAbs (nv d):Nat):Int)∣iv n:=Int.ofNat_dvd_left.mpr (Nat.gcd_dvd_left _ _);have g:=LU (wd (iv n).natAbs) d (aO _) hd.2 zn hd.1;rw[bC]at g;have e1:=xu (wd (iv n).natAbs) (wd (Nat.gcd (iv n).natAbs (nv d))) (aO _) (aO _) zn hgd (by rw[bC];omega);rw[bC,bC,if_pos (Nat.mod_eq_zero_of_dvd (Nat.gcd_dvd_left _ _)),if_pos (Nat.mod_eq_zero_of_dvd (Nat.gcd_dvd_left _ _))]at e1;have e2:=Uj d (wd (Nat.gcd (iv n).natAbs (nv d))) hd.2 (aO _) hd.1 hgd (by rw[bC];omega) (by rw[bC];exact Nat.mod_eq_zero_of_dvd (Nat.gcd_dvd_right _ _));rw[bC]at e2;have e3:=Zh (decide (iv n<0)) ((iv n).natAbs/Nat.gcd (iv n).natAbs (nv d)) (Nat.le_trans (bJ (Nat.div_le_self _ _)) (Nat.le_trans zn (by omega)));rw[Og _ _ h1 (by omega)]at e3;refine ACX.aA zi0 (rs:=[.cell 4 32]) aX Tryz.func182 (by rfl) (by rfl) (by rfl) (by rfl) (by rfl) (a4w _) (fun B0=>?_);simp (disch:=omega) only[wt,seval];refine ah ((qc n (hn.mono (by omega)))) (by rfl) (by simp) ?_;simp (disch:=omega) only[wt,seval];refine ah (g) (by rfl) (by simp) ?_;simp (disch:=omega) only[wt,seval];refine ah (e1) (by rfl) (by simp) ?_;simp (disch:=omega) only[wt,seval];refine aK (e2) (by rfl) (by simp) (by rfl) ?_;rintro B1 E1 _ hB1 hE1 ⟨c,rfl,hc⟩;simp (disch:=omega) only[wt,seval];refine aK (e3) (by rfl) (by simp) (by rfl) ?_;rintro B2 E2 _ hB2 hE2 ⟨b,rfl,hb⟩;simp (disch:=omega) only[wt,seval,dK];refine aT [.agg (frq b c (rq (iv n) (nv d)))] (by rfl) (by simp (disch:=omega) only[wt,seval];rfl) ?_;intro E hE;refine⟨b,c,rfl,?_⟩;have h:=hc.append hb (by omega) (by omega) (by omega);exact Nw.a6I (h.mono (by omega) (by omega)) List.perm_append_comm

theorem a8f {x:Int}(h:x.natAbs<W):zl x≤1:=BH.mpr (by rwa [Nat.pow_one])
theorem a9q {d:Nat}(h:d<W):(wd d).length≤1:=bT.mpr (by rwa [Nat.pow_one])
theorem a7a (r:RQ)(h:Nt (2^40) r.2):AC Tryz.prog 81 [cqq r] none [cb (decide (nv r.2≠0))]:=by
 have z:=QI r.2 h.2 h.1;refine AC.aA (rs:=[.tmp 2]) aX Tryz.func81 (by rfl) (by rfl) (by rfl) (by rfl) (by rfl) ?_;simp (disch:=omega) only[wt,seval];refine ah (z) (by rfl) (by simp) ?_;simp (disch:=omega) only[wt,seval]
 try rfl
 try simp
theorem a9b (r:RQ)(h:Sz (2^40) r.1):AC Tryz.prog 85 [cqq r] none [ci (iv r.1).sign]:=by
 have z:=a0g r.1 h;refine AC.aA (rs:=[.tmp 2]) aX Tryz.func85 (by rfl) (by rfl) (by rfl) (by rfl) (by rfl) ?_;simp (disch:=omega) only[wt,seval,rqs];refine ah (z) (by rfl) (by simp) ?_;simp (disch:=omega) only[wt,seval]
 try rfl
theorem a9a (n:RI)(h:Sz (2^38) n):AC Tryz.prog 113 [cr n] none [cqz (iv n:Rat)]:=by
 have w:=tK 1 (by omega);have hw:(wd 1).length≤2^38:=by decide +kernel
 have r:=Ot n (wd 1) h ⟨hw,aO _⟩ (by rw[bC];omega);rw[bC,Rat.mkRat_one]at r;refine AC.aA (rs:=[.cell 2 32]) aX Tryz.func113 (by rfl) (by rfl) (by rfl) (by rfl) (by rfl) ?_;simp (disch:=omega) only[wt,seval];refine .inl ⟨aS (by kernel_rfl),?_⟩;refine ah (w) (by rfl) (by simp) ?_;simp only[wt,seval];refine ah (r) (by rfl) (by simp) ?_;simp (disch:=omega) only[wt,seval,rqs];exact bH (by kernel_rfl)
 try rfl
theorem qX (n:Int)(d:Nat)(h : -9223372036854775808<n)(h':n<9223372036854775808)(hd:d<9223372036854775808)(h0:d≠0):AC Tryz.prog 9 [ci n,ci d] none [cqz ((n:Rat)/(d:Rat))]:=by
 have z:=a8H n h h';have w:=tK d hd;have hz:zl n≤2^38:=Nat.le_trans (a8f (by simp only[W];omega)) (by omega);have hw:(wd d).length≤2^38:=Nat.le_trans (a9q (by simp only[W];omega)) (by omega);have r:=Ot (canon n) (wd d) ((aW _).mono hz) ⟨hw,aO _⟩ (by rw[bC];exact h0);rw[aN,bC,Rat.mkRat_eq_div]at r;refine AC.aA (rs:=[.cell 4 32]) aX Tryz.func9 (by rfl) (by rfl) (by rfl) (by rfl) (by rfl) ?_;simp (disch:=omega) only[wt,seval];refine ah (z) (by rfl) (by simp) ?_;simp only[wt,seval];refine ah (w) (by rfl) (by simp) ?_;simp only[wt,seval];refine ah (r) (by rfl) (by simp) ?_;simp (disch:=omega) only[wt,seval,rqs]
 try rfl
theorem Iy (a b:RQ)(ha:SzQ (2^35) a)(hb:SzQ (2^35) b)(h0:nv a.2≠0)(h1:nv b.2≠0):AC Tryz.prog 116 [cqq a,cqq b] none [cqz (qv a+qv b)]:=by
 have z1:=jL (iv a.1) (nv b.2:Nat);have z2:=jL (iv b.1) (nv a.2:Nat);have y1:=lI ha.1;have y2:=lI hb.1;have y3:=vI ha.2;have y4:=vI hb.2;have i1:=yK false b.2 hb.2.2 (Nat.le_trans hb.2.1 (by omega));have i2:=yK false a.2 ha.2.2 (Nat.le_trans ha.2.1 (by omega));rw[sgf]at i1 i2;have t1:=GZ a.1 (canon (nv b.2:Nat)) (ha.1.mono (by omega)) ((aW _).mono (by omega));have t2:=GZ b.1 (canon (nv a.2:Nat)) (hb.1.mono (by omega)) ((aW _).mono (by omega));rw[aN]at t1 t2;have z3:=Fe (iv a.1*(nv b.2:Nat)) (iv b.1*(nv a.2:Nat));have s:=a4e (canon (iv a.1*(nv b.2:Nat))) (canon (iv b.1*(nv a.2:Nat))) ((aW _).mono (by omega)) ((aW _).mono (by omega));rw[aN,aN]at s;have m:=rH a.2 b.2 ha.2.2 hb.2.2 (Nat.le_trans ha.2.1 (by omega)) (Nat.le_trans hb.2.1 (by omega));have hw:(wd (nv a.2*nv b.2)).length≤2^35+2^35:=oz y3 y4;have r:=Ot (canon (iv a.1*(nv b.2:Nat)+iv b.1*(nv a.2:Nat))) (wd (nv a.2*nv b.2)) ((aW _).mono (by omega)) ⟨by omega,aO _⟩ (by rw[bC];exact Nat.mul_ne_zero h0 h1);rw[aN,bC,a2D h0 h1]at r;refine AC.aA (rs:=[.cell 4 32]) aX Tryz.func116 (by rfl) (by rfl) (by rfl) (by rfl) (by rfl) ?_;simp (disch:=omega) only[wt,seval,rqs];refine .inl ⟨aS (by kernel_rfl),?_⟩;refine ah (i1) (by rfl) (by simp) ?_;simp only[wt,seval];refine ah (t1) (by rfl) (by simp) ?_;simp (disch:=omega) only[wt,seval,rqs];refine ah (i2) (by rfl) (by simp) ?_;simp only[wt,seval];refine ah (t2) (by rfl) (by simp) ?_;simp only[wt,seval];refine ah (s) (by rfl) (by simp) ?_;simp (disch:=omega) only[wt,seval];refine ah (m) (by rfl) (by simp) ?_;simp only[wt,seval];refine ah (r) (by rfl) (by simp) ?_;simp (disch:=omega) only[wt,seval,rqs];exact bH (by kernel_rfl)
 try rfl
theorem rX (a b:RQ)(ha:SzQ (2^35) a)(hb:SzQ (2^35) b)(h0:nv a.2≠0)(h1:nv b.2≠0):AC Tryz.prog 117 [cqq a,cqq b] none [cqz (qv a*qv b)]:=by
 have z1:=jL (iv a.1) (iv b.1);have y1:=lI ha.1;have y2:=lI hb.1;have y3:=vI ha.2;have y4:=vI hb.2;have s:=GZ a.1 b.1 (ha.1.mono (by omega)) (hb.1.mono (by omega));have m:=rH a.2 b.2 ha.2.2 hb.2.2 (Nat.le_trans ha.2.1 (by omega)) (Nat.le_trans hb.2.1 (by omega));have hw:(wd (nv a.2*nv b.2)).length≤2^35+2^35:=oz y3 y4;have r:=Ot (canon (iv a.1*iv b.1)) (wd (nv a.2*nv b.2)) ((aW _).mono (by omega)) ⟨by omega,aO _⟩ (by rw[bC];exact Nat.mul_ne_zero h0 h1);rw[aN,bC,Xg]at r;refine AC.aA (rs:=[.cell 4 32]) aX Tryz.func117 (by rfl) (by rfl) (by rfl) (by rfl) (by rfl) ?_;simp (disch:=omega) only[wt,seval,rqs];refine .inl ⟨aS (by kernel_rfl),?_⟩;refine ah (s) (by rfl) (by simp) ?_;simp (disch:=omega) only[wt,seval];refine ah (m) (by rfl) (by simp) ?_;simp only[wt,seval];refine ah (r) (by rfl) (by simp) ?_;simp (disch:=omega) only[wt,seval,rqs];exact bH (by kernel_rfl)
 try rfl
theorem a0E {a b:RQ}(h0:nv a.2≠0)(h1:nv b.2≠0)(h2:iv b.1≠0):mkRat (iv a.1*sg b.1.1 (nv b.2)) (nv a.2*nv b.1.2)=qv a/qv b:=by
 rw[Wh,Wh,Rat.mkRat_eq_div,Rat.intCast_mul,Rat.natCast_mul];have e0:(nv a.2:Rat)≠0:=fun h=>h0 (Rat.natCast_eq_zero_iff.mp h)
 have e1:(nv b.2:Rat)≠0:=fun h=>h1 (Rat.natCast_eq_zero_iff.mp h)
 have e2:(nv b.1.2:Rat)≠0:=fun h=>h2 (by rw[Dl,Rat.natCast_eq_zero_iff.mp h];cases b.1.1<;>rfl)
 have e3:(iv b.1:Rat)=if b.1.1 then -(nv b.1.2:Rat) else (nv b.1.2:Rat):=by
  unfold iv;split
  ·rw[Rat.intCast_neg,Rat.intCast_natCast]
  ·rw[Rat.intCast_natCast]
 have e4:((sg b.1.1 (nv b.2):Int):Rat)=if b.1.1 then -(nv b.2:Rat) else (nv b.2:Rat):=by
  unfold sg;split
  ·rw[Rat.intCast_neg,Rat.intCast_natCast]
  ·rw[Rat.intCast_natCast]
 rw[e3,e4];split<;>grind
theorem RN (a b:RQ)(ha:SzQ (2^35) a)(hb:SzQ (2^35) b)(h0:nv a.2≠0)(h1:nv b.2≠0)(h2:iv b.1≠0):AC Tryz.prog 115 [cqq a,cqq b] none [cqz (qv a/qv b)]:=by
 have i1:=yK b.1.1 b.2 hb.2.2 (Nat.le_trans hb.2.1 (by omega));have y1:=lI ha.1;have y3:=vI ha.2;have y4:zl (sg b.1.1 (nv b.2))≤2^35:=by rw[a8g];exact vI hb.2
 have y5:(wd (nv b.1.2)).length≤2^35:=Nat.le_trans (fJ hb.1.2) hb.1.1;have z1:=jL (iv a.1) (sg b.1.1 (nv b.2));have s:=GZ a.1 (canon (sg b.1.1 (nv b.2))) (ha.1.mono (by omega)) ((aW _).mono (by omega));rw[aN]at s;have m:=rH a.2 b.1.2 ha.2.2 hb.1.2 (Nat.le_trans ha.2.1 (by omega)) (Nat.le_trans hb.1.1 (by omega));have hw:(wd (nv a.2*nv b.1.2)).length≤2^35+2^35:=oz y3 y5;have hn:nv b.1.2≠0:=fun h=>h2 (by rw[Dl,h];cases b.1.1<;>rfl)
 have r:=Ot (canon (iv a.1*sg b.1.1 (nv b.2))) (wd (nv a.2*nv b.1.2)) ((aW _).mono (by omega)) ⟨by omega,aO _⟩ (by rw[bC];exact Nat.mul_ne_zero h0 hn);rw[aN,bC,a0E h0 h1 h2]at r;refine AC.aA (rs:=[.cell 4 32]) aX Tryz.func115 (by rfl) (by rfl) (by rfl) (by rfl) (by rfl) ?_;simp (disch:=omega) only[wt,seval,rqs];refine .inl ⟨aS (by kernel_rfl),?_⟩;refine ah (i1) (by rfl) (by simp) ?_;simp only[wt,seval];refine ah (s) (by rfl) (by simp) ?_;simp (disch:=omega) only[wt,seval];refine ah (m) (by rfl) (by simp) ?_;simp only[wt,seval];refine ah (r) (by rfl) (by simp) ?_;simp (disch:=omega) only[wt,seval,rqs];exact bH (by kernel_rfl)
 try rfl
theorem RJ (a b:RQ)(ha:SzQ (2^43) a)(hb:SzQ (2^43) b):AC Tryz.prog 33 [cqq a,cqq b] none [cb (decide (a=b))]:=by
 have s:=CJ a.1 b.1 ha.1.1 hb.1.1;have t:=GY a.2 b.2 ha.2.1 hb.2.1;refine AC.aA (rs:=[.tmp 4]) aX Tryz.func33 (by rfl) (by rfl) (by rfl) (by rfl) (by rfl) ?_;simp (disch:=omega) only[wt,seval,rqs];refine ah (s) (by rfl) (by simp) ?_;simp (disch:=omega) only[wt,seval];by_cases h1:a.1=b.1
 ·simp only[wt,seval,h1];by_cases h2:a.2=b.2
  ·have e:a=b:=Prod.ext h1 h2;subst e;refine ah (t) (by rfl) (by simp) ?_;simp (disch:=omega) only[wt,seval]
   try rfl
  ·have e:¬a=b:=fun h=>h2 (by rw[h])
   refine ah (t) (by rfl) (by simp) ?_;simp (disch:=omega) only[wt,seval,h2,e]
   try rfl
 ·have e:¬a=b:=fun h=>h1 (by rw[h])
  simp only[wt,seval,h1,e]
  try rfl
def BQ (n k:Nat)(p:List RQ):Prop:=p.length≤n∧∀ r∈p,SzQ k r
def GQ (n k:Nat)(p:List RQ):Prop:=p.length≤n∧∀ r∈p,SzQ k r∧nv r.2≠0
def QB (n k:Nat)(q:List Rat):Prop:=q.length≤n∧∀ c∈q,qz c≤k
def gd (p:List RQ):Bool:=p.all fun r=>decide (nv r.2≠0)
theorem Bc {p:List RQ}{i:Nat}(h:i<p.length):p.getD i q0∈p:=by rw[List.getD,List.getElem?_eq_getElem h,Option.getD_some];exact List.getElem_mem h
theorem BQ.get {n k i:Nat}{p:List RQ}(h:BQ n k p)(hi:i<p.length):SzQ k (p.getD i q0):=h.2 _ (Bc hi)
theorem GQ.get {n k i:Nat}{p:List RQ}(h:GQ n k p)(hi:i<p.length):SzQ k (p.getD i q0):=(h.2 _ (Bc hi)).1
theorem GQ.den {n k i:Nat}{p:List RQ}(h:GQ n k p)(hi:i<p.length):nv (p.getD i q0).2≠0:=(h.2 _ (Bc hi)).2
theorem GQ.bq {n k:Nat}{p:List RQ}(h:GQ n k p):BQ n k p:=⟨h.1,fun r hr=>(h.2 r hr).1⟩
theorem RU {p:List RQ}:gd p=true↔∀ r∈p,nv r.2≠0:=by simp[gd]
theorem GQ.gd {n k:Nat}{p:List RQ}(h:GQ n k p):gd p=true:=RU.mpr fun r hr=>(h.2 r hr).2
theorem BQ.gq {n k:Nat}{p:List RQ}(h:BQ n k p)(g:gd p=true):GQ n k p:=⟨h.1,fun r hr=>⟨h.2 r hr,RU.mp g r hr⟩⟩
theorem BQ.mono {n k n' k':Nat}{p:List RQ}(h:BQ n k p)(hn:n≤n')(hk:k≤k'):BQ n' k' p:=⟨Nat.le_trans h.1 hn,fun r hr=>(h.2 r hr).mono hk⟩
theorem GQ.mono {n k n' k':Nat}{p:List RQ}(h:GQ n k p)(hn:n≤n')(hk:k≤k'):GQ n' k' p:=⟨Nat.le_trans h.1 hn,fun r hr=>⟨(h.2 r hr).1.mono hk,(h.2 r hr).2⟩⟩
theorem QB.mono {n k n' k':Nat}{q:List Rat}(h:QB n k q)(hn:n≤n')(hk:k≤k'):QB n' k' q:=⟨Nat.le_trans h.1 hn,fun r hr=>Nat.le_trans (h.2 r hr) hk⟩
theorem Ed (p:List RQ)(i:Nat):cfq (qvs p) i=qv (p.getD i q0):=by
 unfold cfq qvs;rw[List.getD_eq_getElem?_getD,List.getD_eq_getElem?_getD,List.getElem?_map];cases p[i]? with
 | none=>decide +kernel
 | some x=>rfl
theorem GQ.qb {n k:Nat}{p:List RQ}(h:GQ n k p):QB n k (qvs p):=⟨by rw[gG];exact h.1,fun c hc=>by
 obtain⟨r,hr,rfl⟩:=List.mem_map.1 hc;exact a2s (h.2 r hr).1 (h.2 r hr).2⟩
theorem QB.gq {n k:Nat}{q:List Rat}(h:QB n k q):GQ n k (q.map aP):=⟨by rw[List.length_map];exact h.1,fun r hr=>by
 obtain⟨c,hc,rfl⟩:=List.mem_map.1 hr;exact⟨aZ (h.2 c hc),bI c⟩⟩
theorem QB.aI {n k:Nat}{q:List Rat}(h:QB n k q):QB n k (aI q):=⟨Nat.le_trans (by rw[jT];exact uM q) h.1,fun c hc=>h.2 c (List.mem_of_mem_take hc)⟩
theorem QB.gqs {n k:Nat}{q:List Rat}(h:QB n k q):GQ n k (cqs q):=h.aI.gq
theorem QB.cz {n k:Nat}{q:List Rat}(h:QB n k q)(hk:1≤k)(i:Nat):qz (cfq q i)≤k:=by
 unfold cfq;rw[List.getD_eq_getElem?_getD];cases hi:q[i]? with
 | none=>rw[Option.getD_none,lD];exact hk
 | some x=>exact h.2 x (List.mem_of_getElem? hi)
theorem QB.of {n k:Nat}{q:List Rat}(hl:q.length≤n)(h:∀ i,qz (cfq q i)≤k):QB n k q:=⟨hl,fun c hc=>by
 obtain⟨i,hi,rfl⟩:=List.getElem_of_mem hc;have:=h i;rwa [kH hi]at this⟩
theorem a4f {r:RQ}(h:nv r.2≠0):qv r=0↔iv r.1=0:=Rat.mkRat_eq_zero h
theorem fG {q:List Rat}{i:Nat}(h:i<q.length):q.take (i+1)=q.take i++[cfq q i]:=by
 rw[List.take_add_one]
 congr 1
 simp[cfq,List.getD,h]
theorem Yb (q:List Rat):(q.map aP).length=q.length:=List.length_map _
theorem PI (q:List Rat):(cqs q).length=tzq q:=by rw[cqs,Yb,jT]
theorem vG (q:List Rat):qvs (cqs q)=aI q:=gV _
def qp (p:List Int):List Rat:=p.map fun z:Int=>(z:Rat)
theorem zY (p:List Int)(k:Nat):cfq (qp p) k=(cf p k:Rat):=by
 unfold cfq qp cf;rw[List.getD_eq_getElem?_getD,List.getD_eq_getElem?_getD,List.getElem?_map];cases p[k]?<;>rfl
theorem a2u (z:Int):qz (z:Rat)≤max (zl z) 1:=by
 unfold qz;rw[Rat.num_intCast,Rat.den_intCast];have:(wd 1).length=1:=by decide +kernel
 omega
structure VB (p:List RQ) (x:RQ) (B:Nat):Prop where
 hp:GQ (2^30) B p
 hx:SzQ B x
 d:nv x.2≠0
 e:∀ q:List Rat,q.length≤p.length→(∀ c∈q,c∈qvs p)→qz (evq q (qv x))≤B
 w:∀ i,i≤p.length→qz (qv x^i)≤B
 b:B≤2^34
 one:1≤B
theorem VB.drop {p:List RQ}{x:RQ}{B:Nat}(v:VB p x B)(i:Nat):qz (evq ((qvs p).drop i) (qv x))≤B :=
 v.e _ (by rw[List.length_drop,gG];omega) fun c hc=>List.mem_of_mem_drop hc
theorem Uk:nJ (aP 0)=nJ ((false,[]),[1]):=by
 have:=a1C 0;rw[yX]at this;exact congrArg nJ this
theorem P9:AC Tryz.prog 9 [ci 1,ci 1] none [cqz 1]:=by
 have m:=qX 1 1 (by omega) (by omega) (by omega) (by omega);rwa [show ((1:Int):Rat)/((1:Nat):Rat)=1 by decide +kernel]at m
def sgq (q:Rat):Int:=q.num.sign
theorem GH {q:Rat}(h:0<q):sgq q=1:=by
 refine Int.sign_eq_one_of_pos ?_;have h1:0≤q.num:=Rat.num_nonneg.mpr (Rat.le_of_lt h);have h2:q.num≠0:=fun e=>by rw[Rat.num_eq_zero.mp e]at h;exact Rat.lt_irrefl h
 omega
theorem Oe {q:Rat}(h:q<0):sgq q = -1:=by
 refine Int.sign_eq_neg_one_of_neg ?_;have h1:¬0≤q.num:=fun e=>Rat.not_le.mpr h (Rat.num_nonneg.mp e)
 omega
theorem Cb (q:Rat):(0<q∧sgq q=1)∨(q=0∧sgq q=0)∨(q<0∧sgq q = -1):=by
 by_cases h:q<0
 ·exact .inr (.inr ⟨h,Oe h⟩)
 ·by_cases h0:q=0
  ·exact .inr (.inl ⟨h0,by rw[h0];rfl⟩)
  ·have:0<q:=Rat.lt_of_le_of_ne (Rat.not_lt.mp h) (fun e=>h0 e.symm);exact .inl ⟨this,GH this⟩
theorem a3J (p q:Rat):sgq (p*q)=sgq p*sgq q:=by
 have hn:∀ {x:Rat},x<0→0 < -x:=fun {x} h=>by grind
 rcases Cb p with ⟨h1,e1⟩|⟨h1,e1⟩|⟨h1,e1⟩<;>rcases Cb q with ⟨h2,e2⟩|⟨h2,e2⟩|⟨h2,e2⟩<;>rw[e1,e2]
 ·rw[GH (Rat.mul_pos h1 h2)];rfl
 ·rw[h2,Rat.mul_zero];rfl
 ·have:=Rat.mul_pos h1 (hn h2);rw[Oe (by rw[Rat.mul_neg]at this;grind)];rfl
 ·rw[h1,Rat.zero_mul];rfl
 ·rw[h1,Rat.zero_mul];rfl
 ·rw[h1,Rat.zero_mul];rfl
 ·have:=Rat.mul_pos (hn h1) h2;rw[Oe (by rw[Rat.neg_mul]at this;grind)];rfl
 ·rw[h2,Rat.mul_zero];rfl
 ·have:=Rat.mul_pos (hn h1) (hn h2);rw[GH (by rw[Rat.neg_mul,Rat.mul_neg,Rat.neg_neg]at this;exact this)];rfl
theorem a3K (z:Int):sgq (z:Rat)=z.sign:=by rw[sgq,Rat.num_intCast]
theorem C9 {q:Rat}:sgq q=0↔q=0:=by
 rcases Cb q with ⟨h1,e1⟩|⟨h1,e1⟩|⟨h1,e1⟩<;>rw[e1]
 ·exact⟨fun h=>by omega,fun h=>by rw[h]at h1;exact(Rat.lt_irrefl h1).elim⟩
 ·exact⟨fun _=>h1,fun _=>rfl⟩
 ·exact⟨fun h=>by omega,fun h=>by rw[h]at h1;exact(Rat.lt_irrefl h1).elim⟩
theorem a6z {r:RQ}(h:nv r.2≠0):(iv r.1).sign=sgq (qv r):=by
 rw[Wh];have hp:(0:Rat)<(nv r.2:Rat):=Rat.natCast_pos.mpr (by omega);have e:(iv r.1:Rat)=(iv r.1:Rat)/(nv r.2:Rat)*(nv r.2:Rat):=(Rat.div_mul_cancel (Rat.ne_of_gt hp)).symm;have e2:=congrArg sgq e;rw[a3J,a3K,GH hp,Int.mul_one]at e2;exact e2
theorem yC {q:List Int}{i:Nat}(h:i<q.length):q.take (i+1)=q.take i++[cf q i]:=by
 rw[List.take_add_one]
 congr 1
 simp[cf,List.getD,h]
theorem VI {a:Nat}(h:(wd a).length≤2^43):AC Tryz.prog 31 [cl (wd a),cl (wd a)] none [cb true]:=by
 have:=GY (wd a) (wd a) h h;rwa [decide_eq_true rfl]at this
structure C12 where
 (P Q:List RI) (R S:List RQ) (A B:RI) (X Y:RQ) (N:Int)
structure b1I (x:C12):Prop where
 P:Raw x.P
 Q:Raw x.Q
 R:a9O x.R
 S:a9O x.S
 A:Sz 9223372036854775807 x.A
 B:Sz 9223372036854775807 x.B
 X:SzQ 9223372036854775807 x.X
 Y:SzQ 9223372036854775807 x.Y
 N : -9223372036854775808≤x.N∧x.N≤9223372036854775807
structure b1t (x:C12):Prop where
 P:RP 40 200 x.P
 Q:RP 40 200 x.Q
 R:BQ 40 200 x.R
 S:BQ 40 200 x.S
 A:Sz 200 x.A
 B:Sz 200 x.B
 X:SzQ 200 x.X
 Y:SzQ 200 x.Y
def CD (D M:Nat)(q:Rat):Prop:=∃ z:Int,q=(z:Rat)/(D:Rat)∧zl z≤M
theorem CD.mono {D M N:Nat}{q:Rat}(h:CD D M q)(hk:M≤N):CD D N q:=by
 obtain⟨z,e,hz⟩:=h;exact⟨z,e,Nat.le_trans hz hk⟩
theorem lF {n:Nat}(h:n≠0):(n:Rat)≠0:=fun e=>h (Rat.natCast_eq_zero_iff.mp e)
theorem CD.add {D M N:Nat}{p q:Rat}(h:CD D M p)(k:CD D N q):CD D (max M N+1) (p+q):=by
 obtain⟨z,e,hz⟩:=h;obtain⟨w,f,hw⟩:=k;refine⟨z+w,?_,?_⟩
 ·rw[e,f,Rat.intCast_add,Rat.div_def,Rat.div_def,Rat.div_def,Rat.add_mul]
 ·have:=Fe z w;omega
theorem CD.mul {D E M N:Nat}{p q:Rat}(hD:D≠0)(hE:E≠0)(h:CD D M p)(k:CD E N q):CD (D*E) (M+N) (p*q):=by
 obtain⟨z,e,hz⟩:=h;obtain⟨w,f,hw⟩:=k;refine⟨z*w,?_,?_⟩
 ·have h1:=lF hD;have h2:=lF hE;rw[e,f,Rat.intCast_mul,Rat.natCast_mul]
  grind
 ·have:=jL z w;omega
theorem CD.up {D E M V:Nat}{q:Rat}(hD:D≠0)(hE:E≠0)(hV:(wd E).length≤V)(h:CD D M q):CD (D*E) (M+V) q:=by
 obtain⟨z,e,hz⟩:=h;refine⟨z*E,?_,?_⟩
 ·have h1:=lF hD;have h2:=lF hE;rw[e,Rat.intCast_mul,Rat.natCast_mul,Rat.intCast_natCast]
  grind
 ·have:=jL z E;rw[jh]at this;omega
theorem CD.ofRat (q:Rat):CD q.den (zl q.num) q:=⟨q.num,by rw[← Rat.mkRat_eq_div];exact(Rat.mkRat_self q).symm,Nat.le_refl _⟩
theorem CD.size {D M:Nat}{q:Rat}(hD:D≠0)(hw:(wd D).length≤M)(h:CD D M q):qz q≤M:=by
 obtain⟨z,e,hz⟩:=h;rw[e,← Rat.mkRat_eq_div];exact Oz hD hz hw
theorem CD.zero (D M:Nat):CD D M 0:=⟨0,by rw[Rat.intCast_zero,Rat.div_def,Rat.zero_mul],by rw[BG];omega⟩
structure CB (D n M:Nat) (q:List Rat):Prop where
 d:D≠0
 w:(wd D).length≤M
 l:q.length≤n
 c:∀ c∈q,CD D M c
theorem CB.qb {D n M:Nat}{q:List Rat}(h:CB D n M q):QB n M q:=⟨h.l,fun c hc=>(h.c c hc).size h.d h.w⟩
theorem CB.mono {D n M m N:Nat}{q:List Rat}(h:CB D n M q)(hn:n≤m)(hM:M≤N):CB D m N q:=⟨h.d,Nat.le_trans h.w hM,Nat.le_trans h.l hn,fun c hc=>(h.c c hc).mono hM⟩
theorem CB.sub {D n M:Nat}{q r:List Rat}(h:CB D n M q)(hl:r.length≤n)(hr:∀ c∈r,c∈q):CB D n M r:=⟨h.d,h.w,hl,fun c hc=>h.c c (hr c hc)⟩
theorem CB.trim {D n M:Nat}{q:List Rat}(h:CB D n M q):CB D n M (aI q):=h.sub (Nat.le_trans (by rw[jT];exact uM q) h.l) fun c hc=>List.mem_of_mem_take hc
theorem qw (q:Rat):zl q.num≤qz q∧(wd q.den).length≤qz q:=⟨Nat.le_max_left _ _,Nat.le_max_right _ _⟩
theorem a2A:∀ {k:Nat} (q:List Rat),(∀ c∈q,qz c≤k)→∃ D,D≠0∧(wd D).length≤q.length*k+1∧∀ c∈q,CD D (q.length*k+k+1) c
 | k,[],_=>⟨1,by omega,by rw[show wd 1=[1] by decide +kernel];simp,fun c hc=>nomatch hc⟩
 | k,a::q,h=>by
  obtain⟨D,hD,hw,hc⟩:=a2A q fun c hc=>h c (List.mem_cons_of_mem _ hc)
  have ha:=h a (by simp);have hp:=qw a;refine⟨a.den*D,Nat.mul_ne_zero a.den_nz hD,?_,fun c hc'=>?_⟩
  ·have:=AL.dQ a.den D;rw[List.length_cons,Nat.succ_mul];omega
  ·rw[List.length_cons,Nat.succ_mul];rcases List.mem_cons.1 hc' with rfl|hc'
   ·exact((CD.ofRat c).up c.den_nz hD hw).mono (by omega)
   ·rw[Nat.mul_comm];exact((hc c hc').up hD a.den_nz hp.2).mono (by omega)
theorem QB.cb {n k:Nat}{q:List Rat}(h:QB n k q):∃ D,CB D n (n*k+k+1) q:=by
 obtain⟨D,hD,hw,hc⟩:=a2A q h.2;have:=Nat.mul_le_mul_right k h.1;exact⟨D,hD,by omega,h.1,fun c hc'=>(hc c hc').mono (by omega)⟩
def sqq (q:List Rat)(c:Rat):List Rat:=(List.range (q.length-1)).map fun i=>evq (q.drop (i+1)) c
theorem a3G (q:List Rat)(c:Rat):(sqq q c).length=q.length-1:=by simp[sqq]
theorem Yf (q:List Rat)(c:Rat)(i:Nat):cfq (sqq q c) i=evq (q.drop (i+1)) c:=by
 by_cases h:i<q.length-1
 ·rw[sqq,cfq,List.getD,List.getElem?_map,List.getElem?_range h];rfl
 ·rw[eF (by rw[a3G];omega),List.drop_of_length_le (by omega)];rfl
theorem iY {q:List Rat}(h:aI q=q):tzq q=q.length:=by rw[← jT,h]
theorem a6x {q:List Rat}{c:Rat}(h:aI q=q)(h0:q.length≠0)(he:evq q c=0):tzq (sqq q c)=q.length-1∧q.length-1≠0:=by
 have ht:=iY h;have h1:q.length≠1:=fun e=>by
  match q,e with
  | [a],_ =>
   have:=fF (q:=[a]) (by rw[ht];simp);rw[ht]at this;rw[evq,evq]at he;exact this (by show a=0;rw[← he];grind)
 have h2:cfq (sqq q c) (q.length-2)≠0:=by
  have:=fF (q:=q) (by rw[ht];exact h0);rw[ht]at this;rw[Yf,show q.length-2+1=q.length-1 by omega,List.drop_eq_getElem_cons (by omega),evq,List.drop_of_length_le (by omega),evq];rw[kH (by omega)]at this;intro e;exact this (by rw[← e];grind)
 have:=vS h2 fun k hk=>by rw[Yf,List.drop_of_length_le (by omega)];rfl
 exact⟨by omega,by omega⟩
def qit (q:List Rat)(c:Rat):Nat→List Rat
 | 0=>q
 | k+1=>aI (sqq (qit q c k) c)
theorem Wx {q:List Rat}{c:Rat}(h:aI q=q)(h0:q.length≠0):∀ k,(∀ j,j<k→evq (qit q c j) c=0)→(qit q c k).length+k=q.length∧(qit q c k).length≠0∧aI (qit q c k)=qit q c k
 | 0,_=>⟨rfl,h0,h⟩
 | k+1,hk=>by
  obtain⟨h1,h2,h3⟩:=Wx h h0 k fun j hj=>hk j (by omega)
  obtain⟨h4,h5⟩:=a6x h3 h2 (hk k (by omega));refine⟨?_,?_,dP _⟩
  ·rw[qit,jT];omega
  ·rw[qit,jT];omega
theorem a1s {P:Nat→Prop}(h:∃ n,P n):∃ n,P n∧∀ j,j<n→¬P j:=by
 obtain⟨n,hn⟩:=h
 induction n using Nat.strongRecOn with
 | _ n ih =>
  by_cases hm:∃ m,m<n∧P m
  ·obtain⟨m,hm1,hm2⟩:=hm;exact ih m hm1 hm2
  ·exact⟨n,hn,fun j hj hp=>hm ⟨j,hj,hp⟩⟩
theorem KO (r:RQ)(h:SzQ (2^38) r)(h0:nv r.2≠0):AC Tryz.prog 186 [cqq r] none [cb (decide (qv r=0))]:=by
 have s:=a0j r h h0;refine AC.aA (rs:=[.tmp 2]) aX Tryz.func186 (by rfl) (by rfl) (by rfl) (by rfl) (by rfl) ?_;simp (disch:=omega) only[wt,seval,rqs];refine ah (s) (by rfl) (by simp) ?_;simp (disch:=omega) only[wt,seval];rw[decide_eq_decide,a4f h0];exact Int.sign_eq_zero_iff_zero
theorem a0i (p:List RQ)(h:GQ (2^40) (2^38) p):AC Tryz.prog 93 [cqw p] none [cqw (p.take (tzq (qvs p)))]:=by
 refine AC.aA (rs:=[.tmp 2]) aX Tryz.func93 (by rfl) (by rfl) (by rfl) (by rfl) (by rfl) ?_;have hl:=h.1;have htl:=uM (qvs p);rw[gG]at htl;simp (disch:=omega) only[wt,seval,rqs];refine aH (fun f H=>∃ k:Nat,k≤p.length∧f 0=.iv (.sl (fD p))∧f 3=.iv (.int .i64 k)∧tzq ((qvs p).take k)=tzq (qvs p)) (fun f H=>(aY f 3).toNat) ?_ ?_
 ·exact⟨p.length,Nat.le_refl _,by simp only[wt,seval],by simp only[wt,seval],by rw[← gG p,List.take_length]⟩
 rintro f H ⟨k,hk,h0,h3,ht⟩;rw[aB h3];by_cases hc:0<(k:Int)
 ·simp (disch:=omega) only[wt,seval,rqs,h0,h3,hc];have ek:((k:Int)-1).toNat=k-1:=by omega
  have ek':k=(k-1)+1:=by omega
  rw[ek];have hr:=h.get (i:=k-1) (by omega);refine ah ((KO (p.getD (k-1) q0) hr (h.den (by omega)))) (by rfl) (by simp) ?_;simp (disch:=omega) only[wt,seval];by_cases hz:qv (p.getD (k-1) q0)=0
  ·simp (disch:=omega) only[wt,seval,h0,h3,hz];rw[← Ed]at hz;refine⟨⟨k-1,by omega,by omega,?_⟩,by omega⟩;rw[← lJ (k:=k-1) (by rw[gG];omega) hz,← ek',ht]
  ·simp (disch:=omega) only[wt,seval,rqs,h0,h3,hz];have hk:k=tzq (qvs p):=by
    rw[← Ed]at hz;have:=vT (q:=qvs p) (k:=k-1) (by rw[gG];omega) hz;rw[← ek',ht]at this;exact this.symm
   rw[← hk]
 ·have hk:k=tzq (qvs p):=by
   obtain rfl:k=0:=by omega
   rw[← ht];rfl
  simp (disch:=omega) only[wt,seval,rqs,h0,h3,hc];rw[← hk]
theorem Zu {q:List Rat}:(q.map aP).take (tzq (qvs (q.map aP)))=cqs q:=by rw[gV,← List.map_take];rfl
theorem KL (q:List Rat)(h:QB (2^40) (2^38) q):AC Tryz.prog 93 [cqw (q.map aP)] none [cqp q]:=by
 have m:=a0i (q.map aP) h.gq;rwa [Zu]at m
theorem kY (p:List RQ)(h:GQ (2^40) (2^38) p):AC Tryz.prog 15 [cqw p] none [cqp (qvs p),ci 0]:=by
 refine AC.aA (rs:=[.tmp 2,.tmp 3]) aX Tryz.func15 (by rfl) (by rfl) (by rfl) (by rfl) (by rfl) ?_;have hl:=h.1;simp (disch:=omega) only[wt,seval,rqs];refine dS 4 4 32 3 (by simp only[wt,seval]) (fun f H=>∃ (i st:Nat),i≤p.length∧f 11=.iv (.int .i64 i)∧f 9=.iv (.sl (fD p))∧f 10=.iv (.int .i64 p.length)∧f 4=.hs 4 st∧H 4=.blk false st 32 3 (fD (((qvs p).take i).map aP))) (fun f H=>(p.length-aY f 11).toNat) ?_ ?_
 ·refine⟨0,1,by omega,?_⟩;simp only[wt,seval,rqs,fB,fM,List.take_zero]
 rintro f H ⟨i,st,hi,hF⟩;rw[aB hF.1];simp (disch:=omega) only[wt,seval,hF];refine aQ (fun hlt=>?_) (fun hlt=>?_)
 ·have hlt':i<p.length:=by omega
  have hq:(((qvs p).take i).map aP).length=i:=by rw[List.length_map,List.length_take,gG];omega
  have m:=QN (p.getD i q0) (h.get hlt') (h.den hlt');rw[← Ed]at m;simp (disch:=omega) only[wt,seval,rqs,hF];refine ah (m) (by rfl) (by simp) ?_;simp (disch:=omega) only[wt,seval,rqs,hF,hq];have e:=fG (q:=qvs p) (i:=i) (by rw[gG];omega);refine⟨⟨i+1,st+1,by omega,?_⟩,by omega⟩;rw[e,List.map_append]
  (repeat' apply And.intro)<;>first|rfl|omega
 ·simp (disch:=omega) only[wt,seval,hF];rw[List.take_of_length_le (by rw[gG];omega)]at hF;have m:=KL (qvs p) h.qb;refine ah (m) (by simp only[gQ,tJ,hF];rfl) (by simp) ?_;simp (disch:=omega) only[wt,seval,hF]
theorem Vk (a b:List RQ)(ha:BQ (2^40) (2^40) a)(hb:BQ (2^40) (2^40) b):AC Tryz.prog 26 [cqw a,cqw b] none [cb (decide (a=b))]:=by
 refine AC.aA (rs:=[.tmp 4]) aX Tryz.func26 (by rfl) (by rfl) (by rfl) (by rfl) (by rfl) ?_;have hla:=ha.1;have hlb:=hb.1;simp (disch:=omega) only[wt,seval,rqs];by_cases hl:a.length=b.length
 ·have hl':(a.length:Int)=(b.length:Int):=by omega
  simp only[wt,seval,hl'];refine aH (fun f H=>∃ (i:Nat),i≤a.length∧a.take i=b.take i∧f 5=.iv (.int .i64 i)∧f 0=.iv (.sl (fD a))∧f 1=.iv (.sl (fD b))) (fun f H=>(a.length-aY f 5).toNat) ?_ ?_
  ·refine⟨0,by omega,rfl,?_⟩;simp only[wt,seval]
  rintro f H ⟨i,hi,he,hF⟩;rw[aB hF.1];simp (disch:=omega) only[wt,seval,rqs,hF];refine aQ (fun hlt=>?_) (fun hlt=>?_)
  ·have hia:i<a.length:=by omega
   have hib:i<b.length:=by omega
   have m:=RJ (a.getD i q0) (b.getD i q0) ((ha.get hia).mono (by omega)) ((hb.get hib).mono (by omega));have e1:a.getD i q0=a[i]:=by simp[List.getD,hia]
   have e2:b.getD i q0=b[i]:=by simp[List.getD,hib]
   simp (disch:=omega) only[wt,seval,rqs,hF];refine .inl ⟨aS (by kernel_rfl),?_⟩;refine ah (m) (by rfl) (by simp) ?_;simp (disch:=omega) only[wt,seval];refine⟨bH (by kernel_rfl),?_⟩;by_cases hne:a.getD i q0=b.getD i q0
   ·simp (disch:=omega) only[wt,seval,hF,hne];refine⟨⟨i+1,by omega,?_,?_⟩,by omega⟩
    ·rw[List.take_add_one,List.take_add_one,he,List.getElem?_eq_getElem hia,List.getElem?_eq_getElem hib,← e1,← e2,hne]
    ·omega
   ·simp (disch:=omega) only[wt,seval,hne];exact(decide_eq_false (fun e=>hne (by rw[e]))).symm
  ·simp (disch:=omega) only[wt,seval];rw[List.take_of_length_le (by omega),List.take_of_length_le (by omega)]at he;exact(decide_eq_true he).symm
 ·have hl':¬(a.length:Int)=(b.length:Int):=by omega
  simp (disch:=omega) only[wt,seval,hl'];exact(decide_eq_false (fun e=>hl (by rw[e]))).symm
theorem dR {q:List Rat}{i:Nat}(h:i<q.length):(q.map aP).getD i q0=aP (cfq q i):=by simp[cfq,List.getD,h]
structure SB (A:List Rat) (x:RQ) (B:Nat):Prop where
 l:A.length≤2^30
 c:∀ i,i<A.length→qz (cfq A i)≤B
 e:∀ i,qz (evq (A.drop i) (qv x))≤B
 hx:SzQ B x
 d:nv x.2≠0
 b:B≤2^34
 one:1≤B
structure TB (A:List Rat) (x:RQ) (n:Nat):Prop where
 t:aI A=A
 l:A.length≤2^30
 n0:A.length≠0
 z:∀ j,j<n→evq (qit A (qv x) j) (qv x)=0
 e:evq (qit A (qv x) n) (qv x)≠0
 v:∀ k,k≤n→VB ((qit A (qv x) k).map aP) x (2^34)
theorem TB.le {A:List Rat}{x:RQ}{n:Nat}(h:TB A x n){k:Nat}(hk:k≤n):(qit A (qv x) k).length+k=A.length∧(qit A (qv x) k).length≠0∧aI (qit A (qv x) k)=qit A (qv x) k :=
 Wx h.t h.n0 k fun j hj=>h.z j (by omega)
theorem Kv {v:RQ}(h:SzQ (2^43) v):AC Tryz.prog 33 [cqq v,cqq v] none [cb true]:=by
 have:=RJ v v h h;rwa [decide_eq_true rfl]at this
theorem a0W (l:List (List IV)):lay (fun i=>[(0,2),(2,1)][i]?) [.bool false,.sl [],.sl []] ([1].zip [[.sl l]])=some ((1=1∧2+1≤3)∧True,[.bool false,.sl [],.sl l]):=rfl
theorem QO:AC Tryz.prog 94 [] none [cqz 0]:=by
 have m:=D8 1 (by decide);rw[show wd 1=[1] by decide +kernel]at m;rw[show cqz 0=.agg (nJ ((false,[]),[1])) from congrArg CV.agg Uk];have hl:=a0W;refine AC.aA (rs:=[.cell 0 32]) aX Tryz.func94 (by rfl) (by rfl) (by rfl) (by rfl) (by rfl) ?_;simp (disch:=omega) only[wt,seval];refine ah (m) (by rfl) (by simp) ?_;simp (disch:=omega) only[wt,seval,hl]
 try rfl
theorem a0q (A:List Rat)(n:Int)(h:QB (2^40) (2^38) A):AC Tryz.prog 105 [cqw (A.map aP),ci n] none [cqz (if n<0 then 0 else cfq A n.toNat)]:=by
 have hl:=h.1;have hq:(A.map aP).length=A.length:=List.length_map _;refine AC.aA (rs:=[.cell 4 32]) aX Tryz.func105 (by rfl) (by rfl) (by rfl) (by rfl) (by rfl) ?_;by_cases h0:n<0
 ·rw[if_pos h0];simp (disch:=omega) only[wt,seval,h0];refine ah (QO) (by rfl) (by simp) ?_;simp (disch:=omega) only[wt,seval,rqs]
  try rfl
 ·rw[if_neg h0];obtain⟨i,rfl⟩:∃ i:Nat,n=i:=⟨n.toNat,by omega⟩;rw[Int.toNat_natCast];by_cases h1:i<A.length
  ·have h2:¬(A.length:Int)≤(i:Int):=by omega
   have m:=QN (aP (cfq A i)) (aZ (h.cz (by omega) i)) (bI _);rw[dB]at m;have e:=dR h1;simp (disch:=omega) only[wt,seval,rqs,h0,h2,hq,e];refine ah (m) (by rfl) (by simp) ?_;simp (disch:=omega) only[wt,seval,rqs]
   try rfl
  ·have h2:(A.length:Int)≤(i:Int):=by omega
   rw[eF (by omega)];simp (disch:=omega) only[wt,seval,rqs,h0,h2,hq];refine ah (QO) (by rfl) (by simp) ?_;simp (disch:=omega) only[wt,seval,rqs]
   try rfl
theorem KX (A:List Rat)(i:Nat)(h:QB (2^40) (2^38) A):AC Tryz.prog 105 [cqw (A.map aP),ci i] none [cqz (cfq A i)]:=by
 have:=a0q A i h;rwa [if_neg (by omega),Int.toNat_natCast]at this
theorem AO (p q:List RQ)(hp:GQ (2^40) (2^38) p)(hq:GQ (2^40) (2^38) q):AC Tryz.prog 89 [cqw p,cqw q] none [cqp (qvs p),cqp (qvs q),ci 0]:=by
 have m:=kY p hp;have n:=kY q hq;refine AC.aA (rs:=[.tmp 4,.tmp 5,.tmp 6]) aX Tryz.func89 (by rfl) (by rfl) (by rfl) (by rfl) (by rfl) ?_;simp only[wt,seval];refine ah (m) (by rfl) (by simp) ?_;simp (disch:=omega) only[wt,seval];refine ah (n) (by rfl) (by simp) ?_;simp (disch:=omega) only[wt,seval]
 try rfl
def qO (F:Rat→Rat→Rat)(A B:List Rat):List Rat:=(List.range (max A.length B.length)).map fun k=>F (cfq A k) (cfq B k)
theorem qg (F:Rat→Rat→Rat)(A B:List Rat):(qO F A B).length=max A.length B.length:=by simp[qO]
theorem eG {F:Rat→Rat→Rat}(hF:F 0 0=0)(A B:List Rat)(k:Nat):cfq (qO F A B) k=F (cfq A k) (cfq B k):=by
 by_cases h:k<max A.length B.length
 ·simp only[qO,cfq,List.getD,List.getElem?_map,List.getElem?_range h,Option.map_some,Option.getD_some]
 ·rw[eF (by rw[qg];omega),eF (by omega),eF (by omega),hF]
def a3A (A B:List Rat):List Rat:=qO (fun a b=>a-b) A B
theorem SL (A B:List Rat)(k:Nat):cfq (a3A A B) k=cfq A k-cfq B k:=eG (by decide +kernel) A B k
theorem a2t (q:Rat):qz (-q)=qz q:=by unfold qz;rw[Rat.neg_num,Rat.neg_den,zu]
theorem VZ (p q:Rat):qz (p-q)≤qz p+qz q+1:=by
 rw[Rat.sub_eq_add_neg];have:=FD p (-q);rwa [a2t]at this
theorem Ba (a:List Nat)(h:Nt (2^42) a):AC Tryz.prog 253 [cl a] none [cb (decide (nv a=0))]:=by
 have m:=Rt a h.2 h.1;refine AC.aA (rs:=[.tmp 2]) aX Tryz.func253 (by rfl) (by rfl) (by rfl) (by rfl) (by rfl) ?_;simp only[wt,seval];refine ah (m) (by rfl) (by simp) ?_;simp (disch:=omega) only[wt,seval];rw[decide_eq_decide];constructor
 ·intro e;exact Jb.mp (by omega)
 ·intro e;rw[Jb.mpr e];rfl
theorem XL (a b:List Nat)(ha:Nt (2^38) a)(hb:Nt (2^38) b)(h0:nv b≠0):AC Tryz.prog 254 [cl a,cl b] none [cl (wd (nv a/nv b))]:=by
 have m:=Wi a b ha.2 hb.2 ha.1 hb.1 h0;refine AC.aA (rs:=[.tmp 4]) aX Tryz.func254 (by rfl) (by rfl) (by rfl) (by rfl) (by rfl) ?_;simp only[wt,seval];refine ah (m) (by rfl) (by simp) ?_;simp (disch:=omega) only[wt,seval]
theorem OX (a b:Nat):a/Nat.gcd a b*b=Nat.lcm a b:=by
 unfold Nat.lcm;rcases Nat.eq_zero_or_pos (Nat.gcd a b) with h|h
 ·rw[h,Nat.div_zero,Nat.div_zero,Nat.zero_mul]
 ·obtain⟨k,hk⟩:=Nat.gcd_dvd_left a b;have e:a/Nat.gcd a b=k:=Nat.div_eq_of_eq_mul_right h hk;rw[e];refine(Nat.div_eq_of_eq_mul_right h ?_).symm;rw[← Nat.mul_assoc,← hk]
theorem a4P {a b j k:Nat}(ha:(wd a).length≤j)(hb:(wd b).length≤k):(wd (Nat.lcm a b)).length≤j+k :=
 Nat.le_trans (bJ (Nat.div_le_self _ _)) (oz ha hb)
theorem a6R {a b:Nat}(ha:a≠0)(hb:b≠0):Nat.lcm a b≠0:=Nat.lcm_ne_zero ha hb
theorem a5e (a b:List Nat)(ha:Nt (2^35) a)(hb:Nt (2^35) b)(h0:nv a≠0)(h1:nv b≠0):AC Tryz.prog 187 [cl a,cl b] none [cl (wd (Nat.lcm (nv a) (nv b)))]:=by
 have z1:=Ba a ⟨Nat.le_trans ha.1 (by omega),ha.2⟩;have z2:=Ba b ⟨Nat.le_trans hb.1 (by omega),hb.2⟩;rw[decide_eq_false h0]at z1;rw[decide_eq_false h1]at z2;have g:=LU a b ha.2 hb.2 (Nat.le_trans ha.1 (by omega)) (Nat.le_trans hb.1 (by omega));have hgp:Nat.gcd (nv a) (nv b)≠0:=Nat.ne_of_gt (Nat.gcd_pos_of_pos_right _ (by omega));have hgl:(wd (Nat.gcd (nv a) (nv b))).length≤2^38:=Nat.le_trans (bJ (Nat.gcd_le_right _ (by omega))) (Nat.le_trans (fJ hb.2) (Nat.le_trans hb.1 (by omega)));have q:=XL a (wd (Nat.gcd (nv a) (nv b))) ⟨Nat.le_trans ha.1 (by omega),ha.2⟩ ⟨hgl,aO _⟩ (by rw[bC];exact hgp);rw[bC]at q;have m:=Dc (wd (nv a/Nat.gcd (nv a) (nv b))) b (aO _) hb.2 (Nat.le_trans (bJ (Nat.div_le_self _ _)) (Nat.le_trans (fJ ha.2) (Nat.le_trans ha.1 (by omega)))) (Nat.le_trans hb.1 (by omega));rw[bC,OX]at m;refine AC.aA (rs:=[.tmp 4]) aX Tryz.func187 (by rfl) (by rfl) (by rfl) (by rfl) (by rfl) ?_;simp only[wt,seval];refine ah (z1) (by rfl) (by simp) ?_;simp only[wt,seval];refine ah (z2) (by rfl) (by simp) ?_;simp (disch:=omega) only[wt,seval];refine ah (g) (by rfl) (by simp) ?_;simp only[wt,seval];refine ah (q) (by rfl) (by simp) ?_;simp only[wt,seval];refine ah (m) (by rfl) (by simp) ?_;simp (disch:=omega) only[wt,seval]
def ug (l:List Nat):Nat:=l.foldl Nat.lcm 1
theorem wY {l:List Nat}{i:Nat}(h:i<l.length):ug (l.take (i+1))=Nat.lcm (ug (l.take i)) (l.getD i 0):=by
 rw[List.take_add_one,List.getElem?_eq_getElem h,ug,List.foldl_append];simp[ug,List.getD,h]
theorem kN (l:List Nat)(K:Nat)(h0:∀ x∈l,x≠0)(hK:∀ x∈l,(wd x).length≤K):∀ i,i≤l.length→ug (l.take i)≠0∧(wd (ug (l.take i))).length≤i*K+1∧∀ j,j<i→l.getD j 0∣ug (l.take i)
 | 0,_=>⟨by simp[ug],by rw[List.take_zero];show (wd 1).length≤_;rw[show wd 1=[1] by decide +kernel];simp,fun j hj=>by omega⟩
 | i+1,hi=>by
  obtain⟨a1,a2,a3⟩:=kN l K h0 hK i (by omega);have hm:l.getD i 0∈l:=by rw[List.getD,List.getElem?_eq_getElem (by omega),Option.getD_some];exact List.getElem_mem _
  rw[wY (by omega)];refine⟨a6R a1 (h0 _ hm),?_,fun j hj=>?_⟩
  ·have:=a4P a2 (hK _ hm);rw[Nat.succ_mul];omega
  ·rcases Nat.lt_or_ge j i with h|h
   ·exact Nat.dvd_trans (a3 j h) (Nat.dvd_lcm_left _ _)
   ·obtain rfl:j=i:=by omega
    exact Nat.dvd_lcm_right _ _
set_option maxRecDepth 100000 in
theorem Ue (l:List Nat)(K:Nat)(hl:l.length≤2^30)(h0:∀ x∈l,x≠0)(hK:∀ x∈l,(wd x).length≤K)(hB:l.length*K+K+1≤2^35):AC Tryz.prog 98 [.iv (.sl (l7 (l.map wd)))] none [cl (wd (ug l))]:=by
 have o:=D8 1 (by decide);have hml:(l.map wd).length=l.length:=List.length_map _;have e0:wd (ug (l.take 0))=wd 1:=by rw[List.take_zero];rfl
 refine AC.aA (rs:=[.tmp 2]) aX Tryz.func98 (by rfl) (by rfl) (by rfl) (by rfl) (by rfl) ?_;simp only[wt,seval];refine ah (o) (by rfl) (by simp) ?_;simp (disch:=omega) only[wt,seval,gW];refine aH (fun f H=>∃ (i:Nat),i≤l.length∧f 9=.iv (.int .i64 i)∧f 7=.iv (.sl (l7 (l.map wd)))∧f 8=.iv (.int .i64 l.length)∧f 3=.iv (.sl (bW (wd (ug (l.take i)))))) (fun f H=>(l.length-aY f 9).toNat) ?_ ?_
 ·refine⟨0,by omega,?_⟩;simp only[wt,seval,e0,hml]
 rintro f H ⟨i,hi,hF⟩;rw[aB hF.1];simp (disch:=omega) only[wt,seval,hF];refine aQ (fun hlt=>?_) (fun hlt=>?_)
 ·have hlt':i<l.length:=by omega
  obtain⟨a1,a2,a3⟩:=kN l K h0 hK i hi;have hm:l.getD i 0∈l:=by rw[List.getD,List.getElem?_eq_getElem hlt',Option.getD_some];exact List.getElem_mem _
  have hg:(l.map wd).getD i []=wd (l.getD i 0):=by simp[List.getD,hlt']
  have hk:=hK _ hm;have h2:i*K≤l.length*K:=Nat.mul_le_mul_right _ hi;have m:=a5e (wd (ug (l.take i))) (wd (l.getD i 0)) ⟨by omega,aO _⟩ ⟨by omega,aO _⟩ (by rw[bC];exact a1) (by rw[bC];exact h0 _ hm);rw[bC,bC,← wY hlt']at m;simp (disch:=omega) only[wt,seval,gW,tZ,hF,hml,hg];refine ah (m) (by rfl) (by simp) ?_;simp (disch:=omega) only[wt,seval,hF];refine⟨⟨i+1,by omega,?_⟩,by omega⟩
  (repeat' apply And.intro)<;>first|rfl|omega
 ·simp (disch:=omega) only[wt,seval,hF];rw[List.take_of_length_le (by omega)]
def ng (A:List Rat):List Nat:=A.map fun c=>c.den
def jq (A:List Rat):Nat:=ug (ng A)
def clr (A:List Rat):List Int:=A.map fun c=>c.num*((jq A:Int)/(c.den:Int))
theorem og (A:List Rat):(ng A).length=A.length:=List.length_map _
theorem qF (A:List Rat):(clr A).length=A.length:=List.length_map _
theorem IK {A:List Rat}{i:Nat}(h:i<A.length):(ng A).getD i 0=(cfq A i).den:=by simp[ng,cfq,List.getD,h]
theorem J4 {A:List Rat}{i:Nat}(h:i<A.length):cf (clr A) i=(cfq A i).num*((jq A:Int)/((cfq A i).den:Int)):=by simp[clr,cf,cfq,List.getD,h]
theorem yU {A:List Rat}:∀ x∈ng A,x≠0:=fun x hx=>by
 obtain⟨c,_,rfl⟩:=List.mem_map.1 hx;exact c.den_nz
theorem QB.ng {n k:Nat}{A:List Rat}(h:QB n k A):∀ x∈ng A,(wd x).length≤k:=fun x hx=>by
 obtain⟨c,hc,rfl⟩:=List.mem_map.1 hx;exact Nat.le_trans (qw c).2 (h.2 c hc)
theorem jJ (A:List Rat):jq A≠0:=by
 have:=(kN (ng A) ((ng A).foldl (fun m x=>max m (wd x).length) 0) yU (fun x hx=>by
  have key:∀ (l:List Nat) (m:Nat),m≤l.foldl (fun m x=>max m (wd x).length) m∧∀ x∈l,(wd x).length≤l.foldl (fun m x=>max m (wd x).length) m:=by
   intro l
   induction l with
   | nil=>exact fun m=>⟨Nat.le_refl _,fun x hx=>nomatch hx⟩
   | cons a l ih =>
    intro m;have:=ih (max m (wd a).length);refine⟨Nat.le_trans (Nat.le_max_left _ _) this.1,fun x hx=>?_⟩;rcases List.mem_cons.1 hx with rfl|hx
    ·exact Nat.le_trans (Nat.le_max_right _ _) this.1
    ·exact this.2 x hx
  exact(key (ng A) 0).2 x hx) (ng A).length (Nat.le_refl _)).1
 rwa [List.take_of_length_le (Nat.le_refl _)]at this
theorem Bv {A:List Rat}{i:Nat}(h:i<A.length):(cfq A i).den∣jq A:=by
 have:=(kN (ng A) (jq A+(ng A).foldl (fun m x=>m+(wd x).length) 0) yU (fun x hx=>by
  have key:∀ (l:List Nat) (m:Nat),m≤l.foldl (fun m x=>m+(wd x).length) m∧∀ x∈l,(wd x).length≤l.foldl (fun m x=>m+(wd x).length) m:=by
   intro l
   induction l with
   | nil=>exact fun m=>⟨Nat.le_refl _,fun x hx=>nomatch hx⟩
   | cons a l ih =>
    intro m;have:=ih (m+(wd a).length);refine⟨Nat.le_trans (by omega) this.1,fun x hx=>?_⟩;rcases List.mem_cons.1 hx with rfl|hx
    ·exact Nat.le_trans (by omega) this.1
    ·exact this.2 x hx
  have:=(key (ng A) 0).2 x hx;omega) (ng A).length (Nat.le_refl _)).2.2 i (by rw[og];exact h)
 rw[List.take_of_length_le (Nat.le_refl _),IK h]at this;exact this
theorem je {n k:Nat}{A:List Rat}(h:QB n k A):(wd (jq A)).length≤n*k+1:=by
 have:=(kN (ng A) k yU h.ng (ng A).length (Nat.le_refl _)).2.1;rw[List.take_of_length_le (Nat.le_refl _),og]at this;have h2:=Nat.mul_le_mul_right k h.1;show (wd (ug (ng A))).length≤_;omega
theorem MR (A:List Rat)(i:Nat):(cf (clr A) i:Rat)=cfq A i*(jq A:Rat):=by
 by_cases h:i<A.length
 ·rw[J4 h];obtain⟨m,hm⟩:=Bv h;have hd:((cfq A i).den:Int)≠0:=by have:=(cfq A i).den_nz;omega
  have e:(jq A:Int)/((cfq A i).den:Int)=(m:Int):=by
   rw[hm,Int.natCast_mul,Int.mul_ediv_cancel_left _ hd]
  rw[e,Rat.intCast_mul,Rat.intCast_natCast,hm,Rat.natCast_mul];have h1:cfq A i=((cfq A i).num:Rat)/((cfq A i).den:Rat):=by rw[← Rat.mkRat_eq_div,Rat.mkRat_self]
  have h2:=lF (cfq A i).den_nz;generalize (cfq A i).num=u at *;generalize (cfq A i).den=v at *;rw[h1]
  grind
 ·rw[xJ (by rw[qF];omega),eF (by omega),Rat.intCast_zero,Rat.zero_mul]
theorem a6j {n k:Nat}{A:List Rat}(h:QB n k A)(i:Nat):zl (cf (clr A) i)≤k+n*k+1:=by
 by_cases hi:i<A.length
 ·rw[J4 hi];have h1:=jL (cfq A i).num ((jq A:Int)/((cfq A i).den:Int));have h2:=JE (a:=(jq A:Int)) (b:=((cfq A i).den:Int)) (Int.natCast_dvd_natCast.mpr (Bv hi));have h3:=je h;have h4:=(qw (cfq A i)).1;have h5:qz (cfq A i)≤k:=by rw[kH hi];exact h.2 _ (List.getElem_mem hi)
  rw[jh]at h2;omega
 ·rw[xJ (by rw[qF];omega),BG];omega
theorem QB.clr {n k:Nat}{A:List Rat}(h:QB n k A):PB n (k+n*k+1) (clr A):=.of (by rw[qF];exact h.1) (a6j h)
theorem J3 {A:List Rat}{i:Nat}:cf (clr A) i=0↔cfq A i=0:=by
 have h:=MR A i;have hd:=lF (jJ A);constructor
 ·intro e;rw[e,Rat.intCast_zero]at h;exact(Rat.mul_eq_zero.mp h.symm).resolve_right hd
 ·intro e;rw[e,Rat.zero_mul]at h;exact Rat.intCast_eq_zero_iff.mp h
theorem SI {A:List Rat}(h:aI A=A):dJ (clr A)=clr A:=by
 have ht:=iY h;have:tz (clr A)=A.length:=by
  rcases Nat.eq_zero_or_pos A.length with h0|h0
  ·have:=Tt (clr A);rw[qF]at this;omega
  ·have hp:=fF (q:=A) (by omega);rw[ht]at hp;have:=Vg (q:=clr A) (n:=A.length-1) (fun e=>hp (J3.mp e)) (fun k hk=>xJ (by rw[qF];omega));omega
 rw[dJ,this];exact List.take_of_length_le (by rw[qF];exact Nat.le_refl _)
theorem FQ (A:List Rat){i:Nat}(h:i<A.length):((ng A).take (i+1)).map wd=((ng A).take i).map wd++[wd (cfq A i).den]:=by
 rw[List.take_add_one,List.getElem?_eq_getElem (by rw[og];exact h),List.map_append];have e:(ng A)[i]'(by rw[og];exact h)=(cfq A i).den:=by
  have:=IK h;rw[List.getD,List.getElem?_eq_getElem (by rw[og];exact h),Option.getD_some]at this;exact this
 simp only[Option.toList,List.map_cons,List.map_nil,e]
theorem rM (p:List RQ)(n k:Nat)(hp:GQ n k p)(hn:n≤2^28)(hM:n*k+k+2≤2^34):AC Tryz.prog 19 [cqw p] none [cl (wd (jq (aI (qvs p)))),cw ((clr (aI (qvs p))).map canon),ci 0]:=by
 have nm:=kY p (hp.mono (by omega) (by omega));have hA:=hp.qb.aI;refine AC.aA (rs:=[.tmp 2,.tmp 3,.tmp 4]) aX Tryz.func19 (by rfl) (by rfl) (by rfl) (by rfl) (by rfl) ?_;simp only[wt,seval];refine ah (nm) (by rfl) (by simp) ?_;simp (disch:=omega) only[wt,seval,rqs];unfold cqs;generalize aI (qvs p)=A at *;have hAl:=hA.1;have hq:(A.map aP).length=A.length:=List.length_map _;have hdl:=og A;have hcl:=qF A;simp (disch:=omega) only[wt,seval,rqs,hq];refine aH (fun f H=>∃ (i ZH:Nat),i≤A.length∧f 29=.iv (.int .i64 i)∧f 27=.iv (.sl (fD (A.map aP)))∧f 28=.iv (.int .i64 A.length)∧f 5=.iv (.sl (fD (A.map aP)))∧f 7=.hs 26 ZH∧H 26=.blk false ZH 28 1 (l7 (((ng A).take i).map wd))) (fun f H=>(A.length-aY f 29).toNat) ?_ ?_
 ·refine⟨0,1,by omega,?_⟩;simp only[wt,seval,wP,List.take_zero]
 rintro f H ⟨i,ZH,hi,hF⟩;rw[aB hF.1];simp (disch:=omega) only[wt,seval,hF];refine aQ (fun hlt=>?_) (fun hlt=>?_)
 ·have hlt':i<A.length:=by omega
  have hdq:(((ng A).take i).map wd).length=i:=by rw[List.length_map,List.length_take];omega
  have e:=dR hlt';have e2:bW (aP (cfq A i)).2=bW (wd (cfq A i).den):=rfl;simp (disch:=omega) only[wt,seval,rqs,gW,tY,hF,hq,hdq,e,e2];refine⟨⟨i+1,ZH+1,by omega,?_⟩,by omega⟩;rw[FQ A hlt']
  (repeat' apply And.intro)<;>first|rfl|omega
 ·have hie:i=A.length:=by omega
  subst hie;rw[List.take_of_length_le (by omega)]at hF;have m:=Ue (ng A) k (by omega) yU hA.ng (by rw[hdl];have:=Nat.mul_le_mul_right k hA.1;omega);have hcd:=je hA;have hcn:=jJ A;simp (disch:=omega) only[wt,seval,hF];refine ah (m) (by simp only[gQ,tJ,hF];rfl) (by simp) ?_;simp (disch:=omega) only[wt,seval,rqs,hF,hq];rw[show ug (ng A)=jq A from rfl];refine dS 11 11 30 2 (by simp only[wt,seval]) (fun f H=>∃ (i st:Nat),i≤A.length∧f 43=.iv (.int .i64 i)∧f 41=.iv (.sl (fD (A.map aP)))∧f 42=.iv (.int .i64 A.length)∧f 10=.iv (.sl (bW (wd (jq A))))∧f 11=.hs 11 st∧H 11=.blk false st 30 2 (kF (((clr A).take i).map canon))) (fun f H=>(A.length-aY f 43).toNat) ?_ ?_
  ·refine⟨0,(H 11).stamp+1,by omega,?_⟩;simp only[wt,seval,fB,fM,List.take_zero]
  rintro f H ⟨i,st,hi,hF⟩;rw[aB hF.1];simp (disch:=omega) only[wt,seval,hF];refine aQ (fun hlt=>?_) (fun hlt=>?_)
  ·have hlt':i<A.length:=by omega
   have hcq:(((clr A).take i).map canon).length=i:=by rw[List.length_map,List.length_take];omega
   have e:=dR hlt';have e2:bW (aP (cfq A i)).2=bW (wd (cfq A i).den):=rfl;have e3:lQ (aP (cfq A i)).1=lQ (canon (cfq A i).num):=rfl;have hc:qz (cfq A i)≤k:=by rw[kH hlt'];exact hA.2 _ (List.getElem_mem hlt')
   have hc2:=qw (cfq A i);have n1:=mG false (jq A) (by omega);have n2:=mG false (cfq A i).den (by omega);rw[sgf]at n1 n2;have hdv:((cfq A i).den:Int)∣(jq A:Int):=Int.natCast_dvd_natCast.mpr (Bv hlt');have x:=BI (canon (jq A:Int)) (canon ((cfq A i).den:Int)) ((aW _).mono (by rw[jh];omega)) ((aW _).mono (by rw[jh];omega)) (by rw[aN];have:=(cfq A i).den_nz;omega) (by rw[aN,aN];exact hdv);rw[aN,aN]at x;have zd:=JE hdv;rw[jh]at zd;have w:=uZ (canon (cfq A i).num) (canon ((jq A:Int)/((cfq A i).den:Int))) ((aW _).mono (by omega)) ((aW _).mono (by omega));rw[aN,aN,← J4 hlt']at w;simp (disch:=omega) only[wt,seval,rqs,hF,hq,e,e2];refine .inl ⟨aS (by kernel_rfl),?_⟩;refine ah (n1) (by rfl) (by simp) ?_;simp (disch:=omega) only[wt,seval,e2];refine ah (n2) (by rfl) (by simp) ?_;simp (disch:=omega) only[wt,seval];refine ah (x) (by rfl) (by simp) ?_;simp (disch:=omega) only[wt,seval,rqs,hF,e3];refine⟨bH (by kernel_rfl),?_⟩;refine ah (w) (by rfl) (by simp) ?_;simp (disch:=omega) only[wt,seval,hF,hcq];have et:=yC (q:=clr A) (i:=i) (by omega);refine⟨⟨i+1,st+1,by omega,?_⟩,by omega⟩;rw[et,List.map_append]
   (repeat' apply And.intro)<;>first|rfl|omega
  ·have hie:i=A.length:=by omega
   subst hie;rw[List.take_of_length_le (by omega)]at hF;simp (disch:=omega) only[wt,seval,hF]
   try rfl
def EO (L:List Int)(D:Int):List Rat:=L.map fun c:Int=>(c:Rat)/(D:Rat)
theorem IJ (L:List Int)(D:Int):(EO L D).length=L.length:=List.length_map _
theorem V4 (x:Rat):(0:Rat)/x=0:=by rw[Rat.div_def,Rat.zero_mul]
theorem Bq (L:List Int)(D:Int)(k:Nat):cfq (EO L D) k=(cf L k:Rat)/(D:Rat):=by
 unfold EO cfq cf;rw[List.getD_eq_getElem?_getD,List.getD_eq_getElem?_getD,List.getElem?_map];cases L[k]? with
 | none=>simp only[Option.map_none,Option.getD_none];rw[Rat.intCast_zero,V4]
 | some x=>rfl
theorem vF {c:Int}{d M:Nat}(hd:d≠0)(hc:zl c≤M)(hw:(wd d).length≤M):qz ((c:Rat)/(((d:Nat):Int):Rat))≤M:=by
 rw[Rat.intCast_natCast,← Rat.mkRat_eq_div];exact Oz hd hc hw
theorem QB.EO {n M:Nat}{L:List Int}{d:Nat}(h:PB n M L)(hd:d≠0)(hw:(wd d).length≤M):QB n M (EO L (d:Int)):=.of (by rw[IJ];exact h.1) fun i=>by
 rw[Bq];exact vF hd (h.cf i) hw
theorem a0n (L:List Int)(d e:Nat)(hL:PB (2^31) (2^37) L)(hd:(wd d).length≤2^35)(he:(wd e).length≤2^35)(hd0:d≠0)(he0:e≠0):AC Tryz.prog 90 [cw (L.map canon),cl (wd d),cl (wd e)] none [cqp (EO L ((d*e:Nat):Int)),ci 0]:=by
 have hl:=hL.1;have hq:(L.map canon).length=L.length:=List.length_map _;have hrl:=IJ L ((d*e:Nat):Int);have n1:=mG false d (by omega);have n2:=mG false e (by omega);rw[sgf]at n1 n2;have m:=uZ (canon (d:Int)) (canon (e:Int)) ((aW _).mono (by rw[jh];omega)) ((aW _).mono (by rw[jh];omega));rw[aN,aN,← Int.natCast_mul]at m;have hde:d*e≠0:=Nat.mul_ne_zero hd0 he0;have hw:(wd (d*e)).length≤2^35+2^35:=oz hd he;have hR:QB (2^40) (2^38) (EO L ((d*e:Nat):Int)):=(QB.EO hL hde (by omega)).mono (by omega) (by omega);refine AC.aA (rs:=[.tmp 6,.tmp 7]) aX Tryz.func90 (by rfl) (by rfl) (by rfl) (by rfl) (by rfl) ?_;simp only[wt,seval];refine ah (n1) (by rfl) (by simp) ?_;simp only[wt,seval];refine ah (n2) (by rfl) (by simp) ?_;simp only[wt,seval];refine ah (m) (by rfl) (by simp) ?_;simp (disch:=omega) only[wt,seval];refine dS 9 9 32 3 (by simp only[wt,seval]) (fun f H=>∃ (i st st8:Nat),i≤L.length∧f 21=.iv (.int .i64 i)∧f 19=.iv (.sl (kF (L.map canon)))∧f 20=.iv (.int .i64 L.length)∧f 8=.hp 8 st8 0 0∧H 8=.blk false st8 30 2 [lQ (canon ((d*e:Nat):Int))]∧f 9=.hs 9 st∧H 9=.blk false st 32 3 (fD (((EO L ((d*e:Nat):Int)).take i).map aP))) (fun f H=>(L.length-aY f 21).toNat) ?_ ?_
 ·refine⟨0,1,1,by omega,?_⟩;simp only[wt,seval,rqs,fB,fM,hq,List.take_zero]
 rintro f H ⟨i,st,st8,hi,hF⟩;rw[aB hF.1];simp (disch:=omega) only[wt,seval,hF];refine aQ (fun hlt=>?_) (fun hlt=>?_)
 ·have hlt':i<L.length:=by omega
  have hrq:(((EO L ((d*e:Nat):Int)).take i).map aP).length=i:=by rw[List.length_map,List.length_take];omega
  have e1:=pK L i;have hz:=hL.cf i;have k:=QT (canon (cf L i)) (canon ((d*e:Nat):Int)) ((aW _).mono (by omega)) ((aW _).mono (by rw[jh];omega)) (by rw[aN];omega);rw[aN,aN,← Bq]at k;simp (disch:=omega) only[wt,seval,hF,hq,e1];refine ah (k) (by rfl) (by simp) ?_;simp (disch:=omega) only[wt,seval,rqs,hF,hrq];have et:=fG (q:=EO L ((d*e:Nat):Int)) (i:=i) (by omega);refine⟨⟨i+1,st+1,st8,by omega,?_⟩,by omega⟩;rw[et,List.map_append]
  (repeat' apply And.intro)<;>first|rfl|omega
 ·simp (disch:=omega) only[wt,seval,hF];rw[List.take_of_length_le (by omega)]at hF;have m:=KL _ hR;refine ah (m) (by simp only[gQ,tJ,hF];rfl) (by simp) ?_;simp (disch:=omega) only[wt,seval,hF]
theorem Y9 (g:Nat→Int):∀ (p:List Int) (k:Nat),((cv p g k:Int):Rat)=cvq (qp p) (fun j=>(g j:Rat)) k
 | [],k=>by simp only[cv,qp,List.map_nil,cvq];rfl
 | x::xs,0=>by
  have e:qp (x::xs)=(x:Rat)::qp xs:=rfl;rw[e];simp only[cv,cvq];rw[Int.add_zero,Rat.intCast_mul,Rat.add_zero]
 | x::xs,k+1=>by
  have e:qp (x::xs)=(x:Rat)::qp xs:=rfl;have ih:=Y9 g xs k;rw[e];simp only[cv,cvq];rw[Rat.intCast_add,Rat.intCast_mul,ih]
theorem PN (x y:List Int)(k:Nat):cfq (qp (uQ x y)) k=cfq (iO (qp x) (qp y)) k:=by
 rw[zY,ku,fE,Y9];exact sG _ _ fun j=>(zY y j).symm
theorem a2x (A:List Rat):pq (qp (clr A))=PQ.C (jq A:Rat)*pq A:=PQ.ext fun k=>by
 rw[PQ.Js,a4o,a4o,zY,MR,Rat.mul_comm]
theorem qH (A B:List Rat)(k:Nat):cfq (EO (dJ (uQ (clr A) (clr B))) ((jq A*jq B:Nat):Int)) k=cfq (iO A B) k:=by
 have h1:=lF (jJ A);have h2:=lF (jJ B);rw[Bq,qI,← zY,PN];have e:pq (iO (qp (clr A)) (qp (clr B)))=PQ.C ((jq A:Rat)*(jq B:Rat))*pq (iO A B):=by
  rw[OI,a2x,a2x,PQ.a9n,OI]
  ac_rfl
 have e2:=congrArg (fun f=>PQ.c f k) e;simp only[PQ.Js,a4o]at e2;rw[e2,Rat.intCast_natCast,Rat.natCast_mul]
 grind
theorem Io (A B:List Rat):iO A B=(List.range (A.length+B.length)).map (cvq A (cfq B)):=rfl
theorem QB.iO {n k M:Nat}{A B:List Rat}(hA:QB n k A)(hB:QB n k B)(hn:n<W)(hM:n*k+k+1≤M)(hk:1≤k):QB (2*n) (2*M+1) (iO A B):=by
 have pA:=hA.clr.mono (n':=n) (k':=M) (Nat.le_refl _) (by omega);have pB:=hB.clr.mono (n':=n) (k':=M) (Nat.le_refl _) (by omega);have pm:=(pA.uQ pB hn).dJ;have c1:=je hA;have c2:=je hB;have hw:(wd (jq A*jq B)).length≤M+M:=oz (by omega) (by omega);have q:=QB.EO (pm.mono (n':=n+n) (k':=M+M+1) (Nat.le_refl _) (by omega)) (Nat.mul_ne_zero (jJ A) (jJ B)) (by omega);refine .of (by simp only[Io,List.length_map,List.length_range];have:=hA.1;have:=hB.1;omega) fun i=>?_;rw[← qH];have:=q.cz (by omega) i;omega
theorem oW (A B:List Rat)(k:Nat):cfq (iO (aI A) (aI B)) k=cfq (iO A B) k:=Ua (dZ A) (dZ B) k
theorem AU {A B:List Rat}(h:aI A=[]∨aI B=[]):cqs (iO A B)=[]:=by
 have hz:∀ k,cfq (iO A B) k=0:=fun k=>by
  rw[← oW];rcases h with h|h
  ·rw[h,fE];rfl
  ·rw[h,fE,IU]
 have:tzq (iO A B)=0:=fU.mpr hz;rw[cqs,show aI (iO A B)=[] by rw[aI,this,List.take_zero]];rfl
theorem a0m (p q:List RQ)(n k:Nat)(hp:GQ n k p)(hq:GQ n k q)(hn:n≤2^28)(hM:n*k+k+2≤2^34)(hk:1≤k):AC Tryz.prog 14 [cqw p,cqw q] none [cqp (iO (qvs p) (qvs q)),ci 0]:=by
 have m:=AO p q (hp.mono (by omega) (by omega)) (hq.mono (by omega) (by omega));have hA:=hp.qb.aI;have hB:=hq.qb.aI;have e:cqp (iO (qvs p) (qvs q))=cqp (iO (aI (qvs p)) (aI (qvs q))):=congrArg cqw (iT fun k=>(oW _ _ k).symm);have tA:=dP (qvs p);have tB:=dP (qvs q);rw[e];refine AC.aA (rs:=[.tmp 4,.tmp 5]) aX Tryz.func14 (by rfl) (by rfl) (by rfl) (by rfl) (by rfl) ?_;simp only[wt,seval];refine ah (m) (by rfl) (by simp) ?_;simp (disch:=omega) only[wt,seval,rqs];unfold cqs;generalize aI (qvs p)=A at *;generalize aI (qvs q)=B at *;have hqa:(A.map aP).length=A.length:=List.length_map _;have hqb:(B.map aP).length=B.length:=List.length_map _;by_cases ha:A.length=0
 ·have ha':((A.map aP).length:Int)=0:=by omega
  have hn:=AU (A:=A) (B:=B) (.inl (by rw[tA];exact List.length_eq_zero_iff.mp ha));rw[show cqp (iO A B)=cqw [] from congrArg cqw hn];simp (disch:=omega) only[wt,seval,rqs,ha']
  try rfl
 have ha':¬((A.map aP).length:Int)=0:=by omega
 by_cases hb:B.length=0
 ·have hb':((B.map aP).length:Int)=0:=by omega
  have hn:=AU (A:=A) (B:=B) (.inr (by rw[tB];exact List.length_eq_zero_iff.mp hb));rw[show cqp (iO A B)=cqw [] from congrArg cqw hn];simp (disch:=omega) only[wt,seval,rqs,ha',hb']
  try rfl
 have hb':¬((B.map aP).length:Int)=0:=by omega
 have c1:=rM (A.map aP) n k hA.gq hn hM;have c2:=rM (B.map aP) n k hB.gq hn hM;rw[gV,tA]at c1;rw[gV,tB]at c2;have pA:=hA.clr.mono (n':=2^30) (k':=2^35) (by omega) (by omega);have pB:=hB.clr.mono (n':=2^30) (k':=2^35) (by omega) (by omega);have z:=WO ((clr A).map canon) ((clr B).map canon) (RP.canon pA) (RP.canon pB);rw[lN,lN]at z;have l1:=je hA;have l2:=je hB;have pm:=(pA.uQ pB (by decide)).dJ;have o:=a0n (dJ (uQ (clr A) (clr B))) (jq A) (jq B) (pm.mono (by omega) (by omega)) (by omega) (by omega) (jJ A) (jJ B);have ee:cqs (EO (dJ (uQ (clr A) (clr B))) ((jq A*jq B:Nat):Int))=cqs (iO A B):=iT (qH A B);rw[show cqp (EO (dJ (uQ (clr A) (clr B))) ((jq A*jq B:Nat):Int))=cqw (cqs (iO A B)) from congrArg cqw ee]at o;simp only[wt,seval,ha',hb'];refine ah (c1) (by rfl) (by simp) ?_;simp (disch:=omega) only[wt,seval];refine ah (c2) (by rfl) (by simp) ?_;simp (disch:=omega) only[wt,seval];refine ah (z) (by rfl) (by simp) ?_;simp only[wt,seval];refine ah (o) (by rfl) (by simp) ?_;simp (disch:=omega) only[wt,seval]
 try rfl

theorem Zf (a b:List RI)(ha:RP (2^40) (2^43) a)(hb:RP (2^40) (2^43) b):AC Tryz.prog 32 [cw a,cw b] none [cb (decide (a=b))]:=by
 refine AC.aA (rs:=[.tmp 4]) aX Tryz.func32 (by rfl) (by rfl) (by rfl) (by rfl) (by rfl) ?_;have hla:=ha.1;have hlb:=hb.1;simp (disch:=omega) only[wt,seval];refine aQ (fun hz=>?_) (fun hz=>?_)
 ·simp (disch:=omega) only[wt,seval];exact(decide_eq_false (fun e=>hz (by rw[e]))).symm
 have hl:a.length=b.length:=by omega
 simp only[wt,seval];refine aH (fun f H=>∃ i:Nat,i≤a.length∧a.take i=b.take i∧f 0=.iv (.sl (kF a))∧f 1=.iv (.sl (kF b))∧f 5=.iv (.int .i64 i)) (fun f H=>(a.length-aY f 5).toNat) ?_ ?_
 ·exact⟨0,by omega,rfl,by simp only[wt,seval],by simp only[wt,seval],by simp only[wt,seval]⟩
 rintro f H ⟨i,hi,he,h0,h1,h5⟩;rw[aB h5];simp (disch:=omega) only[wt,seval,h0,h5];refine aQ (fun hlt=>?_) (fun hlt=>?_)
 ·simp (disch:=omega) only[wt,seval,h0,h1,h5];refine .inl ⟨aS (by kernel_rfl),?_⟩;refine ah ((CJ (a.getD i (false,[])) (b.getD i (false,[])) (ha.get i).1 (hb.get i).1)) (by rfl) (by simp) ?_;simp (disch:=omega) only[wt,seval];refine⟨bH (by kernel_rfl),?_⟩;by_cases hne:a.getD i (false,[])=b.getD i (false,[])
  ·simp (disch:=omega) only[wt,seval,h0,h1,h5,hne];refine⟨⟨i+1,by omega,?_,by omega⟩,by omega⟩;have hia:i<a.length:=by omega
   have hib:i<b.length:=by omega
   rw[List.take_add_one,List.take_add_one,he,List.getElem?_eq_getElem hia,List.getElem?_eq_getElem hib];have e1:a.getD i (false,[])=a[i]:=by simp[List.getD,hia]
   have e2:b.getD i (false,[])=b[i]:=by simp[List.getD,hib]
   rw[← e1,← e2,hne]
  ·simp (disch:=omega) only[wt,seval,hne];exact(decide_eq_false (fun e=>hne (by rw[e]))).symm
 ·simp (disch:=omega) only[wt,seval];rw[List.take_of_length_le (by omega),List.take_of_length_le (by omega)]at he;exact(decide_eq_true he).symm
def uP (f:Fr)(t:Nat):Nat:=match f t with
 | .iv (.sl rows)=>rows.length
 | _=>0
theorem Ky {f:Fr}{t:Nat}{rows:List (List IV)}(h:f t=.iv (.sl rows)):uP f t=rows.length:=by
 unfold uP;rw[h]
theorem Au (l:List RQ)(h:BQ (2^40) (2^38) l):AC Tryz.prog 8 [cqw l] none [cb (gd l)]:=by
 refine AC.aA (rs:=[.tmp 2]) aX Tryz.func8 (by rfl) (by rfl) (by rfl) (by rfl) (by rfl) ?_;have hl:=h.1;simp only[wt,seval];refine aH (fun f H=>∃ (i:Nat),i≤l.length∧(∀ j,j<i→nv (l.getD j q0).2≠0)∧f 3=.iv (.int .i64 i)∧f 0=.iv (.sl (fD l))) (fun f H=>(l.length-aY f 3).toNat) ?_ ?_
 ·refine⟨0,by omega,fun j hj=>by omega,?_⟩;simp only[wt,seval]
 rintro f H ⟨i,hi,hz,hF⟩;rw[aB hF.1];simp (disch:=omega) only[wt,seval,rqs,hF];refine aQ (fun hlt=>?_) (fun hlt=>?_)
 ·have hr:=h.get (i:=i) (by omega);simp (disch:=omega) only[wt,seval,rqs,hF];refine ah ((a7a (l.getD i q0) ⟨Nat.le_trans hr.2.1 (by omega),hr.2.2⟩)) (by rfl) (by simp) ?_;simp (disch:=omega) only[wt,seval];by_cases h0:nv (l.getD i q0).2=0
  ·have hb:gd l=false:=by
    cases hg:gd l with
    | false=>rfl
    | true=>exact(RU.mp hg _ (Bc (by omega)) h0).elim
   rw[hb];simp (disch:=omega) only[wt,seval,h0]
  ·simp (disch:=omega) only[wt,seval,hF,h0];refine⟨⟨i+1,by omega,fun j hj=>?_,by omega⟩,by omega⟩;rcases Nat.lt_or_ge j i with hj'|hj'
   ·exact hz j hj'
   ·obtain rfl:j=i:=by omega
    exact h0
 ·have hg:gd l=true:=RU.mpr fun r hr=>by
   obtain⟨j,hj,rfl⟩:=List.getElem_of_mem hr;have:=hz j (by omega);rwa [List.getD,List.getElem?_eq_getElem hj,Option.getD_some]at this
  rw[hg];simp (disch:=omega) only[wt,seval]
theorem iW {p:List RQ}(h:BQ (2^40) (2^40) p):AC Tryz.prog 26 [cqw p,cqw p] none [cb true]:=by
 have:=Vk p p h h;rwa [decide_eq_true rfl]at this
theorem gJ (p:List RQ)(h:GQ (2^40) (2^38) p):AC Tryz.prog 11 [cqw p] none [cqp (qvs p)]:=by
 refine AC.aA (rs:=[.tmp 2]) aX Tryz.func11 (by rfl) (by rfl) (by rfl) (by rfl) (by rfl) ?_;have hl:=h.1;have htl:=uM (qvs p);rw[gG]at htl;simp only[wt,seval];refine dS 3 3 32 3 (by simp only[wt,seval]) (fun f H=>∃ (i st:Nat),i≤p.length∧f 4=.iv (.int .i64 i)∧f 0=.iv (.sl (fD p))∧f 3=.hs 3 st∧H 3=.blk false st 32 3 (fD (((qvs p).take i).map aP))) (fun f H=>(p.length-aY f 4).toNat) ?_ ?_
 ·refine⟨0,1,by omega,?_⟩;simp only[wt,seval,rqs,fB,fM,List.take_zero]
 rintro f H ⟨i,st,hi,hF⟩;rw[aB hF.1];simp (disch:=omega) only[wt,seval,rqs,hF];refine aQ (fun hlt=>?_) (fun hlt=>?_)
 ·have hq:(((qvs p).take i).map aP).length=i:=by rw[List.length_map,List.length_take,gG];omega
  have hr:=h.get (i:=i) (by omega);have m:=Ot (p.getD i q0).1 (p.getD i q0).2 hr.1 hr.2 (h.den (by omega));rw[show mkRat (iv (p.getD i q0).1) (nv (p.getD i q0).2)=cfq (qvs p) i from (Ed p i).symm]at m;simp (disch:=omega) only[wt,seval,rqs,hF];refine .inl ⟨aS (by kernel_rfl),?_⟩;refine ah (m) (by rfl) (by simp) ?_;simp (disch:=omega) only[wt,seval,rqs,hF,hq];refine⟨bH (by kernel_rfl),?_⟩;have e:=fG (q:=qvs p) (i:=i) (by rw[gG];omega);refine⟨⟨i+1,st+1,by omega,?_⟩,by omega⟩;rw[e,List.map_append]
  (repeat' apply And.intro)<;>first|rfl|omega
 ·rw[List.take_of_length_le (by rw[gG];omega)]at hF;have hqq:=h.qb;have hqz:=fun i=>hqq.cz (k:=2^38) (by omega) i
  simp (disch:=omega) only[wt,seval];refine Jc (.iv 3 3 st false 32 3 (fD ((qvs p).map aP)) (by simp only[wt,seval,hF]) (by simp only[seval,hF]) (.refl _ _)) (fun f H=>∃ k:Nat,k≤p.length∧tzq ((qvs p).take k)=tzq (qvs p)∧f 0=.iv (.sl (fD p))∧f 3=.iv (.sl (fD (((qvs p).take k).map aP)))) (fun f H=>uP f 3) ?_ ?_
  ·refine⟨p.length,Nat.le_refl _,by rw[← gG p,List.take_length],?_⟩;rw[show (qvs p).take p.length=qvs p from List.take_of_length_le (by rw[gG];exact Nat.le_refl _)];simp only[wt,seval,hF]
  clear hF;rintro f H ⟨k,hk,ht,hF⟩;have hq:(((qvs p).take k).map aP).length=k:=by rw[List.length_map,List.length_take,gG];omega
  rw[Ky hF.2,AA,hq];by_cases hc:0<(k:Int)
  ·have ek:((k:Int)-1).toNat=k-1:=by omega
   have hg:(((qvs p).take k).map aP).getD (k-1) q0=aP (cfq (qvs p) (k-1)):=by
    simp[cfq,List.getD,show k-1<k by omega,show k-1<(qvs p).length by rw[gG];omega]
   have hs:=a9b (aP (cfq (qvs p) (k-1))) ((aZ (k:=2^40) (Nat.le_trans (hqz _) (by omega))).1);rw[a6z (bI _),dB]at hs;simp (disch:=omega) only[wt,seval,rqs,hF,hq,hc,ek,hg];refine ah (hs) (by rfl) (by simp) ?_;simp (disch:=omega) only[wt,seval];refine aQ (fun hz=>?_) (fun hz=>?_)
   ·have e2:(((qvs p).take k).map aP).take (k-1)=((qvs p).take (k-1)).map aP:=by
     rw[← List.map_take,List.take_take,Nat.min_eq_left (by omega)]
    have hq2:(((qvs p).take (k-1)).map aP).length=k-1:=by rw[List.length_map,List.length_take,gG];omega
    simp (disch:=omega) only[wt,seval,rqs,hF,hq,ek];refine⟨⟨k-1,by omega,?_,by rw[e2]⟩,?_⟩
    ·rw[← lJ (k:=k-1) (by rw[gG];omega) (C9.mp hz),show k-1+1=k by omega,ht]
    ·rw[Ky rfl,AA,e2,hq2];omega
   ·have hk:k=tzq (qvs p):=by
     have:=vT (q:=qvs p) (k:=k-1) (by rw[gG];omega) (fun e=>hz (C9.mpr e));rw[show k-1+1=k by omega,ht]at this;exact this.symm
    simp (disch:=omega) only[wt,seval,hF];rw[hk];rfl
  ·have hk:k=tzq (qvs p):=by
    obtain rfl:k=0:=by omega
    rw[← ht];rfl
   simp (disch:=omega) only[wt,seval,rqs,hF,hq,hc];rw[hk];rfl
theorem a6t (A:List Rat)(n:Int)(hl:A.length≤2^40):AC Tryz.prog 34 [cqw (A.map aP),ci n] none [cqz (if n<0 then 0 else cfq A n.toNat)]:=by
 have hq:(A.map aP).length=A.length:=List.length_map _;have z:=qX 0 1 (by omega) (by omega) (by omega) (by omega);rw[show ((0:Int):Rat)/((1:Nat):Rat)=0 by decide +kernel]at z;refine AC.aA (rs:=[.cell 4 32]) aX Tryz.func34 (by rfl) (by rfl) (by rfl) (by rfl) (by rfl) ?_;by_cases h0:n<0
 ·rw[if_pos h0];simp (disch:=omega) only[wt,seval,h0];refine ah (z) (by rfl) (by simp) ?_;simp (disch:=omega) only[wt,seval,rqs]
  try rfl
 ·rw[if_neg h0];obtain⟨i,rfl⟩:∃ i:Nat,n=i:=⟨n.toNat,by omega⟩;rw[Int.toNat_natCast];by_cases h1:i<A.length
  ·have h2:¬(A.length:Int)≤(i:Int):=by omega
   have e:=dR h1;simp (disch:=omega) only[wt,seval,rqs,h0,h2,hq,e]
   try rfl
  ·have h2:(A.length:Int)≤(i:Int):=by omega
   rw[eF (by omega)];simp (disch:=omega) only[wt,seval,rqs,h0,h2,hq];refine ah (z) (by rfl) (by simp) ?_;simp (disch:=omega) only[wt,seval,rqs]
   try rfl
theorem BP (A:List Rat)(i:Nat)(hl:A.length≤2^40):AC Tryz.prog 34 [cqw (A.map aP),ci i] none [cqz (cfq A i)]:=by
 have:=a6t A i hl;rwa [if_neg (by omega),Int.toNat_natCast]at this
theorem a1c:AC Tryz.prog 6 [] none [cb true]:=by
 have p1:=qX 1 2 (by omega) (by omega) (by omega) (by omega);have p2:=qX 1 1 (by omega) (by omega) (by omega) (by omega);have p3:=qX (-1) 2 (by omega) (by omega) (by omega) (by omega);have p4:=qX (-1) 4 (by omega) (by omega) (by omega) (by omega);have p5:=qX 0 1 (by omega) (by omega) (by omega) (by omega);rw[show ((1:Int):Rat)/((2:Nat):Rat)=mkRat 1 2 by decide +kernel]at p1;rw[show ((1:Int):Rat)/((1:Nat):Rat)=1 by decide +kernel]at p2;rw[show ((-1:Int):Rat)/((2:Nat):Rat)=mkRat (-1) 2 by decide +kernel]at p3;rw[show ((-1:Int):Rat)/((4:Nat):Rat)=mkRat (-1) 4 by decide +kernel]at p4;rw[show ((0:Int):Rat)/((1:Nat):Rat)=0 by decide +kernel]at p5;have b:∀ x∈[mkRat 1 2,(1:Rat),mkRat (-1) 2,mkRat (-1) 4,0],qz x≤1:=by decide +kernel
 have q1:QB 2 1 [mkRat 1 2,1]:=⟨by simp,fun c hc=>b c (by simp at hc ⊢;rcases hc with rfl|rfl<;>simp)⟩;have q2:QB 2 1 [mkRat (-1) 2,1]:=⟨by simp,fun c hc=>b c (by simp at hc ⊢;rcases hc with rfl|rfl<;>simp)⟩;have q3:QB 3 1 [mkRat (-1) 4,0,1]:=⟨by simp,fun c hc=>b c (by simp at hc ⊢;rcases hc with rfl|rfl|rfl<;>simp)⟩;have m:=a0m ([mkRat 1 2,1].map aP) ([mkRat (-1) 2,1].map aP) 2 1 q1.gq q2.gq (by omega) (by omega) (by omega);rw[gV,gV]at m;have e:cqs (iO [mkRat 1 2,1] [mkRat (-1) 2,1])=[mkRat (-1) 4,0,1].map aP:=by
  rw[cqs,show aI (iO [mkRat 1 2,1] [mkRat (-1) 2,1])=[mkRat (-1) 4,0,1] by decide +kernel]
 rw[show cqp (iO [mkRat 1 2,1] [mkRat (-1) 2,1])=cqw ([mkRat (-1) 4,0,1].map aP) from congrArg cqw e]at m;have s:=iW (q3.gq.bq.mono (n':=2^40) (k':=2^40) (by omega) (by omega));refine AC.aA (rs:=[.tmp 0]) aX Tryz.func6 (by rfl) (by rfl) (by rfl) (by rfl) (by rfl) ?_;simp only[wt,seval];refine ah (p1) (by rfl) (by simp) ?_;simp only[wt,seval];refine ah (p2) (by rfl) (by simp) ?_;simp (disch:=omega) only[wt,seval];refine ah (p3) (by rfl) (by simp) ?_;simp only[wt,seval];refine ah (p2) (by rfl) (by simp) ?_;simp (disch:=omega) only[wt,seval];refine ah (m) (by rfl) (by simp) ?_;simp (disch:=omega) only[wt,seval];refine ah (p4) (by rfl) (by simp) ?_;simp only[wt,seval];refine ah (p5) (by rfl) (by simp) ?_;simp only[wt,seval];refine ah (p2) (by rfl) (by simp) ?_;simp (disch:=omega) only[wt,seval];refine ah (s) (by rfl) (by simp) ?_;simp (disch:=omega) only[wt,seval]
 try rfl
end Go.Proofs.YtdpngipofekcfaaGreat
