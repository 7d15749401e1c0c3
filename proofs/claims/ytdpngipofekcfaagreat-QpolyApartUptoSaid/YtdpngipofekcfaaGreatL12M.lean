/-
 Contracts of the functions that the law reaches.
-/
import Derived.Test.YtdpngipofekcfaaGreatL1M
import Derived.Test.YtdpngipofekcfaaGreatAbsRM
import Derived.Test.YtdpngipofekcfaaGreatAbsQM
set_option maxHeartbeats 2000000
namespace Go.Proofs.YtdpngipofekcfaaGreat
open Go Go.Proofs Go.AL
set_option linter.unusedSimpArgs false
set_option linter.unusedVariables false
def cn (q:List Int):List RI:=(dJ q).map canon
theorem a8G {n k:Nat}{q:List Int}(h:PB n k q):RP n k (cn q):=RP.canon h.dJ
theorem Yj:canon 1=(false,[1]):=by
 have:wd 1=[1]:=by rw[wd,DW (by decide) (by decide)];rw[show 1/W=0 by decide,oL];rfl
 simp only[canon,Int.natAbs_one,this];rfl
abbrev cd (l:List Nat):CV:=.iv (.sl (nums l))
theorem mP (d:List Nat)(i:Nat)(hl:d.length≤2^43):AC Tryz.prog 280 [cd d,ci i] none [ci (d.getD i 0:Nat)]:=by
 refine AC.aA (rs:=[.tmp 4]) aX Tryz.func280 (by rfl) (by rfl) (by rfl) (by rfl) (by rfl) ?_;simp (disch:=omega) only[wt,seval];refine aQ (fun h=>?_) (fun h=>?_)
 ·simp (disch:=omega) only[wt,seval]
 ·simp (disch:=omega) only[wt,seval];rw[List.getD_eq_getElem?_getD,List.getElem?_eq_none (by omega)];rfl
theorem GV (l:List Nat)(hl:l.length≤2^43):AC Tryz.prog 201 [cd l] none [cd (l.take (jk l))]:=by
 refine AC.aA (rs:=[.tmp 2]) aX Tryz.func201 (by rfl) (by rfl) (by rfl) (by rfl) (by rfl) ?_;simp (disch:=omega) only[wt,seval];have htl:=oC l;refine aH (fun f H=>∃ k:Nat,k≤l.length∧f 0=.iv (.sl (nums l))∧f 3=.iv (.int .i64 k)∧jk (l.take k)=jk l) (fun f H=>(aY f 3).toNat) ?_ ?_
 ·exact⟨l.length,Nat.le_refl _,by simp only[wt,seval],by simp only[wt,seval],by rw[List.take_length]⟩
 rintro f H ⟨k,hk,h0,h3,ht⟩;rw[aB h3];by_cases hc:0<(k:Int)
 ·simp (disch:=omega) only[wt,seval,h0,h3,hc];rw[show ((k:Int)-1).toNat=k-1 by omega];refine aQ (fun hz=>?_) (fun hz=>?_)
  ·simp (disch:=omega) only[wt,seval,h0,h3];refine⟨⟨k-1,by omega,by omega,?_⟩,by omega⟩;have e:k=(k-1)+1:=by omega
   rw[← kV (k:=k-1) (by omega) (by exact_mod_cast hz),← e,ht]
  ·simp (disch:=omega) only[wt,seval,h0,h3];have e:=vV (l:=l) (k:=k-1) (by omega) (by exact_mod_cast hz);rw[show k-1+1=k by omega,ht]at e;rw[e]
 ·simp (disch:=omega) only[wt,seval,h0,h3,hc];obtain rfl:k=0:=by omega
  rw[← ht];rfl
theorem TT (a:List Nat)(h:Lim a)(hl:a.length≤2^40):AC Tryz.prog 262 [cl a] none [cd (dd a)]:=by
 refine AC.aA (rs:=[.tmp 2]) aX Tryz.func262 (by rfl) (by rfl) (by rfl) (by rfl) (by rfl) ?_;simp only[wt,seval];refine dS 3 3 3 1 (by simp only[wt,seval]) (fun f H=>∃ (i st:Nat),i≤a.length∧f 0=.iv (.sl (bW a))∧f 3=.hs 3 st∧f 4=.iv (.int .i64 i)∧H 3=.blk false st 3 1 (nums (dd (a.take i)))) (fun f H=>(a.length-aY f 4).toNat) ?_ ?_
 ·refine⟨0,1,by omega,?_⟩;simp only[wt,seval,fB,fM,List.take_zero];rfl
 rintro f H ⟨i,st,hi,h0,h3,h4,hH⟩;rw[aB h4];simp (disch:=omega) only[wt,seval,h0,h4];refine aQ (fun hlt=>?_) (fun hlt=>?_)
 ·simp (disch:=omega) only[wt,seval,h0,h4];refine aH (fun f H=>∃ (k st:Nat),k≤4∧f 0=.iv (.sl (bW a))∧f 3=.hs 3 st∧f 4=.iv (.int .i64 i)∧f 5=.iv (.int .u64 (a.getD i 0/D16^k:Nat))∧f 6=.iv (.int .i64 k)∧H 3=.blk false st 3 1 (nums (dd (a.take i)++dn k (a.getD i 0)))) (fun f H=>(4-aY f 6).toNat) ?_ ?_
  ·refine⟨0,st,by omega,by simp only[wt,seval,h0],by simp only[wt,seval,h3],by simp only[wt,seval,h4],by simp only[wt,seval,Nat.pow_zero,Nat.div_one],by simp only[wt,seval],by simp only[seval,hH];rw[show dn 0 (a.getD i 0)=[] from rfl,List.append_nil]⟩
  have hai:=h.get i;clear h0 h3 h4 hH;clear st f H;rintro f H ⟨k,st,hk,h0,h3,h4,h5,h6,hH⟩;rw[aB h6];simp (disch:=omega) only[wt,seval,h6];refine aQ (fun hlk=>?_) (fun hlk=>?_)
  ·have hl1:(dd (a.take i)).length=4*i:=by rw[Y4,List.length_take,Nat.min_eq_left (by omega)]
   have hl2:(dn k (a.getD i 0)).length=k:=sF _ _;simp (disch:=omega) only[wt,seval,h0,h3,h4,h5,h6,hH,hl1,hl2];refine⟨⟨k+1,st+1,by omega,rfl,?_,by omega,?_⟩,by omega⟩
   ·rw[Nat.pow_succ,← Nat.div_div_eq_div_mul];exact eX (Nat.lt_of_le_of_lt (Nat.le_trans (Nat.div_le_self _ _) (Nat.div_le_self _ _)) hai)
   ·rw[Y1,List.append_assoc]
  ·simp (disch:=omega) only[wt,seval,h0,h3,h4,hH];have hk4:k=4:=by omega
   subst hk4;refine⟨⟨i+1,st,by omega,rfl,by omega,?_⟩,by omega⟩;rw[MJ a (by omega)]
 ·simp (disch:=omega) only[wt,seval,h3,hH];rw[show i=a.length by omega,List.take_length]
theorem VJ (d:List Nat)(n:Nat)(h:Dig d)(hl:d.length≤2^43)(hn:n≤2^41):AC Tryz.prog 249 [cd d,ci n] none [cl (pad n (vl D16 (d.take (4*n))))]:=by
 refine AC.aA (rs:=[.tmp 4]) aX Tryz.func249 (by rfl) (by rfl) (by rfl) (by rfl) (by rfl) ?_;simp (disch:=omega) only[wt,seval];refine aH (fun f H=>∃ (i st:Nat) (out:List Nat),i≤n∧out.length=n∧Lim out∧nv (out.take i)=vl D16 (d.take (4*i))∧(∀ k,i≤k→out.getD k 0=0)∧f 0=.iv (.sl (nums d))∧f 1=.iv (.int .i64 n)∧f 5=.hs 9 st∧f 6=.iv (.int .i64 i)∧H 9=.blk false st 148 1 (bW out)) (fun f H=>(n-aY f 6).toNat) ?_ ?_
 ·refine⟨0,1,List.replicate n 0,by omega,by simp,Lim.replicate n,by simp[vl],fun k _=>?_,by simp only[wt,seval],by simp only[wt,seval],by simp only[wt,seval],by simp only[wt,seval],by simp only[wt,seval]⟩;rw[List.getD_eq_getElem?_getD,List.getElem?_replicate];split<;>rfl
 rintro f H ⟨i,st,out,hi,hol,hO,hv,hz,h0,h1,h5,h6,hH⟩;rw[aB h6];simp (disch:=omega) only[wt,seval,h1,h6];refine aQ (fun hlt=>?_) (fun hlt=>?_)
 ·simp (disch:=omega) only[wt,seval];refine aH (fun f H=>∃ (j st:Nat) (out:List Nat),j≤4∧out.length=n∧Lim out∧nv (out.take i)=vl D16 (d.take (4*i))∧(∀ k,i+1≤k→out.getD k 0=0)∧out.getD i 0=vl D16 ((four d i).drop j) ∧
   f 0=.iv (.sl (nums d))∧f 1=.iv (.int .i64 n)∧f 5=.hs 9 st∧f 6=.iv (.int .i64 i)∧f 7=.iv (.int .i64 ((j:Int)-1))∧H 9=.blk false st 148 1 (bW out)) (fun f H=>(1+aY f 7).toNat) ?_ ?_
  ·refine⟨4,st,out,by omega,hol,hO,hv,fun k hk=>hz k (by omega),hz i (by omega),by simp only[wt,seval,h0],by simp only[wt,seval,h1],by simp only[wt,seval,h5],by simp only[wt,seval,h6],(by simp only[wt,seval]<;>rfl),by simp only[seval,hH]⟩
  clear h0 h1 h5 h6 hH hz hv hO hol;clear st out f H;rintro f H ⟨j,st,out,hj,hol,hO,hv,hz,hi4,h0,h1,h5,h6,h7,hH⟩;rw[aB h7];by_cases hlj:(0:Int)≤(j:Int)-1
  ·simp (disch:=omega) only[wt,seval,h0,h5,h6,h7,hH,hlj];have e1:((4:Int)*(i:Int)+((j:Int)-1))=((4*i+(j-1):Nat):Int):=by omega
   rw[e1];refine .inl ⟨aS (by kernel_rfl),?_⟩;refine ah ((mP d (4*i+(j-1)) (by omega))) (by rfl) (by simp) ?_;simp (disch:=omega) only[wt,seval,h0,h1,h5,h6,h7,hH];have hd:=h.get (4*i+(j-1));have hb:=LZ h i (j-1);have hf:=XU d i (j:=j-1) (by omega);rw[show j-1+1=j by omega]at hb hf;rw[← hi4]at hb hf;have hw:IntKind.u64.wrap (IntKind.u64.wrap ((out.getD i 0:Nat)*65536:Int)+IntKind.u64.wrap (d.getD (4*i+(j-1)) 0:Nat))=((out.getD i 0*65536+d.getD (4*i+(j-1)) 0:Nat):Int):=by
    rw[wrap_u64 (n:=((out.getD i 0:Nat)*65536:Int)) (by omega),wrap_u64 (n:=(d.getD (4*i+(j-1)) 0:Nat)) (by simp only[D16]at hd;omega),wrap_u64 (by simp only[D16]at hd;omega)];omega
   rw[hw,AY];refine⟨bH (by kernel_rfl),?_⟩;refine⟨⟨j-1,st,out.set i (out.getD i 0*65536+d.getD (4*i+(j-1)) 0),by omega,by simp[hol],hO.set (by simp only[D16,W]at *;omega),?_,fun k hk=>?_,?_,rfl,by omega,rfl⟩,by omega⟩
   ·rw[List.take_set_of_le (Nat.le_refl _)];exact hv
   ·have:=hz k hk;simp only[List.getD,List.getElem?_set,if_neg (show ¬i=k by omega)]at this ⊢;exact this
   ·rw[hf];have hio:i<out.length:=by omega
    have e:∀ x,(out.set i x).getD i 0=x:=fun x=>by simp[List.getD,hio]
    rw[e];simp only[D16];omega
  ·simp (disch:=omega) only[wt,seval,h0,h1,h5,h6,h7,hH,hlj];have hj0:j=0:=by omega
   subst hj0;refine⟨⟨i+1,st,out,by omega,hol,hO,?_,hz,rfl,by omega,rfl⟩,by omega⟩;have:=aJ W out i;simp only[nv]at hv ⊢;rw[this,hv,hi4,a3o];rfl
 ·simp (disch:=omega) only[wt,seval,h5,hH];have hin:i=n:=by omega
  subst hin;rw[List.take_of_length_le (by omega)]at hv;rw[← hv,← mZ hO hol (s:=nv out) (by have:=iJ hO;rw[hol]at this;rw[Nat.mod_eq_of_lt this])]
theorem jQ (d:List Nat)(h:Dig d)(hl:d.length≤2^42):AC Tryz.prog 177 [cd d] none [cl (wd (vl D16 d))]:=by
 refine AC.aA (rs:=[.tmp 2]) aX Tryz.func177 (by rfl) (by rfl) (by rfl) (by rfl) (by rfl) ?_;have hlen:(dgD (vl D16 d)).length≤d.length:=by rw[← MH h,List.length_take];omega
 simp only[wt,seval];have c1:=GV d (by omega);rw[MH h]at c1;have e:((dgD (vl D16 d)).length+3:Int).tdiv 4=(((dgD (vl D16 d)).length+3)/4:Nat):=by rw[Int.tdiv_eq_ediv_of_nonneg (by omega)];omega
 refine ah (c1) (by rfl) (by simp) ?_;simp (disch:=omega) only[wt,seval,e];have:=VJ (dgD (vl D16 d)) (((dgD (vl D16 d)).length+3)/4) (eU _) (by omega) (by omega);rw[List.take_of_length_le (by omega),fK,a6J]at this;refine ah (this) (by rfl) (by simp) ?_;simp (disch:=omega) only[wt,seval]
theorem jW (a:List Nat)(h:Lim a)(hl:a.length≤2^40):AC Tryz.prog 200 [cl a] none [cd (dgD (nv a))]:=by
 refine AC.aA (rs:=[.tmp 2]) aX Tryz.func200 (by rfl) (by rfl) (by rfl) (by rfl) (by rfl) ?_;simp only[wt,seval];refine ah ((TT a h hl)) (by rfl) (by simp) ?_;simp only[wt,seval];have:=GV (dd a) (by rw[Y4];omega);rw[a2M h]at this;refine ah (this) (by rfl) (by simp) ?_;simp (disch:=omega) only[wt,seval]
theorem ZT (a:List Nat)(h:Lim a)(hl:a.length≤2^40):AC Tryz.prog 203 [cl a] none [cl (wd (nv a))]:=by
 refine AC.aA (rs:=[.tmp 2]) aX Tryz.func203 (by rfl) (by rfl) (by rfl) (by rfl) (by rfl) ?_;simp only[wt,seval];refine ah ((jW a h hl)) (by rfl) (by simp) ?_;simp only[wt,seval];have:=jQ (dgD (nv a)) (eU _) (by have:=kR h;omega);rw[fK]at this;refine ah (this) (by rfl) (by simp) ?_;simp (disch:=omega) only[wt,seval]
theorem yK (s:Bool)(a:List Nat)(h:Lim a)(hl:a.length≤2^40):AC Tryz.prog 114 [cb s,cl a] none [cz (sg s (nv a))]:=by
 refine AC.aA (rs:=[.cell 4 30]) aX Tryz.func114 (by rfl) (by rfl) (by rfl) (by rfl) (by rfl) ?_;simp (disch:=omega) only[wt,seval];refine ah ((ZT a h hl)) (by rfl) (by simp) ?_;simp (disch:=omega) only[wt,seval];have hz:(0<((wd (nv a)).length:Int))↔nv a≠0:=by have:=fC (n:=nv a);omega
 cases s
 ·simp (disch:=omega) only[wt,seval];rw[uG];rfl
 ·simp (disch:=omega) only[wt,seval];rw[uG];have h':decide (0<(wd (nv a)).length)=decide (nv a≠0):=by rw[decide_eq_decide];omega
  simp[lQ,splice,h']
theorem tK (n:Nat)(hn:n<9223372036854775808):AC Tryz.prog 83 [ci n] none [cl (wd n)]:=by
 refine AC.aA (rs:=[.tmp 2]) aX Tryz.func83 (by rfl) (by rfl) (by rfl) (by rfl) (by rfl) ?_;simp (disch:=omega) only[wt,seval];have hd:Dig [n%65536,n/65536%65536,n/65536/65536%65536,n/65536/65536/65536]:=by
  intro x hx;simp only[List.mem_cons,List.not_mem_nil,or_false]at hx;simp only[D16];omega
 have e:vl D16 [n%65536,n/65536%65536,n/65536/65536%65536,n/65536/65536/65536]=n:=by
  simp only[vl,D16];omega
 have:=jQ _ hd (by simp);rw[e]at this;refine ah (this) (by rfl) (by simp) ?_;simp (disch:=omega) only[wt,seval]
theorem a8H (n:Int)(h : -9223372036854775808<n)(h':n<9223372036854775808):AC Tryz.prog 79 [ci n] none [cz n]:=by
 refine AC.aA (rs:=[.cell 2 30]) aX Tryz.func79 (by rfl) (by rfl) (by rfl) (by rfl) (by rfl) ?_;have hl:(wd n.natAbs).length≤1:=bT.mpr (by simp only[W];omega);simp (disch:=omega) only[wt,seval];refine aQ (fun hn=>?_) (fun hn=>?_)
 ·simp (disch:=omega) only[wt,seval];have e1:(0:Int)-n=(n.natAbs:Int):=by omega
  rw[e1];refine ah ((tK n.natAbs (by omega))) (by rfl) (by simp) ?_;simp only[wt,seval];have e:sg true n.natAbs=n:=by unfold sg;simp;omega
  have:=yK true (wd n.natAbs) (aO _) (by omega);rw[bC,e]at this;refine ah (this) (by rfl) (by simp) ?_;simp (disch:=omega) only[wt,seval]
 ·simp only[wt,seval];have e1:n=(n.natAbs:Int):=by omega
  have c1:=tK n.natAbs (by omega);rw[← e1]at c1;refine ah (c1) (by rfl) (by simp) ?_;simp only[wt,seval];have e:sg false n.natAbs=n:=by unfold sg;simp;omega
  have:=yK false (wd n.natAbs) (aO _) (by omega);rw[bC,e]at this;refine ah (this) (by rfl) (by simp) ?_;simp (disch:=omega) only[wt,seval]
theorem QI (a:List Nat)(h:Lim a)(hl:a.length≤2^40):AC Tryz.prog 176 [cl a] none [cb (decide (nv a=0))]:=by
 refine AC.aA (rs:=[.tmp 2]) aX Tryz.func176 (by rfl) (by rfl) (by rfl) (by rfl) (by rfl) ?_;simp only[wt,seval];refine ah ((jW a h hl)) (by rfl) (by simp) ?_;simp (disch:=omega) only[wt,seval];have:=o9 (n:=nv a);rw[decide_eq_decide];omega
theorem a0g (c:RI)(h:Sz (2^40) c):AC Tryz.prog 180 [cr c] none [ci (iv c).sign]:=by
 refine AC.aA (rs:=[.tmp 2]) aX Tryz.func180 (by rfl) (by rfl) (by rfl) (by rfl) (by rfl) ?_;simp (disch:=omega) only[wt,seval];refine ah ((QI c.2 h.2 h.1)) (by rfl) (by simp) ?_;simp only[wt,seval];refine aQ (fun hz=>?_) (fun hz=>?_)
 ·simp (disch:=omega) only[wt,seval];unfold iv;rw[hz];split<;>rfl
 ·simp (disch:=omega) only[wt,seval];refine P8 (fun hs=>?_) (fun hs=>?_)
  ·simp (disch:=omega) only[wt,seval];unfold iv;rw[if_pos hs];exact(Int.sign_eq_neg_one_of_neg (by omega)).symm
  ·simp (disch:=omega) only[wt,seval];unfold iv;rw[hs];exact(Int.sign_eq_one_of_pos (by simp;omega)).symm
theorem ZO (a b:List Nat)(hla:a.length≤2^43)(hlb:b.length≤2^43):AC Tryz.prog 118 [cl a,cl b] none [cb (decide (a=b))]:=by
 refine AC.aA (rs:=[.tmp 4]) aX Tryz.func118 (by rfl) (by rfl) (by rfl) (by rfl) (by rfl) ?_;simp (disch:=omega) only[wt,seval];refine aQ (fun hz=>?_) (fun hz=>?_)
 ·simp (disch:=omega) only[wt,seval];exact(decide_eq_false (fun e=>hz (by rw[e]))).symm
 have hl:a.length=b.length:=by omega
 simp only[wt,seval];refine aH (fun f H=>∃ i:Nat,i≤a.length∧a.take i=b.take i∧f 0=.iv (.sl (bW a))∧f 1=.iv (.sl (bW b))∧f 5=.iv (.int .i64 i)) (fun f H=>(a.length-aY f 5).toNat) ?_ ?_
 ·exact⟨0,by omega,rfl,by simp only[wt,seval],by simp only[wt,seval],by simp only[wt,seval]⟩
 rintro f H ⟨i,hi,he,h0,h1,h5⟩;rw[aB h5];simp (disch:=omega) only[wt,seval,h0,h5];refine aQ (fun hlt=>?_) (fun hlt=>?_)
 ·simp (disch:=omega) only[wt,seval,h0,h1,h5];refine .inl ⟨aS (by kernel_rfl),?_⟩;refine⟨bH (by kernel_rfl),?_⟩;refine aQ (fun hne=>?_) (fun hne=>?_)
  ·simp (disch:=omega) only[wt,seval];exact(decide_eq_false (fun e=>hne (by rw[e]))).symm
  ·simp (disch:=omega) only[wt,seval,h0,h1,h5];refine⟨⟨i+1,by omega,?_,by omega⟩,by omega⟩;have h1:a.getD i 0=b.getD i 0:=by omega
   have hia:i<a.length:=by omega
   have hib:i<b.length:=by omega
   rw[List.take_add_one,List.take_add_one,he,List.getElem?_eq_getElem hia,List.getElem?_eq_getElem hib];have e1:a.getD i 0=a[i]:=by simp[List.getD,hia]
   have e2:b.getD i 0=b[i]:=by simp[List.getD,hib]
   rw[← e1,← e2,h1]
 ·simp (disch:=omega) only[wt,seval];rw[List.take_of_length_le (by omega),List.take_of_length_le (by omega)]at he;exact(decide_eq_true he).symm
theorem GY (a b:List Nat)(hla:a.length≤2^43)(hlb:b.length≤2^43):AC Tryz.prog 31 [cl a,cl b] none [cb (decide (a=b))]:=by
 refine AC.aA (rs:=[.tmp 4]) aX Tryz.func31 (by rfl) (by rfl) (by rfl) (by rfl) (by rfl) ?_;simp only[wt,seval];refine ah ((ZO a b hla hlb)) (by rfl) (by simp) ?_;simp (disch:=omega) only[wt,seval]
theorem CJ (a b:RI)(hla:a.2.length≤2^43)(hlb:b.2.length≤2^43):AC Tryz.prog 47 [cr a,cr b] none [cb (decide (a=b))]:=by
 refine AC.aA (rs:=[.tmp 4]) aX Tryz.func47 (by rfl) (by rfl) (by rfl) (by rfl) (by rfl) ?_;cases hb:(a.1 == b.1)
 ·simp (disch:=omega) only[wt,seval,hb];exact(decide_eq_false (fun e=>by rw[e]at hb;simp at hb)).symm
 ·simp (disch:=omega) only[wt,seval,hb];refine ah ((GY a.2 b.2 hla hlb)) (by rfl) (by simp) ?_;simp (disch:=omega) only[wt,seval];have hb:a.1=b.1:=by simpa using hb
  rw[decide_eq_decide];exact⟨fun h=>Prod.ext hb h,fun h=>by rw[h]⟩

def Raw (p:List RI):Prop:=p.length≤9223372036854775807∧∀ c∈p,Sz (9223372036854775807) c
end Go.Proofs.YtdpngipofekcfaaGreat
