/-
 Contracts of the functions that the law reaches.
-/
import Derived.Test.YtnjaeokkfbihlaaGreatL1M
import Derived.Test.YtnjaeokkfbihlaaGreatAbsRM
import Derived.Test.YtnjaeokkfbihlaaGreatAbsPM
set_option maxHeartbeats 2000000
namespace Go.Proofs.YtnjaeokkfbihlaaGreat
open Go Go.Proofs Go.AL
set_option linter.unusedSimpArgs false
set_option linter.unusedVariables false
def cn (q:List Int):List RI:=(trimz q).map canon
theorem rp_cn {n k:Nat}{q:List Int}(h:PB n k q):RP n k (cn q):=RP.canon h.trimz
abbrev cd (l:List Nat):CV:=.iv (.sl (nums l))
theorem rdigit_ok (d:List Nat)(i:Nat)(hl:d.length<=2^43):AC Tryz.prog 118 [cd d,ci i] none [ci (d.getD i 0:Nat)]:=by
 refine AC.by_walk (rs:=[.tmp 4]) ords Tryz.func118 (by rfl) (by rfl) (by rfl) (by rfl) (by rfl) ?_;simp (disch:=omega) only[wt,seval,reduceCtorEq,Nat.reduceEqDiff];refine if_by (λh=>?_) (λh=>?_)
 .simp (disch:=omega) only[wt,seval,reduceCtorEq,Nat.reduceEqDiff]
 .simp (disch:=omega) only[wt,seval,reduceCtorEq,Nat.reduceEqDiff];rw[List.getD_eq_getElem?_getD,List.getElem?_eq_none (by omega)];rfl
theorem rcut_ok (l:List Nat)(hl:l.length<=2^43):AC Tryz.prog 99 [cd l] none [cd (l.take (topN l))]:=by
 refine AC.by_walk (rs:=[.tmp 2]) ords Tryz.func99 (by rfl) (by rfl) (by rfl) (by rfl) (by rfl) ?_;simp (disch:=omega) only[wt,seval,reduceCtorEq,Nat.reduceEqDiff];have htl:=topN_le l;refine aloop_by (λf H=>∃k:Nat,k<=l.length/\f 0=.iv (.sl (nums l))/\f 3=.iv (.int .i64 k)/\topN (l.take k)=topN l) (λf H=>(intAt f 3).toNat) ?_ ?_
 .exact⟨l.length,Nat.le_refl _,by simp (disch:=omega) only[wt,seval,reduceCtorEq,Nat.reduceEqDiff],by simp (disch:=omega) only[wt,seval,reduceCtorEq,Nat.reduceEqDiff],by rw[List.take_length]⟩
 rintro f H ⟨k,hk,h0,h3,ht⟩;rw[intAt_of h3];by_cases hc:0<(k:Int)
 .simp (disch:=omega) only[wt,seval,reduceCtorEq,Nat.reduceEqDiff,h0,h3,hc];rw[show ((k:Int)-1).toNat=k-1 by omega];refine if_by (λhz=>?_) (λhz=>?_)
  .simp (disch:=omega) only[wt,seval,reduceCtorEq,Nat.reduceEqDiff,h0,h3];refine⟨⟨k-1,by omega,by omega,?_⟩,by omega⟩;have e:k=(k-1)+1:=by omega
   rw[<-topN_take_zero (k:=k-1) (by omega) (by exact_mod_cast hz),<-e,ht]
  .simp (disch:=omega) only[wt,seval,reduceCtorEq,Nat.reduceEqDiff,h0,h3];have e:=topN_full (l:=l) (k:=k-1) (by omega) (by exact_mod_cast hz);rw[show k-1+1=k by omega,ht]at e;rw[e]
 .simp (disch:=omega) only[wt,seval,reduceCtorEq,Nat.reduceEqDiff,h0,h3,hc];obtain rfl:k=0:=by omega
  rw[<-ht];rfl
theorem rdigits_ok (a:List Nat)(h:Lim a)(hl:a.length<=2^40):AC Tryz.prog 105 [cl a] none [cd (dd a)]:=by
 refine AC.by_walk (rs:=[.tmp 2]) ords Tryz.func105 (by rfl) (by rfl) (by rfl) (by rfl) (by rfl) ?_;simp (disch:=omega) only[wt,seval,reduceCtorEq,Nat.reduceEqDiff];refine aloop_nil 3 3 3 1 (by simp (disch:=omega) only[wt,seval,reduceCtorEq,Nat.reduceEqDiff]) (λf H=>∃(i st:Nat),i<=a.length/\f 0=.iv (.sl (lims a))/\f 3=.hs 3 st/\f 4=.iv (.int .i64 i)/\H 3=.blk false st 3 1 (nums (dd (a.take i)))) (λf H=>(a.length-intAt f 4).toNat) ?_ ?_
 .refine⟨0,1,by omega,?_⟩;simp (disch:=omega) only[wt,seval,reduceCtorEq,Nat.reduceEqDiff,ghostF,ghostH,List.take_zero];rfl
 rintro f H ⟨i,st,hi,h0,h3,h4,hH⟩;rw[intAt_of h4];simp (disch:=omega) only[wt,seval,reduceCtorEq,Nat.reduceEqDiff,h0,h3,h4,hH];refine if_by (λhlt=>?_) (λhlt=>?_)
 .simp (disch:=omega) only[wt,seval,reduceCtorEq,Nat.reduceEqDiff,h0,h3,h4,hH];refine aloop_by (λf H=>∃(k st:Nat),k<=4/\f 0=.iv (.sl (lims a))/\f 3=.hs 3 st/\f 4=.iv (.int .i64 i)/\f 5=.iv (.int .u64 (a.getD i 0/D16^k:Nat))/\f 6=.iv (.int .i64 k)/\H 3=.blk false st 3 1 (nums (dd (a.take i)++dn k (a.getD i 0)))) (λf H=>(4-intAt f 6).toNat) ?_ ?_
  .refine⟨0,st,by omega,by simp (disch:=omega) only[wt,seval,reduceCtorEq,Nat.reduceEqDiff,h0],by simp (disch:=omega) only[wt,seval,reduceCtorEq,Nat.reduceEqDiff,h3],by simp (disch:=omega) only[wt,seval,reduceCtorEq,Nat.reduceEqDiff,h4],by simp (disch:=omega) only[wt,seval,reduceCtorEq,Nat.reduceEqDiff,Nat.pow_zero,Nat.div_one],by simp (disch:=omega) only[wt,seval,reduceCtorEq,Nat.reduceEqDiff],by simp (disch:=omega) only[wt,seval,reduceCtorEq,Nat.reduceEqDiff,hH];rw[show dn 0 (a.getD i 0)=[] from rfl,List.append_nil]⟩
  have hai:=h.get i;clear h0 h3 h4 hH;clear st f H;rintro f H ⟨k,st,hk,h0,h3,h4,h5,h6,hH⟩;rw[intAt_of h6];simp (disch:=omega) only[wt,seval,reduceCtorEq,Nat.reduceEqDiff,h0,h3,h4,h5,h6,hH];refine if_by (λhlk=>?_) (λhlk=>?_)
  .have hl1:(dd (a.take i)).length=4*i:=by rw[dd_len,List.length_take,Nat.min_eq_left (by omega)]
   have hl2:(dn k (a.getD i 0)).length=k:=dn_len _ _;simp (disch:=omega) only[wt,seval,reduceCtorEq,Nat.reduceEqDiff,h0,h3,h4,h5,h6,hH,hl1,hl2];refine⟨⟨k+1,st+1,by omega,rfl,?_,by omega,?_⟩,by omega⟩
   .rw[Nat.pow_succ,<-Nat.div_div_eq_div_mul];exact wrap_nat (Nat.lt_of_le_of_lt (Nat.le_trans (Nat.div_le_self _ _) (Nat.div_le_self _ _)) hai)
   .rw[dn_succ,List.append_assoc]
  .simp (disch:=omega) only[wt,seval,reduceCtorEq,Nat.reduceEqDiff,h0,h3,h4,h5,h6,hH];have hk4:k=4:=by omega
   subst hk4;refine⟨⟨i+1,st,by omega,rfl,by omega,?_⟩,by omega⟩;rw[dd_take_succ a (by omega)]
 .simp (disch:=omega) only[wt,seval,reduceCtorEq,Nat.reduceEqDiff,h0,h3,h4,hH];rw[show i=a.length by omega,List.take_length]
theorem rwords_ok (d:List Nat)(n:Nat)(h:Dig d)(hl:d.length<=2^43)(hn:n<=2^41):AC Tryz.prog 100 [cd d,ci n] none [cl (pad n (vl D16 (d.take (4*n))))]:=by
 refine AC.by_walk (rs:=[.tmp 4]) ords Tryz.func100 (by rfl) (by rfl) (by rfl) (by rfl) (by rfl) ?_;simp (disch:=omega) only[wt,seval,reduceCtorEq,Nat.reduceEqDiff];refine aloop_by (λf H=>∃(i st:Nat) (out:List Nat),i<=n/\out.length=n/\Lim out/\nv (out.take i)=vl D16 (d.take (4*i))/\(∀k,i<=k->out.getD k 0=0)/\f 0=.iv (.sl (nums d))/\f 1=.iv (.int .i64 n)/\f 5=.hs 9 st/\f 6=.iv (.int .i64 i)/\H 9=.blk false st 92 1 (lims out)) (λf H=>(n-intAt f 6).toNat) ?_ ?_
 .refine⟨0,1,List.replicate n 0,by omega,by simp,Lim.replicate n,by simp[vl],λk _=>?_,by simp (disch:=omega) only[wt,seval,reduceCtorEq,Nat.reduceEqDiff],by simp (disch:=omega) only[wt,seval,reduceCtorEq,Nat.reduceEqDiff],by simp (disch:=omega) only[wt,seval,reduceCtorEq,Nat.reduceEqDiff],by simp (disch:=omega) only[wt,seval,reduceCtorEq,Nat.reduceEqDiff],by simp (disch:=omega) only[wt,seval,reduceCtorEq,Nat.reduceEqDiff,Int.toNat_natCast]⟩;rw[List.getD_eq_getElem?_getD,List.getElem?_replicate];split<;>rfl
 rintro f H ⟨i,st,out,hi,hol,hO,hv,hz,h0,h1,h5,h6,hH⟩;rw[intAt_of h6];simp (disch:=omega) only[wt,seval,reduceCtorEq,Nat.reduceEqDiff,h0,h1,h5,h6,hH];refine if_by (λhlt=>?_) (λhlt=>?_)
 .simp (disch:=omega) only[wt,seval,reduceCtorEq,Nat.reduceEqDiff,h0,h1,h5,h6,hH];refine aloop_by (λf H=>∃(j st:Nat) (out:List Nat),j<=4/\out.length=n/\Lim out/\nv (out.take i)=vl D16 (d.take (4*i))/\(∀k,i+1<=k->out.getD k 0=0)/\out.getD i 0=vl D16 ((four d i).drop j) /\
   f 0=.iv (.sl (nums d))/\f 1=.iv (.int .i64 n)/\f 5=.hs 9 st/\f 6=.iv (.int .i64 i)/\f 7=.iv (.int .i64 ((j:Int)-1))/\H 9=.blk false st 92 1 (lims out)) (λf H=>(1+intAt f 7).toNat) ?_ ?_
  .refine⟨4,st,out,by omega,hol,hO,hv,λk hk=>hz k (by omega),hz i (by omega),by simp (disch:=omega) only[wt,seval,reduceCtorEq,Nat.reduceEqDiff,h0],by simp (disch:=omega) only[wt,seval,reduceCtorEq,Nat.reduceEqDiff,h1],by simp (disch:=omega) only[wt,seval,reduceCtorEq,Nat.reduceEqDiff,h5],by simp (disch:=omega) only[wt,seval,reduceCtorEq,Nat.reduceEqDiff,h6],(by simp (disch:=omega) only[wt,seval,reduceCtorEq,Nat.reduceEqDiff]<;>rfl),by simp (disch:=omega) only[wt,seval,reduceCtorEq,Nat.reduceEqDiff,hH]⟩
  clear h0 h1 h5 h6 hH hz hv hO hol;clear st out f H;rintro f H ⟨j,st,out,hj,hol,hO,hv,hz,hi4,h0,h1,h5,h6,h7,hH⟩;rw[intAt_of h7];by_cases hlj:(0:Int)<=(j:Int)-1
  .simp (disch:=omega) only[wt,seval,reduceCtorEq,Nat.reduceEqDiff,h0,h1,h5,h6,h7,hH,hlj];have e1:((4:Int)*(i:Int)+((j:Int)-1))=((4*i+(j-1):Nat):Int):=by omega
   rw[e1];refine .inl ⟨tmps_by (by kernel_rfl),?_⟩;refine call_by ((rdigit_ok d (4*i+(j-1)) (by omega))) (by first|rfl|(simp only[tocvs,tocv,toboxes,tobox,updH_at,Nat.reduceEqDiff,↓reduceIte,h0,h1,h5,h6,h7,hH];rfl)) (by simp) ?_;simp (disch:=omega) only[wt,seval,reduceCtorEq,Nat.reduceEqDiff,h0,h1,h5,h6,h7,hH];have hd:=h.get (4*i+(j-1));have hb:=four_drop_lt h i (j-1);have hf:=four_drop d i (j:=j-1) (by omega);rw[show j-1+1=j by omega]at hb hf;rw[<-hi4]at hb hf;have hw:IntKind.u64.wrap (IntKind.u64.wrap ((out.getD i 0:Nat)*65536:Int)+IntKind.u64.wrap (d.getD (4*i+(j-1)) 0:Nat))=((out.getD i 0*65536+d.getD (4*i+(j-1)) 0:Nat):Int):=by
    rw[wrap_u64 (n:=((out.getD i 0:Nat)*65536:Int)) (by omega),wrap_u64 (n:=(d.getD (4*i+(j-1)) 0:Nat)) (by simp only[D16]at hd;omega),wrap_u64 (by simp only[D16]at hd;omega)];omega
   rw[hw,lims_set]
   first|exact log_by (by kernel_rfl)|refine⟨log_by (by kernel_rfl),?_⟩
   refine⟨⟨j-1,st,out.set i (out.getD i 0*65536+d.getD (4*i+(j-1)) 0),by omega,by simp[hol],hO.set (by simp only[D16,W]at *;omega),?_,λk hk=>?_,?_,rfl,by omega,rfl⟩,by omega⟩
   .rw[List.take_set_of_le (Nat.le_refl _)];exact hv
   .have:=hz k hk;simp only[List.getD,List.getElem?_set,if_neg (show ¬i=k by omega)]at this ⊢;exact this
   .rw[hf];have hio:i<out.length:=by omega
    have e:∀x,(out.set i x).getD i 0=x:=λx=>by simp[List.getD,hio]
    rw[e];simp only[D16];omega
  .simp (disch:=omega) only[wt,seval,reduceCtorEq,Nat.reduceEqDiff,h0,h1,h5,h6,h7,hH,hlj];have hj0:j=0:=by omega
   subst hj0;refine⟨⟨i+1,st,out,by omega,hol,hO,?_,hz,rfl,by omega,rfl⟩,by omega⟩;have:=vl_take_next W out i;simp only[nv]at hv ⊢;rw[this,hv,hi4,vl_four];rfl
 .simp (disch:=omega) only[wt,seval,reduceCtorEq,Nat.reduceEqDiff,h0,h1,h5,h6,hH];have hin:i=n:=by omega
  subst hin;rw[List.take_of_length_le (by omega)]at hv;rw[<-hv,<-eq_pad hO hol (s:=nv out) (by have:=nv_lt hO;rw[hol]at this;rw[Nat.mod_eq_of_lt this])]
theorem rnumber_ok (d:List Nat)(h:Dig d)(hl:d.length<=2^42):AC Tryz.prog 75 [cd d] none [cl (wd (vl D16 d))]:=by
 refine AC.by_walk (rs:=[.tmp 2]) ords Tryz.func75 (by rfl) (by rfl) (by rfl) (by rfl) (by rfl) ?_;have hlen:(dgD (vl D16 d)).length<=d.length:=by rw[<-dgD_of h,List.length_take];omega
 simp (disch:=omega) only[wt,seval,reduceCtorEq,Nat.reduceEqDiff];have c1:=rcut_ok d (by omega);rw[dgD_of h]at c1;have e:((dgD (vl D16 d)).length+3:Int).tdiv 4=(((dgD (vl D16 d)).length+3)/4:Nat):=by rw[Int.tdiv_eq_ediv_of_nonneg (by omega)];omega
 refine call_by (c1) (by first|rfl|(simp only[tocvs,tocv,toboxes,tobox,updH_at,Nat.reduceEqDiff,↓reduceIte,e];rfl)) (by simp) ?_;simp (disch:=omega) only[wt,seval,reduceCtorEq,Nat.reduceEqDiff,e];have:=rwords_ok (dgD (vl D16 d)) (((dgD (vl D16 d)).length+3)/4) (dgD_dig _) (by omega) (by omega);rw[List.take_of_length_le (by omega),vl_dgD,pad_wd]at this;refine call_by (this) (by rfl) (by simp) ?_;simp (disch:=omega) only[wt,seval,reduceCtorEq,Nat.reduceEqDiff]
theorem rdig_ok (a:List Nat)(h:Lim a)(hl:a.length<=2^40):AC Tryz.prog 85 [cl a] none [cd (dgD (nv a))]:=by
 refine AC.by_walk (rs:=[.tmp 2]) ords Tryz.func85 (by rfl) (by rfl) (by rfl) (by rfl) (by rfl) ?_;simp (disch:=omega) only[wt,seval,reduceCtorEq,Nat.reduceEqDiff];refine call_by ((rdigits_ok a h hl)) (by rfl) (by simp) ?_;simp (disch:=omega) only[wt,seval,reduceCtorEq,Nat.reduceEqDiff];have:=rcut_ok (dd a) (by rw[dd_len];omega);rw[dgD_dd h]at this;refine call_by (this) (by rfl) (by simp) ?_;simp (disch:=omega) only[wt,seval,reduceCtorEq,Nat.reduceEqDiff]
theorem rnorm_ok (a:List Nat)(h:Lim a)(hl:a.length<=2^40):AC Tryz.prog 95 [cl a] none [cl (wd (nv a))]:=by
 refine AC.by_walk (rs:=[.tmp 2]) ords Tryz.func95 (by rfl) (by rfl) (by rfl) (by rfl) (by rfl) ?_;simp (disch:=omega) only[wt,seval,reduceCtorEq,Nat.reduceEqDiff];refine call_by ((rdig_ok a h hl)) (by rfl) (by simp) ?_;simp (disch:=omega) only[wt,seval,reduceCtorEq,Nat.reduceEqDiff];have:=rnumber_ok (dgD (nv a)) (dgD_dig _) (by have:=dgD_len h;omega);rw[vl_dgD]at this;refine call_by (this) (by rfl) (by simp) ?_;simp (disch:=omega) only[wt,seval,reduceCtorEq,Nat.reduceEqDiff]
theorem rI_ok (s:Bool)(a:List Nat)(h:Lim a)(hl:a.length<=2^40):AC Tryz.prog 72 [cb s,cl a] none [cz (sg s (nv a))]:=by
 refine AC.by_walk (rs:=[.cell 4 29]) ords Tryz.func72 (by rfl) (by rfl) (by rfl) (by rfl) (by rfl) ?_;simp (disch:=omega) only[wt,seval,reduceCtorEq,Nat.reduceEqDiff];refine call_by ((rnorm_ok a h hl)) (by rfl) (by simp) ?_;simp (disch:=omega) only[wt,seval,reduceCtorEq,Nat.reduceEqDiff];have hz:(0<((wd (nv a)).length:Int))↔nv a≠0:=by have:=wd_len_zero (n:=nv a);omega
 cases s
 .simp (disch:=omega) only[wt,seval,reduceCtorEq,Nat.reduceEqDiff];rw[canon_sg];rfl
 .simp (disch:=omega) only[wt,seval,reduceCtorEq,Nat.reduceEqDiff];rw[canon_sg];have h':decide (0<(wd (nv a)).length)=decide (nv a≠0):=by rw[decide_eq_decide];omega
  simp[prow,splice,h']
theorem rword_ok (n:Nat)(hn:n<9223372036854775808):AC Tryz.prog 47 [ci n] none [cl (wd n)]:=by
 refine AC.by_walk (rs:=[.tmp 2]) ords Tryz.func47 (by rfl) (by rfl) (by rfl) (by rfl) (by rfl) ?_;simp (disch:=omega) only[wt,seval,reduceCtorEq,Nat.reduceEqDiff];have hd:Dig [n%65536,n/65536%65536,n/65536/65536%65536,n/65536/65536/65536]:=by
  intro x hx;simp only[List.mem_cons,List.not_mem_nil,or_false]at hx;simp only[D16];omega
 have e:vl D16 [n%65536,n/65536%65536,n/65536/65536%65536,n/65536/65536/65536]=n:=by
  simp only[vl,D16];omega
 have:=rnumber_ok _ hd (by simp);rw[e]at this;refine call_by (this) (by rfl) (by simp) ?_;simp (disch:=omega) only[wt,seval,reduceCtorEq,Nat.reduceEqDiff]
theorem rZ_ok (n:Int)(h : -9223372036854775808<n)(h':n<9223372036854775808):AC Tryz.prog 46 [ci n] none [cz n]:=by
 refine AC.by_walk (rs:=[.cell 2 29]) ords Tryz.func46 (by rfl) (by rfl) (by rfl) (by rfl) (by rfl) ?_;have hl:(wd n.natAbs).length<=1:=wd_len_le.mpr (by simp only[W];omega);simp (disch:=omega) only[wt,seval,reduceCtorEq,Nat.reduceEqDiff];refine if_by (λhn=>?_) (λhn=>?_)
 .simp (disch:=omega) only[wt,seval,reduceCtorEq,Nat.reduceEqDiff];have e1:(0:Int)-n=(n.natAbs:Int):=by omega
  rw[e1];refine call_by ((rword_ok n.natAbs (by omega))) (by rfl) (by simp) ?_;simp (disch:=omega) only[wt,seval,reduceCtorEq,Nat.reduceEqDiff];have e:sg true n.natAbs=n:=by unfold sg;simp;omega
  have:=rI_ok true (wd n.natAbs) (lim_wd _) (by omega);rw[nv_wd,e]at this;refine call_by (this) (by rfl) (by simp) ?_;simp (disch:=omega) only[wt,seval,reduceCtorEq,Nat.reduceEqDiff]
 .simp (disch:=omega) only[wt,seval,reduceCtorEq,Nat.reduceEqDiff];have e1:n=(n.natAbs:Int):=by omega
  have c1:=rword_ok n.natAbs (by omega);rw[<-e1]at c1;refine call_by (c1) (by rfl) (by simp) ?_;simp (disch:=omega) only[wt,seval,reduceCtorEq,Nat.reduceEqDiff];have e:sg false n.natAbs=n:=by unfold sg;simp;omega
  have:=rI_ok false (wd n.natAbs) (lim_wd _) (by omega);rw[nv_wd,e]at this;refine call_by (this) (by rfl) (by simp) ?_;simp (disch:=omega) only[wt,seval,reduceCtorEq,Nat.reduceEqDiff]
theorem rZero_ok (a:List Nat)(h:Lim a)(hl:a.length<=2^40):AC Tryz.prog 59 [cl a] none [cb (decide (nv a=0))]:=by
 refine AC.by_walk (rs:=[.tmp 2]) ords Tryz.func59 (by rfl) (by rfl) (by rfl) (by rfl) (by rfl) ?_;simp (disch:=omega) only[wt,seval,reduceCtorEq,Nat.reduceEqDiff];refine call_by ((rdig_ok a h hl)) (by rfl) (by simp) ?_;simp (disch:=omega) only[wt,seval,reduceCtorEq,Nat.reduceEqDiff];have:=dgD_len_zero (n:=nv a);rw[decide_eq_decide];omega
theorem rSign_ok (c:RI)(h:Sz (2^40) c):AC Tryz.prog 32 [cr c] none [ci (iv c).sign]:=by
 refine AC.by_walk (rs:=[.tmp 2]) ords Tryz.func32 (by rfl) (by rfl) (by rfl) (by rfl) (by rfl) ?_;simp (disch:=omega) only[wt,seval,reduceCtorEq,Nat.reduceEqDiff];refine call_by ((rZero_ok c.2 h.2 h.1)) (by rfl) (by simp) ?_;simp (disch:=omega) only[wt,seval,reduceCtorEq,Nat.reduceEqDiff];refine if_by (λhz=>?_) (λhz=>?_)
 .simp (disch:=omega) only[wt,seval,reduceCtorEq,Nat.reduceEqDiff];unfold iv;rw[hz];split<;>rfl
 .simp (disch:=omega) only[wt,seval,reduceCtorEq,Nat.reduceEqDiff];refine if_bool (λhs=>?_) (λhs=>?_)
  .simp (disch:=omega) only[wt,seval,reduceCtorEq,Nat.reduceEqDiff];unfold iv;rw[if_pos hs];exact(Int.sign_eq_neg_one_of_neg (by omega)).symm
  .simp (disch:=omega) only[wt,seval,reduceCtorEq,Nat.reduceEqDiff];unfold iv;rw[hs];exact(Int.sign_eq_one_of_pos (by simp;omega)).symm
theorem rsame_ok (a b:List Nat)(hla:a.length<=2^43)(hlb:b.length<=2^43):AC Tryz.prog 76 [cl a,cl b] none [cb (decide (a=b))]:=by
 refine AC.by_walk (rs:=[.tmp 4]) ords Tryz.func76 (by rfl) (by rfl) (by rfl) (by rfl) (by rfl) ?_;simp (disch:=omega) only[wt,seval,reduceCtorEq,Nat.reduceEqDiff];refine if_by (λhz=>?_) (λhz=>?_)
 .simp (disch:=omega) only[wt,seval,reduceCtorEq,Nat.reduceEqDiff];exact(decide_eq_false (λe=>hz (by rw[e]))).symm
 have hl:a.length=b.length:=by omega
 simp (disch:=omega) only[wt,seval,reduceCtorEq,Nat.reduceEqDiff];refine aloop_by (λf H=>∃i:Nat,i<=a.length/\a.take i=b.take i/\f 0=.iv (.sl (lims a))/\f 1=.iv (.sl (lims b))/\f 5=.iv (.int .i64 i)) (λf H=>(a.length-intAt f 5).toNat) ?_ ?_
 .exact⟨0,by omega,rfl,by simp (disch:=omega) only[wt,seval,reduceCtorEq,Nat.reduceEqDiff],by simp (disch:=omega) only[wt,seval,reduceCtorEq,Nat.reduceEqDiff],by simp (disch:=omega) only[wt,seval,reduceCtorEq,Nat.reduceEqDiff]⟩
 rintro f H ⟨i,hi,he,h0,h1,h5⟩;rw[intAt_of h5];simp (disch:=omega) only[wt,seval,reduceCtorEq,Nat.reduceEqDiff,h0,h1,h5];refine if_by (λhlt=>?_) (λhlt=>?_)
 .simp (disch:=omega) only[wt,seval,reduceCtorEq,Nat.reduceEqDiff,h0,h1,h5];refine .inl ⟨tmps_by (by kernel_rfl),?_⟩
  first|exact log_by (by kernel_rfl)|refine⟨log_by (by kernel_rfl),?_⟩
  refine if_by (λhne=>?_) (λhne=>?_)
  .simp (disch:=omega) only[wt,seval,reduceCtorEq,Nat.reduceEqDiff,h0,h1,h5];exact(decide_eq_false (λe=>hne (by rw[e]))).symm
  .simp (disch:=omega) only[wt,seval,reduceCtorEq,Nat.reduceEqDiff,h0,h1,h5];refine⟨⟨i+1,by omega,?_,by omega⟩,by omega⟩;have h1:a.getD i 0=b.getD i 0:=by omega
   have hia:i<a.length:=by omega
   have hib:i<b.length:=by omega
   rw[List.take_add_one,List.take_add_one,he,List.getElem?_eq_getElem hia,List.getElem?_eq_getElem hib];have e1:a.getD i 0=a[i]:=by simp[List.getD,hia]
   have e2:b.getD i 0=b[i]:=by simp[List.getD,hib]
   rw[<-e1,<-e2,h1]
 .simp (disch:=omega) only[wt,seval,reduceCtorEq,Nat.reduceEqDiff,h0,h1,h5];rw[List.take_of_length_le (by omega),List.take_of_length_le (by omega)]at he;exact(decide_eq_true he).symm
theorem rSame_ok (a b:List Nat)(hla:a.length<=2^43)(hlb:b.length<=2^43):AC Tryz.prog 49 [cl a,cl b] none [cb (decide (a=b))]:=by
 refine AC.by_walk (rs:=[.tmp 4]) ords Tryz.func49 (by rfl) (by rfl) (by rfl) (by rfl) (by rfl) ?_;simp (disch:=omega) only[wt,seval,reduceCtorEq,Nat.reduceEqDiff];refine call_by ((rsame_ok a b hla hlb)) (by rfl) (by simp) ?_;simp (disch:=omega) only[wt,seval,reduceCtorEq,Nat.reduceEqDiff]
theorem rSameInt_ok (a b:RI)(hla:a.2.length<=2^43)(hlb:b.2.length<=2^43):AC Tryz.prog 48 [cr a,cr b] none [cb (decide (a=b))]:=by
 refine AC.by_walk (rs:=[.tmp 4]) ords Tryz.func48 (by rfl) (by rfl) (by rfl) (by rfl) (by rfl) ?_;cases hb:(a.1 == b.1)
 .simp (disch:=omega) only[wt,seval,reduceCtorEq,Nat.reduceEqDiff,hb];exact(decide_eq_false (λe=>by rw[e]at hb;simp at hb)).symm
 .simp (disch:=omega) only[wt,seval,reduceCtorEq,Nat.reduceEqDiff,hb];refine call_by ((rSame_ok a.2 b.2 hla hlb)) (by first|rfl|(simp only[tocvs,tocv,toboxes,tobox,updH_at,Nat.reduceEqDiff,↓reduceIte,hb];rfl)) (by simp) ?_;simp (disch:=omega) only[wt,seval,reduceCtorEq,Nat.reduceEqDiff,hb];have hb:a.1=b.1:=by simpa using hb
  rw[decide_eq_decide];exact⟨λh=>Prod.ext hb h,λh=>by rw[h]⟩
theorem sZ_ok (n:Int)(h : -9223372036854775808<n)(h':n<9223372036854775808):AC Tryz.prog 36 [ci n] none [cz n]:=by
 refine AC.by_walk (rs:=[.cell 2 29]) ords Tryz.func36 (by rfl) (by rfl) (by rfl) (by rfl) (by rfl) ?_;simp (disch:=omega) only[wt,seval,reduceCtorEq,Nat.reduceEqDiff];refine call_by ((rZ_ok n h h')) (by rfl) (by simp) ?_;simp (disch:=omega) only[wt,seval,reduceCtorEq,Nat.reduceEqDiff]
theorem sown_ok (c:RI)(h:Sz (2^40) c):AC Tryz.prog 62 [cr c] none [cz (iv c)]:=by
 refine AC.by_walk (rs:=[.cell 2 29]) ords Tryz.func62 (by rfl) (by rfl) (by rfl) (by rfl) (by rfl) ?_;simp (disch:=omega) only[wt,seval,reduceCtorEq,Nat.reduceEqDiff];refine call_by ((rI_ok c.1 c.2 h.2 h.1)) (by rfl) (by simp) ?_;simp (disch:=omega) only[wt,seval,reduceCtorEq,Nat.reduceEqDiff];rfl
theorem snorm_ok (p:List RI)(h:RP (2^40) (2^40) p):AC Tryz.prog 40 [cw p] none [cp (pv p)]:=by
 refine AC.by_walk (rs:=[.tmp 2]) ords Tryz.func40 (by rfl) (by rfl) (by rfl) (by rfl) (by rfl) ?_;have hl:=h.1;have htl:=tz_le (pv p);rw[pv_len]at htl;simp (disch:=omega) only[wt,seval,reduceCtorEq,Nat.reduceEqDiff];refine aloop_by (λf H=>∃k:Nat,k<=p.length/\f 0=.iv (.sl (raws p))/\f 3=.iv (.int .i64 k)/\tz ((pv p).take k)=tz (pv p)) (λf H=>(intAt f 3).toNat) ?_ ?_
 .exact⟨p.length,Nat.le_refl _,by simp (disch:=omega) only[wt,seval,reduceCtorEq,Nat.reduceEqDiff],by simp (disch:=omega) only[wt,seval,reduceCtorEq,Nat.reduceEqDiff],by rw[<-pv_len p,List.take_length]⟩
 rintro f H ⟨k,hk,h0,h3,ht⟩;rw[intAt_of h3];by_cases hc:0<(k:Int)
 .simp (disch:=omega) only[wt,seval,reduceCtorEq,Nat.reduceEqDiff,h0,h3,hc];have ek:((k:Int)-1).toNat=k-1:=by omega
  have ek':k=(k-1)+1:=by omega
  rw[ek];refine call_by ((rSign_ok (p.getD (k-1) (false,[])) (h.get _))) (by first|rfl|(simp only[tocvs,tocv,toboxes,tobox,updH_at,Nat.reduceEqDiff,↓reduceIte,h0,h3,hc];rfl)) (by simp) ?_;simp (disch:=omega) only[wt,seval,reduceCtorEq,Nat.reduceEqDiff,h0,h3,hc];rw[<-cf_pv];refine if_by (λhz=>?_) (λhz=>?_)
  .simp (disch:=omega) only[wt,seval,reduceCtorEq,Nat.reduceEqDiff,h0,h3];refine⟨⟨k-1,by omega,by omega,?_⟩,by omega⟩;rw[<-tz_take_zero (k:=k-1) (by rw[pv_len];omega) (Int.sign_eq_zero_iff_zero.mp hz),<-ek',ht]
  .have hk:k=tz (pv p):=by
    have:=tz_full (q:=pv p) (k:=k-1) (by rw[pv_len];omega) (λe=>hz (Int.sign_eq_zero_iff_zero.mpr e));rw[<-ek',ht]at this;exact this.symm
   simp (disch:=omega) only[wt,seval,reduceCtorEq,Nat.reduceEqDiff,h0,h3];refine aloop_nil 4 4 29 2 (by simp (disch:=omega) only[wt,seval,reduceCtorEq,Nat.reduceEqDiff]) (λf H=>∃(k st:Nat),k<=tz (pv p)/\f 0=.iv (.sl (raws p))/\f 3=.iv (.int .i64 (tz (pv p)))/\f 4=.hs 4 st/\f 5=.iv (.int .i64 k)/\H 4=.blk false st 29 2 (raws (((trimz (pv p)).take k).map canon))) (λf H=>(tz (pv p)-intAt f 5).toNat) ?_ ?_
   .refine⟨0,(H 4).stamp+1,by omega,?_⟩;simp (disch:=omega) only[wt,seval,reduceCtorEq,Nat.reduceEqDiff,ghostF,ghostH,List.take_zero,h0,h3,hk]
   clear h0 h3 hk;clear f H;rintro f H ⟨k,st,hk,h0,h3,h4,h5,hH⟩;rw[intAt_of h5];simp (disch:=omega) only[wt,seval,reduceCtorEq,Nat.reduceEqDiff,h0,h3,h4,h5,hH];refine if_by (λhlt=>?_) (λhlt=>?_)
   .simp (disch:=omega) only[wt,seval,reduceCtorEq,Nat.reduceEqDiff,h0,h3,h4,h5,hH];have hq:(((trimz (pv p)).take k).map canon).length=k:=by rw[List.length_map,List.length_take,trimz_len];omega
    refine call_by ((sown_ok (p.getD k (false,[])) (h.get _))) (by first|rfl|(simp only[tocvs,tocv,toboxes,tobox,updH_at,Nat.reduceEqDiff,↓reduceIte,h0,h3,h4,h5,hH,hq];rfl)) (by simp) ?_;simp (disch:=omega) only[wt,seval,reduceCtorEq,Nat.reduceEqDiff,h0,h3,h4,h5,hH,hq];refine⟨⟨k+1,st+1,by omega,rfl,by omega,?_⟩,by omega⟩;rw[trimz_take_succ (by omega),cf_pv]
   .simp (disch:=omega) only[wt,seval,reduceCtorEq,Nat.reduceEqDiff,h0,h3,h4,h5,hH];have hk:k=tz (pv p):=by omega
    rw[hk,List.take_of_length_le (by rw[trimz_len];exact Nat.le_refl _)];rfl
 .have hk:k=tz (pv p):=by
   obtain rfl:k=0:=by omega
   rw[<-ht];rfl
  simp (disch:=omega) only[wt,seval,reduceCtorEq,Nat.reduceEqDiff,h0,h3,hc];refine aloop_nil 4 4 29 2 (by simp (disch:=omega) only[wt,seval,reduceCtorEq,Nat.reduceEqDiff]) (λf H=>∃(k st:Nat),k<=tz (pv p)/\f 0=.iv (.sl (raws p))/\f 3=.iv (.int .i64 (tz (pv p)))/\f 4=.hs 4 st/\f 5=.iv (.int .i64 k)/\H 4=.blk false st 29 2 (raws (((trimz (pv p)).take k).map canon))) (λf H=>(tz (pv p)-intAt f 5).toNat) ?_ ?_
  .refine⟨0,(H 4).stamp+1,by omega,?_⟩;simp (disch:=omega) only[wt,seval,reduceCtorEq,Nat.reduceEqDiff,ghostF,ghostH,List.take_zero,h0,h3,hk]
  clear h0 h3 hk;clear f H;rintro f H ⟨k,st,hk,h0,h3,h4,h5,hH⟩;rw[intAt_of h5];simp (disch:=omega) only[wt,seval,reduceCtorEq,Nat.reduceEqDiff,h0,h3,h4,h5,hH];refine if_by (λhlt=>?_) (λhlt=>?_)
  .simp (disch:=omega) only[wt,seval,reduceCtorEq,Nat.reduceEqDiff,h0,h3,h4,h5,hH];have hq:(((trimz (pv p)).take k).map canon).length=k:=by rw[List.length_map,List.length_take,trimz_len];omega
   refine call_by ((sown_ok (p.getD k (false,[])) (h.get _))) (by first|rfl|(simp only[tocvs,tocv,toboxes,tobox,updH_at,Nat.reduceEqDiff,↓reduceIte,h0,h3,h4,h5,hH,hq];rfl)) (by simp) ?_;simp (disch:=omega) only[wt,seval,reduceCtorEq,Nat.reduceEqDiff,h0,h3,h4,h5,hH,hq];refine⟨⟨k+1,st+1,by omega,rfl,by omega,?_⟩,by omega⟩;rw[trimz_take_succ (by omega),cf_pv]
  .simp (disch:=omega) only[wt,seval,reduceCtorEq,Nat.reduceEqDiff,h0,h3,h4,h5,hH];have hk:k=tz (pv p):=by omega
   rw[hk,List.take_of_length_le (by rw[trimz_len];exact Nat.le_refl _)];rfl
abbrev cis (l:List Int):CV:=.iv (.sl (ilims l))
theorem sof_ok (l:List Int)(hl:l.length<=2^30)(h:∀z∈l,-9223372036854775808<z/\z<9223372036854775808):AC Tryz.prog 18 [cis l] none [cp l]:=by
 refine AC.by_walk (rs:=[.tmp 2]) ords Tryz.func18 (by rfl) (by rfl) (by rfl) (by rfl) (by rfl) ?_;simp (disch:=omega) only[wt,seval,reduceCtorEq,Nat.reduceEqDiff];refine aloop_nil 3 3 29 2 (by simp (disch:=omega) only[wt,seval,reduceCtorEq,Nat.reduceEqDiff]) (λf H=>∃(k st:Nat),k<=l.length/\f 0=.iv (.sl (ilims l))/\f 3=.hs 3 st/\f 4=.iv (.int .i64 k)/\H 3=.blk false st 29 2 (raws ((l.take k).map canon))) (λf H=>(l.length-intAt f 4).toNat) ?_ ?_
 .refine⟨0,1,by omega,?_⟩;simp (disch:=omega) only[wt,seval,reduceCtorEq,Nat.reduceEqDiff,ghostF,ghostH,List.take_zero]
 rintro f H ⟨k,st,hk,h0,h3,h4,hH⟩;rw[intAt_of h4];simp (disch:=omega) only[wt,seval,reduceCtorEq,Nat.reduceEqDiff,h0,h3,h4,hH];refine if_by (λhlt=>?_) (λhlt=>?_)
 .have hq:((l.take k).map canon).length=k:=by rw[List.length_map,List.length_take];omega
  have hkl:k<l.length:=by omega
  have hg:l.getD k 0=l[k]:=by simp[List.getD,hkl]
  have hb:=h l[k] (List.getElem_mem hkl);simp (disch:=omega) only[wt,seval,reduceCtorEq,Nat.reduceEqDiff,h0,h3,h4,hH,hq];rw[hg];refine call_by ((sZ_ok l[k] hb.1 hb.2)) (by first|rfl|(simp only[tocvs,tocv,toboxes,tobox,updH_at,Nat.reduceEqDiff,↓reduceIte,h0,h3,h4,hH,hq];rfl)) (by simp) ?_;simp (disch:=omega) only[wt,seval,reduceCtorEq,Nat.reduceEqDiff,h0,h3,h4,hH,hq];refine⟨⟨k+1,st+1,by omega,rfl,by omega,?_⟩,by omega⟩;rw[List.take_add_one];simp[hkl]
 .simp (disch:=omega) only[wt,seval,reduceCtorEq,Nat.reduceEqDiff,h0,h3,h4,hH];have hk:k=l.length:=by omega
  have hz:∀z:Int,-9223372036854775808<z->z<9223372036854775808->zl z<=1:=λz h1 h2=>zl_le.mpr (by simp only[W];omega)
  have:=snorm_ok (l.map canon) (RP.canon ⟨by omega,λz hz'=>Nat.le_trans (hz z (h z hz').1 (h z hz').2) (by omega)⟩);rw[pv_canon]at this;rw[hk,List.take_length]at hH;refine call_by (this) (by first|rfl|(simp only[tocvs,tocv,toboxes,tobox,updH_at,Nat.reduceEqDiff,↓reduceIte,h0,h3,h4,hH];rfl)) (by simp) ?_;simp (disch:=omega) only[wt,seval,reduceCtorEq,Nat.reduceEqDiff,h0,h3,h4,hH]
theorem slong_ok (a:List Nat)(hl:a.length<=9223372036854775807):AC Tryz.prog 50 [cl a] none [cb (decide (200<a.length))]:=by
 refine AC.by_walk (rs:=[.tmp 2]) ords Tryz.func50 (by rfl) (by rfl) (by rfl) (by rfl) (by rfl) ?_;simp (disch:=omega) only[wt,seval,reduceCtorEq,Nat.reduceEqDiff];rw[decide_eq_decide];omega
def gi (l:List RI):Bool:=l.any λc=>decide (200<c.2.length)
def gp (ps:List (List RI)):Bool:=ps.any λp=>decide (40<p.length) || gi p
theorem any_take_succ {α:Type}{g:α->Bool}{l:List α}{i:Nat}(hi:i<l.length):(l.take (i+1)).any g=((l.take i).any g || g l[i]):=by
 rw[List.take_add_one,List.getElem?_eq_getElem hi,List.any_append];simp only[Option.toList,List.any_cons,List.any_nil,Bool.or_false]
theorem any_of_get {α:Type}{g:α->Bool}{l:List α}{i:Nat}(hi:i<l.length)(h:g l[i]=true):l.any g=true :=
 List.any_eq_true.mpr ⟨l[i],List.getElem_mem hi,h⟩
theorem sgints_ok (l:List RI)(hl:l.length<=9223372036854775807)(h:∀c∈l,c.2.length<=9223372036854775807):AC Tryz.prog 24 [cw l] none [cb (gi l)]:=by
 refine AC.by_walk (rs:=[.tmp 2]) ords Tryz.func24 (by rfl) (by rfl) (by rfl) (by rfl) (by rfl) ?_;simp (disch:=omega) only[wt,seval,reduceCtorEq,Nat.reduceEqDiff];refine aloop_by (λf H=>∃i:Nat,i<=l.length/\gi (l.take i)=false/\f 0=.iv (.sl (raws l))/\f 3=.iv (.int .i64 i)) (λf H=>(l.length-intAt f 3).toNat) ?_ ?_
 .exact⟨0,by omega,rfl,by simp (disch:=omega) only[wt,seval,reduceCtorEq,Nat.reduceEqDiff],by simp (disch:=omega) only[wt,seval,reduceCtorEq,Nat.reduceEqDiff]⟩
 rintro f H ⟨i,hi,he,h0,h3⟩;rw[intAt_of h3];simp (disch:=omega) only[wt,seval,reduceCtorEq,Nat.reduceEqDiff,h0,h3];refine if_by (λhlt=>?_) (λhlt=>?_)
 .have hil:i<l.length:=by omega
  have hg:l.getD i (false,[])=l[i]:=by simp[List.getD,hil]
  simp (disch:=omega) only[wt,seval,reduceCtorEq,Nat.reduceEqDiff,h0,h3];rw[hg];refine call_by ((slong_ok l[i].2 (h _ (List.getElem_mem hil)))) (by first|rfl|(simp only[tocvs,tocv,toboxes,tobox,updH_at,Nat.reduceEqDiff,↓reduceIte,h0,h3];rfl)) (by simp) ?_;simp (disch:=omega) only[wt,seval,reduceCtorEq,Nat.reduceEqDiff,h0,h3];refine if_by (λhz=>?_) (λhz=>?_)
  .simp (disch:=omega) only[wt,seval,reduceCtorEq,Nat.reduceEqDiff,h0,h3];exact(any_of_get hil (decide_eq_true hz)).symm
  .simp (disch:=omega) only[wt,seval,reduceCtorEq,Nat.reduceEqDiff,h0,h3];refine⟨⟨i+1,by omega,?_,by omega⟩,by omega⟩;unfold gi at he ⊢;rw[any_take_succ hil,he,decide_eq_false hz];rfl
 .simp (disch:=omega) only[wt,seval,reduceCtorEq,Nat.reduceEqDiff,h0,h3];rw[List.take_of_length_le (by omega)]at he;exact he.symm
theorem sgreat_ok (ps:List (List RI))(hl:ps.length<=9223372036854775807)(h:∀p∈ps,p.length<=9223372036854775807/\∀c∈p,c.2.length<=9223372036854775807):AC Tryz.prog 22 [.iv (.sl (polys ps))] none [cb (gp ps)]:=by
 refine AC.by_walk (rs:=[.tmp 2]) ords Tryz.func22 (by rfl) (by rfl) (by rfl) (by rfl) (by rfl) ?_;simp (disch:=omega) only[wt,seval,reduceCtorEq,Nat.reduceEqDiff];refine aloop_by (λf H=>∃i:Nat,i<=ps.length/\gp (ps.take i)=false/\f 0=.iv (.sl (polys ps))/\f 3=.iv (.int .i64 i)) (λf H=>(ps.length-intAt f 3).toNat) ?_ ?_
 .exact⟨0,by omega,rfl,by simp (disch:=omega) only[wt,seval,reduceCtorEq,Nat.reduceEqDiff],by simp (disch:=omega) only[wt,seval,reduceCtorEq,Nat.reduceEqDiff]⟩
 rintro f H ⟨i,hi,he,h0,h3⟩;rw[intAt_of h3];simp (disch:=omega) only[wt,seval,reduceCtorEq,Nat.reduceEqDiff,h0,h3];refine if_by (λhlt=>?_) (λhlt=>?_)
 .have hil:i<ps.length:=by omega
  have hg:ps.getD i []=ps[i]:=by simp[List.getD,hil]
  have hp:=h ps[i] (List.getElem_mem hil);have hw:40<(ps[i].length:Int)↔40<ps[i].length:=by omega
  by_cases hz:40<(ps[i].length:Int)
  .simp (disch:=omega) only[wt,seval,reduceCtorEq,Nat.reduceEqDiff,h0,h3,hg,hz];exact(any_of_get hil (by rw[decide_eq_true (hw.mp hz)];rfl)).symm
  .simp (disch:=omega) only[wt,seval,reduceCtorEq,Nat.reduceEqDiff,h0,h3,hg,hz];refine call_by ((sgints_ok ps[i] hp.1 hp.2)) (by first|rfl|(simp only[tocvs,tocv,toboxes,tobox,updH_at,Nat.reduceEqDiff,↓reduceIte,h0,h3,hg,hz];rfl)) (by simp) ?_;simp (disch:=omega) only[wt,seval,reduceCtorEq,Nat.reduceEqDiff,h0,h3,hg,hz];have hz':¬40<ps[i].length:=λh=>hz (hw.mpr h)
   refine if_bool (λhb=>?_) (λhb=>?_)
   .simp (disch:=omega) only[wt,seval,reduceCtorEq,Nat.reduceEqDiff,h0,h3,hg,hz];exact(any_of_get hil (by rw[hb];exact Bool.or_true _)).symm
   .simp (disch:=omega) only[wt,seval,reduceCtorEq,Nat.reduceEqDiff,h0,h3,hg,hz];refine⟨⟨i+1,by omega,?_,by omega⟩,by omega⟩;unfold gp at he ⊢;rw[any_take_succ hil,he,decide_eq_false hz',hb];rfl
 .simp (disch:=omega) only[wt,seval,reduceCtorEq,Nat.reduceEqDiff,h0,h3];rw[List.take_of_length_le (by omega)]at he;exact he.symm
theorem small_pb (l:List Int)(n:Nat)(hl:l.length<=n)(h:∀z∈l,z.natAbs<W):PB n 1 l:=⟨hl,λz hz=>zl_le.mpr (by simpa using h z hz)⟩
def Raw (p:List RI):Prop:=p.length<=9223372036854775807/\∀c∈p,Sz (9223372036854775807) c
theorem great_sub {ps:List (List RI)}(h:gp ps=false){p:List RI}(hp:p∈ps)(hr:Raw p):RP 40 200 p:=by
 unfold gp at h;rw[List.any_eq_false]at h;have:=h p hp;simp only[Bool.or_eq_true,decide_eq_true_eq,not_or,Bool.not_eq_true]at this;refine⟨by omega,λc hc=>⟨?_,(hr.2 c hc).2⟩⟩;have h2:=this.2;unfold gi at h2;rw[List.any_eq_false]at h2;have:=h2 c hc;simp only[decide_eq_true_eq]at this;omega
theorem great2_ok (a b:List RI)(ha:Raw a)(hb:Raw b):AC Tryz.prog 22 [.iv (.sl (polys [a,b]))] none [cb (gp [a,b])] :=
 sgreat_ok [a,b] (by simp) (by
  intro p hp;simp only[List.mem_cons,List.not_mem_nil,or_false]at hp;rcases hp with rfl|rfl
  .exact⟨ha.1,λc hc=>(ha.2 c hc).1⟩
  .exact⟨hb.1,λc hc=>(hb.2 c hc).1⟩)
end Go.Proofs.YtnjaeokkfbihlaaGreat
