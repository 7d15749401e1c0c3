/-
 Contracts of the functions that the law reaches.
-/
import Derived.Test.YtnjaeokkfbihlaaGreatL12M
import Derived.Test.YtnjaeokkfbihlaaGreatAbsX
import Derived.Test.YtnjaeokkfbihlaaGreatL1M
set_option maxHeartbeats 2000000
namespace Go.Proofs.YtnjaeokkfbihlaaGreat
open Go Go.Proofs Go.AL
set_option linter.unusedSimpArgs false
set_option linter.unusedVariables false
theorem drop_set_gt {l:List Nat}{i j x:Nat}(h:i<j):(l.set i x).drop j=l.drop j:=by
 rw[List.drop_set];rw[if_pos h]
def lessD (r b:List Nat)(k i:Nat):List Nat:=dn r.length (vl D16 r-k*vl D16 b*D16^i)
theorem take_end {L r b:List Nat}{k i cc:Nat}(hL:Dig L)(hl:L.length=r.length)(hb:i+b.length<=r.length)(hle:k*vl D16 b*D16^i<=vl D16 r)
  (he:vl D16 L+k*vl D16 b*D16^i=vl D16 r+cc*D16^r.length):L=lessD r b k i:=by
 have h1:=vlD_lt hL;rw[hl]at h1;have hcc:cc=0:=by
  rcases Nat.eq_zero_or_pos cc with h|h
  .exact h
  .have:=Nat.mul_le_mul_right (D16^r.length) h;omega
 subst hcc;refine eq_dn hL hl ?_;rw[Nat.mod_eq_of_lt (by omega)];omega
theorem take_ok (r b:List Nat)(k i:Nat)(hr:Dig r)(hb:Dig b)(hlr:r.length<=2^43)(hk:k<=2^40)(hi:i+b.length<=r.length)(hle:k*vl D16 b*D16^i<=vl D16 r) :
  ACW Tryz.prog 117 [.any,cd b,ci k,ci i] 0 3 1 (nums r) (nums (lessD r b k i)) []:=by
 refine ACW.by_walk (rs:=[]) ords Tryz.func117 (by rfl) (by rfl) (by rfl) (by rfl) (by rfl) ?_;simp (disch:=omega) only[wt,seval,reduceCtorEq,Nat.reduceEqDiff];refine aloop_by (λf H=>∃(j cc:Nat) (L:List Nat),i+j<=r.length/\L.length=r.length/\Dig L/\vl D16 (L.take (i+j))+k*vl D16 (b.take j)*D16^i=vl D16 (r.take (i+j))+cc*D16^(i+j)/\L.drop (i+j)=r.drop (i+j)/\cc<=2^41/\f 9=.iv (.int .i64 j)/\f 8=.iv (.int .i64 (-(cc:Int)))/\f 0=.hs 0 1/\f 1=.iv (.sl (nums b))/\f 2=.iv (.int .i64 k)/\f 3=.iv (.int .i64 i)/\H 0=.blk false 1 3 1 (nums L)) (λf H=>(r.length-intAt f 9).toNat) ?_ ?_
 .refine⟨0,0,r,by omega,rfl,hr,by simp[vl],by simp,by omega,?_⟩;simp (disch:=omega) only[wt,seval,reduceCtorEq,Nat.reduceEqDiff]
 rintro f H ⟨j,cc,L,hj,hl,hL,hv,hd,hcc,hF⟩;rw[intAt_of hF.1];simp (disch:=omega) only[wt,seval,reduceCtorEq,Nat.reduceEqDiff,hF];refine if_by (λhlt=>?_) (λhlt=>?_)
 .have hij:i+j<r.length:=by omega
  have hijL:i+j<L.length:=by omega
  have hcast:((i:Int)+(j:Int)).toNat=i+j:=by omega
  have hx:L.getD (i+j) 0=r.getD (i+j) 0:=by
   have h1:(L.drop (i+j))[0]?=(r.drop (i+j))[0]?:=by rw[hd]
   simp only[List.getElem?_drop,Nat.add_zero]at h1;rw[List.getD_eq_getElem?_getD,List.getD_eq_getElem?_getD,h1]
  have hxd:=hr.get (i+j);have hyd:=hb.get j;have hxd':r.getD (i+j) 0<65536:=hxd;have hky:k*b.getD j 0<=2^40*65536:=Nat.mul_le_mul hk (by simp only[D16]at hyd;omega);generalize hxe:r.getD (i+j) 0=x at *;generalize hye:b.getD j 0=y at *;have hky':((k:Int)*(y:Int))<=72057594037927936:=by
   rw[<-Int.natCast_mul];exact Int.ofNat_le.mpr (Nat.le_trans hky (by decide))
  have hky0:0<=((k:Int)*(y:Int)):=by rw[<-Int.natCast_mul];omega
  have step:∀s c2:Nat,s+k*y+cc=x+65536*c2->s<65536->c2<=2^41 ->
    i+(j+1)<=r.length/\(L.set (i+j) s).length=r.length/\Dig (L.set (i+j) s)/\vl D16 ((L.set (i+j) s).take (i+(j+1)))+k*vl D16 (b.take (j+1))*D16^i=vl D16 (r.take (i+(j+1)))+c2*D16^(i+(j+1))/\(L.set (i+j) s).drop (i+(j+1))=r.drop (i+(j+1))/\c2<=2^41:=by
   intro s c2 hs hs2 hc2;refine⟨by omega,by simpa using hl,hL.set hs2,?_,?_,hc2⟩
   .rw[show i+(j+1)=i+j+1 by omega,vl_take_set D16 hijL,vl_take_next D16 b j,vl_take_next D16 r (i+j),hxe,hye];have e:=borrowD (P:=D16^(i+j)) (O:=vl D16 (L.take (i+j))) (B:=k*vl D16 (b.take j)*D16^i) (A:=vl D16 (r.take (i+j))) (c:=cc) (x:=x) (y:=k*y) (s:=s) (c':=c2) (by rw[hv,Nat.mul_comm cc]) (by simp only[D16];omega);rw[Nat.pow_succ,Nat.mul_comm c2];rw[<-e,Nat.mul_add,Nat.add_mul]
    congr 2
    rw[Nat.pow_add];ac_rfl
   .rw[drop_set_gt (by omega),show i+(j+1)=(i+j)+1 by omega,<-List.drop_drop,hd,List.drop_drop]
  by_cases hjb:(j:Int)<(b.length:Int)
  .have hjb':j<b.length:=by omega
   obtain⟨n0,hn0⟩:∃n0:Int,(x:Int) + -(cc:Int)-(k:Int)*(y:Int)=n0:=⟨_,rfl⟩;simp (disch:=omega) only[wt,seval,reduceCtorEq,Nat.reduceEqDiff,hF,hcast,hjb,hx,hye,hn0];refine aloop_by (λf H=>∃(nn:Int) (c2:Nat),nn+(k:Int)*(y:Int)+cc=x+65536*(c2:Int)/\nn<65536/\(c2=0\/0<=nn)/\c2<=2^41/\f 10=.iv (.int .i64 nn)/\f 8=.iv (.int .i64 (-(c2:Int)))/\f 9=.iv (.int .i64 j)/\f 0=.hs 0 1/\f 1=.iv (.sl (nums b))/\f 2=.iv (.int .i64 k)/\f 3=.iv (.int .i64 i)/\f 12=.iv (.int .i64 i)/\H 0=.blk false 1 3 1 (nums L)) (λf H=>(-intAt f 10).toNat) ?_ ?_
   .refine⟨n0,0,by omega,by omega,by omega,by omega,?_⟩;simp (disch:=omega) only[wt,seval,reduceCtorEq,Nat.reduceEqDiff,hF]
   rintro f H ⟨nn,c2,hne,hnn,h01,hc2,hF⟩;rw[intAt_of hF.1];simp (disch:=omega) only[wt,seval,reduceCtorEq,Nat.reduceEqDiff,hF];refine if_by (λhneg=>?_) (λhneg=>?_)
   .have hq:(65535-nn).tdiv 65536=(65535-nn)/65536:=Int.tdiv_eq_ediv_of_nonneg (by omega);obtain⟨m,hm⟩:∃m:Nat,(65535-nn)/65536=(m:Int):=⟨((65535-nn)/65536).toNat,by omega⟩;obtain rfl:c2=0:=by omega
    simp (disch:=omega) only[wt,seval,reduceCtorEq,Nat.reduceEqDiff,hF,hq,hm];refine⟨⟨nn+m*65536,m,by omega,by omega,by omega,by omega,rfl,by omega⟩,by omega⟩
   .obtain⟨s,rfl⟩:∃s:Nat,nn=(s:Int):=⟨nn.toNat,by omega⟩;have hs1:s+k*y+cc=x+65536*c2:=by
     have:((s+k*y+cc:Nat):Int)=((x+65536*c2:Nat):Int):=by rw[Int.natCast_add,Int.natCast_add,Int.natCast_mul,hne,Int.natCast_add,Int.natCast_mul];rfl
     exact Int.ofNat.inj this
    obtain⟨g1,g2,g3,g4,g5,g6⟩:=step s c2 hs1 (by omega) hc2;simp (disch:=omega) only[wt,seval,reduceCtorEq,Nat.reduceEqDiff,hF,hcast];exact⟨⟨j+1,c2,_,g1,g2,g3,g4,g5,g6,by omega,rfl,rfl⟩,by omega⟩
  .have hjb':¬j<b.length:=by omega
   have hy0:y=0:=by rw[<-hye,List.getD_eq_getElem?_getD,List.getElem?_eq_none (by omega)];rfl
   have hky2:(k:Int)*(y:Int)=0:=by rw[hy0];simp
   obtain⟨n0,hn0⟩:∃n0:Int,(x:Int) + -(cc:Int)=n0:=⟨_,rfl⟩;simp (disch:=omega) only[wt,seval,reduceCtorEq,Nat.reduceEqDiff,hF,hcast,hjb,hx,hn0];refine aloop_by (λf H=>∃(nn:Int) (c2:Nat),nn+(k:Int)*(y:Int)+cc=x+65536*(c2:Int)/\nn<65536/\(c2=0\/0<=nn)/\c2<=2^41/\f 10=.iv (.int .i64 nn)/\f 8=.iv (.int .i64 (-(c2:Int)))/\f 9=.iv (.int .i64 j)/\f 0=.hs 0 1/\f 1=.iv (.sl (nums b))/\f 2=.iv (.int .i64 k)/\f 3=.iv (.int .i64 i)/\f 12=.iv (.int .i64 i)/\H 0=.blk false 1 3 1 (nums L)) (λf H=>(-intAt f 10).toNat) ?_ ?_
   .refine⟨n0,0,by omega,by omega,by omega,by omega,?_⟩;simp (disch:=omega) only[wt,seval,reduceCtorEq,Nat.reduceEqDiff,hF]
   rintro f H ⟨nn,c2,hne,hnn,h01,hc2,hF⟩;rw[intAt_of hF.1];simp (disch:=omega) only[wt,seval,reduceCtorEq,Nat.reduceEqDiff,hF];refine if_by (λhneg=>?_) (λhneg=>?_)
   .have hq:(65535-nn).tdiv 65536=(65535-nn)/65536:=Int.tdiv_eq_ediv_of_nonneg (by omega);obtain⟨m,hm⟩:∃m:Nat,(65535-nn)/65536=(m:Int):=⟨((65535-nn)/65536).toNat,by omega⟩;obtain rfl:c2=0:=by omega
    simp (disch:=omega) only[wt,seval,reduceCtorEq,Nat.reduceEqDiff,hF,hq,hm];refine⟨⟨nn+m*65536,m,by omega,by omega,by omega,by omega,rfl,by omega⟩,by omega⟩
   .obtain⟨s,rfl⟩:∃s:Nat,nn=(s:Int):=⟨nn.toNat,by omega⟩;have hs1:s+k*y+cc=x+65536*c2:=by
     have:((s+k*y+cc:Nat):Int)=((x+65536*c2:Nat):Int):=by rw[Int.natCast_add,Int.natCast_add,Int.natCast_mul,hne,Int.natCast_add,Int.natCast_mul];rfl
     exact Int.ofNat.inj this
    obtain⟨g1,g2,g3,g4,g5,g6⟩:=step s c2 hs1 (by omega) hc2;simp (disch:=omega) only[wt,seval,reduceCtorEq,Nat.reduceEqDiff,hF,hcast];exact⟨⟨j+1,c2,_,g1,g2,g3,g4,g5,g6,by omega,rfl,rfl⟩,by omega⟩
 .obtain hij:i+j=r.length:=by omega
  simp (disch:=omega) only[wt,seval,reduceCtorEq,Nat.reduceEqDiff,hF];have hbt:b.take j=b:=List.take_of_length_le (by omega);rw[hij,hbt,List.take_length,<-hl,List.take_length]at hv;rw[hl]at hv;rw[take_end hL hl hi hle hv]
theorem rplus_ok (a b:List Nat)(ha:Dig a)(hb:Dig b)(hla:a.length<=2^42)(hlb:b.length<=2^42):AC Tryz.prog 133 [cd a,cd b] none [cd (dn (max a.length b.length+(vl D16 a+vl D16 b)/D16^max a.length b.length) (vl D16 a+vl D16 b))]:=by
 refine AC.by_walk (rs:=[.tmp 4]) ords Tryz.func133 (by rfl) (by rfl) (by rfl) (by rfl) (by rfl) ?_;generalize hn:max a.length b.length=n at *;have hA:=vlD_lt ha;have hB:=vlD_lt hb;have hA2:D16^a.length<=D16^n:=Nat.pow_le_pow_right (by decide) (by omega);have hB2:D16^b.length<=D16^n:=Nat.pow_le_pow_right (by decide) (by omega);have hta:∀i,n<=i->vl D16 (a.take i)=vl D16 a:=λi hi=>by rw[List.take_of_length_le (by omega)]
 have htb:∀i,n<=i->vl D16 (b.take i)=vl D16 b:=λi hi=>by rw[List.take_of_length_le (by omega)]
 simp (disch:=omega) only[wt,seval,reduceCtorEq,Nat.reduceEqDiff];refine aloop_nil 5 5 3 1 (by simp (disch:=omega) only[wt,seval,reduceCtorEq,Nat.reduceEqDiff]) (λf H=>∃(i c st:Nat) (s:List Nat),(i<=n\/i=n+1/\D16^n<=vl D16 a+vl D16 b)/\c<=1/\Dig s/\s.length=i/\vl D16 s+D16^i*c=vl D16 (a.take i)+vl D16 (b.take i)/\f 7=.iv (.int .i64 i)/\f 0=.iv (.sl (nums a))/\f 1=.iv (.sl (nums b))/\f 5=.hs 5 st/\f 6=.iv (.int .i64 c)/\H 5=.blk false st 3 1 (nums s)) (λf H=>((n:Int)+2-intAt f 7).toNat) ?_ ?_
 .refine⟨0,0,1,[],.inl (by omega),by omega,Dig.nil,rfl,by simp[vl],?_⟩;simp (disch:=omega) only[wt,seval,reduceCtorEq,Nat.reduceEqDiff,ghostF,ghostH]
 rintro f H ⟨i,c,st,s,hi,hc,hS,hSl,hv,hF⟩;rw[intAt_of hF.1];simp (disch:=omega) only[wt,seval,reduceCtorEq,Nat.reduceEqDiff,hF];have hx:=ha.get i;have hy:=hb.get i;by_cases hgo:i<n\/0<c
 .have h3:(i:Int)<a.length\/(¬(i:Int)<a.length/\(i:Int)<b.length)\/(¬(i:Int)<a.length/\¬(i:Int)<b.length/\0<(c:Int)):=by omega
  have hin:i<=n:=by
   rcases hi with hi|⟨rfl,hi⟩
   .exact hi
   .rw[hta _ (by omega),htb _ (by omega)]at hv;have h5:=vlD_lt hS;rw[hSl]at h5;have:c=1:=by omega
    subst this;have:D16^(n+1)=D16^n*D16:=Nat.pow_succ ..;have:2*D16^n<=D16^n*D16:=by rw[Nat.mul_comm];exact Nat.mul_le_mul_left _ (by decide)
    omega
  have hnext:i+1<=n\/i+1=n+1/\D16^n<=vl D16 a+vl D16 b:=by
   by_cases hlt:i<n
   .exact .inl (by omega)
   .have:i=n:=by omega
    subst this;rw[hta _ (by omega),htb _ (by omega)]at hv;have:c=1:=by omega
    subst this;exact .inr ⟨rfl,by omega⟩
  have hstep:∀t,t=c+(a.getD i 0+b.getD i 0)->Dig (s++[t%65536])/\vl D16 (s++[t%65536])+D16^(i+1)*(t/65536)=vl D16 (a.take (i+1))+vl D16 (b.take (i+1)):=by
   intro t ht;refine⟨hS.snoc (Nat.mod_lt _ (by decide)),?_⟩;rw[vlD_snoc,vl_take_next,vl_take_next,hSl,Nat.pow_succ];exact carryD hv (by rw[ht];simp only[D16];omega)
  have e1:(c:Int)+((a.getD i 0:Nat)+(b.getD i 0:Nat):Int)=((c+(a.getD i 0+b.getD i 0):Nat):Int):=by omega
  simp only[D16]at hx hy;rcases h3 with h|⟨h,h'⟩|⟨h,h',h''⟩
  all_goals
   first|simp (disch:=omega) only[wt,seval,reduceCtorEq,Nat.reduceEqDiff,hF,h,h',h'']|simp (disch:=omega) only[wt,seval,reduceCtorEq,Nat.reduceEqDiff,hF,h,h']|simp (disch:=omega) only[wt,seval,reduceCtorEq,Nat.reduceEqDiff,hF,h]
   refine call_by ((rdigit_ok a i (by omega))) (by first|rfl|(simp only[tocvs,tocv,toboxes,tobox,updH_at,Nat.reduceEqDiff,↓reduceIte,hF];rfl)) (by simp) ?_;simp (disch:=omega) only[wt,seval,reduceCtorEq,Nat.reduceEqDiff,hF];refine call_by ((rdigit_ok b i (by omega))) (by first|rfl|(simp only[tocvs,tocv,toboxes,tobox,updH_at,Nat.reduceEqDiff,↓reduceIte,hF];rfl)) (by simp) ?_;simp (disch:=omega) only[wt,seval,reduceCtorEq,Nat.reduceEqDiff,hF];rw[e1];simp (disch:=omega) only[wt,seval,reduceCtorEq,Nat.reduceEqDiff,hF,hSl];obtain⟨a1,a2⟩:=hstep _ rfl;exact⟨⟨i+1,_,st+1,s++[_],hnext,by omega,a1,by simp[hSl],a2,by omega,rfl,rfl,rfl⟩,by omega⟩
 .have h1:¬(i:Int)<a.length:=by omega
  have h2:¬(i:Int)<b.length:=by omega
  have h3:¬0<(c:Int):=by omega
  simp (disch:=omega) only[wt,seval,reduceCtorEq,Nat.reduceEqDiff,hF,h1,h2,h3];have:c=0:=by omega
  subst this;rw[hta _ (by omega),htb _ (by omega),Nat.mul_zero,Nat.add_zero]at hv;have h5:=vlD_lt hS;rw[hSl]at h5;have e:s=dn (n+(vl D16 a+vl D16 b)/D16^n) (vl D16 a+vl D16 b):=by
   have hD:D16^(n+1)=D16^n*D16:=Nat.pow_succ ..;have hlen:i=n+(vl D16 a+vl D16 b)/D16^n:=by
    rcases hi with hi|⟨rfl,hi⟩
    .have:i=n:=by omega
     subst this;rw[Nat.div_eq_of_lt (by omega),Nat.add_zero]
    .rw[Nat.div_eq_of_lt_le (k:=1) (by omega) (by omega)]
   rw[<-hlen];exact eq_dn hS hSl (by rw[hv,Nat.mod_eq_of_lt (by omega)])
  rw[e]
theorem rminus_ok (a b:List Nat)(ha:Dig a)(hb:Dig b)(hla:a.length<=2^42)(hlb:b.length<=a.length)(hle:vl D16 b<=vl D16 a):AC Tryz.prog 134 [cd a,cd b] none [cd (dn a.length (vl D16 a-vl D16 b))]:=by
 refine AC.by_walk (rs:=[.tmp 4]) ords Tryz.func134 (by rfl) (by rfl) (by rfl) (by rfl) (by rfl) ?_;simp (disch:=omega) only[wt,seval,reduceCtorEq,Nat.reduceEqDiff];refine aloop_nil 5 5 3 1 (by simp (disch:=omega) only[wt,seval,reduceCtorEq,Nat.reduceEqDiff]) (λf H=>∃(i c st:Nat) (s:List Nat),i<=a.length/\c<=1/\Dig s/\s.length=i/\vl D16 s+vl D16 (b.take i)=vl D16 (a.take i)+D16^i*c/\f 7=.iv (.int .i64 i)/\f 0=.iv (.sl (nums a))/\f 1=.iv (.sl (nums b))/\f 5=.hs 5 st/\f 6=.iv (.int .i64 c)/\H 5=.blk false st 3 1 (nums s)) (λf H=>(a.length-intAt f 7).toNat) ?_ ?_
 .refine⟨0,0,1,[],by omega,by omega,Dig.nil,rfl,by simp[vl],?_⟩;simp (disch:=omega) only[wt,seval,reduceCtorEq,Nat.reduceEqDiff,ghostF,ghostH]
 rintro f H ⟨i,c,st,s,hi,hc,hS,hSl,hv,hF⟩;rw[intAt_of hF.1];simp (disch:=omega) only[wt,seval,reduceCtorEq,Nat.reduceEqDiff,hF];refine if_by (λhlt=>?_) (λhlt=>?_)
 .have hx:=ha.get i;have hy:=hb.get i;have hstep:∀t c',t<D16->t+b.getD i 0+c=a.getD i 0+D16*c'->Dig (s++[t])/\vl D16 (s++[t])+vl D16 (b.take (i+1))=vl D16 (a.take (i+1))+D16^(i+1)*c':=by
   intro t c' ht h;refine⟨hS.snoc ht,?_⟩;rw[vlD_snoc,vl_take_next,vl_take_next,hSl,Nat.pow_succ];exact borrowD hv h
  simp only[D16]at hx hy hstep;simp (disch:=omega) only[wt,seval,reduceCtorEq,Nat.reduceEqDiff,hF];refine call_by ((rdigit_ok a i (by omega))) (by first|rfl|(simp only[tocvs,tocv,toboxes,tobox,updH_at,Nat.reduceEqDiff,↓reduceIte,hF];rfl)) (by simp) ?_;simp (disch:=omega) only[wt,seval,reduceCtorEq,Nat.reduceEqDiff,hF];refine call_by ((rdigit_ok b i (by omega))) (by first|rfl|(simp only[tocvs,tocv,toboxes,tobox,updH_at,Nat.reduceEqDiff,↓reduceIte,hF];rfl)) (by simp) ?_;simp (disch:=omega) only[wt,seval,reduceCtorEq,Nat.reduceEqDiff,hF];refine if_by (λhneg=>?_) (λhneg=>?_)
  .have e1:(a.getD i 0:Int)-(b.getD i 0:Int)-(c:Int)+65536=((a.getD i 0+65536-b.getD i 0-c:Nat):Int):=by omega
   simp (disch:=omega) only[wt,seval,reduceCtorEq,Nat.reduceEqDiff,hF];rw[e1];simp (disch:=omega) only[wt,seval,reduceCtorEq,Nat.reduceEqDiff,hF,hSl];obtain⟨a1,a2⟩:=hstep (a.getD i 0+65536-b.getD i 0-c) 1 (by omega) (by omega);exact⟨⟨i+1,1,st+1,_,by omega,by omega,a1,by simp[hSl],a2,by omega,rfl,rfl,rfl⟩,by omega⟩
  .have e1:(a.getD i 0:Int)-(b.getD i 0:Int)-(c:Int)=((a.getD i 0-b.getD i 0-c:Nat):Int):=by omega
   rw[e1];simp (disch:=omega) only[wt,seval,reduceCtorEq,Nat.reduceEqDiff,hF,hSl];obtain⟨a1,a2⟩:=hstep (a.getD i 0-b.getD i 0-c) 0 (by omega) (by omega);exact⟨⟨i+1,0,st+1,_,by omega,by omega,a1,by simp[hSl],a2,by omega,rfl,rfl,rfl⟩,by omega⟩
 .simp (disch:=omega) only[wt,seval,reduceCtorEq,Nat.reduceEqDiff,hF];have hin:i=a.length:=by omega
  rw[List.take_of_length_le (by omega),List.take_of_length_le (by omega)]at hv;have h5:=vlD_lt hS;rw[hSl]at h5;have:c=0\/c=1:=by omega
  have e:s=dn a.length (vl D16 a-vl D16 b):=by
   refine eq_dn hS (by omega) ?_;rw[<-hin];rcases this with rfl|rfl
   .rw[Nat.mod_eq_of_lt (by omega)];omega
   .omega
  rw[e]
def cmpN (x y:Nat):Int:=if x<y then -1 else if y<x then 1 else 0
theorem top_lt {x y i:Nat}(h:x/D16^(i+1)=y/D16^(i+1))(hd:x/D16^i%D16<y/D16^i%D16):x<y:=by
 have e:∀z:Nat,z/D16^i=D16*(z/D16^(i+1))+z/D16^i%D16:=λz=>by
  rw[Nat.pow_succ,<-Nat.div_div_eq_div_mul];exact(Nat.div_add_mod _ _).symm
 have h1:=e x;have h2:=e y;rw[h]at h1;rcases Nat.lt_or_ge x y with h3|h3
 .exact h3
 .have:=Nat.div_le_div_right (c:=D16^i) h3;omega
theorem rcompare_ok (a b:List Nat)(ha:Dig a)(hb:Dig b)(hla:a.length<=2^42)(hlb:b.length<=2^42):AC Tryz.prog 132 [cd a,cd b] none [ci (cmpN (vl D16 a) (vl D16 b))]:=by
 refine AC.by_walk (rs:=[.tmp 4]) ords Tryz.func132 (by rfl) (by rfl) (by rfl) (by rfl) (by rfl) ?_;generalize hn:max a.length b.length=n at *;have hnI:max (a.length:Int) (b.length:Int)=(n:Int):=by omega
 have h0:vl D16 a/D16^n=vl D16 b/D16^n:=by
  have hA:=vlD_lt ha;have hB:=vlD_lt hb;have hA2:D16^a.length<=D16^n:=Nat.pow_le_pow_right (by decide) (by omega);have hB2:D16^b.length<=D16^n:=Nat.pow_le_pow_right (by decide) (by omega);rw[Nat.div_eq_of_lt (by omega),Nat.div_eq_of_lt (by omega)]
 simp (disch:=omega) only[wt,seval,reduceCtorEq,Nat.reduceEqDiff,hnI];refine aloop_by (λf H=>∃(i:Nat),i<=n/\vl D16 a/D16^i=vl D16 b/D16^i/\f 5=.iv (.int .i64 ((i:Int)-1))/\f 0=.iv (.sl (nums a))/\f 1=.iv (.sl (nums b))) (λf H=>(intAt f 5+1).toNat) ?_ ?_
 .refine⟨n,by omega,h0,?_⟩;simp (disch:=omega) only[wt,seval,reduceCtorEq,Nat.reduceEqDiff]
 rintro f H ⟨i,hi,hv,hF⟩;rw[intAt_of hF.1];simp (disch:=omega) only[wt,seval,reduceCtorEq,Nat.reduceEqDiff,hF];refine if_by (λhlt=>?_) (λhlt=>?_)
 .obtain⟨j,rfl⟩:∃j,i=j+1:=⟨i-1,by omega⟩;have ej:((j+1:Nat):Int)-1=(j:Int):=by omega
  have hx:=dig_at ha j;have hy:=dig_at hb j;rw[ej]at hF;simp (disch:=omega) only[wt,seval,reduceCtorEq,Nat.reduceEqDiff,hF];refine call_by ((rdigit_ok a j (by omega))) (by first|rfl|(simp only[tocvs,tocv,toboxes,tobox,updH_at,Nat.reduceEqDiff,↓reduceIte,hF];rfl)) (by simp) ?_;simp (disch:=omega) only[wt,seval,reduceCtorEq,Nat.reduceEqDiff,hF];refine call_by ((rdigit_ok b j (by omega))) (by first|rfl|(simp only[tocvs,tocv,toboxes,tobox,updH_at,Nat.reduceEqDiff,↓reduceIte,hF];rfl)) (by simp) ?_;simp (disch:=omega) only[wt,seval,reduceCtorEq,Nat.reduceEqDiff,hF];refine if_by (λh1=>?_) (λh1=>?_)
  .simp (disch:=omega) only[wt,seval,reduceCtorEq,Nat.reduceEqDiff,hF];have:vl D16 a<vl D16 b:=top_lt hv (by omega);rw[cmpN,if_pos this]
  simp (disch:=omega) only[wt,seval,reduceCtorEq,Nat.reduceEqDiff,hF];refine if_by (λh2=>?_) (λh2=>?_)
  .simp (disch:=omega) only[wt,seval,reduceCtorEq,Nat.reduceEqDiff,hF];have:vl D16 b<vl D16 a:=top_lt hv.symm (by omega);rw[cmpN,if_neg (by omega),if_pos this]
  simp (disch:=omega) only[wt,seval,reduceCtorEq,Nat.reduceEqDiff,hF];refine⟨⟨j,by omega,?_,rfl⟩,by omega⟩;have e:∀z:Nat,z/D16^j=D16*(z/D16^(j+1))+z/D16^j%D16:=λz=>by
   rw[Nat.pow_succ,<-Nat.div_div_eq_div_mul];exact(Nat.div_add_mod _ _).symm
  rw[e (vl D16 a),e (vl D16 b),hv];omega
 .simp (disch:=omega) only[wt,seval,reduceCtorEq,Nat.reduceEqDiff,hF];have:i=0:=by omega
  subst this;simp at hv;rw[hv,cmpN];simp
theorem rcmp_ok (a b:List Nat)(ha:Lim a)(hb:Lim b)(hla:a.length<=2^40)(hlb:b.length<=2^40):AC Tryz.prog 120 [cl a,cl b] none [ci (cmpN (nv a) (nv b))]:=by
 refine AC.by_walk (rs:=[.tmp 4]) ords Tryz.func120 (by rfl) (by rfl) (by rfl) (by rfl) (by rfl) ?_;have h1:=dgD_len ha;have h2:=dgD_len hb;simp (disch:=omega) only[wt,seval,reduceCtorEq,Nat.reduceEqDiff];refine call_by ((rdig_ok a ha hla)) (by rfl) (by simp) ?_;simp (disch:=omega) only[wt,seval,reduceCtorEq,Nat.reduceEqDiff];refine call_by ((rdig_ok b hb hlb)) (by rfl) (by simp) ?_;simp (disch:=omega) only[wt,seval,reduceCtorEq,Nat.reduceEqDiff];have:=rcompare_ok (dgD (nv a)) (dgD (nv b)) (dgD_dig _) (dgD_dig _) (by omega) (by omega);rw[vl_dgD,vl_dgD]at this;refine call_by (this) (by rfl) (by simp) ?_;simp (disch:=omega) only[wt,seval,reduceCtorEq,Nat.reduceEqDiff]
theorem vlD_drop {r:List Nat}(h:Dig r)(j:Nat):vl D16 (r.drop j)=vl D16 r/D16^j:=by
 rcases Nat.lt_or_ge r.length j with hj|hj
 .rw[List.drop_eq_nil_of_le (by omega),Nat.div_eq_of_lt (Nat.lt_of_lt_of_le (vlD_lt h) (Nat.pow_le_pow_right (by decide) (by omega)))];rfl
 .rw[vl_split D16 r hj,Nat.add_mul_div_left _ _ (D_pow_pos j),Nat.div_eq_of_lt,Nat.zero_add];have:=vlD_lt (h.take j);rwa [List.length_take,Nat.min_eq_left hj]at this
theorem vlD_step {r:List Nat}(h:Dig r)(j:Nat):vl D16 r/D16^j=vl D16 r/D16^(j+1)*65536+r.getD j 0:=by
 rw[dig_at h,Nat.pow_succ,<-Nat.div_div_eq_div_mul];have:=Nat.div_add_mod (vl D16 r/D16^j) D16;simp only[D16]at this ⊢;omega
structure Dvr (b:List Nat):Prop where
 dig:Dig b
 pos:0<b.length
 top:b.getD (b.length-1) 0≠0
theorem Dvr.bounds {b:List Nat}(h:Dvr b):D16^(b.length-1)<=vl D16 b/\vl D16 b<(b.getD (b.length-1) 0+1)*D16^(b.length-1):=by
 have e:=vl_take_next D16 b (b.length-1);rw[show b.length-1+1=b.length by have:=h.pos;omega,List.take_length]at e;have h1:=vlD_lt (h.dig.take (b.length-1));rw[List.length_take,Nat.min_eq_left (by omega)]at h1;have h2:=Nat.mul_le_mul_left (D16^(b.length-1)) (Nat.pos_of_ne_zero h.top);rw[e];constructor
 .omega
 .rw[Nat.add_mul,Nat.one_mul,Nat.mul_comm (b.getD _ _)];omega
theorem Dvr.vpos {b:List Nat}(h:Dvr b):0<vl D16 b:=Nat.lt_of_lt_of_le (D_pow_pos _) h.bounds.1
def kOf (R t s:Nat):Nat:=max 1 (R/D16^s/t)
theorem kOf_le {b:List Nat}(h:Dvr b){R i:Nat}(hh:vl D16 b*D16^i<=R):kOf R (b.getD (b.length-1) 0+1) (i+b.length-1)*vl D16 b*D16^i<=R:=by
 have hb:=h.bounds.2;have hp:=h.pos;generalize b.getD (b.length-1) 0+1=t at *;unfold kOf;rcases Nat.le_total (R/D16^(i+b.length-1)/t) 1 with h1|h1
 .rw[Nat.max_eq_left h1,Nat.one_mul];exact hh
 .rw[Nat.max_eq_right h1];have e1:R/D16^(i+b.length-1)/t*t<=R/D16^(i+b.length-1):=Nat.div_mul_le_self _ _;have e2:R/D16^(i+b.length-1)*D16^(i+b.length-1)<=R:=Nat.div_mul_le_self _ _;generalize R/D16^(i+b.length-1)/t=q at *;generalize R/D16^(i+b.length-1)=x at *;have e3:q*vl D16 b<=q*(t*D16^(b.length-1)):=Nat.mul_le_mul_left _ (Nat.le_of_lt hb);have e4:q*(t*D16^(b.length-1))<=x*D16^(b.length-1):=by rw[<-Nat.mul_assoc];exact Nat.mul_le_mul_right _ e1
  have e5:x*D16^(b.length-1)*D16^i=x*D16^(i+b.length-1):=by rw[Nat.mul_assoc,<-Nat.pow_add];congr 2;omega
  exact Nat.le_trans (Nat.mul_le_mul_right _ (Nat.le_trans e3 e4)) (by rw[e5];exact e2)
theorem have_lt {b:List Nat}(h:Dvr b){R i:Nat}(hR:R<vl D16 b*D16^(i+1)):R/D16^(i+b.length-1)<4294967296/\kOf R (b.getD (b.length-1) 0+1) (i+b.length-1)<=65536:=by
 have hb:=h.bounds.2;have hp:=h.pos;have ht:b.getD (b.length-1) 0+1<=65536:=by have:=h.dig.get (b.length-1);simp only[D16]at this;omega
 generalize hte:b.getD (b.length-1) 0+1=t at *;have h1:R<t*D16*D16^(i+b.length-1):=by
  refine Nat.lt_of_lt_of_le hR ?_;have e:t*D16*D16^(i+b.length-1)=t*D16^(b.length-1)*D16^(i+1):=by
   rw[Nat.mul_assoc,Nat.mul_assoc,<-Nat.pow_add,<-Nat.pow_succ']
   congr 2;omega
  rw[e];exact Nat.mul_le_mul_right _ (Nat.le_of_lt hb)
 have h2:R/D16^(i+b.length-1)<t*D16:=(Nat.div_lt_iff_lt_mul (D_pow_pos _)).mpr h1;have h3:t*D16<=65536*65536:=Nat.mul_le_mul_right _ ht;refine⟨Nat.lt_of_lt_of_le h2 h3,?_⟩;unfold kOf;refine Nat.max_le.mpr ⟨by omega,?_⟩;exact Nat.le_of_lt (Nat.div_lt_of_lt_mul h2)
theorem higher_ok (r b:List Nat)(i:Nat)(hr:Dig r)(hb:Dig b)(hl:r.length<=2^42)(hlb:b.length<=2^42)(hi:i<=r.length) :
  AC Tryz.prog 116 [cd r,cd b,ci i] none [cb (decide (vl D16 b*D16^i<=vl D16 r))]:=by
 refine AC.by_walk (rs:=[.tmp 6]) ords Tryz.func116 (by rfl) (by rfl) (by rfl) (by rfl) (by rfl) ?_;have e:List.take ((r.length:Int)-(i:Int)).toNat (List.drop i r)=List.drop i r:=List.take_of_length_le (by rw[List.length_drop];omega);simp (disch:=omega) only[wt,seval,reduceCtorEq,Nat.reduceEqDiff,e];have m:=rcompare_ok (r.drop i) b (λx hx=>hr x (List.mem_of_mem_drop hx)) hb (by rw[List.length_drop];omega) hlb;rw[vlD_drop hr]at m;refine call_by (m) (by rfl) (by simp) ?_;simp (disch:=omega) only[wt,seval,reduceCtorEq,Nat.reduceEqDiff];rw[decide_eq_decide,<-Nat.le_div_iff_mul_le (D_pow_pos i)];unfold cmpN;split
 .omega
 .split<;>omega
def hval (H:Hp)(h:Nat):Nat:=match H h with
 |.blk _ _ _ _ rows=>vl D16 (rows.map λr=>match r with | [.int _ n]=>n.toNat|_=>0)
 |_=>0
theorem hval_of {H:Hp}{h st e sz:Nat}{fz:Bool}{l:List Nat}(hh:H h=.blk fz st e sz (nums l)):hval H h=vl D16 l:=by
 unfold hval;rw[hh];simp only[nums,List.map_map]
 congr 1
 conv=>rhs;rw[<-List.map_id l]
 exact List.map_congr_left λx _=>by simp
def hlen (H:Hp)(h:Nat):Nat:=match H h with
 |.blk _ _ _ _ rows=>rows.length
 |_=>0
theorem hlen_of {H:Hp}{h st e sz:Nat}{fz:Bool}{rows:List (List IV)}(hh:H h=.blk fz st e sz rows):hlen H h=rows.length:=by unfold hlen;rw[hh]
theorem q_step {q:List Nat}{i k:Nat}(h:i<q.length):vl D16 (q.set i (q.getD i 0+k))=vl D16 q+k*D16^i:=by
 have e1:=vl_split D16 (q.set i (q.getD i 0+k)) (k:=i+1) (by simp;omega);have e2:=vl_split D16 q (k:=i+1) (by omega);rw[drop_set_gt (by omega),vl_take_set D16 h]at e1;rw[vl_take_next]at e2;rw[e1,e2,Nat.mul_add,Nat.mul_comm k];omega
theorem divide_ok5 (a b:List Nat)(ha:Dig a)(hb:Dvr b)(hla:a.length<=2^41)(hlb:b.length<=2^41)(hab:b.length<=a.length) :
  AC Tryz.prog 98 [cd a,cd b] none [cd (dn (a.length-b.length+1) (vl D16 a/vl D16 b)),cd (dgD (vl D16 a%vl D16 b))]:=by
 refine AC.by_walk (rs:=[.tmp 4,.tmp 5]) ords Tryz.func98 (by rfl) (by rfl) (by rfl) (by rfl) (by rfl) ?_;have hp:=hb.pos;have hm:((a.length:Int)-(b.length:Int)+1).toNat=a.length-b.length+1:=by omega
 have ht1:((b.length:Int)-1).toNat=b.length-1:=by omega
 have hlt:¬((a.length:Int)<(b.length:Int)):=by omega
 have htop:=hb.dig.get (b.length-1);have htop2:b.getD (b.length-1) 0<65536:=htop;have hm2:(((a.length-b.length+1:Nat):Int))=(a.length:Int)-(b.length:Int)+1:=by omega
 simp (disch:=omega) only[wt,seval,reduceCtorEq,Nat.reduceEqDiff,hm,ht1,hlt];have hVlt:=vlD_lt ha;have hT:=hb.bounds.1;have hTpos:=hb.vpos;have hstart:vl D16 a<vl D16 b*D16^(a.length-b.length+1):=by
  refine Nat.lt_of_lt_of_le hVlt ?_;have e:D16^a.length=D16^(b.length-1)*D16^(a.length-b.length+1):=by rw[<-Nat.pow_add];congr 1;omega
  rw[e];exact Nat.mul_le_mul_right _ hT
 generalize hme:a.length-b.length+1=m at *;have hml:m<=2^42:=by omega
 generalize hV:vl D16 a=V at *;refine aloop_by (λf H=>∃(i1 s13 s28:Nat) (r q:List Nat),i1<=m/\Dig r/\Dig q/\q.length=m/\vl D16 q*vl D16 b+vl D16 r=V/\vl D16 r<vl D16 b*D16^i1/\i1<=r.length+1/\r.length<=2^42/\(∀j,j<i1->q.getD j 0=0)/\(i1=0->r=dgD (vl D16 r))/\f 9=.iv (.int .i64 ((i1:Int)-1))/\f 6=.hs 13 s13/\f 7=.hs 28 s28/\f 1=.iv (.sl (nums b))/\f 8=.iv (.int .i64 ((b.getD (b.length-1) 0:Nat)+1))/\H 13=.blk false s13 3 1 (nums r)/\H 28=.blk false s28 3 1 (nums q)) (λf H=>(intAt f 9+1).toNat) ?_ ?_
 .refine⟨m,2,1,a,List.replicate m 0,Nat.le_refl _,ha,Dig.replicate _,by simp,by rw[vl_replicate,Nat.zero_mul,Nat.zero_add,hV],by rw[hV];exact hstart,by omega,by omega,λj _=>by simp[List.getD,List.getElem?_replicate];split<;>rfl,by omega,?_⟩;simp (disch:=omega) only[wt,seval,reduceCtorEq,Nat.reduceEqDiff,nums_rep]
 rintro f H ⟨i1,s13,s28,r,q,hi1,hr,hq,hql,hv,hlt1,hil,hrl,hz,hfin,hF⟩;rw[intAt_of hF.1];simp (disch:=omega) only[wt,seval,reduceCtorEq,Nat.reduceEqDiff,hF];refine if_by (λhge=>?_) (λhge=>?_)
 .obtain⟨i,rfl⟩:∃i,i1=i+1:=⟨i1-1,by omega⟩;have hie:((i+1:Nat):Int)-1=(i:Int):=by omega
  rw[hie]at hF;simp (disch:=omega) only[wt,seval,reduceCtorEq,Nat.reduceEqDiff,hF,hie];refine aloop_by (λf H=>∃(s13 s28:Nat) (r q:List Nat),(Dig r/\Dig q/\q.length=m/\vl D16 q*vl D16 b+vl D16 r=V/\vl D16 r+q.getD i 0*vl D16 b*D16^i<vl D16 b*D16^(i+1)/\i<=r.length/\r.length<=2^42/\∀j,j<i->q.getD j 0=0) /\
   f 9=.iv (.int .i64 i)/\f 6=.hs 13 s13/\f 7=.hs 28 s28/\f 1=.iv (.sl (nums b))/\f 8=.iv (.int .i64 ((b.getD (b.length-1) 0:Nat)+1))/\H 13=.blk false s13 3 1 (nums r)/\H 28=.blk false s28 3 1 (nums q)) (λf H=>hval H 13) ?_ ?_
  .refine⟨s13,s28,r,q,⟨hr,hq,hql,hv,?_,by omega,hrl,λj hj=>hz j (by omega)⟩,?_⟩
   .rw[hz i (by omega),Nat.zero_mul,Nat.zero_mul,Nat.add_zero];exact hlt1
   .simp (disch:=omega) only[wt,seval,reduceCtorEq,Nat.reduceEqDiff,hF]
  clear hF hfin hil hrl hz hlt1 hv hql hq hr;clear r q;rintro f H ⟨s13,s28,r,q,⟨hr,hq,hql,hv,hlt1,hil,hrl,hz⟩,hF⟩;rw[hval_of hF.2.2.2.2.2.1];simp (disch:=omega) only[wt,seval,reduceCtorEq,Nat.reduceEqDiff,hF];have hlt2:vl D16 r<vl D16 b*D16^(i+1):=by omega
  obtain⟨hhl,hkl⟩:=have_lt hb hlt2;refine call_flat ((higher_ok r b i hr hb.dig hrl (by omega) hil)) (by first|rfl|(simp only[tocvs,tocv,toboxes,tobox,updH_at,Nat.reduceEqDiff,↓reduceIte,hF];rfl)) (by simp) (.inr (by simp[FlatRes,FlatCV,FlatI])) ?_;simp (disch:=omega) only[wt,seval,reduceCtorEq,Nat.reduceEqDiff,hF];by_cases hh:vl D16 b*D16^i<=vl D16 r
  .have hlr:i+b.length<=r.length:=by
    have h1:D16^(b.length-1+i)<D16^r.length:=by
     rw[Nat.pow_add];exact Nat.lt_of_le_of_lt (Nat.le_trans (Nat.mul_le_mul_right _ hT) hh) (vlD_lt hr)
    have h2:=(Nat.pow_lt_pow_iff_right (by decide:1<D16)).mp h1;omega
   obtain⟨hx,hxe⟩:∃g:Nat->Nat,g=λj=>vl D16 r/D16^j:=⟨_,rfl⟩
   have hz0:hx r.length=0:=by rw[hxe];exact Nat.div_eq_of_lt (vlD_lt hr)
   have hxs:∀j,hx (j+1)*65536+r.getD j 0=hx j:=λj=>by rw[hxe];exact(vlD_step hr j).symm
   have hxm:∀j,i+b.length<=j+1->hx j<=hx (i+b.length-1):=λj hj=>by rw[hxe];exact Nat.div_le_div_left (Nat.pow_le_pow_right (by decide) (by omega)) (D_pow_pos _)
   have hxl:hx (i+b.length-1)<4294967296:=by rw[hxe];exact hhl
   have hkle:=kOf_le hb hh;have hkd0:kOf (vl D16 r) (b.getD (b.length-1) 0+1) (i+b.length-1)=max 1 (hx (i+b.length-1)/(b.getD (b.length-1) 0+1)):=by rw[hxe];rfl
   clear hhl;simp (disch:=omega) only[wt,seval,reduceCtorEq,Nat.reduceEqDiff,hF,hh];refine aloop_by (λf H=>∃(j1:Nat),i+b.length<=j1+1/\j1<=r.length/\f 11=.iv (.int .i64 ((j1:Int)-1))/\f 10=.iv (.int .i64 (hx j1:Nat))/\f 9=.iv (.int .i64 i)/\f 6=.hs 13 s13/\f 7=.hs 28 s28/\f 1=.iv (.sl (nums b))/\f 8=.iv (.int .i64 ((b.getD (b.length-1) 0:Nat)+1))/\H 13=.blk false s13 3 1 (nums r)/\H 28=.blk false s28 3 1 (nums q)) (λf H=>(intAt f 11+1).toNat) ?_ ?_
   .refine⟨r.length,by omega,Nat.le_refl _,?_⟩;simp (disch:=omega) only[wt,seval,reduceCtorEq,Nat.reduceEqDiff,hF,hz0]
   rintro f H ⟨j1,hj1,hj2,hF⟩;rw[intAt_of hF.1];simp (disch:=omega) only[wt,seval,reduceCtorEq,Nat.reduceEqDiff,hF];have hdl:=hxm j1 hj1;refine if_by (λhge2=>?_) (λhge2=>?_)
   .obtain⟨j,rfl⟩:∃j,j1=j+1:=⟨j1-1,by omega⟩;have hje:((j+1:Nat):Int)-1=(j:Int):=by omega
    have hrd:r.getD j 0<65536:=hr.get j;have hs1:=hxs j;have hs2:=hxm j (by omega);have hst:(hx (j+1):Int)*65536+((r.getD j 0:Nat):Int)=(hx j:Int):=by omega
    rw[hje]at hF hge2;simp (disch:=omega) only[wt,seval,reduceCtorEq,Nat.reduceEqDiff,hF,hje,hst];exact⟨⟨j,by omega,by omega,rfl,rfl⟩,by omega⟩
   .obtain rfl:j1=i+b.length-1:=by omega
    generalize hx (i+b.length-1)=x at *;have hq0:((x:Nat):Int).tdiv (((b.getD (b.length-1) 0:Nat):Int)+1)=((x/(b.getD (b.length-1) 0+1):Nat):Int):=by
     rw[Int.tdiv_eq_ediv_of_nonneg (by omega)];rfl
    have hq1:x/(b.getD (b.length-1) 0+1)<=x:=Nat.div_le_self _ _;generalize x/(b.getD (b.length-1) 0+1)=y at *;generalize hkd:kOf (vl D16 r) (b.getD (b.length-1) 0+1) (i+b.length-1)=k at *;have hq2:max (1:Int) ((y:Nat):Int)=((k:Nat):Int):=by omega
    have hk1:1<=k:=by omega
    have hiq:i<q.length:=by omega
    have hlv:vl D16 (lessD r b k i)=vl D16 r-k*vl D16 b*D16^i:=by
     unfold lessD;rw[vl_dn,Nat.mod_eq_of_lt (Nat.lt_of_le_of_lt (Nat.sub_le _ _) (vlD_lt hr))]
    have hprod:D16^i<=k*vl D16 b*D16^i:=by
     have:=Nat.mul_le_mul_right (D16^i) (Nat.mul_le_mul hk1 hTpos);simpa using this
    have hDi:=D_pow_pos i;have hqs:=q_step (k:=k) hiq;have hkT:k*D16^i*vl D16 b=k*vl D16 b*D16^i:=Nat.mul_right_comm _ _ _;have hqiT:(q.getD i 0+k)*vl D16 b*D16^i=q.getD i 0*vl D16 b*D16^i+k*vl D16 b*D16^i:=by rw[Nat.add_mul,Nat.add_mul]
    have hqi:q.getD i 0+k<D16:=by
     have h1:(q.getD i 0+k)*vl D16 b*D16^i<D16*vl D16 b*D16^i:=by
      rw[hqiT];have:D16*vl D16 b*D16^i=vl D16 b*D16^(i+1):=by rw[Nat.pow_succ];ac_rfl
      rw[this];omega
     exact Nat.lt_of_mul_lt_mul_right (Nat.lt_of_mul_lt_mul_right h1)
    have hqk:((q.getD i 0:Nat):Int)+(k:Int)=((q.getD i 0+k:Nat):Int):=by omega
    have hqi2:q.getD i 0+k<65536:=hqi;have hqset:(q.set i (q.getD i 0+k)).getD i 0=q.getD i 0+k:=by simp[List.getD,hiq]
    simp (disch:=omega) only[wt,seval,reduceCtorEq,Nat.reduceEqDiff,hF,hq0,hq2];refine callw_by ((take_ok r b k i hr hb.dig (by omega) (by omega) hlr hkle)) (by first|rfl|(simp (disch:=omega) only[wt,seval,reduceCtorEq,Nat.reduceEqDiff,hF,hqk];done)) (by first|rfl|(simp (disch:=omega) only[wt,seval,reduceCtorEq,Nat.reduceEqDiff,hF,hqk];done)) (by first|rfl|(simp only[tocvs,tocv,List.set_cons_zero,List.set_cons_succ,hF,hqk];rfl)) (by simp) (by simp) ?_;simp (disch:=omega) only[wt,seval,reduceCtorEq,Nat.reduceEqDiff,hF,hqk];refine⟨⟨s13,s28,lessD r b k i,q.set i (q.getD i 0+k),⟨dn_dig _ _,hq.set hqi,by simpa using hql,?_,?_,?_,?_,λj hj=>?_⟩,rfl,rfl,rfl,rfl⟩,?_⟩
    .rw[hqs,Nat.add_mul,hkT,hlv];omega
    .rw[hqset,hqiT,hlv];omega
    .rw[lessD,dn_len];exact hil
    .rw[lessD,dn_len];exact hrl
    .have:(q.set i (q.getD i 0+k)).getD j 0=q.getD j 0:=by simp only[List.getD,List.getElem?_set,show ¬i=j by omega,if_false]
     rw[this];exact hz j hj
    .rw[hval_of (st:=s13) (e:=3) (sz:=1) (fz:=false) (l:=lessD r b k i) (by simp only[updH_at];rfl),hlv];omega
  .have mc:=rcut_ok r (by omega);rw[dgD_of hr]at mc;have hdl:(dgD (vl D16 r)).length<=r.length:=by
    rw[<-dgD_of hr,List.length_take];omega
   have hRi:vl D16 r<vl D16 b*D16^i:=by omega
   simp (disch:=omega) only[wt,seval,reduceCtorEq,Nat.reduceEqDiff,hF,hh];refine call_by (mc) (by first|rfl|(simp only[tocvs,tocv,toboxes,tobox,updH_at,Nat.reduceEqDiff,↓reduceIte,hF];rfl)) (by simp) ?_;simp (disch:=omega) only[wt,seval,reduceCtorEq,Nat.reduceEqDiff,hF];refine aloop_w (.ren 6 82 13 _ _ _ _ (by rfl) (by rfl) (by decide) (.refl _ _)) (λf H=>∃(t13 n:Nat),(n=0\/(dgD (vl D16 r)).length+n<=i)/\f 9=.iv (.int .i64 i)/\f 6=.hs 13 t13/\f 7=.hs 28 s28/\f 1=.iv (.sl (nums b))/\f 8=.iv (.int .i64 ((b.getD (b.length-1) 0:Nat)+1)) /\
    H 13=.blk false t13 3 1 (nums (dgD (vl D16 r)++List.replicate n 0))/\H 28=.blk false s28 3 1 (nums q)) (λf H=>i-hlen H 13) ?_ ?_
   .refine⟨s13+1,0,.inl rfl,?_⟩;simp (disch:=omega) only[wt,seval,reduceCtorEq,Nat.reduceEqDiff,hF,List.replicate_zero]
   rintro f H ⟨t13,n,hn,hF⟩;rw[hlen_of hF.2.2.2.2.2.1];have hll:(dgD (vl D16 r)++List.replicate n 0).length=(dgD (vl D16 r)).length+n:=by simp
   simp (disch:=omega) only[wt,seval,reduceCtorEq,Nat.reduceEqDiff,hF,hll];refine if_by (λhge2=>?_) (λhge2=>?_)
   .simp (disch:=omega) only[wt,seval,reduceCtorEq,Nat.reduceEqDiff,hF,hll];have e1:nums (dgD (vl D16 r)++List.replicate n 0)++[[IV.int IntKind.i64 0]]=nums (dgD (vl D16 r)++List.replicate (n+1) 0):=by
     rw[List.replicate_succ',<-List.append_assoc,<-nums_snoc];rfl
    rw[e1];refine⟨⟨t13+1,n+1,.inr (by omega),rfl,rfl⟩,?_⟩;rw[hlen_of (st:=t13+1) (e:=3) (sz:=1) (fz:=false) (rows:=nums (dgD (vl D16 r)++List.replicate (n+1) 0)) (by simp only[updH_at];rfl),nums_len];simp only[List.length_append,List.length_replicate];omega
   .simp (disch:=omega) only[wt,seval,reduceCtorEq,Nat.reduceEqDiff,hF,hll];have hvv:vl D16 (dgD (vl D16 r)++List.replicate n 0)=vl D16 r:=by rw[vl_append,vl_replicate,Nat.mul_zero,Nat.add_zero,vl_dgD]
    refine⟨⟨i,t13,s28,dgD (vl D16 r)++List.replicate n 0,q,by omega,(dgD_dig _).append (Dig.replicate _),hq,hql,by rw[hvv];exact hv,by rw[hvv];exact hRi,by omega,by omega,hz,λh0=>?_,rfl,rfl,rfl,rfl,rfl⟩,by omega⟩;obtain rfl:n=0:=by omega
    rw[hvv,List.replicate_zero,List.append_nil]
 .obtain rfl:i1=0:=by omega
  simp (disch:=omega) only[wt,seval,reduceCtorEq,Nat.reduceEqDiff,hF];have hr0:vl D16 r<vl D16 b:=by simpa using hlt1
  have hqv:vl D16 q=V/vl D16 b:=by
   rw[<-hv,Nat.add_comm,Nat.add_mul_div_right _ _ hTpos,Nat.div_eq_of_lt hr0,Nat.zero_add]
  have hrv:vl D16 r=V%vl D16 b:=by
   rw[<-hv,Nat.add_comm,Nat.add_mul_mod_self_right,Nat.mod_eq_of_lt hr0]
  have e1:q=dn m (V/vl D16 b):=by
   refine eq_dn hq hql ?_;rw[<-hqv];have:=vlD_lt hq;rw[hql]at this;rw[Nat.mod_eq_of_lt this]
  rw[<-hrv,<-hfin rfl,<-e1];exact⟨rfl,rfl⟩
theorem rone_ok (a:List Nat)(hl:a.length<=2^43):AC Tryz.prog 115 [cl a] none [cu (if topN a=0 then 0 else a.getD 0 0),cb (decide (topN a<=1))]:=by
 refine AC.by_walk (rs:=[.tmp 2,.tmp 3]) ords Tryz.func115 (by rfl) (by rfl) (by rfl) (by rfl) (by rfl) ?_;simp (disch:=omega) only[wt,seval,reduceCtorEq,Nat.reduceEqDiff];refine aloop_by (λf H=>∃(k:Nat),k<=a.length/\topN (a.take k)=topN a/\f 4=.iv (.int .i64 k)/\f 0=.iv (.sl (lims a))) (λf H=>(intAt f 4).toNat) ?_ ?_
 .refine⟨a.length,by omega,by rw[List.take_length],?_⟩;simp (disch:=omega) only[wt,seval,reduceCtorEq,Nat.reduceEqDiff]
 rintro f H ⟨k,hk,ht,hF⟩;rw[intAt_of hF.1];simp (disch:=omega) only[wt,seval,reduceCtorEq,Nat.reduceEqDiff,hF];have done:(k=topN a)->a.length>=k->True:=λ_ _=>trivial
 by_cases h0:0<(k:Int)
 .obtain⟨j,rfl⟩:∃j,k=j+1:=⟨k-1,by omega⟩;have ej:((j+1:Nat):Int)-1=(j:Int):=by omega
  simp (disch:=omega) only[wt,seval,reduceCtorEq,Nat.reduceEqDiff,hF,h0,ej];refine if_by (λhz=>?_) (λhz=>?_)
  .simp (disch:=omega) only[wt,seval,reduceCtorEq,Nat.reduceEqDiff,hF,ej];exact⟨j,by omega,by rw[<-topN_take_zero (by omega) (by omega),ht],rfl⟩
  .have hk':topN a=j+1:=by rw[<-ht,topN_full (by omega) (by omega)]
   have hne:¬((j+1:Nat):Int)=0:=by omega
   simp (disch:=omega) only[wt,seval,reduceCtorEq,Nat.reduceEqDiff,hF,hne];rw[if_neg (by omega),hk'];exact⟨rfl,decide_eq_decide.mpr (by omega)⟩
 .have:k=0:=by omega
  subst this;have hk':topN a=0:=by rw[<-ht];rfl
  simp (disch:=omega) only[wt,seval,reduceCtorEq,Nat.reduceEqDiff,hF];rw[hk'];exact⟨rfl,rfl⟩
theorem topN_one {a:List Nat}(h:Lim a)(ht:topN a<=1):nv a=if topN a=0 then 0 else a.getD 0 0:=by
 have e:nv (a.take (topN a))=nv a:=vl_drop_top two_le_W h;rw[<-e];split
 .rename_i h0;rw[h0];rfl
 .rename_i h0;have h1:topN a=1:=by omega
  rw[h1];have:=vl_take_next W a 0;rw[Nat.zero_add]at this;show vl W (a.take 1)=_;rw[this];simp[vl]
theorem rones_ok (a b:List Nat)(m:Nat)(ha:Lim a)(hb:Lim b)(hm:m<=63)(hla:a.length<=2^43)(hlb:b.length<=2^43) :
  ∃(x y:Nat) (s:Bool),AC Tryz.prog 96 [cl a,cl b,ci m] none [cu x,cu y,cb s]/\(s=true->x=nv a/\y=nv b/\nv a<2^m/\nv b<2^m):=by
 have hs:∀x:Nat,(x:Int).fdiv (2^min m IntKind.u64.bits)=((x/2^m:Nat):Int):=by
  intro x;rw[show min m IntKind.u64.bits=m from Nat.min_eq_left (by simp only[IntKind.bits];omega),Int.fdiv_eq_ediv_of_nonneg _ (by exact Int.le_of_lt (Int.pow_pos (by decide)))]
  norm_cast
 generalize hX:(if topN a=0 then 0 else a.getD 0 0)=X;generalize hY:(if topN b=0 then 0 else b.getD 0 0)=Y;refine⟨X,Y,decide (topN a<=1) && decide (topN b<=1) && decide (X/2^m=0) && decide (Y/2^m=0),?_,?_⟩
 .refine AC.by_walk (rs:=[.tmp 6,.tmp 7,.tmp 8]) ords Tryz.func96 (by rfl) (by rfl) (by rfl) (by rfl) (by rfl) ?_;have h1:=rone_ok a hla;have h2:=rone_ok b hlb;rw[hX]at h1;rw[hY]at h2;simp (disch:=omega) only[wt,seval,reduceCtorEq,Nat.reduceEqDiff];refine call_by (h1) (by rfl) (by simp) ?_;simp (disch:=omega) only[wt,seval,reduceCtorEq,Nat.reduceEqDiff];refine call_by (h2) (by rfl) (by simp) ?_;simp (disch:=omega) only[wt,seval,reduceCtorEq,Nat.reduceEqDiff];refine .inl ⟨tmps_by (by kernel_rfl),?_⟩;by_cases t1:topN a<=1
  .by_cases t2:topN b<=1
   .by_cases t3:X/2^m=0
    .by_cases t4:((Y/2^m:Nat):Int)=0
     .have t3':((X/2^m:Nat):Int)=0:=by omega
      simp (disch:=omega) only[wt,seval,reduceCtorEq,Nat.reduceEqDiff,t1,t2,hs,t3',t4]
      first|exact log_by (by kernel_rfl)|refine⟨log_by (by kernel_rfl),?_⟩
      simp[t3,show Y/2^m=0 by omega]
     .have t3':((X/2^m:Nat):Int)=0:=by omega
      simp (disch:=omega) only[wt,seval,reduceCtorEq,Nat.reduceEqDiff,t1,t2,hs,t3',t4]
      first|exact log_by (by kernel_rfl)|refine⟨log_by (by kernel_rfl),?_⟩
      simp[show ¬Y/2^m=0 by omega]
    .have t3':¬((X/2^m:Nat):Int)=0:=by omega
     simp (disch:=omega) only[wt,seval,reduceCtorEq,Nat.reduceEqDiff,t1,t2,hs,t3']
     first|exact log_by (by kernel_rfl)|refine⟨log_by (by kernel_rfl),?_⟩
     simp[t3]
   .simp (disch:=omega) only[wt,seval,reduceCtorEq,Nat.reduceEqDiff,t1,t2]
    first|exact log_by (by kernel_rfl)|refine⟨log_by (by kernel_rfl),?_⟩
    simp
  .simp (disch:=omega) only[wt,seval,reduceCtorEq,Nat.reduceEqDiff,t1]
   first|exact log_by (by kernel_rfl)|refine⟨log_by (by kernel_rfl),?_⟩
   simp
 .intro h;simp only[Bool.and_eq_true,decide_eq_true_eq]at h;obtain⟨⟨⟨h1,h2⟩,h3⟩,h4⟩:=h;have e1:=topN_one ha h1;have e2:=topN_one hb h2;rw[e1,e2,hX,hY];rw[Nat.div_eq_zero_iff]at h3 h4;have:=Nat.pow_pos (n:=m) (show 0<2 by decide);omega
theorem rof_ok (w:Nat)(h:w<W):AC Tryz.prog 97 [cu w] none [cl (wd w)]:=by
 refine AC.by_walk (rs:=[.tmp 2]) ords Tryz.func97 (by rfl) (by rfl) (by rfl) (by rfl) (by rfl) ?_;simp (disch:=omega) only[wt,seval,reduceCtorEq,Nat.reduceEqDiff];refine if_by (λhz=>?_) (λhz=>?_)
 .have:w=0:=by omega
  subst this;simp (disch:=omega) only[wt,seval,reduceCtorEq,Nat.reduceEqDiff,wd_zero]
 .have:wd w=[w]:=by
   rw[wd,dg_pos two_le_W (by omega),Nat.mod_eq_of_lt h,Nat.div_eq_of_lt h,dg_zero]
  simp (disch:=omega) only[wt,seval,reduceCtorEq,Nat.reduceEqDiff,this];rfl
theorem rPlus_ok (a b:List Nat)(ha:Lim a)(hb:Lim b)(hla:a.length<=2^38)(hlb:b.length<=2^38):AC Tryz.prog 119 [cl a,cl b] none [cl (wd (nv a+nv b))]:=by
 refine AC.by_walk (rs:=[.tmp 4]) ords Tryz.func119 (by rfl) (by rfl) (by rfl) (by rfl) (by rfl) ?_;obtain⟨x,y,s,h1,h2⟩:=rones_ok a b 63 ha hb (by omega) (by omega) (by omega);have h3:=dgD_len ha;have h4:=dgD_len hb;simp (disch:=omega) only[wt,seval,reduceCtorEq,Nat.reduceEqDiff];refine call_by (h1) (by rfl) (by simp) ?_;simp (disch:=omega) only[wt,seval,reduceCtorEq,Nat.reduceEqDiff];cases s with
 |true =>
  obtain⟨rfl,rfl,b1,b2⟩:=h2 rfl;simp (disch:=omega) only[wt,seval,reduceCtorEq,Nat.reduceEqDiff,wrap_add_nat (m:=nv a) (n:=nv b) (by simp only[W];omega)];refine call_by ((rof_ok (nv a+nv b) (by simp only[W];omega))) (by rfl) (by simp) ?_;simp (disch:=omega) only[wt,seval,reduceCtorEq,Nat.reduceEqDiff]
 |false =>
  simp (disch:=omega) only[wt,seval,reduceCtorEq,Nat.reduceEqDiff];refine call_by ((rdig_ok a ha (by omega))) (by rfl) (by simp) ?_;simp (disch:=omega) only[wt,seval,reduceCtorEq,Nat.reduceEqDiff];refine call_by ((rdig_ok b hb (by omega))) (by rfl) (by simp) ?_;simp (disch:=omega) only[wt,seval,reduceCtorEq,Nat.reduceEqDiff];have p:=rplus_ok (dgD (nv a)) (dgD (nv b)) (dgD_dig _) (dgD_dig _) (by omega) (by omega);rw[vl_dgD,vl_dgD]at p;refine call_by (p) (by rfl) (by simp) ?_;simp (disch:=omega) only[wt,seval,reduceCtorEq,Nat.reduceEqDiff];have hA:=vlD_lt (dgD_dig (nv a));have hB:=vlD_lt (dgD_dig (nv b));rw[vl_dgD]at hA hB;generalize hn:max (dgD (nv a)).length (dgD (nv b)).length=n;have hA2:D16^(dgD (nv a)).length<=D16^n:=Nat.pow_le_pow_right (by decide) (by omega);have hB2:D16^(dgD (nv b)).length<=D16^n:=Nat.pow_le_pow_right (by decide) (by omega);have hq:(nv a+nv b)/D16^n<2:=by
   rw[Nat.div_lt_iff_lt_mul (D_pow_pos n)];omega
  have hlen:n+(nv a+nv b)/D16^n<=2^42:=by
   generalize (nv a+nv b)/D16^n=q at hq;omega
  have q:=rnumber_ok (dn (n+(nv a+nv b)/D16^n) (nv a+nv b)) (dn_dig _ _) (by rw[dn_len];exact hlen);have e:vl D16 (dn (n+(nv a+nv b)/D16^n) (nv a+nv b))=nv a+nv b:=by
   rw[vl_dn,Nat.mod_eq_of_lt];have two:∀q,q<2->q=0\/q=1:=by omega
   have:=two _ hq;rcases this with h|h
   .rw[h,Nat.add_zero];exact(Nat.div_eq_zero_iff_lt (D_pow_pos n)).mp h
   .rw[h,Nat.pow_succ];have:2*D16^n<=D16^n*D16:=by rw[Nat.mul_comm];exact Nat.mul_le_mul_left _ (by decide)
    omega
  rw[e]at q;refine call_by (q) (by rfl) (by simp) ?_;simp (disch:=omega) only[wt,seval,reduceCtorEq,Nat.reduceEqDiff]
theorem rMinus_ok (a b:List Nat)(ha:Lim a)(hb:Lim b)(hla:a.length<=2^38)(hlb:b.length<=2^38)(hle:nv b<=nv a):AC Tryz.prog 121 [cl a,cl b] none [cl (wd (nv a-nv b))]:=by
 refine AC.by_walk (rs:=[.tmp 4]) ords Tryz.func121 (by rfl) (by rfl) (by rfl) (by rfl) (by rfl) ?_;obtain⟨x,y,s,h1,h2⟩:=rones_ok a b 63 ha hb (by omega) (by omega) (by omega);have h3:=dgD_len ha;have h4:=dgD_len hb;simp (disch:=omega) only[wt,seval,reduceCtorEq,Nat.reduceEqDiff];refine call_by (h1) (by rfl) (by simp) ?_;simp (disch:=omega) only[wt,seval,reduceCtorEq,Nat.reduceEqDiff];cases s with
 |true =>
  obtain⟨rfl,rfl,b1,b2⟩:=h2 rfl;have e1:(nv a:Int)-(nv b:Int)=((nv a-nv b:Nat):Int):=by omega
  simp (disch:=omega) only[wt,seval,reduceCtorEq,Nat.reduceEqDiff,e1,wrap_nat (n:=nv a-nv b) (by simp only[W];omega)];refine call_by ((rof_ok (nv a-nv b) (by simp only[W];omega))) (by rfl) (by simp) ?_;simp (disch:=omega) only[wt,seval,reduceCtorEq,Nat.reduceEqDiff]
 |false =>
  simp (disch:=omega) only[wt,seval,reduceCtorEq,Nat.reduceEqDiff];refine call_by ((rdig_ok a ha (by omega))) (by rfl) (by simp) ?_;simp (disch:=omega) only[wt,seval,reduceCtorEq,Nat.reduceEqDiff];refine call_by ((rdig_ok b hb (by omega))) (by rfl) (by simp) ?_;simp (disch:=omega) only[wt,seval,reduceCtorEq,Nat.reduceEqDiff];have hlen:(dgD (nv b)).length<=(dgD (nv a)).length:=(dg_length_le two_le_D _).mpr (Nat.lt_of_le_of_lt hle ((dg_length_le two_le_D _).mp (Nat.le_refl _)));have p:=rminus_ok (dgD (nv a)) (dgD (nv b)) (dgD_dig _) (dgD_dig _) (by omega) hlen (by rw[vl_dgD,vl_dgD];exact hle);rw[vl_dgD,vl_dgD]at p;refine call_by (p) (by rfl) (by simp) ?_;simp (disch:=omega) only[wt,seval,reduceCtorEq,Nat.reduceEqDiff];have hA:=vlD_lt (dgD_dig (nv a));rw[vl_dgD]at hA;have q:=rnumber_ok (dn (dgD (nv a)).length (nv a-nv b)) (dn_dig _ _) (by rw[dn_len];omega);have e:vl D16 (dn (dgD (nv a)).length (nv a-nv b))=nv a-nv b:=by
   rw[vl_dn,Nat.mod_eq_of_lt (by omega)]
  rw[e]at q;refine call_by (q) (by rfl) (by simp) ?_;simp (disch:=omega) only[wt,seval,reduceCtorEq,Nat.reduceEqDiff]
theorem vlD_set_take {l:List Nat}{k m:Nat}(hk:k<m)(hm:m<=l.length)(x:Nat):vl D16 ((l.set k x).take m)+D16^k*l.getD k 0=vl D16 (l.take m)+D16^k*x:=by
 have e:(l.set k x).take m=(l.take m).set k x:=by rw[List.take_set]
 have h2:(l.take m).getD k 0=l.getD k 0:=by simp[List.getD,List.getElem?_take,hk]
 rw[e,<-h2];exact vl_set D16 (by rw[List.length_take];omega) x
theorem rowD {T T' Q A b S Bj c o lo hi:Nat}(h:T+Q*c=S+b*Bj)(hT:T'+Q*o=T+Q*lo)(he:hi*D16+lo=A+c+o):T'+Q*D16*hi=S+(b*Bj+Q*A):=by
 have:=congrArg (Q * ·) he;simp only[Nat.mul_add]at this;rw[Nat.mul_assoc,Nat.mul_comm D16 hi];omega
theorem rtimes_ok (a b:List Nat)(ha:Dig a)(hb:Dig b)(hla:a.length<=2^40)(hlb:b.length<=2^40):AC Tryz.prog 106 [cd a,cd b] none [cd (dn (a.length+b.length) (vl D16 a*vl D16 b))]:=by
 refine AC.by_walk (rs:=[.tmp 4]) ords Tryz.func106 (by rfl) (by rfl) (by rfl) (by rfl) (by rfl) ?_;have eN:((a.length:Int)+(b.length:Int))=((a.length+b.length:Nat):Int):=by omega
 simp (disch:=omega) only[wt,seval,reduceCtorEq,Nat.reduceEqDiff,eN,nums_rep];refine aloop_by (λf H=>∃(i st:Nat) (s:List Nat),i<=a.length/\Dig s/\s.length=a.length+b.length/\vl D16 (s.take (i+b.length))=vl D16 (a.take i)*vl D16 b/\(∀k,i+b.length<=k->s.getD k 0=0)/\f 6=.iv (.int .i64 i)/\f 0=.iv (.sl (nums a))/\f 1=.iv (.sl (nums b))/\f 5=.hs 14 st/\H 14=.blk false st 3 1 (nums s)) (λf H=>(a.length-intAt f 6).toNat) ?_ ?_
 .refine⟨0,1,List.replicate (a.length+b.length) 0,by omega,Dig.replicate _,by simp,by rw[List.take_replicate];simp[vl_replicate,vl],λk _=>by simp[List.getD,List.getElem?_replicate];split<;>rfl,?_⟩;simp (disch:=omega) only[wt,seval,reduceCtorEq,Nat.reduceEqDiff]
 rintro f H ⟨i,st,s,hi,hS,hSl,hv,hz,hF⟩;rw[intAt_of hF.1];simp (disch:=omega) only[wt,seval,reduceCtorEq,Nat.reduceEqDiff,hF];refine if_by (λhlt=>?_) (λhlt=>?_)
 .simp (disch:=omega) only[wt,seval,reduceCtorEq,Nat.reduceEqDiff,hF];have hx:=ha.get i;refine aloop_by (λf H=>∃(k c st:Nat) (s:List Nat),k<=b.length/\c<D16/\Dig s/\s.length=a.length+b.length/\vl D16 (s.take (i+b.length))+D16^(i+k)*c=vl D16 (a.take i)*vl D16 b+(D16^i*a.getD i 0)*vl D16 (b.take k)/\(∀k,i+b.length<=k->s.getD k 0=0)/\f 8=.iv (.int .i64 k)/\f 0=.iv (.sl (nums a))/\f 1=.iv (.sl (nums b))/\f 5=.hs 14 st/\f 6=.iv (.int .i64 i)/\f 7=.iv (.int .i64 c)/\H 14=.blk false st 3 1 (nums s)) (λf H=>(b.length-intAt f 8).toNat) ?_ ?_
  .refine⟨0,0,st,s,by omega,by decide,hS,hSl,by simp[hv,vl],hz,?_⟩;simp (disch:=omega) only[wt,seval,reduceCtorEq,Nat.reduceEqDiff,hF]
  rintro f H ⟨k,c,st,s,hk,hc,hS,hSl,hv,hz,hF⟩;rw[intAt_of hF.1];simp (disch:=omega) only[wt,seval,reduceCtorEq,Nat.reduceEqDiff,hF];refine if_by (λhlk=>?_) (λhlk=>?_)
  .have hy:=hb.get k;have ho:=hS.get (i+k);have eij:(i:Int)+(k:Int)=((i+k:Nat):Int):=by omega
   have eab:(a.getD i 0:Int)*(b.getD k 0:Int)=((a.getD i 0*b.getD k 0:Nat):Int):=(Int.natCast_mul _ _).symm;have hm:a.getD i 0*b.getD k 0<=65535*65535:=Nat.mul_le_mul (by simp only[D16]at hx;omega) (by simp only[D16]at hy;omega);have hdef:∃m,m=a.getD i 0*b.getD k 0:=⟨_,rfl⟩;obtain⟨m,hm1⟩:=hdef;rw[<-hm1]at eab hm;have et:(c:Int)+((s.getD (i+k) 0:Nat)+(m:Nat):Int)=((c+(s.getD (i+k) 0+m):Nat):Int):=by omega
   have hT:c+(s.getD (i+k) 0+m)<65536*65536:=by simp only[D16]at hc ho;omega
   simp only[D16]at hc ho;simp (disch:=omega) only[wt,seval,reduceCtorEq,Nat.reduceEqDiff,hF,eij,eab,et];refine .inl ⟨tmps_by (by kernel_rfl),?_⟩
   first|exact log_by (by kernel_rfl)|refine⟨log_by (by kernel_rfl),?_⟩
   have hs1:=vlD_set_take (l:=s) (k:=i+k) (m:=i+b.length) (by omega) (by omega) ((c+(s.getD (i+k) 0+m))%D16);have hs2:=rowD (A:=m) (hi:=(c+(s.getD (i+k) 0+m))/D16) hv hs1 (by simp only[D16];omega);refine⟨⟨k+1,(c+(s.getD (i+k) 0+m))/D16,st,s.set (i+k) ((c+(s.getD (i+k) 0+m))%D16),by omega,by simp only[D16];omega,hS.set (Nat.mod_lt _ (by decide)),by simp[hSl],?_,?_,by omega,rfl,rfl,rfl⟩,by omega⟩
   .rw[<-Nat.add_assoc i k 1,Nat.pow_succ,hs2,vl_take_next,Nat.mul_add,hm1,Nat.pow_add]
    congr 2
    ac_rfl
   .intro j hj;rw[show (s.set (i+k) ((c+(s.getD (i+k) 0+m))%D16)).getD j 0=s.getD j 0 by simp[List.getD,List.getElem?_set_ne (show i+k≠j by omega)]];exact hz j hj
  .have hkb:k=b.length:=by omega
   subst hkb;have eij:(i:Int)+(b.length:Int)=((i+b.length:Nat):Int):=by omega
   rw[List.take_length]at hv;simp (disch:=omega) only[wt,seval,reduceCtorEq,Nat.reduceEqDiff,hF,eij];have hs1:=vl_take_set D16 (l:=s) (k:=i+b.length) (by omega) c;refine⟨⟨i+1,st,s.set (i+b.length) c,by omega,hS.set hc,by simp[hSl],?_,?_,by omega,rfl,rfl⟩,by omega⟩
   .rw[show i+1+b.length=i+b.length+1 by omega,hs1,hv,vl_take_next,Nat.add_mul]
   .intro j hj;rw[show (s.set (i+b.length) c).getD j 0=s.getD j 0 by simp[List.getD,List.getElem?_set_ne (show i+b.length≠j by omega)]];exact hz j (by omega)
 .simp (disch:=omega) only[wt,seval,reduceCtorEq,Nat.reduceEqDiff,hF];have:i=a.length:=by omega
  subst this;rw[List.take_of_length_le (by omega),List.take_length]at hv;have e:s=dn (a.length+b.length) (vl D16 a*vl D16 b):=by
   refine eq_dn hS hSl ?_;have h5:=vlD_lt hS;rw[hSl]at h5;rw[hv,Nat.mod_eq_of_lt (by rw[<-hv];exact h5)]
  rw[e]
theorem rTimes_ok (a b:List Nat)(ha:Lim a)(hb:Lim b)(hla:a.length<=2^37)(hlb:b.length<=2^37):AC Tryz.prog 87 [cl a,cl b] none [cl (wd (nv a*nv b))]:=by
 refine AC.by_walk (rs:=[.tmp 4]) ords Tryz.func87 (by rfl) (by rfl) (by rfl) (by rfl) (by rfl) ?_;obtain⟨x,y,s,h1,h2⟩:=rones_ok a b 32 ha hb (by omega) (by omega) (by omega);have h3:=dgD_len ha;have h4:=dgD_len hb;simp (disch:=omega) only[wt,seval,reduceCtorEq,Nat.reduceEqDiff];refine call_by (h1) (by rfl) (by simp) ?_;simp (disch:=omega) only[wt,seval,reduceCtorEq,Nat.reduceEqDiff];cases s with
 |true =>
  obtain⟨rfl,rfl,b1,b2⟩:=h2 rfl;have hm:nv a*nv b<=(2^32-1)*(2^32-1):=Nat.mul_le_mul (by omega) (by omega);have hw:nv a*nv b<W:=by simp only[W];omega
  simp (disch:=omega) only[wt,seval,reduceCtorEq,Nat.reduceEqDiff,wrap_mul_nat hw];refine call_by ((rof_ok (nv a*nv b) hw)) (by rfl) (by simp) ?_;simp (disch:=omega) only[wt,seval,reduceCtorEq,Nat.reduceEqDiff]
 |false =>
  simp (disch:=omega) only[wt,seval,reduceCtorEq,Nat.reduceEqDiff];refine call_by ((rdig_ok a ha (by omega))) (by rfl) (by simp) ?_;simp (disch:=omega) only[wt,seval,reduceCtorEq,Nat.reduceEqDiff];refine call_by ((rdig_ok b hb (by omega))) (by rfl) (by simp) ?_;simp (disch:=omega) only[wt,seval,reduceCtorEq,Nat.reduceEqDiff];have p:=rtimes_ok (dgD (nv a)) (dgD (nv b)) (dgD_dig _) (dgD_dig _) (by omega) (by omega);rw[vl_dgD,vl_dgD]at p;refine call_by (p) (by rfl) (by simp) ?_;simp (disch:=omega) only[wt,seval,reduceCtorEq,Nat.reduceEqDiff];have hA:=vlD_lt (dgD_dig (nv a));have hB:=vlD_lt (dgD_dig (nv b));rw[vl_dgD]at hA hB;have q:=rnumber_ok (dn ((dgD (nv a)).length+(dgD (nv b)).length) (nv a*nv b)) (dn_dig _ _) (by rw[dn_len];omega);have e:vl D16 (dn ((dgD (nv a)).length+(dgD (nv b)).length) (nv a*nv b))=nv a*nv b:=by
   rw[vl_dn,Nat.mod_eq_of_lt];rw[Nat.pow_add];exact Nat.mul_lt_mul'' hA hB
  rw[e]at q;refine call_by (q) (by rfl) (by simp) ?_;simp (disch:=omega) only[wt,seval,reduceCtorEq,Nat.reduceEqDiff]
theorem rAdd_ok (a b:RI)(ha:Sz (2^38) a)(hb:Sz (2^38) b):AC Tryz.prog 101 [cr a,cr b] none [cz (iv a+iv b)]:=by
 refine AC.by_walk (rs:=[.cell 4 29]) ords Tryz.func101 (by rfl) (by rfl) (by rfl) (by rfl) (by rfl) ?_;have hla:=ha.1;have hlb:=hb.1;simp (disch:=omega) only[wt,seval,reduceCtorEq,Nat.reduceEqDiff];refine if_bool (λhe=>?_) (λhe=>?_)
 .have he:a.1=b.1:=by simpa using he
  rw[iv_add_same he];simp (disch:=omega) only[wt,seval,reduceCtorEq,Nat.reduceEqDiff];refine .inl ⟨tmps_by (by kernel_rfl),?_⟩;refine call_by ((rPlus_ok a.2 b.2 ha.2 hb.2 hla hlb)) (by rfl) (by simp) ?_;simp (disch:=omega) only[wt,seval,reduceCtorEq,Nat.reduceEqDiff];have l1:=wd_add_len (nv a.2) (nv b.2);have l2:=nv_len ha.2;have l3:=nv_len hb.2;have i1:=rI_ok a.1 (wd (nv a.2+nv b.2)) (lim_wd _) (by omega);rw[nv_wd]at i1;refine call_by (i1) (by rfl) (by simp) ?_;simp (disch:=omega) only[wt,seval,reduceCtorEq,Nat.reduceEqDiff]
  first|exact log_by (by kernel_rfl)|refine⟨log_by (by kernel_rfl),?_⟩
 .have he:a.1≠b.1:=by simpa using he
  simp (disch:=omega) only[wt,seval,reduceCtorEq,Nat.reduceEqDiff];refine call_by ((rcmp_ok a.2 b.2 ha.2 hb.2 (by omega) (by omega))) (by rfl) (by simp) ?_;simp (disch:=omega) only[wt,seval,reduceCtorEq,Nat.reduceEqDiff];refine if_by (λhc=>?_) (λhc=>?_)
  .have hle:nv b.2<=nv a.2:=by
    unfold cmpN at hc;split at hc
    .omega
    .omega
   simp (disch:=omega) only[wt,seval,reduceCtorEq,Nat.reduceEqDiff];refine .inl ⟨tmps_by (by kernel_rfl),?_⟩;refine call_by ((rMinus_ok a.2 b.2 ha.2 hb.2 hla hlb hle)) (by rfl) (by simp) ?_;simp (disch:=omega) only[wt,seval,reduceCtorEq,Nat.reduceEqDiff];have l2:=nv_len ha.2;have l4:=wd_len_mono (Nat.sub_le (nv a.2) (nv b.2));have i1:=rI_ok a.1 (wd (nv a.2-nv b.2)) (lim_wd _) (by omega);rw[nv_wd]at i1;have e:sg a.1 (nv a.2-nv b.2)=iv a+iv b:=by
    rw[iv_eq_sg,iv_eq_sg];unfold sg;cases h1:a.1<;>cases h2:b.1<;>simp_all<;>omega
   rw[e]at i1;refine call_by (i1) (by rfl) (by simp) ?_;simp (disch:=omega) only[wt,seval,reduceCtorEq,Nat.reduceEqDiff]
   first|exact log_by (by kernel_rfl)|refine⟨log_by (by kernel_rfl),?_⟩
  .have hle:nv a.2<=nv b.2:=by
    unfold cmpN at hc;split at hc
    .omega
    .split at hc<;>omega
   simp (disch:=omega) only[wt,seval,reduceCtorEq,Nat.reduceEqDiff];refine .inl ⟨tmps_by (by kernel_rfl),?_⟩;refine call_by ((rMinus_ok b.2 a.2 hb.2 ha.2 hlb hla hle)) (by rfl) (by simp) ?_;simp (disch:=omega) only[wt,seval,reduceCtorEq,Nat.reduceEqDiff];have l2:=nv_len hb.2;have l4:=wd_len_mono (Nat.sub_le (nv b.2) (nv a.2));have i1:=rI_ok b.1 (wd (nv b.2-nv a.2)) (lim_wd _) (by omega);rw[nv_wd]at i1;have e:sg b.1 (nv b.2-nv a.2)=iv a+iv b:=by
    rw[iv_eq_sg,iv_eq_sg];unfold sg;cases h1:a.1<;>cases h2:b.1<;>simp_all<;>omega
   rw[e]at i1;refine call_by (i1) (by rfl) (by simp) ?_;simp (disch:=omega) only[wt,seval,reduceCtorEq,Nat.reduceEqDiff]
   first|exact log_by (by kernel_rfl)|refine⟨log_by (by kernel_rfl),?_⟩
theorem rMul_ok (a b:RI)(ha:Sz (2^37) a)(hb:Sz (2^37) b):AC Tryz.prog 61 [cr a,cr b] none [cz (iv a*iv b)]:=by
 refine AC.by_walk (rs:=[.cell 4 29]) ords Tryz.func61 (by rfl) (by rfl) (by rfl) (by rfl) (by rfl) ?_;have hla:=ha.1;have hlb:=hb.1;simp (disch:=omega) only[wt,seval,reduceCtorEq,Nat.reduceEqDiff];refine .inl ⟨tmps_by (by kernel_rfl),?_⟩;refine call_by ((rTimes_ok a.2 b.2 ha.2 hb.2 hla hlb)) (by rfl) (by simp) ?_;simp (disch:=omega) only[wt,seval,reduceCtorEq,Nat.reduceEqDiff];have l1:=wd_mul_len (nv a.2) (nv b.2);have l2:=nv_len ha.2;have l3:=nv_len hb.2;have i1:=rI_ok (a.1 != b.1) (wd (nv a.2*nv b.2)) (lim_wd _) (by omega);rw[nv_wd,<-iv_mul]at i1;refine call_by (i1) (by rfl) (by simp) ?_;simp (disch:=omega) only[wt,seval,reduceCtorEq,Nat.reduceEqDiff]
 first|exact log_by (by kernel_rfl)|refine⟨log_by (by kernel_rfl),?_⟩
theorem dvr_dgD {y:Nat}(h:y≠0):Dvr (dgD y):=by
 have hp:0<(dgD y).length:=by
  rcases Nat.eq_zero_or_pos (dgD y).length with h0|h0
  .exact absurd (dgD_len_zero.mp h0) h
  .exact h0
 refine⟨dgD_dig y,hp,λh0=>?_⟩;have e:=vl_take_next D16 (dgD y) ((dgD y).length-1);rw[show (dgD y).length-1+1=(dgD y).length by omega,List.take_length,h0,Nat.mul_zero,Nat.add_zero,vl_dgD]at e;have h1:=vlD_lt ((dgD_dig y).take ((dgD y).length-1));rw[List.length_take,Nat.min_eq_left (by omega),<-e]at h1;have:=(dg_length_le two_le_D ((dgD y).length-1) (n:=y)).mpr h1;have h2:(dg D16 y).length=(dgD y).length:=rfl;omega
theorem divide_short (a b:List Nat)(ha:a.length<=2^41)(hb:b.length<=2^41)(h:a.length<b.length):AC Tryz.prog 98 [cd a,cd b] none [cd [],cd a]:=by
 refine AC.by_walk (rs:=[.tmp 4,.tmp 5]) ords Tryz.func98 (by rfl) (by rfl) (by rfl) (by rfl) (by rfl) ?_;have hlt:(a.length:Int)<(b.length:Int):=by omega
 simp (disch:=omega) only[wt,seval,reduceCtorEq,Nat.reduceEqDiff,hlt]
theorem divide_g (x y:Nat)(hy:y≠0)(hx:(dgD x).length<=2^41)(hyl:(dgD y).length<=2^41):∃q,Dig q/\vl D16 q=x/y/\q.length<=(dgD x).length+1/\AC Tryz.prog 98 [cd (dgD x),cd (dgD y)] none [cd q,cd (dgD (x%y))]:=by
 have hd:=dvr_dgD hy;rcases Nat.lt_or_ge (dgD x).length (dgD y).length with h|h
 .have hlt:x<y:=by
   have h1:=vlD_lt (dgD_dig x);rw[vl_dgD]at h1;have h2:=hd.bounds.1;rw[vl_dgD]at h2;exact Nat.lt_of_lt_of_le h1 (Nat.le_trans (Nat.pow_le_pow_right (by decide) (by omega)) h2)
  refine⟨[],Dig.nil,by rw[Nat.div_eq_of_lt hlt];rfl,by simp,?_⟩;rw[Nat.mod_eq_of_lt hlt];exact divide_short _ _ hx hyl h
 .have m:=divide_ok5 (dgD x) (dgD y) (dgD_dig x) hd hx hyl h;rw[vl_dgD,vl_dgD]at m;refine⟨_,dn_dig _ _,?_,?_,m⟩
  .rw[vl_dn];refine Nat.mod_eq_of_lt ?_;have h1:=vlD_lt (dgD_dig x);rw[vl_dgD]at h1;have h2:=hd.bounds.1;rw[vl_dgD]at h2;refine(Nat.div_lt_iff_lt_mul (by omega)).mpr (Nat.lt_of_lt_of_le h1 ?_);have e:D16^(dgD x).length=D16^((dgD x).length-(dgD y).length+1)*D16^((dgD y).length-1):=by
    rw[<-Nat.pow_add];congr 1;have:=hd.pos;omega
   rw[e];exact Nat.mul_le_mul_left _ h2
  .rw[dn_len];have:=hd.pos;omega
theorem rQuo_ok (a b:List Nat)(ha:Lim a)(hb:Lim b)(hla:a.length<=2^38)(hlb:b.length<=2^38)(h0:nv b≠0):AC Tryz.prog 74 [cl a,cl b] none [cl (wd (nv a/nv b)),cl (wd (nv a%nv b))]:=by
 refine AC.by_walk (rs:=[.tmp 4,.tmp 5]) ords Tryz.func74 (by rfl) (by rfl) (by rfl) (by rfl) (by rfl) ?_;obtain⟨x,y,s,h1,h2⟩:=rones_ok a b 63 ha hb (by omega) (by omega) (by omega);have h3:=dgD_len ha;have h4:=dgD_len hb;simp (disch:=omega) only[wt,seval,reduceCtorEq,Nat.reduceEqDiff];refine call_by (h1) (by rfl) (by simp) ?_;simp (disch:=omega) only[wt,seval,reduceCtorEq,Nat.reduceEqDiff];cases s with
 |true =>
  obtain⟨rfl,rfl,b1,b2⟩:=h2 rfl;have e1:((nv a:Nat):Int).tdiv ((nv b:Nat):Int)=((nv a/nv b:Nat):Int):=by rw[Int.tdiv_eq_ediv_of_nonneg (by omega)];rfl
  have e2:((nv a:Nat):Int).tmod ((nv b:Nat):Int)=((nv a%nv b:Nat):Int):=by rw[Int.tmod_eq_emod_of_nonneg (by omega)];rfl
  have l1:nv a/nv b<=nv a:=Nat.div_le_self _ _;have l2:nv a%nv b<=nv a:=Nat.mod_le _ _;generalize nv a/nv b=q at *;generalize nv a%nv b=r at *;have hqW:q<W:=by simp only[W];omega
  have hrW:r<W:=by simp only[W];omega
  simp (disch:=omega) only[wt,seval,reduceCtorEq,Nat.reduceEqDiff,e1,e2,wrap_nat hqW];refine .inl ⟨tmps_by (by kernel_rfl),?_⟩;refine call_by ((rof_ok q hqW)) (by first|rfl|(simp only[tocvs,tocv,toboxes,tobox,updH_at,Nat.reduceEqDiff,↓reduceIte,e2];rfl)) (by simp) ?_;simp (disch:=omega) only[wt,seval,reduceCtorEq,Nat.reduceEqDiff,e2];refine call_by ((rof_ok r hrW)) (by first|rfl|(simp only[tocvs,tocv,toboxes,tobox,updH_at,Nat.reduceEqDiff,↓reduceIte,e2];rfl)) (by simp) ?_;simp (disch:=omega) only[wt,seval,reduceCtorEq,Nat.reduceEqDiff,e2]
  first|exact log_by (by kernel_rfl)|refine⟨log_by (by kernel_rfl),?_⟩
 |false =>
  simp (disch:=omega) only[wt,seval,reduceCtorEq,Nat.reduceEqDiff];refine call_by ((rdig_ok a ha (by omega))) (by rfl) (by simp) ?_;simp (disch:=omega) only[wt,seval,reduceCtorEq,Nat.reduceEqDiff];refine call_by ((rdig_ok b hb (by omega))) (by rfl) (by simp) ?_;simp (disch:=omega) only[wt,seval,reduceCtorEq,Nat.reduceEqDiff];obtain⟨q,q1,q2,q3,m⟩:=divide_g (nv a) (nv b) h0 (by omega) (by omega);refine call_by (m) (by rfl) (by simp) ?_;simp (disch:=omega) only[wt,seval,reduceCtorEq,Nat.reduceEqDiff];have m1:=rnumber_ok q q1 (by omega);rw[q2]at m1;have h5:(dgD (nv a%nv b)).length<=2^41:=by
   have h6:nv a%nv b<D16^(dgD (nv b)).length:=Nat.lt_of_lt_of_le (Nat.mod_lt _ (by omega)) (by have:=vlD_lt (dgD_dig (nv b));rw[vl_dgD]at this;omega);have:=(dg_length_le two_le_D (dgD (nv b)).length).mpr h6;have e:(dg D16 (nv a%nv b)).length=(dgD (nv a%nv b)).length:=rfl;omega
  have m2:=rnumber_ok (dgD (nv a%nv b)) (dgD_dig _) (by omega);rw[vl_dgD]at m2;refine call_by (m1) (by rfl) (by simp) ?_;simp (disch:=omega) only[wt,seval,reduceCtorEq,Nat.reduceEqDiff];refine call_by (m2) (by rfl) (by simp) ?_;simp (disch:=omega) only[wt,seval,reduceCtorEq,Nat.reduceEqDiff]
def bl (n:Nat):Nat:=if n=0 then 0 else n.log2+1
theorem bl_shift {x k:Nat}(h:2^k<=x):bl x=bl (x/2^k)+k:=by
 have h0:x≠0:=by have:=Nat.pow_pos (n:=k) (show 0<2 by decide);omega
 have h1:x/2^k≠0:=by
  intro h1;rw[Nat.div_eq_zero_iff]at h1;have:=Nat.pow_pos (n:=k) (show 0<2 by decide);omega
 unfold bl;rw[if_neg h0,if_neg h1];have h2:(x/2^k).log2=x.log2-k:=by
  rw[Nat.log2_eq_iff h1];have a1:=Nat.log2_self_le h0;have a2:=Nat.lt_log2_self (n:=x);have hk:k<=x.log2:=(Nat.le_log2 h0).mpr h;constructor
  .rw[Nat.le_div_iff_mul_le (Nat.pow_pos (by decide)),<-Nat.pow_add,Nat.sub_add_cancel hk];exact a1
  .rw[Nat.div_lt_iff_lt_mul (Nat.pow_pos (by decide)),<-Nat.pow_add];rw[show x.log2-k+1+k=x.log2+1 by omega];exact a2
 have hk:k<=x.log2:=(Nat.le_log2 h0).mpr h;omega
theorem bl_le {n k:Nat}:bl n<=k↔n<2^k:=by
 unfold bl;split
 .rename_i h;subst h;simp[Nat.pow_pos]
 .rename_i h;constructor
  .intro h';exact Nat.lt_of_lt_of_le Nat.lt_log2_self (Nat.pow_le_pow_right (by decide) h')
  .intro h';exact(Nat.log2_lt h).mpr h'
theorem shr_nat (x m:Nat)(hm:m<=64):((x:Int)).fdiv (2^min m IntKind.u64.bits)=((x/2^m:Nat):Int):=by
 rw[show min m IntKind.u64.bits=m from Nat.min_eq_left (by simp only[IntKind.bits];omega),Int.fdiv_eq_ediv_of_nonneg _ (by exact Int.le_of_lt (Int.pow_pos (by decide)))]
 norm_cast
theorem cst_str (S:ByteArray):cstA (.string S)=.iv (.raw (.string S)):=rfl
theorem astep_tab {S:ByteArray}{y d:Nat}{K:Fr->Hp->Log->Prop}{f:Fr}{H:Hp}{lg:Log}(h:∀n,n<256->n<S.size/\(S[n]?.getD 0).toNat=bl n)(hy:y<256)
  (hk:K (upd f d (.iv (.int .u8 (bl y)))) H (([],[])::lg)):AStep (some ⟨0<=(y:Int)/\(y:Int)<(S.size:Int),.iv (.int .u8 ((S[y]?.getD 0).toNat:Nat)),[],[],[]⟩) (some d) K f H lg:=by
 have h1:=h y hy;refine⟨⟨by omega,by omega⟩,?_⟩;show K (upd f d (.iv (.int .u8 ((S[y]?.getD 0).toNat:Nat)))) H _;rw[h1.2];exact hk
theorem len64_ok (x:Nat)(hx:x<W):AC Tryz.prog 103 [cu x] none [ci (bl x)]:=by
 refine AC.by_walk (rs:=[.tmp 2]) ords Tryz.func103 (by rfl) (by rfl) (by rfl) (by rfl) (by rfl) ?_;simp (disch:=omega) only[wt,seval,reduceCtorEq,Nat.reduceEqDiff];refine if_cut (λf H=>∃y n:Nat,y<2^32/\n<=32/\bl x=bl y+n/\f 0=.iv (.int .u64 y)/\f 2=.iv (.int .i64 n)) ?_ ?_
 .refine if_by (λh=>?_) (λh=>?_)
  .simp (disch:=omega) only[wt,seval,reduceCtorEq,Nat.reduceEqDiff,shr_nat x 32 (by omega)];exact⟨x/2^32,32,by simp only[W]at hx;omega,by omega,bl_shift (k:=32) (by omega),rfl,rfl⟩
  .simp (disch:=omega) only[wt,seval,reduceCtorEq,Nat.reduceEqDiff];exact⟨x,0,by omega,by omega,rfl,rfl,rfl⟩
 rintro f H ⟨y,n,hy,hn,e,hF⟩;rw[e];clear e hx;simp (disch:=omega) only[wt,seval,reduceCtorEq,Nat.reduceEqDiff,hF];refine if_cut (λf H=>∃z m:Nat,z<2^16/\m<=48/\bl y+n=bl z+m/\f 0=.iv (.int .u64 z)/\f 2=.iv (.int .i64 m)) ?_ ?_
 .refine if_by (λh=>?_) (λh=>?_)
  .have:=bl_shift (x:=y) (k:=16) (by omega);simp (disch:=omega) only[wt,seval,reduceCtorEq,Nat.reduceEqDiff,hF,shr_nat y 16 (by omega)];exact⟨y/2^16,n+16,by omega,by omega,by omega,rfl,by omega⟩
  .simp (disch:=omega) only[wt,seval,reduceCtorEq,Nat.reduceEqDiff,hF];exact⟨y,n,by omega,by omega,rfl,rfl,rfl⟩
 clear hF;rintro f H ⟨z,m,hz,hm,e,hF⟩;rw[e];clear e hy;simp (disch:=omega) only[wt,seval,reduceCtorEq,Nat.reduceEqDiff,hF];refine if_cut (λf H=>∃y n:Nat,y<2^8/\n<=56/\bl z+m=bl y+n/\f 0=.iv (.int .u64 y)/\f 2=.iv (.int .i64 n)) ?_ ?_
 .refine if_by (λh=>?_) (λh=>?_)
  .have:=bl_shift (x:=z) (k:=8) (by omega);simp (disch:=omega) only[wt,seval,reduceCtorEq,Nat.reduceEqDiff,hF,shr_nat z 8 (by omega)];exact⟨z/2^8,m+8,by omega,by omega,by omega,rfl,by omega⟩
  .simp (disch:=omega) only[wt,seval,reduceCtorEq,Nat.reduceEqDiff,hF];exact⟨z,m,by omega,by omega,rfl,rfl,rfl⟩
 clear hF;rintro f H ⟨y,n,hy,hn,e,hF⟩;rw[e];have hb:bl y<=8:=bl_le.mpr hy;have hw:IntKind.u8.wrap (y:Int)=(y:Int):=by
  simp only[IntKind.wrap,IntKind.signed,IntKind.bits,Bool.false_and,Bool.false_eq_true,if_false];omega
 have hw2:IntKind.i64.wrap (bl y:Int)=(bl y:Int):=wrap_i64 _ (by omega) (by omega);simp (disch:=omega) only[wt,seval,reduceCtorEq,Nat.reduceEqDiff,hF,hw,cst_str];refine astep_tab ?_ (by omega) ?_
 .decide +kernel
 simp (disch:=omega) only[wt,seval,reduceCtorEq,Nat.reduceEqDiff,hF,hw,hw2];omega
theorem lz64_ok (x:Nat)(hx:x<W):AC Tryz.prog 137 [cu x] none [ci (64-bl x:Nat)]:=by
 refine AC.by_walk (rs:=[.tmp 2]) ords Tryz.func137 (by rfl) (by rfl) (by rfl) (by rfl) (by rfl) ?_;have hb:bl x<=64:=bl_le.mpr hx;have e:(64:Int)-(bl x:Int)=((64-bl x:Nat):Int):=by omega
 simp (disch:=omega) only[wt,seval,reduceCtorEq,Nat.reduceEqDiff];refine call_by ((len64_ok x hx)) (by rfl) (by simp) ?_;simp (disch:=omega) only[wt,seval,reduceCtorEq,Nat.reduceEqDiff];rw[e]
theorem shl_mod (x m:Nat)(hm:m<=64):IntKind.u64.wrap ((x:Int)*2^min m IntKind.u64.bits)=((x*2^m%W:Nat):Int):=by
 rw[show min m IntKind.u64.bits=m from Nat.min_eq_left (by simp only[IntKind.bits];omega)];have:=wrap_mul_mod x (2^m);rw[<-this]
 congr 2
theorem or_add (a b m:Nat)(hb:b<2^m)(h:a*2^m+b<W):IntKind.u64.wrap ((BitVec.ofInt IntKind.u64.bits ((a*2^m:Nat):Int)|||BitVec.ofInt IntKind.u64.bits (b:Int)).toNat:Int)=((a*2^m+b:Nat):Int):=by
 have h1:(BitVec.ofInt 64 ((a*2^m:Nat):Int)|||BitVec.ofInt 64 (b:Int)).toNat=a*2^m+b:=by
  have e1:∀z:Nat,BitVec.ofInt 64 (z:Int)=BitVec.ofNat 64 z:=λz=>by simp
  rw[e1,e1,BitVec.toNat_or,BitVec.toNat_ofNat,BitVec.toNat_ofNat];rw[Nat.mod_eq_of_lt (show a*2^m<2^64 by simp only[W]at h;omega),Nat.mod_eq_of_lt (show b<2^64 by simp only[W]at h;omega)];rw[<-Nat.shiftLeft_eq,Nat.shiftLeft_add_eq_or_of_lt hb]
 show IntKind.u64.wrap ((BitVec.ofInt 64 ((a*2^m:Nat):Int)|||BitVec.ofInt 64 (b:Int)).toNat:Int)=_;rw[h1,wrap_nat h]
theorem wrap_sub_mod (m n:Nat)(hn:n<=m):IntKind.u64.wrap ((m%W:Nat)-(n%W:Nat):Int)=(((m-n)%W:Nat):Int):=by
 simp only[IntKind.wrap,IntKind.signed,IntKind.bits,Bool.false_and,Bool.false_eq_true,if_false];simp only[W];omega
theorem wrap_add_mod (m n:Nat):IntKind.u64.wrap ((m%W:Nat)+(n:Nat):Int)=(((m+n)%W:Nat):Int):=by
 simp only[IntKind.wrap,IntKind.signed,IntKind.bits,Bool.false_and,Bool.false_eq_true,if_false];simp only[W];omega
theorem tdiv_nat (a b:Nat):((a:Int)).tdiv (b:Int)=((a/b:Nat):Int):=by rw[Int.tdiv_eq_ediv_of_nonneg (by omega)];rfl
theorem tmod_nat (a b:Nat):((a:Int)).tmod (b:Int)=((a%b:Nat):Int):=by rw[Int.tmod_eq_emod_of_nonneg (by omega)];rfl
theorem norm_shift {y:Nat}(h0:y≠0)(hy:y<W):64-bl y<=63/\y*2^(64-bl y)<W/\9223372036854775808<=y*2^(64-bl y):=by
 have hb:bl y<=64:=bl_le.mpr hy;have hb0:1<=bl y:=by
  rcases Nat.eq_zero_or_pos (bl y) with h|h
  .have:=bl_le.mp (Nat.le_of_eq h);omega
  .exact h
 have h1:y<2^bl y:=bl_le.mp (Nat.le_refl _);have h2:2^(bl y-1)<=y:=by
  rcases Nat.lt_or_ge y (2^(bl y-1)) with h|h
  .have:=bl_le.mpr h;omega
  .exact h
 have e1:2^bl y*2^(64-bl y)=18446744073709551616:=by rw[<-Nat.pow_add,show bl y+(64-bl y)=64 by omega]
 have e2:2^(bl y-1)*2^(64-bl y)=9223372036854775808:=by rw[<-Nat.pow_add,show bl y-1+(64-bl y)=63 by omega]
 refine⟨by omega,?_,?_⟩
 .rw[show W=18446744073709551616 from rfl,<-e1];exact(Nat.mul_lt_mul_right (Nat.pow_pos (by decide))).mpr h1
 .rw[<-e2];exact Nat.mul_le_mul_right _ h2
theorem two_shift {hi lo s:Nat}(hs:s<=64)(hl:lo<W):(hi*W+lo)*2^s=(hi*2^s+lo/2^(64-s))*W+lo*2^s%W/\lo/2^(64-s)<2^s:=by
 have e:W=2^(64-s)*2^s:=by rw[<-Nat.pow_add,Nat.sub_add_cancel hs]
 have h1:lo*2^s/W=lo/2^(64-s):=by
  rw[e,Nat.mul_div_mul_right _ _ (Nat.pow_pos (by decide))]
 have h2:=Nat.div_add_mod (lo*2^s) W;rw[h1]at h2;constructor
 .rw[Nat.add_mul,Nat.add_mul,Nat.mul_right_comm hi,Nat.mul_comm (lo/2^(64-s))];omega
 .rw[Nat.div_lt_iff_lt_mul (Nat.pow_pos (by decide)),Nat.mul_comm,<-e];exact hl
theorem two_digits (U u1 u0:Nat):U*W+(u1*B32+u0)=(U*B32+u1)*B32+u0:=by
 simp only[B32,W];omega
theorem div64_ok (hi lo y:Nat)(hh:hi<y)(hl:lo<W)(hy:y<W):AC Tryz.prog 146 [cu hi,cu lo,cu y] none [cu ((hi*W+lo)/y),cu ((hi*W+lo)%y)]:=by
 refine AC.by_walk (rs:=[.tmp 6,.tmp 7]) ords Tryz.func146 (by rfl) (by rfl) (by rfl) (by rfl) (by rfl) ?_;have h1:¬(y:Int)=0:=by omega
 have h2:¬(y:Int)<=hi:=by omega
 by_cases h0:hi=0
 .subst h0;have h2':¬(y:Int)<=0:=by omega
  have g1:lo/y<W:=Nat.lt_of_le_of_lt (Nat.div_le_self _ _) hl;have g2:lo%y<W:=Nat.lt_of_le_of_lt (Nat.mod_le _ _) hl;simp (disch:=omega) only[wt,seval,reduceCtorEq,Nat.reduceEqDiff,h1,h2'];refine .inl ⟨tmps_by (by kernel_rfl),?_⟩;simp (disch:=omega) only[wt,seval,reduceCtorEq,Nat.reduceEqDiff,tdiv_nat,tmod_nat,wrap_nat g1,wrap_nat g2]
  first|exact log_by (by kernel_rfl)|refine⟨log_by (by kernel_rfl),?_⟩
 have h0':¬(hi:Int)=0:=by omega
 simp (disch:=omega) only[wt,seval,reduceCtorEq,Nat.reduceEqDiff,h1,h2,h0'];refine call_by ((lz64_ok y hy)) (by first|rfl|(simp only[tocvs,tocv,toboxes,tobox,updH_at,Nat.reduceEqDiff,↓reduceIte,h1,h2,h0'];rfl)) (by simp) ?_;simp (disch:=omega) only[wt,seval,reduceCtorEq,Nat.reduceEqDiff,h1,h2,h0'];obtain⟨hs63,hYW,hYn⟩:=norm_shift (y:=y) (by omega) hy;have hts:=two_shift (hi:=hi) (lo:=lo) (s:=64-bl y) (by omega) hl;generalize 64-bl y=s at *;have hws:IntKind.u64.wrap (s:Int)=(s:Int):=wrap_nat (by simp only[W];omega);have hY:=shl_mod y s (by omega);rw[Nat.mod_eq_of_lt hYW]at hY;have hUY:hi*2^s+lo/2^(64-s)<y*2^s:=by
  have:=Nat.mul_le_mul_right (2^s) hh;rw[Nat.succ_mul]at this;omega
 have hhs:=shl_mod hi s (by omega);rw[Nat.mod_eq_of_lt (Nat.lt_of_le_of_lt (Nat.le_add_right _ _) (Nat.lt_trans hUY hYW))]at hhs;have h64:IntKind.u64.wrap (64-(s:Int))=((64-s:Nat):Int):=by rw[show (64:Int)-s=((64-s:Nat):Int) by omega];exact wrap_nat (by simp only[W];omega)
 have hor:=or_add hi (lo/2^(64-s)) s hts.2 (by omega);have hlos:=shl_mod lo s (by omega);have hsr:=shr_nat lo (64-s) (by omega);obtain⟨hts1,hts2⟩:=hts;have hquo:(hi*W+lo)/y=(hi*W+lo)*2^s/(y*2^s):=(Nat.mul_div_mul_right _ _ (Nat.pow_pos (by decide))).symm;have hrem:(hi*W+lo)*2^s%(y*2^s)=(hi*W+lo)%y*2^s:=by rw[Nat.mul_mod_mul_right]
 rw[hts1]at hquo hrem;generalize hU:hi*2^s+lo/2^(64-s)=U at *;generalize hL:lo*2^s%W=L at *;have hLW:L<W:=by rw[<-hL];exact Nat.mod_lt _ (by decide)
 simp (disch:=omega) only[wt,seval,reduceCtorEq,Nat.reduceEqDiff,hws,hY];generalize hYY:y*2^s=Y at *;have s1:=shr_32 Y;have a1:=and_low32 Y hYW;have s2:=shr_32 L;have a2:=and_low32 L hLW;simp (disch:=omega) only[wt,seval,reduceCtorEq,Nat.reduceEqDiff,s1,a1,hhs,h64,hsr,hor,hlos,s2,a2];obtain⟨y1,hy1⟩:∃y1,Y/4294967296=y1:=⟨_,rfl⟩;obtain⟨y0,hy0⟩:∃y0,Y%4294967296=y0:=⟨_,rfl⟩;obtain⟨u1,hu1⟩:∃u1,L/4294967296=u1:=⟨_,rfl⟩;obtain⟨u0,hu0⟩:∃u0,L%4294967296=u0:=⟨_,rfl⟩;have eY:Y=y1*B32+y0:=by simp only[B32];omega
 have eL:L=u1*B32+u0:=by simp only[B32];omega
 have b1:2147483648<=y1:=by omega
 have b1':y1<B32:=by simp only[W,B32]at *;omega
 have b0:y0<B32:=by simp only[B32];omega
 have c1:u1<B32:=by simp only[W,B32]at *;omega
 have c0:u0<B32:=by simp only[B32];omega
 rw[hy1,hy0,hu1,hu0];clear s1 a1 s2 a2 hhs h64 hsr hor hlos hws hY hts2 hy1 hy0 hu1 hu0;have hg:=digit_guess (u:=U) (u1:=u1) b1 b0 (by rw[<-eY];exact hUY) c1;have hD1:=digit_lt (y:=Y) hUY c1;refine block_loop_cut (λf H=>f 15=.iv (.int .u64 ((U*B32+u1)/Y:Nat))/\f 2=.iv (.int .u64 Y)/\f 8=.iv (.int .u64 s)/\f 9=.iv (.int .u64 y1)/\f 10=.iv (.int .u64 y0)/\f 11=.iv (.int .u64 U)/\f 13=.iv (.int .u64 u1)/\f 14=.iv (.int .u64 u0)) ?_ ?_
 .have m1:IntKind.u64.wrap (((U/y1:Nat):Int)*(y1:Int))=((U/y1*y1:Nat):Int):=wrap_mul_nat (Nat.lt_of_le_of_lt (Nat.div_mul_le_self _ _) (Nat.lt_trans hUY hYW));have m2:(U:Int)-((U/y1*y1:Nat):Int)=((U%y1:Nat):Int):=by
   have:=Nat.div_add_mod U y1;rw[Nat.mul_comm]at this;omega
  have m3:U%y1<B32:=Nat.lt_trans (Nat.mod_lt _ (by omega)) b1';have m4:IntKind.u64.wrap ((U%y1:Nat):Int)=((U%y1:Nat):Int):=wrap_nat (by simp only[B32,W]at *;omega);have m5:IntKind.u64.wrap ((U/y1:Nat):Int)=((U/y1:Nat):Int):=wrap_nat (by simp only[B32,W]at *;omega);have m6:U/y1*y1+U%y1=U:=by have:=Nat.div_add_mod U y1;rw[Nat.mul_comm]at this;exact this
  rw[<-eY]at hg;refine aloop_by (λf H=>∃(q r:Nat),q*y1+r=U/\(U*B32+u1)/Y<=q/\r<B32/\q<=B32+1/\f 15=.iv (.int .u64 q)/\f 16=.iv (.int .u64 r)/\f 2=.iv (.int .u64 Y)/\f 8=.iv (.int .u64 s)/\f 9=.iv (.int .u64 y1)/\f 10=.iv (.int .u64 y0)/\f 11=.iv (.int .u64 U)/\f 13=.iv (.int .u64 u1)/\f 14=.iv (.int .u64 u0)) (λf H=>(intAt f 15).toNat) ?_ ?_
  .refine⟨U/y1,U%y1,m6,hg.1,m3,hg.2,?_⟩;simp (disch:=omega) only[wt,seval,reduceCtorEq,Nat.reduceEqDiff,tdiv_nat,m1,m2,m4,m5]
  rintro f H ⟨q,r,he,hq,hr,hqB,hF⟩;rw[intAt_of hF.1];simp (disch:=omega) only[wt,seval,reduceCtorEq,Nat.reduceEqDiff,hF];have hqB':q<=4294967297:=hqB;have hr':r<4294967296:=hr;have hb1:y1<4294967296:=b1';have hb0:y0<4294967296:=b0;have hcu:u1<4294967296:=c1;rw[eY]at hq hD1;have hw1:0<q->IntKind.u64.wrap ((q:Int)-1)=((q-1:Nat):Int):=λh=>by
   rw[show (q:Int)-1=((q-1:Nat):Int) by omega];exact wrap_nat (by simp only[W];omega)
  have hw2:IntKind.u64.wrap ((r:Int)+(y1:Int))=((r+y1:Nat):Int):=wrap_add_nat (by simp only[W];omega);have he':0<q->(q-1)*y1+(r+y1)=U:=λh=>by
   obtain⟨k,rfl⟩:∃k,q=k+1:=⟨q-1,by omega⟩;rw[Nat.add_sub_cancel,<-he,Nat.succ_mul];omega
  have hout:0<q->(U*B32+u1)/(y1*B32+y0)<=q-1->4294967296<=r+y1->q-1=(U*B32+u1)/(y1*B32+y0):=λh h' h''=>by
   refine digit_right (he' h) h' (by omega) ?_;have g1:(q-1)*y0<=4294967296*y0:=Nat.mul_le_mul_right _ (by omega);have g2:4294967296*y0<=4294967296*(r+y1):=Nat.mul_le_mul_left _ (by omega);simp only[B32];omega
  by_cases hqb:4294967296<=(q:Int)
  .have hq0:0<q:=by omega
   have hl:(U*B32+u1)/(y1*B32+y0)<=q-1:=by simp only[B32]at *;omega
   simp (disch:=omega) only[wt,seval,reduceCtorEq,Nat.reduceEqDiff,hF,hqb,hw1 hq0,hw2];refine if_by (λhbr=>?_) (λhbr=>?_)
   .simp (disch:=omega) only[wt,seval,reduceCtorEq,Nat.reduceEqDiff,hF];rw[hout hq0 hl (by omega),eY]
   .simp (disch:=omega) only[wt,seval,reduceCtorEq,Nat.reduceEqDiff,hF];exact⟨⟨q-1,r+y1,he' hq0,by rw[eY];exact hl,by simp only[B32];omega,by simp only[B32];omega,rfl,rfl⟩,by omega⟩
  have g3:q*y0<=4294967295*4294967295:=Nat.mul_le_mul (by omega) (by omega);have w1:IntKind.u64.wrap (4294967296*(r:Int))=((4294967296*r:Nat):Int):=wrap_mul_nat (m:=4294967296) (by simp only[W];omega);have w2:IntKind.u64.wrap (((4294967296*r:Nat):Int)+(u1:Int))=((4294967296*r+u1:Nat):Int):=wrap_add_nat (by simp only[W];omega);have w3:IntKind.u64.wrap ((q:Int)*(y0:Int))=((q*y0:Nat):Int):=wrap_mul_nat (by simp only[W];omega);by_cases hcm:((4294967296*r+u1:Nat):Int)<((q*y0:Nat):Int)
  .obtain⟨hl,hq0⟩:=digit_less he hq (by omega) (by simp only[B32];omega);simp (disch:=omega) only[wt,seval,reduceCtorEq,Nat.reduceEqDiff,hF,hqb,w1,w2,w3,hcm,hw1 hq0,hw2];refine if_by (λhbr=>?_) (λhbr=>?_)
   .simp (disch:=omega) only[wt,seval,reduceCtorEq,Nat.reduceEqDiff,hF];rw[hout hq0 hl (by omega),eY]
   .simp (disch:=omega) only[wt,seval,reduceCtorEq,Nat.reduceEqDiff,hF];exact⟨⟨q-1,r+y1,he' hq0,by rw[eY];exact hl,by simp only[B32];omega,by simp only[B32];omega,rfl,rfl⟩,by omega⟩
  .simp (disch:=omega) only[wt,seval,reduceCtorEq,Nat.reduceEqDiff,hF,hqb,w1,w2,w3,hcm];rw[digit_right he hq (by omega) (by simp only[B32];omega),eY]
 .clear hg;rintro f H hF;obtain⟨D1,hD⟩:∃D1,(U*B32+u1)/Y=D1:=⟨_,rfl⟩;obtain⟨R1,hR⟩:∃R1,(U*B32+u1)%Y=R1:=⟨_,rfl⟩;have hdm:U*B32+u1=D1*Y+R1:=by rw[<-hD,<-hR];exact(Nat.div_add_mod' _ _).symm
  have hRY:R1<Y:=by rw[<-hR];exact Nat.mod_lt _ (by omega)
  rw[hD]at hF hD1;have hRW:R1<W:=Nat.lt_trans hRY hYW;have v1:IntKind.u64.wrap ((U:Int)*4294967296)=((U*4294967296%W:Nat):Int):=wrap_mul_mod U 4294967296;have v2:=wrap_add_mod (U*4294967296) u1;have v3:=wrap_mul_mod D1 Y;have v4:=wrap_sub_mod (U*4294967296+u1) (D1*Y) (by simp only[B32]at hdm;omega);rw[show U*4294967296+u1-D1*Y=R1 by simp only[B32]at hdm;omega,Nat.mod_eq_of_lt hRW]at v4;have m1:IntKind.u64.wrap (((R1/y1:Nat):Int)*(y1:Int))=((R1/y1*y1:Nat):Int):=wrap_mul_nat (Nat.lt_of_le_of_lt (Nat.div_mul_le_self _ _) hRW);have m2:(R1:Int)-((R1/y1*y1:Nat):Int)=((R1%y1:Nat):Int):=by
   have:=Nat.div_add_mod R1 y1;rw[Nat.mul_comm]at this;omega
  have m3:R1%y1<B32:=Nat.lt_trans (Nat.mod_lt _ (by omega)) b1';have hg:=digit_guess (u:=R1) (u1:=u0) b1 b0 (by rw[<-eY];exact hRY) c0;have hD0:=digit_lt (y:=Y) hRY c0;have m4:IntKind.u64.wrap ((R1%y1:Nat):Int)=((R1%y1:Nat):Int):=wrap_nat (by simp only[B32,W]at *;omega);have m5:IntKind.u64.wrap ((R1/y1:Nat):Int)=((R1/y1:Nat):Int):=wrap_nat (by simp only[B32,W]at *;omega);have m6:R1/y1*y1+R1%y1=R1:=by have:=Nat.div_add_mod R1 y1;rw[Nat.mul_comm]at this;exact this
  rw[<-eY]at hg;simp (disch:=omega) only[wt,seval,reduceCtorEq,Nat.reduceEqDiff,hF,v1,v2,v3,v4,tdiv_nat,m1,m2,m4,m5];refine block_loop_cut (λf H=>f 18=.iv (.int .u64 ((R1*B32+u0)/Y:Nat))/\f 2=.iv (.int .u64 Y)/\f 8=.iv (.int .u64 s)/\f 14=.iv (.int .u64 u0)/\f 15=.iv (.int .u64 D1)/\f 17=.iv (.int .u64 R1)) ?_ ?_
  .have hgo:=hg;refine aloop_by (λf H=>∃(q r:Nat),q*y1+r=R1/\(R1*B32+u0)/Y<=q/\r<B32/\q<=B32+1/\f 18=.iv (.int .u64 q)/\f 16=.iv (.int .u64 r)/\f 2=.iv (.int .u64 Y)/\f 8=.iv (.int .u64 s)/\f 9=.iv (.int .u64 y1)/\f 10=.iv (.int .u64 y0)/\f 14=.iv (.int .u64 u0)/\f 15=.iv (.int .u64 D1)/\f 17=.iv (.int .u64 R1)) (λf H=>(intAt f 18).toNat) ?_ ?_
   .refine⟨R1/y1,R1%y1,m6,hg.1,m3,hg.2,?_⟩;simp (disch:=omega) only[wt,seval,reduceCtorEq,Nat.reduceEqDiff,hF]
   rintro f H ⟨q,r,he,hq,hr,hqB,hF⟩;rw[intAt_of hF.1];simp (disch:=omega) only[wt,seval,reduceCtorEq,Nat.reduceEqDiff,hF];have hqB':q<=4294967297:=hqB;have hr':r<4294967296:=hr;have hb1:y1<4294967296:=b1';have hb0:y0<4294967296:=b0;have hcu:u0<4294967296:=c0;rw[eY]at hq hD0;have hw1:0<q->IntKind.u64.wrap ((q:Int)-1)=((q-1:Nat):Int):=λh=>by
    rw[show (q:Int)-1=((q-1:Nat):Int) by omega];exact wrap_nat (by simp only[W];omega)
   have hw2:IntKind.u64.wrap ((r:Int)+(y1:Int))=((r+y1:Nat):Int):=wrap_add_nat (by simp only[W];omega);have he':0<q->(q-1)*y1+(r+y1)=R1:=λh=>by
    obtain⟨k,rfl⟩:∃k,q=k+1:=⟨q-1,by omega⟩;rw[Nat.add_sub_cancel,<-he,Nat.succ_mul];omega
   have hout:0<q->(R1*B32+u0)/(y1*B32+y0)<=q-1->4294967296<=r+y1->q-1=(R1*B32+u0)/(y1*B32+y0):=λh h' h''=>by
    refine digit_right (he' h) h' (by omega) ?_;have g1:(q-1)*y0<=4294967296*y0:=Nat.mul_le_mul_right _ (by omega);have g2:4294967296*y0<=4294967296*(r+y1):=Nat.mul_le_mul_left _ (by omega);simp only[B32];omega
   by_cases hqb:4294967296<=(q:Int)
   .have hq0:0<q:=by omega
    have hl:(R1*B32+u0)/(y1*B32+y0)<=q-1:=by simp only[B32]at *;omega
    simp (disch:=omega) only[wt,seval,reduceCtorEq,Nat.reduceEqDiff,hF,hqb,hw1 hq0,hw2];refine if_by (λhbr=>?_) (λhbr=>?_)
    .simp (disch:=omega) only[wt,seval,reduceCtorEq,Nat.reduceEqDiff,hF];rw[hout hq0 hl (by omega),eY]
    .simp (disch:=omega) only[wt,seval,reduceCtorEq,Nat.reduceEqDiff,hF];exact⟨⟨q-1,r+y1,he' hq0,by rw[eY];exact hl,by simp only[B32];omega,by simp only[B32];omega,rfl,rfl⟩,by omega⟩
   have g3:q*y0<=4294967295*4294967295:=Nat.mul_le_mul (by omega) (by omega);have w1:IntKind.u64.wrap (4294967296*(r:Int))=((4294967296*r:Nat):Int):=wrap_mul_nat (m:=4294967296) (by simp only[W];omega);have w2:IntKind.u64.wrap (((4294967296*r:Nat):Int)+(u0:Int))=((4294967296*r+u0:Nat):Int):=wrap_add_nat (by simp only[W];omega);have w3:IntKind.u64.wrap ((q:Int)*(y0:Int))=((q*y0:Nat):Int):=wrap_mul_nat (by simp only[W];omega);by_cases hcm:((4294967296*r+u0:Nat):Int)<((q*y0:Nat):Int)
   .obtain⟨hl,hq0⟩:=digit_less he hq (by omega) (by simp only[B32];omega);simp (disch:=omega) only[wt,seval,reduceCtorEq,Nat.reduceEqDiff,hF,hqb,w1,w2,w3,hcm,hw1 hq0,hw2];refine if_by (λhbr=>?_) (λhbr=>?_)
    .simp (disch:=omega) only[wt,seval,reduceCtorEq,Nat.reduceEqDiff,hF];rw[hout hq0 hl (by omega),eY]
    .simp (disch:=omega) only[wt,seval,reduceCtorEq,Nat.reduceEqDiff,hF];exact⟨⟨q-1,r+y1,he' hq0,by rw[eY];exact hl,by simp only[B32];omega,by simp only[B32];omega,rfl,rfl⟩,by omega⟩
   .simp (disch:=omega) only[wt,seval,reduceCtorEq,Nat.reduceEqDiff,hF,hqb,w1,w2,w3,hcm];rw[digit_right he hq (by omega) (by simp only[B32];omega),eY]
  .clear hg hF;rintro f H hF;obtain⟨D0,hE⟩:∃D0,(R1*B32+u0)/Y=D0:=⟨_,rfl⟩;obtain⟨R0,hS⟩:∃R0,(R1*B32+u0)%Y=R0:=⟨_,rfl⟩;have hdm0:R1*B32+u0=D0*Y+R0:=by rw[<-hE,<-hS];exact(Nat.div_add_mod' _ _).symm
   have hRY0:R0<Y:=by rw[<-hS];exact Nat.mod_lt _ (by omega)
   rw[hE]at hF hD0;have hRW0:R0<W:=Nat.lt_trans hRY0 hYW;have eN:U*W+L=(D1*B32+D0)*Y+R0:=by
    have e1:U*W+L=(U*B32+u1)*B32+u0:=by
     rw[eL];exact two_digits U u1 u0
    rw[e1,hdm,Nat.add_mul,Nat.add_assoc,hdm0,Nat.add_mul,Nat.mul_right_comm D1 Y B32,Nat.add_assoc]
   have hq:(hi*W+lo)/y=D1*4294967296+D0:=by
    rw[hquo,eN,Nat.mul_comm,Nat.mul_add_div (by omega),Nat.div_eq_of_lt hRY0,Nat.add_zero]
   have hr:(hi*W+lo)%y=R0/2^s:=by
    rw[eN,Nat.mul_comm,Nat.mul_add_mod,Nat.mod_eq_of_lt hRY0]at hrem;rw[hrem,Nat.mul_div_cancel _ (Nat.pow_pos (by decide))]
   have hD1':D1<4294967296:=hD1;have hD0':D0<4294967296:=hD0;have p1:IntKind.u64.wrap ((D1:Int)*4294967296)=((D1*4294967296:Nat):Int):=wrap_mul_nat (n:=4294967296) (by simp only[W];omega);have p2:IntKind.u64.wrap (((D1*4294967296:Nat):Int)+(D0:Int))=((D1*4294967296+D0:Nat):Int):=wrap_add_nat (by simp only[W];omega);have p3:IntKind.u64.wrap ((R1:Int)*4294967296)=((R1*4294967296%W:Nat):Int):=wrap_mul_mod R1 4294967296;have p4:=wrap_add_mod (R1*4294967296) u0;have p5:=wrap_mul_mod D0 Y;have p6:=wrap_sub_mod (R1*4294967296+u0) (D0*Y) (by simp only[B32]at hdm0;omega);rw[show R1*4294967296+u0-D0*Y=R0 by simp only[B32]at hdm0;omega,Nat.mod_eq_of_lt hRW0]at p6;have p7:=shr_nat R0 s (by omega);rw[hq,hr];simp (disch:=omega) only[wt,seval,reduceCtorEq,Nat.reduceEqDiff,hF,p1,p2,p3,p4,p5,p6,p7]
theorem nv_drop_cons {l:List Nat}{j:Nat}(h:j<l.length):nv (l.drop j)=l.getD j 0+W*nv (l.drop (j+1)):=by
 rw[List.drop_eq_getElem_cons h];have:l.getD j 0=l[j]:=by simp[List.getD,h]
 rw[this];rfl
theorem drop_set_cons {l:List Nat}{j:Nat}(h:j<l.length)(x:Nat):nv ((l.set j x).drop j)=x+W*nv (l.drop (j+1)):=by
 rw[nv_drop_cons (by simpa using h),List.drop_set_of_lt (by omega)]
 congr 1
 simp[List.getD,h]
theorem word_div {r x w:Nat}(hr:r<w)(hx:x<W):(r*W+x)/w<W:=by
 rw[Nat.div_lt_iff_lt_mul (by omega)];have:=Nat.mul_le_mul_right W hr;rw[Nat.succ_mul,Nat.mul_comm w]at this;omega
theorem divone_ok (a:List Nat)(w:Nat)(ha:Lim a)(hl:a.length<=2^40)(hw0:w≠0)(hw:w<W):AC Tryz.prog 136 [cl a,cu w] none [cl (pad a.length (nv a/w)),cu (nv a%w),ci 0]:=by
 refine AC.by_walk (rs:=[.tmp 4,.tmp 5,.tmp 6]) ords Tryz.func136 (by rfl) (by rfl) (by rfl) (by rfl) (by rfl) ?_;have h0:¬(w:Int)=0:=by omega
 simp (disch:=omega) only[wt,seval,reduceCtorEq,Nat.reduceEqDiff,h0];refine aloop_by (λf H=>∃(k r st:Nat) (out:List Nat),k<=a.length/\r<w/\Lim out/\out.length=a.length/\nv (out.drop k)*w+r=nv (a.drop k)/\f 9=.iv (.int .i64 ((k:Int)-1))/\f 0=.iv (.sl (lims a))/\f 1=.iv (.int .u64 w)/\f 7=.hs 14 st/\f 8=.iv (.int .u64 r)/\H 14=.blk false st 92 1 (lims out)) (λf H=>(intAt f 9+1).toNat) ?_ ?_
 .refine⟨a.length,0,1,List.replicate a.length 0,by omega,by omega,Lim.replicate _,by simp,by simp[vl],?_⟩;simp (disch:=omega) only[wt,seval,reduceCtorEq,Nat.reduceEqDiff,Int.toNat_natCast]
 rintro f H ⟨k,r,st,out,hk,hr,hO,hOl,hv,hF⟩;rw[intAt_of hF.1];simp (disch:=omega) only[wt,seval,reduceCtorEq,Nat.reduceEqDiff,hF];refine if_by (λhlt=>?_) (λhlt=>?_)
 .obtain⟨j,rfl⟩:∃j,k=j+1:=⟨k-1,by omega⟩;have ej:((j+1:Nat):Int)-1=(j:Int):=by omega
  rw[ej]at hF;have hx:=ha.get j;simp (disch:=omega) only[wt,seval,reduceCtorEq,Nat.reduceEqDiff,hF];refine call_by ((div64_ok r (a.getD j 0) w hr hx hw)) (by first|rfl|(simp only[tocvs,tocv,toboxes,tobox,updH_at,Nat.reduceEqDiff,↓reduceIte,hF];rfl)) (by simp) ?_;simp (disch:=omega) only[wt,seval,reduceCtorEq,Nat.reduceEqDiff,hF];have hq:=word_div hr hx;have hdm:=Nat.div_add_mod (r*W+a.getD j 0) w;generalize (r*W+a.getD j 0)/w=q at *;have hr':(r*W+a.getD j 0)%w<w:=Nat.mod_lt _ (by omega);generalize (r*W+a.getD j 0)%w=r' at *;refine⟨⟨j,r',st,out.set j q,by omega,hr',hO.set hq,by simp[hOl],?_,rfl,rfl,rfl,rfl⟩,by omega⟩;rw[drop_set_cons (by omega),nv_drop_cons (l:=a) (j:=j) (by omega),<-hv,Nat.add_mul,Nat.mul_add,Nat.mul_assoc];rw[Nat.mul_comm w q,Nat.mul_comm r W]at hdm;omega
 .simp (disch:=omega) only[wt,seval,reduceCtorEq,Nat.reduceEqDiff,hF];have:k=0:=by omega
  subst this;simp only[List.drop_zero]at hv;have e1:nv a/w=nv out:=by
   rw[<-hv,Nat.mul_comm,Nat.mul_add_div (by omega),Nat.div_eq_of_lt hr,Nat.add_zero]
  have e2:nv a%w=r:=by
   rw[<-hv,Nat.mul_comm,Nat.mul_add_mod,Nat.mod_eq_of_lt hr]
  have h5:=nv_lt hO;rw[hOl]at h5;rw[e1,e2,<-eq_pad hO hOl (s:=nv out) (Nat.mod_eq_of_lt h5).symm];exact⟨rfl,rfl⟩
theorem dword_ok (a:List Nat)(w:Nat)(ha:Lim a)(hl:a.length<=2^40)(hw0:w≠0)(hw:w<W):AC Tryz.prog 124 [cl a,cu w] none [cl (wd (nv a/w)),cu (nv a%w),ci 0]:=by
 refine AC.by_walk (rs:=[.tmp 4,.tmp 5,.tmp 6]) ords Tryz.func124 (by rfl) (by rfl) (by rfl) (by rfl) (by rfl) ?_;simp (disch:=omega) only[wt,seval,reduceCtorEq,Nat.reduceEqDiff];refine call_by ((divone_ok a w ha hl hw0 hw)) (by rfl) (by simp) ?_;simp (disch:=omega) only[wt,seval,reduceCtorEq,Nat.reduceEqDiff];have:=norm_ok (pad a.length (nv a/w)) (lim_pad _ _) (by rw[pad_len];omega);have h5:=nv_lt ha;have h6:=Nat.div_le_self (nv a) w;rw[nv_pad,Nat.mod_eq_of_lt (by omega)]at this;refine call_by (this) (by rfl) (by simp) ?_;simp (disch:=omega) only[wt,seval,reduceCtorEq,Nat.reduceEqDiff]
def shlL (a:List Nat)(n:Nat):List Nat:=if n%64=0 then List.replicate (n/64) 0++a else List.replicate (n/64) 0++pad (a.length+1) (nv a*2^(n%64))
theorem shlL_spec {a:List Nat}(h:Lim a)(n:Nat):Lim (shlL a n)/\nv (shlL a n)=nv a*2^n/\(shlL a n).length<=n/64+a.length+1:=by
 have hn:=Nat.div_add_mod n 64;have e:W^(n/64)*2^(n%64)=2^n:=by
  rw[show W=2^64 from rfl,<-Nat.pow_mul,<-Nat.pow_add,hn]
 unfold shlL;split
 .rename_i h0;rw[h0,Nat.pow_zero,Nat.mul_one]at e;refine⟨(Lim.replicate _).append h,?_,by simp⟩;simp only[nv,vl_append,vl_replicate,List.length_replicate,Nat.zero_add];rw[e,Nat.mul_comm]
 .refine⟨(Lim.replicate _).append (lim_pad _ _),?_,by simp[pad_len];omega⟩;have h1:=nv_pad (a.length+1) (nv a*2^(n%64));simp only[nv]at h1;simp only[nv,vl_append,vl_replicate,List.length_replicate,Nat.zero_add,h1];rw[Nat.mod_eq_of_lt]
  .rw[Nat.mul_left_comm,e]
  .have h2:=nv_lt h;have h3:2^(n%64)<=W:=by rw[show W=2^64 from rfl];exact Nat.pow_le_pow_right (by decide) (by omega)
   rw[Nat.pow_succ];simp only[nv]at h2
   calc vl W a*2^(n%64)<=vl W a*W:=Nat.mul_le_mul_left _ h3
    _<W^a.length*W:=(Nat.mul_lt_mul_right (by decide)).mpr h2
theorem word_shl {x r:Nat}(hr:r<=64)(hx:x<W):x*2^r%W=x%2^(64-r)*2^r/\x%2^(64-r)*2^r+W*(x/2^(64-r))=x*2^r/\x/2^(64-r)<2^r/\x%2^(64-r)*2^r+2^r<=W:=by
 have e:W=2^(64-r)*2^r:=by rw[<-Nat.pow_add,Nat.sub_add_cancel hr]
 have hp:=Nat.pow_pos (n:=r) (show 0<2 by decide);have hp':=Nat.pow_pos (n:=64-r) (show 0<2 by decide);have hm:=Nat.mod_lt x hp';have h3:x%2^(64-r)*2^r+2^r<=W:=by
  rw[e,<-Nat.succ_mul];exact Nat.mul_le_mul_right _ hm
 have h2:x%2^(64-r)*2^r+W*(x/2^(64-r))=x*2^r:=by
  conv=>rhs;rw[<-Nat.mod_add_div x (2^(64-r)),Nat.add_mul]
  rw[e,Nat.mul_right_comm]
 refine⟨?_,h2,?_,h3⟩
 .rw[<-h2,Nat.add_mul_mod_self_left,Nat.mod_eq_of_lt (by omega)]
 .rw[Nat.div_lt_iff_lt_mul hp',Nat.mul_comm,<-e];exact hx
theorem lshl_ok (a:List Nat)(n:Nat)(ha:Lim a)(hl:a.length<=2^40)(hn:n<=1048576):AC Tryz.prog 147 [cl a,ci n] none [cl (shlL a n),ci 0]:=by
 refine AC.by_walk (rs:=[.tmp 4,.tmp 5]) ords Tryz.func147 (by rfl) (by rfl) (by rfl) (by rfl) (by rfl) ?_;have e1:=tdiv_nat n 64;have e2:=tmod_nat n 64;have h1:¬(n:Int)<0:=by omega
 have h2:¬1048576<(n:Int):=by omega
 have e3:((n/64:Nat):Int)+(a.length:Int)+1=((n/64+a.length+1:Nat):Int):=by omega
 have hw:IntKind.u64.wrap ((n%64:Nat):Int)=((n%64:Nat):Int):=wrap_nat (by simp only[W];omega);have e1':(n:Int).tdiv 64=((n/64:Nat):Int):=e1;have e2':(n:Int).tmod 64=((n%64:Nat):Int):=e2;have hd:n/64<=16384:=by omega
 have hr:n%64<64:=Nat.mod_lt _ (by omega);unfold shlL;generalize n/64=q at *;generalize n%64=r at *;simp (disch:=omega) only[wt,seval,reduceCtorEq,Nat.reduceEqDiff,h1,h2,e1',e2',hw,e3];by_cases hr0:r=0
 .subst hr0;have hq:(List.replicate q 0).length=q:=by simp
  simp (disch:=omega) only[wt,seval,reduceCtorEq,Nat.reduceEqDiff,hq]
 .have hr0':¬(r:Int)=0:=by omega
  have h64:IntKind.u64.wrap (64-(r:Int))=((64-r:Nat):Int):=by rw[show (64:Int)-r=((64-r:Nat):Int) by omega];exact wrap_nat (by simp only[W];omega)
  rw[if_neg hr0];simp (disch:=omega) only[wt,seval,reduceCtorEq,Nat.reduceEqDiff,hr0'];refine aloop_by (λf H=>∃(i low st:Nat) (S:List Nat),i<=a.length/\S.length=i/\Lim S/\low<2^r/\nv S+W^i*low=nv (a.take i)*2^r/\f 37=.iv (.int .i64 i)/\f 7=.iv (.int .u64 r)/\f 8=.hs 29 st/\f 9=.iv (.int .u64 low)/\f 35=.iv (.sl (lims a))/\f 36=.iv (.int .i64 a.length)/\H 29=.blk false st 92 1 (lims (List.replicate q 0++S))) (λf H=>(a.length-intAt f 37).toNat) ?_ ?_
  .refine⟨0,0,1,[],by omega,rfl,Lim.nil,Nat.pow_pos (by decide),by simp[vl],?_⟩;simp (disch:=omega) only[wt,seval,reduceCtorEq,Nat.reduceEqDiff,Int.toNat_natCast,List.append_nil]
  rintro f H ⟨i,low,st,S,hi,hSl,hS,hlow,hv,hF⟩;rw[intAt_of hF.1];simp (disch:=omega) only[wt,seval,reduceCtorEq,Nat.reduceEqDiff,hF];have hq:(List.replicate q 0++S).length=q+i:=by simp[hSl]
  refine if_by (λhlt=>?_) (λhlt=>?_)
  .have hx:=ha.get i;have hsx:=word_shl (r:=r) (by omega) hx;have hm1:=shl_mod (a.getD i 0) r (by omega);rw[hsx.1]at hm1;have hor:=or_add (a.getD i 0%2^(64-r)) low r hlow (by omega);have hsr:=shr_nat (a.getD i 0) (64-r) (by omega);simp (disch:=omega) only[wt,seval,reduceCtorEq,Nat.reduceEqDiff,hF,hq,hm1,hor,h64,hsr];refine⟨⟨i+1,a.getD i 0/2^(64-r),st+1,S++[a.getD i 0%2^(64-r)*2^r+low],by omega,by simp[hSl],hS.append (Lim.cons (by omega) Lim.nil),hsx.2.2.1,?_,by omega,rfl,rfl,by rw[List.append_assoc]⟩,by omega⟩;rw[nv_snoc,hSl];simp only[nv]at hv ⊢;rw[vl_take_next,Nat.pow_succ,Nat.add_mul,Nat.mul_assoc _ (a.getD i 0),<-hsx.2.1,<-hv,Nat.mul_add,Nat.mul_add,Nat.mul_assoc];omega
  .simp (disch:=omega) only[wt,seval,reduceCtorEq,Nat.reduceEqDiff,hF,hq];have:i=a.length:=by omega
   subst this;rw[List.take_length]at hv;have h5:=nv_lt hS;rw[hSl]at h5;have hlW:low<W:=Nat.lt_of_lt_of_le hlow (by rw[show W=2^64 from rfl];exact Nat.pow_le_pow_right (by decide) (by omega));have e:S++[low]=pad (a.length+1) (nv a*2^r):=by
    refine eq_pad (hS.append (Lim.cons hlW Lim.nil)) (by simp[hSl]) ?_;have h6:=nv_lt (hS.append (Lim.cons hlW Lim.nil));rw[nv_snoc,hSl,hv]at h6 ⊢;rw[List.length_append,hSl]at h6;exact(Nat.mod_eq_of_lt h6).symm
   rw[List.append_assoc,e]
theorem nshl_ok (a:List Nat)(n:Nat)(ha:Lim a)(hl:a.length<=2^39)(hn:n<=1048576):AC Tryz.prog 138 [cl a,ci n] none [cl (wd (nv a*2^n)),ci 0]:=by
 refine AC.by_walk (rs:=[.tmp 4,.tmp 5]) ords Tryz.func138 (by rfl) (by rfl) (by rfl) (by rfl) (by rfl) ?_;have h1:¬(n:Int)<0:=by omega
 have h2:¬1048576<(n:Int):=by omega
 have ht:=topN_le a;simp (disch:=omega) only[wt,seval,reduceCtorEq,Nat.reduceEqDiff,h1,h2];refine call_by ((trim_ok a (by omega))) (by first|rfl|(simp only[tocvs,tocv,toboxes,tobox,updH_at,Nat.reduceEqDiff,↓reduceIte,h1,h2];rfl)) (by simp) ?_;simp (disch:=omega) only[wt,seval,reduceCtorEq,Nat.reduceEqDiff,h1,h2];have hs:=shlL_spec (ha.take (topN a)) n;have e:nv (a.take (topN a))=nv a:=vl_drop_top two_le_W ha;rw[e,List.length_take]at hs;refine call_by ((lshl_ok (a.take (topN a)) n (ha.take _) (by rw[List.length_take];omega) hn)) (by first|rfl|(simp only[tocvs,tocv,toboxes,tobox,updH_at,Nat.reduceEqDiff,↓reduceIte,h1,h2];rfl)) (by simp) ?_;simp (disch:=omega) only[wt,seval,reduceCtorEq,Nat.reduceEqDiff,h1,h2];have:=own_ok (shlL (a.take (topN a)) n) hs.1 (by omega);rw[hs.2.1]at this;refine call_by (this) (by first|rfl|(simp only[tocvs,tocv,toboxes,tobox,updH_at,Nat.reduceEqDiff,↓reduceIte,h1,h2];rfl)) (by simp) ?_;simp (disch:=omega) only[wt,seval,reduceCtorEq,Nat.reduceEqDiff,h1,h2]
theorem or_add' (a b m:Nat)(hb:b<2^m)(h:a*2^m+b<W):IntKind.u64.wrap ((BitVec.ofInt IntKind.u64.bits (b:Int)|||BitVec.ofInt IntKind.u64.bits ((a*2^m:Nat):Int)).toNat:Int)=((a*2^m+b:Nat):Int):=by
 rw[BitVec.or_comm];exact or_add a b m hb h
theorem word_at' {l:List Nat}(h:Lim l)(k:Nat):l.getD k 0=nv l/W^k%W:=by
 have h1:=vl_take_next W l k;have e1:=nv_take h (k+1);have e2:=nv_take h k;simp only[nv]at *;rw[e1,e2,Nat.mod_pow_succ]at h1;exact(Nat.eq_of_mul_eq_mul_left (W_pow_pos k) (Nat.add_left_cancel h1)).symm
theorem shr_digit {V r i x y:Nat}(hr:r<64)(hx:x=V/W^i%W)(hy:y=V/W^(i+1)%W):V/2^r/W^i%W=(y%2^r)*2^(64-r)+x/2^r/\x/2^r<2^(64-r)/\(y%2^r)*2^(64-r)+x/2^r<W:=by
 have e:W=2^r*2^(64-r):=by rw[<-Nat.pow_add,show r+(64-r)=64 by omega]
 have hp:=Nat.pow_pos (n:=r) (show 0<2 by decide);have hp':=Nat.pow_pos (n:=64-r) (show 0<2 by decide);have hxW:x<W:=by rw[hx];exact Nat.mod_lt _ (by decide)
 have b1:x/2^r<2^(64-r):=by rw[Nat.div_lt_iff_lt_mul hp,Nat.mul_comm,<-e];exact hxW
 have hT:V/W^i=x+W*(V/W^(i+1)):=by
  rw[hx,Nat.pow_succ,<-Nat.div_div_eq_div_mul];exact(Nat.mod_add_div _ _).symm
 generalize hT1:V/W^(i+1)=T at *;have hm:y%2^r=T%2^r:=by
  rw[hy,e,Nat.mod_mul_right_mod]
 have hlt:T%2^r<2^r:=Nat.mod_lt _ hp;have b2:T%2^r*2^(64-r)+2^(64-r)<=W:=by
  rw[e,<-Nat.succ_mul];exact Nat.mul_le_mul_right _ hlt
 refine⟨?_,b1,by rw[hm];omega⟩;have h1:V/2^r/W^i=x/2^r+2^(64-r)*T:=by
  rw[Nat.div_div_eq_div_mul,Nat.mul_comm,<-Nat.div_div_eq_div_mul,hT];rw[show W*T=2^r*(2^(64-r)*T) by rw[e,Nat.mul_assoc],Nat.add_mul_div_left _ _ hp]
 rw[h1,hm];have h2:2^(64-r)*T=T%2^r*2^(64-r)+W*(T/2^r):=by
  conv=>lhs;rw[<-Nat.mod_add_div T (2^r),Nat.mul_add]
  rw[Nat.mul_comm (2^(64-r)) (T%2^r),e,<-Nat.mul_assoc,Nat.mul_comm (2^(64-r)) (2^r)]
 rw[h2,<-Nat.add_assoc,Nat.add_mul_mod_self_left,Nat.add_comm (x/2^r),Nat.mod_eq_of_lt (by omega)]
theorem getD_set_self {l:List Nat}{i:Nat}(h:i<l.length)(x:Nat):(l.set i x).getD i 0=x:=by
 simp[List.getD,h]
theorem lshr_ok (a:List Nat)(n:Nat)(ha:Lim a)(hl:a.length<=2^40)(hn:n<=2^60):∃b,AC Tryz.prog 150 [cl a,ci n] none [cl (pad (a.length-n/64) (nv a/2^n)),cb b,ci 0]:=by
 have e1:=tdiv_nat n 64;have e2:=tmod_nat n 64;have h1:¬(n:Int)<0:=by omega
 have hw:IntKind.u64.wrap ((n%64:Nat):Int)=((n%64:Nat):Int):=wrap_nat (by simp only[W];omega);have e1':(n:Int).tdiv 64=((n/64:Nat):Int):=e1;have e2':(n:Int).tmod 64=((n%64:Nat):Int):=e2;have hr:n%64<64:=Nat.mod_lt _ (by omega);have eQ:nv a/2^n=nv a/W^(n/64)/2^(n%64):=by
  rw[Nat.div_div_eq_div_mul,show W=2^64 from rfl,<-Nat.pow_mul,<-Nat.pow_add,Nat.div_add_mod]
 rw[eQ];have hqb:n/64<=2^60:=by omega
 generalize n/64=q at *;generalize n%64=r at *;by_cases hq:(a.length:Int)<=q
 .refine⟨decide (0<(topN a:Int)),?_⟩;refine AC.by_walk (rs:=[.tmp 4,.tmp 5,.tmp 6]) ords Tryz.func150 (by rfl) (by rfl) (by rfl) (by rfl) (by rfl) ?_;simp (disch:=omega) only[wt,seval,reduceCtorEq,Nat.reduceEqDiff,Option.getD_some,h1,e1',e2',hw,hq];refine call_by ((top_ok a (by omega))) (by first|rfl|(simp only[tocvs,tocv,toboxes,tobox,updH_at,Nat.reduceEqDiff,↓reduceIte,h1,hq];rfl)) (by simp) ?_;simp (disch:=omega) only[wt,seval,reduceCtorEq,Nat.reduceEqDiff,Option.getD_some,h1,hq];rw[show a.length-q=0 by omega];rfl
 have h64:IntKind.u64.wrap (64-(r:Int))=((64-r:Nat):Int):=by rw[show (64:Int)-r=((64-r:Nat):Int) by omega];exact wrap_nat (by simp only[W];omega)
 have hm1:=shl_mod (a.getD q 0) (64-r) (by omega);refine⟨decide (0<(topN (a.take q):Int)) || (decide (¬((a.getD q 0*2^(64-r)%W:Nat):Int)=0) && decide (0<(r:Int))),?_⟩;generalize hb:(decide (0<(topN (a.take q):Int)) || (decide (¬((a.getD q 0*2^(64-r)%W:Nat):Int)=0) && decide (0<(r:Int))))=b0;have hV:=nv_drop ha q;have hdl:(a.drop q).length=a.length-q:=by simp
 have hdw:∀i,(a.drop q).getD i 0=a.getD (q+i) 0:=λi=>by simp[List.getD,List.getElem?_drop]
 refine AC.by_walk (rs:=[.tmp 4,.tmp 5,.tmp 6]) ords Tryz.func150 (by rfl) (by rfl) (by rfl) (by rfl) (by rfl) ?_;simp (disch:=omega) only[wt,seval,reduceCtorEq,Nat.reduceEqDiff,Option.getD_some,h1,e1',e2',hw,hq];have htk:(a.take q).length<=2^43:=by rw[List.length_take];omega
 refine call_by ((top_ok (a.take q) htk)) (by first|rfl|(simp only[tocvs,tocv,toboxes,tobox,updH_at,Nat.reduceEqDiff,↓reduceIte,h1,hq];rfl)) (by simp) ?_;have emq:(a.length:Int)-(q:Int)=((a.length-q:Nat):Int):=by omega
 generalize hm:a.length-q=m at *;by_cases hA:0<(topN (a.take q):Int)
 .rw[decide_eq_true hA,Bool.true_or]at hb;simp (disch:=omega) only[wt,seval,reduceCtorEq,Nat.reduceEqDiff,Option.getD_some,hA,emq];refine aloop_by (λf H=>∃(i st:Nat) (out:List Nat),i<=m/\Lim out/\out.length=m/\nv (out.take i)=nv (a.drop q)/2^r%W^i/\f 52=.iv (.int .i64 i)/\f 0=.iv (.sl (lims a))/\f 7=.iv (.int .i64 q)/\f 8=.iv (.int .u64 r)/\f 9=.iv (.bool b0)/\f 10=.hs 49 st/\f 51=.iv (.int .i64 m)/\H 49=.blk false st 92 1 (lims out)) (λf H=>(m-intAt f 52).toNat) ?_ ?_
  .refine⟨0,1,List.replicate m 0,by omega,Lim.replicate _,by simp,by simp[vl,Nat.mod_one],?_⟩;simp (disch:=omega) only[wt,seval,reduceCtorEq,Nat.reduceEqDiff,Option.getD_some,Int.toNat_natCast,hb]
  rintro f H ⟨i,st,out,hi,hO,hOl,hv,hF⟩;rw[intAt_of hF.1];simp (disch:=omega) only[wt,seval,reduceCtorEq,Nat.reduceEqDiff,Option.getD_some,hF];refine if_by (λhlt=>?_) (λhlt=>?_)
  .have ei:(q:Int)+(i:Int)=((q+i:Nat):Int):=by omega
   have ei1:((q+i:Nat):Int)+1=((q+i+1:Nat):Int):=by omega
   have hdg:=shr_digit (V:=nv (a.drop q)) (i:=i) hr (word_at' (ha.drop q) i) (word_at' (ha.drop q) (i+1));rw[hdw,hdw,<-Nat.add_assoc]at hdg;have hsr:=shr_nat (a.getD (q+i) 0) r (by omega);have hx:=ha.get (q+i+1);have hsh:=(word_shl (x:=a.getD (q+i+1) 0) (r:=64-r) (by omega) hx).1;rw[show 64-(64-r)=r by omega]at hsh;have hm2:=shl_mod (a.getD (q+i+1) 0) (64-r) (by omega);rw[hsh]at hm2;have hor:=or_add' (a.getD (q+i+1) 0%2^r) (a.getD (q+i) 0/2^r) (64-r) hdg.2.1 hdg.2.2;have hls:(out.set i (a.getD (q+i) 0/2^r)).length=m:=by simp[hOl]
   have hgs:(out.set i (a.getD (q+i) 0/2^r)).getD i 0=a.getD (q+i) 0/2^r:=getD_set_self (by omega) _;have hss:∀x y,(out.set i x).set i y=out.set i y:=λx y=>by simp
   simp (disch:=omega) only[wt,seval,reduceCtorEq,Nat.reduceEqDiff,Option.getD_some,hF,ei,hsr];refine if_by (λhr0=>?_) (λhr0=>?_)
   .simp (disch:=omega) only[wt,seval,reduceCtorEq,Nat.reduceEqDiff,Option.getD_some,hF,ei,ei1,hgs];refine .inl ⟨tmps_by (by kernel_rfl),?_⟩;refine call_by ((at_ok a (q+i+1) (by omega))) (by first|rfl|(simp only[tocvs,tocv,toboxes,tobox,updH_at,Nat.reduceEqDiff,↓reduceIte,hF,h64,hm2,hor,hgs,hss];rfl)) (by simp) ?_;simp (disch:=omega) only[wt,seval,reduceCtorEq,Nat.reduceEqDiff,Option.getD_some,hF,h64,hm2,hor,hgs,hss]
    first|exact log_by (by kernel_rfl)|refine⟨log_by (by kernel_rfl),?_⟩
    refine⟨⟨i+1,st,out.set i (a.getD (q+i+1) 0%2^r*2^(64-r)+a.getD (q+i) 0/2^r),by omega,hO.set hdg.2.2,by simp[hOl],?_,by omega,rfl,rfl⟩,by omega⟩;simp only[nv]at hv hdg ⊢;rw[vl_take_set W (by omega),hv,<-hdg.1,Nat.mod_pow_succ]
   .simp (disch:=omega) only[wt,seval,reduceCtorEq,Nat.reduceEqDiff,Option.getD_some,hF,ei];have hr1:r=0:=by omega
    subst hr1;refine⟨⟨i+1,st,out.set i (a.getD (q+i) 0/2^0),by omega,hO.set (by rw[Nat.pow_zero,Nat.div_one];exact ha.get _),by simp[hOl],?_,by omega,rfl,rfl⟩,by omega⟩;have h0:=word_at' (ha.drop q) i;rw[hdw]at h0;simp only[nv,Nat.pow_zero,Nat.div_one]at hv h0 ⊢;rw[vl_take_set W (by omega),hv,h0,Nat.mod_pow_succ]
  .simp (disch:=omega) only[wt,seval,reduceCtorEq,Nat.reduceEqDiff,Option.getD_some,hF];have:i=m:=by omega
   subst this;rw[List.take_of_length_le (by omega),hV]at hv;rw[eq_pad hO hOl hv]
 .by_cases hB:((a.getD q 0*2^(64-r)%W:Nat):Int)=0
  .rw[decide_eq_false hA,Bool.false_or,decide_eq_false (by simpa using hB),Bool.false_and]at hb;simp (disch:=omega) only[wt,seval,reduceCtorEq,Nat.reduceEqDiff,Option.getD_some,hA,emq,h64,hm1,hB];refine aloop_by (λf H=>∃(i st:Nat) (out:List Nat),i<=m/\Lim out/\out.length=m/\nv (out.take i)=nv (a.drop q)/2^r%W^i/\f 52=.iv (.int .i64 i)/\f 0=.iv (.sl (lims a))/\f 7=.iv (.int .i64 q)/\f 8=.iv (.int .u64 r)/\f 9=.iv (.bool b0)/\f 10=.hs 49 st/\f 51=.iv (.int .i64 m)/\H 49=.blk false st 92 1 (lims out)) (λf H=>(m-intAt f 52).toNat) ?_ ?_
   .refine⟨0,1,List.replicate m 0,by omega,Lim.replicate _,by simp,by simp[vl,Nat.mod_one],?_⟩;simp (disch:=omega) only[wt,seval,reduceCtorEq,Nat.reduceEqDiff,Option.getD_some,Int.toNat_natCast,hb]
   rintro f H ⟨i,st,out,hi,hO,hOl,hv,hF⟩;rw[intAt_of hF.1];simp (disch:=omega) only[wt,seval,reduceCtorEq,Nat.reduceEqDiff,Option.getD_some,hF];refine if_by (λhlt=>?_) (λhlt=>?_)
   .have ei:(q:Int)+(i:Int)=((q+i:Nat):Int):=by omega
    have ei1:((q+i:Nat):Int)+1=((q+i+1:Nat):Int):=by omega
    have hdg:=shr_digit (V:=nv (a.drop q)) (i:=i) hr (word_at' (ha.drop q) i) (word_at' (ha.drop q) (i+1));rw[hdw,hdw,<-Nat.add_assoc]at hdg;have hsr:=shr_nat (a.getD (q+i) 0) r (by omega);have hx:=ha.get (q+i+1);have hsh:=(word_shl (x:=a.getD (q+i+1) 0) (r:=64-r) (by omega) hx).1;rw[show 64-(64-r)=r by omega]at hsh;have hm2:=shl_mod (a.getD (q+i+1) 0) (64-r) (by omega);rw[hsh]at hm2;have hor:=or_add' (a.getD (q+i+1) 0%2^r) (a.getD (q+i) 0/2^r) (64-r) hdg.2.1 hdg.2.2;have hls:(out.set i (a.getD (q+i) 0/2^r)).length=m:=by simp[hOl]
    have hgs:(out.set i (a.getD (q+i) 0/2^r)).getD i 0=a.getD (q+i) 0/2^r:=getD_set_self (by omega) _;have hss:∀x y,(out.set i x).set i y=out.set i y:=λx y=>by simp
    simp (disch:=omega) only[wt,seval,reduceCtorEq,Nat.reduceEqDiff,Option.getD_some,hF,ei,hsr];refine if_by (λhr0=>?_) (λhr0=>?_)
    .simp (disch:=omega) only[wt,seval,reduceCtorEq,Nat.reduceEqDiff,Option.getD_some,hF,ei,ei1,hgs];refine .inl ⟨tmps_by (by kernel_rfl),?_⟩;refine call_by ((at_ok a (q+i+1) (by omega))) (by first|rfl|(simp only[tocvs,tocv,toboxes,tobox,updH_at,Nat.reduceEqDiff,↓reduceIte,hF,h64,hm2,hor,hgs,hss];rfl)) (by simp) ?_;simp (disch:=omega) only[wt,seval,reduceCtorEq,Nat.reduceEqDiff,Option.getD_some,hF,h64,hm2,hor,hgs,hss]
     first|exact log_by (by kernel_rfl)|refine⟨log_by (by kernel_rfl),?_⟩
     refine⟨⟨i+1,st,out.set i (a.getD (q+i+1) 0%2^r*2^(64-r)+a.getD (q+i) 0/2^r),by omega,hO.set hdg.2.2,by simp[hOl],?_,by omega,rfl,rfl⟩,by omega⟩;simp only[nv]at hv hdg ⊢;rw[vl_take_set W (by omega),hv,<-hdg.1,Nat.mod_pow_succ]
    .simp (disch:=omega) only[wt,seval,reduceCtorEq,Nat.reduceEqDiff,Option.getD_some,hF,ei];have hr1:r=0:=by omega
     subst hr1;refine⟨⟨i+1,st,out.set i (a.getD (q+i) 0/2^0),by omega,hO.set (by rw[Nat.pow_zero,Nat.div_one];exact ha.get _),by simp[hOl],?_,by omega,rfl,rfl⟩,by omega⟩;have h0:=word_at' (ha.drop q) i;rw[hdw]at h0;simp only[nv,Nat.pow_zero,Nat.div_one]at hv h0 ⊢;rw[vl_take_set W (by omega),hv,h0,Nat.mod_pow_succ]
   .simp (disch:=omega) only[wt,seval,reduceCtorEq,Nat.reduceEqDiff,Option.getD_some,hF];have:i=m:=by omega
    subst this;rw[List.take_of_length_le (by omega),hV]at hv;rw[eq_pad hO hOl hv]
  .by_cases hC:0<(r:Int)
   .rw[decide_eq_false hA,Bool.false_or,decide_eq_true hB,decide_eq_true hC,Bool.true_and]at hb;simp (disch:=omega) only[wt,seval,reduceCtorEq,Nat.reduceEqDiff,Option.getD_some,hA,emq,h64,hm1,hB,hC];refine aloop_by (λf H=>∃(i st:Nat) (out:List Nat),i<=m/\Lim out/\out.length=m/\nv (out.take i)=nv (a.drop q)/2^r%W^i/\f 52=.iv (.int .i64 i)/\f 0=.iv (.sl (lims a))/\f 7=.iv (.int .i64 q)/\f 8=.iv (.int .u64 r)/\f 9=.iv (.bool b0)/\f 10=.hs 49 st/\f 51=.iv (.int .i64 m)/\H 49=.blk false st 92 1 (lims out)) (λf H=>(m-intAt f 52).toNat) ?_ ?_
    .refine⟨0,1,List.replicate m 0,by omega,Lim.replicate _,by simp,by simp[vl,Nat.mod_one],?_⟩;simp (disch:=omega) only[wt,seval,reduceCtorEq,Nat.reduceEqDiff,Option.getD_some,Int.toNat_natCast,hb]
    rintro f H ⟨i,st,out,hi,hO,hOl,hv,hF⟩;rw[intAt_of hF.1];simp (disch:=omega) only[wt,seval,reduceCtorEq,Nat.reduceEqDiff,Option.getD_some,hF];refine if_by (λhlt=>?_) (λhlt=>?_)
    .have ei:(q:Int)+(i:Int)=((q+i:Nat):Int):=by omega
     have ei1:((q+i:Nat):Int)+1=((q+i+1:Nat):Int):=by omega
     have hdg:=shr_digit (V:=nv (a.drop q)) (i:=i) hr (word_at' (ha.drop q) i) (word_at' (ha.drop q) (i+1));rw[hdw,hdw,<-Nat.add_assoc]at hdg;have hsr:=shr_nat (a.getD (q+i) 0) r (by omega);have hx:=ha.get (q+i+1);have hsh:=(word_shl (x:=a.getD (q+i+1) 0) (r:=64-r) (by omega) hx).1;rw[show 64-(64-r)=r by omega]at hsh;have hm2:=shl_mod (a.getD (q+i+1) 0) (64-r) (by omega);rw[hsh]at hm2;have hor:=or_add' (a.getD (q+i+1) 0%2^r) (a.getD (q+i) 0/2^r) (64-r) hdg.2.1 hdg.2.2;have hls:(out.set i (a.getD (q+i) 0/2^r)).length=m:=by simp[hOl]
     have hgs:(out.set i (a.getD (q+i) 0/2^r)).getD i 0=a.getD (q+i) 0/2^r:=getD_set_self (by omega) _;have hss:∀x y,(out.set i x).set i y=out.set i y:=λx y=>by simp
     simp (disch:=omega) only[wt,seval,reduceCtorEq,Nat.reduceEqDiff,Option.getD_some,hF,ei,hsr];refine if_by (λhr0=>?_) (λhr0=>?_)
     .simp (disch:=omega) only[wt,seval,reduceCtorEq,Nat.reduceEqDiff,Option.getD_some,hF,ei,ei1,hgs];refine .inl ⟨tmps_by (by kernel_rfl),?_⟩;refine call_by ((at_ok a (q+i+1) (by omega))) (by first|rfl|(simp only[tocvs,tocv,toboxes,tobox,updH_at,Nat.reduceEqDiff,↓reduceIte,hF,h64,hm2,hor,hgs,hss];rfl)) (by simp) ?_;simp (disch:=omega) only[wt,seval,reduceCtorEq,Nat.reduceEqDiff,Option.getD_some,hF,h64,hm2,hor,hgs,hss]
      first|exact log_by (by kernel_rfl)|refine⟨log_by (by kernel_rfl),?_⟩
      refine⟨⟨i+1,st,out.set i (a.getD (q+i+1) 0%2^r*2^(64-r)+a.getD (q+i) 0/2^r),by omega,hO.set hdg.2.2,by simp[hOl],?_,by omega,rfl,rfl⟩,by omega⟩;simp only[nv]at hv hdg ⊢;rw[vl_take_set W (by omega),hv,<-hdg.1,Nat.mod_pow_succ]
     .simp (disch:=omega) only[wt,seval,reduceCtorEq,Nat.reduceEqDiff,Option.getD_some,hF,ei];have hr1:r=0:=by omega
      subst hr1;refine⟨⟨i+1,st,out.set i (a.getD (q+i) 0/2^0),by omega,hO.set (by rw[Nat.pow_zero,Nat.div_one];exact ha.get _),by simp[hOl],?_,by omega,rfl,rfl⟩,by omega⟩;have h0:=word_at' (ha.drop q) i;rw[hdw]at h0;simp only[nv,Nat.pow_zero,Nat.div_one]at hv h0 ⊢;rw[vl_take_set W (by omega),hv,h0,Nat.mod_pow_succ]
    .simp (disch:=omega) only[wt,seval,reduceCtorEq,Nat.reduceEqDiff,Option.getD_some,hF];have:i=m:=by omega
     subst this;rw[List.take_of_length_le (by omega),hV]at hv;rw[eq_pad hO hOl hv]
   .rw[decide_eq_false hA,Bool.false_or,decide_eq_true hB,decide_eq_false hC,Bool.true_and]at hb;simp (disch:=omega) only[wt,seval,reduceCtorEq,Nat.reduceEqDiff,Option.getD_some,hA,emq,h64,hm1,hB,hC];refine aloop_by (λf H=>∃(i st:Nat) (out:List Nat),i<=m/\Lim out/\out.length=m/\nv (out.take i)=nv (a.drop q)/2^r%W^i/\f 52=.iv (.int .i64 i)/\f 0=.iv (.sl (lims a))/\f 7=.iv (.int .i64 q)/\f 8=.iv (.int .u64 r)/\f 9=.iv (.bool b0)/\f 10=.hs 49 st/\f 51=.iv (.int .i64 m)/\H 49=.blk false st 92 1 (lims out)) (λf H=>(m-intAt f 52).toNat) ?_ ?_
    .refine⟨0,1,List.replicate m 0,by omega,Lim.replicate _,by simp,by simp[vl,Nat.mod_one],?_⟩;simp (disch:=omega) only[wt,seval,reduceCtorEq,Nat.reduceEqDiff,Option.getD_some,Int.toNat_natCast,hb]
    rintro f H ⟨i,st,out,hi,hO,hOl,hv,hF⟩;rw[intAt_of hF.1];simp (disch:=omega) only[wt,seval,reduceCtorEq,Nat.reduceEqDiff,Option.getD_some,hF];refine if_by (λhlt=>?_) (λhlt=>?_)
    .have ei:(q:Int)+(i:Int)=((q+i:Nat):Int):=by omega
     have ei1:((q+i:Nat):Int)+1=((q+i+1:Nat):Int):=by omega
     have hdg:=shr_digit (V:=nv (a.drop q)) (i:=i) hr (word_at' (ha.drop q) i) (word_at' (ha.drop q) (i+1));rw[hdw,hdw,<-Nat.add_assoc]at hdg;have hsr:=shr_nat (a.getD (q+i) 0) r (by omega);have hx:=ha.get (q+i+1);have hsh:=(word_shl (x:=a.getD (q+i+1) 0) (r:=64-r) (by omega) hx).1;rw[show 64-(64-r)=r by omega]at hsh;have hm2:=shl_mod (a.getD (q+i+1) 0) (64-r) (by omega);rw[hsh]at hm2;have hor:=or_add' (a.getD (q+i+1) 0%2^r) (a.getD (q+i) 0/2^r) (64-r) hdg.2.1 hdg.2.2;have hls:(out.set i (a.getD (q+i) 0/2^r)).length=m:=by simp[hOl]
     have hgs:(out.set i (a.getD (q+i) 0/2^r)).getD i 0=a.getD (q+i) 0/2^r:=getD_set_self (by omega) _;have hss:∀x y,(out.set i x).set i y=out.set i y:=λx y=>by simp
     simp (disch:=omega) only[wt,seval,reduceCtorEq,Nat.reduceEqDiff,Option.getD_some,hF,ei,hsr];refine if_by (λhr0=>?_) (λhr0=>?_)
     .simp (disch:=omega) only[wt,seval,reduceCtorEq,Nat.reduceEqDiff,Option.getD_some,hF,ei,ei1,hgs];refine .inl ⟨tmps_by (by kernel_rfl),?_⟩;refine call_by ((at_ok a (q+i+1) (by omega))) (by first|rfl|(simp only[tocvs,tocv,toboxes,tobox,updH_at,Nat.reduceEqDiff,↓reduceIte,hF,h64,hm2,hor,hgs,hss];rfl)) (by simp) ?_;simp (disch:=omega) only[wt,seval,reduceCtorEq,Nat.reduceEqDiff,Option.getD_some,hF,h64,hm2,hor,hgs,hss]
      first|exact log_by (by kernel_rfl)|refine⟨log_by (by kernel_rfl),?_⟩
      refine⟨⟨i+1,st,out.set i (a.getD (q+i+1) 0%2^r*2^(64-r)+a.getD (q+i) 0/2^r),by omega,hO.set hdg.2.2,by simp[hOl],?_,by omega,rfl,rfl⟩,by omega⟩;simp only[nv]at hv hdg ⊢;rw[vl_take_set W (by omega),hv,<-hdg.1,Nat.mod_pow_succ]
     .simp (disch:=omega) only[wt,seval,reduceCtorEq,Nat.reduceEqDiff,Option.getD_some,hF,ei];have hr1:r=0:=by omega
      subst hr1;refine⟨⟨i+1,st,out.set i (a.getD (q+i) 0/2^0),by omega,hO.set (by rw[Nat.pow_zero,Nat.div_one];exact ha.get _),by simp[hOl],?_,by omega,rfl,rfl⟩,by omega⟩;have h0:=word_at' (ha.drop q) i;rw[hdw]at h0;simp only[nv,Nat.pow_zero,Nat.div_one]at hv h0 ⊢;rw[vl_take_set W (by omega),hv,h0,Nat.mod_pow_succ]
    .simp (disch:=omega) only[wt,seval,reduceCtorEq,Nat.reduceEqDiff,Option.getD_some,hF];have:i=m:=by omega
     subst this;rw[List.take_of_length_le (by omega),hV]at hv;rw[eq_pad hO hOl hv]
theorem nshr_ok (a:List Nat)(n:Nat)(ha:Lim a)(hl:a.length<=2^40)(hn:n<=2^60):AC Tryz.prog 143 [cl a,ci n] none [cl (wd (nv a/2^n)),ci 0]:=by
 obtain⟨b,hb⟩:=lshr_ok a n ha hl hn;refine AC.by_walk (rs:=[.tmp 4,.tmp 5]) ords Tryz.func143 (by rfl) (by rfl) (by rfl) (by rfl) (by rfl) ?_;have h1:¬(n:Int)<0:=by omega
 simp (disch:=omega) only[wt,seval,reduceCtorEq,Nat.reduceEqDiff,Option.getD_some,h1];refine call_by (hb) (by first|rfl|(simp only[tocvs,tocv,toboxes,tobox,updH_at,Nat.reduceEqDiff,↓reduceIte,h1];rfl)) (by simp) ?_;simp (disch:=omega) only[wt,seval,reduceCtorEq,Nat.reduceEqDiff,Option.getD_some,h1];have:=own_ok (pad (a.length-n/64) (nv a/2^n)) (lim_pad _ _) (by rw[pad_len];omega);have e:nv (pad (a.length-n/64) (nv a/2^n))=nv a/2^n:=by
  rw[nv_pad,Nat.mod_eq_of_lt];have h2:=nv_lt ha;have hd:=Nat.div_add_mod n 64;have e1:2^n=W^(n/64)*2^(n%64):=by rw[show W=2^64 from rfl,<-Nat.pow_mul,<-Nat.pow_add,hd]
  rw[e1,<-Nat.div_div_eq_div_mul];refine Nat.lt_of_le_of_lt (Nat.div_le_self _ _) ?_;rw[Nat.div_lt_iff_lt_mul (W_pow_pos _),<-Nat.pow_add];exact Nat.lt_of_lt_of_le h2 (Nat.pow_le_pow_right (by decide) (by omega))
 rw[e]at this;refine call_by (this) (by first|rfl|(simp only[tocvs,tocv,toboxes,tobox,updH_at,Nat.reduceEqDiff,↓reduceIte,h1];rfl)) (by simp) ?_;simp (disch:=omega) only[wt,seval,reduceCtorEq,Nat.reduceEqDiff,Option.getD_some,h1]
theorem laddo_ok (a b:List Nat)(ha:Lim a)(hb:Lim b)(hla:a.length<=2^40)(hlb:b.length<=2^40) :
  AC Tryz.prog 112 [cl a,cl b] (some (0,92,1,lims (pad (max a.length b.length) (nv a+nv b)))) [cl (pad (max a.length b.length) (nv a+nv b)),cu ((nv a+nv b)/W^(max a.length b.length))]:=by
 refine AC.by_walk (rs:=[.tmp 4,.tmp 5]) ords Tryz.func112 (by rfl) (by rfl) (by rfl) (by rfl) (by rfl) ?_;simp (disch:=omega) only[wt,seval,reduceCtorEq,Nat.reduceEqDiff,Option.getD_some];refine if_cut (λf H=>∃A B,B.length<=A.length/\A.length<=2^40/\Lim A/\Lim B/\A.length=max a.length b.length/\nv A+nv B=nv a+nv b/\f 0=.iv (.sl (lims A))/\f 1=.iv (.sl (lims B))) ?_ ?_
 .refine if_by (λhz=>?_) (λhz=>?_)
  .simp (disch:=omega) only[wt,seval,reduceCtorEq,Nat.reduceEqDiff,Option.getD_some];exact⟨b,a,by omega,by omega,hb,ha,by omega,by omega,rfl,rfl⟩
  .simp (disch:=omega) only[wt,seval,reduceCtorEq,Nat.reduceEqDiff,Option.getD_some];exact⟨a,b,by omega,by omega,ha,hb,by omega,by omega,rfl,rfl⟩
 rintro f H ⟨A,B,hBA,hAl,hA,hB,hAm,hAB,h0,h1⟩;rw[<-hAm,<-hAB];simp (disch:=omega) only[wt,seval,reduceCtorEq,Nat.reduceEqDiff,Option.getD_some,h0,h1];refine call_by ((clone_ok A (by omega))) (by first|rfl|(simp only[tocvs,tocv,toboxes,tobox,updH_at,Nat.reduceEqDiff,↓reduceIte,h0,h1];rfl)) (by simp) ?_;simp (disch:=omega) only[wt,seval,reduceCtorEq,Nat.reduceEqDiff,Option.getD_some,h0,h1];refine aloop_by (λf H=>∃(i c:Nat) (out:List Nat) (st:Nat),i<=A.length/\c<=1/\Lim out/\out.length=A.length/\out.drop i=A.drop i/\nv (out.take i)+W^i*c=nv (A.take i)+nv (B.take i) /\
  f 0=.iv (.sl (lims A))/\f 1=.iv (.sl (lims B))/\f 6=.hs 17 st/\f 7=.iv (.int .u64 c)/\f 19=.iv (.int .i64 A.length)/\f 20=.iv (.int .i64 i)/\H 17=.blk false st 92 1 (lims out)) (λf H=>(A.length-intAt f 20).toNat) ?_ ?_
 .exact⟨0,0,A,(H 17).stamp+1,by omega,by omega,hA,rfl,rfl,by simp[vl],by simp (disch:=omega) only[wt,seval,reduceCtorEq,Nat.reduceEqDiff,Option.getD_some,h0],by simp (disch:=omega) only[wt,seval,reduceCtorEq,Nat.reduceEqDiff,Option.getD_some,h1],by simp (disch:=omega) only[wt,seval,reduceCtorEq,Nat.reduceEqDiff,Option.getD_some],by simp (disch:=omega) only[wt,seval,reduceCtorEq,Nat.reduceEqDiff,Option.getD_some],by simp (disch:=omega) only[wt,seval,reduceCtorEq,Nat.reduceEqDiff,Option.getD_some],by simp (disch:=omega) only[wt,seval,reduceCtorEq,Nat.reduceEqDiff,Option.getD_some],by simp (disch:=omega) only[wt,seval,reduceCtorEq,Nat.reduceEqDiff,Option.getD_some]⟩
 clear h0 h1;rintro f H ⟨i,c,out,st,hi,hc,hO,hOl,hOd,hOv,h0,h1,h6,h7,h19,h20,hH⟩;rw[intAt_of h20];simp (disch:=omega) only[wt,seval,reduceCtorEq,Nat.reduceEqDiff,Option.getD_some,h0,h1,h6,h7,h19,h20,hH];refine if_by (λhlt=>?_) (λhlt=>?_)
 .by_cases hb':(B.length:Int)<=i
  .by_cases hc':(c:Int)=0
   .simp (disch:=omega) only[wt,seval,reduceCtorEq,Nat.reduceEqDiff,Option.getD_some,h0,h1,h6,h7,h19,h20,hH,hb',hc'];obtain rfl:c=0:=by omega
    have e1:nv out=nv A+nv B:=by
     have e2:=vl_split W out (k:=i) (by omega);have e3:=vl_split W A (k:=i) (by omega);rw[List.take_of_length_le (l:=B) (by omega)]at hOv;rw[hOd]at e2;simp only[nv]at *;omega
    have e2:nv A+nv B<W^A.length:=by rw[<-e1,<-hOl];exact nv_lt hO
    rw[<-eq_pad hO hOl (s:=nv A+nv B) (by rw[e1,Nat.mod_eq_of_lt e2]),Nat.div_eq_of_lt e2];exact⟨rfl,rfl⟩
   .simp (disch:=omega) only[wt,seval,reduceCtorEq,Nat.reduceEqDiff,Option.getD_some,h0,h1,h6,h7,h19,h20,hH,hb',hc'];refine .inl ⟨tmps_by (by kernel_rfl),?_⟩;refine call_by ((at_ok B i (by omega))) (by first|rfl|(simp only[tocvs,tocv,toboxes,tobox,updH_at,Nat.reduceEqDiff,↓reduceIte,h0,h1,h6,h7,h19,h20,hH];rfl)) (by simp) ?_;simp (disch:=omega) only[wt,seval,reduceCtorEq,Nat.reduceEqDiff,Option.getD_some,h0,h1,h6,h7,h19,h20,hH];refine call_by ((addw_ok (A.getD i 0) (B.getD i 0) c (hA.get i) (hB.get i) (by simp only[W];omega))) (by first|rfl|(simp only[tocvs,tocv,toboxes,tobox,updH_at,Nat.reduceEqDiff,↓reduceIte,h0,h1,h6,h7,h19,h20,hH];rfl)) (by simp) ?_;simp (disch:=omega) only[wt,seval,reduceCtorEq,Nat.reduceEqDiff,Option.getD_some,h0,h1,h6,h7,h19,h20,hH]
    first|exact log_by (by kernel_rfl)|refine⟨log_by (by kernel_rfl),?_⟩
    have hx:=hA.get i;have hy:=hB.get i

    refine⟨⟨i+1,(A.getD i 0+B.getD i 0+c)/W,out.set i ((A.getD i 0+B.getD i 0+c)%W),st,by omega,by simp only[W]at *;omega,hO.set (Nat.mod_lt _ (by decide)),by simp[hOl],?_,?_,rfl,rfl,by omega,rfl⟩,by omega⟩
    .rw[List.drop_set_of_lt (by omega)];have:=congrArg (List.drop 1) hOd;simpa using this
    .simp only[nv]at *;rw[vl_take_set W (by omega),Nat.pow_succ,vl_take_next,vl_take_next];exact carry_step hOv (by simp only[W];omega)
  .simp (disch:=omega) only[wt,seval,reduceCtorEq,Nat.reduceEqDiff,Option.getD_some,h0,h1,h6,h7,h19,h20,hH,hb'];refine .inl ⟨tmps_by (by kernel_rfl),?_⟩;refine call_by ((at_ok B i (by omega))) (by first|rfl|(simp only[tocvs,tocv,toboxes,tobox,updH_at,Nat.reduceEqDiff,↓reduceIte,h0,h1,h6,h7,h19,h20,hH];rfl)) (by simp) ?_;simp (disch:=omega) only[wt,seval,reduceCtorEq,Nat.reduceEqDiff,Option.getD_some,h0,h1,h6,h7,h19,h20,hH];refine call_by ((addw_ok (A.getD i 0) (B.getD i 0) c (hA.get i) (hB.get i) (by simp only[W];omega))) (by first|rfl|(simp only[tocvs,tocv,toboxes,tobox,updH_at,Nat.reduceEqDiff,↓reduceIte,h0,h1,h6,h7,h19,h20,hH];rfl)) (by simp) ?_;simp (disch:=omega) only[wt,seval,reduceCtorEq,Nat.reduceEqDiff,Option.getD_some,h0,h1,h6,h7,h19,h20,hH]
   first|exact log_by (by kernel_rfl)|refine⟨log_by (by kernel_rfl),?_⟩
   have hx:=hA.get i;have hy:=hB.get i

   refine⟨⟨i+1,(A.getD i 0+B.getD i 0+c)/W,out.set i ((A.getD i 0+B.getD i 0+c)%W),st,by omega,by simp only[W]at *;omega,hO.set (Nat.mod_lt _ (by decide)),by simp[hOl],?_,?_,rfl,rfl,by omega,rfl⟩,by omega⟩
   .rw[List.drop_set_of_lt (by omega)];have:=congrArg (List.drop 1) hOd;simpa using this
   .simp only[nv]at *;rw[vl_take_set W (by omega),Nat.pow_succ,vl_take_next,vl_take_next];exact carry_step hOv (by simp only[W];omega)
 .simp (disch:=omega) only[wt,seval,reduceCtorEq,Nat.reduceEqDiff,Option.getD_some,h0,h1,h6,h7,h19,h20,hH];have hiA:i=A.length:=by omega
  subst hiA;rw[List.take_of_length_le (by omega),List.take_length,List.take_of_length_le (by omega)]at hOv;have hlt':=nv_lt hO;rw[hOl]at hlt';have e2:(nv A+nv B)/W^A.length=c:=by
   rw[<-hOv,Nat.add_mul_div_left _ _ (W_pow_pos _),Nat.div_eq_of_lt hlt',Nat.zero_add]
  rw[e2,<-eq_pad hO hOl (s:=nv A+nv B) (by rw[<-hOv,Nat.add_mul_mod_self_left,Nat.mod_eq_of_lt hlt'])];exact⟨rfl,rfl⟩
theorem sub_unique {x y N o c:Nat}(h:o+y=x+N*c)(ho:o<N):c=(y-x+N-1)/N/\o=x+N*c-y:=by
 refine⟨?_,by omega⟩
 symm
 rcases Nat.le_total x y with hxy|hxy
 .refine Nat.div_eq_of_lt_le ?_ ?_
  .rw[Nat.mul_comm];omega
  .rw[Nat.mul_comm,Nat.mul_succ];omega
 .have hc:c=0:=by
   rcases Nat.eq_zero_or_pos c with h0|h0
   .exact h0
   .have:=Nat.mul_le_mul_left N h0;omega
  subst hc;rw[show y-x=0 by omega];exact Nat.div_eq_of_lt (by omega)
def subC (x y N:Nat):Nat:=(y-x+N-1)/N
theorem mulw_bound {x w c:Nat}(hx:x<W)(hw:w<W)(hc:c<W):x*w+c<=(W-1)*W:=by
 have h1:x*w<=(W-1)*(W-1):=Nat.mul_le_mul (by omega) (by omega);simp only[W]at *;omega
theorem mulsub_ok (a b:List Nat)(w:Nat)(ha:Lim a)(hb:Lim b)(hw:w<W)(hla:a.length<=2^40)(hlb:b.length<=a.length) :
  AC Tryz.prog 141 [cl a,cl b,cu w] (some (0,92,1,lims (pad a.length (nv a+W^a.length*subC (nv a) (nv b*w) (W^a.length)-nv b*w)))) [cl (pad a.length (nv a+W^a.length*subC (nv a) (nv b*w) (W^a.length)-nv b*w)),cu (subC (nv a) (nv b*w) (W^a.length)),ci 0]:=by
 refine AC.by_walk (rs:=[.tmp 6,.tmp 7,.tmp 8]) ords Tryz.func141 (by rfl) (by rfl) (by rfl) (by rfl) (by rfl) ?_;have h1:¬(a.length:Int)<b.length:=by omega
 simp (disch:=omega) only[wt,seval,reduceCtorEq,Nat.reduceEqDiff,Option.getD_some,h1];refine call_by ((clone_ok a (by omega))) (by first|rfl|(simp only[tocvs,tocv,toboxes,tobox,updH_at,Nat.reduceEqDiff,↓reduceIte,h1];rfl)) (by simp) ?_;simp (disch:=omega) only[wt,seval,reduceCtorEq,Nat.reduceEqDiff,Option.getD_some,h1];refine aloop_by (λf H=>∃(i c st:Nat) (out:List Nat),i<=a.length/\c<W/\Lim out/\out.length=a.length/\out.drop i=a.drop i/\nv (out.take i)+nv (b.take i)*w=nv (a.take i)+W^i*c/\f 25=.iv (.int .i64 i)/\f 1=.iv (.sl (lims b))/\f 2=.iv (.int .u64 w)/\f 9=.hs 22 st/\f 10=.iv (.int .u64 c)/\f 24=.iv (.int .i64 a.length)/\H 22=.blk false st 92 1 (lims out)) (λf H=>(a.length-intAt f 25).toNat) ?_ ?_
 .refine⟨0,0,1,a,by omega,by decide,ha,rfl,rfl,by simp[vl],?_⟩;simp (disch:=omega) only[wt,seval,reduceCtorEq,Nat.reduceEqDiff,Option.getD_some]
 rintro f H ⟨i,c,st,out,hi,hc,hO,hOl,hOd,hv,hF⟩;rw[intAt_of hF.1];simp (disch:=omega) only[wt,seval,reduceCtorEq,Nat.reduceEqDiff,Option.getD_some,hF];refine if_by (λhlt=>?_) (λhlt=>?_)
 .have hx:=ha.get i;have hy:=hb.get i;have hoi:out.getD i 0=a.getD i 0:=by
   have e1:out.getD i 0=(out.drop i).getD 0 0:=by simp[List.getD,List.getElem?_drop]
   have e2:a.getD i 0=(a.drop i).getD 0 0:=by simp[List.getD,List.getElem?_drop]
   rw[e1,e2,hOd]
  have hbd:=mulw_bound hy hw hc;simp (disch:=omega) only[wt,seval,reduceCtorEq,Nat.reduceEqDiff,Option.getD_some,hF];refine call_by ((at_ok b i (by omega))) (by first|rfl|(simp only[tocvs,tocv,toboxes,tobox,updH_at,Nat.reduceEqDiff,↓reduceIte,hF];rfl)) (by simp) ?_;simp (disch:=omega) only[wt,seval,reduceCtorEq,Nat.reduceEqDiff,Option.getD_some,hF];have m:=mulw_ok (b.getD i 0) w c 0 hy hw hc (by decide);rw[Nat.add_zero]at m;refine call_by (m) (by first|rfl|(simp only[tocvs,tocv,toboxes,tobox,updH_at,Nat.reduceEqDiff,↓reduceIte,hF];rfl)) (by simp) ?_;simp (disch:=omega) only[wt,seval,reduceCtorEq,Nat.reduceEqDiff,Option.getD_some,hF];have hdm:=Nat.div_add_mod (b.getD i 0*w+c) W;have hlo:(b.getD i 0*w+c)%W<W:=Nat.mod_lt _ (by decide);generalize (b.getD i 0*w+c)/W=hi' at *;generalize (b.getD i 0*w+c)%W=lo at *;have s:=subw_ok (out.getD i 0) lo 0 (by rw[hoi];exact hx) hlo (by omega);rw[hoi]at s;obtain⟨bo,hbo,hd1,hd2,hcb⟩:∃bo,(if a.getD i 0<lo+0 then 1 else 0)=bo/\(a.getD i 0+W-lo-0)%W<W/\(a.getD i 0+W-lo-0)%W+lo=a.getD i 0+W*bo/\hi'+bo<W:=by
   refine⟨_,rfl,Nat.mod_lt _ (by decide),?_,?_⟩
   .simp only[W]at *;split<;>omega
   .simp only[W]at *;split<;>omega
  rw[hbo]at s;generalize (a.getD i 0+W-lo-0)%W=d at *;have hwc:IntKind.u64.wrap ((hi':Int)+(bo:Int))=((hi'+bo:Nat):Int):=wrap_add_nat hcb;refine call_by (s) (by first|rfl|(simp only[tocvs,tocv,toboxes,tobox,updH_at,Nat.reduceEqDiff,↓reduceIte,hF,hoi,hwc];rfl)) (by simp) ?_;simp (disch:=omega) only[wt,seval,reduceCtorEq,Nat.reduceEqDiff,Option.getD_some,hF,hoi,hwc];refine⟨⟨i+1,hi'+bo,st,out.set i d,by omega,hcb,hO.set hd1,by simp[hOl],?_,?_,by omega,rfl,rfl,rfl⟩,by omega⟩
  .rw[List.drop_set_of_lt (by omega)];have:=congrArg (List.drop 1) hOd;simpa using this
  .simp only[nv]at hv ⊢;rw[vl_take_set W (by omega),Nat.pow_succ,vl_take_next,vl_take_next,Nat.add_mul];have key:W^i*d+W^i*b.getD i 0*w+W^i*c=W^i*a.getD i 0+W^i*W*(hi'+bo):=by
    rw[Nat.mul_assoc,Nat.mul_assoc,<-Nat.mul_add,<-Nat.mul_add,<-Nat.mul_add]
    congr 1
    rw[Nat.mul_add];omega
   omega
 .simp (disch:=omega) only[wt,seval,reduceCtorEq,Nat.reduceEqDiff,Option.getD_some,hF];have:i=a.length:=by omega
  subst this;rw[List.take_of_length_le (by omega),List.take_of_length_le (by omega),List.take_length]at hv;have h5:=nv_lt hO;rw[hOl]at h5;obtain⟨e1,e2⟩:=sub_unique hv h5;have e3:c=subC (nv a) (nv b*w) (W^a.length):=e1;rw[<-e3,<-e2,<-eq_pad hO hOl (s:=nv out) (Nat.mod_eq_of_lt h5).symm];exact⟨rfl,rfl⟩
def gd3 (u2 u1 u0 v1 v0:Nat):Nat:=min (((u2*W+u1)*W+u0)/(v1*W+v0)) (W-1)
theorem den_posW {v1 v0:Nat}(h:0<v1):0<v1*W+v0:=by
 have:=Nat.mul_le_mul_right W h;simp only[W]at *;omega
theorem gd3_le {u2 u1 u0 v1 v0 q r:Nat}(he:q*v1+r=u2*W+u1)(hv:0<v1)(hq:q<W)(hc:q*v0<=r*W+u0)(hg:gd3 u2 u1 u0 v1 v0<=q):q=gd3 u2 u1 u0 v1 v0:=by
 refine Nat.le_antisymm ?_ hg;refine Nat.le_min.mpr ⟨?_,Nat.le_sub_one_of_lt hq⟩;rw[Nat.le_div_iff_mul_le (den_posW hv),<-he,Nat.mul_add,<-Nat.mul_assoc,Nat.add_mul,Nat.add_assoc];omega
theorem gd3_less {u2 u1 u0 v1 v0 q r:Nat}(he:q*v1+r=u2*W+u1)(hv:0<v1)(hc:r*W+u0<q*v0):gd3 u2 u1 u0 v1 v0<=q-1/\0<q:=by
 have hq:0<q:=by
  rcases Nat.eq_zero_or_pos q with h|h
  .rw[h,Nat.zero_mul]at hc;exact absurd hc (Nat.not_lt_zero _)
  .exact h
 refine⟨?_,hq⟩;have:((u2*W+u1)*W+u0)/(v1*W+v0)<q:=by
  rw[Nat.div_lt_iff_lt_mul (den_posW hv),<-he,Nat.mul_add,<-Nat.mul_assoc,Nat.add_mul,Nat.add_assoc];exact Nat.add_lt_add_left hc _
 exact Nat.le_trans (Nat.min_le_left _ _) (Nat.le_sub_one_of_lt this)
theorem correct_ok (q r u2 u1 u0 v1 v0:Nat)(hq:q<W)(hr:r<W)(h0:u0<W)(hv1:v1<W)(hv0:v0<W)(hv:0<v1)(he:q*v1+r=u2*W+u1)(hg:gd3 u2 u1 u0 v1 v0<=q) :
  AC Tryz.prog 149 [cu q,cu r,cu u0,cu v1,cu v0] none [cu (gd3 u2 u1 u0 v1 v0)]:=by
 refine AC.by_walk (rs:=[.tmp 10]) ords Tryz.func149 (by rfl) (by rfl) (by rfl) (by rfl) (by rfl) ?_;simp (disch:=omega) only[wt,seval,reduceCtorEq,Nat.reduceEqDiff,Option.getD_some];refine aloop_by (λf H=>∃(q r:Nat),q*v1+r=u2*W+u1/\gd3 u2 u1 u0 v1 v0<=q/\q<W/\r<W/\f 0=.iv (.int .u64 q)/\f 1=.iv (.int .u64 r)/\f 2=.iv (.int .u64 u0)/\f 3=.iv (.int .u64 v1)/\f 4=.iv (.int .u64 v0)) (λf H=>(intAt f 0).toNat) ?_ ?_
 .refine⟨q,r,he,hg,hq,hr,?_⟩;simp (disch:=omega) only[wt,seval,reduceCtorEq,Nat.reduceEqDiff,Option.getD_some]
 rintro f H ⟨q,r,he,hg,hq,hr,hF⟩;rw[intAt_of hF.1];simp (disch:=omega) only[wt,seval,reduceCtorEq,Nat.reduceEqDiff,Option.getD_some,hF];have hdm:=Nat.div_add_mod (q*v0) W;have hlo:q*v0%W<W:=Nat.mod_lt _ (by decide);have hm:=mul64_ok q v0 hq hv0;obtain⟨hi,ehi⟩:∃hi,q*v0/W=hi:=⟨_,rfl⟩;obtain⟨lo,elo⟩:∃lo,q*v0%W=lo:=⟨_,rfl⟩;rw[ehi,elo]at hm;rw[ehi,elo]at hdm;rw[elo]at hlo;clear ehi elo;refine call_by (hm) (by first|rfl|(simp only[tocvs,tocv,toboxes,tobox,updH_at,Nat.reduceEqDiff,↓reduceIte,hF];rfl)) (by simp) ?_;by_cases hc:q*v0<=r*W+u0
 .have e:=gd3_le he hv hq hc hg;by_cases h1:(hi:Int)<r
  .simp (disch:=omega) only[wt,seval,reduceCtorEq,Nat.reduceEqDiff,Option.getD_some,hF,h1];rw[e]
  .have h2:(hi:Int)=r:=by simp only[W]at *;omega
   have h3:(lo:Int)<=u0:=by simp only[W]at *;omega
   have h2:=eq_true h2;simp (disch:=omega) only[wt,seval,reduceCtorEq,Nat.reduceEqDiff,Option.getD_some,hF,h1,h2,h3];rw[e]
 .obtain⟨hg',hq0⟩:=gd3_less he hv (Nat.lt_of_not_le hc);have he':(q-1)*v1+(r+v1)=u2*W+u1:=by
   obtain⟨k,rfl⟩:∃k,q=k+1:=⟨q-1,by omega⟩;rw[Nat.add_sub_cancel,<-he,Nat.succ_mul];omega
  have h1:¬(hi:Int)<r:=by simp only[W]at *;omega
  have hw1:IntKind.u64.wrap ((q:Int)-1)=((q-1:Nat):Int):=by rw[show (q:Int)-1=((q-1:Nat):Int) by omega];exact wrap_nat (by omega)
  have had:=add64_ok r v1 0 (by omega);rw[Nat.add_zero]at had;have last:1<=(r+v1)/W->q-1=gd3 u2 u1 u0 v1 v0:=λh=>by
   refine gd3_le he' hv (by omega) ?_ hg';have h1:W<=r+v1:=by
    have:=Nat.div_mul_le_self (r+v1) W;have:=Nat.mul_le_mul_right W h;omega
   have g1:(q-1)*v0<=(W-1)*(W-1):=Nat.mul_le_mul (by omega) (by omega);have g2:=Nat.mul_le_mul_right W h1;simp only[W]at *;omega
  have hle1:(r+v1)/W<=1:=by simp only[W]at *;omega
  have hmod:(r+v1)/W=0->(r+v1)%W=r+v1:=λh=>by simp only[W]at *;omega
  have hmlt:(r+v1)%W<W:=Nat.mod_lt _ (by decide);obtain⟨cy,ecy⟩:∃cy,(r+v1)/W=cy:=⟨_,rfl⟩;obtain⟨sm,esm⟩:∃sm,(r+v1)%W=sm:=⟨_,rfl⟩;rw[ecy,esm]at had;rw[ecy]at last hle1 hmod;rw[esm]at hmod hmlt;clear ecy esm;by_cases h2:(hi:Int)=r
  .have h3:¬(lo:Int)<=u0:=by simp only[W]at *;omega
   have h2:=eq_true h2;simp (disch:=omega) only[wt,seval,reduceCtorEq,Nat.reduceEqDiff,Option.getD_some,hF,h1,h2,h3,hw1];refine call_by (had) (by first|rfl|(simp only[tocvs,tocv,toboxes,tobox,updH_at,Nat.reduceEqDiff,↓reduceIte,hF];rfl)) (by simp) ?_;simp (disch:=omega) only[wt,seval,reduceCtorEq,Nat.reduceEqDiff,Option.getD_some,hF];refine if_by (λh4=>?_) (λh4=>?_)
   .simp (disch:=omega) only[wt,seval,reduceCtorEq,Nat.reduceEqDiff,Option.getD_some,hF];rw[last (by omega)]
   .simp (disch:=omega) only[wt,seval,reduceCtorEq,Nat.reduceEqDiff,Option.getD_some,hF];have h5:=hmod (by omega);exact⟨⟨q-1,sm,by rw[h5];exact he',hg',by omega,hmlt,rfl,rfl⟩,by omega⟩
  .simp (disch:=omega) only[wt,seval,reduceCtorEq,Nat.reduceEqDiff,Option.getD_some,hF,h1,h2,hw1];refine call_by (had) (by first|rfl|(simp only[tocvs,tocv,toboxes,tobox,updH_at,Nat.reduceEqDiff,↓reduceIte,hF];rfl)) (by simp) ?_;simp (disch:=omega) only[wt,seval,reduceCtorEq,Nat.reduceEqDiff,Option.getD_some,hF];refine if_by (λh4=>?_) (λh4=>?_)
   .simp (disch:=omega) only[wt,seval,reduceCtorEq,Nat.reduceEqDiff,Option.getD_some,hF];rw[last (by omega)]
   .simp (disch:=omega) only[wt,seval,reduceCtorEq,Nat.reduceEqDiff,Option.getD_some,hF];have h5:=hmod (by omega);exact⟨⟨q-1,sm,by rw[h5];exact he',hg',by omega,hmlt,rfl,rfl⟩,by omega⟩
theorem gd3_top {u2 u1 u0 v1 v0:Nat}(hv:0<v1)(h0:u0<W):gd3 u2 u1 u0 v1 v0<=(u2*W+u1)/v1:=by
 have h2:=Nat.div_mul_le_self ((u2*W+u1)*W+u0) (v1*W+v0);have h6:gd3 u2 u1 u0 v1 v0<=((u2*W+u1)*W+u0)/(v1*W+v0):=Nat.min_le_left _ _;obtain⟨x,hx⟩:∃x,((u2*W+u1)*W+u0)/(v1*W+v0)=x:=⟨_,rfl⟩;rw[hx]at h2 h6;refine Nat.le_trans h6 ?_;rw[Nat.le_div_iff_mul_le hv];clear hx h6;rw[Nat.mul_add,<-Nat.mul_assoc]at h2;rcases Nat.lt_or_ge (u2*W+u1) (x*v1) with h|h
 .have h3:=Nat.mul_le_mul_right W h;rw[Nat.succ_mul]at h3;have h4:x*v1*W<=(u2*W+u1)*W+u0:=Nat.le_trans (Nat.le_add_right _ _) h2;have h5:=Nat.le_trans h3 h4;exact absurd h0 (Nat.not_lt.mpr (Nat.le_of_add_le_add_left h5))
 .exact h
theorem guess_ok (u2 u1 u0 v1 v0:Nat)(h2:u2<=v1)(h1:u1<W)(h0:u0<W)(hv1:v1<W)(hv0:v0<W)(hv:0<v1) :
  AC Tryz.prog 140 [cu u2,cu u1,cu u0,cu v1,cu v0] none [cu (gd3 u2 u1 u0 v1 v0)]:=by
 refine AC.by_walk (rs:=[.tmp 10]) ords Tryz.func140 (by rfl) (by rfl) (by rfl) (by rfl) (by rfl) ?_;simp (disch:=omega) only[wt,seval,reduceCtorEq,Nat.reduceEqDiff];refine if_by (λhz=>?_) (λhz=>?_)
 .have hu:u2=v1:=by omega
  subst hu;simp (disch:=omega) only[wt,seval,reduceCtorEq,Nat.reduceEqDiff];have had:=add64_ok u1 u2 0 (by omega);rw[Nat.add_zero]at had;have hle1:(u1+u2)/W<=1:=by simp only[W]at *;omega
  have hmod:(u1+u2)/W=0->(u1+u2)%W=u1+u2/\u1+u2<W:=λh=>by simp only[W]at *;omega
  have hge:(u1+u2)/W=1->W<=u1+u2:=λh=>by simp only[W]at *;omega
  have he:(W-1)*u2+(u1+u2)=u2*W+u1:=by
   simp only[W];omega
  have hg:gd3 u2 u1 u0 u2 v0<=W-1:=Nat.min_le_right _ _;have hW1:((W-1:Nat):Int)=18446744073709551615:=rfl;obtain⟨cy,ecy⟩:∃cy,(u1+u2)/W=cy:=⟨_,rfl⟩;obtain⟨sm,esm⟩:∃sm,(u1+u2)%W=sm:=⟨_,rfl⟩;rw[ecy,esm]at had;rw[ecy]at hle1 hmod hge;rw[esm]at hmod;clear ecy esm;refine call_by (had) (by rfl) (by simp) ?_;simp (disch:=omega) only[wt,seval,reduceCtorEq,Nat.reduceEqDiff];refine if_by (λhc=>?_) (λhc=>?_)
  .simp (disch:=omega) only[wt,seval,reduceCtorEq,Nat.reduceEqDiff];have e:W-1=gd3 u2 u1 u0 u2 v0:=by
    refine gd3_le he hv (Nat.sub_lt (by decide) (by decide)) ?_ hg;have g1:(W-1)*v0<=(W-1)*(W-1):=Nat.mul_le_mul_left _ (Nat.le_sub_one_of_lt hv0);have g2:=Nat.mul_le_mul_right W (hge (by omega));simp only[W]at *;omega
   rw[<-e];exact hW1.symm
  .simp (disch:=omega) only[wt,seval,reduceCtorEq,Nat.reduceEqDiff];obtain⟨e1,e2⟩:=hmod (by omega);have cc:=correct_ok (W-1) sm u2 u1 u0 u2 v0 (Nat.sub_lt (by decide) (by decide)) (by rw[e1];exact e2) h0 hv1 hv0 hv (by rw[e1];exact he) hg;rw[show cu (W-1)=.iv (.int .u64 18446744073709551615) from rfl]at cc;refine call_by (cc) (by rfl) (by simp) ?_;simp (disch:=omega) only[wt,seval,reduceCtorEq,Nat.reduceEqDiff]
 .simp (disch:=omega) only[wt,seval,reduceCtorEq,Nat.reduceEqDiff];have hq:(u2*W+u1)/v1<W:=word_div (by omega) h1;have hdm:=Nat.div_add_mod (u2*W+u1) v1;have hr:(u2*W+u1)%v1<v1:=Nat.mod_lt _ hv;have hg:=gd3_top (u2:=u2) (u1:=u1) (u0:=u0) (v1:=v1) (v0:=v0) hv h0;have hd:=div64_ok u2 u1 v1 (by omega) h1 hv1;generalize (u2*W+u1)/v1=q at *;generalize (u2*W+u1)%v1=r at *;refine call_by (hd) (by rfl) (by simp) ?_;simp (disch:=omega) only[wt,seval,reduceCtorEq,Nat.reduceEqDiff];refine call_by ((correct_ok q r u2 u1 u0 v1 v0 hq (by omega) h0 hv1 hv0 hv (by rw[Nat.mul_comm];exact hdm) hg)) (by rfl) (by simp) ?_;simp (disch:=omega) only[wt,seval,reduceCtorEq,Nat.reduceEqDiff]
end Go.Proofs.YtnjaeokkfbihlaaGreat
