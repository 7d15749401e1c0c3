/-
 Contracts of the functions that the law reaches.
-/
import Derived.Test.YtnjaeokkfbihlaaGreatL36M
import Derived.Test.YtnjaeokkfbihlaaGreatL1M
import Derived.Test.YtnjaeokkfbihlaaGreatAbsYM
import Derived.Test.YtnjaeokkfbihlaaGreatL12M
import Derived.Test.YtnjaeokkfbihlaaGreatL51M
import Derived.Test.YtnjaeokkfbihlaaGreatAbsV
import Derived.Test.YtnjaeokkfbihlaaGreatL59M
set_option maxHeartbeats 2000000
namespace Go.Proofs.YtnjaeokkfbihlaaGreat
open Go Go.Proofs Go.AL Go.RowKit
set_option linter.unusedSimpArgs false
set_option linter.unusedVariables false
theorem cvreps_get {w:World}{D:Nat->Prop}:∀{xs:List CV} {vs:List Value},CVReps w D xs vs->∀(j:Nat) (c:CV) (v:Value),xs[j]?=some c->vs[j]?=some v->CVRep w D c v
 |[],[],_,j,c,v,h,_=>by simp at h
 |x::xs,u::vs,h,0,c,v,h1,h2=>by
  simp only[List.getElem?_cons_zero,Option.some.injEq]at h1 h2;subst h1 h2;exact h.1
 |x::xs,u::vs,h,j+1,c,v,h1,h2=>cvreps_get h.2 j c v (by simpa using h1) (by simpa using h2)
 |[],_::_,h,_,_,_,_,_=>h.elim
 |_::_,[],h,_,_,_,_,_=>h.elim
theorem ACX.plain {P:Program}{g:Nat}{args res:List CV}{R:Nat->Nat->List CV->Prop}(h:ACX P g args R)(hs:∀B E r,R B E r->SoftsC r res):AC P g args none res:=by
 intro w D vs hD hv;refine CallsR.mono (h.2 w D vs hD hv) ?_;rintro v w' ⟨hb,us,r,rfl,hR,hr⟩;have h2:=(hs _ _ _ hR).reps hr;refine⟨hb,us,rfl,⟨(CVReps.length h2).symm,λj c v _ hc hv=>?_,λi e sz rows h=>by cases h⟩⟩;exact(cvreps_get h2 j c v hc hv).mono (Grows.of_sub λb hb=>hb.elim id λh=>h.elim)
theorem soft_own {b:Option (Nat×Nat)}{e sz k:Nat}{rows:List (List IV)}(h:∀r∈rows,r.length=k):Soft (.own b e sz rows) (.sl rows) :=
 .own _ _ _ _ _ rfl (λi r r' h1 h2=>by rw[h1]at h2;injection h2 with h2;rw[h2]) (λi r r' h1 h2 j x x' h3 h4=>by
  rw[h1]at h2;injection h2 with h2;subst h2;rw[h3]at h4;injection h4 with h4;subst h4;exact .refl _)
abbrev fint (b:OB)(n:Int):List IV:=[.bool (canon n).1,fnat b (canon n).2]
def RInt (n:Int)(B E:Nat)(res:List CV):Prop:=∃b,res=[.agg (fint b n)]/\Nw B E (oid b)
theorem soft_fint (b:OB)(n:Int):∀(j:Nat) (x y:IV),(fint b n)[j]?=some x->(prow (canon n))[j]?=some y->Soft x y
 |0,x,y,hx,hy=>by cases hx;cases hy;exact .refl _
 |1,x,y,hx,hy=>by
  cases hx;cases hy;refine .own _ _ _ _ _ rfl (λi r r' h h'=>?_) (λi r r' h h' j x x' hx hx'=>?_)
  .rw[h]at h';cases h';rfl
  .rw[h]at h';cases h';rw[hx]at hx';cases hx';exact .refl _
 |j+2,x,y,hx,_=>by simp at hx
theorem RNat.plain {P:Program}{g:Nat}{args:List CV}{l:List Nat}(h:ACX P g args (RNat l)):AC P g args none [cl l] :=
 ACX.plain h λB E r hr=>by
  obtain⟨b,rfl,-⟩:=hr;exact .cons (.iv (soft_own (k:=1) (λr hr=>by obtain⟨x,_,rfl⟩:=List.mem_map.1 hr;rfl))) .nil
theorem RInt.plain {P:Program}{g:Nat}{args:List CV}{n:Int}(h:ACX P g args (RInt n)):AC P g args none [cz n] :=
 ACX.plain h λB E r hr=>by
  obtain⟨b,rfl,-⟩:=hr;exact .cons (.agg rfl (soft_fint b n)) .nil
end Go.Proofs.YtnjaeokkfbihlaaGreat

namespace Go.Proofs.YtnjaeokkfbihlaaGreat
open Go Go.Proofs Go.AL
set_option linter.unusedSimpArgs false
set_option linter.unusedVariables false
theorem wd_top {v:Nat}(h:0<(wd v).length):0<(wd v).getD ((wd v).length-1) 0:=by
 rcases Nat.eq_zero_or_pos ((wd v).getD ((wd v).length-1) 0) with h0|h0
 .exfalso
  have h1:=vl_take_next W (wd v) ((wd v).length-1);rw[Nat.sub_add_cancel h,List.take_length,h0,Nat.mul_zero,Nat.add_zero]at h1;have h2:=nv_lt ((lim_wd v).take ((wd v).length-1));rw[List.length_take,Nat.min_eq_left (Nat.sub_le _ _)]at h2;have h3:v<W^((wd v).length-1):=by
   have h4:=nv_wd v;simp only[nv]at *;omega
  have:=wd_len_le.mpr h3;omega
 .exact h0
theorem knuth_shift {y:Nat}(h:0<(wd y).length):∃s,s=64-bl ((wd y).getD ((wd y).length-1) 0)/\s<=63/\(wd y).getD ((wd y).length-1) 0<W/\(wd (y*2^s)).length=(wd y).length:=by
 have ht:=wd_top h;have hw:=(lim_wd y).get ((wd y).length-1);have h1:=vl_take_next W (wd y) ((wd y).length-1);rw[Nat.sub_add_cancel h,List.take_length]at h1;have h2:=nv_lt ((lim_wd y).take ((wd y).length-1));rw[List.length_take,Nat.min_eq_left (Nat.sub_le _ _)]at h2;have h4:=nv_wd y;simp only[nv]at *;rw[h4]at h1;have hmono:(wd y).length<=(wd (y*2^(64-bl ((wd y).getD ((wd y).length-1) 0)))).length:=wd_len_mono (Nat.le_mul_of_pos_right _ (Nat.pow_pos (by decide)));generalize hk:(wd y).length=k at *;generalize (wd y).getD (k-1) 0=t at *;have hb64:bl t<=64:=bl_le.mpr hw;have hb1:1<=bl t:=by
  rcases Nat.eq_zero_or_pos (bl t) with h0|h0
  .have:=bl_le.mp (Nat.le_of_eq h0);omega
  .exact h0
 have hbt:t<2^bl t:=bl_le.mp (Nat.le_refl _);refine⟨_,rfl,by omega,hw,Nat.le_antisymm (wd_len_le.mpr ?_) hmono⟩;have h5:y<W^(k-1)*2^bl t:=by
  have:=Nat.mul_le_mul_left (W^(k-1)) hbt;rw[Nat.mul_succ]at this;omega
 have h6:=Nat.mul_lt_mul_of_pos_right h5 (Nat.pow_pos (by decide:0<2):0<2^(64-bl t));rw[Nat.mul_assoc,<-Nat.pow_add,show bl t+(64-bl t)=64 by omega]at h6;have h7:W^k=W^(k-1)*2^64:=by
  have h8:W^(k-1+1)=W^(k-1)*W:=Nat.pow_succ _ _;rw[Nat.sub_add_cancel h]at h8;exact h8
 rw[h7];exact h6
theorem vl_rep0 (b:Nat):∀n,vl b (List.replicate n 0)=0
 |0=>rfl
 |n+1=>by rw[List.replicate_succ,vl,vl_rep0 b n];rfl
theorem put_row {X:List Nat}{k d:Nat}(h:k<X.length):(lims X).set k (splice ((lims X).getD k []) 0 [.int .u64 (d:Int)])=lims (X.set k d):=by
 rw[lims_at h,splice_one,lims_set]
theorem put_eq {u rs:List Nat}{i n d:Nat}(h:i+n<u.length)(hr:rs.length=n):(u.take i++rs++u.drop (i+n)).set (i+n) d=u.take i++(rs++d::u.drop (i+n+1)):=by
 rw[List.drop_eq_getElem_cons h,List.set_append_right _ _ (by simp;omega)];have e:i+n-(u.take i++rs).length=0:=by simp;omega
 rw[e,List.set_cons_zero,List.append_assoc]
theorem put_digit {u rs:List Nat}{i n d:Nat}(h:i+n<u.length)(hr:rs.length=n)(hu:Lim u)(hrs:Lim rs)(hd:d<W):∃X,(u.take i++rs++u.drop (i+n)).set (i+n) d=X/\X.length=u.length/\X.take i=u.take i/\nv (X.drop i)=nv rs+W^n*(d+W*nv (u.drop (i+n+1))) /\
  (X.drop i).take n=rs/\X.getD (i+n) 0=d/\X.drop (i+n+1)=u.drop (i+n+1)/\Lim X:=by
 refine⟨_,put_eq h hr,?_,?_,?_,?_,?_,?_,?_⟩
 .simp;omega
 .rw[List.take_append_of_le_length (by simp;omega),List.take_take,Nat.min_self]
 .rw[List.drop_append_of_le_length (by simp;omega),List.drop_of_length_le (by rw[List.length_take];exact Nat.min_le_left _ _),List.nil_append];have:=vl_split W (rs++d::u.drop (i+n+1)) (k:=n) (by simp;omega);rw[<-hr,List.take_left,List.drop_left,hr]at this;exact this
 .rw[List.drop_append_of_le_length (by simp;omega),List.drop_of_length_le (by rw[List.length_take];exact Nat.min_le_left _ _),List.nil_append,<-hr,List.take_left]
 .rw[List.getD_eq_getElem?_getD,List.getElem?_append_right (by simp;omega)];have e:i+n-(u.take i).length=n:=by simp;omega
  rw[e,List.getElem?_append_right (by omega),hr];simp
 .rw[<-List.append_assoc,List.drop_append,List.drop_of_length_le (by simp;omega)];have e:i+n+1-(u.take i++rs).length=1:=by simp;omega
  rw[e];rfl
 .exact(hu.take i).append (hrs.append (Lim.cons hd (hu.drop _)))
theorem knuth_next {u u0 q:List Nat}{i V g D:Nat}(hul:i<u.length)(hu0:u0.length=u.length)(hq:i<q.length)(hT:u.take (i+1)=u0.take (i+1))(hE:nv (u0.drop (i+1))=nv (q.drop (i+1))*V+nv (u.drop (i+1)))(hD:nv (u.drop i)=D)(hg:g=D/V) :
  nv (u0.drop i)=nv ((q.set i g).drop i)*V+D%V/\u.take i=u0.take i:=by
 have e1:=nv_dropk u0 i (by omega);have e2:=nv_dropk u i hul;have e3:=nv_dropk (q.set i g) i (by simp;omega);have e4:(q.set i g).getD i 0=g:=by simp[List.getD,hq]
 have e5:(q.set i g).drop (i+1)=q.drop (i+1):=List.drop_set_of_lt (by omega);have e6:u0.getD i 0=u.getD i 0:=by
  have h1:u0.getD i 0=(u0.take (i+1)).getD i 0:=by simp[List.getD,List.getElem?_take]
  have h2:u.getD i 0=(u.take (i+1)).getD i 0:=by simp[List.getD,List.getElem?_take]
  rw[h1,h2,hT]
 have hd:=Nat.div_add_mod D V;rw[e4,e5]at e3;rw[e3,e1,e6,hE,Nat.add_mul,Nat.mul_add,<-Nat.mul_assoc,Nat.mul_comm g V,hg];rw[hD]at e2;constructor
 .omega
 .have:=congrArg (List.take i) hT;simpa [List.take_take] using this
theorem flat_lims (l:List Nat):∀r∈lims l,∀x∈r,FlatI x:=by
 intro r hr x hx;simp only[lims,List.mem_map]at hr;obtain⟨n,_,rfl⟩:=hr;simp only[List.mem_singleton]at hx;subst hx;trivial
theorem flat_own2 (e:Nat)(l l':List Nat)(a:Nat):FlatRes (some (0,e,1,lims l)) [cl l',cu a]:=by
 refine⟨flat_lims l,λj c hj hc=>?_⟩
 match j,hj with
 |1,_=>simp at hc;subst hc;trivial
 |j+2,_=>simp at hc
theorem flat_own3 (e:Nat)(l l':List Nat)(a b:Nat):FlatRes (some (0,e,1,lims l)) [cl l',cu a,ci b]:=by
 refine⟨flat_lims l,λj c hj hc=>?_⟩
 match j,hj with
 |1,_=>simp at hc;subst hc;trivial
 |2,_=>simp at hc;subst hc;trivial
 |j+3,_=>simp at hc
def RDiv (q r:Nat)(B E:Nat)(res:List CV):Prop:=∃b,res=[.iv (fnat b (wd q)),cl (wd r)]/\Nw B E (oid b)
theorem ne_div (q r B:Nat):∃E res,B<=E/\RDiv q r B E res:=⟨B,_,Nat.le_refl _,none,rfl,.nil _ _⟩
theorem soft_nat {b:OB}{l:List Nat}:Soft (fnat b l) (.sl (lims l)):=soft_own (k:=1) (λr hr=>by obtain⟨x,_,rfl⟩:=List.mem_map.1 hr;rfl)
set_option maxHeartbeats 4000000 in
theorem knuthx_ok (x y m n:Nat)(hm:(wd x).length=m)(hn:(wd y).length=n)(h2:2<=n)(hxy:y<=x)(hl:m<=2^38):ACX Tryz.prog 125 [cl (wd x),cl (wd y)] (RDiv (x/y) (x%y)):=by
 refine ACX.by_walk zi0 (rs:=[.tmp 4,.tmp 5]) ords Tryz.func125 (by rfl) (by rfl) (by rfl) (by rfl) (by rfl) (ne_div _ _) (λB0=>?_);obtain⟨s,hs,hs63,htw,hvl⟩:=knuth_shift (y:=y) (by omega);have hyl:n<=m:=by rw[<-hm,<-hn];exact wd_len_mono hxy
 have lz:=lz64_ok _ htw;rw[<-hs,hn]at lz;rw[hn]at hvl;have hn1:((n:Int)-1).toNat=n-1:=by omega
 simp (disch:=omega) only[wt,seval,reduceCtorEq,Nat.reduceEqDiff,natsr_len,natsr_at,Option.getD_some,hn,hn1];refine call_by (lz) (by first|rfl|(simp only[tocvs,tocv,toboxes,tobox,updH_at,Nat.reduceEqDiff,↓reduceIte,hn,hn1];rfl)) (by simp) ?_;simp (disch:=omega) only[wt,seval,reduceCtorEq,Nat.reduceEqDiff,natsr_len,natsr_at,Option.getD_some,hn,hn1];refine call_by ((nshl_ok (wd y) s (lim_wd _) (by omega) (by omega))) (by first|rfl|(simp only[tocvs,tocv,toboxes,tobox,updH_at,Nat.reduceEqDiff,↓reduceIte,hn];rfl)) (by simp) ?_;simp (disch:=omega) only[wt,seval,reduceCtorEq,Nat.reduceEqDiff,natsr_len,natsr_at,Option.getD_some,hn];rw[nv_wd];refine call_by ((nshl_ok (wd x) s (lim_wd _) (by omega) (by omega))) (by first|rfl|(simp only[tocvs,tocv,toboxes,tobox,updH_at,Nat.reduceEqDiff,↓reduceIte,hn];rfl)) (by simp) ?_;simp (disch:=omega) only[wt,seval,reduceCtorEq,Nat.reduceEqDiff,natsr_len,natsr_at,Option.getD_some,hn];rw[nv_wd];have hUlt:x*2^s<W^(m+1):=by
  have h1:x<W^m:=by rw[<-hm];exact wd_len_le.mp (Nat.le_refl _)
  rw[Nat.pow_succ];exact Nat.mul_lt_mul_of_lt_of_le h1 (Nat.pow_le_pow_right (by decide) (by omega:s<=64)) (by decide)
 have hul:(wd (x*2^s)).length<=m+1:=wd_len_le.mpr hUlt;generalize hup:(wd (x*2^s)).length=up at *;have hz1:((m:Int)+1-up).toNat=m+1-up:=by omega
 simp (disch:=omega) only[wt,seval,reduceCtorEq,Nat.reduceEqDiff,natsr_len,natsr_at,Option.getD_some,hn,hm,hup,hz1];have hcc:=concat_ok [wd (x*2^s),List.replicate (m+1-up) 0] (by simp) (by simp only[tot,List.map_cons,List.map_nil,List.sum_cons,List.sum_nil,List.length_replicate];omega);have hpu:[wd (x*2^s),List.replicate (m+1-up) 0].flatten=pad (m+1) (x*2^s):=by
  simp only[List.flatten_cons,List.flatten_nil,List.append_nil];refine eq_pad ((lim_wd _).append (Lim.replicate _)) (by simp;omega) ?_;have h1:=vl_split W (wd (x*2^s)++List.replicate (m+1-up) 0) (k:=up) (by simp;omega);rw[List.take_append_of_le_length (by omega),List.drop_append_of_le_length (by omega),List.take_of_length_le (by omega),List.drop_of_length_le (by omega),List.nil_append,vl_rep0,Nat.mul_zero,Nat.add_zero]at h1;rw[Nat.mod_eq_of_lt hUlt];exact h1.trans (nv_wd _)
 rw[hpu]at hcc;have hpl:=pad_len (m+1) (x*2^s);have hz2:(((m+1:Nat):Int)-n).toNat=m+1-n:=by omega
 refine call_by (hcc) (by first|rfl|(simp only[tocvs,tocv,toboxes,tobox,updH_at,Nat.reduceEqDiff,↓reduceIte,hn,hm,hup,hz1,hpl,hz2];rfl)) (by simp) ?_;simp (disch:=omega) only[wt,seval,reduceCtorEq,Nat.reduceEqDiff,natsr_len,natsr_at,Option.getD_some,hn,hm,hup,hz1,hpl,hz2];have hV:Lim (wd (y*2^s)):=lim_wd _;have hq0:Lim (List.replicate (m+1-n) 0):=Lim.replicate _;have hu0:=lim_pad (m+1) (x*2^s);have hi1:nv ((pad (m+1) (x*2^s)).drop (m+1-n))<y*2^s:=by
  have h1:=vl_split W (pad (m+1) (x*2^s)) (k:=m+1-n) (by omega);have h3:=nv_pad (m+1) (x*2^s);rw[Nat.mod_eq_of_lt hUlt]at h3;have hx:x<W^m:=by rw[<-hm];exact wd_len_le.mp (Nat.le_refl _)
  have hy:W^(n-1)<=y:=by
   rcases Nat.lt_or_ge y (W^(n-1)) with h|h
   .have:=wd_len_le.mpr h;omega
   .exact h
  simp only[nv]at *;have h4:W^(m+1-n)*vl W ((pad (m+1) (x*2^s)).drop (m+1-n))<W^(m+1-n)*(y*2^s):=by
   refine Nat.lt_of_le_of_lt (Nat.le_trans (Nat.le_add_left _ _) (Nat.le_of_eq (h1.symm.trans h3))) ?_;rw[<-Nat.mul_assoc];refine Nat.mul_lt_mul_of_pos_right (Nat.lt_of_lt_of_le hx ?_) (Nat.pow_pos (by decide));rw[show m=m+1-n+(n-1) by omega,Nat.pow_add];refine Nat.mul_le_mul (Nat.pow_le_pow_right (by decide) (by omega)) hy
  exact Nat.lt_of_mul_lt_mul_left h4
 have hi2:nv ((pad (m+1) (x*2^s)).drop (m+1-n))=nv ((List.replicate (m+1-n) 0).drop (m+1-n))*(y*2^s)+nv ((pad (m+1) (x*2^s)).drop (m+1-n)):=by
  rw[List.drop_of_length_le (l:=List.replicate _ _) (by simp)];simp[nv,vl]
 refine aloop_by (λf H=>∃(k st st2:Nat) (u q:List Nat),k+n<=m+1/\Lim u/\u.length=m+1/\Lim q/\q.length=m+1-n/\nv (u.drop k)<y*2^s/\nv ((pad (m+1) (x*2^s)).drop k)=nv (q.drop k)*(y*2^s)+nv (u.drop k)/\u.take k=(pad (m+1) (x*2^s)).take k/\f 14=.iv (.int .i64 (k-1))/\f 12=.hs 54 st/\f 13=.hs 59 st2/\f 6=.iv (.int .i64 n)/\f 7=.iv (.int .i64 s)/\f 8=.iv (.sl (lims (wd (y*2^s))))/\H 54=.blk false st 92 1 (lims u)/\H 59=.blk false st2 92 1 (lims q)/\H 999=.mrk B0) (λf H=>(intAt f 14+1).toNat) ?_ ?_
 .refine⟨m+1-n,1,1,pad (m+1) (x*2^s),List.replicate (m+1-n) 0,by omega,hu0,hpl,hq0,by simp,hi1,hi2,rfl,?_⟩;simp (disch:=omega) only[wt,seval,reduceCtorEq,Nat.reduceEqDiff,natsr_len,natsr_at,Option.getD_some,hn,hm,hup,hz1,hpl,hz2]
 rintro f H ⟨k,st,st2,u,q,hk,hu,hul',hq,hql,hR,hE,hT,hF⟩;rw[intAt_of hF.1];simp (disch:=omega) only[wt,seval,reduceCtorEq,Nat.reduceEqDiff,natsr_len,natsr_at,Option.getD_some,hF];generalize hU0:pad (m+1) (x*2^s)=u0 at *;refine if_by (λhge=>?_) (λhge=>?_)
 .obtain⟨i,rfl⟩:∃i,k=i+1:=⟨k-1,by omega⟩;rw[show (((i+1:Nat):Int)-1)=i by omega]at *;have hnV:nv (wd (y*2^s))=y*2^s:=nv_wd _;have hv1:0<(wd (y*2^s)).getD (n-1) 0:=by
   have:=wd_top (v:=y*2^s) (by omega);rwa [hvl]at this
  have hR0:nv (u.drop (i+1))<nv (wd (y*2^s)):=by rw[hnV];exact hR
  have hV0:0<nv (wd (y*2^s)):=Nat.zero_lt_of_lt hR0;have hVn:=Nat.le_of_lt (nv_lt hV);rw[hvl]at hVn;generalize hv:wd (y*2^s)=v at *;generalize y*2^s=V at *;subst hnV;obtain⟨k1,k2,k3,k4,k5⟩:=knuth_digit hu hV h2 (show i+n<u.length by omega) hvl hv1 hR;have gg:=guess_ok (u.getD (i+n) 0) (u.getD (i+n-1) 0) (u.getD (i+n-2) 0) (v.getD (n-1) 0) (v.getD (n-2) 0) k1 (hu.get _) (hu.get _) (hV.get _) (hV.get _) hv1;have hgW:gd3 (u.getD (i+n) 0) (u.getD (i+n-1) 0) (u.getD (i+n-2) 0) (v.getD (n-1) 0) (v.getD (n-2) 0)<W:=Nat.lt_of_le_of_lt (Nat.min_le_right _ _) (Nat.sub_lt (by decide) (by decide));generalize gd3 (u.getD (i+n) 0) (u.getD (i+n-1) 0) (u.getD (i+n-2) 0) (v.getD (n-1) 0) (v.getD (n-2) 0)=g at *;have t1:((i:Int)+n).toNat=i+n:=by omega
  have t2:((i:Int)+n-1).toNat=i+n-1:=by omega
  have t3:((i:Int)+n-2).toNat=i+n-2:=by omega
  have t4:((n:Int)-1).toNat=n-1:=by omega
  have t5:((n:Int)-2).toNat=n-2:=by omega
  simp (disch:=omega) only[wt,seval,reduceCtorEq,Nat.reduceEqDiff,natsr_len,natsr_at,Option.getD_some,hF,t1,t2,t3,t4,t5];refine .inl ⟨tmps_by (by kernel_rfl),?_⟩;refine call_by (gg) (by first|rfl|(simp only[tocvs,tocv,toboxes,tobox,updH_at,Nat.reduceEqDiff,↓reduceIte,hF,t1,t2,t3,t4,t5];rfl)) (by simp) ?_;simp (disch:=omega) only[wt,seval,reduceCtorEq,Nat.reduceEqDiff,natsr_len,natsr_at,Option.getD_some,hF,t1,t2,t3,t4,t5]
  first|exact log_by (by kernel_rfl)|refine⟨log_by (by kernel_rfl),?_⟩
  have hal:((u.drop i).take n).length=n:=by simp;omega
  have ms:=mulsub_ok ((u.drop i).take n) v g ((hu.drop i).take n) hV hgW (by omega) (by omega);rw[hal]at ms;have hlo:=nv_lt ((hu.drop i).take n);rw[hal]at hlo;obtain⟨c1,c2⟩:=subC_eq (y:=nv v*g) (W_pow_pos n) hlo;generalize hc:subC (nv ((u.drop i).take n)) (nv v*g) (W^n)=c at *;have t6:((i:Int)+n-i).toNat=n:=by omega
  refine frame_call (λf H=>f 14=.iv (.int .i64 i)/\f 12=.hs 54 st/\f 13=.hs 59 st2/\f 6=.iv (.int .i64 n)/\f 7=.iv (.int .i64 s)/\f 8=.iv (.sl (lims v))/\f 15=.iv (.int .u64 g)/\H 54=.blk false st 92 1 (lims u)/\H 59=.blk false st2 92 1 (lims q)/\H 999=.mrk B0) ?_ (λf H hF=>?_)
  .simp (disch:=omega) only[wt,seval,reduceCtorEq,Nat.reduceEqDiff,natsr_len,natsr_at,Option.getD_some,hF]
  rw[t6];refine call_flat ms (by simp only[tocvs,tocv,hF,lims_take,lims_drop];rfl) (by simp only[lims_len];simp;omega) (.inr (flat_own3 ..)) ?_;have hrsl:=pad_len n (nv ((u.drop i).take n)+W^n*c-nv v*g);have hrsL:=lim_pad n (nv ((u.drop i).take n)+W^n*c-nv v*g);have hrsv:=nv_pad n (nv ((u.drop i).take n)+W^n*c-nv v*g);rw[Nat.mod_eq_of_lt c2]at hrsv;rw[<-hrsv]at c1 c2;generalize pad n (nv ((u.drop i).take n)+W^n*c-nv v*g)=rs at *;have hti:(u.take i).length=i:=by rw[List.length_take];omega
  have hdi:(u.drop (i+n)).length=m+1-(i+n):=by rw[List.length_drop];omega
  have hh1:i+n<i+n+(m+1-(i+n)):=by omega
  have hiq:i<m+1-n:=by omega
  have hut:=hu.get (i+n);have sb:=sub64_ok (u.getD (i+n) 0) c 0 (by omega);obtain⟨p1,p2⟩:=knuth_sub (b:=0) (g:=g) (W_pow_pos n) hlo k2 hV0 hVn k4 k5 c1 c2;rcases Nat.lt_or_ge (u.getD (i+n) 0) c with hct|hct
  .obtain⟨p3,p4,p5⟩:=p2 hct;obtain rfl:c=u.getD (i+n) 0+1:=by omega
   rw[show (u.getD (i+n) 0+W-(u.getD (i+n) 0+1)-0)%W=W-1 by rw[show u.getD (i+n) 0+W-(u.getD (i+n) 0+1)-0=W-1 by omega];exact Nat.mod_eq_of_lt (Nat.sub_lt (by decide) (by decide)),
    if_pos (by omega)]at sb
   have hWe:W-1+1=W:=Nat.sub_add_cancel (by decide);have hW1:W-1<W:=Nat.sub_lt (by decide) (by decide);generalize W-1=e at sb hWe hW1;obtain⟨X,x0,x1,x2,x3,x4,x5,x6,x7⟩:=put_digit (d:=e) (show i+n<u.length by omega) hrsl hu hrsL hW1;have hpr:=put_row (X:=u.take i++rs++u.drop (i+n)) (k:=i+n) (d:=e) (by simp only[List.length_append];omega);rw[x0]at hpr;simp (disch:=omega) only[wt,seval,reduceCtorEq,Nat.reduceEqDiff,natsr_len,natsr_at,Option.getD_some,hF,hrsl,t1];refine call_by (sb) (by first|rfl|(simp only[tocvs,tocv,toboxes,tobox,updH_at,Nat.reduceEqDiff,↓reduceIte,hF,hrsl,t1,hti,hdi,hh1,hiq];rfl)) (by simp) ?_;simp (disch:=omega) only[wt,seval,reduceCtorEq,Nat.reduceEqDiff,natsr_len,natsr_at,Option.getD_some,hF,hrsl,t1,hti,hdi,hh1,hiq];rw[t6];have hg0:1<=g:=by rw[p3];exact Nat.succ_pos _
   have hgL:g<18446744073709551616:=hgW;have hg1:((g:Int)-1)=((g-1:Nat):Int):=(Int.ofNat_sub hg0).symm;have hgl:((g-1:Nat):Int)<18446744073709551616:=by rw[<-hg1];clear p1 p2 p3;omega
   have hgw:=wrap_u64 (n:=((g-1:Nat):Int)) ⟨Int.natCast_nonneg _,hgl⟩;refine frame_call (λf H=>f 14=.iv (.int .i64 i)/\f 12=.hs 54 st/\f 13=.hs 59 st2/\f 6=.iv (.int .i64 n)/\f 7=.iv (.int .i64 s)/\f 8=.iv (.sl (lims v))/\f 15=.iv (.int .u64 (g-1:Nat))/\H 54=.blk false st 92 1 (lims X)/\H 59=.blk false st2 92 1 (lims q)/\H 999=.mrk B0) ?_ (λf H hF=>?_)
   .simp (disch:=omega) only[wt,seval,reduceCtorEq,Nat.reduceEqDiff,natsr_len,natsr_at,Option.getD_some,hF,hpr,hg1,hgw]
   have ad:=laddo_ok rs v hrsL hV (by omega) (by omega);rw[hrsl,hvl,Nat.max_self,p5,Nat.add_div_right _ (W_pow_pos n),Nat.div_eq_of_lt (Nat.lt_of_lt_of_le (Nat.mod_lt _ hV0) hVn)]at ad;have hbl:=pad_len n (nv (u.drop i)%nv v+W^n);have hbL:=lim_pad n (nv (u.drop i)%nv v+W^n);have hbv:=nv_pad n (nv (u.drop i)%nv v+W^n);rw[Nat.add_mod_right,Nat.mod_eq_of_lt (Nat.lt_of_lt_of_le (Nat.mod_lt _ hV0) hVn)]at hbv;generalize pad n (nv (u.drop i)%nv v+W^n)=bk at *;obtain⟨Y,z0,z1,z2,z3,z4,z5,z6,z7⟩:=put_digit (d:=0) (show i+n<X.length by omega) hbl x7 hbL (by decide);have hqr:=put_row (X:=X.take i++bk++X.drop (i+n)) (k:=i+n) (d:=0) (by simp only[List.length_append,List.length_take,List.length_drop];omega);rw[z0]at hqr;refine call_flat ad (by simp only[tocvs,tocv,hF,lims_take,lims_drop,x4];rfl) (by simp only[lims_len];simp;omega) (.inr (flat_own2 ..)) ?_;have hti2:(X.take i).length=i:=by rw[List.length_take];omega
   have hdi2:(X.drop (i+n)).length=m+1-(i+n):=by rw[List.length_drop];omega
   have hbg:(X.take i++bk++X.drop (i+n)).getD (i+n) 0=e:=by
    rw[List.getD_eq_getElem?_getD,List.getElem?_append_right (by simp only[List.length_append];omega),List.length_append,hti2,hbl,Nat.sub_self,List.getElem?_drop,Nat.add_zero,<-List.getD_eq_getElem?_getD,x5]
   have hrow:(lims (X.take i++bk++X.drop (i+n))).getD (i+n) []=[.int .u64 (e:Int)]:=by
    rw[lims_at (by simp only[List.length_append];omega),hbg]
   rw[hrow,splice_one]at hqr;have hqr':(lims (X.take i++bk++X.drop (i+n))).set (i+n) [.int .u64 0]=lims Y:=hqr;have hwr:IntKind.u64.wrap ((e:Int)+1)=0:=by
    have h1:((e:Int)+1)=((e+1:Nat):Int):=rfl;rw[h1,hWe];rfl
   simp (disch:=omega) only[wt,seval,reduceCtorEq,Nat.reduceEqDiff,natsr_len,natsr_at,Option.getD_some,hF,hbl,t1,hti2,hdi2,hh1,hiq,hrow,hqr',hwr,splice_one];rw[x6,k3,Nat.mul_zero,Nat.add_zero,Nat.mul_zero,Nat.add_zero,hbv]at z3;have hq1:g-1=nv (u.drop i)/nv v:=by rw[p3];rfl
   obtain⟨y1,y2⟩:=knuth_next (g:=g-1) (by omega) (by omega) (by omega) hT hE rfl hq1;exact⟨⟨i,st,st2,Y,q.set i (g-1),by omega,z7,by omega,hq.set (Nat.lt_of_le_of_lt (Nat.sub_le _ _) hgW),by simp;omega,by rw[z3];exact Nat.mod_lt _ hV0,by rw[z3];exact y1,by rw[z2,x2];exact y2,rfl,rfl,rfl,rfl,rfl⟩,by omega⟩
  .obtain⟨p3,p4⟩:=p1 hct;rw[show (u.getD (i+n) 0+W-c-0)%W=u.getD (i+n) 0-c by rw[show u.getD (i+n) 0+W-c-0=u.getD (i+n) 0-c+W by omega,Nat.add_mod_right];exact Nat.mod_eq_of_lt (by omega),
    if_neg (by omega)]at sb
   simp (disch:=omega) only[wt,seval,reduceCtorEq,Nat.reduceEqDiff,natsr_len,natsr_at,Option.getD_some,hF,hrsl,t1];refine call_by (sb) (by first|rfl|(simp only[tocvs,tocv,toboxes,tobox,updH_at,Nat.reduceEqDiff,↓reduceIte,hF,hrsl,t1,hti,hdi,hh1,hiq];rfl)) (by simp) ?_;simp (disch:=omega) only[wt,seval,reduceCtorEq,Nat.reduceEqDiff,natsr_len,natsr_at,Option.getD_some,hF,hrsl,t1,hti,hdi,hh1,hiq];rw[put_row (by simp only[List.length_append];omega)];obtain⟨X,x0,x1,x2,x3,x4,x5,x6,x7⟩:=put_digit (d:=u.getD (i+n) 0-c) (show i+n<u.length by omega) hrsl hu hrsL (by omega);rw[k3,Nat.mul_zero,Nat.add_zero]at x3;have x8:=x3.trans p4;obtain⟨y1,y2⟩:=knuth_next (g:=g) (by omega) (by omega) (by omega) hT hE rfl p3;exact⟨⟨i,st,st2,X,q.set i g,by omega,x7,by omega,hq.set hgW,by simp;omega,by rw[x8];exact Nat.mod_lt _ hV0,by rw[x8];exact y1,by rw[x2];exact y2,rfl,rfl,rfl,by rw[x0],rfl⟩,by omega⟩
 .obtain rfl:k=0:=by omega
  simp only[List.drop_zero]at hR hE;have hun:nv (u.take n)=nv u:=by
   have h1:=vl_split W u (k:=n) (by omega);have h2:nv u<W^n:=Nat.lt_of_lt_of_le hR (by rw[<-nv_wd (y*2^s),<-hvl];exact Nat.le_of_lt (nv_lt hV));simp only[nv]at *;rcases Nat.eq_zero_or_pos (vl W (u.drop n)) with h|h
   .rw[h,Nat.mul_zero]at h1;exact h1.symm
   .have h3:=Nat.mul_le_mul_left (W^n) h;rw[Nat.mul_succ,Nat.mul_zero,Nat.zero_add]at h3;omega
  have hal:(u.take n).length=n:=by rw[List.length_take];omega
  have hut:=hu.take n;simp (disch:=omega) only[wt,seval,reduceCtorEq,Nat.reduceEqDiff,natsr_len,natsr_at,Option.getD_some,hF];refine call_by (nshr_ok (u.take n) s hut (by omega) (by omega)) (by simp only[tocvs,tocv,hF,lims_take,lims_drop,List.drop_zero];rfl) (by simp only[lims_len];simp;omega) ?_;simp (disch:=omega) only[wt,seval,reduceCtorEq,Nat.reduceEqDiff,natsr_len,natsr_at,Option.getD_some,hF];refine callx_by ((normx_ok q hq (by omega))) (by first|rfl|(simp only[tocvs,tocv,toboxes,tobox,updH_at,Nat.reduceEqDiff,↓reduceIte,hF];rfl)) (by simp) (by first|rfl|assumption|(simp (disch:=omega) only[wt,seval,reduceCtorEq,Nat.reduceEqDiff,natsr_len,natsr_at,Option.getD_some,hF];done)|((repeat (replace hF:=hF.2));exact hF)) ?_;rintro B' E' _ hB hE' ⟨c,rfl,hc⟩;simp (disch:=omega) only[wt,seval,reduceCtorEq,Nat.reduceEqDiff,natsr_len,natsr_at,Option.getD_some,hF];have hpv:=nv_pad (m+1) (x*2^s);rw[hU0,Nat.mod_eq_of_lt hUlt,hE]at hpv;have hps:0<2^s:=Nat.pow_pos (by decide);have hV0:0<y*2^s:=Nat.zero_lt_of_lt hR;have eq1:nv q=x/y:=by
   rw[<-Nat.mul_div_mul_right x y hps,<-hpv,Nat.mul_comm (nv q),Nat.mul_add_div hV0,Nat.div_eq_of_lt hR,Nat.add_zero]
  have eq2:nv u=x%y*2^s:=by
   rw[<-Nat.mul_mod_mul_right,<-hpv,Nat.mul_comm (nv q),Nat.mul_add_mod,Nat.mod_eq_of_lt hR]
  rw[hun,eq1,eq2,Nat.mul_div_cancel _ hps];refine opn_done [.iv (fnat c (wd (x/y))),cl (wd (x%y))] (by first|rfl|assumption) (by first|(simp (disch:=omega) only[wt,seval,reduceCtorEq,Nat.reduceEqDiff,natsr_len,natsr_at,Option.getD_some,hF];done)|(simp (disch:=omega) only[wt,seval,reduceCtorEq,Nat.reduceEqDiff,natsr_len,natsr_at,Option.getD_some,hF];rfl)|rfl) ?_;intro E hE;exact⟨c,rfl,hc.mono hB (by omega)⟩
theorem knuth_ok (x y m n:Nat)(hm:(wd x).length=m)(hn:(wd y).length=n)(h2:2<=n)(hxy:y<=x)(hl:m<=2^38):AC Tryz.prog 125 [cl (wd x),cl (wd y)] none [cl (wd (x/y)),cl (wd (x%y))] :=
 ACX.plain (knuthx_ok x y m n hm hn h2 hxy hl) λB E r hr=>by
  obtain⟨b,rfl,-⟩:=hr;exact .cons (.iv soft_nat) (.cons (.refl _) .nil)
theorem szero_ok:AC Tryz.prog 86 [] none [cr (false,[])]:=by
 refine AC.by_walk (rs:=[.cell 0 29]) ords Tryz.func86 (by rfl) (by rfl) (by rfl) (by rfl) (by rfl) ?_;simp (disch:=omega) only[wt,seval,reduceCtorEq,Nat.reduceEqDiff,cpoly_len]
theorem scoef_ok (p:List RI)(i:Int)(h:RP (2^40) (2^40) p):AC Tryz.prog 60 [cw p,ci i] none [cz (if i<0 then 0 else cf (pv p) i.toNat)]:=by
 refine AC.by_walk (rs:=[.cell 4 29]) ords Tryz.func60 (by rfl) (by rfl) (by rfl) (by rfl) (by rfl) ?_;have hl:=h.1;by_cases h0:i<0
 .simp (disch:=omega) only[wt,seval,reduceCtorEq,Nat.reduceEqDiff,cpoly_len,h0];refine call_by (szero_ok) (by first|rfl|(simp only[tocvs,tocv,toboxes,tobox,updH_at,Nat.reduceEqDiff,↓reduceIte,h0];rfl)) (by simp) ?_;simp (disch:=omega) only[wt,seval,reduceCtorEq,Nat.reduceEqDiff,cpoly_len,h0];rw[canon_zero]
 by_cases h1:(p.length:Int)<=i
 .simp (disch:=omega) only[wt,seval,reduceCtorEq,Nat.reduceEqDiff,cpoly_len,h0,h1];refine call_by (szero_ok) (by first|rfl|(simp only[tocvs,tocv,toboxes,tobox,updH_at,Nat.reduceEqDiff,↓reduceIte,h0,h1];rfl)) (by simp) ?_;simp (disch:=omega) only[wt,seval,reduceCtorEq,Nat.reduceEqDiff,cpoly_len,h0,h1];rw[cf_ge (by rw[pv_len];omega),canon_zero]
 simp (disch:=omega) only[wt,seval,reduceCtorEq,Nat.reduceEqDiff,cpoly_len,h0,h1];refine call_by ((sown_ok (p.getD i.toNat (false,[])) (h.get _))) (by first|rfl|(simp only[tocvs,tocv,toboxes,tobox,updH_at,Nat.reduceEqDiff,↓reduceIte,h0,h1];rfl)) (by simp) ?_;simp (disch:=omega) only[wt,seval,reduceCtorEq,Nat.reduceEqDiff,cpoly_len,h0,h1];rw[<-cf_pv]
theorem sscale_ok (p:List RI)(c:RI)(hp:RP (2^30) (2^36) p)(hc:Sz (2^36) c):AC Tryz.prog 35 [cw p,cr c] none [cp (pscale (iv c) (pv p))]:=by
 refine AC.by_walk (rs:=[.tmp 4]) ords Tryz.func35 (by rfl) (by rfl) (by rfl) (by rfl) (by rfl) ?_;have hl:=hp.1;have hpl:(pscale (iv c) (pv p)).length=p.length:=by simp[pscale,pv_len]
 simp (disch:=omega) only[wt,seval,reduceCtorEq,Nat.reduceEqDiff,cpoly_len];refine aloop_nil 5 5 29 2 (by simp (disch:=omega) only[wt,seval,reduceCtorEq,Nat.reduceEqDiff,cpoly_len]) (λf H=>∃(i st st3:Nat),i<=p.length/\f 6=.iv (.int .i64 i)/\f 0=.iv (.sl (raws p))/\f 3=.hp 3 st3 0 0/\f 5=.hs 5 st/\H 3=.blk false st3 29 2 [prow c]/\H 5=.blk false st 29 2 (raws (((pscale (iv c) (pv p)).take i).map canon))) (λf H=>(p.length-intAt f 6).toNat) ?_ ?_
 .refine⟨0,1,1,by omega,?_⟩;simp (disch:=omega) only[wt,seval,reduceCtorEq,Nat.reduceEqDiff,cpoly_len,ghostF,ghostH,List.take_zero]
 rintro f H ⟨i,st,st3,hi,hF⟩;rw[intAt_of hF.1];simp (disch:=omega) only[wt,seval,reduceCtorEq,Nat.reduceEqDiff,cpoly_len,hF];refine if_by (λhlt=>?_) (λhlt=>?_)
 .have hq:(((pscale (iv c) (pv p)).take i).map canon).length=i:=by rw[List.length_map,List.length_take];omega
  simp (disch:=omega) only[wt,seval,reduceCtorEq,Nat.reduceEqDiff,cpoly_len,hF,hq];refine .inl ⟨tmps_by (by kernel_rfl),?_⟩;have m:=rMul_ok (p.getD i (false,[])) c ((hp.get i).mono (by omega)) (hc.mono (by omega));rw[<-cf_pv,<-cf_pscale]at m;refine call_by (m) (by first|rfl|(simp only[tocvs,tocv,toboxes,tobox,updH_at,Nat.reduceEqDiff,↓reduceIte,hF,hq];rfl)) (by simp) ?_;simp (disch:=omega) only[wt,seval,reduceCtorEq,Nat.reduceEqDiff,cpoly_len,hF,hq]
  first|exact log_by (by kernel_rfl)|refine⟨log_by (by kernel_rfl),?_⟩
  have e:(pscale (iv c) (pv p)).take (i+1)=(pscale (iv c) (pv p)).take i++[cf (pscale (iv c) (pv p)) i]:=by
   rw[List.take_add_one]
   congr 1
   simp[cf,List.getD,show i<(pscale (iv c) (pv p)).length by omega]
  exact⟨⟨i+1,st+1,st3,by omega,by omega,by rw[e];exact⟨rfl,rfl,rfl,rfl⟩⟩,by omega⟩
 .simp (disch:=omega) only[wt,seval,reduceCtorEq,Nat.reduceEqDiff,cpoly_len,hF];have hz:=zl_iv hc;have hb:=hp.pv.pscale (c:=iv c);have:=snorm_ok ((pscale (iv c) (pv p)).map canon) (RP.canon (hb.mono (by omega) (by omega)));rw[pv_canon]at this;rw[List.take_of_length_le (by omega)]at hF;refine call_by (this) (by first|rfl|(simp only[tocvs,tocv,toboxes,tobox,updH_at,Nat.reduceEqDiff,↓reduceIte,hF];rfl)) (by simp) ?_;simp (disch:=omega) only[wt,seval,reduceCtorEq,Nat.reduceEqDiff,cpoly_len,hF]
theorem sneg_ok (p:List RI)(hp:RP (2^30) (2^35) p):AC Tryz.prog 11 [cw p] none [cp (pscale (-1) (pv p))]:=by
 refine AC.by_walk (rs:=[.tmp 2]) ords Tryz.func11 (by rfl) (by rfl) (by rfl) (by rfl) (by rfl) ?_;simp (disch:=omega) only[wt,seval,reduceCtorEq,Nat.reduceEqDiff,cpoly_len];refine call_by ((sZ_ok (-1) (by omega) (by omega))) (by rfl) (by simp) ?_;simp (disch:=omega) only[wt,seval,reduceCtorEq,Nat.reduceEqDiff,cpoly_len];have:=sscale_ok p (canon (-1)) (hp.mono (by omega) (by omega)) ((sz_canon (-1)).mono (by have:zl (-1)<=1:=zl_le.mpr (by decide);omega));rw[iv_canon]at this;refine call_by (this) (by rfl) (by simp) ?_;simp (disch:=omega) only[wt,seval,reduceCtorEq,Nat.reduceEqDiff,cpoly_len]
theorem sdeg_ok (p:List RI)(h:RP (2^40) (2^40) p):AC Tryz.prog 34 [cw p] none [ci ((tz (pv p):Int)-1)]:=by
 refine AC.by_walk (rs:=[.tmp 2]) ords Tryz.func34 (by rfl) (by rfl) (by rfl) (by rfl) (by rfl) ?_;have hl:=h.1;simp (disch:=omega) only[wt,seval,reduceCtorEq,Nat.reduceEqDiff,cpoly_len,natsr_len,natsr_at,natsr_snoc,natsr_app,natsr_rows,natsr_nil];refine aloop_by (λf H=>∃(k:Nat),k<=p.length/\tz ((pv p).take k)=tz (pv p)/\f 3=.iv (.int .i64 ((k:Int)-1))/\f 0=.iv (.sl (raws p))) (λf H=>(intAt f 3+1).toNat) ?_ ?_
 .refine⟨p.length,by omega,by rw[<-pv_len p,List.take_length],?_⟩;simp (disch:=omega) only[wt,seval,reduceCtorEq,Nat.reduceEqDiff,cpoly_len,natsr_len,natsr_at,natsr_snoc,natsr_app,natsr_rows,natsr_nil]
 rintro f H ⟨k,hk,ht,hF⟩;rw[intAt_of hF.1];simp (disch:=omega) only[wt,seval,reduceCtorEq,Nat.reduceEqDiff,cpoly_len,natsr_len,natsr_at,natsr_snoc,natsr_app,natsr_rows,natsr_nil,hF];by_cases h0:0<=(k:Int)-1
 .obtain⟨j,rfl⟩:∃j,k=j+1:=⟨k-1,by omega⟩;have ej:((j+1:Nat):Int)-1=(j:Int):=by omega
  rw[ej]at hF;simp (disch:=omega) only[wt,seval,reduceCtorEq,Nat.reduceEqDiff,cpoly_len,natsr_len,natsr_at,natsr_snoc,natsr_app,natsr_rows,natsr_nil,hF,h0,ej];refine call_by ((rSign_ok (p.getD j (false,[])) (h.get _))) (by first|rfl|(simp only[tocvs,tocv,toboxes,tobox,updH_at,Nat.reduceEqDiff,↓reduceIte,hF];rfl)) (by simp) ?_;simp (disch:=omega) only[wt,seval,reduceCtorEq,Nat.reduceEqDiff,cpoly_len,natsr_len,natsr_at,natsr_snoc,natsr_app,natsr_rows,natsr_nil,hF];rw[<-cf_pv];refine if_by (λhs=>?_) (λhs=>?_)
  .simp (disch:=omega) only[wt,seval,reduceCtorEq,Nat.reduceEqDiff,cpoly_len,natsr_len,natsr_at,natsr_snoc,natsr_app,natsr_rows,natsr_nil,hF];exact⟨⟨j,by omega,by rw[<-tz_take_zero (by rw[pv_len];omega) (Int.sign_eq_zero_iff_zero.mp hs),ht],rfl⟩,by omega⟩
  .simp (disch:=omega) only[wt,seval,reduceCtorEq,Nat.reduceEqDiff,cpoly_len,natsr_len,natsr_at,natsr_snoc,natsr_app,natsr_rows,natsr_nil,hF];rw[<-ht,tz_full (by rw[pv_len];omega) (λe=>hs (by rw[e];rfl))];omega
 .simp (disch:=omega) only[wt,seval,reduceCtorEq,Nat.reduceEqDiff,cpoly_len,natsr_len,natsr_at,natsr_snoc,natsr_app,natsr_rows,natsr_nil,hF,h0];have:k=0:=by omega
  subst this;rw[<-ht];rfl
theorem pcoef_ok (p:List RI)(i:Int)(h:RP (2^40) (2^40) p):AC Tryz.prog 57 [cw p,ci i] none [cz (if i<0 then 0 else cf (pv p) i.toNat)]:=by
 refine AC.by_walk (rs:=[.cell 4 29]) ords Tryz.func57 (by rfl) (by rfl) (by rfl) (by rfl) (by rfl) ?_;have hl:=h.1;simp (disch:=omega) only[wt,seval,reduceCtorEq,Nat.reduceEqDiff,cpoly_len,natsr_len,natsr_at,natsr_snoc,natsr_app,natsr_rows,natsr_nil];have key:AC Tryz.prog 84 [cw p,ci i] none [cr (if i<0 then (false,[]) else p.getD i.toNat (false,[]))]:=by
  refine AC.by_walk (rs:=[.cell 4 29]) ords Tryz.func84 (by rfl) (by rfl) (by rfl) (by rfl) (by rfl) ?_;by_cases h0:i<0
  .simp (disch:=omega) only[wt,seval,reduceCtorEq,Nat.reduceEqDiff,cpoly_len,natsr_len,natsr_at,natsr_snoc,natsr_app,natsr_rows,natsr_nil,h0]
  by_cases h1:(p.length:Int)<=i
  .simp (disch:=omega) only[wt,seval,reduceCtorEq,Nat.reduceEqDiff,cpoly_len,natsr_len,natsr_at,natsr_snoc,natsr_app,natsr_rows,natsr_nil,h0,h1];have e:p.getD i.toNat (false,[])=(false,[]):=by rw[List.getD_eq_getElem?_getD,List.getElem?_eq_none (by omega)];rfl
   rw[e]
  .simp (disch:=omega) only[wt,seval,reduceCtorEq,Nat.reduceEqDiff,cpoly_len,natsr_len,natsr_at,natsr_snoc,natsr_app,natsr_rows,natsr_nil,h0,h1]
 refine call_by (key) (by rfl) (by simp) ?_;simp (disch:=omega) only[wt,seval,reduceCtorEq,Nat.reduceEqDiff,cpoly_len,natsr_len,natsr_at,natsr_snoc,natsr_app,natsr_rows,natsr_nil];have hs:Sz (2^40) (if i<0 then (false,[]) else p.getD i.toNat (false,[])):=by
  split
  .exact⟨by simp,Lim.nil⟩
  .exact h.get _
 have e:iv (if i<0 then (false,[]) else p.getD i.toNat (false,[]))=if i<0 then 0 else cf (pv p) i.toNat:=by
  split
  .exact iv_zero
  .rw[<-cf_pv]
 refine call_by ((znorm_ok _ hs)) (by rfl) (by simp) ?_;simp (disch:=omega) only[wt,seval,reduceCtorEq,Nat.reduceEqDiff,cpoly_len,natsr_len,natsr_at,natsr_snoc,natsr_app,natsr_rows,natsr_nil];rw[e]
theorem plead_ok (p:List RI)(h:RP (2^40) (2^40) p):AC Tryz.prog 30 [cw p] none [cz (cf (pv p) (tz (pv p)-1))]:=by
 refine AC.by_walk (rs:=[.cell 2 29]) ords Tryz.func30 (by rfl) (by rfl) (by rfl) (by rfl) (by rfl) ?_;have hl:=h.1;simp (disch:=omega) only[wt,seval,reduceCtorEq,Nat.reduceEqDiff,cpoly_len,natsr_len,natsr_at,natsr_snoc,natsr_app,natsr_rows,natsr_nil];refine call_by ((pdeg_ok p h)) (by rfl) (by simp) ?_;simp (disch:=omega) only[wt,seval,reduceCtorEq,Nat.reduceEqDiff,cpoly_len,natsr_len,natsr_at,natsr_snoc,natsr_app,natsr_rows,natsr_nil];have:=pcoef_ok p ((tz (pv p):Int)-1) h;have e:(if (tz (pv p):Int)-1<0 then 0 else cf (pv p) ((tz (pv p):Int)-1).toNat)=cf (pv p) (tz (pv p)-1):=by
  by_cases h0:tz (pv p)=0
  .rw[if_pos (by omega),cf_ge_tz _ (by omega)]
  .rw[if_neg (by omega)];congr 1;omega
 rw[e]at this;refine call_by (this) (by rfl) (by simp) ?_;simp (disch:=omega) only[wt,seval,reduceCtorEq,Nat.reduceEqDiff,cpoly_len,natsr_len,natsr_at,natsr_snoc,natsr_app,natsr_rows,natsr_nil]
theorem slead_ok (p:List RI)(h:RP (2^40) (2^40) p):AC Tryz.prog 33 [cw p] none [cz (cf (pv p) (tz (pv p)-1))]:=by
 refine AC.by_walk (rs:=[.cell 2 29]) ords Tryz.func33 (by rfl) (by rfl) (by rfl) (by rfl) (by rfl) ?_;have hl:=h.1;simp (disch:=omega) only[wt,seval,reduceCtorEq,Nat.reduceEqDiff,cpoly_len,natsr_len,natsr_at,natsr_snoc,natsr_app,natsr_rows,natsr_nil];refine call_by ((sdeg_ok p h)) (by rfl) (by simp) ?_;simp (disch:=omega) only[wt,seval,reduceCtorEq,Nat.reduceEqDiff,cpoly_len,natsr_len,natsr_at,natsr_snoc,natsr_app,natsr_rows,natsr_nil];have:=scoef_ok p ((tz (pv p):Int)-1) h;have e:(if (tz (pv p):Int)-1<0 then 0 else cf (pv p) ((tz (pv p):Int)-1).toNat)=cf (pv p) (tz (pv p)-1):=by
  by_cases h0:tz (pv p)=0
  .rw[if_pos (by omega),cf_ge_tz _ (by omega)]
  .rw[if_neg (by omega)];congr 1;omega
 rw[e]at this;refine call_by (this) (by rfl) (by simp) ?_;simp (disch:=omega) only[wt,seval,reduceCtorEq,Nat.reduceEqDiff,cpoly_len,natsr_len,natsr_at,natsr_snoc,natsr_app,natsr_rows,natsr_nil]
theorem topW_lt {x y i:Nat}(h:x/W^(i+1)=y/W^(i+1))(hd:x/W^i%W<y/W^i%W):x<y:=by
 have e:∀z:Nat,z/W^i=W*(z/W^(i+1))+z/W^i%W:=λz=>by
  rw[Nat.pow_succ,<-Nat.div_div_eq_div_mul];exact(Nat.div_add_mod _ _).symm
 have h1:=e x;have h2:=e y;rw[h]at h1;rcases Nat.lt_or_ge x y with h3|h3
 .exact h3
 .have:=Nat.div_le_div_right (c:=W^i) h3;omega
theorem word_at {l:List Nat}(h:Lim l)(k:Nat):l.getD k 0=nv l/W^k%W:=by
 have h1:=vl_take_next W l k;have e1:=nv_take h (k+1);have e2:=nv_take h k;simp only[nv]at *;rw[e1,e2,Nat.mod_pow_succ]at h1;exact(Nat.eq_of_mul_eq_mul_left (W_pow_pos k) (Nat.add_left_cancel h1)).symm
theorem lcmp_ok (a b:List Nat)(ha:Lim a)(hb:Lim b)(hla:a.length<=2^42)(hlb:b.length<=2^42):AC Tryz.prog 135 [cl a,cl b] none [ci (cmpN (nv a) (nv b))]:=by
 refine AC.by_walk (rs:=[.tmp 4]) ords Tryz.func135 (by rfl) (by rfl) (by rfl) (by rfl) (by rfl) ?_;generalize hn:max a.length b.length=n at *;have hnI:max (a.length:Int) (b.length:Int)=(n:Int):=by omega
 have h0:nv a/W^n=nv b/W^n:=by
  have hA:=nv_lt ha;have hB:=nv_lt hb;have hA2:W^a.length<=W^n:=Nat.pow_le_pow_right (by decide) (by omega);have hB2:W^b.length<=W^n:=Nat.pow_le_pow_right (by decide) (by omega);rw[Nat.div_eq_of_lt (by omega),Nat.div_eq_of_lt (by omega)]
 simp (disch:=omega) only[wt,seval,reduceCtorEq,Nat.reduceEqDiff,cpoly_len,natsr_len,natsr_at,natsr_snoc,natsr_app,natsr_rows,natsr_nil,hnI];refine aloop_by (λf H=>∃(i:Nat),i<=n/\nv a/W^i=nv b/W^i/\f 6=.iv (.int .i64 ((i:Int)-1))/\f 0=.iv (.sl (lims a))/\f 1=.iv (.sl (lims b))) (λf H=>(intAt f 6+1).toNat) ?_ ?_
 .refine⟨n,by omega,h0,?_⟩;simp (disch:=omega) only[wt,seval,reduceCtorEq,Nat.reduceEqDiff,cpoly_len,natsr_len,natsr_at,natsr_snoc,natsr_app,natsr_rows,natsr_nil]
 rintro f H ⟨i,hi,hv,hF⟩;rw[intAt_of hF.1];simp (disch:=omega) only[wt,seval,reduceCtorEq,Nat.reduceEqDiff,cpoly_len,natsr_len,natsr_at,natsr_snoc,natsr_app,natsr_rows,natsr_nil,hF];refine if_by (λhlt=>?_) (λhlt=>?_)
 .obtain⟨j,rfl⟩:∃j,i=j+1:=⟨i-1,by omega⟩;have ej:((j+1:Nat):Int)-1=(j:Int):=by omega
  have hx:=word_at ha j;have hy:=word_at hb j;rw[ej]at hF;simp (disch:=omega) only[wt,seval,reduceCtorEq,Nat.reduceEqDiff,cpoly_len,natsr_len,natsr_at,natsr_snoc,natsr_app,natsr_rows,natsr_nil,hF];refine call_by ((at_ok a j (by omega))) (by first|rfl|(simp only[tocvs,tocv,toboxes,tobox,updH_at,Nat.reduceEqDiff,↓reduceIte,hF];rfl)) (by simp) ?_;simp (disch:=omega) only[wt,seval,reduceCtorEq,Nat.reduceEqDiff,cpoly_len,natsr_len,natsr_at,natsr_snoc,natsr_app,natsr_rows,natsr_nil,hF];refine call_by ((at_ok b j (by omega))) (by first|rfl|(simp only[tocvs,tocv,toboxes,tobox,updH_at,Nat.reduceEqDiff,↓reduceIte,hF];rfl)) (by simp) ?_;simp (disch:=omega) only[wt,seval,reduceCtorEq,Nat.reduceEqDiff,cpoly_len,natsr_len,natsr_at,natsr_snoc,natsr_app,natsr_rows,natsr_nil,hF];refine if_by (λh1=>?_) (λh1=>?_)
  .simp (disch:=omega) only[wt,seval,reduceCtorEq,Nat.reduceEqDiff,cpoly_len,natsr_len,natsr_at,natsr_snoc,natsr_app,natsr_rows,natsr_nil,hF];refine⟨⟨j,by omega,?_,rfl⟩,by omega⟩;have e:∀z:Nat,z/W^j=W*(z/W^(j+1))+z/W^j%W:=λz=>by
    rw[Nat.pow_succ,<-Nat.div_div_eq_div_mul];exact(Nat.div_add_mod _ _).symm
   rw[e (nv a),e (nv b),hv];omega
  simp (disch:=omega) only[wt,seval,reduceCtorEq,Nat.reduceEqDiff,cpoly_len,natsr_len,natsr_at,natsr_snoc,natsr_app,natsr_rows,natsr_nil,hF];refine if_by (λh2=>?_) (λh2=>?_)
  .simp (disch:=omega) only[wt,seval,reduceCtorEq,Nat.reduceEqDiff,cpoly_len,natsr_len,natsr_at,natsr_snoc,natsr_app,natsr_rows,natsr_nil,hF];have:nv a<nv b:=topW_lt hv (by omega);rw[cmpN,if_pos this]
  simp (disch:=omega) only[wt,seval,reduceCtorEq,Nat.reduceEqDiff,cpoly_len,natsr_len,natsr_at,natsr_snoc,natsr_app,natsr_rows,natsr_nil,hF];have:nv b<nv a:=topW_lt hv.symm (by omega);rw[cmpN,if_neg (by omega),if_pos this]
 .simp (disch:=omega) only[wt,seval,reduceCtorEq,Nat.reduceEqDiff,cpoly_len,natsr_len,natsr_at,natsr_snoc,natsr_app,natsr_rows,natsr_nil,hF];have:i=0:=by omega
  subst this;simp at hv;rw[hv,cmpN];simp
theorem ncmp_ok (a b:List Nat)(ha:Lim a)(hb:Lim b)(hla:a.length<=2^42)(hlb:b.length<=2^42):AC Tryz.prog 123 [cl a,cl b] none [ci (cmpN (nv a) (nv b))]:=by
 refine AC.by_walk (rs:=[.tmp 4]) ords Tryz.func123 (by rfl) (by rfl) (by rfl) (by rfl) (by rfl) ?_;simp (disch:=omega) only[wt,seval,reduceCtorEq,Nat.reduceEqDiff,cpoly_len,natsr_len,natsr_at,natsr_snoc,natsr_app,natsr_rows,natsr_nil];refine call_by ((lcmp_ok a b ha hb hla hlb)) (by rfl) (by simp) ?_;simp (disch:=omega) only[wt,seval,reduceCtorEq,Nat.reduceEqDiff,cpoly_len,natsr_len,natsr_at,natsr_snoc,natsr_app,natsr_rows,natsr_nil]
theorem wd_one {y:Nat}(h:(wd y).length=1):(wd y).getD 0 0=y/\y<W:=by
 have h1:=vl_take_next W (wd y) 0;rw[Nat.zero_add,List.take_of_length_le (by omega),List.take_zero,Nat.pow_zero,Nat.one_mul]at h1;have h2:=nv_wd y;simp only[nv,vl,Nat.zero_add]at *;have h3:=(lim_wd y).get 0;omega
theorem quo_ok (a b:List Nat)(ha:Lim a)(hb:Lim b)(hla:a.length<=2^38)(hlb:b.length<=2^38)(h0:nv b≠0):AC Tryz.prog 108 [cl a,cl b] none [cl (wd (nv a/nv b)),cl (wd (nv a%nv b)),ci 0]:=by
 refine AC.by_walk (rs:=[.tmp 4,.tmp 5,.tmp 6]) ords Tryz.func108 (by rfl) (by rfl) (by rfl) (by rfl) (by rfl) ?_;simp (disch:=omega) only[wt,seval,reduceCtorEq,Nat.reduceEqDiff,natsr_len,natsr_at,Option.getD_some];refine call_by ((norm_ok a ha (by omega))) (by rfl) (by simp) ?_;simp (disch:=omega) only[wt,seval,reduceCtorEq,Nat.reduceEqDiff,natsr_len,natsr_at,Option.getD_some];refine call_by ((norm_ok b hb (by omega))) (by rfl) (by simp) ?_;simp (disch:=omega) only[wt,seval,reduceCtorEq,Nat.reduceEqDiff,natsr_len,natsr_at,Option.getD_some];have hxl:=nv_len ha;have hyl:=nv_len hb;generalize nv a=x at *;generalize nv b=y at *;refine if_by (λh=>?_) (λh=>?_)
 .have:=wd_len_zero.mp (Int.ofNat.inj h);exact absurd this h0
 simp (disch:=omega) only[wt,seval,reduceCtorEq,Nat.reduceEqDiff,natsr_len,natsr_at,Option.getD_some];refine call_by ((ncmp_ok (wd x) (wd y) (lim_wd _) (lim_wd _) (by omega) (by omega))) (by rfl) (by simp) ?_;simp (disch:=omega) only[wt,seval,reduceCtorEq,Nat.reduceEqDiff,natsr_len,natsr_at,Option.getD_some];rw[nv_wd,nv_wd];refine if_by (λhc=>?_) (λhc=>?_)
 .have hlt:x<y:=by
   unfold cmpN at hc;split at hc
   .assumption
   .split at hc<;>omega
  rw[Nat.div_eq_of_lt hlt,Nat.mod_eq_of_lt hlt,wd_zero];simp (disch:=omega) only[wt,seval,reduceCtorEq,Nat.reduceEqDiff,natsr_len,natsr_at,Option.getD_some]
 have hle:y<=x:=by
  unfold cmpN at hc;split at hc
  .omega
  .omega
 simp (disch:=omega) only[wt,seval,reduceCtorEq,Nat.reduceEqDiff,natsr_len,natsr_at,Option.getD_some];refine if_by (λh1=>?_) (λh1=>?_)
 .obtain⟨e1,e2⟩:=wd_one (Int.ofNat.inj h1);have hp:0<(wd y).length:=by omega
  simp (disch:=omega) only[wt,seval,reduceCtorEq,Nat.reduceEqDiff,natsr_len,natsr_at,Option.getD_some];have m:=dword_ok (wd x) y (lim_wd _) (by omega) h0 e2;rw[nv_wd]at m;have n:=nof_ok (x%y) (Nat.lt_trans (Nat.mod_lt _ (by omega)) e2);simp (disch:=omega) only[wt,seval,reduceCtorEq,Nat.reduceEqDiff,natsr_len,natsr_at,Option.getD_some,e1];refine call_by (m) (by first|rfl|(simp only[tocvs,tocv,toboxes,tobox,updH_at,Nat.reduceEqDiff,↓reduceIte,e1];rfl)) (by simp) ?_;simp (disch:=omega) only[wt,seval,reduceCtorEq,Nat.reduceEqDiff,natsr_len,natsr_at,Option.getD_some,e1];refine call_by (n) (by first|rfl|(simp only[tocvs,tocv,toboxes,tobox,updH_at,Nat.reduceEqDiff,↓reduceIte,e1];rfl)) (by simp) ?_;simp (disch:=omega) only[wt,seval,reduceCtorEq,Nat.reduceEqDiff,natsr_len,natsr_at,Option.getD_some,e1]
 .have hn:2<=(wd y).length:=by omega
  simp (disch:=omega) only[wt,seval,reduceCtorEq,Nat.reduceEqDiff,natsr_len,natsr_at,Option.getD_some];refine call_by ((knuth_ok x y _ _ rfl rfl hn hle (by omega))) (by rfl) (by simp) ?_;simp (disch:=omega) only[wt,seval,reduceCtorEq,Nat.reduceEqDiff,natsr_len,natsr_at,Option.getD_some]
theorem mod_ok (a b:List Nat)(ha:Lim a)(hb:Lim b)(hla:a.length<=2^38)(hlb:b.length<=2^38)(h0:nv b≠0):AC Tryz.prog 122 [cl a,cl b] none [cl (wd (nv a%nv b)),ci 0]:=by
 refine AC.by_walk (rs:=[.tmp 4,.tmp 5]) ords Tryz.func122 (by rfl) (by rfl) (by rfl) (by rfl) (by rfl) ?_;simp (disch:=omega) only[wt,seval,reduceCtorEq,Nat.reduceEqDiff,natsr_len,natsr_at,Option.getD_some];refine call_by ((quo_ok a b ha hb hla hlb h0)) (by rfl) (by simp) ?_;simp (disch:=omega) only[wt,seval,reduceCtorEq,Nat.reduceEqDiff,natsr_len,natsr_at,Option.getD_some]
theorem gmod_ok (a b:List Nat)(ha:Lim a)(hb:Lim b)(hla:a.length<=2^38)(hlb:b.length<=2^38)(h0:nv b≠0):AC Tryz.prog 107 [cl a,cl b] none [cl (wd (nv a%nv b))]:=by
 refine AC.by_walk (rs:=[.tmp 4]) ords Tryz.func107 (by rfl) (by rfl) (by rfl) (by rfl) (by rfl) ?_;simp (disch:=omega) only[wt,seval,reduceCtorEq,Nat.reduceEqDiff,natsr_len,natsr_at,Option.getD_some];refine call_by ((mod_ok a b ha hb hla hlb h0)) (by rfl) (by simp) ?_;simp (disch:=omega) only[wt,seval,reduceCtorEq,Nat.reduceEqDiff,natsr_len,natsr_at,Option.getD_some]
theorem dexact_ok (a b:List Nat)(ha:Lim a)(hb:Lim b)(hla:a.length<=2^38)(hlb:b.length<=2^38)(h0:nv b≠0):AC Tryz.prog 91 [cl a,cl b] none [cl (if nv a%nv b=0 then wd (nv a/nv b) else []),ci (if nv a%nv b=0 then 0 else 4)]:=by
 refine AC.by_walk (rs:=[.tmp 4,.tmp 5]) ords Tryz.func91 (by rfl) (by rfl) (by rfl) (by rfl) (by rfl) ?_;simp (disch:=omega) only[wt,seval,reduceCtorEq,Nat.reduceEqDiff,natsr_len,natsr_at,Option.getD_some];refine call_by ((quo_ok a b ha hb hla hlb h0)) (by rfl) (by simp) ?_;simp (disch:=omega) only[wt,seval,reduceCtorEq,Nat.reduceEqDiff,natsr_len,natsr_at,Option.getD_some];refine if_by (λh=>?_) (λh=>?_)
 .have h1:nv a%nv b≠0:=λh2=>by rw[h2,wd_zero]at h;simp at h
  rw[if_neg h1,if_neg h1];simp (disch:=omega) only[wt,seval,reduceCtorEq,Nat.reduceEqDiff,natsr_len,natsr_at,Option.getD_some]
 .have h1:nv a%nv b=0:=by
   rcases Nat.eq_zero_or_pos (wd (nv a%nv b)).length with h2|h2
   .exact wd_len_zero.mp h2
   .exact absurd (by omega) h
  rw[if_pos h1,if_pos h1];simp (disch:=omega) only[wt,seval,reduceCtorEq,Nat.reduceEqDiff,natsr_len,natsr_at,Option.getD_some]
def natAt (f:Fr)(t:Nat):Nat:=match f t with
 |.iv (.sl rows)=>nv (rows.map λr=>match r with | [.int _ n]=>n.toNat|_=>0)
 |_=>0
theorem natAt_of {f:Fr}{t v:Nat}(h:f t=.iv (.sl (lims (wd v)))):natAt f t=v:=by
 unfold natAt;rw[h];have e:(lims (wd v)).map (λr=>match r with | [.int _ n]=>n.toNat|_=>0)=wd v:=by
  simp only[lims,List.map_map]
  conv=>rhs;rw[<-List.map_id (wd v)]
  rfl
 simp only[e,nv_wd]
theorem gcd_ok (a b:List Nat)(ha:Lim a)(hb:Lim b)(hla:a.length<=2^38)(hlb:b.length<=2^38):AC Tryz.prog 90 [cl a,cl b] none [cl (wd (Nat.gcd (nv a) (nv b)))]:=by
 refine AC.by_walk (rs:=[.tmp 4]) ords Tryz.func90 (by rfl) (by rfl) (by rfl) (by rfl) (by rfl) ?_;simp (disch:=omega) only[wt,seval,reduceCtorEq,Nat.reduceEqDiff,natsr_len,natsr_at,Option.getD_some];refine call_by ((norm_ok a ha (by omega))) (by rfl) (by simp) ?_;simp (disch:=omega) only[wt,seval,reduceCtorEq,Nat.reduceEqDiff,natsr_len,natsr_at,Option.getD_some];refine call_by ((norm_ok b hb (by omega))) (by rfl) (by simp) ?_;simp (disch:=omega) only[wt,seval,reduceCtorEq,Nat.reduceEqDiff,natsr_len,natsr_at,Option.getD_some];have hxl:=nv_len ha;have hyl:=nv_len hb;generalize nv a=x at *;generalize nv b=y at *;refine aloop_by (λf H=>∃u v:Nat,Nat.gcd u v=Nat.gcd x y/\(wd u).length<=2^38/\(wd v).length<=2^38/\f 0=.iv (.sl (lims (wd u)))/\f 1=.iv (.sl (lims (wd v)))) (λf H=>natAt f 1) ?_ ?_
 .exact⟨x,y,rfl,by omega,by omega,by simp (disch:=omega) only[wt,seval,reduceCtorEq,Nat.reduceEqDiff,natsr_len,natsr_at,Option.getD_some]⟩
 rintro f H ⟨u,v,hg,hu,hv,hF⟩;rw[natAt_of hF.2];simp (disch:=omega) only[wt,seval,reduceCtorEq,Nat.reduceEqDiff,natsr_len,natsr_at,Option.getD_some,hF];refine if_by (λh=>?_) (λh=>?_)
 .have h0:v≠0:=λh1=>by rw[h1,wd_zero]at h;simp at h
  have hm:=gmod_ok (wd u) (wd v) (lim_wd _) (lim_wd _) hu hv (by rw[nv_wd];exact h0);rw[nv_wd,nv_wd]at hm;simp (disch:=omega) only[wt,seval,reduceCtorEq,Nat.reduceEqDiff,natsr_len,natsr_at,Option.getD_some,hF];refine call_by (hm) (by first|rfl|(simp only[tocvs,tocv,toboxes,tobox,updH_at,Nat.reduceEqDiff,↓reduceIte,hF];rfl)) (by simp) ?_;simp (disch:=omega) only[wt,seval,reduceCtorEq,Nat.reduceEqDiff,natsr_len,natsr_at,Option.getD_some,hF];have hlt:=Nat.mod_lt u (Nat.pos_of_ne_zero h0);have:=wd_len_mono (Nat.le_of_lt hlt);rw[natAt_of rfl];exact⟨⟨v,u%v,by rw[<-hg,Nat.gcd_comm u v,Nat.gcd_rec v u,Nat.gcd_comm],hv,by omega,rfl,rfl⟩,hlt⟩
 .have h0:v=0:=wd_len_zero.mp (by omega);subst h0;rw[Nat.gcd_zero_right]at hg;simp (disch:=omega) only[wt,seval,reduceCtorEq,Nat.reduceEqDiff,natsr_len,natsr_at,Option.getD_some,hF,hg]
theorem iv_sg (c:RI):iv c=sg c.1 (nv c.2):=rfl
theorem znat_ok (s:Bool)(n:Nat)(h:(wd n).length<=2^40):AC Tryz.prog 55 [cb s,cl (wd n)] none [cz (sg s n)]:=by
 refine AC.by_walk (rs:=[.cell 4 29]) ords Tryz.func55 (by rfl) (by rfl) (by rfl) (by rfl) (by rfl) ?_;simp (disch:=omega) only[wt,seval,reduceCtorEq,Nat.reduceEqDiff,cpoly_len];have m:=znorm_ok (s,wd n) ⟨h,lim_wd _⟩;rw[iv_sg,nv_wd]at m;refine call_by (m) (by rfl) (by simp) ?_;simp (disch:=omega) only[wt,seval,reduceCtorEq,Nat.reduceEqDiff,cpoly_len]
def gz (q:List Int):Nat:=q.foldl (λg c=>Nat.gcd g c.natAbs) 0
def lc (q:List Int):Int:=cf q (tz q-1)
def cont (q:List Int):Int:=sg (decide (lc q<0)) (gz q)
theorem zl_div {a b:Int}(h:b∣a):zl (a/b)<=zl a:=by
 obtain⟨k,rfl⟩:=h;by_cases h0:b=0
 .subst h0;simp
 .rw[Int.mul_ediv_cancel_left _ h0];unfold zl;rw[Int.natAbs_mul];exact wd_len_mono (Nat.le_mul_of_pos_left _ (by omega))

def digAt (f:Fr)(t:Nat):Nat:=match f t with
 |.iv (.sl rows)=>vl D16 (rows.map λr=>match r with | [.int _ n]=>n.toNat|_=>0)
 |_=>0
theorem digAt_of {f:Fr}{t:Nat}{l:List Nat}(h:f t=.iv (.sl (nums l))):digAt f t=vl D16 l:=by
 unfold digAt;rw[h];simp only[nums,List.map_map]
 congr 1
 conv=>rhs;rw[<-List.map_id l]
 exact List.map_congr_left λx _=>by simp
theorem dgD_mono {a b:Nat}(h:a<=b):(dgD a).length<=(dgD b).length:=by
 have h1:=vlD_lt (dgD_dig b);rw[vl_dgD]at h1;exact(dg_length_le two_le_D (dgD b).length (n:=a)).mpr (Nat.lt_of_le_of_lt h h1)
theorem rGcd_ok (a b:List Nat)(ha:Lim a)(hb:Lim b)(hla:a.length<=2^38)(hlb:b.length<=2^38):AC Tryz.prog 73 [cl a,cl b] none [cl (wd (Nat.gcd (nv a) (nv b)))]:=by
 refine AC.by_walk (rs:=[.tmp 4]) ords Tryz.func73 (by rfl) (by rfl) (by rfl) (by rfl) (by rfl) ?_;obtain⟨x,y,s,h1,h2⟩:=rones_ok a b 63 ha hb (by omega) (by omega) (by omega);have h3:=dgD_len ha;have h4:=dgD_len hb;simp (disch:=omega) only[wt,seval,reduceCtorEq,Nat.reduceEqDiff,cpoly_len];refine call_by (h1) (by rfl) (by simp) ?_;simp (disch:=omega) only[wt,seval,reduceCtorEq,Nat.reduceEqDiff,cpoly_len];cases s with
 |true =>
  obtain⟨rfl,rfl,b1,b2⟩:=h2 rfl;clear h1 h2;generalize nv a=x at *;generalize nv b=y at *;refine aloop_by (λf H=>∃(u v:Nat),Nat.gcd u v=Nat.gcd x y/\u<2^63/\v<2^63/\f 6=.iv (.int .u64 v)/\f 5=.iv (.int .u64 u)/\f 7=.iv (.bool true)) (λf H=>(intAt f 6).toNat) ?_ ?_
  .refine⟨x,y,rfl,b1,b2,?_⟩;simp (disch:=omega) only[wt,seval,reduceCtorEq,Nat.reduceEqDiff,cpoly_len]
  rintro f H ⟨u,v,hg,hu,hv,hF⟩;rw[intAt_of hF.1];simp (disch:=omega) only[wt,seval,reduceCtorEq,Nat.reduceEqDiff,cpoly_len,hF];by_cases hp:0<v
  .have hp':(0:Int)<(v:Int):=by omega
   have e2:((u:Nat):Int).tmod ((v:Nat):Int)=((u%v:Nat):Int):=by rw[Int.tmod_eq_emod_of_nonneg (by omega)];rfl
   have hlt:=Nat.mod_lt u hp;generalize hr:u%v=r at *;simp (disch:=omega) only[wt,seval,reduceCtorEq,Nat.reduceEqDiff,cpoly_len,hF,hp',e2];refine .inl ⟨tmps_by (by kernel_rfl),?_⟩
   first|exact log_by (by kernel_rfl)|refine⟨log_by (by kernel_rfl),?_⟩
   refine⟨⟨v,r,?_,hv,by omega,rfl,rfl⟩,by omega⟩;rw[<-hg,<-hr,Nat.gcd_comm u v,Nat.gcd_rec v u,Nat.gcd_comm]
  .obtain rfl:v=0:=by omega
   rw[Nat.gcd_zero_right]at hg;subst hg;simp (disch:=omega) only[wt,seval,reduceCtorEq,Nat.reduceEqDiff,cpoly_len,hF];refine call_by ((rof_ok (Nat.gcd x y) (by simp only[W];omega))) (by first|rfl|(simp only[tocvs,tocv,toboxes,tobox,updH_at,Nat.reduceEqDiff,↓reduceIte,hF];rfl)) (by simp) ?_;simp (disch:=omega) only[wt,seval,reduceCtorEq,Nat.reduceEqDiff,cpoly_len,hF]
 |false =>
  clear h2;refine aloop_by (λf H=>True/\f 6=.iv (.int .u64 y)/\f 5=.iv (.int .u64 x)/\f 7=.iv (.bool false)/\f 0=.iv (.sl (lims a))/\f 1=.iv (.sl (lims b))) (λf H=>(intAt f 6).toNat) ?_ ?_
  .refine⟨trivial,?_⟩;simp (disch:=omega) only[wt,seval,reduceCtorEq,Nat.reduceEqDiff,cpoly_len]
  rintro f H ⟨_,hF⟩;rw[intAt_of hF.1];simp (disch:=omega) only[wt,seval,reduceCtorEq,Nat.reduceEqDiff,cpoly_len,hF];refine call_by ((rdig_ok a ha (by omega))) (by first|rfl|(simp only[tocvs,tocv,toboxes,tobox,updH_at,Nat.reduceEqDiff,↓reduceIte,hF];rfl)) (by simp) ?_;simp (disch:=omega) only[wt,seval,reduceCtorEq,Nat.reduceEqDiff,cpoly_len,hF];refine call_by ((rdig_ok b hb (by omega))) (by first|rfl|(simp only[tocvs,tocv,toboxes,tobox,updH_at,Nat.reduceEqDiff,↓reduceIte,hF];rfl)) (by simp) ?_;simp (disch:=omega) only[wt,seval,reduceCtorEq,Nat.reduceEqDiff,cpoly_len,hF];generalize nv a=x1 at *;generalize nv b=y1 at *;refine aloop_by (λf H=>∃u v:Nat,Nat.gcd u v=Nat.gcd x1 y1/\(dgD u).length<=2^40/\(dgD v).length<=2^40/\f 8=.iv (.sl (nums (dgD u)))/\f 9=.iv (.sl (nums (dgD v)))) (λf H=>digAt f 9) ?_ ?_
  .exact⟨x1,y1,rfl,by omega,by omega,by simp (disch:=omega) only[wt,seval,reduceCtorEq,Nat.reduceEqDiff,cpoly_len]⟩
  clear hF;rintro f H ⟨u,v,hg,hu,hv,hF⟩;rw[digAt_of hF.2,vl_dgD];simp (disch:=omega) only[wt,seval,reduceCtorEq,Nat.reduceEqDiff,cpoly_len,hF];refine if_by (λh=>?_) (λh=>?_)
  .have h0:v≠0:=λh1=>by rw[h1,dgD_len_zero.mpr rfl]at h;simp at h
   obtain⟨q,q1,q2,q3,m⟩:=divide_g u v h0 (by omega) (by omega);have hlt:=Nat.mod_lt u (Nat.pos_of_ne_zero h0);have hml:=dgD_mono (Nat.le_of_lt hlt);have mc:=rcut_ok (dgD (u%v)) (by omega);rw[dgD_of (dgD_dig _),vl_dgD]at mc;simp (disch:=omega) only[wt,seval,reduceCtorEq,Nat.reduceEqDiff,cpoly_len,hF];refine call_by (m) (by first|rfl|(simp only[tocvs,tocv,toboxes,tobox,updH_at,Nat.reduceEqDiff,↓reduceIte,hF];rfl)) (by simp) ?_;simp (disch:=omega) only[wt,seval,reduceCtorEq,Nat.reduceEqDiff,cpoly_len,hF];refine call_by (mc) (by first|rfl|(simp only[tocvs,tocv,toboxes,tobox,updH_at,Nat.reduceEqDiff,↓reduceIte,hF];rfl)) (by simp) ?_;simp (disch:=omega) only[wt,seval,reduceCtorEq,Nat.reduceEqDiff,cpoly_len,hF];rw[digAt_of rfl,vl_dgD];exact⟨⟨v,u%v,by rw[<-hg,Nat.gcd_comm u v,Nat.gcd_rec v u,Nat.gcd_comm],hv,by omega,rfl,rfl⟩,hlt⟩
  .have h0:v=0:=dgD_len_zero.mp (by omega);subst h0;rw[Nat.gcd_zero_right]at hg;subst hg;have mn:=rnumber_ok (dgD (Nat.gcd x1 y1)) (dgD_dig _) (by omega);rw[vl_dgD]at mn;simp (disch:=omega) only[wt,seval,reduceCtorEq,Nat.reduceEqDiff,cpoly_len,hF];refine call_by (mn) (by first|rfl|(simp only[tocvs,tocv,toboxes,tobox,updH_at,Nat.reduceEqDiff,↓reduceIte,hF];rfl)) (by simp) ?_;simp (disch:=omega) only[wt,seval,reduceCtorEq,Nat.reduceEqDiff,cpoly_len,hF]
abbrev cqq (r:RQ):CV:=.agg (qrow r)
abbrev cqz (q:Rat):CV:=cqq (crat q)
abbrev cqw (l:List RQ):CV:=.iv (.sl (rats l))
abbrev cqp (q:List Rat):CV:=cqw (cqs q)
abbrev q0:RQ:=((false,[]),[])
theorem rats_get {l:List RQ}{i:Nat}(h:i<l.length):(rats l).getD i []=qrow (l.getD i q0):=by simp[rats,List.getD,h]
theorem rats_rows (p:List RQ):(∀r∈rats p,r.length=3)↔True:=by
 simp only[iff_true];intro r hr;obtain⟨c,_,rfl⟩:=List.mem_map.1 hr;rfl
theorem rats_snoc (p:List RQ)(c:RQ):rats p++[qrow c]=rats (p++[c]):=by simp[rats]
theorem rats_nil:rats []=[]:=rfl
theorem rats_set (p:List RQ)(i:Nat)(c:RQ):(rats p).set i (qrow c)=rats (p.set i c):=by simp[rats,List.map_set]
theorem rats_take (p:List RQ)(k:Nat):(rats p).take k=rats (p.take k):=by simp[rats,List.map_take]
theorem rats_rep (n:Nat):List.replicate n [IV.bool false,IV.sl [],IV.sl []]=rats (List.replicate n q0):=by rw[rats,List.map_replicate];rfl
theorem qrow_take (r:RQ):List.take 3 (qrow r)=qrow r:=rfl
theorem qrow_drop2 (r:RQ):List.drop 2 (qrow r)=[.sl (lims r.2)]:=rfl
theorem qrow_drop1 (r:RQ):List.drop 1 (qrow r)=[.sl (lims r.1.2),.sl (lims r.2)]:=rfl
theorem qrow_take2 (r:RQ):List.take 2 (qrow r)=prow r.1:=rfl
theorem qrow_spl0 (r:RQ)(c:RI):splice (qrow r) 0 (prow c)=qrow (c,r.2):=rfl
theorem qrow_len (r:RQ):(qrow r).length=3:=rfl
theorem qrow_splice (x y z:IV)(r:RQ):splice [x,y,z] 0 (qrow r)=qrow r:=rfl
theorem qrow_row (r:RQ):[IV.bool r.1.1,IV.sl (lims r.1.2),IV.sl (lims r.2)]=qrow r:=rfl
theorem rqs:(∀l:List RQ,(rats l).length=l.length)/\(∀{l:List RQ} {i:Nat},i<l.length->(rats l).getD i []=qrow (l.getD i q0)) /\
  (∀(c:RI) (x:IV),lay (λi=>[(0,2),(2,1)][i]?) [.bool false,.sl [],.sl []] ([0,1].zip [prow c,[x]])=some ((2=2/\0+2<=3)/\(1=1/\2+1<=3)/\True,[.bool c.1,.sl (lims c.2),x])) /\
  (∀r:RQ,List.take 3 (qrow r)=qrow r)/\(∀r:RQ,(qrow r).length=3)/\(∀(x y z:IV) (r:RQ),splice [x,y,z] 0 (qrow r)=qrow r)/\(∀r:RQ,[IV.bool r.1.1,IV.sl (lims r.1.2),IV.sl (lims r.2)]=qrow r) /\
  (∀p:List RQ,(∀r∈rats p,r.length=3)↔True)/\(∀(p:List RQ) (c:RQ),rats p++[qrow c]=rats (p++[c]))/\(∀(p:List RQ) (i:Nat) (c:RQ),(rats p).set i (qrow c)=rats (p.set i c)) /\
  (∀(p:List RQ) (k:Nat),(rats p).take k=rats (p.take k))/\(∀n:Nat,List.replicate n [IV.bool false,IV.sl [],IV.sl []]=rats (List.replicate n q0))/\(rats []=[]) /\
  (∀r:RQ,List.drop 2 (qrow r)=[.sl (lims r.2)])/\(∀r:RQ,List.take 2 (qrow r)=prow r.1)/\(∀r:RQ,List.drop 1 (qrow r)=[.sl (lims r.1.2),.sl (lims r.2)])/\(∀(r:RQ) (c:RI),splice (qrow r) 0 (prow c)=qrow (c,r.2)) :=
 ⟨rats_len,rats_get,lay_rat,qrow_take,qrow_len,qrow_splice,qrow_row,rats_rows,rats_snoc,rats_set,rats_take,rats_rep,rats_nil,qrow_drop2,qrow_take2,qrow_drop1,qrow_spl0⟩
theorem pow64 (m:Nat):W^m=2^(64*m):=by rw[Nat.pow_mul]
theorem bl_top {l:List Nat}(h:Lim l){m:Nat}(h0:topN l=m+1):l.getD m 0<W/\m*64+bl (l.getD m 0)=bl (nv l):=by
 have e:(wd (nv l)).length=m+1:=by rw[wd_nv h,List.length_take,Nat.min_eq_left (topN_le l),h0]
 have h1:nv l<W^(m+1):=wd_len_le.mp (by omega);have h2:W^m<=nv l:=Nat.le_of_not_lt λh3=>by have:=wd_len_le.mpr h3;omega
 have h4:nv l/W^m<W:=by rw[Nat.div_lt_iff_lt_mul (W_pow_pos m),Nat.mul_comm,<-Nat.pow_succ];exact h1
 have h5:=word_at h m;rw[Nat.mod_eq_of_lt h4]at h5;refine⟨by rw[h5];exact h4,?_⟩;rw[h5,pow64]at *;rw[bl_shift h2];omega
theorem lbits_ok (l:List Nat)(h:Lim l)(hl:l.length<=2^42):AC Tryz.prog 80 [cl l] none [ci (bl (nv l))]:=by
 refine AC.by_walk (rs:=[.tmp 2]) ords Tryz.func80 (by rfl) (by rfl) (by rfl) (by rfl) (by rfl) ?_;simp (disch:=omega) only[wt,seval,reduceCtorEq,Nat.reduceEqDiff,rqs];refine call_by ((top_ok l (by omega))) (by rfl) (by simp) ?_;simp (disch:=omega) only[wt,seval,reduceCtorEq,Nat.reduceEqDiff,rqs];have ht:=topN_le l;refine if_by (λh1=>?_) (λh1=>?_)
 .have h2:topN l=0:=by omega
  simp (disch:=omega) only[wt,seval,reduceCtorEq,Nat.reduceEqDiff,rqs];rw[show nv l=0 from (vl_zero_top two_le_W l).mpr h2];rfl
 .obtain⟨m,hm⟩:∃m,topN l=m+1:=⟨topN l-1,by omega⟩;obtain⟨h3,h4⟩:=bl_top h hm;have e:((m+1:Nat):Int)-1=(m:Int):=by omega
  rw[hm];have hb:bl (l.getD m 0)<=64:=bl_le.mpr h3;simp (disch:=omega) only[wt,seval,reduceCtorEq,Nat.reduceEqDiff,rqs,e];refine call_by ((len64_ok (l.getD m 0) h3)) (by first|rfl|(simp only[tocvs,tocv,toboxes,tobox,updH_at,Nat.reduceEqDiff,↓reduceIte,e];rfl)) (by simp) ?_;simp (disch:=omega) only[wt,seval,reduceCtorEq,Nat.reduceEqDiff,rqs,e];rw[<-h4]
  push_cast
  rfl
theorem nbits_ok (l:List Nat)(h:Lim l)(hl:l.length<=2^42):AC Tryz.prog 53 [cl l] none [ci (bl (nv l))]:=by
 refine AC.by_walk (rs:=[.tmp 2]) ords Tryz.func53 (by rfl) (by rfl) (by rfl) (by rfl) (by rfl) ?_;simp (disch:=omega) only[wt,seval,reduceCtorEq,Nat.reduceEqDiff,rqs];refine call_by ((lbits_ok l h hl)) (by rfl) (by simp) ?_;simp (disch:=omega) only[wt,seval,reduceCtorEq,Nat.reduceEqDiff,rqs]
theorem bl_zero {n:Nat}:bl n=0↔n=0:=by unfold bl;split<;>simp_all
theorem qcheck_ok (r:RQ)(h:Nt (2^42) r.2):AC Tryz.prog 27 [cqq r] none [ci (if nv r.2=0 then 1 else 0)]:=by
 refine AC.by_walk (rs:=[.tmp 2]) ords Tryz.func27 (by rfl) (by rfl) (by rfl) (by rfl) (by rfl) ?_;simp (disch:=omega) only[wt,seval,reduceCtorEq,Nat.reduceEqDiff,rqs];refine call_by ((nbits_ok r.2 h.2 h.1)) (by rfl) (by simp) ?_;simp (disch:=omega) only[wt,seval,reduceCtorEq,Nat.reduceEqDiff,rqs];refine if_by (λh1=>?_) (λh1=>?_)
 .rw[if_pos (bl_zero.mp (by omega))];simp (disch:=omega) only[wt,seval,reduceCtorEq,Nat.reduceEqDiff,rqs]
 .rw[if_neg (λh2=>h1 (by rw[bl_zero.mpr h2];rfl))];simp (disch:=omega) only[wt,seval,reduceCtorEq,Nat.reduceEqDiff,rqs]
theorem qcheck_good (r:RQ)(h:Nt (2^42) r.2)(h0:nv r.2≠0):AC Tryz.prog 27 [cqq r] none [ci 0]:=by
 have:=qcheck_ok r h;rwa [if_neg h0]at this
theorem qcheck_bad (r:RQ)(h:Nt (2^42) r.2)(h0:nv r.2=0):AC Tryz.prog 27 [cqq r] none [ci 1]:=by
 have:=qcheck_ok r h;rwa [if_pos h0]at this
theorem qchecks_gen (l:List RQ)(e:Int)(hl:l.length<=2^40)(h:∀r∈l,Nt (2^42) r.2)(hg:(∀r∈l,nv r.2≠0)->e=0)(hb:(¬∀r∈l,nv r.2≠0)->e=1):AC Tryz.prog 66 [cqw l] none [ci e]:=by
 refine AC.by_walk (rs:=[.tmp 2]) ords Tryz.func66 (by rfl) (by rfl) (by rfl) (by rfl) (by rfl) ?_;simp (disch:=omega) only[wt,seval,reduceCtorEq,Nat.reduceEqDiff,rqs];refine aloop_by (λf H=>∃(i:Nat),i<=l.length/\(∀j,j<i->nv (l.getD j q0).2≠0)/\f 8=.iv (.int .i64 i)/\f 6=.iv (.sl (rats l))/\f 7=.iv (.int .i64 l.length)) (λf H=>(l.length-intAt f 8).toNat) ?_ ?_
 .refine⟨0,by omega,λj hj=>by omega,?_⟩;simp (disch:=omega) only[wt,seval,reduceCtorEq,Nat.reduceEqDiff,rqs]
 rintro f H ⟨i,hi,hz,hF⟩;rw[intAt_of hF.1];simp (disch:=omega) only[wt,seval,reduceCtorEq,Nat.reduceEqDiff,rqs,hF];refine if_by (λhlt=>?_) (λhlt=>?_)
 .have hlt':i<l.length:=by omega
  have hmem:l.getD i q0∈l:=by rw[List.getD,List.getElem?_eq_getElem hlt',Option.getD_some];exact List.getElem_mem hlt'
  simp (disch:=omega) only[wt,seval,reduceCtorEq,Nat.reduceEqDiff,rqs,hF];by_cases h0:nv (l.getD i q0).2=0
  .obtain rfl:=hb (λh1=>h1 _ hmem h0);refine call_by ((qcheck_bad (l.getD i q0) (h _ hmem) h0)) (by first|rfl|(simp only[tocvs,tocv,toboxes,tobox,updH_at,Nat.reduceEqDiff,↓reduceIte,hF];rfl)) (by simp) ?_;simp (disch:=omega) only[wt,seval,reduceCtorEq,Nat.reduceEqDiff,rqs,hF]
  .have h0':=h0;refine call_by ((qcheck_good (l.getD i q0) (h _ hmem) h0)) (by first|rfl|(simp only[tocvs,tocv,toboxes,tobox,updH_at,Nat.reduceEqDiff,↓reduceIte,hF];rfl)) (by simp) ?_;simp (disch:=omega) only[wt,seval,reduceCtorEq,Nat.reduceEqDiff,rqs,hF];refine⟨⟨i+1,by omega,λj hj=>?_,by omega⟩,by omega⟩;rcases Nat.lt_or_ge j i with hj'|hj'
   .exact hz j hj'
   .obtain rfl:j=i:=by omega
    exact h0
 .obtain rfl:=hg (λr hr=>by
   obtain⟨j,hj,rfl⟩:=List.getElem_of_mem hr;have:=hz j (by omega);rwa [List.getD,List.getElem?_eq_getElem hj,Option.getD_some]at this)
  simp (disch:=omega) only[wt,seval,reduceCtorEq,Nat.reduceEqDiff,rqs,hF]
theorem sg_over (n:Int)(g:Nat)(h:(g:Int)∣n)(hg:g≠0):sg (decide (n<0)) (n.natAbs/g)=n/g:=by
 obtain⟨k,rfl⟩:=h;have hg':(g:Int)≠0:=by omega
 have hp:(0:Int)<g:=by omega
 rw[Int.mul_ediv_cancel_left _ hg',Int.natAbs_mul,Int.natAbs_natCast,Nat.mul_div_cancel_left _ (by omega)];unfold sg;by_cases hk:k<0
 .rw[decide_eq_true (Int.mul_neg_of_pos_of_neg hp hk),if_pos rfl];omega
 .rw[decide_eq_false (by have:=Int.mul_nonneg (a:=(g:Int)) (b:=k) (by omega) (by omega);omega),if_neg (by decide)];omega
theorem qred_ok (n:RI)(d:List Nat)(hn:Sz (2^38) n)(hd:Nt (2^38) d)(h0:nv d≠0):AC Tryz.prog 67 [cr n,cl d] none [cqz (mkRat (iv n) (nv d))]:=by
 rw[show cqz (mkRat (iv n) (nv d))=cqq (rq (iv n) (nv d)) by rw[rq_crat h0]];have zn:=zl_iv hn;have hgp:0<Nat.gcd (iv n).natAbs (nv d):=Nat.gcd_pos_of_pos_right _ (by omega);have hgd:(wd (Nat.gcd (iv n).natAbs (nv d))).length<=2^38:=Nat.le_trans (wd_len_mono (Nat.gcd_le_right _ (by omega))) (Nat.le_trans (nv_len hd.2) hd.1);have h1:((Nat.gcd (iv n).natAbs (nv d):Nat):Int)∣iv n:=Int.ofNat_dvd_left.mpr (Nat.gcd_dvd_left _ _);have g:=gcd_ok (wd (iv n).natAbs) d (lim_wd _) hd.2 zn hd.1;rw[nv_wd]at g;have e1:=dexact_ok (wd (iv n).natAbs) (wd (Nat.gcd (iv n).natAbs (nv d))) (lim_wd _) (lim_wd _) zn hgd (by rw[nv_wd];omega);rw[nv_wd,nv_wd,if_pos (Nat.mod_eq_zero_of_dvd (Nat.gcd_dvd_left _ _)),if_pos (Nat.mod_eq_zero_of_dvd (Nat.gcd_dvd_left _ _))]at e1;have e2:=dexact_ok d (wd (Nat.gcd (iv n).natAbs (nv d))) hd.2 (lim_wd _) hd.1 hgd (by rw[nv_wd];omega);rw[nv_wd,if_pos (Nat.mod_eq_zero_of_dvd (Nat.gcd_dvd_right _ _)),if_pos (Nat.mod_eq_zero_of_dvd (Nat.gcd_dvd_right _ _))]at e2;have e3:=znat_ok (decide (iv n<0)) ((iv n).natAbs/Nat.gcd (iv n).natAbs (nv d)) (Nat.le_trans (wd_len_mono (Nat.div_le_self _ _)) (Nat.le_trans zn (by omega)));rw[sg_over _ _ h1 (by omega)]at e3;refine AC.by_walk (rs:=[.cell 4 31]) ords Tryz.func67 (by rfl) (by rfl) (by rfl) (by rfl) (by rfl) ?_;simp (disch:=omega) only[wt,seval,reduceCtorEq,Nat.reduceEqDiff,rqs];refine call_by ((znorm_ok n (hn.mono (by omega)))) (by rfl) (by simp) ?_;simp (disch:=omega) only[wt,seval,reduceCtorEq,Nat.reduceEqDiff,rqs];refine call_by (g) (by rfl) (by simp) ?_;simp (disch:=omega) only[wt,seval,reduceCtorEq,Nat.reduceEqDiff,rqs];refine call_by (e1) (by rfl) (by simp) ?_;simp (disch:=omega) only[wt,seval,reduceCtorEq,Nat.reduceEqDiff,rqs];refine call_by (e2) (by rfl) (by simp) ?_;simp (disch:=omega) only[wt,seval,reduceCtorEq,Nat.reduceEqDiff,rqs];refine call_by (e3) (by rfl) (by simp) ?_;simp (disch:=omega) only[wt,seval,reduceCtorEq,Nat.reduceEqDiff,rqs];rfl
theorem rR_ok (n:RI)(d:List Nat)(hn:Sz (2^38) n)(hd:Nt (2^38) d)(h0:nv d≠0):AC Tryz.prog 45 [cr n,cl d] none [cqz (mkRat (iv n) (nv d))]:=by
 rw[show cqz (mkRat (iv n) (nv d))=cqq (rq (iv n) (nv d)) by rw[rq_crat h0]];have zn:=zl_iv hn;have hgp:0<Nat.gcd (iv n).natAbs (nv d):=Nat.gcd_pos_of_pos_right _ (by omega);have hgd:(wd (Nat.gcd (iv n).natAbs (nv d))).length<=2^38:=Nat.le_trans (wd_len_mono (Nat.gcd_le_right _ (by omega))) (Nat.le_trans (nv_len hd.2) hd.1);have h1:((Nat.gcd (iv n).natAbs (nv d):Nat):Int)∣iv n:=Int.ofNat_dvd_left.mpr (Nat.gcd_dvd_left _ _);have i1:=rI_ok n.1 n.2 hn.2 (Nat.le_trans hn.1 (by omega));rw[<-iv_sg]at i1;have g:=rGcd_ok (wd (iv n).natAbs) d (lim_wd _) hd.2 zn hd.1;rw[nv_wd]at g;have e1:=rQuo_ok (wd (iv n).natAbs) (wd (Nat.gcd (iv n).natAbs (nv d))) (lim_wd _) (lim_wd _) zn hgd (by rw[nv_wd];omega);rw[nv_wd,nv_wd]at e1;have e2:=rQuo_ok d (wd (Nat.gcd (iv n).natAbs (nv d))) hd.2 (lim_wd _) hd.1 hgd (by rw[nv_wd];omega);rw[nv_wd]at e2;have e3:=rI_ok (decide (iv n<0)) (wd ((iv n).natAbs/Nat.gcd (iv n).natAbs (nv d))) (lim_wd _) (Nat.le_trans (wd_len_mono (Nat.div_le_self _ _)) (Nat.le_trans zn (by omega)));rw[nv_wd,sg_over _ _ h1 (by omega)]at e3;refine AC.by_walk (rs:=[.cell 4 31]) ords Tryz.func45 (by rfl) (by rfl) (by rfl) (by rfl) (by rfl) ?_;simp (disch:=omega) only[wt,seval,reduceCtorEq,Nat.reduceEqDiff,rqs];refine call_by (i1) (by rfl) (by simp) ?_;simp (disch:=omega) only[wt,seval,reduceCtorEq,Nat.reduceEqDiff,rqs];refine call_by (g) (by rfl) (by simp) ?_;simp (disch:=omega) only[wt,seval,reduceCtorEq,Nat.reduceEqDiff,rqs];refine call_by (e1) (by rfl) (by simp) ?_;simp (disch:=omega) only[wt,seval,reduceCtorEq,Nat.reduceEqDiff,rqs];refine call_by (e2) (by rfl) (by simp) ?_;simp (disch:=omega) only[wt,seval,reduceCtorEq,Nat.reduceEqDiff,rqs];refine call_by (e3) (by rfl) (by simp) ?_;simp (disch:=omega) only[wt,seval,reduceCtorEq,Nat.reduceEqDiff,rqs];rfl
theorem qv_eq (r:RQ):qv r=(iv r.1:Rat)/(nv r.2:Rat):=Rat.mkRat_eq_div _ _
theorem mk_add {r s:RQ}(hr:nv r.2≠0)(hs:nv s.2≠0):mkRat (iv r.1*nv s.2+iv s.1*nv r.2) (nv r.2*nv s.2)=qv r+qv s:=(Rat.mkRat_add_mkRat _ _ hr hs).symm
theorem mk_mul (r s:RQ):mkRat (iv r.1*iv s.1) (nv r.2*nv s.2)=qv r*qv s:=(Rat.mkRat_mul_mkRat _ _ _ _).symm
theorem crat_int (n:Int):crat (n:Rat)=(canon n,[1]):=by
 unfold crat;rw[Rat.num_intCast,Rat.den_intCast];have:wd 1=[1]:=by decide +kernel
 rw[this]
theorem nv_crat0 (q:Rat):nv (crat q).2≠0:=den_crat q
theorem SzQ.mono {j k:Nat}{r:RQ}(h:SzQ j r)(hk:j<=k):SzQ k r:=⟨h.1.mono hk,Nat.le_trans h.2.1 hk,h.2.2⟩
theorem szq_crat {q:Rat}{k:Nat}(h:qz q<=k):SzQ k (crat q):=(sz_crat q).mono h
theorem znatl_ok (s:Bool)(l:List Nat)(h:Lim l)(hl:l.length<=2^40):AC Tryz.prog 55 [cb s,cl l] none [cz (sg s (nv l))]:=by
 refine AC.by_walk (rs:=[.cell 4 29]) ords Tryz.func55 (by rfl) (by rfl) (by rfl) (by rfl) (by rfl) ?_;simp (disch:=omega) only[wt,seval,reduceCtorEq,Nat.reduceEqDiff,rqs];have m:=znorm_ok (s,l) ⟨hl,h⟩;rw[iv_sg]at m;refine call_by (m) (by rfl) (by simp) ?_;simp (disch:=omega) only[wt,seval,reduceCtorEq,Nat.reduceEqDiff,rqs]
theorem nt_zl {l:List Nat}{k:Nat}(h:Nt k l):zl ((nv l:Nat):Int)<=k:=Nat.le_trans (nv_len h.2) h.1
theorem sgf (n:Nat):sg false n=(n:Int):=rfl
theorem qtimes_ok (a:RI)(d:List Nat)(ha:Sz (2^36) a)(hd:Nt (2^36) d):AC Tryz.prog 71 [cr a,cl d] none [cz (iv a*nv d)]:=by
 have m:=znatl_ok false d hd.2 (Nat.le_trans hd.1 (by omega));rw[sgf]at m;have n:=zmul_ok a (canon (nv d)) ha ((sz_canon _).mono (nt_zl hd));rw[iv_canon]at n;refine AC.by_walk (rs:=[.cell 4 29]) ords Tryz.func71 (by rfl) (by rfl) (by rfl) (by rfl) (by rfl) ?_;simp (disch:=omega) only[wt,seval,reduceCtorEq,Nat.reduceEqDiff,rqs];refine .inl ⟨tmps_by (by kernel_rfl),?_⟩;refine call_by (m) (by rfl) (by simp) ?_;simp (disch:=omega) only[wt,seval,reduceCtorEq,Nat.reduceEqDiff,rqs];refine call_by (n) (by rfl) (by simp) ?_;simp (disch:=omega) only[wt,seval,reduceCtorEq,Nat.reduceEqDiff,rqs]
 first|exact log_by (by kernel_rfl)|refine⟨log_by (by kernel_rfl),?_⟩
 try rfl
theorem qchecks_two (a b:RQ)(ha:SzQ (2^36) a)(hb:SzQ (2^36) b)(h0:nv a.2≠0)(h1:nv b.2≠0):AC Tryz.prog 66 [cqw [a,b]] none [ci 0] :=
 qchecks_gen [a,b] 0 (by simp) (λr hr=>by
  simp only[List.mem_cons,List.not_mem_nil,or_false]at hr;rcases hr with rfl|rfl
  .exact⟨Nat.le_trans ha.2.1 (by omega),ha.2.2⟩
  .exact⟨Nat.le_trans hb.2.1 (by omega),hb.2.2⟩) (λ_=>rfl) (λh=>(h λr hr=>by
   simp only[List.mem_cons,List.not_mem_nil,or_false]at hr;rcases hr with rfl|rfl
   .exact h0
   .exact h1).elim)
theorem rats_two (a b:RQ):[qrow a,qrow b]=rats [a,b]:=rfl
theorem wd_len2 {a b:Nat}{j k:Nat}(ha:(wd a).length<=j)(hb:(wd b).length<=k):(wd (a*b)).length<=j+k:=Nat.le_trans (AL.wd_mul_len a b) (Nat.add_le_add ha hb)
theorem qadd_ok (a b:RQ)(ha:SzQ (2^35) a)(hb:SzQ (2^35) b)(h0:nv a.2≠0)(h1:nv b.2≠0):AC Tryz.prog 44 [cqq a,cqq b] none [cqz (qv a+qv b),ci 0]:=by
 have c:=qchecks_two a b (ha.mono (by omega)) (hb.mono (by omega)) h0 h1;have t1:=qtimes_ok a.1 b.2 (ha.1.mono (by omega)) ⟨Nat.le_trans hb.2.1 (by omega),hb.2.2⟩;have t2:=qtimes_ok b.1 a.2 (hb.1.mono (by omega)) ⟨Nat.le_trans ha.2.1 (by omega),ha.2.2⟩;have z1:=zl_mul (iv a.1) (nv b.2:Nat);have z2:=zl_mul (iv b.1) (nv a.2:Nat);have y1:=zl_iv ha.1;have y2:=zl_iv hb.1;have y3:=nt_zl ha.2;have y4:=nt_zl hb.2;have z3:=zl_add (iv a.1*(nv b.2:Nat)) (iv b.1*(nv a.2:Nat));have s:=zadd_ok (canon (iv a.1*(nv b.2:Nat))) (canon (iv b.1*(nv a.2:Nat))) ((sz_canon _).mono (by omega)) ((sz_canon _).mono (by omega));rw[iv_canon,iv_canon]at s;have m:=mmul_ok a.2 b.2 ha.2.2 hb.2.2 (Nat.le_trans ha.2.1 (by omega)) (Nat.le_trans hb.2.1 (by omega));have hw:(wd (nv a.2*nv b.2)).length<=2^35+2^35:=wd_len2 y3 y4;have r:=qred_ok (canon (iv a.1*(nv b.2:Nat)+iv b.1*(nv a.2:Nat))) (wd (nv a.2*nv b.2)) ((sz_canon _).mono (by omega)) ⟨by omega,lim_wd _⟩ (by rw[nv_wd];exact Nat.mul_ne_zero h0 h1);rw[iv_canon,nv_wd,mk_add h0 h1]at r;refine AC.by_walk (rs:=[.cell 4 31,.tmp 5]) ords Tryz.func44 (by rfl) (by rfl) (by rfl) (by rfl) (by rfl) ?_;simp (disch:=omega) only[wt,seval,reduceCtorEq,Nat.reduceEqDiff,rqs,rats_two];refine call_by (c) (by first|rfl|(simp only[tocvs,tocv,toboxes,tobox,updH_at,Nat.reduceEqDiff,↓reduceIte,rats_two];rfl)) (by simp) ?_;simp (disch:=omega) only[wt,seval,reduceCtorEq,Nat.reduceEqDiff,rqs,rats_two];refine .inl ⟨tmps_by (by kernel_rfl),?_⟩;refine call_by (t1) (by rfl) (by simp) ?_;simp (disch:=omega) only[wt,seval,reduceCtorEq,Nat.reduceEqDiff,rqs];refine call_by (t2) (by rfl) (by simp) ?_;simp (disch:=omega) only[wt,seval,reduceCtorEq,Nat.reduceEqDiff,rqs];refine call_by (s) (by rfl) (by simp) ?_;simp (disch:=omega) only[wt,seval,reduceCtorEq,Nat.reduceEqDiff,rqs];refine call_by (m) (by rfl) (by simp) ?_;simp (disch:=omega) only[wt,seval,reduceCtorEq,Nat.reduceEqDiff,rqs];refine call_by (r) (by rfl) (by simp) ?_;simp (disch:=omega) only[wt,seval,reduceCtorEq,Nat.reduceEqDiff,rqs]
 first|exact log_by (by kernel_rfl)|refine⟨log_by (by kernel_rfl),?_⟩
 try rfl
theorem qmul_ok (a b:RQ)(ha:SzQ (2^35) a)(hb:SzQ (2^35) b)(h0:nv a.2≠0)(h1:nv b.2≠0):AC Tryz.prog 43 [cqq a,cqq b] none [cqz (qv a*qv b),ci 0]:=by
 have c:=qchecks_two a b (ha.mono (by omega)) (hb.mono (by omega)) h0 h1;have z1:=zl_mul (iv a.1) (iv b.1);have y1:=zl_iv ha.1;have y2:=zl_iv hb.1;have y3:=nt_zl ha.2;have y4:=nt_zl hb.2;have s:=zmul_ok a.1 b.1 (ha.1.mono (by omega)) (hb.1.mono (by omega));have m:=mmul_ok a.2 b.2 ha.2.2 hb.2.2 (Nat.le_trans ha.2.1 (by omega)) (Nat.le_trans hb.2.1 (by omega));have hw:(wd (nv a.2*nv b.2)).length<=2^35+2^35:=wd_len2 y3 y4;have r:=qred_ok (canon (iv a.1*iv b.1)) (wd (nv a.2*nv b.2)) ((sz_canon _).mono (by omega)) ⟨by omega,lim_wd _⟩ (by rw[nv_wd];exact Nat.mul_ne_zero h0 h1);rw[iv_canon,nv_wd,mk_mul]at r;refine AC.by_walk (rs:=[.cell 4 31,.tmp 5]) ords Tryz.func43 (by rfl) (by rfl) (by rfl) (by rfl) (by rfl) ?_;simp (disch:=omega) only[wt,seval,reduceCtorEq,Nat.reduceEqDiff,rqs,rats_two];refine call_by (c) (by first|rfl|(simp only[tocvs,tocv,toboxes,tobox,updH_at,Nat.reduceEqDiff,↓reduceIte,rats_two];rfl)) (by simp) ?_;simp (disch:=omega) only[wt,seval,reduceCtorEq,Nat.reduceEqDiff,rqs,rats_two];refine .inl ⟨tmps_by (by kernel_rfl),?_⟩;refine call_by (s) (by rfl) (by simp) ?_;simp (disch:=omega) only[wt,seval,reduceCtorEq,Nat.reduceEqDiff,rqs];refine call_by (m) (by rfl) (by simp) ?_;simp (disch:=omega) only[wt,seval,reduceCtorEq,Nat.reduceEqDiff,rqs];refine call_by (r) (by rfl) (by simp) ?_;simp (disch:=omega) only[wt,seval,reduceCtorEq,Nat.reduceEqDiff,rqs]
 first|exact log_by (by kernel_rfl)|refine⟨log_by (by kernel_rfl),?_⟩
 try rfl
theorem ewhole_ok (n:Int)(h : -9223372036854775808<=n)(h':n<=9223372036854775807):AC Tryz.prog 42 [ci n] none [cqz (n:Rat)]:=by
 have z:=zOf_ok n h h';rw[show cqz (n:Rat)=cqq (canon n,[1]) from congrArg cqq (crat_int n)];refine AC.by_walk (rs:=[.cell 2 31]) ords Tryz.func42 (by rfl) (by rfl) (by rfl) (by rfl) (by rfl) ?_;simp (disch:=omega) only[wt,seval,reduceCtorEq,Nat.reduceEqDiff,rqs];refine call_by (z) (by rfl) (by simp) ?_;simp (disch:=omega) only[wt,seval,reduceCtorEq,Nat.reduceEqDiff,rqs]
 try rfl
theorem zl_pow {a:Int}{K:Nat}(h:zl a<=K)(i:Nat):zl (a^i)<=i*K+1:=by
 induction i with
 |zero=>rw[Int.pow_zero];have:zl 1<=1:=zl_le.mpr (by decide);omega
 |succ i ih =>
  rw[Int.pow_succ];have:=zl_mul (a^i) a;rw[Nat.succ_mul];omega
theorem zl_pow_b {a:Int}(h:zl a<=2^20){i:Nat}(hi:i<=2^10):zl (a^i)<=2^31:=by
 have h1:=zl_pow h i;have h2:i*2^20<=2^10*2^20:=Nat.mul_le_mul_right _ hi;have h3:(2^10*2^20:Nat)=2^30:=by decide
 omega
def ev:List Int->Int->Int
 |[],_=>0
 |c::p,t=>c+t*ev p t
def ihom:List Int->Int->Int->Int
 |[],_,_=>0
 |c::p,a,b=>c*b^p.length+a*ihom p a b
theorem zl_ihom {K k:Nat}{a b:Int}(ha:zl a<=k)(hb:zl b<=k):∀{p:List Int},(∀z∈p,zl z<=K)->zl (ihom p a b)<=K+p.length*(k+1)+1
 |[],_=>by rw[ihom,zl_zero];omega
 |c::p,h=>by
  have ih:=zl_ihom (p:=p) ha hb λz hz=>h z (List.mem_cons_of_mem _ hz)
  have h1:=zl_add (c*b^p.length) (a*ihom p a b);have h2:=zl_mul a (ihom p a b);have h3:=h c (by simp);have h4:=zl_mul c (b^p.length);have h5:=zl_pow hb p.length;rw[ihom,List.length_cons,Nat.succ_mul];rw[Nat.mul_succ]at ih ⊢;omega
theorem drop_cf (q:List Int){i:Nat}(h:i<q.length):q.drop i=cf q i::q.drop (i+1):=by
 rw[List.drop_eq_getElem_cons h];simp[cf,List.getD,h]
theorem zl_w {x:Int}(h:x.natAbs<W):zl x<=1:=zl_le.mpr (by rwa [Nat.pow_one])
theorem wd_w {d:Nat}(h:d<W):(wd d).length<=1:=wd_len_le.mpr (by rwa [Nat.pow_one])
theorem hok_ok (r:RQ)(h:Nt (2^40) r.2):AC Tryz.prog 37 [cqq r] none [cb (decide (nv r.2≠0))]:=by
 have z:=rZero_ok r.2 h.2 h.1;refine AC.by_walk (rs:=[.tmp 2]) ords Tryz.func37 (by rfl) (by rfl) (by rfl) (by rfl) (by rfl) ?_;simp (disch:=omega) only[wt,seval,reduceCtorEq,Nat.reduceEqDiff,rqs];refine call_by (z) (by rfl) (by simp) ?_;simp (disch:=omega) only[wt,seval,reduceCtorEq,Nat.reduceEqDiff,rqs]
 try rfl
 try simp
theorem hS_ok (r:RQ)(h:Sz (2^40) r.1):AC Tryz.prog 26 [cqq r] none [ci (iv r.1).sign]:=by
 have z:=rSign_ok r.1 h;refine AC.by_walk (rs:=[.tmp 2]) ords Tryz.func26 (by rfl) (by rfl) (by rfl) (by rfl) (by rfl) ?_;simp (disch:=omega) only[wt,seval,reduceCtorEq,Nat.reduceEqDiff,rqs];refine call_by (z) (by rfl) (by simp) ?_;simp (disch:=omega) only[wt,seval,reduceCtorEq,Nat.reduceEqDiff,rqs]
 try rfl
theorem hZ_ok (n:RI)(h:Sz (2^38) n):AC Tryz.prog 38 [cr n] none [cqz (iv n:Rat)]:=by
 have w:=rword_ok 1 (by omega);have hw:(wd 1).length<=2^38:=by decide +kernel
 have r:=rR_ok n (wd 1) h ⟨hw,lim_wd _⟩ (by rw[nv_wd];omega);rw[nv_wd,Rat.mkRat_one]at r;refine AC.by_walk (rs:=[.cell 2 31]) ords Tryz.func38 (by rfl) (by rfl) (by rfl) (by rfl) (by rfl) ?_;simp (disch:=omega) only[wt,seval,reduceCtorEq,Nat.reduceEqDiff,rqs];refine .inl ⟨tmps_by (by kernel_rfl),?_⟩;refine call_by (w) (by rfl) (by simp) ?_;simp (disch:=omega) only[wt,seval,reduceCtorEq,Nat.reduceEqDiff,rqs];refine call_by (r) (by rfl) (by simp) ?_;simp (disch:=omega) only[wt,seval,reduceCtorEq,Nat.reduceEqDiff,rqs]
 first|exact log_by (by kernel_rfl)|refine⟨log_by (by kernel_rfl),?_⟩
 try rfl
theorem hP_ok (n:Int)(d:Nat)(h : -9223372036854775808<n)(h':n<9223372036854775808)(hd:d<9223372036854775808)(h0:d≠0):AC Tryz.prog 20 [ci n,ci d] none [cqz ((n:Rat)/(d:Rat))]:=by
 have z:=rZ_ok n h h';have w:=rword_ok d hd;have hz:zl n<=2^38:=Nat.le_trans (zl_w (by simp only[W];omega)) (by omega);have hw:(wd d).length<=2^38:=Nat.le_trans (wd_w (by simp only[W];omega)) (by omega);have r:=rR_ok (canon n) (wd d) ((sz_canon _).mono hz) ⟨hw,lim_wd _⟩ (by rw[nv_wd];exact h0);rw[iv_canon,nv_wd,Rat.mkRat_eq_div]at r;refine AC.by_walk (rs:=[.cell 4 31]) ords Tryz.func20 (by rfl) (by rfl) (by rfl) (by rfl) (by rfl) ?_;simp (disch:=omega) only[wt,seval,reduceCtorEq,Nat.reduceEqDiff,rqs];refine call_by (z) (by rfl) (by simp) ?_;simp (disch:=omega) only[wt,seval,reduceCtorEq,Nat.reduceEqDiff,rqs];refine call_by (w) (by rfl) (by simp) ?_;simp (disch:=omega) only[wt,seval,reduceCtorEq,Nat.reduceEqDiff,rqs];refine call_by (r) (by rfl) (by simp) ?_;simp (disch:=omega) only[wt,seval,reduceCtorEq,Nat.reduceEqDiff,rqs]
 try rfl
theorem hplus_ok (a b:RQ)(ha:SzQ (2^35) a)(hb:SzQ (2^35) b)(h0:nv a.2≠0)(h1:nv b.2≠0):AC Tryz.prog 78 [cqq a,cqq b] none [cqz (qv a+qv b)]:=by
 have z1:=zl_mul (iv a.1) (nv b.2:Nat);have z2:=zl_mul (iv b.1) (nv a.2:Nat);have y1:=zl_iv ha.1;have y2:=zl_iv hb.1;have y3:=nt_zl ha.2;have y4:=nt_zl hb.2;have i1:=rI_ok false b.2 hb.2.2 (Nat.le_trans hb.2.1 (by omega));have i2:=rI_ok false a.2 ha.2.2 (Nat.le_trans ha.2.1 (by omega));rw[sgf]at i1 i2;have t1:=rMul_ok a.1 (canon (nv b.2:Nat)) (ha.1.mono (by omega)) ((sz_canon _).mono (by omega));have t2:=rMul_ok b.1 (canon (nv a.2:Nat)) (hb.1.mono (by omega)) ((sz_canon _).mono (by omega));rw[iv_canon]at t1 t2;have z3:=zl_add (iv a.1*(nv b.2:Nat)) (iv b.1*(nv a.2:Nat));have s:=rAdd_ok (canon (iv a.1*(nv b.2:Nat))) (canon (iv b.1*(nv a.2:Nat))) ((sz_canon _).mono (by omega)) ((sz_canon _).mono (by omega));rw[iv_canon,iv_canon]at s;have m:=rTimes_ok a.2 b.2 ha.2.2 hb.2.2 (Nat.le_trans ha.2.1 (by omega)) (Nat.le_trans hb.2.1 (by omega));have hw:(wd (nv a.2*nv b.2)).length<=2^35+2^35:=wd_len2 y3 y4;have r:=rR_ok (canon (iv a.1*(nv b.2:Nat)+iv b.1*(nv a.2:Nat))) (wd (nv a.2*nv b.2)) ((sz_canon _).mono (by omega)) ⟨by omega,lim_wd _⟩ (by rw[nv_wd];exact Nat.mul_ne_zero h0 h1);rw[iv_canon,nv_wd,mk_add h0 h1]at r;refine AC.by_walk (rs:=[.cell 4 31]) ords Tryz.func78 (by rfl) (by rfl) (by rfl) (by rfl) (by rfl) ?_;simp (disch:=omega) only[wt,seval,reduceCtorEq,Nat.reduceEqDiff,rqs];refine .inl ⟨tmps_by (by kernel_rfl),?_⟩;refine call_by (i1) (by rfl) (by simp) ?_;simp (disch:=omega) only[wt,seval,reduceCtorEq,Nat.reduceEqDiff,rqs];refine call_by (t1) (by rfl) (by simp) ?_;simp (disch:=omega) only[wt,seval,reduceCtorEq,Nat.reduceEqDiff,rqs];refine call_by (i2) (by rfl) (by simp) ?_;simp (disch:=omega) only[wt,seval,reduceCtorEq,Nat.reduceEqDiff,rqs];refine call_by (t2) (by rfl) (by simp) ?_;simp (disch:=omega) only[wt,seval,reduceCtorEq,Nat.reduceEqDiff,rqs];refine call_by (s) (by rfl) (by simp) ?_;simp (disch:=omega) only[wt,seval,reduceCtorEq,Nat.reduceEqDiff,rqs];refine call_by (m) (by rfl) (by simp) ?_;simp (disch:=omega) only[wt,seval,reduceCtorEq,Nat.reduceEqDiff,rqs];refine call_by (r) (by rfl) (by simp) ?_;simp (disch:=omega) only[wt,seval,reduceCtorEq,Nat.reduceEqDiff,rqs]
 first|exact log_by (by kernel_rfl)|refine⟨log_by (by kernel_rfl),?_⟩
 try rfl
theorem htimes_ok (a b:RQ)(ha:SzQ (2^35) a)(hb:SzQ (2^35) b)(h0:nv a.2≠0)(h1:nv b.2≠0):AC Tryz.prog 79 [cqq a,cqq b] none [cqz (qv a*qv b)]:=by
 have z1:=zl_mul (iv a.1) (iv b.1);have y1:=zl_iv ha.1;have y2:=zl_iv hb.1;have y3:=nt_zl ha.2;have y4:=nt_zl hb.2;have s:=rMul_ok a.1 b.1 (ha.1.mono (by omega)) (hb.1.mono (by omega));have m:=rTimes_ok a.2 b.2 ha.2.2 hb.2.2 (Nat.le_trans ha.2.1 (by omega)) (Nat.le_trans hb.2.1 (by omega));have hw:(wd (nv a.2*nv b.2)).length<=2^35+2^35:=wd_len2 y3 y4;have r:=rR_ok (canon (iv a.1*iv b.1)) (wd (nv a.2*nv b.2)) ((sz_canon _).mono (by omega)) ⟨by omega,lim_wd _⟩ (by rw[nv_wd];exact Nat.mul_ne_zero h0 h1);rw[iv_canon,nv_wd,mk_mul]at r;refine AC.by_walk (rs:=[.cell 4 31]) ords Tryz.func79 (by rfl) (by rfl) (by rfl) (by rfl) (by rfl) ?_;simp (disch:=omega) only[wt,seval,reduceCtorEq,Nat.reduceEqDiff,rqs];refine .inl ⟨tmps_by (by kernel_rfl),?_⟩;refine call_by (s) (by rfl) (by simp) ?_;simp (disch:=omega) only[wt,seval,reduceCtorEq,Nat.reduceEqDiff,rqs];refine call_by (m) (by rfl) (by simp) ?_;simp (disch:=omega) only[wt,seval,reduceCtorEq,Nat.reduceEqDiff,rqs];refine call_by (r) (by rfl) (by simp) ?_;simp (disch:=omega) only[wt,seval,reduceCtorEq,Nat.reduceEqDiff,rqs]
 first|exact log_by (by kernel_rfl)|refine⟨log_by (by kernel_rfl),?_⟩
 try rfl
theorem hsame_ok (a b:RQ)(ha:SzQ (2^43) a)(hb:SzQ (2^43) b):AC Tryz.prog 21 [cqq a,cqq b] none [cb (decide (a=b))]:=by
 have s:=rSameInt_ok a.1 b.1 ha.1.1 hb.1.1;have t:=rSame_ok a.2 b.2 ha.2.1 hb.2.1;refine AC.by_walk (rs:=[.tmp 4]) ords Tryz.func21 (by rfl) (by rfl) (by rfl) (by rfl) (by rfl) ?_;simp (disch:=omega) only[wt,seval,reduceCtorEq,Nat.reduceEqDiff,rqs];refine call_by (s) (by rfl) (by simp) ?_;simp (disch:=omega) only[wt,seval,reduceCtorEq,Nat.reduceEqDiff,rqs];by_cases h1:a.1=b.1
 .simp (disch:=omega) only[wt,seval,reduceCtorEq,Nat.reduceEqDiff,rqs,h1];by_cases h2:a.2=b.2
  .have e:a=b:=Prod.ext h1 h2;subst e;refine call_by (t) (by rfl) (by simp) ?_;simp (disch:=omega) only[wt,seval,reduceCtorEq,Nat.reduceEqDiff,rqs]
   try rfl
  .have e:¬a=b:=λh=>h2 (by rw[h])
   refine call_by (t) (by first|rfl|(simp only[tocvs,tocv,toboxes,tobox,updH_at,Nat.reduceEqDiff,↓reduceIte,h1,h2,e];rfl)) (by simp) ?_;simp (disch:=omega) only[wt,seval,reduceCtorEq,Nat.reduceEqDiff,rqs,h1,h2,e]
   try rfl
 .have e:¬a=b:=λh=>h1 (by rw[h])
  simp (disch:=omega) only[wt,seval,reduceCtorEq,Nat.reduceEqDiff,rqs,h1,e]
  try rfl
def BQ (n k:Nat)(p:List RQ):Prop:=p.length<=n/\∀r∈p,SzQ k r
def GQ (n k:Nat)(p:List RQ):Prop:=p.length<=n/\∀r∈p,SzQ k r/\nv r.2≠0
def QB (n k:Nat)(q:List Rat):Prop:=q.length<=n/\∀c∈q,qz c<=k
def gd (p:List RQ):Bool:=p.all λr=>decide (nv r.2≠0)
theorem getq_mem {p:List RQ}{i:Nat}(h:i<p.length):p.getD i q0∈p:=by rw[List.getD,List.getElem?_eq_getElem h,Option.getD_some];exact List.getElem_mem h
theorem BQ.get {n k i:Nat}{p:List RQ}(h:BQ n k p)(hi:i<p.length):SzQ k (p.getD i q0):=h.2 _ (getq_mem hi)
theorem GQ.get {n k i:Nat}{p:List RQ}(h:GQ n k p)(hi:i<p.length):SzQ k (p.getD i q0):=(h.2 _ (getq_mem hi)).1
theorem GQ.den {n k i:Nat}{p:List RQ}(h:GQ n k p)(hi:i<p.length):nv (p.getD i q0).2≠0:=(h.2 _ (getq_mem hi)).2
theorem GQ.bq {n k:Nat}{p:List RQ}(h:GQ n k p):BQ n k p:=⟨h.1,λr hr=>(h.2 r hr).1⟩
theorem gd_iff {p:List RQ}:gd p=true↔∀r∈p,nv r.2≠0:=by simp[gd]
theorem GQ.gd {n k:Nat}{p:List RQ}(h:GQ n k p):gd p=true:=gd_iff.mpr λr hr=>(h.2 r hr).2
theorem BQ.gq {n k:Nat}{p:List RQ}(h:BQ n k p)(g:gd p=true):GQ n k p:=⟨h.1,λr hr=>⟨h.2 r hr,gd_iff.mp g r hr⟩⟩
theorem BQ.mono {n k n' k':Nat}{p:List RQ}(h:BQ n k p)(hn:n<=n')(hk:k<=k'):BQ n' k' p:=⟨Nat.le_trans h.1 hn,λr hr=>(h.2 r hr).mono hk⟩
theorem GQ.mono {n k n' k':Nat}{p:List RQ}(h:GQ n k p)(hn:n<=n')(hk:k<=k'):GQ n' k' p:=⟨Nat.le_trans h.1 hn,λr hr=>⟨(h.2 r hr).1.mono hk,(h.2 r hr).2⟩⟩
theorem QB.mono {n k n' k':Nat}{q:List Rat}(h:QB n k q)(hn:n<=n')(hk:k<=k'):QB n' k' q:=⟨Nat.le_trans h.1 hn,λr hr=>Nat.le_trans (h.2 r hr) hk⟩
theorem cfq_qvs (p:List RQ)(i:Nat):cfq (qvs p) i=qv (p.getD i q0):=by
 unfold cfq qvs;rw[List.getD_eq_getElem?_getD,List.getD_eq_getElem?_getD,List.getElem?_map];cases p[i]? with
 |none=>decide +kernel
 |some x=>rfl
theorem GQ.qb {n k:Nat}{p:List RQ}(h:GQ n k p):QB n k (qvs p):=⟨by rw[qvs_len];exact h.1,λc hc=>by
 obtain⟨r,hr,rfl⟩:=List.mem_map.1 hc;exact qz_raw (h.2 r hr).1 (h.2 r hr).2⟩
theorem QB.gq {n k:Nat}{q:List Rat}(h:QB n k q):GQ n k (q.map crat):=⟨by rw[List.length_map];exact h.1,λr hr=>by
 obtain⟨c,hc,rfl⟩:=List.mem_map.1 hr;exact⟨szq_crat (h.2 c hc),nv_crat0 c⟩⟩
theorem QB.trimq {n k:Nat}{q:List Rat}(h:QB n k q):QB n k (trimq q):=⟨Nat.le_trans (by rw[trimq_len];exact tzq_le q) h.1,λc hc=>h.2 c (List.mem_of_mem_take hc)⟩
theorem QB.gqs {n k:Nat}{q:List Rat}(h:QB n k q):GQ n k (cqs q):=h.trimq.gq
theorem QB.cz {n k:Nat}{q:List Rat}(h:QB n k q)(hk:1<=k)(i:Nat):qz (cfq q i)<=k:=by
 unfold cfq;rw[List.getD_eq_getElem?_getD];cases hi:q[i]? with
 |none=>rw[Option.getD_none,qz_zero];exact hk
 |some x=>exact h.2 x (List.mem_of_getElem? hi)
theorem QB.of {n k:Nat}{q:List Rat}(hl:q.length<=n)(h:∀i,qz (cfq q i)<=k):QB n k q:=⟨hl,λc hc=>by
 obtain⟨i,hi,rfl⟩:=List.getElem_of_mem hc;have:=h i;rwa [cfq_lt hi]at this⟩
theorem qv_zero {r:RQ}(h:nv r.2≠0):qv r=0↔iv r.1=0:=Rat.mkRat_eq_zero h
theorem takeq_snoc {q:List Rat}{i:Nat}(h:i<q.length):q.take (i+1)=q.take i++[cfq q i]:=by
 rw[List.take_add_one]
 congr 1
 simp[cfq,List.getD,h]
theorem cratq_len (q:List Rat):(q.map crat).length=q.length:=List.length_map _
theorem cqs_len (q:List Rat):(cqs q).length=tzq q:=by rw[cqs,cratq_len,trimq_len]
theorem qvs_cqs (q:List Rat):qvs (cqs q)=trimq q:=qvs_map _
def qp (p:List Int):List Rat:=p.map λz:Int=>(z:Rat)
theorem cfq_qp (p:List Int)(k:Nat):cfq (qp p) k=(cf p k:Rat):=by
 unfold cfq qp cf;rw[List.getD_eq_getElem?_getD,List.getD_eq_getElem?_getD,List.getElem?_map];cases p[k]?<;>rfl
theorem qz_int (z:Int):qz (z:Rat)<=max (zl z) 1:=by
 unfold qz;rw[Rat.num_intCast,Rat.den_intCast];have:(wd 1).length=1:=by decide +kernel
 omega
theorem PB.ofZ {n k:Nat}{p:List Int}(h:PB n k p)(hk:1<=k):QB n k (qp p):=⟨by simp[qp];exact h.1,λc hc=>by
 obtain⟨z,hz,rfl⟩:=List.mem_map.1 hc;have:=h.2 z hz;have:=qz_int z;omega⟩
theorem hnormq_ok (p:List RQ)(h:GQ (2^40) (2^38) p):AC Tryz.prog 39 [cqw p] none [cqp (qvs p)]:=by
 refine AC.by_walk (rs:=[.tmp 2]) ords Tryz.func39 (by rfl) (by rfl) (by rfl) (by rfl) (by rfl) ?_;have hl:=h.1;have htl:=tzq_le (qvs p);rw[qvs_len]at htl;simp (disch:=omega) only[wt,seval,reduceCtorEq,Nat.reduceEqDiff,rqs];refine aloop_by (λf H=>∃k:Nat,k<=p.length/\f 0=.iv (.sl (rats p))/\f 3=.iv (.int .i64 k)/\tzq ((qvs p).take k)=tzq (qvs p)) (λf H=>(intAt f 3).toNat) ?_ ?_
 .exact⟨p.length,Nat.le_refl _,by simp (disch:=omega) only[wt,seval,reduceCtorEq,Nat.reduceEqDiff,rqs],by simp (disch:=omega) only[wt,seval,reduceCtorEq,Nat.reduceEqDiff,rqs],by rw[<-qvs_len p,List.take_length]⟩
 rintro f H ⟨k,hk,h0,h3,ht⟩;rw[intAt_of h3];by_cases hc:0<(k:Int)
 .simp (disch:=omega) only[wt,seval,reduceCtorEq,Nat.reduceEqDiff,rqs,h0,h3,hc];have ek:((k:Int)-1).toNat=k-1:=by omega
  have ek':k=(k-1)+1:=by omega
  rw[ek];have hr:=h.get (i:=k-1) (by omega);refine call_by ((hS_ok (p.getD (k-1) q0) (hr.1.mono (by omega)))) (by first|rfl|(simp only[tocvs,tocv,toboxes,tobox,updH_at,Nat.reduceEqDiff,↓reduceIte,h0,h3,hc];rfl)) (by simp) ?_;simp (disch:=omega) only[wt,seval,reduceCtorEq,Nat.reduceEqDiff,rqs,h0,h3,hc];have hz':(iv (p.getD (k-1) q0).1).sign=0↔cfq (qvs p) (k-1)=0:=by rw[cfq_qvs,qv_zero (h.den (by omega))];exact Int.sign_eq_zero_iff_zero
  refine if_by (λhz=>?_) (λhz=>?_)
  .simp (disch:=omega) only[wt,seval,reduceCtorEq,Nat.reduceEqDiff,rqs,h0,h3];refine⟨⟨k-1,by omega,by omega,?_⟩,by omega⟩;rw[<-tzq_take_zero (k:=k-1) (by rw[qvs_len];omega) (hz'.mp hz),<-ek',ht]
  .have hk:k=tzq (qvs p):=by
    have:=tzq_full (q:=qvs p) (k:=k-1) (by rw[qvs_len];omega) (λe=>hz (hz'.mpr e));rw[<-ek',ht]at this;exact this.symm
   simp (disch:=omega) only[wt,seval,reduceCtorEq,Nat.reduceEqDiff,rqs,h0,h3];subst hk;refine aloop_nil 4 4 31 3 (by simp (disch:=omega) only[wt,seval,reduceCtorEq,Nat.reduceEqDiff,rqs]) (λf H=>∃(i st:Nat),i<=tzq (qvs p)/\f 5=.iv (.int .i64 i)/\f 0=.iv (.sl (rats p))/\f 3=.iv (.int .i64 (tzq (qvs p)))/\f 4=.hs 4 st/\H 4=.blk false st 31 3 (rats (((qvs p).take i).map crat))) (λf H=>(tzq (qvs p)-intAt f 5).toNat) ?_ ?_
   .refine⟨0,(H 4).stamp+1,by omega,?_⟩;simp (disch:=omega) only[wt,seval,reduceCtorEq,Nat.reduceEqDiff,rqs,ghostF,ghostH,List.take_zero,List.map_nil,h0,h3]
   rintro f H ⟨i,st,hi,hF⟩;rw[intAt_of hF.1];simp (disch:=omega) only[wt,seval,reduceCtorEq,Nat.reduceEqDiff,rqs,hF];refine if_by (λhlt=>?_) (λhlt=>?_)
   .have hq:(((qvs p).take i).map crat).length=i:=by rw[List.length_map,List.length_take,qvs_len];omega
    have hr:=h.get (i:=i) (by omega);have m:=rR_ok (p.getD i q0).1 (p.getD i q0).2 hr.1 hr.2 (h.den (by omega));rw[show mkRat (iv (p.getD i q0).1) (nv (p.getD i q0).2)=cfq (qvs p) i from (cfq_qvs p i).symm]at m;simp (disch:=omega) only[wt,seval,reduceCtorEq,Nat.reduceEqDiff,rqs,hF,hq];refine .inl ⟨tmps_by (by kernel_rfl),?_⟩;refine call_by (m) (by first|rfl|(simp only[tocvs,tocv,toboxes,tobox,updH_at,Nat.reduceEqDiff,↓reduceIte,hF,hq];rfl)) (by simp) ?_;simp (disch:=omega) only[wt,seval,reduceCtorEq,Nat.reduceEqDiff,rqs,hF,hq]
    first|exact log_by (by kernel_rfl)|refine⟨log_by (by kernel_rfl),?_⟩
    have e:=takeq_snoc (q:=qvs p) (i:=i) (by rw[qvs_len];omega);refine⟨⟨i+1,st+1,by omega,?_⟩,by omega⟩;rw[e,List.map_append];exact⟨by omega,rfl,rfl⟩
   .simp (disch:=omega) only[wt,seval,reduceCtorEq,Nat.reduceEqDiff,rqs,hF];have ei:i=tzq (qvs p):=by omega
    rw[ei]
    try rfl
 .have hk:k=tzq (qvs p):=by
   obtain rfl:k=0:=by omega
   rw[<-ht];rfl
  simp (disch:=omega) only[wt,seval,reduceCtorEq,Nat.reduceEqDiff,rqs,h0,h3,hc];subst hk;refine aloop_nil 4 4 31 3 (by simp (disch:=omega) only[wt,seval,reduceCtorEq,Nat.reduceEqDiff,rqs]) (λf H=>∃(i st:Nat),i<=tzq (qvs p)/\f 5=.iv (.int .i64 i)/\f 0=.iv (.sl (rats p))/\f 3=.iv (.int .i64 (tzq (qvs p)))/\f 4=.hs 4 st/\H 4=.blk false st 31 3 (rats (((qvs p).take i).map crat))) (λf H=>(tzq (qvs p)-intAt f 5).toNat) ?_ ?_
  .refine⟨0,(H 4).stamp+1,by omega,?_⟩;simp (disch:=omega) only[wt,seval,reduceCtorEq,Nat.reduceEqDiff,rqs,ghostF,ghostH,List.take_zero,List.map_nil,h0,h3]
  rintro f H ⟨i,st,hi,hF⟩;rw[intAt_of hF.1];simp (disch:=omega) only[wt,seval,reduceCtorEq,Nat.reduceEqDiff,rqs,hF];refine if_by (λhlt=>?_) (λhlt=>?_)
  .have hq:(((qvs p).take i).map crat).length=i:=by rw[List.length_map,List.length_take,qvs_len];omega
   have hr:=h.get (i:=i) (by omega);have m:=rR_ok (p.getD i q0).1 (p.getD i q0).2 hr.1 hr.2 (h.den (by omega));rw[show mkRat (iv (p.getD i q0).1) (nv (p.getD i q0).2)=cfq (qvs p) i from (cfq_qvs p i).symm]at m;simp (disch:=omega) only[wt,seval,reduceCtorEq,Nat.reduceEqDiff,rqs,hF,hq];refine .inl ⟨tmps_by (by kernel_rfl),?_⟩;refine call_by (m) (by first|rfl|(simp only[tocvs,tocv,toboxes,tobox,updH_at,Nat.reduceEqDiff,↓reduceIte,hF,hq];rfl)) (by simp) ?_;simp (disch:=omega) only[wt,seval,reduceCtorEq,Nat.reduceEqDiff,rqs,hF,hq]
   first|exact log_by (by kernel_rfl)|refine⟨log_by (by kernel_rfl),?_⟩
   have e:=takeq_snoc (q:=qvs p) (i:=i) (by rw[qvs_len];omega);refine⟨⟨i+1,st+1,by omega,?_⟩,by omega⟩;rw[e,List.map_append];exact⟨by omega,rfl,rfl⟩
  .simp (disch:=omega) only[wt,seval,reduceCtorEq,Nat.reduceEqDiff,rqs,hF];have ei:i=tzq (qvs p):=by omega
   rw[ei]
   try rfl
theorem hgood_ok (l:List RQ)(h:BQ (2^40) (2^38) l):AC Tryz.prog 51 [cqw l] none [cb (gd l)]:=by
 refine AC.by_walk (rs:=[.tmp 2]) ords Tryz.func51 (by rfl) (by rfl) (by rfl) (by rfl) (by rfl) ?_;have hl:=h.1;simp (disch:=omega) only[wt,seval,reduceCtorEq,Nat.reduceEqDiff,rqs];refine aloop_by (λf H=>∃(i:Nat),i<=l.length/\(∀j,j<i->nv (l.getD j q0).2≠0)/\f 3=.iv (.int .i64 i)/\f 0=.iv (.sl (rats l))) (λf H=>(l.length-intAt f 3).toNat) ?_ ?_
 .refine⟨0,by omega,λj hj=>by omega,?_⟩;simp (disch:=omega) only[wt,seval,reduceCtorEq,Nat.reduceEqDiff,rqs]
 rintro f H ⟨i,hi,hz,hF⟩;rw[intAt_of hF.1];simp (disch:=omega) only[wt,seval,reduceCtorEq,Nat.reduceEqDiff,rqs,hF];refine if_by (λhlt=>?_) (λhlt=>?_)
 .have hr:=h.get (i:=i) (by omega);simp (disch:=omega) only[wt,seval,reduceCtorEq,Nat.reduceEqDiff,rqs,hF];refine call_by ((hok_ok (l.getD i q0) ⟨Nat.le_trans hr.2.1 (by omega),hr.2.2⟩)) (by first|rfl|(simp only[tocvs,tocv,toboxes,tobox,updH_at,Nat.reduceEqDiff,↓reduceIte,hF];rfl)) (by simp) ?_;simp (disch:=omega) only[wt,seval,reduceCtorEq,Nat.reduceEqDiff,rqs,hF];by_cases h0:nv (l.getD i q0).2=0
  .have hb:gd l=false:=by
    cases hg:gd l with
    |false=>rfl
    |true=>exact(gd_iff.mp hg _ (getq_mem (by omega)) h0).elim
   rw[hb];simp (disch:=omega) only[wt,seval,reduceCtorEq,Nat.reduceEqDiff,rqs,hF,h0,not_true_eq_false,decide_false,Bool.not_false]
  .simp (disch:=omega) only[wt,seval,reduceCtorEq,Nat.reduceEqDiff,rqs,hF,h0,not_false_eq_true,decide_true,Bool.not_true];refine⟨⟨i+1,by omega,λj hj=>?_,by omega⟩,by omega⟩;rcases Nat.lt_or_ge j i with hj'|hj'
   .exact hz j hj'
   .obtain rfl:j=i:=by omega
    exact h0
 .have hg:gd l=true:=gd_iff.mpr λr hr=>by
   obtain⟨j,hj,rfl⟩:=List.getElem_of_mem hr;have:=hz j (by omega);rwa [List.getD,List.getElem?_eq_getElem hj,Option.getD_some]at this
  rw[hg];simp (disch:=omega) only[wt,seval,reduceCtorEq,Nat.reduceEqDiff,rqs,hF]
theorem hoverq_ok (p:List RI)(h:RP (2^40) (2^38) p):AC Tryz.prog 17 [cw p] none [cqp (qp (pv p))]:=by
 refine AC.by_walk (rs:=[.tmp 2]) ords Tryz.func17 (by rfl) (by rfl) (by rfl) (by rfl) (by rfl) ?_;have hl:=h.1;have hql:(qp (pv p)).length=p.length:=by simp[qp,pv_len]
 simp (disch:=omega) only[wt,seval,reduceCtorEq,Nat.reduceEqDiff,rqs];refine aloop_nil 3 3 31 3 (by simp (disch:=omega) only[wt,seval,reduceCtorEq,Nat.reduceEqDiff,rqs]) (λf H=>∃(i st:Nat),i<=p.length/\f 4=.iv (.int .i64 i)/\f 0=.iv (.sl (raws p))/\f 3=.hs 3 st/\H 3=.blk false st 31 3 (rats (((qp (pv p)).take i).map crat))) (λf H=>(p.length-intAt f 4).toNat) ?_ ?_
 .refine⟨0,1,by omega,?_⟩;simp (disch:=omega) only[wt,seval,reduceCtorEq,Nat.reduceEqDiff,rqs,ghostF,ghostH,List.take_zero,List.map_nil]
 rintro f H ⟨i,st,hi,hF⟩;rw[intAt_of hF.1];simp (disch:=omega) only[wt,seval,reduceCtorEq,Nat.reduceEqDiff,rqs,hF];refine if_by (λhlt=>?_) (λhlt=>?_)
 .have hq:(((qp (pv p)).take i).map crat).length=i:=by rw[List.length_map,List.length_take,hql];omega
  have m:=hZ_ok (p.getD i (false,[])) (h.get i);rw[<-cf_pv,<-cfq_qp]at m;simp (disch:=omega) only[wt,seval,reduceCtorEq,Nat.reduceEqDiff,rqs,hF,hq];refine call_by (m) (by first|rfl|(simp only[tocvs,tocv,toboxes,tobox,updH_at,Nat.reduceEqDiff,↓reduceIte,hF,hq];rfl)) (by simp) ?_;simp (disch:=omega) only[wt,seval,reduceCtorEq,Nat.reduceEqDiff,rqs,hF,hq];have e:=takeq_snoc (q:=qp (pv p)) (i:=i) (by omega);refine⟨⟨i+1,st+1,by omega,?_⟩,by omega⟩;rw[e,List.map_append];exact⟨by omega,rfl,rfl⟩
 .simp (disch:=omega) only[wt,seval,reduceCtorEq,Nat.reduceEqDiff,rqs,hF];rw[List.take_of_length_le (by omega)]at hF;have b:=PB.ofZ (h.pv.mono (k':=2^38) (Nat.le_refl _) (by omega)) (by omega);have m:=hnormq_ok ((qp (pv p)).map crat) b.gq;rw[qvs_map]at m;refine call_by (m) (by first|rfl|(simp only[tocvs,tocv,toboxes,tobox,updH_at,Nat.reduceEqDiff,↓reduceIte,hF];rfl)) (by simp) ?_;simp (disch:=omega) only[wt,seval,reduceCtorEq,Nat.reduceEqDiff,rqs,hF]
theorem idxq_gen (l:List RQ)(g:Nat)(P:RQ->Bool)(e:Int)(hl:l.length<=2^43)(hc:∀r∈l,AC Tryz.prog g [cqq r] none [cb (P r)])
  (h1:∀i,i<l.length->(∀j,j<i->P (l.getD j q0)=false)->P (l.getD i q0)=true->e=i) (h2:(∀j,j<l.length->P (l.getD j q0)=false)->e = -1) :
  AC Tryz.prog 88 [cqw l,.fn g []] none [ci e]:=by
 refine AC.by_walk (rs:=[.tmp 4]) ords Tryz.func88 (by rfl) (by rfl) (by rfl) (by rfl) (by rfl) ?_;simp (disch:=omega) only[wt,seval,reduceCtorEq,Nat.reduceEqDiff,rqs];refine aloop_by (λf H=>∃(i:Nat),i<=l.length/\(∀j,j<i->P (l.getD j q0)=false)/\f 8=.iv (.int .i64 i)/\f 0=.iv (.sl (rats l))/\f 6=.iv (.sl (rats l))/\f 7=.iv (.int .i64 l.length)/\f 1=.fn g []) (λf H=>(l.length-intAt f 8).toNat) ?_ ?_
 .refine⟨0,by omega,λj hj=>by omega,?_⟩;simp (disch:=omega) only[wt,seval,reduceCtorEq,Nat.reduceEqDiff,rqs,List.map_nil]
 rintro f H ⟨i,hi,hz,hF⟩;rw[intAt_of hF.1];simp (disch:=omega) only[wt,seval,reduceCtorEq,Nat.reduceEqDiff,rqs,hF];refine if_by (λhlt=>?_) (λhlt=>?_)
 .have hlt':i<l.length:=by omega
  simp (disch:=omega) only[wt,seval,reduceCtorEq,Nat.reduceEqDiff,rqs,hF];refine call_by ((hc (l.getD i q0) (getq_mem hlt'))) (by first|rfl|(simp only[tocvs,tocv,toboxes,tobox,updH_at,Nat.reduceEqDiff,↓reduceIte,hF];rfl)) (by simp) ?_;simp (disch:=omega) only[wt,seval,reduceCtorEq,Nat.reduceEqDiff,rqs,hF];cases hP:P (l.getD i q0) with
  |true =>
   obtain rfl:=h1 i hlt' hz hP;simp (disch:=omega) only[wt,seval,reduceCtorEq,Nat.reduceEqDiff,rqs,hF]
  |false =>
   simp (disch:=omega) only[wt,seval,reduceCtorEq,Nat.reduceEqDiff,rqs,hF];refine⟨⟨i+1,by omega,λj hj=>?_,by omega⟩,by omega⟩;rcases Nat.lt_or_ge j i with hj'|hj'
   .exact hz j hj'
   .obtain rfl:j=i:=by omega
    exact hP
 .obtain rfl:=h2 λj hj=>hz j (by omega)
  simp (disch:=omega) only[wt,seval,reduceCtorEq,Nat.reduceEqDiff,rqs,hF]
theorem conq_ok (l:List RQ)(g:Nat)(P:RQ->Bool)(hl:l.length<=2^43)(hc:∀r∈l,AC Tryz.prog g [cqq r] none [cb (P r)]) :
  AC Tryz.prog 63 [cqw l,.fn g []] none [cb (l.any P)]:=by
 have key:∃e:Int,(0<=e↔l.any P=true)/\AC Tryz.prog 88 [cqw l,.fn g []] none [ci e]:=by
  by_cases h:∃i,i<l.length/\P (l.getD i q0)=true
  .obtain⟨i,hi,hP,hz⟩:∃i,i<l.length/\P (l.getD i q0)=true/\∀j,j<i->P (l.getD j q0)=false:=by
    obtain⟨i0,hi0⟩:=h
    induction i0 using Nat.strongRecOn with
    |_ n ih =>
     by_cases hm:∃m,m<n/\P (l.getD m q0)=true
     .obtain⟨m,hm1,hm2⟩:=hm;exact ih m hm1 ⟨by omega,hm2⟩
     .refine⟨n,hi0.1,hi0.2,λj hj=>?_⟩;cases hj':P (l.getD j q0) with
      |false=>rfl
      |true=>exact(hm ⟨j,hj,hj'⟩).elim
   refine⟨i,⟨λ_=>List.any_eq_true.mpr ⟨_,getq_mem hi,hP⟩,λ_=>by omega⟩,idxq_gen l g P i hl hc (λk hk hkz hkP=>?_) (λhall=>?_)⟩
   .have:k=i:=by
     rcases Nat.lt_trichotomy k i with h|h|h
     .have:=hz k h;rw[this]at hkP;cases hkP
     .exact h
     .have:=hkz i h;rw[this]at hP;cases hP
    rw[this]
   .rw[hall i hi]at hP;cases hP
  .refine⟨-1,⟨λh0=>by omega,λh0=>?_⟩,idxq_gen l g P (-1) hl hc (λk hk _ hkP=>(h ⟨k,hk,hkP⟩).elim) (λ_=>rfl)⟩;obtain⟨r,hr,hP⟩:=List.any_eq_true.mp h0;obtain⟨j,hj,rfl⟩:=List.getElem_of_mem hr;exact(h ⟨j,hj,by rw[List.getD,List.getElem?_eq_getElem hj,Option.getD_some];exact hP⟩).elim
 obtain⟨e,he,m⟩:=key;refine AC.by_walk (rs:=[.tmp 4]) ords Tryz.func63 (by rfl) (by rfl) (by rfl) (by rfl) (by rfl) ?_;simp (disch:=omega) only[wt,seval,reduceCtorEq,Nat.reduceEqDiff,rqs];refine call_by (m) (by rfl) (by simp) ?_;simp (disch:=omega) only[wt,seval,reduceCtorEq,Nat.reduceEqDiff,rqs];cases hP:l.any P with
 |true=>rw[decide_eq_true (he.mpr hP)]
 |false=>rw[decide_eq_false λh=>by rw[he.mp h]at hP;cases hP]
theorem qgood1_ok (r:RQ)(h:Nt (2^42) r.2):AC Tryz.prog 64 [cqq r] none [cb (decide (nv r.2=0))]:=by
 refine AC.by_walk (rs:=[.tmp 2]) ords Tryz.func64 (by rfl) (by rfl) (by rfl) (by rfl) (by rfl) ?_;simp (disch:=omega) only[wt,seval,reduceCtorEq,Nat.reduceEqDiff,rqs];by_cases h0:nv r.2=0
 .have h0':=h0;refine call_by ((qcheck_bad r h h0)) (by rfl) (by simp) ?_;simp (disch:=omega) only[wt,seval,reduceCtorEq,Nat.reduceEqDiff,rqs];rw[decide_eq_true h0]
  try rfl
 .have h0':=h0;refine call_by ((qcheck_good r h h0)) (by rfl) (by simp) ?_;simp (disch:=omega) only[wt,seval,reduceCtorEq,Nat.reduceEqDiff,rqs];rw[decide_eq_false h0]
  try rfl
theorem not_any {l:List RQ}:(!l.any λr=>decide (nv r.2=0))=gd l:=by
 unfold gd
 induction l with
 |nil=>rfl
 |cons a l ih =>
  rw[List.any_cons,List.all_cons,Bool.not_or,ih]
  congr 1
  by_cases h:nv a.2=0<;>simp[h]
theorem qgood_ok (l:List RQ)(h:BQ (2^40) (2^40) l):AC Tryz.prog 41 [cqw l] none [cb (gd l)]:=by
 have m:=conq_ok l 64 (λr=>decide (nv r.2=0)) (Nat.le_trans h.1 (by omega)) (λr hr=>qgood1_ok r ⟨Nat.le_trans (h.2 r hr).2.1 (by omega),(h.2 r hr).2.2⟩);refine AC.by_walk (rs:=[.tmp 2]) ords Tryz.func41 (by rfl) (by rfl) (by rfl) (by rfl) (by rfl) ?_;simp (disch:=omega) only[wt,seval,reduceCtorEq,Nat.reduceEqDiff,rqs,List.map_nil];refine call_by (m) (by first|rfl|(simp only[tocvs,tocv,toboxes,tobox,updH_at,Nat.reduceEqDiff,↓reduceIte,List.map_nil];rfl)) (by simp) ?_;simp (disch:=omega) only[wt,seval,reduceCtorEq,Nat.reduceEqDiff,rqs,List.map_nil];exact not_any
theorem evq_nil (x:Rat):evq [] x=0:=rfl
structure VB (p:List RQ) (x:RQ) (B:Nat):Prop where
 hp:GQ (2^30) B p
 hx:SzQ B x
 d:nv x.2≠0
 e:∀q:List Rat,q.length<=p.length->(∀c∈q,c∈qvs p)->qz (evq q (qv x))<=B
 w:∀i,i<=p.length->qz (qv x^i)<=B
 b:B<=2^34
 one:1<=B
theorem VB.of {n K X B:Nat}{p:List RQ}{x:RQ}(hp:GQ n K p)(hx:SzQ X x)(hd:nv x.2≠0)(hn:n<=2^30)(hB:n*(K+X+1)+K+X+1<=B)(hB':B<=2^34):VB p x B where
 hp:=hp.mono hn (by omega)
 hx:=hx.mono (by omega)
 d:=hd
 e:=λq hq hc=>by
  have h:=qz_evq (K:=K) (qz_raw hx hd) (p:=q) λc hc'=>hp.qb.2 c (hc c hc')
  have h2:=Nat.mul_le_mul_right (K+X+1) (Nat.le_trans hq hp.1);omega
 w:=λi hi=>by
  have h:=qz_pow (qz_raw hx hd) i;have h2:=Nat.mul_le_mul_right X (Nat.le_trans hi hp.1);have h3:n*X<=n*(K+X+1):=Nat.mul_le_mul_left n (by omega);omega
 b:=hB'
 one:=by omega
theorem VB.take {p:List RQ}{x:RQ}{B:Nat}(v:VB p x B)(i:Nat):qz (evq ((qvs p).take i) (qv x))<=B :=
 v.e _ (by rw[List.length_take,qvs_len];omega) λc hc=>List.mem_of_mem_take hc
theorem VB.drop {p:List RQ}{x:RQ}{B:Nat}(v:VB p x B)(i:Nat):qz (evq ((qvs p).drop i) (qv x))<=B :=
 v.e _ (by rw[List.length_drop,qvs_len];omega) λc hc=>List.mem_of_mem_drop hc
theorem hzero_ok:AC Tryz.prog 77 [] none [cqz 0]:=by
 have m:=hP_ok 0 1 (by omega) (by omega) (by omega) (by omega);rw[show ((0:Int):Rat)/((1:Nat):Rat)=0 by decide +kernel]at m;refine AC.by_walk (rs:=[.cell 0 31]) ords Tryz.func77 (by rfl) (by rfl) (by rfl) (by rfl) (by rfl) ?_;simp (disch:=omega) only[wt,seval,reduceCtorEq,Nat.reduceEqDiff,rqs];refine call_by (m) (by rfl) (by simp) ?_;simp (disch:=omega) only[wt,seval,reduceCtorEq,Nat.reduceEqDiff,rqs]
 try rfl
theorem hone_ok:AC Tryz.prog 20 [ci 1,ci 1] none [cqz 1]:=by
 have m:=hP_ok 1 1 (by omega) (by omega) (by omega) (by omega);rwa [show ((1:Int):Rat)/((1:Nat):Rat)=1 by decide +kernel]at m
theorem hat_ok (p:List RQ)(x:RQ)(B:Nat)(v:VB p x B):AC Tryz.prog 52 [cqw p,cqq x] none [cqz (evq (qvs p) (qv x))]:=by
 have hl:=v.hp.1;have hb:=v.b;have o:=hone_ok;refine AC.by_walk (rs:=[.cell 4 31]) ords Tryz.func52 (by rfl) (by rfl) (by rfl) (by rfl) (by rfl) ?_;simp (disch:=omega) only[wt,seval,reduceCtorEq,Nat.reduceEqDiff,rqs];refine call_by (hzero_ok) (by rfl) (by simp) ?_;simp (disch:=omega) only[wt,seval,reduceCtorEq,Nat.reduceEqDiff,rqs];refine call_by (o) (by rfl) (by simp) ?_;simp (disch:=omega) only[wt,seval,reduceCtorEq,Nat.reduceEqDiff,rqs];refine aloop_by (λf H=>∃(i st3 st5 st6:Nat),i<=p.length/\f 7=.iv (.int .i64 i)/\f 0=.iv (.sl (rats p))/\f 3=.hp 3 st3 0 0/\H 3=.blk false st3 31 3 [qrow x]/\f 5=.hp 5 st5 0 0/\H 5=.blk false st5 31 3 [qrow (crat (evq ((qvs p).take i) (qv x)))]/\f 6=.hp 6 st6 0 0/\H 6=.blk false st6 31 3 [qrow (crat (qv x^i))]/\f 4=.hp 4 1 0 0/\H 4=.blk false 1 31 3 [[.bool false,.sl [],.sl []]]) (λf H=>(p.length-intAt f 7).toNat) ?_ ?_
 .refine⟨0,1,1,1,by omega,?_⟩;simp (disch:=omega) only[wt,seval,reduceCtorEq,Nat.reduceEqDiff,rqs,List.take_zero,evq_nil,Rat.pow_zero]
 rintro f H ⟨i,st3,st5,st6,hi,hF⟩;rw[intAt_of hF.1];simp (disch:=omega) only[wt,seval,reduceCtorEq,Nat.reduceEqDiff,rqs,hF];refine if_by (λhlt=>?_) (λhlt=>?_)
 .have hlt':i<p.length:=by omega
  have hr:=v.hp.get hlt';have hrd:=v.hp.den hlt';have z1:=v.take i;have z2:=v.take (i+1);have z3:=v.w i hi;have z4:=v.w (i+1) (by omega);have zc:=qz_raw hr hrd;have m:=htimes_ok (p.getD i q0) (crat (qv x^i)) (hr.mono (by omega)) (szq_crat (by omega)) hrd (nv_crat0 _);rw[qv_crat,<-cfq_qvs]at m;have zm:=qz_mul (cfq (qvs p) i) (qv x^i);rw[<-cfq_qvs]at zc;have s:=hplus_ok (crat (evq ((qvs p).take i) (qv x))) (crat (cfq (qvs p) i*qv x^i)) (szq_crat (by omega)) (szq_crat (by omega)) (nv_crat0 _) (nv_crat0 _);rw[qv_crat,qv_crat,show evq ((qvs p).take i) (qv x)+cfq (qvs p) i*qv x^i=evq ((qvs p).take (i+1)) (qv x) from (evq_take (qvs p) (qv x) (by rw[qvs_len];exact hlt')).symm]at s;have w:=htimes_ok (crat (qv x^i)) x (szq_crat (by omega)) (v.hx.mono (by omega)) (nv_crat0 _) v.d;rw[qv_crat,<-Rat.pow_succ]at w;simp (disch:=omega) only[wt,seval,reduceCtorEq,Nat.reduceEqDiff,rqs,hF];refine .inl ⟨tmps_by (by kernel_rfl),?_⟩;refine call_by (m) (by first|rfl|(simp only[tocvs,tocv,toboxes,tobox,updH_at,Nat.reduceEqDiff,↓reduceIte,hF];rfl)) (by simp) ?_;simp (disch:=omega) only[wt,seval,reduceCtorEq,Nat.reduceEqDiff,rqs,hF];refine call_by (s) (by first|rfl|(simp only[tocvs,tocv,toboxes,tobox,updH_at,Nat.reduceEqDiff,↓reduceIte,hF];rfl)) (by simp) ?_;simp (disch:=omega) only[wt,seval,reduceCtorEq,Nat.reduceEqDiff,rqs,hF]
  first|exact log_by (by kernel_rfl)|refine⟨log_by (by kernel_rfl),?_⟩
  refine call_by (w) (by first|rfl|(simp only[tocvs,tocv,toboxes,tobox,updH_at,Nat.reduceEqDiff,↓reduceIte,hF];rfl)) (by simp) ?_;simp (disch:=omega) only[wt,seval,reduceCtorEq,Nat.reduceEqDiff,rqs,hF];exact⟨⟨i+1,st3,st5,st6,by omega,by omega,rfl,rfl,rfl,rfl,rfl,rfl⟩,by omega⟩
 .simp (disch:=omega) only[wt,seval,reduceCtorEq,Nat.reduceEqDiff,rqs,hF];rw[List.take_of_length_le (by rw[qvs_len];omega)]
  try rfl
theorem hAt_ok (p:List RQ)(x:RQ)(B:Nat)(v:VB p x B):AC Tryz.prog 25 [cqw p,cqq x] none [cqz (evq (qvs p) (qv x)),ci 0]:=by
 have hb:=v.b;have g:=hgood_ok p (v.hp.bq.mono (by omega) (by omega));rw[v.hp.gd]at g;have o:=hok_ok x ⟨Nat.le_trans v.hx.2.1 (by omega),v.hx.2.2⟩;rw[decide_eq_true v.d]at o;have m:=hat_ok p x B v;refine AC.by_walk (rs:=[.cell 4 31,.tmp 5]) ords Tryz.func25 (by rfl) (by rfl) (by rfl) (by rfl) (by rfl) ?_;simp (disch:=omega) only[wt,seval,reduceCtorEq,Nat.reduceEqDiff,rqs];refine call_by (g) (by rfl) (by simp) ?_;simp (disch:=omega) only[wt,seval,reduceCtorEq,Nat.reduceEqDiff,rqs];refine call_by (o) (by rfl) (by simp) ?_;simp (disch:=omega) only[wt,seval,reduceCtorEq,Nat.reduceEqDiff,rqs];refine call_by (m) (by rfl) (by simp) ?_;simp (disch:=omega) only[wt,seval,reduceCtorEq,Nat.reduceEqDiff,rqs]
 try rfl
theorem hAt_bad (p:List RQ)(x:RQ)(hp:BQ (2^40) (2^38) p)(hx:SzQ (2^38) x)(h:gd p=false\/nv x.2=0):AC Tryz.prog 25 [cqw p,cqq x] none [cqq q0,ci 1]:=by
 have g:=hgood_ok p hp;have o:=hok_ok x ⟨Nat.le_trans hx.2.1 (by omega),hx.2.2⟩;refine AC.by_walk (rs:=[.cell 4 31,.tmp 5]) ords Tryz.func25 (by rfl) (by rfl) (by rfl) (by rfl) (by rfl) ?_;simp (disch:=omega) only[wt,seval,reduceCtorEq,Nat.reduceEqDiff,rqs];cases hg:gd p with
 |false =>
  rw[hg]at g;refine call_by (g) (by rfl) (by simp) ?_;simp (disch:=omega) only[wt,seval,reduceCtorEq,Nat.reduceEqDiff,rqs]
  try rfl
 |true =>
  rw[hg]at g;have h0:nv x.2=0:=h.resolve_left (by rw[hg];decide);rw[decide_eq_false (λh=>h h0)]at o;refine call_by (g) (by rfl) (by simp) ?_;simp (disch:=omega) only[wt,seval,reduceCtorEq,Nat.reduceEqDiff,rqs];refine call_by (o) (by rfl) (by simp) ?_;simp (disch:=omega) only[wt,seval,reduceCtorEq,Nat.reduceEqDiff,rqs]
  try rfl
theorem eAt_ok (p:List RQ)(x:RQ)(B:Nat)(v:VB p x B):AC Tryz.prog 19 [cqw p,cqq x] none [cqz (evq (qvs p) (qv x)),ci 0]:=by
 have hl:=v.hp.1;have hb:=v.b;have g:=qgood_ok p (v.hp.bq.mono (by omega) (by omega));rw[v.hp.gd]at g;have o:=qcheck_good x ⟨Nat.le_trans v.hx.2.1 (by omega),v.hx.2.2⟩ v.d;have w:=ewhole_ok 0 (by omega) (by omega);rw[Rat.intCast_zero]at w;have e0:evq ((qvs p).drop p.length) (qv x)=0:=by rw[<-qvs_len p,List.drop_length];rfl
 refine AC.by_walk (rs:=[.cell 4 31,.tmp 5]) ords Tryz.func19 (by rfl) (by rfl) (by rfl) (by rfl) (by rfl) ?_;simp (disch:=omega) only[wt,seval,reduceCtorEq,Nat.reduceEqDiff,rqs];refine call_by (g) (by rfl) (by simp) ?_;simp (disch:=omega) only[wt,seval,reduceCtorEq,Nat.reduceEqDiff,rqs];refine call_by (o) (by rfl) (by simp) ?_;simp (disch:=omega) only[wt,seval,reduceCtorEq,Nat.reduceEqDiff,rqs];refine call_by (w) (by rfl) (by simp) ?_;simp (disch:=omega) only[wt,seval,reduceCtorEq,Nat.reduceEqDiff,rqs];refine aloop_by (λf H=>∃(i st3 st6:Nat),i<=p.length/\f 7=.iv (.int .i64 ((i:Int)-1))/\f 0=.iv (.sl (rats p))/\f 3=.hp 3 st3 0 0/\H 3=.blk false st3 31 3 [qrow x]/\f 6=.hp 6 st6 0 0/\H 6=.blk false st6 31 3 [qrow (crat (evq ((qvs p).drop i) (qv x)))]/\f 4=.hp 4 1 0 0/\H 4=.blk false 1 31 3 [[.bool false,.sl [],.sl []]]) (λf H=>(intAt f 7+1).toNat) ?_ ?_
 .refine⟨p.length,1,1,by omega,?_⟩;simp (disch:=omega) only[wt,seval,reduceCtorEq,Nat.reduceEqDiff,rqs,e0]
 rintro f H ⟨i,st3,st6,hi,hF⟩;rw[intAt_of hF.1];simp (disch:=omega) only[wt,seval,reduceCtorEq,Nat.reduceEqDiff,rqs,hF];refine if_by (λhlt=>?_) (λhlt=>?_)
 .obtain⟨j,rfl⟩:∃j,i=j+1:=⟨i-1,by omega⟩;have ej:((j+1:Nat):Int)-1=(j:Int):=by omega
  rw[ej]at hF;have hlt':j<p.length:=by omega
  have hr:=v.hp.get hlt';have hrd:=v.hp.den hlt';have z1:=v.drop (j+1);have z2:=v.drop j;have zx:=qz_raw v.hx v.d;have zm:=qz_mul (evq ((qvs p).drop (j+1)) (qv x)) (qv x);have m:=qmul_ok (crat (evq ((qvs p).drop (j+1)) (qv x))) x (szq_crat (by omega)) (v.hx.mono (by omega)) (nv_crat0 _) v.d;rw[qv_crat]at m;have s:=qadd_ok (crat (evq ((qvs p).drop (j+1)) (qv x)*qv x)) (p.getD j q0) (szq_crat (by omega)) (hr.mono (by omega)) (nv_crat0 _) hrd;rw[qv_crat,<-cfq_qvs,show evq ((qvs p).drop (j+1)) (qv x)*qv x+cfq (qvs p) j=evq ((qvs p).drop j) (qv x) from (evq_drop (qvs p) (qv x) (by rw[qvs_len];exact hlt')).symm]at s;simp (disch:=omega) only[wt,seval,reduceCtorEq,Nat.reduceEqDiff,rqs,hF,ej];refine call_by (m) (by first|rfl|(simp only[tocvs,tocv,toboxes,tobox,updH_at,Nat.reduceEqDiff,↓reduceIte,hF,ej];rfl)) (by simp) ?_;simp (disch:=omega) only[wt,seval,reduceCtorEq,Nat.reduceEqDiff,rqs,hF,ej];refine .inl ⟨tmps_by (by kernel_rfl),?_⟩;refine call_by (s) (by first|rfl|(simp only[tocvs,tocv,toboxes,tobox,updH_at,Nat.reduceEqDiff,↓reduceIte,hF,ej];rfl)) (by simp) ?_;simp (disch:=omega) only[wt,seval,reduceCtorEq,Nat.reduceEqDiff,rqs,hF,ej]
  first|exact log_by (by kernel_rfl)|refine⟨log_by (by kernel_rfl),?_⟩
  refine⟨⟨j,st3,st6,by omega,?_⟩,by omega⟩
  (repeat' apply And.intro)<;>first|rfl|omega
 .have hi0:i=0:=by omega
  subst hi0;rw[List.drop_zero]at hF;simp (disch:=omega) only[wt,seval,reduceCtorEq,Nat.reduceEqDiff,rqs,hF]
  try rfl
def sgq (q:Rat):Int:=q.num.sign
theorem sgq_pos {q:Rat}(h:0<q):sgq q=1:=by
 refine Int.sign_eq_one_of_pos ?_;have h1:0<=q.num:=Rat.num_nonneg.mpr (Rat.le_of_lt h);have h2:q.num≠0:=λe=>by rw[Rat.num_eq_zero.mp e]at h;exact Rat.lt_irrefl h
 omega
theorem sgq_neg {q:Rat}(h:q<0):sgq q = -1:=by
 refine Int.sign_eq_neg_one_of_neg ?_;have h1:¬0<=q.num:=λe=>Rat.not_le.mpr h (Rat.num_nonneg.mp e)
 omega
theorem sgq_cases (q:Rat):(0<q/\sgq q=1)\/(q=0/\sgq q=0)\/(q<0/\sgq q = -1):=by
 by_cases h:q<0
 .exact .inr (.inr ⟨h,sgq_neg h⟩)
 .by_cases h0:q=0
  .exact .inr (.inl ⟨h0,by rw[h0];rfl⟩)
  .have:0<q:=Rat.lt_of_le_of_ne (Rat.not_lt.mp h) (λe=>h0 e.symm);exact .inl ⟨this,sgq_pos this⟩
theorem sgq_mul (p q:Rat):sgq (p*q)=sgq p*sgq q:=by
 have hn:∀{x:Rat},x<0->0 < -x:=λ{x} h=>by grind
 rcases sgq_cases p with ⟨h1,e1⟩|⟨h1,e1⟩|⟨h1,e1⟩<;>rcases sgq_cases q with ⟨h2,e2⟩|⟨h2,e2⟩|⟨h2,e2⟩<;>rw[e1,e2]
 .rw[sgq_pos (Rat.mul_pos h1 h2)];rfl
 .rw[h2,Rat.mul_zero];rfl
 .have:=Rat.mul_pos h1 (hn h2);rw[sgq_neg (by rw[Rat.mul_neg]at this;grind)];rfl
 .rw[h1,Rat.zero_mul];rfl
 .rw[h1,Rat.zero_mul];rfl
 .rw[h1,Rat.zero_mul];rfl
 .have:=Rat.mul_pos (hn h1) h2;rw[sgq_neg (by rw[Rat.neg_mul]at this;grind)];rfl
 .rw[h2,Rat.mul_zero];rfl
 .have:=Rat.mul_pos (hn h1) (hn h2);rw[sgq_pos (by rw[Rat.neg_mul,Rat.mul_neg,Rat.neg_neg]at this;exact this)];rfl
theorem sgq_int (z:Int):sgq (z:Rat)=z.sign:=by rw[sgq,Rat.num_intCast]
theorem sgq_qv {r:RQ}(h:nv r.2≠0):(iv r.1).sign=sgq (qv r):=by
 rw[qv_eq];have hp:(0:Rat)<(nv r.2:Rat):=Rat.natCast_pos.mpr (by omega);have e:(iv r.1:Rat)=(iv r.1:Rat)/(nv r.2:Rat)*(nv r.2:Rat):=(Rat.div_mul_cancel (Rat.ne_of_gt hp)).symm;have e2:=congrArg sgq e;rw[sgq_mul,sgq_int,sgq_pos hp,Int.mul_one]at e2;exact e2
theorem evq_trim (q:List Rat)(x:Rat):evq (trimq q) x=evq q x:=evq_ext x (cfq_trimq q)
theorem evq_qp_trim (p:List Int)(x:Rat):evq (qp (trimz p)) x=evq (qp p) x:=evq_ext x λk=>by rw[cfq_qp,cfq_qp,cf_trimz]
theorem ihom_evq {a b:Int}(hb:b≠0):∀p:List Int,((ihom p a b:Int):Rat)*(b:Rat)=(b:Rat)^p.length*evq (qp p) ((a:Rat)/(b:Rat))
 |[]=>by
  rw[ihom,qp,List.map_nil,evq,Rat.intCast_zero];grind
 |c::p=>by
  have ih:=ihom_evq (a:=a) hb p;have hr:(b:Rat)≠0:=λh=>hb (Rat.intCast_eq_zero_iff.mp h)
  have e:qp (c::p)=(c:Rat)::qp p:=rfl;rw[ihom,e,evq,List.length_cons,Rat.intCast_add,Rat.intCast_mul,Rat.intCast_mul,Rat.intCast_pow,Rat.pow_succ];have h2:(a:Rat)/(b:Rat)*(b:Rat)=(a:Rat):=Rat.div_mul_cancel hr;generalize (a:Rat)/(b:Rat)=x at *;rw[<-h2]
  grind
theorem ihom_sign {p:List Int}{a:Int}{b:Nat}(hb:b≠0):(ihom (trimz p) a (b:Int)).sign=sgq (evq (qp p) ((a:Rat)/(b:Rat))):=by
 have h:=ihom_evq (a:=a) (b:=(b:Int)) (by omega) (trimz p);rw[Rat.intCast_natCast,evq_qp_trim]at h;have hp:(0:Rat)<(b:Rat):=Rat.natCast_pos.mpr (by omega);have e:=congrArg sgq h;rwa [sgq_mul,sgq_mul,sgq_int,sgq_pos hp,sgq_pos (Rat.pow_pos hp),Int.mul_one,Int.one_mul]at e
theorem ehomog_ok (p:List RI)(a b:RI)(hp:RP (2^10) (2^20) p)(ha:Sz (2^20) a)(hb:Sz (2^20) b):AC Tryz.prog 54 [cw p,cr a,cr b] none [cz (ihom (trimz (pv p)) (iv a) (iv b))]:=by
 have za:=zl_iv ha;have zb:=zl_iv hb;refine AC.by_walk (rs:=[.cell 6 29]) ords Tryz.func54 (by rfl) (by rfl) (by rfl) (by rfl) (by rfl) ?_;simp (disch:=omega) only[wt,seval,reduceCtorEq,Nat.reduceEqDiff,rqs];refine call_by ((pnorm_ok p (hp.mono (by omega) (by omega)))) (by rfl) (by simp) ?_;simp (disch:=omega) only[wt,seval,reduceCtorEq,Nat.reduceEqDiff,rqs];have hA:=hp.pv.trimz;unfold cpoly;generalize trimz (pv p)=A at *;have hAl:=hA.1;have hq:(A.map canon).length=A.length:=by simp
 have hB:∀i,zl (ihom (A.drop i) (iv a) (iv b))<=2^32:=λi=>by
  have h:=zl_ihom (K:=2^20) (p:=A.drop i) za zb λz hz=>hA.2 z (List.mem_of_mem_drop hz)
  have h2:(A.drop i).length<=2^10:=by rw[List.length_drop];omega
  have h3:=Nat.mul_le_mul_right (2^20+1) h2;have h4:2^20+2^10*(2^20+1)+1<=2^32:=by decide
  omega
 refine call_by ((zOf_ok 0 (by omega) (by omega))) (by first|rfl|(simp only[tocvs,tocv,toboxes,tobox,updH_at,Nat.reduceEqDiff,↓reduceIte,hq];rfl)) (by simp) ?_;simp (disch:=omega) only[wt,seval,reduceCtorEq,Nat.reduceEqDiff,rqs,hq];refine call_by ((zOf_ok 1 (by omega) (by omega))) (by first|rfl|(simp only[tocvs,tocv,toboxes,tobox,updH_at,Nat.reduceEqDiff,↓reduceIte,hq];rfl)) (by simp) ?_;simp (disch:=omega) only[wt,seval,reduceCtorEq,Nat.reduceEqDiff,rqs,hq];have e0:canon (ihom (A.drop A.length) (iv a) (iv b))=canon 0:=by rw[List.drop_length,ihom]
 have e1:canon (iv b^(A.length-A.length))=canon 1:=by rw[Nat.sub_self,Int.pow_zero]
 refine aloop_by (λf H=>∃(i st4 st5 st6 st7 st8:Nat),i<=A.length/\f 9=.iv (.int .i64 ((i:Int)-1))/\f 0=.iv (.sl (raws (A.map canon)))/\f 4=.hp 4 st4 0 0/\H 4=.blk false st4 29 2 [prow a]/\f 5=.hp 5 st5 0 0/\H 5=.blk false st5 29 2 [prow b]/\f 6=.hp 6 st6 0 0/\H 6=.blk false st6 29 2 [prow (false,[])]/\f 7=.hp 7 st7 0 0/\H 7=.blk false st7 29 2 [prow (canon (ihom (A.drop i) (iv a) (iv b)))]/\f 8=.hp 8 st8 0 0/\H 8=.blk false st8 29 2 [prow (canon (iv b^(A.length-i)))]) (λf H=>(intAt f 9+1).toNat) ?_ ?_
 .refine⟨A.length,1,1,1,1,1,by omega,?_⟩;simp (disch:=omega) only[wt,seval,reduceCtorEq,Nat.reduceEqDiff,rqs,e0,e1]
 rintro f H ⟨i,st4,st5,st6,st7,st8,hi,hF⟩;rw[intAt_of hF.1];simp (disch:=omega) only[wt,seval,reduceCtorEq,Nat.reduceEqDiff,rqs,hF];refine if_by (λhlt=>?_) (λhlt=>?_)
 .obtain⟨j,rfl⟩:∃j,i=j+1:=⟨i-1,by omega⟩;have ej:((j+1:Nat):Int)-1=(j:Int):=by omega
  rw[ej]at hF;have hd:=drop_cf A (i:=j) (by omega);have zj:=hA.cf j;have zh:=hB (j+1);have zp:=zl_pow_b zb (i:=A.length-(j+1)) (by omega);have zm:=zl_mul (ihom (A.drop (j+1)) (iv a) (iv b)) (iv a);have zm2:=zl_mul (cf A j) (iv b^(A.length-(j+1)));simp (disch:=omega) only[wt,seval,reduceCtorEq,Nat.reduceEqDiff,rqs,hF,ej,hq];refine .inl ⟨tmps_by (by kernel_rfl),?_⟩;have m:=zmul_ok (canon (ihom (A.drop (j+1)) (iv a) (iv b))) a ((sz_canon _).mono (by omega)) (ha.mono (by omega));rw[iv_canon]at m;refine call_by (m) (by first|rfl|(simp only[tocvs,tocv,toboxes,tobox,updH_at,Nat.reduceEqDiff,↓reduceIte,hF,ej,hq];rfl)) (by simp) ?_;simp (disch:=omega) only[wt,seval,reduceCtorEq,Nat.reduceEqDiff,rqs,hF,ej,hq];have m2:=zmul_ok (canon (cf A j)) (canon (iv b^(A.length-(j+1)))) ((sz_canon _).mono (by omega)) ((sz_canon _).mono (by omega));rw[iv_canon,iv_canon]at m2;refine call_by (m2) (by first|rfl|(simp only[tocvs,tocv,toboxes,tobox,updH_at,Nat.reduceEqDiff,↓reduceIte,hF,ej,hq];rfl)) (by simp) ?_;simp (disch:=omega) only[wt,seval,reduceCtorEq,Nat.reduceEqDiff,rqs,hF,ej,hq];have s:=zadd_ok (canon (ihom (A.drop (j+1)) (iv a) (iv b)*iv a)) (canon (cf A j*iv b^(A.length-(j+1)))) ((sz_canon _).mono (by omega)) ((sz_canon _).mono (by omega));rw[iv_canon,iv_canon]at s;refine call_by (s) (by first|rfl|(simp only[tocvs,tocv,toboxes,tobox,updH_at,Nat.reduceEqDiff,↓reduceIte,hF,ej,hq];rfl)) (by simp) ?_;simp (disch:=omega) only[wt,seval,reduceCtorEq,Nat.reduceEqDiff,rqs,hF,ej,hq]
  first|exact log_by (by kernel_rfl)|refine⟨log_by (by kernel_rfl),?_⟩
  have m3:=zmul_ok (canon (iv b^(A.length-(j+1)))) b ((sz_canon _).mono (by omega)) (hb.mono (by omega));rw[iv_canon,<-Int.pow_succ,show (A.length-(j+1)).succ=A.length-j by omega]at m3;refine call_by (m3) (by first|rfl|(simp only[tocvs,tocv,toboxes,tobox,updH_at,Nat.reduceEqDiff,↓reduceIte,hF,ej,hq];rfl)) (by simp) ?_;simp (disch:=omega) only[wt,seval,reduceCtorEq,Nat.reduceEqDiff,rqs,hF,ej,hq];have e':ihom (A.drop (j+1)) (iv a) (iv b)*iv a+cf A j*iv b^(A.length-(j+1))=ihom (A.drop j) (iv a) (iv b):=by rw[hd,ihom,List.length_drop,Int.add_comm,Int.mul_comm (iv a)]
  refine⟨⟨j,st4,st5,st6,st7,st8,by omega,?_⟩,by omega⟩;rw[e']
  (repeat' apply And.intro)<;>first|rfl|omega
 .have hi0:i=0:=by omega
  subst hi0;rw[List.drop_zero]at hF;simp (disch:=omega) only[wt,seval,reduceCtorEq,Nat.reduceEqDiff,rqs,hF]
  try rfl
theorem esign_ok (p:List RI)(x:RQ)(hp:RP (2^10) (2^20) p)(hx:SzQ (2^20) x)(h0:nv x.2≠0):AC Tryz.prog 28 [cw p,cqq x] none [ci (sgq (evq (qp (pv p)) (qv x)))]:=by
 have n:=znatl_ok false x.2 hx.2.2 (Nat.le_trans hx.2.1 (by omega));rw[sgf]at n;have za:=zl_iv hx.1;have zb:=nt_zl hx.2;have m:=ehomog_ok p x.1 (canon (nv x.2:Nat)) hp hx.1 ((sz_canon _).mono zb);rw[iv_canon]at m;have zi:zl (ihom (trimz (pv p)) (iv x.1) (nv x.2:Nat))<=2^33:=by
  have h:=zl_ihom (K:=2^20) (p:=trimz (pv p)) za zb λz hz=>hp.pv.trimz.2 z hz
  have h2:(trimz (pv p)).length<=2^10:=hp.pv.trimz.1;have h3:=Nat.mul_le_mul_right (2^20+1) h2;have h4:2^20+2^10*(2^20+1)+1<=2^32:=by decide
  omega
 have s:=zsign_ok (canon (ihom (trimz (pv p)) (iv x.1) (nv x.2:Nat))) ((sz_canon _).mono (by omega));rw[iv_canon,ihom_sign h0,<-qv_eq]at s;refine AC.by_walk (rs:=[.tmp 4]) ords Tryz.func28 (by rfl) (by rfl) (by rfl) (by rfl) (by rfl) ?_;simp (disch:=omega) only[wt,seval,reduceCtorEq,Nat.reduceEqDiff,rqs];refine .inl ⟨tmps_by (by kernel_rfl),?_⟩;refine call_by (n) (by rfl) (by simp) ?_;simp (disch:=omega) only[wt,seval,reduceCtorEq,Nat.reduceEqDiff,rqs];refine call_by (m) (by rfl) (by simp) ?_;simp (disch:=omega) only[wt,seval,reduceCtorEq,Nat.reduceEqDiff,rqs];refine call_by (s) (by rfl) (by simp) ?_;simp (disch:=omega) only[wt,seval,reduceCtorEq,Nat.reduceEqDiff,rqs]
 first|exact log_by (by kernel_rfl)|refine⟨log_by (by kernel_rfl),?_⟩
 try rfl
theorem eSign_ok (p:List RI)(x:RQ)(hp:RP (2^10) (2^20) p)(hx:SzQ (2^20) x)(h0:nv x.2≠0):AC Tryz.prog 7 [cw p,cqq x] none [ci (sgq (evq (qp (pv p)) (qv x))),ci 0]:=by
 have c:=qcheck_good x ⟨Nat.le_trans hx.2.1 (by omega),hx.2.2⟩ h0;have s:=esign_ok p x hp hx h0;refine AC.by_walk (rs:=[.tmp 4,.tmp 5]) ords Tryz.func7 (by rfl) (by rfl) (by rfl) (by rfl) (by rfl) ?_;simp (disch:=omega) only[wt,seval,reduceCtorEq,Nat.reduceEqDiff,rqs];refine call_by (c) (by rfl) (by simp) ?_;simp (disch:=omega) only[wt,seval,reduceCtorEq,Nat.reduceEqDiff,rqs];refine call_by (s) (by rfl) (by simp) ?_;simp (disch:=omega) only[wt,seval,reduceCtorEq,Nat.reduceEqDiff,rqs]
 try rfl
theorem eSign_bad (p:List RI)(x:RQ)(hx:Nt (2^42) x.2)(h0:nv x.2=0):AC Tryz.prog 7 [cw p,cqq x] none [ci 0,ci 1]:=by
 have c:=qcheck_bad x hx h0;refine AC.by_walk (rs:=[.tmp 4,.tmp 5]) ords Tryz.func7 (by rfl) (by rfl) (by rfl) (by rfl) (by rfl) ?_;simp (disch:=omega) only[wt,seval,reduceCtorEq,Nat.reduceEqDiff,rqs];refine call_by (c) (by rfl) (by simp) ?_;simp (disch:=omega) only[wt,seval,reduceCtorEq,Nat.reduceEqDiff,rqs]
 try rfl
def NP (n k:Nat)(l:List (List Nat)):Prop:=l.length<=n/\∀a∈l,Lim a/\a.length<=k
theorem NP.get {n k:Nat}{l:List (List Nat)}(h:NP n k l)(i:Nat):Lim (l.getD i [])/\(l.getD i []).length<=k:=by
 by_cases hi:i<l.length
 .have e:l.getD i []=l[i]:=by simp[List.getD,hi]
  rw[e];exact h.2 _ (List.getElem_mem hi)
 .rw[List.getD_eq_getElem?_getD,List.getElem?_eq_none (by omega)];exact⟨Lim.nil,by simp⟩
structure C12 where
 (P Q:List RI) (R S:List RQ) (A B:RI) (X Y:RQ) (N:Int)
abbrev case12 (x:C12):List IV:=[.sl (raws x.P),.sl (raws x.Q),.sl (rats x.R),.sl (rats x.S),.bool x.A.1,.sl (lims x.A.2),.bool x.B.1,.sl (lims x.B.2),.bool x.X.1.1,.sl (lims x.X.1.2),.sl (lims x.X.2),.bool x.Y.1.1,.sl (lims x.Y.1.2),.sl (lims x.Y.2),.int .i64 x.N]
theorem case12_A (x:C12):List.take 2 (List.drop 4 (case12 x))=prow x.A:=rfl
theorem case12_B (x:C12):List.take 2 (List.drop 6 (case12 x))=prow x.B:=rfl
theorem case12_X (x:C12):List.take 3 (List.drop 8 (case12 x))=qrow x.X:=rfl
theorem case12_Y (x:C12):List.take 3 (List.drop 11 (case12 x))=qrow x.Y:=rfl
theorem ints_two (a b:RI):[prow a,prow b]=raws [a,b]:=rfl
def gqr (l:List RQ):Bool:=decide (40<l.length) || l.any λr=>decide (200<r.1.2.length) || decide (200<r.2.length)
def lenQ (r:RQ):Prop:=r.1.2.length<=9223372036854775807/\r.2.length<=9223372036854775807
theorem sgrats_ok (l:List RQ)(hl:l.length<=9223372036854775807)(h:∀c∈l,lenQ c):AC Tryz.prog 23 [cqw l] none [cb (gqr l)]:=by
 refine AC.by_walk (rs:=[.tmp 2]) ords Tryz.func23 (by rfl) (by rfl) (by rfl) (by rfl) (by rfl) ?_;simp (disch:=omega) only[wt,seval,reduceCtorEq,Nat.reduceEqDiff,rqs,case12_A,case12_B,case12_X,case12_Y,ints_two];by_cases hw:40<(l.length:Int)
 .have e:gqr l=true:=by unfold gqr;rw[decide_eq_true (by omega)];rfl
  rw[e];simp (disch:=omega) only[wt,seval,reduceCtorEq,Nat.reduceEqDiff,rqs,case12_A,case12_B,case12_X,case12_Y,ints_two,hw]
 have hw':¬40<l.length:=by omega
 have e:gqr l=l.any λr=>decide (200<r.1.2.length) || decide (200<r.2.length):=by unfold gqr;rw[decide_eq_false hw',Bool.false_or]
 rw[e];simp (disch:=omega) only[wt,seval,reduceCtorEq,Nat.reduceEqDiff,rqs,case12_A,case12_B,case12_X,case12_Y,ints_two,hw];refine aloop_by (λf H=>∃(i:Nat),i<=l.length/\(l.take i).any (λr=>decide (200<r.1.2.length) || decide (200<r.2.length))=false/\f 3=.iv (.int .i64 i)/\f 0=.iv (.sl (rats l))) (λf H=>(l.length-intAt f 3).toNat) ?_ ?_
 .refine⟨0,by omega,rfl,?_⟩;simp (disch:=omega) only[wt,seval,reduceCtorEq,Nat.reduceEqDiff,rqs,case12_A,case12_B,case12_X,case12_Y,ints_two]
 rintro f H ⟨i,hi,he,hF⟩;rw[intAt_of hF.1];simp (disch:=omega) only[wt,seval,reduceCtorEq,Nat.reduceEqDiff,rqs,case12_A,case12_B,case12_X,case12_Y,ints_two,hF];refine if_by (λhlt=>?_) (λhlt=>?_)
 .have hil:i<l.length:=by omega
  have hg:l.getD i q0=l[i]:=by simp[List.getD,hil]
  have hm:=h l[i] (List.getElem_mem hil);have l1:=slong_ok l[i].1.2 hm.1;have l2:=slong_ok l[i].2 hm.2;simp (disch:=omega) only[wt,seval,reduceCtorEq,Nat.reduceEqDiff,rqs,case12_A,case12_B,case12_X,case12_Y,ints_two,hF,hg];by_cases h1:200<l[i].1.2.length
  .rw[decide_eq_true h1]at l1;refine call_by (l1) (by first|rfl|(simp only[tocvs,tocv,toboxes,tobox,updH_at,Nat.reduceEqDiff,↓reduceIte,hF,hg];rfl)) (by simp) ?_;simp (disch:=omega) only[wt,seval,reduceCtorEq,Nat.reduceEqDiff,rqs,case12_A,case12_B,case12_X,case12_Y,ints_two,hF,hg];exact(any_of_get hil (by rw[decide_eq_true h1];rfl)).symm
  .rw[decide_eq_false h1]at l1;refine call_by (l1) (by first|rfl|(simp only[tocvs,tocv,toboxes,tobox,updH_at,Nat.reduceEqDiff,↓reduceIte,hF,hg];rfl)) (by simp) ?_;simp (disch:=omega) only[wt,seval,reduceCtorEq,Nat.reduceEqDiff,rqs,case12_A,case12_B,case12_X,case12_Y,ints_two,hF,hg];by_cases h2:200<l[i].2.length
   .rw[decide_eq_true h2]at l2;refine call_by (l2) (by first|rfl|(simp only[tocvs,tocv,toboxes,tobox,updH_at,Nat.reduceEqDiff,↓reduceIte,hF,hg];rfl)) (by simp) ?_;simp (disch:=omega) only[wt,seval,reduceCtorEq,Nat.reduceEqDiff,rqs,case12_A,case12_B,case12_X,case12_Y,ints_two,hF,hg];exact(any_of_get hil (by rw[decide_eq_true h2,Bool.or_true])).symm
   .rw[decide_eq_false h2]at l2;refine call_by (l2) (by first|rfl|(simp only[tocvs,tocv,toboxes,tobox,updH_at,Nat.reduceEqDiff,↓reduceIte,hF,hg];rfl)) (by simp) ?_;simp (disch:=omega) only[wt,seval,reduceCtorEq,Nat.reduceEqDiff,rqs,case12_A,case12_B,case12_X,case12_Y,ints_two,hF,hg];refine⟨⟨i+1,by omega,?_,by omega⟩,by omega⟩;rw[any_take_succ hil,he,decide_eq_false h1,decide_eq_false h2];rfl
 .simp (disch:=omega) only[wt,seval,reduceCtorEq,Nat.reduceEqDiff,rqs,case12_A,case12_B,case12_X,case12_Y,ints_two,hF];rw[List.take_of_length_le (by omega)]at he;exact he.symm
theorem gqr_bq {l:List RQ}(h:gqr l=false)(hr:∀r∈l,SzQ 9223372036854775807 r):BQ 40 200 l:=by
 unfold gqr at h;rw[Bool.or_eq_false_iff]at h;refine⟨by have:=of_decide_eq_false h.1;omega,λr hr'=>?_⟩;have h2:=List.any_eq_false.mp h.2 r hr';rw[Bool.or_eq_true,decide_eq_true_eq,decide_eq_true_eq,not_or]at h2;exact⟨⟨by omega,(hr r hr').1.2⟩,by omega,(hr r hr').2.2⟩
structure Ok12 (x:C12):Prop where
 P:Raw x.P
 Q:Raw x.Q
 R:RawQ x.R
 S:RawQ x.S
 A:Sz 9223372036854775807 x.A
 B:Sz 9223372036854775807 x.B
 X:SzQ 9223372036854775807 x.X
 Y:SzQ 9223372036854775807 x.Y
 N : -9223372036854775808<=x.N/\x.N<=9223372036854775807
def great12 (x:C12):Bool:=gp [x.P,x.Q] || gqr x.R || gqr x.S || gi [x.A,x.B] || gqr [x.X,x.Y]
structure Fit12 (x:C12):Prop where
 P:RP 40 200 x.P
 Q:RP 40 200 x.Q
 R:BQ 40 200 x.R
 S:BQ 40 200 x.S
 A:Sz 200 x.A
 B:Sz 200 x.B
 X:SzQ 200 x.X
 Y:SzQ 200 x.Y
theorem rawq_len {r:RQ}(h:SzQ 9223372036854775807 r):lenQ r:=⟨h.1.1,h.2.1⟩
theorem fit12 {x:C12}(h:Ok12 x)(g:great12 x=false):Fit12 x:=by
 unfold great12 at g;simp only[Bool.or_eq_false_iff]at g;obtain⟨⟨⟨⟨g1,g2⟩,g3⟩,g4⟩,g5⟩:=g;have i:∀c∈[x.A,x.B],Sz 9223372036854775807 c->Sz 200 c:=λc hc hs=>by
  have:=List.any_eq_false.mp g4 c hc;rw[decide_eq_true_eq]at this;exact⟨by omega,hs.2⟩
 have q:=gqr_bq g5 (λr hr=>by
  simp only[List.mem_cons,List.not_mem_nil,or_false]at hr;rcases hr with rfl|rfl
  .exact h.X
  .exact h.Y)
 exact⟨great_sub g1 (by simp) h.P,great_sub g1 (by simp) h.Q,gqr_bq g2 h.R.2,gqr_bq g3 h.S.2,i _ (by simp) h.A,i _ (by simp) h.B,q.2 _ (by simp),q.2 _ (by simp)⟩
theorem great12_ok (x:C12)(h:Ok12 x):AC Tryz.prog 5 [.agg (case12 x)] none [cb (great12 x)]:=by
 have g1:=great2_ok x.P x.Q h.P h.Q;have g2:=sgrats_ok x.R h.R.1 (λr hr=>rawq_len (h.R.2 r hr));have g3:=sgrats_ok x.S h.S.1 (λr hr=>rawq_len (h.S.2 r hr));have g4:=sgints_ok [x.A,x.B] (by simp) (λc hc=>by
  simp only[List.mem_cons,List.not_mem_nil,or_false]at hc;rcases hc with rfl|rfl
  .exact h.A.1
  .exact h.B.1)
 have g5:=sgrats_ok [x.X,x.Y] (by simp) (λr hr=>by
  simp only[List.mem_cons,List.not_mem_nil,or_false]at hr;rcases hr with rfl|rfl
  .exact rawq_len h.X
  .exact rawq_len h.Y)
 have p1:[[IV.sl (raws x.P)],[IV.sl (raws x.Q)]]=polys [x.P,x.Q]:=rfl;have p3:=rats_two x.X x.Y;have hE:∀b1 b2 b3 b4 b5,gp [x.P,x.Q]=b1->gqr x.R=b2->gqr x.S=b3->gi [x.A,x.B]=b4->gqr [x.X,x.Y]=b5->great12 x=(b1 || b2 || b3 || b4 || b5):=by
  rintro _ _ _ _ _ rfl rfl rfl rfl rfl;rfl
 have hE':=hE _ _ _ _ _ rfl rfl rfl rfl rfl;generalize gp [x.P,x.Q]=b1 at *;generalize gqr x.R=b2 at *;generalize gqr x.S=b3 at *;generalize gi [x.A,x.B]=b4 at *;generalize gqr [x.X,x.Y]=b5 at *;rw[hE'];clear hE hE';refine AC.by_walk (rs:=[.tmp 2]) ords Tryz.func5 (by rfl) (by rfl) (by rfl) (by rfl) (by rfl) ?_;simp (disch:=omega) only[wt,seval,reduceCtorEq,Nat.reduceEqDiff,rqs,case12_A,case12_B,case12_X,case12_Y,ints_two];cases b1 with
 |true =>
  refine call_by (g1) (by rfl) (by simp) ?_;simp (disch:=omega) only[wt,seval,reduceCtorEq,Nat.reduceEqDiff,rqs,case12_A,case12_B,case12_X,case12_Y,ints_two]
  try rfl
 |false =>
 refine call_by (g1) (by rfl) (by simp) ?_;simp (disch:=omega) only[wt,seval,reduceCtorEq,Nat.reduceEqDiff,rqs,case12_A,case12_B,case12_X,case12_Y,ints_two];cases b2 with
 |true =>
  refine call_by (g2) (by rfl) (by simp) ?_;simp (disch:=omega) only[wt,seval,reduceCtorEq,Nat.reduceEqDiff,rqs,case12_A,case12_B,case12_X,case12_Y,ints_two]
  try rfl
 |false =>
 refine call_by (g2) (by rfl) (by simp) ?_;simp (disch:=omega) only[wt,seval,reduceCtorEq,Nat.reduceEqDiff,rqs,case12_A,case12_B,case12_X,case12_Y,ints_two];cases b3 with
 |true =>
  refine call_by (g3) (by rfl) (by simp) ?_;simp (disch:=omega) only[wt,seval,reduceCtorEq,Nat.reduceEqDiff,rqs,case12_A,case12_B,case12_X,case12_Y,ints_two]
  try rfl
 |false =>
 refine call_by (g3) (by first|rfl|(simp only[tocvs,tocv,toboxes,tobox,updH_at,Nat.reduceEqDiff,↓reduceIte,p3];rfl)) (by simp) ?_;simp (disch:=omega) only[wt,seval,reduceCtorEq,Nat.reduceEqDiff,rqs,case12_A,case12_B,case12_X,case12_Y,ints_two,p3];cases b4 with
 |true =>
  refine call_by (g4) (by first|rfl|(simp only[tocvs,tocv,toboxes,tobox,updH_at,Nat.reduceEqDiff,↓reduceIte,p3];rfl)) (by simp) ?_;simp (disch:=omega) only[wt,seval,reduceCtorEq,Nat.reduceEqDiff,rqs,case12_A,case12_B,case12_X,case12_Y,ints_two,p3]
  try rfl
 |false =>
 refine call_by (g4) (by first|rfl|(simp only[tocvs,tocv,toboxes,tobox,updH_at,Nat.reduceEqDiff,↓reduceIte,p3];rfl)) (by simp) ?_;simp (disch:=omega) only[wt,seval,reduceCtorEq,Nat.reduceEqDiff,rqs,case12_A,case12_B,case12_X,case12_Y,ints_two,p3];refine call_by (g5) (by first|rfl|(simp only[tocvs,tocv,toboxes,tobox,updH_at,Nat.reduceEqDiff,↓reduceIte,p3];rfl)) (by simp) ?_;simp (disch:=omega) only[wt,seval,reduceCtorEq,Nat.reduceEqDiff,rqs,case12_A,case12_B,case12_X,case12_Y,ints_two,p3];cases b5<;>rfl
theorem plain12_ok (e w:Int):AC Tryz.prog 8 [ci e,ci w] none [cb (decide (e=w))]:=by
 refine AC.by_walk (rs:=[.tmp 4]) ords Tryz.func8 (by rfl) (by rfl) (by rfl) (by rfl) (by rfl) ?_;simp (disch:=omega) only[wt,seval,reduceCtorEq,Nat.reduceEqDiff,rqs,case12_A,case12_B,case12_X,case12_Y,ints_two]
theorem awake12_ok:AC Tryz.prog 4 [] none [cb true]:=by
 have s:=sof_ok [-2,0,1] (by decide) (by decide);have b0:=small_pb [-2,0,1] 3 (by decide) (by decide);have o:=hoverq_ok (cn [-2,0,1]) (rp_cn (b0.mono (by omega) (by omega)));have e0:trimz [-2,0,1]=[-2,0,1]:=by decide
 have e1:pv (cn [-2,0,1])=[-2,0,1]:=by rw[cn,pv_canon,e0]
 rw[e1]at o;have p1:=hP_ok 3 2 (by omega) (by omega) (by omega) (by omega);have p2:=hP_ok 1 1 (by omega) (by omega) (by omega) (by omega);have p3:=hP_ok 1 4 (by omega) (by omega) (by omega) (by omega);have bq:QB 3 1 (qp [-2,0,1]):=PB.ofZ b0 (by omega);have z1:qz ((3:Int)/(2:Nat):Rat)<=1:=by decide +kernel
 have a:=eAt_ok (cqs (qp [-2,0,1])) (crat ((3:Int)/(2:Nat))) 100 (VB.of (K:=1) (X:=1) (n:=3) bq.gqs (szq_crat z1) (nv_crat0 _) (by omega) (by omega) (by omega));rw[qvs_cqs,evq_trim,qv_crat,show evq (qp [-2,0,1]) ((3:Int)/(2:Nat))=((1:Int):Rat)/((4:Nat):Rat) by decide +kernel]at a;have g:=eSign_ok (cn [-2,0,1]) (crat ((1:Int)/(1:Nat))) (rp_cn (b0.mono (by omega) (by omega))) ((szq_crat (show qz ((1:Int)/(1:Nat):Rat)<=1 by decide +kernel)).mono (by omega)) (nv_crat0 _);rw[e1,qv_crat,show sgq (evq (qp [-2,0,1]) ((1:Int)/(1:Nat))) = -1 by decide +kernel]at g;have z2:qz ((1:Int)/(4:Nat):Rat)<=1:=by decide +kernel
 have sm:=hsame_ok (crat ((1:Int)/(4:Nat))) (crat ((1:Int)/(4:Nat))) ((szq_crat z2).mono (by omega)) ((szq_crat z2).mono (by omega));rw[decide_eq_true rfl]at sm;refine AC.by_walk (rs:=[.tmp 0]) ords Tryz.func4 (by rfl) (by rfl) (by rfl) (by rfl) (by rfl) ?_;simp (disch:=omega) only[wt,seval,reduceCtorEq,Nat.reduceEqDiff,rqs,case12_A,case12_B,case12_X,case12_Y,ints_two];refine call_by (s) (by rfl) (by simp) ?_;simp (disch:=omega) only[wt,seval,reduceCtorEq,Nat.reduceEqDiff,rqs,case12_A,case12_B,case12_X,case12_Y,ints_two];refine call_by (o) (by rfl) (by simp) ?_;simp (disch:=omega) only[wt,seval,reduceCtorEq,Nat.reduceEqDiff,rqs,case12_A,case12_B,case12_X,case12_Y,ints_two];refine call_by (p1) (by rfl) (by simp) ?_;simp (disch:=omega) only[wt,seval,reduceCtorEq,Nat.reduceEqDiff,rqs,case12_A,case12_B,case12_X,case12_Y,ints_two];refine call_by (a) (by rfl) (by simp) ?_;simp (disch:=omega) only[wt,seval,reduceCtorEq,Nat.reduceEqDiff,rqs,case12_A,case12_B,case12_X,case12_Y,ints_two];refine call_by (s) (by rfl) (by simp) ?_;simp (disch:=omega) only[wt,seval,reduceCtorEq,Nat.reduceEqDiff,rqs,case12_A,case12_B,case12_X,case12_Y,ints_two];refine call_by (p2) (by rfl) (by simp) ?_;simp (disch:=omega) only[wt,seval,reduceCtorEq,Nat.reduceEqDiff,rqs,case12_A,case12_B,case12_X,case12_Y,ints_two];refine call_by (g) (by rfl) (by simp) ?_;simp (disch:=omega) only[wt,seval,reduceCtorEq,Nat.reduceEqDiff,rqs,case12_A,case12_B,case12_X,case12_Y,ints_two];refine .inl ⟨tmps_by (by kernel_rfl),?_⟩;refine call_by (p3) (by rfl) (by simp) ?_;simp (disch:=omega) only[wt,seval,reduceCtorEq,Nat.reduceEqDiff,rqs,case12_A,case12_B,case12_X,case12_Y,ints_two];refine call_by (sm) (by rfl) (by simp) ?_;simp (disch:=omega) only[wt,seval,reduceCtorEq,Nat.reduceEqDiff,rqs,case12_A,case12_B,case12_X,case12_Y,ints_two]
 first|exact log_by (by kernel_rfl)|refine⟨log_by (by kernel_rfl),?_⟩
 try rfl
theorem ok12 (P Q:List RI)(R S:List RQ)(A B:RI)(X Y:RQ)(N:Int)(hP:Raw P)(hQ:Raw Q)(hR:RawQ R)(hS:RawQ S)(hA:Sz 9223372036854775807 A)(hB:Sz 9223372036854775807 B)(hX:SzQ 9223372036854775807 X)(hY:SzQ 9223372036854775807 Y)(hN1 : -9223372036854775808<=N)(hN2:N<=9223372036854775807) :
  Ok12 ⟨P,Q,R,S,A,B,X,Y,N⟩:=⟨hP,hQ,hR,hS,hA,hB,hX,hY,hN1,hN2⟩
def CD (D M:Nat)(q:Rat):Prop:=∃z:Int,q=(z:Rat)/(D:Rat)/\zl z<=M
theorem CD.mono {D M N:Nat}{q:Rat}(h:CD D M q)(hk:M<=N):CD D N q:=by
 obtain⟨z,e,hz⟩:=h;exact⟨z,e,Nat.le_trans hz hk⟩
theorem natr_ne {n:Nat}(h:n≠0):(n:Rat)≠0:=λe=>h (Rat.natCast_eq_zero_iff.mp e)
theorem CD.add {D M N:Nat}{p q:Rat}(h:CD D M p)(k:CD D N q):CD D (max M N+1) (p+q):=by
 obtain⟨z,e,hz⟩:=h;obtain⟨w,f,hw⟩:=k;refine⟨z+w,?_,?_⟩
 .rw[e,f,Rat.intCast_add,Rat.div_def,Rat.div_def,Rat.div_def,Rat.add_mul]
 .have:=zl_add z w;omega
theorem CD.neg {D M:Nat}{p:Rat}(h:CD D M p):CD D M (-p):=by
 obtain⟨z,e,hz⟩:=h;exact⟨-z,by rw[e,Rat.intCast_neg,Rat.div_def,Rat.div_def,Rat.neg_mul],by rw[zl_neg];exact hz⟩
theorem CD.mul {D E M N:Nat}{p q:Rat}(hD:D≠0)(hE:E≠0)(h:CD D M p)(k:CD E N q):CD (D*E) (M+N) (p*q):=by
 obtain⟨z,e,hz⟩:=h;obtain⟨w,f,hw⟩:=k;refine⟨z*w,?_,?_⟩
 .have h1:=natr_ne hD;have h2:=natr_ne hE;rw[e,f,Rat.intCast_mul,Rat.natCast_mul]
  grind
 .have:=zl_mul z w;omega
theorem CD.up {D E M V:Nat}{q:Rat}(hD:D≠0)(hE:E≠0)(hV:(wd E).length<=V)(h:CD D M q):CD (D*E) (M+V) q:=by
 obtain⟨z,e,hz⟩:=h;refine⟨z*E,?_,?_⟩
 .have h1:=natr_ne hD;have h2:=natr_ne hE;rw[e,Rat.intCast_mul,Rat.natCast_mul,Rat.intCast_natCast]
  grind
 .have:=zl_mul z E;rw[zl_nat]at this;omega
theorem CD.ofRat (q:Rat):CD q.den (zl q.num) q:=⟨q.num,by rw[<-Rat.mkRat_eq_div];exact(Rat.mkRat_self q).symm,Nat.le_refl _⟩
theorem CD.size {D M:Nat}{q:Rat}(hD:D≠0)(hw:(wd D).length<=M)(h:CD D M q):qz q<=M:=by
 obtain⟨z,e,hz⟩:=h;rw[e,<-Rat.mkRat_eq_div];exact qz_mk hD hz hw
theorem CD.zero (D M:Nat):CD D M 0:=⟨0,by rw[Rat.intCast_zero,Rat.div_def,Rat.zero_mul],by rw[zl_zero];omega⟩
theorem wd_pow {v V:Nat}(h:(wd v).length<=V)(n:Nat):(wd (v^n)).length<=n*V+1:=by
 have:=zl_pow (a:=(v:Int)) (K:=V) h n;unfold zl at this;rwa [Int.natAbs_pow,Int.natAbs_natCast]at this
theorem pow_ne {v:Nat}(h:v≠0)(n:Nat):v^n≠0:=Nat.ne_of_gt (Nat.pow_pos (Nat.pos_of_ne_zero h))
theorem evq_cd {D K v X V:Nat}{x:Rat}(hD:D≠0)(hv:v≠0)(hV:(wd v).length<=V)(hx:CD v X x):∀p:List Rat,(∀c∈p,CD D K c)->CD (D*v^p.length) (K+p.length*(X+V+1)+1) (evq p x)
 |[],_=>CD.zero _ _
 |c::p,h=>by
  have ih:=evq_cd hD hv hV hx p λc' hc=>h c' (List.mem_cons_of_mem _ hc)
  have h1:=(h c (by simp)).up hD (pow_ne hv (p.length+1)) (wd_pow hV (p.length+1));have h2:=hx.mul hv (Nat.mul_ne_zero hD (pow_ne hv _)) ih;rw[show v*(D*v^p.length)=D*v^(p.length+1) by rw[Nat.pow_succ];ac_rfl]at h2;rw[evq,List.length_cons];refine(h1.add h2).mono ?_;have e1:(p.length+1)*V=p.length*V+V:=Nat.succ_mul _ _;have e2:(p.length+1)*(X+V+1)=p.length*(X+V+1)+(X+V+1):=Nat.succ_mul _ _;have e3:p.length*V<=p.length*(X+V+1):=Nat.mul_le_mul_left _ (by omega);omega
theorem evq_cdN {D K v X V N:Nat}{x:Rat}(hD:D≠0)(hv:v≠0)(hV:(wd v).length<=V)(hx:CD v X x){p:List Rat}(hp:∀c∈p,CD D K c)(hN:p.length<=N):CD (D*v^N) (K+N*(X+V+1)+N*V+2) (evq p x):=by
 have h1:=(evq_cd hD hv hV hx p hp).up (Nat.mul_ne_zero hD (pow_ne hv _)) (pow_ne hv (N-p.length)) (wd_pow hV (N-p.length));rw[Nat.mul_assoc,<-Nat.pow_add,show p.length+(N-p.length)=N by omega]at h1;refine h1.mono ?_;have e1:p.length*(X+V+1)<=N*(X+V+1):=Nat.mul_le_mul_right _ hN;have e2:(N-p.length)*V<=N*V:=Nat.mul_le_mul_right _ (by omega);omega
structure CB (D n M:Nat) (q:List Rat):Prop where
 d:D≠0
 w:(wd D).length<=M
 l:q.length<=n
 c:∀c∈q,CD D M c
theorem CB.qb {D n M:Nat}{q:List Rat}(h:CB D n M q):QB n M q:=⟨h.l,λc hc=>(h.c c hc).size h.d h.w⟩
theorem CB.mono {D n M m N:Nat}{q:List Rat}(h:CB D n M q)(hn:n<=m)(hM:M<=N):CB D m N q:=⟨h.d,Nat.le_trans h.w hM,Nat.le_trans h.l hn,λc hc=>(h.c c hc).mono hM⟩
theorem CB.sub {D n M:Nat}{q r:List Rat}(h:CB D n M q)(hl:r.length<=n)(hr:∀c∈r,c∈q):CB D n M r:=⟨h.d,h.w,hl,λc hc=>h.c c (hr c hc)⟩
theorem qz_parts (q:Rat):zl q.num<=qz q/\(wd q.den).length<=qz q:=⟨Nat.le_max_left _ _,Nat.le_max_right _ _⟩
theorem one_cd:∀{k:Nat} (q:List Rat),(∀c∈q,qz c<=k)->∃D,D≠0/\(wd D).length<=q.length*k+1/\∀c∈q,CD D (q.length*k+k+1) c
 |k,[],_=>⟨1,by omega,by rw[show wd 1=[1] by decide +kernel];simp,λc hc=>nomatch hc⟩
 |k,a::q,h=>by
  obtain⟨D,hD,hw,hc⟩:=one_cd q λc hc=>h c (List.mem_cons_of_mem _ hc)
  have ha:=h a (by simp);have hp:=qz_parts a;refine⟨a.den*D,Nat.mul_ne_zero a.den_nz hD,?_,λc hc'=>?_⟩
  .have:=AL.wd_mul_len a.den D;rw[List.length_cons,Nat.succ_mul];omega
  .rw[List.length_cons,Nat.succ_mul];rcases List.mem_cons.1 hc' with rfl|hc'
   .exact((CD.ofRat c).up c.den_nz hD hw).mono (by omega)
   .rw[Nat.mul_comm];exact((hc c hc').up hD a.den_nz hp.2).mono (by omega)
theorem QB.cb {n k:Nat}{q:List Rat}(h:QB n k q):∃D,CB D n (n*k+k+1) q:=by
 obtain⟨D,hD,hw,hc⟩:=one_cd q h.2;have:=Nat.mul_le_mul_right k h.1;exact⟨D,hD,by omega,h.1,λc hc'=>(hc c hc').mono (by omega)⟩
def sqq (q:List Rat)(c:Rat):List Rat:=(List.range (q.length-1)).map λi=>evq (q.drop (i+1)) c
theorem sqq_len (q:List Rat)(c:Rat):(sqq q c).length=q.length-1:=by simp[sqq]
theorem cfq_sqq (q:List Rat)(c:Rat)(i:Nat):cfq (sqq q c) i=evq (q.drop (i+1)) c:=by
 by_cases h:i<q.length-1
 .rw[sqq,cfq,List.getD,List.getElem?_map,List.getElem?_range h];rfl
 .rw[cfq_ge (by rw[sqq_len];omega),List.drop_of_length_le (by omega)];rfl
theorem CB.sqq {D n M v X V:Nat}{q:List Rat}{x:Rat}(h:CB D n M q)(hv:v≠0)(hV:(wd v).length<=V)(hx:CD v X x):CB (D*v^n) n (M+n*(X+V+1)+n*V+2) (sqq q x) where
 d:=Nat.mul_ne_zero h.d (pow_ne hv _)
 w:=by
  have h1:=AL.wd_mul_len D (v^n);have h2:=wd_pow hV n;have h3:=h.w;omega
 l:=by rw[sqq_len];have:=h.l;omega
 c:=λc hc=>by
  obtain⟨i,_,rfl⟩:=List.mem_map.1 hc;exact evq_cdN h.d hv hV hx (λc hc=>h.c c (List.mem_of_mem_drop hc)) (by rw[List.length_drop];have:=h.l;omega)
theorem trimq_full {q:List Rat}(h:trimq q=q):tzq q=q.length:=by rw[<-trimq_len,h]
theorem sqq_tz {q:List Rat}{c:Rat}(h:trimq q=q)(h0:q.length≠0)(he:evq q c=0):tzq (sqq q c)=q.length-1/\q.length-1≠0:=by
 have ht:=trimq_full h;have h1:q.length≠1:=λe=>by
  match q,e with
  |[a],_ =>
   have:=cfq_tzq_pred (q:=[a]) (by rw[ht];simp);rw[ht]at this;rw[evq,evq]at he;exact this (by show a=0;rw[<-he];grind)
 have h2:cfq (sqq q c) (q.length-2)≠0:=by
  have:=cfq_tzq_pred (q:=q) (by rw[ht];exact h0);rw[ht]at this;rw[cfq_sqq,show q.length-2+1=q.length-1 by omega,List.drop_eq_getElem_cons (by omega),evq,List.drop_of_length_le (by omega),evq];rw[cfq_lt (by omega)]at this;intro e;exact this (by rw[<-e];grind)
 have:=tzq_spec h2 λk hk=>by rw[cfq_sqq,List.drop_of_length_le (by omega)];rfl
 exact⟨by omega,by omega⟩
def qit (q:List Rat)(c:Rat):Nat->List Rat
 |0=>q
 |k+1=>trimq (sqq (qit q c k) c)
theorem qit_len {q:List Rat}{c:Rat}(h:trimq q=q)(h0:q.length≠0):∀k,(∀j,j<k->evq (qit q c j) c=0)->(qit q c k).length+k=q.length/\(qit q c k).length≠0/\trimq (qit q c k)=qit q c k
 |0,_=>⟨rfl,h0,h⟩
 |k+1,hk=>by
  obtain⟨h1,h2,h3⟩:=qit_len h h0 k λj hj=>hk j (by omega)
  obtain⟨h4,h5⟩:=sqq_tz h3 h2 (hk k (by omega));refine⟨?_,?_,trimq_trimq _⟩
  .rw[qit,trimq_len];omega
  .rw[qit,trimq_len];omega
end Go.Proofs.YtnjaeokkfbihlaaGreat
