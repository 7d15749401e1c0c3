/-
 Contracts of the functions that the law reaches.
-/
import Derived.Test.YtbnincgnfiaemaaGreatL31M
import Derived.Test.YtbnincgnfiaemaaGreatAbsYM
import Derived.Test.YtbnincgnfiaemaaGreatAbsPM
set_option maxHeartbeats 2000000
namespace Go.Proofs.YtbnincgnfiaemaaGreat
open Go Go.Proofs Go.AL Go.RowKit
set_option linter.unusedSimpArgs false
set_option linter.unusedVariables false
theorem cvreps_get {w:World}{D:Nat->Prop}:∀{xs:List CV} {vs:List Value},CVReps w D xs vs->∀(j:Nat) (c:CV) (v:Value),xs[j]?=some c->vs[j]?=some v->CVRep w D c v
 |[],[],_,j,c,v,h,_=>by simp at h
 |x::xs,u::vs,h,0,c,v,h1,h2=>by
  simp only[List.getElem?_cons_zero,Option.some.injEq]at h1 h2;subst h1 h2;exact h.1
 |x::xs,u::vs,h,j+1,c,v,h1,h2=>cvreps_get h.2 j c v (by simpa using h1) (by simpa using h2)
 |[],_::_,h,_,_,_,_,_=>h.elim
 |_::_,[],h,_,_,_,_,_=>h.elim
theorem ACX.plain {P:Program}{g:Nat}{args res:List CV}{R:Nat->Nat->List CV->Prop}(h:ACX P g args R)(hs:∀B E r,R B E r->SoftsC r res):AC P g args none res:=by
 intro w D vs hD hv;refine CallsR.mono (h.2 w D vs hD hv) ?_;rintro v w' ⟨hb,us,r,rfl,hR,hr⟩;have h2:=(hs _ _ _ hR).reps hr;refine⟨hb,us,rfl,⟨(CVReps.length h2).symm,λj c v _ hc hv=>?_,λi e sz rows h=>by cases h⟩⟩;exact(cvreps_get h2 j c v hc hv).mono (Grows.of_sub λb hb=>hb.elim id λh=>h.elim)
theorem soft_own {b:Option (Nat×Nat)}{e sz k:Nat}{rows:List (List IV)}(h:∀r∈rows,r.length=k):Soft (.own b e sz rows) (.sl rows) :=
 .own _ _ _ _ _ rfl (λi r r' h1 h2=>by rw[h1]at h2;injection h2 with h2;rw[h2]) (λi r r' h1 h2 j x x' h3 h4=>by
  rw[h1]at h2;injection h2 with h2;subst h2;rw[h3]at h4;injection h4 with h4;subst h4;exact .refl _)
abbrev fint (b:OB)(n:Int):List IV:=[.bool (canon n).1,fnat b (canon n).2]
def RInt (n:Int)(B E:Nat)(res:List CV):Prop:=∃b,res=[.agg (fint b n)]/\Nw B E (oid b)
theorem soft_fint (b:OB)(n:Int):∀(j:Nat) (x y:IV),(fint b n)[j]?=some x->(prow (canon n))[j]?=some y->Soft x y
 |0,x,y,hx,hy=>by cases hx;cases hy;exact .refl _
 |1,x,y,hx,hy=>by
  cases hx;cases hy;refine .own _ _ _ _ _ rfl (λi r r' h h'=>?_) (λi r r' h h' j x x' hx hx'=>?_)
  .rw[h]at h';cases h';rfl
  .rw[h]at h';cases h';rw[hx]at hx';cases hx';exact .refl _
 |j+2,x,y,hx,_=>by simp at hx
theorem RNat.plain {P:Program}{g:Nat}{args:List CV}{l:List Nat}(h:ACX P g args (RNat l)):AC P g args none [cl l] :=
 ACX.plain h λB E r hr=>by
  obtain⟨b,rfl,-⟩:=hr;exact .cons (.iv (soft_own (k:=1) (λr hr=>by obtain⟨x,_,rfl⟩:=List.mem_map.1 hr;rfl))) .nil
theorem RInt.plain {P:Program}{g:Nat}{args:List CV}{n:Int}(h:ACX P g args (RInt n)):AC P g args none [cz n] :=
 ACX.plain h λB E r hr=>by
  obtain⟨b,rfl,-⟩:=hr;exact .cons (.agg rfl (soft_fint b n)) .nil
end Go.Proofs.YtbnincgnfiaemaaGreat

namespace Go.Proofs.YtbnincgnfiaemaaGreat
open Go Go.Proofs Go.AL
set_option linter.unusedSimpArgs false
set_option linter.unusedVariables false
theorem wd_top {v:Nat}(h:0<(wd v).length):0<(wd v).getD ((wd v).length-1) 0:=by
 rcases Nat.eq_zero_or_pos ((wd v).getD ((wd v).length-1) 0) with h0|h0
 .exfalso
  have h1:=vl_take_next W (wd v) ((wd v).length-1);rw[Nat.sub_add_cancel h,List.take_length,h0,Nat.mul_zero,Nat.add_zero]at h1;have h2:=nv_lt ((lim_wd v).take ((wd v).length-1));rw[List.length_take,Nat.min_eq_left (Nat.sub_le _ _)]at h2;have h3:v<W^((wd v).length-1):=by
   have h4:=nv_wd v;simp only[nv]at *;omega
  have:=wd_len_le.mpr h3;omega
 .exact h0
theorem knuth_shift {y:Nat}(h:0<(wd y).length):∃s,s=64-bl ((wd y).getD ((wd y).length-1) 0)/\s<=63/\(wd y).getD ((wd y).length-1) 0<W/\(wd (y*2^s)).length=(wd y).length:=by
 have ht:=wd_top h;have hw:=(lim_wd y).get ((wd y).length-1);have h1:=vl_take_next W (wd y) ((wd y).length-1);rw[Nat.sub_add_cancel h,List.take_length]at h1;have h2:=nv_lt ((lim_wd y).take ((wd y).length-1));rw[List.length_take,Nat.min_eq_left (Nat.sub_le _ _)]at h2;have h4:=nv_wd y;simp only[nv]at *;rw[h4]at h1;have hmono:(wd y).length<=(wd (y*2^(64-bl ((wd y).getD ((wd y).length-1) 0)))).length:=wd_len_mono (Nat.le_mul_of_pos_right _ (Nat.pow_pos (by decide)));generalize hk:(wd y).length=k at *;generalize (wd y).getD (k-1) 0=t at *;have hb64:bl t<=64:=bl_le.mpr hw;have hb1:1<=bl t:=by
  rcases Nat.eq_zero_or_pos (bl t) with h0|h0
  .have:=bl_le.mp (Nat.le_of_eq h0);omega
  .exact h0
 have hbt:t<2^bl t:=bl_le.mp (Nat.le_refl _);refine⟨_,rfl,by omega,hw,Nat.le_antisymm (wd_len_le.mpr ?_) hmono⟩;have h5:y<W^(k-1)*2^bl t:=by
  have:=Nat.mul_le_mul_left (W^(k-1)) hbt;rw[Nat.mul_succ]at this;omega
 have h6:=Nat.mul_lt_mul_of_pos_right h5 (Nat.pow_pos (by decide:0<2):0<2^(64-bl t));rw[Nat.mul_assoc,<-Nat.pow_add,show bl t+(64-bl t)=64 by omega]at h6;have h7:W^k=W^(k-1)*2^64:=by
  have h8:W^(k-1+1)=W^(k-1)*W:=Nat.pow_succ _ _;rw[Nat.sub_add_cancel h]at h8;exact h8
 rw[h7];exact h6
theorem vl_rep0 (b:Nat):∀n,vl b (List.replicate n 0)=0
 |0=>rfl
 |n+1=>by rw[List.replicate_succ,vl,vl_rep0 b n];rfl
theorem put_row {X:List Nat}{k d:Nat}(h:k<X.length):(lims X).set k (splice ((lims X).getD k []) 0 [.int .u64 (d:Int)])=lims (X.set k d):=by
 rw[lims_at h,splice_one,lims_set]
theorem put_eq {u rs:List Nat}{i n d:Nat}(h:i+n<u.length)(hr:rs.length=n):(u.take i++rs++u.drop (i+n)).set (i+n) d=u.take i++(rs++d::u.drop (i+n+1)):=by
 rw[List.drop_eq_getElem_cons h,List.set_append_right _ _ (by simp;omega)];have e:i+n-(u.take i++rs).length=0:=by simp;omega
 rw[e,List.set_cons_zero,List.append_assoc]
theorem put_digit {u rs:List Nat}{i n d:Nat}(h:i+n<u.length)(hr:rs.length=n)(hu:Lim u)(hrs:Lim rs)(hd:d<W):∃X,(u.take i++rs++u.drop (i+n)).set (i+n) d=X/\X.length=u.length/\X.take i=u.take i/\nv (X.drop i)=nv rs+W^n*(d+W*nv (u.drop (i+n+1))) /\
  (X.drop i).take n=rs/\X.getD (i+n) 0=d/\X.drop (i+n+1)=u.drop (i+n+1)/\Lim X:=by
 refine⟨_,put_eq h hr,?_,?_,?_,?_,?_,?_,?_⟩
 .simp;omega
 .rw[List.take_append_of_le_length (by simp;omega),List.take_take,Nat.min_self]
 .rw[List.drop_append_of_le_length (by simp;omega),List.drop_of_length_le (by rw[List.length_take];exact Nat.min_le_left _ _),List.nil_append];have:=vl_split W (rs++d::u.drop (i+n+1)) (k:=n) (by simp;omega);rw[<-hr,List.take_left,List.drop_left,hr]at this;exact this
 .rw[List.drop_append_of_le_length (by simp;omega),List.drop_of_length_le (by rw[List.length_take];exact Nat.min_le_left _ _),List.nil_append,<-hr,List.take_left]
 .rw[List.getD_eq_getElem?_getD,List.getElem?_append_right (by simp;omega)];have e:i+n-(u.take i).length=n:=by simp;omega
  rw[e,List.getElem?_append_right (by omega),hr];simp
 .rw[<-List.append_assoc,List.drop_append,List.drop_of_length_le (by simp;omega)];have e:i+n+1-(u.take i++rs).length=1:=by simp;omega
  rw[e];rfl
 .exact(hu.take i).append (hrs.append (Lim.cons hd (hu.drop _)))
theorem knuth_next {u u0 q:List Nat}{i V g D:Nat}(hul:i<u.length)(hu0:u0.length=u.length)(hq:i<q.length)(hT:u.take (i+1)=u0.take (i+1))(hE:nv (u0.drop (i+1))=nv (q.drop (i+1))*V+nv (u.drop (i+1)))(hD:nv (u.drop i)=D)(hg:g=D/V) :
  nv (u0.drop i)=nv ((q.set i g).drop i)*V+D%V/\u.take i=u0.take i:=by
 have e1:=nv_dropk u0 i (by omega);have e2:=nv_dropk u i hul;have e3:=nv_dropk (q.set i g) i (by simp;omega);have e4:(q.set i g).getD i 0=g:=by simp[List.getD,hq]
 have e5:(q.set i g).drop (i+1)=q.drop (i+1):=List.drop_set_of_lt (by omega);have e6:u0.getD i 0=u.getD i 0:=by
  have h1:u0.getD i 0=(u0.take (i+1)).getD i 0:=by simp[List.getD,List.getElem?_take]
  have h2:u.getD i 0=(u.take (i+1)).getD i 0:=by simp[List.getD,List.getElem?_take]
  rw[h1,h2,hT]
 have hd:=Nat.div_add_mod D V;rw[e4,e5]at e3;rw[e3,e1,e6,hE,Nat.add_mul,Nat.mul_add,<-Nat.mul_assoc,Nat.mul_comm g V,hg];rw[hD]at e2;constructor
 .omega
 .have:=congrArg (List.take i) hT;simpa [List.take_take] using this
theorem flat_lims (l:List Nat):∀r∈lims l,∀x∈r,FlatI x:=by
 intro r hr x hx;simp only[lims,List.mem_map]at hr;obtain⟨n,_,rfl⟩:=hr;simp only[List.mem_singleton]at hx;subst hx;trivial
theorem flat_own2 (e:Nat)(l l':List Nat)(a:Nat):FlatRes (some (0,e,1,lims l)) [cl l',cu a]:=by
 refine⟨flat_lims l,λj c hj hc=>?_⟩
 match j,hj with
 |1,_=>simp at hc;subst hc;trivial
 |j+2,_=>simp at hc
theorem flat_own3 (e:Nat)(l l':List Nat)(a b:Nat):FlatRes (some (0,e,1,lims l)) [cl l',cu a,ci b]:=by
 refine⟨flat_lims l,λj c hj hc=>?_⟩
 match j,hj with
 |1,_=>simp at hc;subst hc;trivial
 |2,_=>simp at hc;subst hc;trivial
 |j+3,_=>simp at hc
def RDiv (q r:Nat)(B E:Nat)(res:List CV):Prop:=∃b,res=[.iv (fnat b (wd q)),cl (wd r)]/\Nw B E (oid b)
theorem ne_div (q r B:Nat):∃E res,B<=E/\RDiv q r B E res:=⟨B,_,Nat.le_refl _,none,rfl,.nil _ _⟩
theorem soft_nat {b:OB}{l:List Nat}:Soft (fnat b l) (.sl (lims l)):=soft_own (k:=1) (λr hr=>by obtain⟨x,_,rfl⟩:=List.mem_map.1 hr;rfl)
set_option maxHeartbeats 4000000 in
theorem knuthx_ok (x y m n:Nat)(hm:(wd x).length=m)(hn:(wd y).length=n)(h2:2<=n)(hxy:y<=x)(hl:m<=2^38):ACX Tryz.prog 262 [cl (wd x),cl (wd y)] (RDiv (x/y) (x%y)):=by
 refine ACX.by_walk zi0 (rs:=[.tmp 4,.tmp 5]) ords Tryz.func262 (by rfl) (by rfl) (by rfl) (by rfl) (by rfl) (ne_div _ _) (λB0=>?_);obtain⟨s,hs,hs63,htw,hvl⟩:=knuth_shift (y:=y) (by omega);have hyl:n<=m:=by rw[<-hm,<-hn];exact wd_len_mono hxy
 have lz:=lz64_ok _ htw;rw[<-hs,hn]at lz;rw[hn]at hvl;have hn1:((n:Int)-1).toNat=n-1:=by omega
 simp (disch:=omega) only[wt,seval,reduceCtorEq,Nat.reduceEqDiff,natsr_len,natsr_at,Option.getD_some,hn,hn1];refine call_by (lz) (by first|rfl|(simp only[tocvs,tocv,toboxes,tobox,updH_at,Nat.reduceEqDiff,↓reduceIte,hn,hn1];rfl)) (by simp) ?_;simp (disch:=omega) only[wt,seval,reduceCtorEq,Nat.reduceEqDiff,natsr_len,natsr_at,Option.getD_some,hn,hn1];refine call_by ((nshl_ok (wd y) s (lim_wd _) (by omega) (by omega))) (by first|rfl|(simp only[tocvs,tocv,toboxes,tobox,updH_at,Nat.reduceEqDiff,↓reduceIte,hn];rfl)) (by simp) ?_;simp (disch:=omega) only[wt,seval,reduceCtorEq,Nat.reduceEqDiff,natsr_len,natsr_at,Option.getD_some,hn];rw[nv_wd];refine call_by ((nshl_ok (wd x) s (lim_wd _) (by omega) (by omega))) (by first|rfl|(simp only[tocvs,tocv,toboxes,tobox,updH_at,Nat.reduceEqDiff,↓reduceIte,hn];rfl)) (by simp) ?_;simp (disch:=omega) only[wt,seval,reduceCtorEq,Nat.reduceEqDiff,natsr_len,natsr_at,Option.getD_some,hn];rw[nv_wd];have hUlt:x*2^s<W^(m+1):=by
  have h1:x<W^m:=by rw[<-hm];exact wd_len_le.mp (Nat.le_refl _)
  rw[Nat.pow_succ];exact Nat.mul_lt_mul_of_lt_of_le h1 (Nat.pow_le_pow_right (by decide) (by omega:s<=64)) (by decide)
 have hul:(wd (x*2^s)).length<=m+1:=wd_len_le.mpr hUlt;generalize hup:(wd (x*2^s)).length=up at *;have hz1:((m:Int)+1-up).toNat=m+1-up:=by omega
 simp (disch:=omega) only[wt,seval,reduceCtorEq,Nat.reduceEqDiff,natsr_len,natsr_at,Option.getD_some,hn,hm,hup,hz1];have hcc:=concat_ok [wd (x*2^s),List.replicate (m+1-up) 0] (by simp) (by simp only[tot,List.map_cons,List.map_nil,List.sum_cons,List.sum_nil,List.length_replicate];omega);have hpu:[wd (x*2^s),List.replicate (m+1-up) 0].flatten=pad (m+1) (x*2^s):=by
  simp only[List.flatten_cons,List.flatten_nil,List.append_nil];refine eq_pad ((lim_wd _).append (Lim.replicate _)) (by simp;omega) ?_;have h1:=vl_split W (wd (x*2^s)++List.replicate (m+1-up) 0) (k:=up) (by simp;omega);rw[List.take_append_of_le_length (by omega),List.drop_append_of_le_length (by omega),List.take_of_length_le (by omega),List.drop_of_length_le (by omega),List.nil_append,vl_rep0,Nat.mul_zero,Nat.add_zero]at h1;rw[Nat.mod_eq_of_lt hUlt];exact h1.trans (nv_wd _)
 rw[hpu]at hcc;have hpl:=pad_len (m+1) (x*2^s);have hz2:(((m+1:Nat):Int)-n).toNat=m+1-n:=by omega
 refine call_by (hcc) (by first|rfl|(simp only[tocvs,tocv,toboxes,tobox,updH_at,Nat.reduceEqDiff,↓reduceIte,hn,hm,hup,hz1,hpl,hz2];rfl)) (by simp) ?_;simp (disch:=omega) only[wt,seval,reduceCtorEq,Nat.reduceEqDiff,natsr_len,natsr_at,Option.getD_some,hn,hm,hup,hz1,hpl,hz2];have hV:Lim (wd (y*2^s)):=lim_wd _;have hq0:Lim (List.replicate (m+1-n) 0):=Lim.replicate _;have hu0:=lim_pad (m+1) (x*2^s);have hi1:nv ((pad (m+1) (x*2^s)).drop (m+1-n))<y*2^s:=by
  have h1:=vl_split W (pad (m+1) (x*2^s)) (k:=m+1-n) (by omega);have h3:=nv_pad (m+1) (x*2^s);rw[Nat.mod_eq_of_lt hUlt]at h3;have hx:x<W^m:=by rw[<-hm];exact wd_len_le.mp (Nat.le_refl _)
  have hy:W^(n-1)<=y:=by
   rcases Nat.lt_or_ge y (W^(n-1)) with h|h
   .have:=wd_len_le.mpr h;omega
   .exact h
  simp only[nv]at *;have h4:W^(m+1-n)*vl W ((pad (m+1) (x*2^s)).drop (m+1-n))<W^(m+1-n)*(y*2^s):=by
   refine Nat.lt_of_le_of_lt (Nat.le_trans (Nat.le_add_left _ _) (Nat.le_of_eq (h1.symm.trans h3))) ?_;rw[<-Nat.mul_assoc];refine Nat.mul_lt_mul_of_pos_right (Nat.lt_of_lt_of_le hx ?_) (Nat.pow_pos (by decide));rw[show m=m+1-n+(n-1) by omega,Nat.pow_add];refine Nat.mul_le_mul (Nat.pow_le_pow_right (by decide) (by omega)) hy
  exact Nat.lt_of_mul_lt_mul_left h4
 have hi2:nv ((pad (m+1) (x*2^s)).drop (m+1-n))=nv ((List.replicate (m+1-n) 0).drop (m+1-n))*(y*2^s)+nv ((pad (m+1) (x*2^s)).drop (m+1-n)):=by
  rw[List.drop_of_length_le (l:=List.replicate _ _) (by simp)];simp[nv,vl]
 refine aloop_by (λf H=>∃(k st st2:Nat) (u q:List Nat),k+n<=m+1/\Lim u/\u.length=m+1/\Lim q/\q.length=m+1-n/\nv (u.drop k)<y*2^s/\nv ((pad (m+1) (x*2^s)).drop k)=nv (q.drop k)*(y*2^s)+nv (u.drop k)/\u.take k=(pad (m+1) (x*2^s)).take k/\f 14=.iv (.int .i64 (k-1))/\f 12=.hs 54 st/\f 13=.hs 59 st2/\f 6=.iv (.int .i64 n)/\f 7=.iv (.int .i64 s)/\f 8=.iv (.sl (lims (wd (y*2^s))))/\H 54=.blk false st 93 1 (lims u)/\H 59=.blk false st2 93 1 (lims q)/\H 999=.mrk B0) (λf H=>(intAt f 14+1).toNat) ?_ ?_
 .refine⟨m+1-n,1,1,pad (m+1) (x*2^s),List.replicate (m+1-n) 0,by omega,hu0,hpl,hq0,by simp,hi1,hi2,rfl,?_⟩;simp (disch:=omega) only[wt,seval,reduceCtorEq,Nat.reduceEqDiff,natsr_len,natsr_at,Option.getD_some,hn,hm,hup,hz1,hpl,hz2]
 rintro f H ⟨k,st,st2,u,q,hk,hu,hul',hq,hql,hR,hE,hT,hF⟩;rw[intAt_of hF.1];simp (disch:=omega) only[wt,seval,reduceCtorEq,Nat.reduceEqDiff,natsr_len,natsr_at,Option.getD_some,hF];generalize hU0:pad (m+1) (x*2^s)=u0 at *;refine if_by (λhge=>?_) (λhge=>?_)
 .obtain⟨i,rfl⟩:∃i,k=i+1:=⟨k-1,by omega⟩;rw[show (((i+1:Nat):Int)-1)=i by omega]at *;have hnV:nv (wd (y*2^s))=y*2^s:=nv_wd _;have hv1:0<(wd (y*2^s)).getD (n-1) 0:=by
   have:=wd_top (v:=y*2^s) (by omega);rwa [hvl]at this
  have hR0:nv (u.drop (i+1))<nv (wd (y*2^s)):=by rw[hnV];exact hR
  have hV0:0<nv (wd (y*2^s)):=Nat.zero_lt_of_lt hR0;have hVn:=Nat.le_of_lt (nv_lt hV);rw[hvl]at hVn;generalize hv:wd (y*2^s)=v at *;generalize y*2^s=V at *;subst hnV;obtain⟨k1,k2,k3,k4,k5⟩:=knuth_digit hu hV h2 (show i+n<u.length by omega) hvl hv1 hR;have gg:=guess_ok (u.getD (i+n) 0) (u.getD (i+n-1) 0) (u.getD (i+n-2) 0) (v.getD (n-1) 0) (v.getD (n-2) 0) k1 (hu.get _) (hu.get _) (hV.get _) (hV.get _) hv1;have hgW:gd3 (u.getD (i+n) 0) (u.getD (i+n-1) 0) (u.getD (i+n-2) 0) (v.getD (n-1) 0) (v.getD (n-2) 0)<W:=Nat.lt_of_le_of_lt (Nat.min_le_right _ _) (Nat.sub_lt (by decide) (by decide));generalize gd3 (u.getD (i+n) 0) (u.getD (i+n-1) 0) (u.getD (i+n-2) 0) (v.getD (n-1) 0) (v.getD (n-2) 0)=g at *;have t1:((i:Int)+n).toNat=i+n:=by omega
  have t2:((i:Int)+n-1).toNat=i+n-1:=by omega
  have t3:((i:Int)+n-2).toNat=i+n-2:=by omega
  have t4:((n:Int)-1).toNat=n-1:=by omega
  have t5:((n:Int)-2).toNat=n-2:=by omega
  simp (disch:=omega) only[wt,seval,reduceCtorEq,Nat.reduceEqDiff,natsr_len,natsr_at,Option.getD_some,hF,t1,t2,t3,t4,t5];refine .inl ⟨tmps_by (by kernel_rfl),?_⟩;refine call_by (gg) (by first|rfl|(simp only[tocvs,tocv,toboxes,tobox,updH_at,Nat.reduceEqDiff,↓reduceIte,hF,t1,t2,t3,t4,t5];rfl)) (by simp) ?_;simp (disch:=omega) only[wt,seval,reduceCtorEq,Nat.reduceEqDiff,natsr_len,natsr_at,Option.getD_some,hF,t1,t2,t3,t4,t5]
  first|exact log_by (by kernel_rfl)|refine⟨log_by (by kernel_rfl),?_⟩
  have hal:((u.drop i).take n).length=n:=by simp;omega
  have ms:=mulsub_ok ((u.drop i).take n) v g ((hu.drop i).take n) hV hgW (by omega) (by omega);rw[hal]at ms;have hlo:=nv_lt ((hu.drop i).take n);rw[hal]at hlo;obtain⟨c1,c2⟩:=subC_eq (y:=nv v*g) (W_pow_pos n) hlo;generalize hc:subC (nv ((u.drop i).take n)) (nv v*g) (W^n)=c at *;have t6:((i:Int)+n-i).toNat=n:=by omega
  refine frame_call (λf H=>f 14=.iv (.int .i64 i)/\f 12=.hs 54 st/\f 13=.hs 59 st2/\f 6=.iv (.int .i64 n)/\f 7=.iv (.int .i64 s)/\f 8=.iv (.sl (lims v))/\f 15=.iv (.int .u64 g)/\H 54=.blk false st 93 1 (lims u)/\H 59=.blk false st2 93 1 (lims q)/\H 999=.mrk B0) ?_ (λf H hF=>?_)
  .simp (disch:=omega) only[wt,seval,reduceCtorEq,Nat.reduceEqDiff,natsr_len,natsr_at,Option.getD_some,hF]
  rw[t6];refine call_flat ms (by simp only[tocvs,tocv,hF,lims_take,lims_drop];rfl) (by simp only[lims_len];simp;omega) (.inr (flat_own3 ..)) ?_;have hrsl:=pad_len n (nv ((u.drop i).take n)+W^n*c-nv v*g);have hrsL:=lim_pad n (nv ((u.drop i).take n)+W^n*c-nv v*g);have hrsv:=nv_pad n (nv ((u.drop i).take n)+W^n*c-nv v*g);rw[Nat.mod_eq_of_lt c2]at hrsv;rw[<-hrsv]at c1 c2;generalize pad n (nv ((u.drop i).take n)+W^n*c-nv v*g)=rs at *;have hti:(u.take i).length=i:=by rw[List.length_take];omega
  have hdi:(u.drop (i+n)).length=m+1-(i+n):=by rw[List.length_drop];omega
  have hh1:i+n<i+n+(m+1-(i+n)):=by omega
  have hiq:i<m+1-n:=by omega
  have hut:=hu.get (i+n);have sb:=sub64_ok (u.getD (i+n) 0) c 0 (by omega);obtain⟨p1,p2⟩:=knuth_sub (b:=0) (g:=g) (W_pow_pos n) hlo k2 hV0 hVn k4 k5 c1 c2;rcases Nat.lt_or_ge (u.getD (i+n) 0) c with hct|hct
  .obtain⟨p3,p4,p5⟩:=p2 hct;obtain rfl:c=u.getD (i+n) 0+1:=by omega
   rw[show (u.getD (i+n) 0+W-(u.getD (i+n) 0+1)-0)%W=W-1 by rw[show u.getD (i+n) 0+W-(u.getD (i+n) 0+1)-0=W-1 by omega];exact Nat.mod_eq_of_lt (Nat.sub_lt (by decide) (by decide)),
    if_pos (by omega)]at sb
   have hWe:W-1+1=W:=Nat.sub_add_cancel (by decide);have hW1:W-1<W:=Nat.sub_lt (by decide) (by decide);generalize W-1=e at sb hWe hW1;obtain⟨X,x0,x1,x2,x3,x4,x5,x6,x7⟩:=put_digit (d:=e) (show i+n<u.length by omega) hrsl hu hrsL hW1;have hpr:=put_row (X:=u.take i++rs++u.drop (i+n)) (k:=i+n) (d:=e) (by simp only[List.length_append];omega);rw[x0]at hpr;simp (disch:=omega) only[wt,seval,reduceCtorEq,Nat.reduceEqDiff,natsr_len,natsr_at,Option.getD_some,hF,hrsl,t1];refine call_by (sb) (by first|rfl|(simp only[tocvs,tocv,toboxes,tobox,updH_at,Nat.reduceEqDiff,↓reduceIte,hF,hrsl,t1,hti,hdi,hh1,hiq];rfl)) (by simp) ?_;simp (disch:=omega) only[wt,seval,reduceCtorEq,Nat.reduceEqDiff,natsr_len,natsr_at,Option.getD_some,hF,hrsl,t1,hti,hdi,hh1,hiq];rw[t6];have hg0:1<=g:=by rw[p3];exact Nat.succ_pos _
   have hgL:g<18446744073709551616:=hgW;have hg1:((g:Int)-1)=((g-1:Nat):Int):=(Int.ofNat_sub hg0).symm;have hgl:((g-1:Nat):Int)<18446744073709551616:=by rw[<-hg1];clear p1 p2 p3;omega
   have hgw:=wrap_u64 (n:=((g-1:Nat):Int)) ⟨Int.natCast_nonneg _,hgl⟩;refine frame_call (λf H=>f 14=.iv (.int .i64 i)/\f 12=.hs 54 st/\f 13=.hs 59 st2/\f 6=.iv (.int .i64 n)/\f 7=.iv (.int .i64 s)/\f 8=.iv (.sl (lims v))/\f 15=.iv (.int .u64 (g-1:Nat))/\H 54=.blk false st 93 1 (lims X)/\H 59=.blk false st2 93 1 (lims q)/\H 999=.mrk B0) ?_ (λf H hF=>?_)
   .simp (disch:=omega) only[wt,seval,reduceCtorEq,Nat.reduceEqDiff,natsr_len,natsr_at,Option.getD_some,hF,hpr,hg1,hgw]
   have ad:=laddo_ok rs v hrsL hV (by omega) (by omega);rw[hrsl,hvl,Nat.max_self,p5,Nat.add_div_right _ (W_pow_pos n),Nat.div_eq_of_lt (Nat.lt_of_lt_of_le (Nat.mod_lt _ hV0) hVn)]at ad;have hbl:=pad_len n (nv (u.drop i)%nv v+W^n);have hbL:=lim_pad n (nv (u.drop i)%nv v+W^n);have hbv:=nv_pad n (nv (u.drop i)%nv v+W^n);rw[Nat.add_mod_right,Nat.mod_eq_of_lt (Nat.lt_of_lt_of_le (Nat.mod_lt _ hV0) hVn)]at hbv;generalize pad n (nv (u.drop i)%nv v+W^n)=bk at *;obtain⟨Y,z0,z1,z2,z3,z4,z5,z6,z7⟩:=put_digit (d:=0) (show i+n<X.length by omega) hbl x7 hbL (by decide);have hqr:=put_row (X:=X.take i++bk++X.drop (i+n)) (k:=i+n) (d:=0) (by simp only[List.length_append,List.length_take,List.length_drop];omega);rw[z0]at hqr;refine call_flat ad (by simp only[tocvs,tocv,hF,lims_take,lims_drop,x4];rfl) (by simp only[lims_len];simp;omega) (.inr (flat_own2 ..)) ?_;have hti2:(X.take i).length=i:=by rw[List.length_take];omega
   have hdi2:(X.drop (i+n)).length=m+1-(i+n):=by rw[List.length_drop];omega
   have hbg:(X.take i++bk++X.drop (i+n)).getD (i+n) 0=e:=by
    rw[List.getD_eq_getElem?_getD,List.getElem?_append_right (by simp only[List.length_append];omega),List.length_append,hti2,hbl,Nat.sub_self,List.getElem?_drop,Nat.add_zero,<-List.getD_eq_getElem?_getD,x5]
   have hrow:(lims (X.take i++bk++X.drop (i+n))).getD (i+n) []=[.int .u64 (e:Int)]:=by
    rw[lims_at (by simp only[List.length_append];omega),hbg]
   rw[hrow,splice_one]at hqr;have hqr':(lims (X.take i++bk++X.drop (i+n))).set (i+n) [.int .u64 0]=lims Y:=hqr;have hwr:IntKind.u64.wrap ((e:Int)+1)=0:=by
    have h1:((e:Int)+1)=((e+1:Nat):Int):=rfl;rw[h1,hWe];rfl
   simp (disch:=omega) only[wt,seval,reduceCtorEq,Nat.reduceEqDiff,natsr_len,natsr_at,Option.getD_some,hF,hbl,t1,hti2,hdi2,hh1,hiq,hrow,hqr',hwr,splice_one];rw[x6,k3,Nat.mul_zero,Nat.add_zero,Nat.mul_zero,Nat.add_zero,hbv]at z3;have hq1:g-1=nv (u.drop i)/nv v:=by rw[p3];rfl
   obtain⟨y1,y2⟩:=knuth_next (g:=g-1) (by omega) (by omega) (by omega) hT hE rfl hq1;exact⟨⟨i,st,st2,Y,q.set i (g-1),by omega,z7,by omega,hq.set (Nat.lt_of_le_of_lt (Nat.sub_le _ _) hgW),by simp;omega,by rw[z3];exact Nat.mod_lt _ hV0,by rw[z3];exact y1,by rw[z2,x2];exact y2,rfl,rfl,rfl,rfl,rfl⟩,by omega⟩
  .obtain⟨p3,p4⟩:=p1 hct;rw[show (u.getD (i+n) 0+W-c-0)%W=u.getD (i+n) 0-c by rw[show u.getD (i+n) 0+W-c-0=u.getD (i+n) 0-c+W by omega,Nat.add_mod_right];exact Nat.mod_eq_of_lt (by omega),
    if_neg (by omega)]at sb
   simp (disch:=omega) only[wt,seval,reduceCtorEq,Nat.reduceEqDiff,natsr_len,natsr_at,Option.getD_some,hF,hrsl,t1];refine call_by (sb) (by first|rfl|(simp only[tocvs,tocv,toboxes,tobox,updH_at,Nat.reduceEqDiff,↓reduceIte,hF,hrsl,t1,hti,hdi,hh1,hiq];rfl)) (by simp) ?_;simp (disch:=omega) only[wt,seval,reduceCtorEq,Nat.reduceEqDiff,natsr_len,natsr_at,Option.getD_some,hF,hrsl,t1,hti,hdi,hh1,hiq];rw[put_row (by simp only[List.length_append];omega)];obtain⟨X,x0,x1,x2,x3,x4,x5,x6,x7⟩:=put_digit (d:=u.getD (i+n) 0-c) (show i+n<u.length by omega) hrsl hu hrsL (by omega);rw[k3,Nat.mul_zero,Nat.add_zero]at x3;have x8:=x3.trans p4;obtain⟨y1,y2⟩:=knuth_next (g:=g) (by omega) (by omega) (by omega) hT hE rfl p3;exact⟨⟨i,st,st2,X,q.set i g,by omega,x7,by omega,hq.set hgW,by simp;omega,by rw[x8];exact Nat.mod_lt _ hV0,by rw[x8];exact y1,by rw[x2];exact y2,rfl,rfl,rfl,by rw[x0],rfl⟩,by omega⟩
 .obtain rfl:k=0:=by omega
  simp only[List.drop_zero]at hR hE;have hun:nv (u.take n)=nv u:=by
   have h1:=vl_split W u (k:=n) (by omega);have h2:nv u<W^n:=Nat.lt_of_lt_of_le hR (by rw[<-nv_wd (y*2^s),<-hvl];exact Nat.le_of_lt (nv_lt hV));simp only[nv]at *;rcases Nat.eq_zero_or_pos (vl W (u.drop n)) with h|h
   .rw[h,Nat.mul_zero]at h1;exact h1.symm
   .have h3:=Nat.mul_le_mul_left (W^n) h;rw[Nat.mul_succ,Nat.mul_zero,Nat.zero_add]at h3;omega
  have hal:(u.take n).length=n:=by rw[List.length_take];omega
  have hut:=hu.take n;simp (disch:=omega) only[wt,seval,reduceCtorEq,Nat.reduceEqDiff,natsr_len,natsr_at,Option.getD_some,hF];refine call_by (nshr_ok (u.take n) s hut (by omega) (by omega)) (by simp only[tocvs,tocv,hF,lims_take,lims_drop,List.drop_zero];rfl) (by simp only[lims_len];simp;omega) ?_;simp (disch:=omega) only[wt,seval,reduceCtorEq,Nat.reduceEqDiff,natsr_len,natsr_at,Option.getD_some,hF];refine callx_by ((normx_ok q hq (by omega))) (by first|rfl|(simp only[tocvs,tocv,toboxes,tobox,updH_at,Nat.reduceEqDiff,↓reduceIte,hF];rfl)) (by simp) (by first|rfl|assumption|(simp (disch:=omega) only[wt,seval,reduceCtorEq,Nat.reduceEqDiff,natsr_len,natsr_at,Option.getD_some,hF];done)|((repeat (replace hF:=hF.2));exact hF)) ?_;rintro B' E' _ hB hE' ⟨c,rfl,hc⟩;simp (disch:=omega) only[wt,seval,reduceCtorEq,Nat.reduceEqDiff,natsr_len,natsr_at,Option.getD_some,hF];have hpv:=nv_pad (m+1) (x*2^s);rw[hU0,Nat.mod_eq_of_lt hUlt,hE]at hpv;have hps:0<2^s:=Nat.pow_pos (by decide);have hV0:0<y*2^s:=Nat.zero_lt_of_lt hR;have eq1:nv q=x/y:=by
   rw[<-Nat.mul_div_mul_right x y hps,<-hpv,Nat.mul_comm (nv q),Nat.mul_add_div hV0,Nat.div_eq_of_lt hR,Nat.add_zero]
  have eq2:nv u=x%y*2^s:=by
   rw[<-Nat.mul_mod_mul_right,<-hpv,Nat.mul_comm (nv q),Nat.mul_add_mod,Nat.mod_eq_of_lt hR]
  rw[hun,eq1,eq2,Nat.mul_div_cancel _ hps];refine opn_done [.iv (fnat c (wd (x/y))),cl (wd (x%y))] (by first|rfl|assumption) (by first|(simp (disch:=omega) only[wt,seval,reduceCtorEq,Nat.reduceEqDiff,natsr_len,natsr_at,Option.getD_some,hF];done)|(simp (disch:=omega) only[wt,seval,reduceCtorEq,Nat.reduceEqDiff,natsr_len,natsr_at,Option.getD_some,hF];rfl)|rfl) ?_;intro E hE;exact⟨c,rfl,hc.mono hB (by omega)⟩
theorem knuth_ok (x y m n:Nat)(hm:(wd x).length=m)(hn:(wd y).length=n)(h2:2<=n)(hxy:y<=x)(hl:m<=2^38):AC Tryz.prog 262 [cl (wd x),cl (wd y)] none [cl (wd (x/y)),cl (wd (x%y))] :=
 ACX.plain (knuthx_ok x y m n hm hn h2 hxy hl) λB E r hr=>by
  obtain⟨b,rfl,-⟩:=hr;exact .cons (.iv soft_nat) (.cons (.refl _) .nil)
theorem mcut_ok (l:List Nat)(n:Nat)(h:Lim l)(hl:l.length<=2^40)(hn:n<=2^40):AC Tryz.prog 258 [cl l,ci n] none [cl (wd (nv l/W^n)),cl (wd (nv l%W^n))]:=by
 refine AC.by_walk (rs:=[.tmp 4,.tmp 5]) ords Tryz.func258 (by rfl) (by rfl) (by rfl) (by rfl) (by rfl) ?_;rw[<-nv_drop h,<-nv_take h];simp (disch:=omega) only[wt,seval,reduceCtorEq,Nat.reduceEqDiff];have e:min (n:Int) (l.length:Int)=((min n l.length:Nat):Int):=by omega
 rw[e];simp (disch:=omega) only[wt,seval,reduceCtorEq,Nat.reduceEqDiff];refine .inl ⟨tmps_by (by kernel_rfl),?_⟩;have e1:(l.drop (min n l.length)).take ((l.length:Int)-((min n l.length:Nat):Int)).toNat=l.drop n:=by
  rw[List.take_of_length_le (by rw[List.length_drop];omega)];by_cases hc:n<=l.length
  .rw[Nat.min_eq_left hc]
  .rw[Nat.min_eq_right (by omega),List.drop_of_length_le (by omega),List.drop_of_length_le (by omega)]
 have e2:l.take (min n l.length)=l.take n:=by
  by_cases hc:n<=l.length
  .rw[Nat.min_eq_left hc]
  .rw[Nat.min_eq_right (by omega),List.take_of_length_le (by omega),List.take_of_length_le (by omega)]
 rw[e1];refine call_by ((norm_ok (l.drop n) (h.drop n) (by rw[List.length_drop];omega))) (by rfl) (by simp) ?_;simp (disch:=omega) only[wt,seval,reduceCtorEq,Nat.reduceEqDiff];rw[e2];refine call_by ((norm_ok (l.take n) (h.take n) (by rw[List.length_take];omega))) (by rfl) (by simp) ?_;simp (disch:=omega) only[wt,seval,reduceCtorEq,Nat.reduceEqDiff]
 first|exact log_by (by kernel_rfl)|refine⟨log_by (by kernel_rfl),?_⟩
theorem lift_ok (l:List Nat)(n:Nat)(hl:l.length<=2^40)(hn:n<=2^40):AC Tryz.prog 259 [cl l,ci n] none [cl (liftl n l)]:=by
 refine AC.by_walk (rs:=[.tmp 4]) ords Tryz.func259 (by rfl) (by rfl) (by rfl) (by rfl) (by rfl) ?_;unfold liftl;simp (disch:=omega) only[wt,seval,reduceCtorEq,Nat.reduceEqDiff];refine if_by (λhz=>?_) (λhz=>?_)
 .have hz:l.length=0:=by omega
  simp (disch:=omega) only[wt,seval,reduceCtorEq,Nat.reduceEqDiff,hz]
 .have hz:¬l.length=0:=by omega
  simp (disch:=omega) only[wt,seval,reduceCtorEq,Nat.reduceEqDiff,hz]
def ProdOk (x y:Nat):Prop:=AC Tryz.prog 221 [cl (wd x),cl (wd y)] none [cl (wd (x*y))]
theorem halves_ok (x y:Nat)(m:Nat)(hm:m=((wd y).length+1)/2)(ih:∀u v,(wd u).length<=m+1->(wd v).length<=m+1->ProdOk u v)(hxy:(wd x).length<=(wd y).length)(hl:(wd y).length<=2^36) :
  AC Tryz.prog 247 [cl (wd x),cl (wd y)] none [cl (wd (x*y))]:=by
 refine AC.by_walk (rs:=[.tmp 4]) ords Tryz.func247 (by rfl) (by rfl) (by rfl) (by rfl) (by rfl) ?_;have hq:Int.tdiv ((wd y).length+1:Int) 2=(m:Int):=by rw[Int.tdiv_eq_ediv_of_nonneg (by omega)];omega
 have hlt:∀z,(wd z).length<=2*m->(wd (z/W^m)).length<=m/\(wd (z%W^m)).length<=m:=by
  intro z hz;refine⟨wd_len_le.mpr ?_,wd_len_le.mpr (Nat.mod_lt _ (W_pow_pos m))⟩;rw[Nat.div_lt_iff_lt_mul (W_pow_pos m),<-Nat.pow_add,<-Nat.two_mul];exact wd_len_le.mp hz
 obtain⟨hx1,hx0⟩:=hlt x (by omega);obtain⟨hy1,hy0⟩:=hlt y (by omega);obtain⟨hk,hle⟩:=kara x y (W^m) (W_pow_pos m) _ _ _ _ rfl rfl rfl rfl;simp (disch:=omega) only[wt,seval,reduceCtorEq,Nat.reduceEqDiff,hq];have c1:=mcut_ok (wd x) m (lim_wd x) (by omega) (by omega);have c2:=mcut_ok (wd y) m (lim_wd y) (by omega) (by omega);rw[nv_wd]at c1 c2;refine call_by (c1) (by rfl) (by simp) ?_;simp (disch:=omega) only[wt,seval,reduceCtorEq,Nat.reduceEqDiff];refine call_by (c2) (by rfl) (by simp) ?_;simp (disch:=omega) only[wt,seval,reduceCtorEq,Nat.reduceEqDiff];generalize x/W^m=x1 at *;generalize x%W^m=x0 at *;generalize y/W^m=y1 at *;generalize y%W^m=y0 at *;have p1:=ih x1 y1 (by omega) (by omega);have p0:=ih x0 y0 (by omega) (by omega);have ax:=wd_add_len x1 x0;have ay:=wd_add_len y1 y0;have pm:=ih (x1+x0) (y1+y0) (by omega) (by omega);unfold ProdOk at p1 p0 pm;have l1:=wd_mul_len x1 y1;have l0:=wd_mul_len x0 y0;have lm:=wd_mul_len (x1+x0) (y1+y0);refine call_by (p1) (by rfl) (by simp) ?_;simp (disch:=omega) only[wt,seval,reduceCtorEq,Nat.reduceEqDiff];refine call_by (p0) (by rfl) (by simp) ?_;simp (disch:=omega) only[wt,seval,reduceCtorEq,Nat.reduceEqDiff];have s1:=nadd_ok (wd x1) (wd x0) (lim_wd _) (lim_wd _) (by omega) (by omega);have s2:=nadd_ok (wd y1) (wd y0) (lim_wd _) (lim_wd _) (by omega) (by omega);have s3:=nadd_ok (wd (x1*y1)) (wd (x0*y0)) (lim_wd _) (lim_wd _) (by omega) (by omega);simp only[nv_wd]at s1 s2 s3;have ls:=wd_add_len (x1*y1) (x0*y0);refine call_by (s1) (by rfl) (by simp) ?_;simp (disch:=omega) only[wt,seval,reduceCtorEq,Nat.reduceEqDiff];refine call_by (s2) (by rfl) (by simp) ?_;simp (disch:=omega) only[wt,seval,reduceCtorEq,Nat.reduceEqDiff];refine call_by (pm) (by rfl) (by simp) ?_;simp (disch:=omega) only[wt,seval,reduceCtorEq,Nat.reduceEqDiff];refine call_by (s3) (by rfl) (by simp) ?_;simp (disch:=omega) only[wt,seval,reduceCtorEq,Nat.reduceEqDiff];have s4:=nsub_ok (wd ((x1+x0)*(y1+y0))) (wd (x1*y1+x0*y0)) (lim_wd _) (lim_wd _) (by omega) (by omega);simp only[nv_wd,if_neg (Nat.not_lt.mpr hle)]at s4;refine call_by (s4) (by rfl) (by simp) ?_;simp (disch:=omega) only[wt,seval,reduceCtorEq,Nat.reduceEqDiff];generalize hM:(x1+x0)*(y1+y0)-(x1*y1+x0*y0)=M at *;have lM:(wd M).length<=(wd ((x1+x0)*(y1+y0))).length:=wd_len_mono (by omega);have e2m:(2:Int)*(m:Int)=((2*m:Nat):Int):=by omega
 rw[e2m];refine call_by ((lift_ok (wd (x1*y1)) (2*m) (by omega) (by omega))) (by rfl) (by simp) ?_;simp (disch:=omega) only[wt,seval,reduceCtorEq,Nat.reduceEqDiff];refine call_by ((lift_ok (wd M) m (by omega) (by omega))) (by rfl) (by simp) ?_;simp (disch:=omega) only[wt,seval,reduceCtorEq,Nat.reduceEqDiff];have ll1:=liftl_len (2*m) (wd (x1*y1));have ll2:=liftl_len m (wd M);have s5:=nadd_ok (liftl (2*m) (wd (x1*y1))) (liftl m (wd M)) (lim_liftl _ (lim_wd _)) (lim_liftl _ (lim_wd _)) (by omega) (by omega);rw[nv_liftl,nv_liftl,nv_wd,nv_wd]at s5;refine call_by (s5) (by rfl) (by simp) ?_;simp (disch:=omega) only[wt,seval,reduceCtorEq,Nat.reduceEqDiff];have hxyl:=wd_mul_len x y;have e5:W^(2*m)*(x1*y1)+W^m*M+x0*y0=x*y:=by
  rw[<-hk,Nat.two_mul,Nat.pow_add]
 have s6:=nadd_ok (wd (W^(2*m)*(x1*y1)+W^m*M)) (wd (x0*y0)) (lim_wd _) (lim_wd _) (Nat.le_trans (wd_len_mono (Nat.le.intro e5)) (by omega)) (by omega);rw[nv_wd,nv_wd,e5]at s6;refine call_by (s6) (by rfl) (by simp) ?_;simp (disch:=omega) only[wt,seval,reduceCtorEq,Nat.reduceEqDiff]
theorem product_ok:∀(n x y:Nat),max (wd x).length (wd y).length<=n->(wd x).length<=2^36->(wd y).length<=2^36->ProdOk x y:=by
 intro n
 induction n using Nat.strongRecOn with
 |_ n ih =>
 intro x y hn hx hy;unfold ProdOk;refine AC.by_walk (rs:=[.tmp 4]) ords Tryz.func221 (by rfl) (by rfl) (by rfl) (by rfl) (by rfl) ?_;simp (disch:=omega) only[wt,seval,reduceCtorEq,Nat.reduceEqDiff];refine if_cut (λf H=>∃u v,(wd u).length<=(wd v).length/\(wd v).length<=2^36/\(wd v).length<=n/\u*v=x*y/\f 0=.iv (.sl (lims (wd u)))/\f 1=.iv (.sl (lims (wd v)))) ?_ ?_
 .refine if_by (λhz=>?_) (λhz=>?_)
  .simp (disch:=omega) only[wt,seval,reduceCtorEq,Nat.reduceEqDiff];exact⟨y,x,by omega,by omega,by omega,Nat.mul_comm _ _,rfl,rfl⟩
  .simp (disch:=omega) only[wt,seval,reduceCtorEq,Nat.reduceEqDiff];exact⟨x,y,by omega,by omega,by omega,rfl,rfl,rfl⟩
 rintro f H ⟨u,v,huv,hv,hvn,e,h0,h1⟩;rw[<-e];clear e hn hx hy;have hu:(wd u).length<=2^36:=by omega
 simp (disch:=omega) only[wt,seval,reduceCtorEq,Nat.reduceEqDiff,h0,h1];refine if_by (λhz=>?_) (λhz=>?_)
 .have hz:u=0:=wd_len_zero.mp (by omega);subst hz;simp (disch:=omega) only[wt,seval,reduceCtorEq,Nat.reduceEqDiff,Nat.zero_mul,wd_zero]
 simp (disch:=omega) only[wt,seval,reduceCtorEq,Nat.reduceEqDiff,h0,h1];refine if_by (λhz=>?_) (λhz=>?_)
 .simp (disch:=omega) only[wt,seval,reduceCtorEq,Nat.reduceEqDiff,h0,h1];refine call_by ((halves_ok u v (((wd v).length+1)/2) rfl (λa b ha hb=>ih (((wd v).length+1)/2+1) (by omega) a b (by omega) (by omega) (by omega)) huv hv)) (by first|rfl|(simp only[tocvs,tocv,toboxes,tobox,updH_at,Nat.reduceEqDiff,↓reduceIte,h0,h1];rfl)) (by simp) ?_;simp (disch:=omega) only[wt,seval,reduceCtorEq,Nat.reduceEqDiff,h0,h1]
 simp (disch:=omega) only[wt,seval,reduceCtorEq,Nat.reduceEqDiff,h0,h1];generalize hA:wd u=A at *;generalize hB:wd v=B at *;have lA:Lim A:=by rw[<-hA];exact lim_wd u
 have lB:Lim B:=by rw[<-hB];exact lim_wd v
 have eA:nv A=u:=by rw[<-hA];exact nv_wd u
 have eB:nv B=v:=by rw[<-hB];exact nv_wd v
 have eN:((A.length:Int)+(B.length:Int))=((A.length+B.length:Nat):Int):=by omega
 rw[eN];simp (disch:=omega) only[wt,seval,reduceCtorEq,Nat.reduceEqDiff,h0,h1];refine aloop_by (λf H=>∃(i:Nat) (out:List Nat) (st:Nat),i<=A.length/\Lim out/\out.length=A.length+B.length/\nv (out.take (i+B.length))=nv (A.take i)*nv B /\
  f 1=.iv (.sl (lims B))/\f 5=.hs 34 st/\f 35=.iv (.sl (lims A))/\f 36=.iv (.int .i64 A.length)/\f 37=.iv (.int .i64 i)/\H 34=.blk false st 93 1 (lims out)) (λf H=>(A.length-intAt f 37).toNat) ?_ ?_
 .refine⟨0,List.replicate (A.length+B.length) 0,(H 34).stamp+1,by omega,Lim.replicate _,by simp,?_,by simp (disch:=omega) only[wt,seval,reduceCtorEq,Nat.reduceEqDiff,h1],by simp (disch:=omega) only[wt,seval,reduceCtorEq,Nat.reduceEqDiff],by simp (disch:=omega) only[wt,seval,reduceCtorEq,Nat.reduceEqDiff,h0],by simp (disch:=omega) only[wt,seval,reduceCtorEq,Nat.reduceEqDiff,h0],by simp (disch:=omega) only[wt,seval,reduceCtorEq,Nat.reduceEqDiff],by simp (disch:=omega) only[wt,seval,reduceCtorEq,Nat.reduceEqDiff,Int.toNat_natCast]⟩;rw[List.take_replicate,Nat.zero_add];simp[nv,vl_replicate,vl]
 clear h0 h1;rintro f H ⟨i,out,st,hi,hO,hOl,hOv,h1,h5,h35,h36,h37,hH⟩;rw[intAt_of h37];simp (disch:=omega) only[wt,seval,reduceCtorEq,Nat.reduceEqDiff,h1,h5,h35,h36,h37,hH];refine if_by (λhlt=>?_) (λhlt=>?_)
 .simp (disch:=omega) only[wt,seval,reduceCtorEq,Nat.reduceEqDiff,h1,h5,h35,h36,h37,hH];refine aloop_by (λf H=>∃(j c:Nat) (out:List Nat) (st:Nat),j<=B.length/\c<W/\Lim out/\out.length=A.length+B.length/\nv (out.take (i+B.length))+W^(i+j)*c=nv (A.take i)*nv B+(W^i*A.getD i 0)*nv (B.take j) /\
   f 1=.iv (.sl (lims B))/\f 5=.hs 34 st/\f 6=.iv (.int .i64 i)/\f 7=.iv (.int .u64 (A.getD i 0:Nat))/\f 8=.iv (.int .u64 c)/\f 35=.iv (.sl (lims A))/\f 36=.iv (.int .i64 A.length)/\f 37=.iv (.int .i64 i)/\f 42=.iv (.sl (lims B))/\f 43=.iv (.int .i64 B.length)/\f 44=.iv (.int .i64 j)/\H 34=.blk false st 93 1 (lims out)) (λf H=>(B.length-intAt f 44).toNat) ?_ ?_
  .refine⟨0,0,out,st,by omega,by decide,hO,hOl,?_,by simp (disch:=omega) only[wt,seval,reduceCtorEq,Nat.reduceEqDiff,h1],by simp (disch:=omega) only[wt,seval,reduceCtorEq,Nat.reduceEqDiff,h5],by simp (disch:=omega) only[wt,seval,reduceCtorEq,Nat.reduceEqDiff],by simp (disch:=omega) only[wt,seval,reduceCtorEq,Nat.reduceEqDiff],by simp (disch:=omega) only[wt,seval,reduceCtorEq,Nat.reduceEqDiff],by simp (disch:=omega) only[wt,seval,reduceCtorEq,Nat.reduceEqDiff,h35],by simp (disch:=omega) only[wt,seval,reduceCtorEq,Nat.reduceEqDiff,h36],by simp (disch:=omega) only[wt,seval,reduceCtorEq,Nat.reduceEqDiff,h37],by simp (disch:=omega) only[wt,seval,reduceCtorEq,Nat.reduceEqDiff],by simp (disch:=omega) only[wt,seval,reduceCtorEq,Nat.reduceEqDiff],by simp (disch:=omega) only[wt,seval,reduceCtorEq,Nat.reduceEqDiff],by simp (disch:=omega) only[wt,seval,reduceCtorEq,Nat.reduceEqDiff,hH]⟩;rw[hOv];simp[nv,vl]
  have hAi:=lA.get i;clear h1 h5 h35 h36 h37 hH hOv hO hOl;clear out st f H;rintro f H ⟨j,c,out,st,hj,hc,hO,hOl,hOv,h1,h5,h6,h7,h8,h35,h36,h37,h42,h43,h44,hH⟩;rw[intAt_of h44];simp (disch:=omega) only[wt,seval,reduceCtorEq,Nat.reduceEqDiff,h1,h5,h6,h7,h8,h35,h36,h37,h42,h43,h44,hH];refine if_by (λhlj=>?_) (λhlj=>?_)
  .simp (disch:=omega) only[wt,seval,reduceCtorEq,Nat.reduceEqDiff,h1,h5,h6,h7,h8,h35,h36,h37,h42,h43,h44,hH];have eij:(i:Int)+(j:Int)=((i+j:Nat):Int):=by omega
   rw[eij];simp (disch:=omega) only[wt,seval,reduceCtorEq,Nat.reduceEqDiff,h1,h5,h6,h7,h8,h35,h36,h37,h42,h43,h44,hH];have hBj:=lB.get j;have hOij:=hO.get (i+j);refine call_by ((mulw_ok (B.getD j 0) (A.getD i 0) c (out.getD (i+j) 0) hBj hAi hc hOij)) (by first|rfl|(simp only[tocvs,tocv,toboxes,tobox,updH_at,Nat.reduceEqDiff,↓reduceIte,h1,h5,h6,h7,h8,h35,h36,h37,h42,h43,h44,hH];rfl)) (by simp) ?_;simp (disch:=omega) only[wt,seval,reduceCtorEq,Nat.reduceEqDiff,h1,h5,h6,h7,h8,h35,h36,h37,h42,h43,h44,hH];have hm:B.getD j 0*A.getD i 0<=18446744073709551615*18446744073709551615:=Nat.mul_le_mul (by simp only[W]at hBj;omega) (by simp only[W]at hAi;omega);refine⟨⟨j+1,(B.getD j 0*A.getD i 0+c+out.getD (i+j) 0)/W,out.set (i+j) ((B.getD j 0*A.getD i 0+c+out.getD (i+j) 0)%W),st,by omega,by simp only[W]at *;omega,hO.set (Nat.mod_lt _ (by decide)),by simp[hOl],?_,rfl,rfl,by omega,rfl⟩,by omega⟩;have hT:=nv_set_take (l:=out) (k:=i+j) (m:=i+B.length) (by omega) (by omega) ((B.getD j 0*A.getD i 0+c+out.getD (i+j) 0)%W);have hN:nv (B.take (j+1))=nv (B.take j)+W^j*B.getD j 0:=vl_take_next W B j;rw[hN,Nat.mul_add,<-Nat.add_assoc i j 1,Nat.pow_succ];have hR:=row_step (A:=B.getD j 0*A.getD i 0) (hi:=(B.getD j 0*A.getD i 0+c+out.getD (i+j) 0)/W) hOv hT (by rw[Nat.mul_comm];exact Nat.div_add_mod _ _);rw[hR]
   congr 2
   rw[Nat.pow_add];ac_rfl
  .simp (disch:=omega) only[wt,seval,reduceCtorEq,Nat.reduceEqDiff,h1,h5,h6,h7,h8,h35,h36,h37,h42,h43,h44,hH];have hjB:j=B.length:=by omega
   subst hjB;have eij:(i:Int)+(B.length:Int)=((i+B.length:Nat):Int):=by omega
   rw[eij];simp (disch:=omega) only[wt,seval,reduceCtorEq,Nat.reduceEqDiff,h1,h5,h6,h7,h8,h35,h36,h37,h42,h43,h44,hH];refine⟨⟨i+1,out.set (i+B.length) c,st,by omega,hO.set hc,by simp[hOl],?_,rfl,by omega,rfl⟩,by omega⟩;rw[show i+1+B.length=(i+B.length)+1 by omega];have hT:nv ((out.set (i+B.length) c).take (i+B.length+1))=nv (out.take (i+B.length))+W^(i+B.length)*c:=vl_take_set W (by omega) c;have hN:nv (A.take (i+1))=nv (A.take i)+W^i*A.getD i 0:=vl_take_next W A i;rw[List.take_length]at hOv;rw[hT,hOv,hN,Nat.add_mul]
 .simp (disch:=omega) only[wt,seval,reduceCtorEq,Nat.reduceEqDiff,h1,h5,h35,h36,h37,hH];have hiA:i=A.length:=by omega
  subst hiA;rw[List.take_of_length_le (by omega),List.take_of_length_le (by omega),eA,eB]at hOv;have t:=trim_ok out (by omega);rw[<-wd_nv hO,hOv]at t;refine call_by (t) (by first|rfl|(simp only[tocvs,tocv,toboxes,tobox,updH_at,Nat.reduceEqDiff,↓reduceIte,h1,h5,h35,h36,h37,hH];rfl)) (by simp) ?_;simp (disch:=omega) only[wt,seval,reduceCtorEq,Nat.reduceEqDiff,h1,h5,h35,h36,h37,hH]
theorem mmul_ok (a b:List Nat)(ha:Lim a)(hb:Lim b)(hla:a.length<=2^36)(hlb:b.length<=2^36):AC Tryz.prog 170 [cl a,cl b] none [cl (wd (nv a*nv b))]:=by
 refine AC.by_walk (rs:=[.tmp 4]) ords Tryz.func170 (by rfl) (by rfl) (by rfl) (by rfl) (by rfl) ?_;have h1:=nv_len ha;have h2:=nv_len hb;simp (disch:=omega) only[wt,seval,reduceCtorEq,Nat.reduceEqDiff];refine call_by ((norm_ok a ha (by omega))) (by rfl) (by simp) ?_;simp (disch:=omega) only[wt,seval,reduceCtorEq,Nat.reduceEqDiff];refine call_by ((norm_ok b hb (by omega))) (by rfl) (by simp) ?_;simp (disch:=omega) only[wt,seval,reduceCtorEq,Nat.reduceEqDiff];have p:=product_ok _ (nv a) (nv b) (Nat.le_refl _) (by omega) (by omega);unfold ProdOk at p;refine call_by (p) (by rfl) (by simp) ?_;simp (disch:=omega) only[wt,seval,reduceCtorEq,Nat.reduceEqDiff]
theorem zmul_ok (a b:RI)(ha:Sz (2^36) a)(hb:Sz (2^36) b):AC Tryz.prog 111 [cr a,cr b] none [cz (iv a*iv b)]:=by
 refine AC.by_walk (rs:=[.cell 4 44]) ords Tryz.func111 (by rfl) (by rfl) (by rfl) (by rfl) (by rfl) ?_;rw[iv_mul];have h1:=ha.1;have h2:=hb.1;simp (disch:=omega) only[wt,seval,reduceCtorEq,Nat.reduceEqDiff];refine .inl ⟨tmps_by (by kernel_rfl),?_⟩;refine call_by ((mmul_ok a.2 b.2 ha.2 hb.2 (by omega) (by omega))) (by rfl) (by simp) ?_;simp (disch:=omega) only[wt,seval,reduceCtorEq,Nat.reduceEqDiff];have hb:(!(a.1 == b.1))=(a.1 != b.1):=rfl;rw[hb];refine call_by ((zof_ok (a.1 != b.1) (nv a.2*nv b.2))) (by rfl) (by simp) ?_;simp (disch:=omega) only[wt,seval,reduceCtorEq,Nat.reduceEqDiff]
 first|exact log_by (by kernel_rfl)|refine⟨log_by (by kernel_rfl),?_⟩
abbrev cw (p:List RI):CV:=.iv (.sl (raws p))
abbrev cp (q:List Int):CV:=.iv (.sl (cpoly q))
theorem cp_ext {p q:List Int}(h:∀k,cf p k=cf q k):cp p=cp q:=by unfold cp;rw[cpoly_ext h]
theorem wrap_neg_u64 {n:Int}(h : -9223372036854775808<=n)(h':n<0):IntKind.u64.wrap (0-IntKind.u64.wrap n)=((n.natAbs:Nat):Int):=by
 simp only[IntKind.wrap,IntKind.signed,IntKind.bits,Bool.false_and,Bool.false_eq_true,if_false];omega
theorem wrap_pos_u64 {n:Int}(h:0<=n)(h':n<=9223372036854775807):IntKind.u64.wrap n=((n.natAbs:Nat):Int):=by
 simp only[IntKind.wrap,IntKind.signed,IntKind.bits,Bool.false_and,Bool.false_eq_true,if_false];omega
theorem zOf_ok (n:Int)(h : -9223372036854775808<=n)(h':n<=9223372036854775807):AC Tryz.prog 56 [ci n] none [cz n]:=by
 refine AC.by_walk (rs:=[.cell 2 44]) ords Tryz.func56 (by rfl) (by rfl) (by rfl) (by rfl) (by rfl) ?_;simp (disch:=omega) only[wt,seval,reduceCtorEq,Nat.reduceEqDiff];refine if_by (λhn=>?_) (λhn=>?_)
 .simp (disch:=omega) only[wt,seval,reduceCtorEq,Nat.reduceEqDiff];rw[wrap_neg_u64 h hn];refine call_by ((nof_ok n.natAbs (by simp only[W];omega))) (by rfl) (by simp) ?_;simp (disch:=omega) only[wt,seval,reduceCtorEq,Nat.reduceEqDiff];have e:n=sg true n.natAbs:=by unfold sg;simp;omega
  have:=zof_ok true n.natAbs;rw[<-e]at this;refine call_by (this) (by rfl) (by simp) ?_;simp (disch:=omega) only[wt,seval,reduceCtorEq,Nat.reduceEqDiff]
 .simp (disch:=omega) only[wt,seval,reduceCtorEq,Nat.reduceEqDiff];rw[wrap_pos_u64 (by omega) h'];refine call_by ((nof_ok n.natAbs (by simp only[W];omega))) (by rfl) (by simp) ?_;simp (disch:=omega) only[wt,seval,reduceCtorEq,Nat.reduceEqDiff];have e:n=sg false n.natAbs:=by unfold sg;simp;omega
  have:=zof_ok false n.natAbs;rw[<-e]at this;refine call_by (this) (by rfl) (by simp) ?_;simp (disch:=omega) only[wt,seval,reduceCtorEq,Nat.reduceEqDiff]
theorem size_ok (p:List RI)(h:RP (2^40) (2^40) p):AC Tryz.prog 146 [cw p] none [ci (tz (pv p))]:=by
 refine AC.by_walk (rs:=[.tmp 2]) ords Tryz.func146 (by rfl) (by rfl) (by rfl) (by rfl) (by rfl) ?_;have hl:=h.1;simp (disch:=omega) only[wt,seval,reduceCtorEq,Nat.reduceEqDiff];refine aloop_by (λf H=>∃k:Nat,k<=p.length/\f 0=.iv (.sl (raws p))/\f 3=.iv (.int .i64 k)/\tz ((pv p).take k)=tz (pv p)) (λf H=>(intAt f 3).toNat) ?_ ?_
 .exact⟨p.length,Nat.le_refl _,by simp (disch:=omega) only[wt,seval,reduceCtorEq,Nat.reduceEqDiff],by simp (disch:=omega) only[wt,seval,reduceCtorEq,Nat.reduceEqDiff],by rw[<-pv_len p,List.take_length]⟩
 rintro f H ⟨k,hk,h0,h3,ht⟩;rw[intAt_of h3];by_cases hc:0<(k:Int)
 .simp (disch:=omega) only[wt,seval,reduceCtorEq,Nat.reduceEqDiff,h0,h3,hc];have ek:((k:Int)-1).toNat=k-1:=by omega
  have ek':k=(k-1)+1:=by omega
  rw[ek];refine call_by ((zsign_ok (p.getD (k-1) (false,[])) (h.get _))) (by first|rfl|(simp only[tocvs,tocv,toboxes,tobox,updH_at,Nat.reduceEqDiff,↓reduceIte,h0,h3,hc];rfl)) (by simp) ?_;simp (disch:=omega) only[wt,seval,reduceCtorEq,Nat.reduceEqDiff,h0,h3,hc];rw[<-cf_pv];refine if_by (λhz=>?_) (λhz=>?_)
  .simp (disch:=omega) only[wt,seval,reduceCtorEq,Nat.reduceEqDiff,h0,h3];refine⟨⟨k-1,by omega,by omega,?_⟩,by omega⟩;rw[<-tz_take_zero (k:=k-1) (by rw[pv_len];omega) (Int.sign_eq_zero_iff_zero.mp hz),<-ek',ht]
  .simp (disch:=omega) only[wt,seval,reduceCtorEq,Nat.reduceEqDiff,h0,h3];rw[<-ht,ek',tz_full (by rw[pv_len];omega) (λe=>hz (Int.sign_eq_zero_iff_zero.mpr e))]
 .simp (disch:=omega) only[wt,seval,reduceCtorEq,Nat.reduceEqDiff,h0,h3,hc];obtain rfl:k=0:=by omega
  rw[<-ht];rfl
theorem trimz_take_succ {q:List Int}{k:Nat}(h:k<tz q):(trimz q).take (k+1)=(trimz q).take k++[cf q k]:=by
 rw[List.take_add_one]
 congr 1
 rw[<-cf_trimz];have:k<(trimz q).length:=by rw[trimz_len];exact h
 simp[cf,List.getD,this]
theorem pnorm_ok (p:List RI)(h:RP (2^40) (2^40) p):AC Tryz.prog 81 [cw p] none [cp (pv p)]:=by
 refine AC.by_walk (rs:=[.tmp 2]) ords Tryz.func81 (by rfl) (by rfl) (by rfl) (by rfl) (by rfl) ?_;have hl:=h.1;have htl:=tz_le (pv p);rw[pv_len]at htl;simp (disch:=omega) only[wt,seval,reduceCtorEq,Nat.reduceEqDiff];refine call_by ((size_ok p h)) (by rfl) (by simp) ?_;simp (disch:=omega) only[wt,seval,reduceCtorEq,Nat.reduceEqDiff];refine aloop_nil 3 3 44 2 (by simp (disch:=omega) only[wt,seval,reduceCtorEq,Nat.reduceEqDiff]) (λf H=>∃(k st:Nat),k<=tz (pv p)/\f 0=.iv (.sl (raws p))/\f 3=.hs 3 st/\f 6=.iv (.int .i64 (tz (pv p)))/\f 7=.iv (.int .i64 k)/\H 3=.blk false st 44 2 (raws (((trimz (pv p)).take k).map canon))) (λf H=>(tz (pv p)-intAt f 7).toNat) ?_ ?_
 .refine⟨0,1,by omega,?_⟩;simp (disch:=omega) only[wt,seval,reduceCtorEq,Nat.reduceEqDiff,ghostF,ghostH,List.take_zero]
 rintro f H ⟨k,st,hk,h0,h3,h6,h7,hH⟩;rw[intAt_of h7];simp (disch:=omega) only[wt,seval,reduceCtorEq,Nat.reduceEqDiff,h0,h3,h6,h7,hH];refine if_by (λhlt=>?_) (λhlt=>?_)
 .simp (disch:=omega) only[wt,seval,reduceCtorEq,Nat.reduceEqDiff,h0,h3,h6,h7,hH];have hq:(((trimz (pv p)).take k).map canon).length=k:=by rw[List.length_map,List.length_take,trimz_len];omega
  refine call_by ((znorm_ok (p.getD k (false,[])) (h.get _))) (by first|rfl|(simp only[tocvs,tocv,toboxes,tobox,updH_at,Nat.reduceEqDiff,↓reduceIte,h0,h3,h6,h7,hH,hq];rfl)) (by simp) ?_;simp (disch:=omega) only[wt,seval,reduceCtorEq,Nat.reduceEqDiff,h0,h3,h6,h7,hH,hq];refine⟨⟨k+1,st+1,by omega,rfl,by omega,?_⟩,by omega⟩;rw[trimz_take_succ (by omega),cf_pv]
 .simp (disch:=omega) only[wt,seval,reduceCtorEq,Nat.reduceEqDiff,h0,h3,h6,h7,hH];have hk:k=tz (pv p):=by omega
  rw[hk,List.take_of_length_le (by rw[trimz_len];exact Nat.le_refl _)];rfl
theorem pat_ok (p:List RI)(i:Nat)(hl:p.length<=2^40)(hi:i<=2^40):AC Tryz.prog 150 [cw p,ci i] none [cr (p.getD i (false,[]))]:=by
 refine AC.by_walk (rs:=[.cell 4 44]) ords Tryz.func150 (by rfl) (by rfl) (by rfl) (by rfl) (by rfl) ?_;have hi0:¬(i:Int)<0:=by omega
 simp (disch:=omega) only[wt,seval,reduceCtorEq,Nat.reduceEqDiff,hi0];refine if_by (λhn=>?_) (λhn=>?_)
 .simp (disch:=omega) only[wt,seval,reduceCtorEq,Nat.reduceEqDiff];have e:p.getD i (false,[])=(false,[]):=by rw[List.getD_eq_getElem?_getD,List.getElem?_eq_none (by omega)];rfl
  rw[e]
 .simp (disch:=omega) only[wt,seval,reduceCtorEq,Nat.reduceEqDiff]
theorem padd_ok (a b:List RI)(ha:RP (2^30) (2^36) a)(hb:RP (2^30) (2^36) b):AC Tryz.prog 83 [cw a,cw b] none [cp (padd (pv a) (pv b))]:=by
 refine AC.by_walk (rs:=[.tmp 4]) ords Tryz.func83 (by rfl) (by rfl) (by rfl) (by rfl) (by rfl) ?_;have hla:=ha.1;have hlb:=hb.1;simp (disch:=omega) only[wt,seval,reduceCtorEq,Nat.reduceEqDiff];generalize hn:max a.length b.length=n at *;have hnI:max (a.length:Int) (b.length:Int)=(n:Int):=by omega
 rw[hnI];simp (disch:=omega) only[wt,seval,reduceCtorEq,Nat.reduceEqDiff];refine aloop_by (λf H=>∃(i st:Nat) (out:List Int),i<=n/\out.length=n/\(∀k,zl (cf out k)<=2^36+1)/\(∀k,k<i->cf out k=cf (pv a) k+cf (pv b) k) /\
  f 0=.iv (.sl (raws a))/\f 1=.iv (.sl (raws b))/\f 5=.hs 12 st/\f 14=.iv (.int .i64 n)/\f 15=.iv (.int .i64 i)/\H 12=.blk false st 44 2 (raws (out.map canon))) (λf H=>(n-intAt f 15).toNat) ?_ ?_
 .exact⟨0,1,List.replicate n 0,by omega,by simp,λk=>by rw[cf_rep,zl_zero];omega,λk hk=>by omega,by simp (disch:=omega) only[wt,seval,reduceCtorEq,Nat.reduceEqDiff],by simp (disch:=omega) only[wt,seval,reduceCtorEq,Nat.reduceEqDiff],by simp (disch:=omega) only[wt,seval,reduceCtorEq,Nat.reduceEqDiff],by simp (disch:=omega) only[wt,seval,reduceCtorEq,Nat.reduceEqDiff],by simp (disch:=omega) only[wt,seval,reduceCtorEq,Nat.reduceEqDiff],by simp (disch:=omega) only[wt,seval,reduceCtorEq,Nat.reduceEqDiff,Int.toNat_natCast,rep_canon]⟩
 rintro f H ⟨i,st,out,hi,hol,hz,hv,h0,h1,h5,h14,h15,hH⟩;rw[intAt_of h15];simp (disch:=omega) only[wt,seval,reduceCtorEq,Nat.reduceEqDiff,h0,h1,h5,h14,h15,hH];refine if_by (λhlt=>?_) (λhlt=>?_)
 .have hq:(out.map canon).length=n:=by rw[List.length_map,hol]
  simp (disch:=omega) only[wt,seval,reduceCtorEq,Nat.reduceEqDiff,h0,h1,h5,h14,h15,hH,hq];refine call_by ((pat_ok a i (by omega) (by omega))) (by first|rfl|(simp only[tocvs,tocv,toboxes,tobox,updH_at,Nat.reduceEqDiff,↓reduceIte,h0,h1,h5,h14,h15,hH,hq];rfl)) (by simp) ?_;simp (disch:=omega) only[wt,seval,reduceCtorEq,Nat.reduceEqDiff,h0,h1,h5,h14,h15,hH,hq];refine call_by ((pat_ok b i (by omega) (by omega))) (by first|rfl|(simp only[tocvs,tocv,toboxes,tobox,updH_at,Nat.reduceEqDiff,↓reduceIte,h0,h1,h5,h14,h15,hH,hq];rfl)) (by simp) ?_;simp (disch:=omega) only[wt,seval,reduceCtorEq,Nat.reduceEqDiff,h0,h1,h5,h14,h15,hH,hq];refine call_by ((zadd_ok (a.getD i (false,[])) (b.getD i (false,[])) ((ha.get i).mono (by omega)) ((hb.get i).mono (by omega)))) (by first|rfl|(simp only[tocvs,tocv,toboxes,tobox,updH_at,Nat.reduceEqDiff,↓reduceIte,h0,h1,h5,h14,h15,hH,hq];rfl)) (by simp) ?_;simp (disch:=omega) only[wt,seval,reduceCtorEq,Nat.reduceEqDiff,h0,h1,h5,h14,h15,hH,hq];rw[<-cf_pv,<-cf_pv];refine⟨⟨i+1,st,out.set i (cf (pv a) i+cf (pv b) i),by omega,by simp[hol],λk=>?_,λk hk=>?_,rfl,by omega,rfl⟩,by omega⟩
  .rw[cf_set (by omega)];split
   .have:=zl_add (cf (pv a) i) (cf (pv b) i);have:=ha.pv.cf i;have:=hb.pv.cf i;omega
   .exact hz k
  .rw[cf_set (by omega)];split
   .rename_i e;rw[e]
   .exact hv k (by omega)
 .simp (disch:=omega) only[wt,seval,reduceCtorEq,Nat.reduceEqDiff,h0,h1,h5,h14,h15,hH];have e:cp (padd (pv a) (pv b))=cp (pv (out.map canon)):=by
   refine cp_ext λk=>?_;rw[pv_canon,cf_padd];by_cases hk:k<n
   .exact(hv k (by omega)).symm
   .rw[cf_ge (q:=out) (by omega),cf_ge (by rw[pv_len];omega),cf_ge (by rw[pv_len];omega)];rfl
  rw[e];refine call_by ((pnorm_ok (out.map canon) (RP.canon (.of (by omega) λk=>Nat.le_trans (hz k) (by omega))))) (by first|rfl|(simp only[tocvs,tocv,toboxes,tobox,updH_at,Nat.reduceEqDiff,↓reduceIte,h0,h1,h5,h14,h15,hH];rfl)) (by simp) ?_;simp (disch:=omega) only[wt,seval,reduceCtorEq,Nat.reduceEqDiff,h0,h1,h5,h14,h15,hH]
theorem pscale_ok (p:List RI)(c:RI)(hp:RP (2^30) (2^35) p)(hc:Sz (2^35) c):AC Tryz.prog 201 [cw p,cr c] none [cp (pscale (iv c) (pv p))]:=by
 refine AC.by_walk (rs:=[.tmp 4]) ords Tryz.func201 (by rfl) (by rfl) (by rfl) (by rfl) (by rfl) ?_;have hl:=hp.1;simp (disch:=omega) only[wt,seval,reduceCtorEq,Nat.reduceEqDiff];refine aloop_by (λf H=>∃(i st st3:Nat) (out:List Int),i<=p.length/\out.length=p.length/\(∀k,zl (cf out k)<=2^36)/\(∀k,k<i->cf out k=cf (pv p) k*iv c) /\
  f 0=.iv (.sl (raws p))/\f 3=.hp 3 st3 0 0/\f 5=.hs 9 st/\f 11=.iv (.int .i64 p.length)/\f 12=.iv (.int .i64 i)/\H 9=.blk false st 44 2 (raws (out.map canon))/\H 3=.blk false st3 44 2 [prow c]) (λf H=>(p.length-intAt f 12).toNat) ?_ ?_
 .exact⟨0,1,1,List.replicate p.length 0,by omega,by simp,λk=>by rw[cf_rep,zl_zero];omega,λk hk=>by omega,by simp (disch:=omega) only[wt,seval,reduceCtorEq,Nat.reduceEqDiff],by simp (disch:=omega) only[wt,seval,reduceCtorEq,Nat.reduceEqDiff],by simp (disch:=omega) only[wt,seval,reduceCtorEq,Nat.reduceEqDiff],by simp (disch:=omega) only[wt,seval,reduceCtorEq,Nat.reduceEqDiff],by simp (disch:=omega) only[wt,seval,reduceCtorEq,Nat.reduceEqDiff],by simp (disch:=omega) only[wt,seval,reduceCtorEq,Nat.reduceEqDiff,Int.toNat_natCast,rep_canon],by simp (disch:=omega) only[wt,seval,reduceCtorEq,Nat.reduceEqDiff]⟩
 rintro f H ⟨i,st,st3,out,hi,hol,hz,hv,h0,h3,h5,h11,h12,hH,hH3⟩;rw[intAt_of h12];simp (disch:=omega) only[wt,seval,reduceCtorEq,Nat.reduceEqDiff,h0,h3,h5,h11,h12,hH,hH3];refine if_by (λhlt=>?_) (λhlt=>?_)
 .have hq:(out.map canon).length=p.length:=by rw[List.length_map,hol]
  simp (disch:=omega) only[wt,seval,reduceCtorEq,Nat.reduceEqDiff,h0,h3,h5,h11,h12,hH,hH3,hq];refine .inl ⟨tmps_by (by kernel_rfl),?_⟩;refine call_by ((zmul_ok (p.getD i (false,[])) c ((hp.get i).mono (by omega)) (hc.mono (by omega)))) (by first|rfl|(simp only[tocvs,tocv,toboxes,tobox,updH_at,Nat.reduceEqDiff,↓reduceIte,h0,h3,h5,h11,h12,hH,hH3,hq];rfl)) (by simp) ?_;simp (disch:=omega) only[wt,seval,reduceCtorEq,Nat.reduceEqDiff,h0,h3,h5,h11,h12,hH,hH3,hq];rw[<-cf_pv]
  first|exact log_by (by kernel_rfl)|refine⟨log_by (by kernel_rfl),?_⟩
  refine⟨⟨i+1,st,st3,out.set i (cf (pv p) i*iv c),by omega,by simp[hol],λk=>?_,λk hk=>?_,rfl,rfl,by omega,rfl,rfl⟩,by omega⟩
  .rw[cf_set (by omega)];split
   .have:=zl_mul (cf (pv p) i) (iv c);have:=hp.pv.cf i;have:=zl_iv hc;omega
   .exact hz k
  .rw[cf_set (by omega)];split
   .rename_i e;rw[e]
   .exact hv k (by omega)
 .simp (disch:=omega) only[wt,seval,reduceCtorEq,Nat.reduceEqDiff,h0,h3,h5,h11,h12,hH,hH3];have e:cp (pscale (iv c) (pv p))=cp (pv (out.map canon)):=by
   refine cp_ext λk=>?_;rw[pv_canon,cf_pscale];by_cases hk:k<p.length
   .exact(hv k (by omega)).symm
   .rw[cf_ge (q:=out) (by omega),cf_ge (by rw[pv_len];omega)];simp
  rw[e];refine call_by ((pnorm_ok (out.map canon) (RP.canon (.of (by omega) λk=>Nat.le_trans (hz k) (by omega))))) (by first|rfl|(simp only[tocvs,tocv,toboxes,tobox,updH_at,Nat.reduceEqDiff,↓reduceIte,h0,h3,h5,h11,h12,hH,hH3];rfl)) (by simp) ?_;simp (disch:=omega) only[wt,seval,reduceCtorEq,Nat.reduceEqDiff,h0,h3,h5,h11,h12,hH,hH3]
theorem pneg_ok (p:List RI)(hp:RP (2^30) (2^35) p):AC Tryz.prog 246 [cw p] none [cp (pscale (-1) (pv p))]:=by
 refine AC.by_walk (rs:=[.tmp 2]) ords Tryz.func246 (by rfl) (by rfl) (by rfl) (by rfl) (by rfl) ?_;simp (disch:=omega) only[wt,seval,reduceCtorEq,Nat.reduceEqDiff];refine call_by ((zOf_ok (-1) (by omega) (by omega))) (by rfl) (by simp) ?_;simp (disch:=omega) only[wt,seval,reduceCtorEq,Nat.reduceEqDiff];have:=pscale_ok p (canon (-1)) hp ((sz_canon (-1)).mono (by have:zl (-1)<=1:=zl_le.mpr (by decide);omega));rw[iv_canon]at this;refine call_by (this) (by rfl) (by simp) ?_;simp (disch:=omega) only[wt,seval,reduceCtorEq,Nat.reduceEqDiff]
theorem psub_ok (a b:List RI)(ha:RP (2^30) (2^36) a)(hb:RP (2^30) (2^35) b):AC Tryz.prog 220 [cw a,cw b] none [cp (padd (pv a) (pscale (-1) (pv b)))]:=by
 refine AC.by_walk (rs:=[.tmp 4]) ords Tryz.func220 (by rfl) (by rfl) (by rfl) (by rfl) (by rfl) ?_;simp (disch:=omega) only[wt,seval,reduceCtorEq,Nat.reduceEqDiff];refine call_by ((pneg_ok b hb)) (by rfl) (by simp) ?_;simp (disch:=omega) only[wt,seval,reduceCtorEq,Nat.reduceEqDiff];have h1:zl (-1)<=1:=zl_le.mpr (by decide);have:=padd_ok a ((trimz (pscale (-1) (pv b))).map canon) ha (RP.canon (hb.pv.pscale.trimz.mono (by omega) (by omega)));have e:cp (padd (pv a) (pv ((trimz (pscale (-1) (pv b))).map canon)))=cp (padd (pv a) (pscale (-1) (pv b))):=by
  refine cp_ext λk=>?_;rw[pv_canon,cf_padd,cf_padd,cf_trimz]
 rw[e]at this;refine call_by (this) (by rfl) (by simp) ?_;simp (disch:=omega) only[wt,seval,reduceCtorEq,Nat.reduceEqDiff]
theorem pdeg_ok (p:List RI)(h:RP (2^40) (2^40) p):AC Tryz.prog 90 [cw p] none [ci ((tz (pv p):Int)-1)]:=by
 refine AC.by_walk (rs:=[.tmp 2]) ords Tryz.func90 (by rfl) (by rfl) (by rfl) (by rfl) (by rfl) ?_;have hl:=h.1;have htl:=tz_le (pv p);rw[pv_len]at htl;simp (disch:=omega) only[wt,seval,reduceCtorEq,Nat.reduceEqDiff];refine call_by ((size_ok p h)) (by rfl) (by simp) ?_;simp (disch:=omega) only[wt,seval,reduceCtorEq,Nat.reduceEqDiff]
theorem pmul_ok (a b:List RI)(ha:RP (2^30) (2^35) a)(hb:RP (2^30) (2^35) b):AC Tryz.prog 84 [cw a,cw b] none [cp (pmul (pv a) (pv b))]:=by
 refine AC.by_walk (rs:=[.tmp 4]) ords Tryz.func84 (by rfl) (by rfl) (by rfl) (by rfl) (by rfl) ?_;have pa:=ha.pv.trimz;have pb:=hb.pv.trimz;have e0:cp (pmul (pv a) (pv b))=cp (pmul (trimz (pv a)) (trimz (pv b))):=by
  refine cp_ext λk=>?_;rw[cf_pmul,cf_pmul,cv_cf_congr (λj=>(cf_trimz (pv a) j).symm),cv_congr _ k (λj=>(cf_trimz (pv b) j).symm)]
 rw[e0];simp (disch:=omega) only[wt,seval,reduceCtorEq,Nat.reduceEqDiff];refine call_by ((pnorm_ok a (ha.mono (by omega) (by omega)))) (by rfl) (by simp) ?_;simp (disch:=omega) only[wt,seval,reduceCtorEq,Nat.reduceEqDiff];refine call_by ((pnorm_ok b (hb.mono (by omega) (by omega)))) (by rfl) (by simp) ?_;simp (disch:=omega) only[wt,seval,reduceCtorEq,Nat.reduceEqDiff];unfold cpoly;generalize trimz (pv a)=A at *;generalize trimz (pv b)=B at *;have hA:=pa.1;have hB:=pb.1;have hAl:(A.map canon).length=A.length:=by simp
 have hBl:(B.map canon).length=B.length:=by simp
 simp (disch:=omega) only[wt,seval,reduceCtorEq,Nat.reduceEqDiff,hAl,hBl];by_cases hza:(A.length:Int)=0
 .have hA0:A=[]:=by rw[<-List.length_eq_zero_iff];omega
  subst hA0;simp (disch:=omega) only[wt,seval,reduceCtorEq,Nat.reduceEqDiff,hza,hBl];have:trimz (pmul [] B)=[]:=by rw[<-List.length_eq_zero_iff,trimz_len,tz_zero_iff];intro k;rw[cf_pmul];rfl
  unfold cpoly;rw[this];rfl
 simp (disch:=omega) only[wt,seval,reduceCtorEq,Nat.reduceEqDiff,hza,hAl,hBl];refine if_by (λhzb=>?_) (λhzb=>?_)
 .have hB0:B=[]:=by rw[<-List.length_eq_zero_iff];omega
  subst hB0;simp (disch:=omega) only[wt,seval,reduceCtorEq,Nat.reduceEqDiff,hza,hAl];have:trimz (pmul A [])=[]:=by
   rw[<-List.length_eq_zero_iff,trimz_len,tz_zero_iff];intro k;rw[cf_pmul,cv_none]
  unfold cpoly;rw[this];rfl
 simp (disch:=omega) only[wt,seval,reduceCtorEq,Nat.reduceEqDiff,hAl,hBl];have eN:(A.length:Int)+(B.length:Int)-1=((A.length+B.length-1:Nat):Int):=by omega
 rw[eN];simp (disch:=omega) only[wt,seval,reduceCtorEq,Nat.reduceEqDiff,hAl,hBl];generalize hN:A.length+B.length-1=N at *;refine aloop_by (λf H=>∃(i st:Nat) (out:List Int),i<=A.length/\out.length=N/\(∀k,cf out k=cv (A.take i) (cf B) k) /\
  f 0=.iv (.sl (raws (A.map canon)))/\f 1=.iv (.sl (raws (B.map canon)))/\f 5=.hs 26 st/\f 28=.iv (.int .i64 A.length)/\f 29=.iv (.int .i64 i)/\H 26=.blk false st 44 2 (raws (out.map canon))) (λf H=>(A.length-intAt f 29).toNat) ?_ ?_
 .exact⟨0,1,List.replicate N 0,by omega,by simp,λk=>by rw[cf_rep];rfl,by simp (disch:=omega) only[wt,seval,reduceCtorEq,Nat.reduceEqDiff],by simp (disch:=omega) only[wt,seval,reduceCtorEq,Nat.reduceEqDiff],by simp (disch:=omega) only[wt,seval,reduceCtorEq,Nat.reduceEqDiff],by simp (disch:=omega) only[wt,seval,reduceCtorEq,Nat.reduceEqDiff,hAl],by simp (disch:=omega) only[wt,seval,reduceCtorEq,Nat.reduceEqDiff],by simp (disch:=omega) only[wt,seval,reduceCtorEq,Nat.reduceEqDiff,Int.toNat_natCast,rep_canon]⟩
 rintro f H ⟨i,st,out,hi,hol,hv,h0,h1,h5,h28,h29,hH⟩;rw[intAt_of h29];simp (disch:=omega) only[wt,seval,reduceCtorEq,Nat.reduceEqDiff,h0,h1,h5,h28,h29,hH,hAl,hBl];refine if_by (λhlt=>?_) (λhlt=>?_)
 .simp (disch:=omega) only[wt,seval,reduceCtorEq,Nat.reduceEqDiff,h0,h1,h5,h28,h29,hH,hAl,hBl];refine aloop_by (λf H=>∃(j st:Nat) (out:List Int),j<=B.length/\out.length=N/\(∀k,cf out k=cv (A.take i) (cf B) k+(if i<=k/\k<i+j then cf A i*cf B (k-i) else 0)) /\
   f 0=.iv (.sl (raws (A.map canon)))/\f 1=.iv (.sl (raws (B.map canon)))/\f 5=.hs 26 st/\f 6=.iv (.int .i64 i)/\f 28=.iv (.int .i64 A.length)/\f 29=.iv (.int .i64 i)/\f 33=.iv (.int .i64 B.length)/\f 34=.iv (.int .i64 j)/\H 26=.blk false st 44 2 (raws (out.map canon))) (λf H=>(B.length-intAt f 34).toNat) ?_ ?_
  .refine⟨0,st,out,by omega,hol,λk=>?_,by simp (disch:=omega) only[wt,seval,reduceCtorEq,Nat.reduceEqDiff,h0],by simp (disch:=omega) only[wt,seval,reduceCtorEq,Nat.reduceEqDiff,h1],by simp (disch:=omega) only[wt,seval,reduceCtorEq,Nat.reduceEqDiff,h5],by simp (disch:=omega) only[wt,seval,reduceCtorEq,Nat.reduceEqDiff],by simp (disch:=omega) only[wt,seval,reduceCtorEq,Nat.reduceEqDiff,h28],by simp (disch:=omega) only[wt,seval,reduceCtorEq,Nat.reduceEqDiff,h29],by simp (disch:=omega) only[wt,seval,reduceCtorEq,Nat.reduceEqDiff,hBl],by simp (disch:=omega) only[wt,seval,reduceCtorEq,Nat.reduceEqDiff],by simp (disch:=omega) only[wt,seval,reduceCtorEq,Nat.reduceEqDiff,hH]⟩;rw[hv k,if_neg (by omega),Int.add_zero]
  clear h0 h1 h5 h28 h29 hH hv hol;clear out st f H;rintro f H ⟨j,st,out,hj,hol,hv,h0,h1,h5,h6,h28,h29,h33,h34,hH⟩;rw[intAt_of h34];simp (disch:=omega) only[wt,seval,reduceCtorEq,Nat.reduceEqDiff,h0,h1,h5,h6,h28,h29,h33,h34,hH];refine if_by (λhlj=>?_) (λhlj=>?_)
  .have hq:(out.map canon).length=N:=by rw[List.length_map,hol]
   have eij:(i:Int)+(j:Int)=((i+j:Nat):Int):=by omega
   simp (disch:=omega) only[wt,seval,reduceCtorEq,Nat.reduceEqDiff,h0,h1,h5,h6,h28,h29,h33,h34,hH,hq,hAl,hBl];rw[eij];simp (disch:=omega) only[wt,seval,reduceCtorEq,Nat.reduceEqDiff,h0,h1,h5,h6,h28,h29,h33,h34,hH,hq,hAl,hBl];refine .inl ⟨tmps_by (by kernel_rfl),?_⟩;have hAi:=pa.cf i;have hBj:=pb.cf j;have hprod:=zl_mul (cf A i) (cf B j);have hold:cf out (i+j)=cv (A.take i) (cf B) (i+j):=by rw[hv,if_neg (by omega),Int.add_zero]
   have hzo:zl (cf out (i+j))<=2^35+2^35+1:=by rw[hold];exact zl_cv (PB_take pa i) pb (by decide) _
   have m:=zmul_ok (canon (cf A i)) (canon (cf B j)) ((sz_canon _).mono (by omega)) ((sz_canon _).mono (by omega));rw[iv_canon,iv_canon]at m;refine call_by (m) (by first|rfl|(simp only[tocvs,tocv,toboxes,tobox,updH_at,Nat.reduceEqDiff,↓reduceIte,h0,h1,h5,h6,h28,h29,h33,h34,hH,hq,hAl,hBl];rfl)) (by simp) ?_;simp (disch:=omega) only[wt,seval,reduceCtorEq,Nat.reduceEqDiff,h0,h1,h5,h6,h28,h29,h33,h34,hH,hq,hAl,hBl];have s:=zadd_ok (canon (cf out (i+j))) (canon (cf A i*cf B j)) ((sz_canon _).mono (by omega)) ((sz_canon _).mono (by omega));rw[iv_canon,iv_canon]at s;refine call_by (s) (by first|rfl|(simp only[tocvs,tocv,toboxes,tobox,updH_at,Nat.reduceEqDiff,↓reduceIte,h0,h1,h5,h6,h28,h29,h33,h34,hH,hq,hAl,hBl];rfl)) (by simp) ?_;simp (disch:=omega) only[wt,seval,reduceCtorEq,Nat.reduceEqDiff,h0,h1,h5,h6,h28,h29,h33,h34,hH,hq,hAl,hBl]
   first|exact log_by (by kernel_rfl)|refine⟨log_by (by kernel_rfl),?_⟩
   refine⟨⟨j+1,st,out.set (i+j) (cf out (i+j)+cf A i*cf B j),by omega,by simp[hol],λk=>?_,rfl,by omega,rfl⟩,by omega⟩;rw[cf_set (by omega)];by_cases e:k=i+j
   .subst e;rw[if_pos rfl,if_pos ⟨by omega,by omega⟩,hold,Nat.add_sub_cancel_left]
   .rw[if_neg e,hv k];by_cases hk:i<=k/\k<i+j
    .rw[if_pos hk,if_pos ⟨hk.1,by omega⟩]
    .rw[if_neg hk,if_neg (by omega)]
  .simp (disch:=omega) only[wt,seval,reduceCtorEq,Nat.reduceEqDiff,h0,h1,h5,h6,h28,h29,h33,h34,hH,hAl,hBl];refine⟨⟨i+1,st,out,by omega,hol,λk=>?_,rfl,by omega,rfl⟩,by omega⟩;rw[hv k,cv_take_succ]
   congr 1
   by_cases hk:i<=k
   .rw[if_pos hk];by_cases hk2:k<i+j
    .rw[if_pos ⟨hk,hk2⟩]
    .rw[if_neg (by omega),cf_ge (q:=B) (by omega),Int.mul_zero]
   .rw[if_neg hk,if_neg (by omega)]
 .simp (disch:=omega) only[wt,seval,reduceCtorEq,Nat.reduceEqDiff,h0,h1,h5,h28,h29,hH,hAl,hBl];have hiA:i=A.length:=by omega
  have e:cp (pmul A B)=cp (pv (out.map canon)):=by
   refine cp_ext λk=>?_;rw[pv_canon,hv,cf_pmul,hiA,List.take_length]
  unfold cpoly at e;rw[e];refine call_by ((pnorm_ok (out.map canon) (RP.canon (.of (by omega) λk=>by rw[hv];exact Nat.le_trans (zl_cv (PB_take pa i) pb (by decide) k) (by omega))))) (by first|rfl|(simp only[tocvs,tocv,toboxes,tobox,updH_at,Nat.reduceEqDiff,↓reduceIte,h0,h1,h5,h28,h29,hH,hAl,hBl];rfl)) (by simp) ?_;simp (disch:=omega) only[wt,seval,reduceCtorEq,Nat.reduceEqDiff,h0,h1,h5,h28,h29,hH,hAl,hBl]
theorem cp_ps {p q:List Int}(h:ps p=ps q):cp p=cp q:=cp_ext (ps_eq h)
theorem pderiv_take {P:List Int}{i:Nat}(h:i+1<P.length+1)(h0:0<i):pderiv (P.take (i+1))=pderiv (P.take i)++[cf P i*(i:Int)]:=by
 have e:∀m,m<=P.length->pderiv (P.take m)=(List.range (m-1)).map λk=>cf P (k+1)*((k+1:Nat):Int):=by
  intro m hm;rw[pderiv,List.length_take,Nat.min_eq_left hm];refine List.map_congr_left λk hk=>?_;have hk:=List.mem_range.mp hk;simp[cf,List.getD,List.getElem?_take,show k+1<m by omega]
 rw[e _ (by omega),e _ (by omega),show i+1-1=(i-1)+1 by omega,List.range_succ,List.map_append,List.map_singleton,show i-1+1=i by omega]
theorem pderiv_ok (p:List RI)(h:RP (2^30) (2^35) p):AC Tryz.prog 103 [cw p] none [cp (pderiv (pv p))]:=by
 refine AC.by_walk (rs:=[.tmp 2]) ords Tryz.func103 (by rfl) (by rfl) (by rfl) (by rfl) (by rfl) ?_;have hl:=h.1;have htl:=tz_le (pv p);rw[pv_len]at htl;simp (disch:=omega) only[wt,seval,reduceCtorEq,Nat.reduceEqDiff,cpoly_len];refine call_by ((size_ok p (h.mono (by omega) (by omega)))) (by rfl) (by simp) ?_;simp (disch:=omega) only[wt,seval,reduceCtorEq,Nat.reduceEqDiff,cpoly_len];refine aloop_nil 3 3 44 2 (by simp (disch:=omega) only[wt,seval,reduceCtorEq,Nat.reduceEqDiff,cpoly_len]) (λf H=>∃(k st:Nat),k<=tz (pv p)/\f 7=.iv (.int .i64 k)/\f 0=.iv (.sl (raws p))/\f 3=.hs 3 st/\f 6=.iv (.int .i64 (tz (pv p)))/\H 3=.blk false st 44 2 (raws ((pderiv ((pv p).take k)).map canon))) (λf H=>(tz (pv p)-intAt f 7).toNat) ?_ ?_
 .refine⟨0,1,by omega,?_⟩;simp (disch:=omega) only[wt,seval,reduceCtorEq,Nat.reduceEqDiff,cpoly_len,ghostF,ghostH,List.take_zero,pderiv]
 rintro f H ⟨k,st,hk,hF⟩;rw[intAt_of hF.1];simp (disch:=omega) only[wt,seval,reduceCtorEq,Nat.reduceEqDiff,cpoly_len,hF];refine if_by (λhlt=>?_) (λhlt=>?_)
 .simp (disch:=omega) only[wt,seval,reduceCtorEq,Nat.reduceEqDiff,cpoly_len,hF];refine if_by (λh0=>?_) (λh0=>?_)
  .simp (disch:=omega) only[wt,seval,reduceCtorEq,Nat.reduceEqDiff,cpoly_len,hF];have hq:((pderiv ((pv p).take k)).map canon).length=k-1:=by
    simp only[pderiv,List.length_map,List.length_range,List.length_take,pv_len];omega
   refine .inl ⟨tmps_by (by kernel_rfl),?_⟩;refine call_by ((zOf_ok k (by omega) (by omega))) (by first|rfl|(simp only[tocvs,tocv,toboxes,tobox,updH_at,Nat.reduceEqDiff,↓reduceIte,hF,hq];rfl)) (by simp) ?_;simp (disch:=omega) only[wt,seval,reduceCtorEq,Nat.reduceEqDiff,cpoly_len,hF,hq];have hz:zl (k:Int)<=1:=zl_le.mpr (by simp only[W];omega);have m:=zmul_ok (p.getD k (false,[])) (canon k) ((h.get _).mono (by omega)) ((sz_canon _).mono (by omega));rw[iv_canon,<-cf_pv]at m;refine call_by (m) (by first|rfl|(simp only[tocvs,tocv,toboxes,tobox,updH_at,Nat.reduceEqDiff,↓reduceIte,hF,hq];rfl)) (by simp) ?_;simp (disch:=omega) only[wt,seval,reduceCtorEq,Nat.reduceEqDiff,cpoly_len,hF,hq]
   first|exact log_by (by kernel_rfl)|refine⟨log_by (by kernel_rfl),?_⟩
   refine⟨⟨k+1,st+1,by omega,?_⟩,by omega⟩;rw[pderiv_take (by rw[pv_len];omega) (by omega)];exact⟨by omega,rfl,rfl⟩
  .simp (disch:=omega) only[wt,seval,reduceCtorEq,Nat.reduceEqDiff,cpoly_len,hF];obtain rfl:k=0:=by omega
   refine⟨⟨1,st,by omega,?_⟩,by omega⟩;have:pderiv ((pv p).take 1)=[]:=by simp[pderiv];omega
   rw[this];exact⟨rfl,rfl,rfl⟩
 .simp (disch:=omega) only[wt,seval,reduceCtorEq,Nat.reduceEqDiff,cpoly_len,hF];have hk:k=tz (pv p):=by omega
  have e:cp (pderiv (pv p))=cp (pv ((pderiv ((pv p).take k)).map canon)):=by
   refine cp_ps ?_;rw[pv_canon,ps_pderiv,ps_pderiv,hk];exact congrArg PS.D (ps_trimz (pv p)).symm
  rw[e];have hb:PB (2^30) (2^40) (pderiv ((pv p).take k)):=((PB_take h.pv k).pderiv (by decide)).mono (by omega) (by omega);refine call_by ((pnorm_ok ((pderiv ((pv p).take k)).map canon) (RP.canon (hb.mono (by omega) (by omega))))) (by first|rfl|(simp only[tocvs,tocv,toboxes,tobox,updH_at,Nat.reduceEqDiff,↓reduceIte,hF];rfl)) (by simp) ?_;simp (disch:=omega) only[wt,seval,reduceCtorEq,Nat.reduceEqDiff,cpoly_len,hF]
def cn (q:List Int):List RI:=(trimz q).map canon
theorem cf_cn (q:List Int)(k:Nat):cf (pv (cn q)) k=cf q k:=by rw[cn,pv_canon,cf_trimz]
theorem ps_cn (q:List Int):ps (pv (cn q))=ps q:=ps_ext (cf_cn q)
abbrev cd (l:List Nat):CV:=.iv (.sl (nums l))
abbrev cis (l:List Int):CV:=.iv (.sl (ilims l))
theorem pmul_g {a b:List RI}{q r:List Int}(ha:RP (2^30) (2^35) a)(hb:RP (2^30) (2^35) b)(eq:ps (pv a)=ps q)(er:ps (pv b)=ps r):AC Tryz.prog 84 [cw a,cw b] none [cp (pmul q r)]:=by
 have h:=pmul_ok a b ha hb;rwa [cp_ps (q:=pmul q r) (by rw[ps_pmul,ps_pmul,eq,er])]at h
theorem padd_g {a b:List RI}{q r:List Int}(ha:RP (2^30) (2^35) a)(hb:RP (2^30) (2^35) b)(eq:ps (pv a)=ps q)(er:ps (pv b)=ps r):AC Tryz.prog 83 [cw a,cw b] none [cp (padd q r)]:=by
 have h:=padd_ok a b (ha.mono (by omega) (by omega)) (hb.mono (by omega) (by omega));rwa [cp_ps (q:=padd q r) (by rw[ps_padd,ps_padd,eq,er])]at h
theorem psub_g {a b:List RI}{q r:List Int}(ha:RP (2^30) (2^35) a)(hb:RP (2^30) (2^35) b)(eq:ps (pv a)=ps q)(er:ps (pv b)=ps r):AC Tryz.prog 220 [cw a,cw b] none [cp (padd q (pscale (-1) r))]:=by
 have h:=psub_ok a b (ha.mono (by omega) (by omega)) hb;rwa [cp_ps (q:=padd q (pscale (-1) r)) (by rw[ps_padd,ps_pscale,ps_padd,ps_pscale,eq,er])]at h
theorem pscale_g {a:List RI}{q:List Int}{c:RI}(ha:RP (2^30) (2^35) a)(hc:Sz (2^35) c)(eq:ps (pv a)=ps q):AC Tryz.prog 201 [cw a,cr c] none [cp (pscale (iv c) q)]:=by
 have h:=pscale_ok a c ha hc;rwa [cp_ps (q:=pscale (iv c) q) (by rw[ps_pscale,ps_pscale,eq])]at h
theorem pderiv_g {a:List RI}{q:List Int}(ha:RP (2^30) (2^35) a)(eq:ps (pv a)=ps q):AC Tryz.prog 103 [cw a] none [cp (pderiv q)]:=by
 have h:=pderiv_ok a ha;rwa [cp_ps (q:=pderiv q) (by rw[ps_pderiv,ps_pderiv,eq])]at h
def Raw (p:List RI):Prop:=p.length<=9223372036854775807/\∀c∈p,Sz (9223372036854775807) c
def cmpN (x y:Nat):Int:=if x<y then -1 else if y<x then 1 else 0


theorem pcoef_ok (p:List RI)(i:Int)(h:RP (2^40) (2^40) p):AC Tryz.prog 171 [cw p,ci i] none [cz (if i<0 then 0 else cf (pv p) i.toNat)]:=by
 refine AC.by_walk (rs:=[.cell 4 44]) ords Tryz.func171 (by rfl) (by rfl) (by rfl) (by rfl) (by rfl) ?_;have hl:=h.1;simp (disch:=omega) only[wt,seval,reduceCtorEq,Nat.reduceEqDiff,cpoly_len,natsr_len,natsr_at,natsr_snoc,natsr_app,natsr_rows,natsr_nil];have key:AC Tryz.prog 150 [cw p,ci i] none [cr (if i<0 then (false,[]) else p.getD i.toNat (false,[]))]:=by
  refine AC.by_walk (rs:=[.cell 4 44]) ords Tryz.func150 (by rfl) (by rfl) (by rfl) (by rfl) (by rfl) ?_;by_cases h0:i<0
  .simp (disch:=omega) only[wt,seval,reduceCtorEq,Nat.reduceEqDiff,cpoly_len,natsr_len,natsr_at,natsr_snoc,natsr_app,natsr_rows,natsr_nil,h0]
  by_cases h1:(p.length:Int)<=i
  .simp (disch:=omega) only[wt,seval,reduceCtorEq,Nat.reduceEqDiff,cpoly_len,natsr_len,natsr_at,natsr_snoc,natsr_app,natsr_rows,natsr_nil,h0,h1];have e:p.getD i.toNat (false,[])=(false,[]):=by rw[List.getD_eq_getElem?_getD,List.getElem?_eq_none (by omega)];rfl
   rw[e]
  .simp (disch:=omega) only[wt,seval,reduceCtorEq,Nat.reduceEqDiff,cpoly_len,natsr_len,natsr_at,natsr_snoc,natsr_app,natsr_rows,natsr_nil,h0,h1]
 refine call_by (key) (by rfl) (by simp) ?_;simp (disch:=omega) only[wt,seval,reduceCtorEq,Nat.reduceEqDiff,cpoly_len,natsr_len,natsr_at,natsr_snoc,natsr_app,natsr_rows,natsr_nil];have hs:Sz (2^40) (if i<0 then (false,[]) else p.getD i.toNat (false,[])):=by
  split
  .exact⟨by simp,Lim.nil⟩
  .exact h.get _
 have e:iv (if i<0 then (false,[]) else p.getD i.toNat (false,[]))=if i<0 then 0 else cf (pv p) i.toNat:=by
  split
  .exact iv_zero
  .rw[<-cf_pv]
 refine call_by ((znorm_ok _ hs)) (by rfl) (by simp) ?_;simp (disch:=omega) only[wt,seval,reduceCtorEq,Nat.reduceEqDiff,cpoly_len,natsr_len,natsr_at,natsr_snoc,natsr_app,natsr_rows,natsr_nil];rw[e]
theorem plead_ok (p:List RI)(h:RP (2^40) (2^40) p):AC Tryz.prog 112 [cw p] none [cz (cf (pv p) (tz (pv p)-1))]:=by
 refine AC.by_walk (rs:=[.cell 2 44]) ords Tryz.func112 (by rfl) (by rfl) (by rfl) (by rfl) (by rfl) ?_;have hl:=h.1;simp (disch:=omega) only[wt,seval,reduceCtorEq,Nat.reduceEqDiff,cpoly_len,natsr_len,natsr_at,natsr_snoc,natsr_app,natsr_rows,natsr_nil];refine call_by ((pdeg_ok p h)) (by rfl) (by simp) ?_;simp (disch:=omega) only[wt,seval,reduceCtorEq,Nat.reduceEqDiff,cpoly_len,natsr_len,natsr_at,natsr_snoc,natsr_app,natsr_rows,natsr_nil];have:=pcoef_ok p ((tz (pv p):Int)-1) h;have e:(if (tz (pv p):Int)-1<0 then 0 else cf (pv p) ((tz (pv p):Int)-1).toNat)=cf (pv p) (tz (pv p)-1):=by
  by_cases h0:tz (pv p)=0
  .rw[if_pos (by omega),cf_ge_tz _ (by omega)]
  .rw[if_neg (by omega)];congr 1;omega
 rw[e]at this;refine call_by (this) (by rfl) (by simp) ?_;simp (disch:=omega) only[wt,seval,reduceCtorEq,Nat.reduceEqDiff,cpoly_len,natsr_len,natsr_at,natsr_snoc,natsr_app,natsr_rows,natsr_nil]
theorem topW_lt {x y i:Nat}(h:x/W^(i+1)=y/W^(i+1))(hd:x/W^i%W<y/W^i%W):x<y:=by
 have e:∀z:Nat,z/W^i=W*(z/W^(i+1))+z/W^i%W:=λz=>by
  rw[Nat.pow_succ,<-Nat.div_div_eq_div_mul];exact(Nat.div_add_mod _ _).symm
 have h1:=e x;have h2:=e y;rw[h]at h1;rcases Nat.lt_or_ge x y with h3|h3
 .exact h3
 .have:=Nat.div_le_div_right (c:=W^i) h3;omega
theorem word_at {l:List Nat}(h:Lim l)(k:Nat):l.getD k 0=nv l/W^k%W:=by
 have h1:=vl_take_next W l k;have e1:=nv_take h (k+1);have e2:=nv_take h k;simp only[nv]at *;rw[e1,e2,Nat.mod_pow_succ]at h1;exact(Nat.eq_of_mul_eq_mul_left (W_pow_pos k) (Nat.add_left_cancel h1)).symm
theorem lcmp_ok (a b:List Nat)(ha:Lim a)(hb:Lim b)(hla:a.length<=2^42)(hlb:b.length<=2^42):AC Tryz.prog 257 [cl a,cl b] none [ci (cmpN (nv a) (nv b))]:=by
 refine AC.by_walk (rs:=[.tmp 4]) ords Tryz.func257 (by rfl) (by rfl) (by rfl) (by rfl) (by rfl) ?_;generalize hn:max a.length b.length=n at *;have hnI:max (a.length:Int) (b.length:Int)=(n:Int):=by omega
 have h0:nv a/W^n=nv b/W^n:=by
  have hA:=nv_lt ha;have hB:=nv_lt hb;have hA2:W^a.length<=W^n:=Nat.pow_le_pow_right (by decide) (by omega);have hB2:W^b.length<=W^n:=Nat.pow_le_pow_right (by decide) (by omega);rw[Nat.div_eq_of_lt (by omega),Nat.div_eq_of_lt (by omega)]
 simp (disch:=omega) only[wt,seval,reduceCtorEq,Nat.reduceEqDiff,cpoly_len,natsr_len,natsr_at,natsr_snoc,natsr_app,natsr_rows,natsr_nil,hnI];refine aloop_by (λf H=>∃(i:Nat),i<=n/\nv a/W^i=nv b/W^i/\f 6=.iv (.int .i64 ((i:Int)-1))/\f 0=.iv (.sl (lims a))/\f 1=.iv (.sl (lims b))) (λf H=>(intAt f 6+1).toNat) ?_ ?_
 .refine⟨n,by omega,h0,?_⟩;simp (disch:=omega) only[wt,seval,reduceCtorEq,Nat.reduceEqDiff,cpoly_len,natsr_len,natsr_at,natsr_snoc,natsr_app,natsr_rows,natsr_nil]
 rintro f H ⟨i,hi,hv,hF⟩;rw[intAt_of hF.1];simp (disch:=omega) only[wt,seval,reduceCtorEq,Nat.reduceEqDiff,cpoly_len,natsr_len,natsr_at,natsr_snoc,natsr_app,natsr_rows,natsr_nil,hF];refine if_by (λhlt=>?_) (λhlt=>?_)
 .obtain⟨j,rfl⟩:∃j,i=j+1:=⟨i-1,by omega⟩;have ej:((j+1:Nat):Int)-1=(j:Int):=by omega
  have hx:=word_at ha j;have hy:=word_at hb j;rw[ej]at hF;simp (disch:=omega) only[wt,seval,reduceCtorEq,Nat.reduceEqDiff,cpoly_len,natsr_len,natsr_at,natsr_snoc,natsr_app,natsr_rows,natsr_nil,hF];refine call_by ((at_ok a j (by omega))) (by first|rfl|(simp only[tocvs,tocv,toboxes,tobox,updH_at,Nat.reduceEqDiff,↓reduceIte,hF];rfl)) (by simp) ?_;simp (disch:=omega) only[wt,seval,reduceCtorEq,Nat.reduceEqDiff,cpoly_len,natsr_len,natsr_at,natsr_snoc,natsr_app,natsr_rows,natsr_nil,hF];refine call_by ((at_ok b j (by omega))) (by first|rfl|(simp only[tocvs,tocv,toboxes,tobox,updH_at,Nat.reduceEqDiff,↓reduceIte,hF];rfl)) (by simp) ?_;simp (disch:=omega) only[wt,seval,reduceCtorEq,Nat.reduceEqDiff,cpoly_len,natsr_len,natsr_at,natsr_snoc,natsr_app,natsr_rows,natsr_nil,hF];refine if_by (λh1=>?_) (λh1=>?_)
  .simp (disch:=omega) only[wt,seval,reduceCtorEq,Nat.reduceEqDiff,cpoly_len,natsr_len,natsr_at,natsr_snoc,natsr_app,natsr_rows,natsr_nil,hF];refine⟨⟨j,by omega,?_,rfl⟩,by omega⟩;have e:∀z:Nat,z/W^j=W*(z/W^(j+1))+z/W^j%W:=λz=>by
    rw[Nat.pow_succ,<-Nat.div_div_eq_div_mul];exact(Nat.div_add_mod _ _).symm
   rw[e (nv a),e (nv b),hv];omega
  simp (disch:=omega) only[wt,seval,reduceCtorEq,Nat.reduceEqDiff,cpoly_len,natsr_len,natsr_at,natsr_snoc,natsr_app,natsr_rows,natsr_nil,hF];refine if_by (λh2=>?_) (λh2=>?_)
  .simp (disch:=omega) only[wt,seval,reduceCtorEq,Nat.reduceEqDiff,cpoly_len,natsr_len,natsr_at,natsr_snoc,natsr_app,natsr_rows,natsr_nil,hF];have:nv a<nv b:=topW_lt hv (by omega);rw[cmpN,if_pos this]
  simp (disch:=omega) only[wt,seval,reduceCtorEq,Nat.reduceEqDiff,cpoly_len,natsr_len,natsr_at,natsr_snoc,natsr_app,natsr_rows,natsr_nil,hF];have:nv b<nv a:=topW_lt hv.symm (by omega);rw[cmpN,if_neg (by omega),if_pos this]
 .simp (disch:=omega) only[wt,seval,reduceCtorEq,Nat.reduceEqDiff,cpoly_len,natsr_len,natsr_at,natsr_snoc,natsr_app,natsr_rows,natsr_nil,hF];have:i=0:=by omega
  subst this;simp at hv;rw[hv,cmpN];simp
theorem ncmp_ok (a b:List Nat)(ha:Lim a)(hb:Lim b)(hla:a.length<=2^42)(hlb:b.length<=2^42):AC Tryz.prog 245 [cl a,cl b] none [ci (cmpN (nv a) (nv b))]:=by
 refine AC.by_walk (rs:=[.tmp 4]) ords Tryz.func245 (by rfl) (by rfl) (by rfl) (by rfl) (by rfl) ?_;simp (disch:=omega) only[wt,seval,reduceCtorEq,Nat.reduceEqDiff,cpoly_len,natsr_len,natsr_at,natsr_snoc,natsr_app,natsr_rows,natsr_nil];refine call_by ((lcmp_ok a b ha hb hla hlb)) (by rfl) (by simp) ?_;simp (disch:=omega) only[wt,seval,reduceCtorEq,Nat.reduceEqDiff,cpoly_len,natsr_len,natsr_at,natsr_snoc,natsr_app,natsr_rows,natsr_nil]
theorem zcmp_ok (a b:RI)(ha:Sz (2^40) a)(hb:Sz (2^40) b):AC Tryz.prog 217 [cr a,cr b] none [ci (cmpZ (iv a) (iv b))]:=by
 refine AC.by_walk (rs:=[.tmp 4]) ords Tryz.func217 (by rfl) (by rfl) (by rfl) (by rfl) (by rfl) ?_;have hla:=ha.1;have hlb:=hb.1;have sa:=Int.sign_mul_natAbs (iv a);have sb:=Int.sign_mul_natAbs (iv b);have na:=iv_abs a;have nb:=iv_abs b;have ca:(iv a).sign = -1/\iv a<0\/(iv a).sign=0/\iv a=0\/(iv a).sign=1/\0<iv a:=by
  rcases Int.lt_trichotomy (iv a) 0 with h|h|h
  .exact .inl ⟨Int.sign_eq_neg_one_of_neg h,h⟩
  .exact .inr (.inl ⟨by rw[h];rfl,h⟩)
  .exact .inr (.inr ⟨Int.sign_eq_one_of_pos h,h⟩)
 have cb':(iv b).sign = -1/\iv b<0\/(iv b).sign=0/\iv b=0\/(iv b).sign=1/\0<iv b:=by
  rcases Int.lt_trichotomy (iv b) 0 with h|h|h
  .exact .inl ⟨Int.sign_eq_neg_one_of_neg h,h⟩
  .exact .inr (.inl ⟨by rw[h];rfl,h⟩)
  .exact .inr (.inr ⟨Int.sign_eq_one_of_pos h,h⟩)
 simp (disch:=omega) only[wt,seval,reduceCtorEq,Nat.reduceEqDiff,cpoly_len,natsr_len,natsr_at,natsr_snoc,natsr_app,natsr_rows,natsr_nil];refine .inl ⟨tmps_by (by kernel_rfl),?_⟩;refine call_by ((zsign_ok a ha)) (by rfl) (by simp) ?_;simp (disch:=omega) only[wt,seval,reduceCtorEq,Nat.reduceEqDiff,cpoly_len,natsr_len,natsr_at,natsr_snoc,natsr_app,natsr_rows,natsr_nil];refine call_by ((zsign_ok b hb)) (by rfl) (by simp) ?_;simp (disch:=omega) only[wt,seval,reduceCtorEq,Nat.reduceEqDiff,cpoly_len,natsr_len,natsr_at,natsr_snoc,natsr_app,natsr_rows,natsr_nil]
 first|exact log_by (by kernel_rfl)|refine⟨log_by (by kernel_rfl),?_⟩
 refine if_by (λh1=>?_) (λh1=>?_)
 .simp (disch:=omega) only[wt,seval,reduceCtorEq,Nat.reduceEqDiff,cpoly_len,natsr_len,natsr_at,natsr_snoc,natsr_app,natsr_rows,natsr_nil];rw[cmpZ,if_pos (by omega)]
 simp (disch:=omega) only[wt,seval,reduceCtorEq,Nat.reduceEqDiff,cpoly_len,natsr_len,natsr_at,natsr_snoc,natsr_app,natsr_rows,natsr_nil];refine if_by (λh2=>?_) (λh2=>?_)
 .simp (disch:=omega) only[wt,seval,reduceCtorEq,Nat.reduceEqDiff,cpoly_len,natsr_len,natsr_at,natsr_snoc,natsr_app,natsr_rows,natsr_nil];rw[cmpZ,if_neg (by omega),if_pos (by omega)]
 simp (disch:=omega) only[wt,seval,reduceCtorEq,Nat.reduceEqDiff,cpoly_len,natsr_len,natsr_at,natsr_snoc,natsr_app,natsr_rows,natsr_nil];refine call_by ((ncmp_ok a.2 b.2 ha.2 hb.2 (by omega) (by omega))) (by rfl) (by simp) ?_;simp (disch:=omega) only[wt,seval,reduceCtorEq,Nat.reduceEqDiff,cpoly_len,natsr_len,natsr_at,natsr_snoc,natsr_app,natsr_rows,natsr_nil];have e:(iv a).sign*cmpN (nv a.2) (nv b.2)=cmpZ (iv a) (iv b):=by
  have hs:(iv a).sign=(iv b).sign:=by omega
  rcases ca with ⟨h,h'⟩|⟨h,h'⟩|⟨h,h'⟩<;>rw[h]
  .unfold cmpN cmpZ;rw[<-na,<-nb];split<;>split<;>(try split)<;>(try split)<;>omega
  .unfold cmpZ;rw[if_neg (by omega),if_neg (by omega)];simp
  .unfold cmpN cmpZ;rw[<-na,<-nb];split<;>split<;>(try split)<;>(try split)<;>omega
 rw[e];have hb3 : -1<=cmpZ (iv a) (iv b)/\cmpZ (iv a) (iv b)<=1:=by unfold cmpZ;split<;>(try split)<;>omega
 simp (disch:=omega) only[wt,seval,reduceCtorEq,Nat.reduceEqDiff,cpoly_len,natsr_len,natsr_at,natsr_snoc,natsr_app,natsr_rows,natsr_nil]
theorem wd_one {y:Nat}(h:(wd y).length=1):(wd y).getD 0 0=y/\y<W:=by
 have h1:=vl_take_next W (wd y) 0;rw[Nat.zero_add,List.take_of_length_le (by omega),List.take_zero,Nat.pow_zero,Nat.one_mul]at h1;have h2:=nv_wd y;simp only[nv,vl,Nat.zero_add]at *;have h3:=(lim_wd y).get 0;omega
theorem quo_ok (a b:List Nat)(ha:Lim a)(hb:Lim b)(hla:a.length<=2^38)(hlb:b.length<=2^38)(h0:nv b≠0):AC Tryz.prog 249 [cl a,cl b] none [cl (wd (nv a/nv b)),cl (wd (nv a%nv b)),ci 0]:=by
 refine AC.by_walk (rs:=[.tmp 4,.tmp 5,.tmp 6]) ords Tryz.func249 (by rfl) (by rfl) (by rfl) (by rfl) (by rfl) ?_;simp (disch:=omega) only[wt,seval,reduceCtorEq,Nat.reduceEqDiff,natsr_len,natsr_at,Option.getD_some];refine call_by ((norm_ok a ha (by omega))) (by rfl) (by simp) ?_;simp (disch:=omega) only[wt,seval,reduceCtorEq,Nat.reduceEqDiff,natsr_len,natsr_at,Option.getD_some];refine call_by ((norm_ok b hb (by omega))) (by rfl) (by simp) ?_;simp (disch:=omega) only[wt,seval,reduceCtorEq,Nat.reduceEqDiff,natsr_len,natsr_at,Option.getD_some];have hxl:=nv_len ha;have hyl:=nv_len hb;generalize nv a=x at *;generalize nv b=y at *;refine if_by (λh=>?_) (λh=>?_)
 .have:=wd_len_zero.mp (Int.ofNat.inj h);exact absurd this h0
 simp (disch:=omega) only[wt,seval,reduceCtorEq,Nat.reduceEqDiff,natsr_len,natsr_at,Option.getD_some];refine call_by ((ncmp_ok (wd x) (wd y) (lim_wd _) (lim_wd _) (by omega) (by omega))) (by rfl) (by simp) ?_;simp (disch:=omega) only[wt,seval,reduceCtorEq,Nat.reduceEqDiff,natsr_len,natsr_at,Option.getD_some];rw[nv_wd,nv_wd];refine if_by (λhc=>?_) (λhc=>?_)
 .have hlt:x<y:=by
   unfold cmpN at hc;split at hc
   .assumption
   .split at hc<;>omega
  rw[Nat.div_eq_of_lt hlt,Nat.mod_eq_of_lt hlt,wd_zero];simp (disch:=omega) only[wt,seval,reduceCtorEq,Nat.reduceEqDiff,natsr_len,natsr_at,Option.getD_some]
 have hle:y<=x:=by
  unfold cmpN at hc;split at hc
  .omega
  .omega
 simp (disch:=omega) only[wt,seval,reduceCtorEq,Nat.reduceEqDiff,natsr_len,natsr_at,Option.getD_some];refine if_by (λh1=>?_) (λh1=>?_)
 .obtain⟨e1,e2⟩:=wd_one (Int.ofNat.inj h1);have hp:0<(wd y).length:=by omega
  simp (disch:=omega) only[wt,seval,reduceCtorEq,Nat.reduceEqDiff,natsr_len,natsr_at,Option.getD_some];have m:=dword_ok (wd x) y (lim_wd _) (by omega) h0 e2;rw[nv_wd]at m;have n:=nof_ok (x%y) (Nat.lt_trans (Nat.mod_lt _ (by omega)) e2);simp (disch:=omega) only[wt,seval,reduceCtorEq,Nat.reduceEqDiff,natsr_len,natsr_at,Option.getD_some,e1];refine call_by (m) (by first|rfl|(simp only[tocvs,tocv,toboxes,tobox,updH_at,Nat.reduceEqDiff,↓reduceIte,e1];rfl)) (by simp) ?_;simp (disch:=omega) only[wt,seval,reduceCtorEq,Nat.reduceEqDiff,natsr_len,natsr_at,Option.getD_some,e1];refine call_by (n) (by first|rfl|(simp only[tocvs,tocv,toboxes,tobox,updH_at,Nat.reduceEqDiff,↓reduceIte,e1];rfl)) (by simp) ?_;simp (disch:=omega) only[wt,seval,reduceCtorEq,Nat.reduceEqDiff,natsr_len,natsr_at,Option.getD_some,e1]
 .have hn:2<=(wd y).length:=by omega
  simp (disch:=omega) only[wt,seval,reduceCtorEq,Nat.reduceEqDiff,natsr_len,natsr_at,Option.getD_some];refine call_by ((knuth_ok x y _ _ rfl rfl hn hle (by omega))) (by rfl) (by simp) ?_;simp (disch:=omega) only[wt,seval,reduceCtorEq,Nat.reduceEqDiff,natsr_len,natsr_at,Option.getD_some]
theorem mod_ok (a b:List Nat)(ha:Lim a)(hb:Lim b)(hla:a.length<=2^38)(hlb:b.length<=2^38)(h0:nv b≠0):AC Tryz.prog 263 [cl a,cl b] none [cl (wd (nv a%nv b)),ci 0]:=by
 refine AC.by_walk (rs:=[.tmp 4,.tmp 5]) ords Tryz.func263 (by rfl) (by rfl) (by rfl) (by rfl) (by rfl) ?_;simp (disch:=omega) only[wt,seval,reduceCtorEq,Nat.reduceEqDiff,natsr_len,natsr_at,Option.getD_some];refine call_by ((quo_ok a b ha hb hla hlb h0)) (by rfl) (by simp) ?_;simp (disch:=omega) only[wt,seval,reduceCtorEq,Nat.reduceEqDiff,natsr_len,natsr_at,Option.getD_some]
theorem gmod_ok (a b:List Nat)(ha:Lim a)(hb:Lim b)(hla:a.length<=2^38)(hlb:b.length<=2^38)(h0:nv b≠0):AC Tryz.prog 250 [cl a,cl b] none [cl (wd (nv a%nv b))]:=by
 refine AC.by_walk (rs:=[.tmp 4]) ords Tryz.func250 (by rfl) (by rfl) (by rfl) (by rfl) (by rfl) ?_;simp (disch:=omega) only[wt,seval,reduceCtorEq,Nat.reduceEqDiff,natsr_len,natsr_at,Option.getD_some];refine call_by ((mod_ok a b ha hb hla hlb h0)) (by rfl) (by simp) ?_;simp (disch:=omega) only[wt,seval,reduceCtorEq,Nat.reduceEqDiff,natsr_len,natsr_at,Option.getD_some]
theorem dexact_ok (a b:List Nat)(ha:Lim a)(hb:Lim b)(hla:a.length<=2^38)(hlb:b.length<=2^38)(h0:nv b≠0):AC Tryz.prog 222 [cl a,cl b] none [cl (if nv a%nv b=0 then wd (nv a/nv b) else []),ci (if nv a%nv b=0 then 0 else 4)]:=by
 refine AC.by_walk (rs:=[.tmp 4,.tmp 5]) ords Tryz.func222 (by rfl) (by rfl) (by rfl) (by rfl) (by rfl) ?_;simp (disch:=omega) only[wt,seval,reduceCtorEq,Nat.reduceEqDiff,natsr_len,natsr_at,Option.getD_some];refine call_by ((quo_ok a b ha hb hla hlb h0)) (by rfl) (by simp) ?_;simp (disch:=omega) only[wt,seval,reduceCtorEq,Nat.reduceEqDiff,natsr_len,natsr_at,Option.getD_some];refine if_by (λh=>?_) (λh=>?_)
 .have h1:nv a%nv b≠0:=λh2=>by rw[h2,wd_zero]at h;simp at h
  rw[if_neg h1,if_neg h1];simp (disch:=omega) only[wt,seval,reduceCtorEq,Nat.reduceEqDiff,natsr_len,natsr_at,Option.getD_some]
 .have h1:nv a%nv b=0:=by
   rcases Nat.eq_zero_or_pos (wd (nv a%nv b)).length with h2|h2
   .exact wd_len_zero.mp h2
   .exact absurd (by omega) h
  rw[if_pos h1,if_pos h1];simp (disch:=omega) only[wt,seval,reduceCtorEq,Nat.reduceEqDiff,natsr_len,natsr_at,Option.getD_some]
def natAt (f:Fr)(t:Nat):Nat:=match f t with
 |.iv (.sl rows)=>nv (rows.map λr=>match r with | [.int _ n]=>n.toNat|_=>0)
 |_=>0
theorem natAt_of {f:Fr}{t v:Nat}(h:f t=.iv (.sl (lims (wd v)))):natAt f t=v:=by
 unfold natAt;rw[h];have e:(lims (wd v)).map (λr=>match r with | [.int _ n]=>n.toNat|_=>0)=wd v:=by
  simp only[lims,List.map_map]
  conv=>rhs;rw[<-List.map_id (wd v)]
  rfl
 simp only[e,nv_wd]
theorem gcd_ok (a b:List Nat)(ha:Lim a)(hb:Lim b)(hla:a.length<=2^38)(hlb:b.length<=2^38):AC Tryz.prog 228 [cl a,cl b] none [cl (wd (Nat.gcd (nv a) (nv b)))]:=by
 refine AC.by_walk (rs:=[.tmp 4]) ords Tryz.func228 (by rfl) (by rfl) (by rfl) (by rfl) (by rfl) ?_;simp (disch:=omega) only[wt,seval,reduceCtorEq,Nat.reduceEqDiff,natsr_len,natsr_at,Option.getD_some];refine call_by ((norm_ok a ha (by omega))) (by rfl) (by simp) ?_;simp (disch:=omega) only[wt,seval,reduceCtorEq,Nat.reduceEqDiff,natsr_len,natsr_at,Option.getD_some];refine call_by ((norm_ok b hb (by omega))) (by rfl) (by simp) ?_;simp (disch:=omega) only[wt,seval,reduceCtorEq,Nat.reduceEqDiff,natsr_len,natsr_at,Option.getD_some];have hxl:=nv_len ha;have hyl:=nv_len hb;generalize nv a=x at *;generalize nv b=y at *;refine aloop_by (λf H=>∃u v:Nat,Nat.gcd u v=Nat.gcd x y/\(wd u).length<=2^38/\(wd v).length<=2^38/\f 0=.iv (.sl (lims (wd u)))/\f 1=.iv (.sl (lims (wd v)))) (λf H=>natAt f 1) ?_ ?_
 .exact⟨x,y,rfl,by omega,by omega,by simp (disch:=omega) only[wt,seval,reduceCtorEq,Nat.reduceEqDiff,natsr_len,natsr_at,Option.getD_some]⟩
 rintro f H ⟨u,v,hg,hu,hv,hF⟩;rw[natAt_of hF.2];simp (disch:=omega) only[wt,seval,reduceCtorEq,Nat.reduceEqDiff,natsr_len,natsr_at,Option.getD_some,hF];refine if_by (λh=>?_) (λh=>?_)
 .have h0:v≠0:=λh1=>by rw[h1,wd_zero]at h;simp at h
  have hm:=gmod_ok (wd u) (wd v) (lim_wd _) (lim_wd _) hu hv (by rw[nv_wd];exact h0);rw[nv_wd,nv_wd]at hm;simp (disch:=omega) only[wt,seval,reduceCtorEq,Nat.reduceEqDiff,natsr_len,natsr_at,Option.getD_some,hF];refine call_by (hm) (by first|rfl|(simp only[tocvs,tocv,toboxes,tobox,updH_at,Nat.reduceEqDiff,↓reduceIte,hF];rfl)) (by simp) ?_;simp (disch:=omega) only[wt,seval,reduceCtorEq,Nat.reduceEqDiff,natsr_len,natsr_at,Option.getD_some,hF];have hlt:=Nat.mod_lt u (Nat.pos_of_ne_zero h0);have:=wd_len_mono (Nat.le_of_lt hlt);rw[natAt_of rfl];exact⟨⟨v,u%v,by rw[<-hg,Nat.gcd_comm u v,Nat.gcd_rec v u,Nat.gcd_comm],hv,by omega,rfl,rfl⟩,hlt⟩
 .have h0:v=0:=wd_len_zero.mp (by omega);subst h0;rw[Nat.gcd_zero_right]at hg;simp (disch:=omega) only[wt,seval,reduceCtorEq,Nat.reduceEqDiff,natsr_len,natsr_at,Option.getD_some,hF,hg]
theorem iv_sg (c:RI):iv c=sg c.1 (nv c.2):=rfl
theorem znat_ok (s:Bool)(n:Nat)(h:(wd n).length<=2^40):AC Tryz.prog 123 [cb s,cl (wd n)] none [cz (sg s n)]:=by
 refine AC.by_walk (rs:=[.cell 4 44]) ords Tryz.func123 (by rfl) (by rfl) (by rfl) (by rfl) (by rfl) ?_;simp (disch:=omega) only[wt,seval,reduceCtorEq,Nat.reduceEqDiff,cpoly_len];have m:=znorm_ok (s,wd n) ⟨h,lim_wd _⟩;rw[iv_sg,nv_wd]at m;refine call_by (m) (by rfl) (by simp) ?_;simp (disch:=omega) only[wt,seval,reduceCtorEq,Nat.reduceEqDiff,cpoly_len]
theorem sg_div {s t:Bool}{x y:Nat}(h:x%y=0):sg s x/sg t y=sg (s != t) (x/y)/\sg t y∣sg s x:=by
 obtain⟨k,rfl⟩:=Nat.dvd_of_mod_eq_zero h;rcases Nat.eq_zero_or_pos y with h0|h0
 .subst h0;cases s<;>cases t<;>simp[sg]
 .rw[Nat.mul_div_cancel_left _ h0];have hy:(y:Int)≠0:=by omega
  cases s<;>cases t<;>simp[sg,Int.mul_ediv_cancel_left _ hy,<-Int.mul_neg]
theorem sg_dvd {s t:Bool}{x y:Nat}:sg t y∣sg s x↔x%y=0:=by
 constructor
 .intro h;have h1:=Int.natAbs_dvd_natAbs.mpr h;have e:∀(b:Bool) (n:Nat),(sg b n).natAbs=n:=λb n=>by cases b<;>simp[sg]
  rw[e,e]at h1;exact Nat.mod_eq_zero_of_dvd h1
 .intro h;exact(sg_div h).2
theorem zexact_ok (a b:RI)(ha:Sz (2^38) a)(hb:Sz (2^38) b)(h0:iv b≠0)(hd:iv b∣iv a):AC Tryz.prog 173 [cr a,cr b] none [cz (iv a/iv b),ci 0]:=by
 refine AC.by_walk (rs:=[.cell 4 44,.tmp 5]) ords Tryz.func173 (by rfl) (by rfl) (by rfl) (by rfl) (by rfl) ?_;rw[iv_sg,iv_sg]at hd;rw[iv_sg]at h0;have hm:=sg_dvd.mp hd;have hn:nv b.2≠0:=λh=>h0 (by rw[h];cases b.1<;>rfl)
 have m:=dexact_ok a.2 b.2 ha.2 hb.2 ha.1 hb.1 hn;rw[if_pos hm,if_pos hm]at m;rw[iv_sg,iv_sg,(sg_div hm).1];simp (disch:=omega) only[wt,seval,reduceCtorEq,Nat.reduceEqDiff,cpoly_len];refine call_by (m) (by rfl) (by simp) ?_;simp (disch:=omega) only[wt,seval,reduceCtorEq,Nat.reduceEqDiff,cpoly_len];refine call_by ((zof_ok (a.1 != b.1) (nv a.2/nv b.2))) (by rfl) (by simp) ?_;simp (disch:=omega) only[wt,seval,reduceCtorEq,Nat.reduceEqDiff,cpoly_len]
theorem zexact_bad (a b:RI)(ha:Sz (2^38) a)(hb:Sz (2^38) b)(h0:iv b≠0)(hd:¬iv b∣iv a):AC Tryz.prog 173 [cr a,cr b] none [cr (false,[]),ci 4]:=by
 refine AC.by_walk (rs:=[.cell 4 44,.tmp 5]) ords Tryz.func173 (by rfl) (by rfl) (by rfl) (by rfl) (by rfl) ?_;rw[iv_sg,iv_sg]at hd;rw[iv_sg]at h0;have hm:¬nv a.2%nv b.2=0:=λh=>hd (sg_dvd.mpr h)
 have hn:nv b.2≠0:=λh=>h0 (by rw[h];cases b.1<;>rfl)
 have m:=dexact_ok a.2 b.2 ha.2 hb.2 ha.1 hb.1 hn;rw[if_neg hm,if_neg hm]at m;simp (disch:=omega) only[wt,seval,reduceCtorEq,Nat.reduceEqDiff,cpoly_len];refine call_by (m) (by rfl) (by simp) ?_;simp (disch:=omega) only[wt,seval,reduceCtorEq,Nat.reduceEqDiff,cpoly_len]
def gz (q:List Int):Nat:=q.foldl (λg c=>Nat.gcd g c.natAbs) 0
theorem gz_take {q:List Int}{i:Nat}(h:i<q.length):gz (q.take (i+1))=Nat.gcd (gz (q.take i)) (cf q i).natAbs:=by
 have e:q.take (i+1)=q.take i++[cf q i]:=by
  rw[List.take_add_one];congr 1;simp[cf,List.getD,h]
 rw[e,gz,List.foldl_append];rfl
theorem zgcd_ok (p:List RI)(h:RP (2^40) (2^38) p):AC Tryz.prog 218 [cw p] none [cl (wd (gz (pv p)))]:=by
 refine AC.by_walk (rs:=[.tmp 2]) ords Tryz.func218 (by rfl) (by rfl) (by rfl) (by rfl) (by rfl) ?_;have hl:=h.1;simp (disch:=omega) only[wt,seval,reduceCtorEq,Nat.reduceEqDiff,cpoly_len];refine aloop_w (.iv 3 6 1 false 93 1 [] (by simp (disch:=omega) only[wt,seval,reduceCtorEq,Nat.reduceEqDiff,cpoly_len]) (by simp (disch:=omega) only[wt,seval,reduceCtorEq,Nat.reduceEqDiff,cpoly_len]) (.refl _ _)) (λf H=>∃(i:Nat),i<=p.length/\(wd (gz ((pv p).take i))).length<=2^38/\f 9=.iv (.int .i64 i)/\f 7=.iv (.sl (raws p))/\f 8=.iv (.int .i64 p.length)/\f 3=.iv (.sl (lims (wd (gz ((pv p).take i)))))) (λf H=>(p.length-intAt f 9).toNat) ?_ ?_
 .refine⟨0,by omega,by rw[List.take_zero,gz,List.foldl_nil,wd_zero];exact Nat.zero_le _,?_⟩;simp (disch:=omega) only[wt,seval,reduceCtorEq,Nat.reduceEqDiff,cpoly_len,List.take_zero,gz,List.foldl_nil,wd_zero,lims_nil]
 rintro f H ⟨i,hi,hs,hF⟩;rw[intAt_of hF.1];simp (disch:=omega) only[wt,seval,reduceCtorEq,Nat.reduceEqDiff,cpoly_len,hF];refine if_by (λhlt=>?_) (λhlt=>?_)
 .have hc:=h.get i;have m:=gcd_ok (wd (gz ((pv p).take i))) (p.getD i (false,[])).2 (lim_wd _) hc.2 hs hc.1;rw[nv_wd,<-iv_abs,<-cf_pv,<-gz_take (by rw[pv_len];omega)]at m;simp (disch:=omega) only[wt,seval,reduceCtorEq,Nat.reduceEqDiff,cpoly_len,hF];refine call_by (m) (by first|rfl|(simp only[tocvs,tocv,toboxes,tobox,updH_at,Nat.reduceEqDiff,↓reduceIte,hF];rfl)) (by simp) ?_;simp (disch:=omega) only[wt,seval,reduceCtorEq,Nat.reduceEqDiff,cpoly_len,hF];refine⟨⟨i+1,by omega,?_,by omega,rfl⟩,by omega⟩;rw[gz_take (by rw[pv_len];omega)];rcases Nat.eq_zero_or_pos (cf (pv p) i).natAbs with h0|h0
  .rw[h0,Nat.gcd_zero_right];exact hs
  .refine Nat.le_trans (wd_len_mono (Nat.gcd_le_right _ h0)) ?_;rw[cf_pv,iv_abs];exact Nat.le_trans (nv_len hc.2) hc.1
 .simp (disch:=omega) only[wt,seval,reduceCtorEq,Nat.reduceEqDiff,cpoly_len,hF];rw[List.take_of_length_le (by rw[pv_len];omega)]
theorem gz_len {n k:Nat}{p:List RI}(h:RP n k p):(wd (gz (pv p))).length<=k:=by
 have key:∀i,i<=p.length->(wd (gz ((pv p).take i))).length<=k:=by
  intro i
  induction i with
  |zero=>intro _;rw[List.take_zero,gz,List.foldl_nil,wd_zero];exact Nat.zero_le _
  |succ i ih =>
   intro hi;rw[gz_take (by rw[pv_len];omega)];rcases Nat.eq_zero_or_pos (cf (pv p) i).natAbs with h0|h0
   .rw[h0,Nat.gcd_zero_right];exact ih (by omega)
   .refine Nat.le_trans (wd_len_mono (Nat.gcd_le_right _ h0)) ?_;rw[cf_pv,iv_abs];exact Nat.le_trans (nv_len (h.get i).2) (h.get i).1
 have:=key p.length (Nat.le_refl _);rwa [List.take_of_length_le (by rw[pv_len];exact Nat.le_refl _)]at this
def lc (q:List Int):Int:=cf q (tz q-1)
def cont (q:List Int):Int:=sg (decide (lc q<0)) (gz q)
theorem sign_neg (z:Int):z.sign<0↔z<0:=by
 rcases Int.lt_trichotomy z 0 with h|h|h
 .rw[Int.sign_eq_neg_one_of_neg h];omega
 .subst h;simp
 .rw[Int.sign_eq_one_of_pos h];omega
theorem pcontent_ok (p:List RI)(h:RP (2^40) (2^38) p):AC Tryz.prog 166 [cw p] none [cz (cont (pv p))]:=by
 refine AC.by_walk (rs:=[.cell 2 44]) ords Tryz.func166 (by rfl) (by rfl) (by rfl) (by rfl) (by rfl) ?_;have hl:=h.1;have hg:=gz_len h;have hs:=zsign_ok (canon (lc (pv p))) ((sz_canon _).mono (by
  have:=(h.pv).cf (tz (pv p)-1);unfold lc;omega))
 rw[iv_canon]at hs;simp (disch:=omega) only[wt,seval,reduceCtorEq,Nat.reduceEqDiff,cpoly_len];refine call_by ((plead_ok p (h.mono (by omega) (by omega)))) (by rfl) (by simp) ?_;simp (disch:=omega) only[wt,seval,reduceCtorEq,Nat.reduceEqDiff,cpoly_len];refine call_by (hs) (by rfl) (by simp) ?_;simp (disch:=omega) only[wt,seval,reduceCtorEq,Nat.reduceEqDiff,cpoly_len];refine call_by ((zgcd_ok p h)) (by rfl) (by simp) ?_;simp (disch:=omega) only[wt,seval,reduceCtorEq,Nat.reduceEqDiff,cpoly_len];have m:=znat_ok (decide (lc (pv p)<0)) (gz (pv p)) (by omega);have e:(decide ((lc (pv p)).sign<0))=decide (lc (pv p)<0):=by rw[decide_eq_decide];exact sign_neg _
 rw[e];refine call_by (m) (by rfl) (by simp) ?_;simp (disch:=omega) only[wt,seval,reduceCtorEq,Nat.reduceEqDiff,cpoly_len];rfl
def pdivs (c:Int)(q:List Int):List Int:=q.map (· / c)
theorem pover_zero (p:List RI)(c:RI)(hp:RP (2^40) (2^38) p)(hc:Sz (2^38) c)(h0:iv c=0):AC Tryz.prog 113 [cw p,cr c] none [cw [],ci 1]:=by
 refine AC.by_walk (rs:=[.tmp 4,.tmp 5]) ords Tryz.func113 (by rfl) (by rfl) (by rfl) (by rfl) (by rfl) ?_;simp (disch:=omega) only[wt,seval,reduceCtorEq,Nat.reduceEqDiff,cpoly_len];have hs:=zsign_ok c (hc.mono (by omega));rw[h0]at hs;rw[Int.sign_zero]at hs;refine call_by (hs) (by rfl) (by simp) ?_;simp (disch:=omega) only[wt,seval,reduceCtorEq,Nat.reduceEqDiff,cpoly_len]
theorem cf_pdivs (c:Int)(q:List Int)(k:Nat):cf (pdivs c q) k=cf q k/c:=by
 unfold pdivs cf;rw[List.getD_eq_getElem?_getD,List.getD_eq_getElem?_getD,List.getElem?_map];cases q[k]? with
 |none=>simp
 |some x=>rfl
theorem zl_div {a b:Int}(h:b∣a):zl (a/b)<=zl a:=by
 obtain⟨k,rfl⟩:=h;by_cases h0:b=0
 .subst h0;simp
 .rw[Int.mul_ediv_cancel_left _ h0];unfold zl;rw[Int.natAbs_mul];exact wd_len_mono (Nat.le_mul_of_pos_left _ (by omega))
theorem pover_ok (p:List RI)(c:RI)(hp:RP (2^30) (2^35) p)(hc:Sz (2^35) c)(h0:iv c≠0)(hd:∀k,iv c∣cf (pv p) k):AC Tryz.prog 113 [cw p,cr c] none [cp (pdivs (iv c) (pv p)),ci 0]:=by
 refine AC.by_walk (rs:=[.tmp 4,.tmp 5]) ords Tryz.func113 (by rfl) (by rfl) (by rfl) (by rfl) (by rfl) ?_;have hl:=hp.1;have hs0:(iv c).sign≠0:=λh=>h0 (Int.sign_eq_zero_iff_zero.mp h)
 simp (disch:=omega) only[wt,seval,reduceCtorEq,Nat.reduceEqDiff,cpoly_len];refine call_by ((zsign_ok c (hc.mono (by omega)))) (by rfl) (by simp) ?_;simp (disch:=omega) only[wt,seval,reduceCtorEq,Nat.reduceEqDiff,cpoly_len];simp (disch:=omega) only[wt,seval,reduceCtorEq,Nat.reduceEqDiff,cpoly_len,hs0];refine aloop_by (λf H=>∃(i st st3:Nat) (out:List Int),i<=p.length/\out.length=p.length/\(∀k,zl (cf out k)<=2^36)/\(∀k,k<i->cf out k=cf (pv p) k/iv c)/\f 18=.iv (.int .i64 i)/\f 0=.iv (.sl (raws p))/\f 3=.hp 3 st3 0 0/\f 6=.hs 15 st/\f 17=.iv (.int .i64 p.length)/\H 15=.blk false st 44 2 (raws (out.map canon))/\H 3=.blk false st3 44 2 [prow c]) (λf H=>(p.length-intAt f 18).toNat) ?_ ?_
 .refine⟨0,1,1,List.replicate p.length 0,by omega,by simp,λk=>by rw[cf_rep,zl_zero];omega,λk hk=>by omega,?_⟩;simp (disch:=omega) only[wt,seval,reduceCtorEq,Nat.reduceEqDiff,cpoly_len,Int.toNat_natCast,rep_canon]
 rintro f H ⟨i,st,st3,out,hi,hol,hz,hv,hF⟩;rw[intAt_of hF.1];simp (disch:=omega) only[wt,seval,reduceCtorEq,Nat.reduceEqDiff,cpoly_len,hF];refine if_by (λhlt=>?_) (λhlt=>?_)
 .have hq:(out.map canon).length=p.length:=by rw[List.length_map,hol]
  have hdi:=hd i;rw[cf_pv]at hdi;have m:=zexact_ok (p.getD i (false,[])) c ((hp.get i).mono (by omega)) (hc.mono (by omega)) h0 hdi;rw[<-cf_pv]at m;simp (disch:=omega) only[wt,seval,reduceCtorEq,Nat.reduceEqDiff,cpoly_len,hF,hq];refine .inl ⟨tmps_by (by kernel_rfl),?_⟩;refine call_by (m) (by first|rfl|(simp only[tocvs,tocv,toboxes,tobox,updH_at,Nat.reduceEqDiff,↓reduceIte,hF,hq];rfl)) (by simp) ?_;simp (disch:=omega) only[wt,seval,reduceCtorEq,Nat.reduceEqDiff,cpoly_len,hF,hq]
  first|exact log_by (by kernel_rfl)|refine⟨log_by (by kernel_rfl),?_⟩
  refine⟨⟨i+1,st,st3,out.set i (cf (pv p) i/iv c),by omega,by simp[hol],λk=>?_,λk hk=>?_,by omega,rfl,rfl,rfl,rfl⟩,by omega⟩
  .rw[cf_set (by omega)];split
   .have:=zl_div (hd i);have:=hp.pv.cf i;omega
   .exact hz k
  .rw[cf_set (by omega)];split
   .rename_i e;rw[e]
   .exact hv k (by omega)
 .simp (disch:=omega) only[wt,seval,reduceCtorEq,Nat.reduceEqDiff,cpoly_len,hF];have e:cp (pdivs (iv c) (pv p))=cp (pv (out.map canon)):=by
   refine cp_ext λk=>?_;rw[pv_canon,cf_pdivs];by_cases hk:k<p.length
   .exact(hv k (by omega)).symm
   .rw[cf_ge (q:=out) (by omega),cf_ge (by rw[pv_len];omega)];simp
  rw[e];refine call_by ((pnorm_ok (out.map canon) (RP.canon (.of (by omega) λk=>Nat.le_trans (hz k) (by omega))))) (by first|rfl|(simp only[tocvs,tocv,toboxes,tobox,updH_at,Nat.reduceEqDiff,↓reduceIte,hF];rfl)) (by simp) ?_;simp (disch:=omega) only[wt,seval,reduceCtorEq,Nat.reduceEqDiff,cpoly_len,hF]
theorem gz_dvd (q:List Int)(k:Nat):(gz q:Int)∣cf q k:=by
 have key:∀i,i<=q.length->∀k,k<i->(gz (q.take i):Int)∣cf q k:=by
  intro i
  induction i with
  |zero=>intro _ k hk;omega
  |succ i ih =>
   intro hi k hk;rw[gz_take (by omega)];rcases Nat.lt_or_ge k i with h|h
   .exact Int.dvd_trans (Int.natCast_dvd_natCast.mpr (Nat.gcd_dvd_left _ _)) (ih (by omega) k h)
   .obtain rfl:k=i:=by omega
    exact Int.ofNat_dvd_left.mpr (Nat.gcd_dvd_right _ _)
 rcases Nat.lt_or_ge k q.length with h|h
 .have:=key q.length (Nat.le_refl _) k h;rwa [List.take_of_length_le (Nat.le_refl _)]at this
 .rw[cf_ge h];exact Int.dvd_zero _
theorem cont_dvd (q:List Int)(k:Nat):cont q∣cf q k:=by
 have:=gz_dvd q k;unfold cont sg;split
 .exact Int.neg_dvd.mpr this
 .exact this
theorem cont_natAbs (q:List Int):(cont q).natAbs=gz q:=by
 unfold cont sg;split<;>simp
def prim (q:List Int):List Int:=pdivs (cont q) q
theorem pprim_ok (p:List RI)(h:RP (2^30) (2^35) p):AC Tryz.prog 104 [cw p] none [cp (prim (pv p))]:=by
 refine AC.by_walk (rs:=[.tmp 2]) ords Tryz.func104 (by rfl) (by rfl) (by rfl) (by rfl) (by rfl) ?_;have hg:=gz_len h;have hsz:Sz (2^35) (canon (cont (pv p))):=(sz_canon _).mono (by unfold zl;rw[cont_natAbs];exact hg);simp (disch:=omega) only[wt,seval,reduceCtorEq,Nat.reduceEqDiff,cpoly_len];refine call_by ((pcontent_ok p (h.mono (by omega) (by omega)))) (by rfl) (by simp) ?_;simp (disch:=omega) only[wt,seval,reduceCtorEq,Nat.reduceEqDiff,cpoly_len];by_cases h0:cont (pv p)=0
 .have m:=pover_zero p (canon (cont (pv p))) (h.mono (by omega) (by omega)) (hsz.mono (by omega)) (by rw[iv_canon];exact h0);have e:cp (prim (pv p))=cw []:=by
   have:cp (prim (pv p))=cp []:=cp_ext λk=>by
    unfold prim;rw[cf_pdivs,h0,Int.ediv_zero];rfl
   rw[this];rfl
  rw[e];refine call_by (m) (by rfl) (by simp) ?_;simp (disch:=omega) only[wt,seval,reduceCtorEq,Nat.reduceEqDiff,cpoly_len]
 .have m:=pover_ok p (canon (cont (pv p))) h hsz (by rw[iv_canon];exact h0) (λk=>by rw[iv_canon];exact cont_dvd _ k);rw[iv_canon]at m;refine call_by (m) (by rfl) (by simp) ?_;simp (disch:=omega) only[wt,seval,reduceCtorEq,Nat.reduceEqDiff,cpoly_len];rfl
theorem gz_greatest (q:List Int)(d:Nat)(h:∀k,(d:Int)∣cf q k):d∣gz q:=by
 have key:∀i,i<=q.length->d∣gz (q.take i):=by
  intro i
  induction i with
  |zero=>intro _;exact Nat.dvd_zero _
  |succ i ih =>
   intro hi;rw[gz_take (by omega)];exact Nat.dvd_gcd (ih (by omega)) (Int.ofNat_dvd_left.mp (h i))
 have:=key q.length (Nat.le_refl _);rwa [List.take_of_length_le (Nat.le_refl _)]at this
theorem gz_eq {p q:List Int}(h:∀k,cf p k=cf q k):gz p=gz q :=
 Nat.dvd_antisymm (gz_greatest q _ λk=>by rw[<-h];exact gz_dvd p k) (gz_greatest p _ λk=>by rw[h];exact gz_dvd q k)
theorem gz_scale (c:Int)(q:List Int):gz (pscale c q)=c.natAbs*gz q:=by
 have key:∀(q:List Int) (g:Nat),(pscale c q).foldl (λg x=>Nat.gcd g x.natAbs) (c.natAbs*g)=c.natAbs*q.foldl (λg x=>Nat.gcd g x.natAbs) g:=by
  intro q
  induction q with
  |nil=>intro g;rfl
  |cons x xs ih =>
   intro g;have e:pscale c (x::xs)=(x*c)::pscale c xs:=rfl;rw[e,List.foldl_cons,List.foldl_cons,Int.natAbs_mul,Nat.mul_comm x.natAbs,Nat.gcd_mul_left,ih]
 exact key q 0
theorem prime_fac:∀n:Nat,1<n->∃r,1<r/\r∣n/\∀x:Nat,r∣x\/Nat.gcd r x=1:=by
 intro n
 induction n using Nat.strongRecOn with
 |_ n ih =>
  intro hn;by_cases h:∀x:Nat,n∣x\/Nat.gcd n x=1
  .exact⟨n,hn,Nat.dvd_refl _,h⟩
  .obtain⟨x,hx⟩:=Classical.not_forall.mp h;have h1:¬n∣x:=λh=>hx (.inl h)
   have h2:¬Nat.gcd n x=1:=λh=>hx (.inr h)
   have h3:Nat.gcd n x<=n:=Nat.gcd_le_left _ (by omega);have h4:Nat.gcd n x≠n:=λh=>h1 (by rw[<-h];exact Nat.gcd_dvd_right _ _)
   have h5:Nat.gcd n x≠0:=λh=>by have:=Nat.eq_zero_of_gcd_eq_zero_left h;omega
   obtain⟨r,hr,hrd,hp⟩:=ih (Nat.gcd n x) (by omega) (by omega);exact⟨r,hr,Nat.dvd_trans hrd (Nat.gcd_dvd_left _ _),hp⟩
theorem prime_mul {r:Nat}(hp:∀x:Nat,r∣x\/Nat.gcd r x=1){x y:Int}(h:(r:Int)∣x*y):(r:Int)∣x\/(r:Int)∣y:=by
 have h1:=Int.ofNat_dvd_left.mp h;rw[Int.natAbs_mul]at h1;rcases hp x.natAbs with h2|h2
 .exact .inl (Int.ofNat_dvd_left.mpr h2)
 .exact .inr (Int.ofNat_dvd_left.mpr (Nat.Coprime.dvd_of_dvd_mul_left h2 h1))
theorem sumN_dvd {r:Int}:∀{n:Nat} {f:Nat->Int},(∀k,k<n->r∣f k)->r∣sumN n f
 |0,f,_=>Int.dvd_zero _
 |n+1,f,h=>Int.dvd_add (sumN_dvd λk hk=>h k (by omega)) (h n (by omega))
theorem sumN_dvd_one {r:Int}{n i:Nat}{f:Nat->Int}(hi:i<n)(h:∀k,k<n->k≠i->r∣f k)(hs:r∣sumN n f):r∣f i:=by
 have e:sumN n f=sumN n (λk=>if k=i then 0 else f k)+f i:=by
  have h1:sumN n (λk=>if k=i then f k else 0)=f i:=by
   rw[sumN_one _ hi λk _ hk=>if_neg hk,if_pos rfl]
  rw[<-h1,<-sumN_add];refine sumN_congr λk _=>?_;by_cases hk:k=i
  .rw[if_pos hk,if_pos hk,Int.zero_add]
  .rw[if_neg hk,if_neg hk,Int.add_zero]
 have h2:r∣sumN n (λk=>if k=i then 0 else f k):=sumN_dvd λk hk=>by
  by_cases hki:k=i
  .simp only[if_pos hki];exact Int.dvd_zero _
  .simp only[if_neg hki];exact h k hk hki
 rw[e]at hs;exact(Int.dvd_add_right h2).mp hs
theorem gauss_prime {r:Nat}(hp:∀x:Nat,r∣x\/Nat.gcd r x=1){p q:List Int}(h:∀k,(r:Int)∣cf (pmul p q) k):∀n i j,i+j=n->(r:Int)∣cf p i\/(r:Int)∣cf q j:=by
 intro n
 induction n using Nat.strongRecOn with
 |_ n ih =>
  intro i j hij;by_cases h1:(r:Int)∣cf p i
  .exact .inl h1
  by_cases h2:(r:Int)∣cf q j
  .exact .inr h2
  exfalso
  have h3:=h n;rw[cf_pmul,PS.cv_conv,PS.conv]at h3;have h4:=sumN_dvd_one (i:=i) (by omega) (λk hk hki=>?_) h3
  .rw[show n-i=j by omega]at h4;rcases prime_mul hp h4 with h5|h5
   .exact h1 h5
   .exact h2 h5
  .rcases Nat.lt_or_ge k i with h5|h5
   .rcases ih (k+j) (by omega) k j rfl with h6|h6
    .exact Int.dvd_trans h6 (Int.dvd_mul_right _ _)
    .exact absurd h6 h2
   .rcases ih (i+(n-k)) (by omega) i (n-k) rfl with h6|h6
    .exact absurd h6 h1
    .exact Int.dvd_trans h6 (Int.dvd_mul_left _ _)
theorem gauss_gz {p q:List Int}(hp:gz p=1)(hq:gz q=1):gz (pmul p q)=1:=by
 rcases Nat.lt_trichotomy (gz (pmul p q)) 1 with h|h|h
 .exfalso
  obtain⟨r,hr,hrd,hpr⟩:=prime_fac 2 (by decide);have h0:gz (pmul p q)=0:=by omega
  have hd:∀k,(r:Int)∣cf (pmul p q) k:=λk=>by
   have:=gz_dvd (pmul p q) k;rw[h0]at this;rw[Int.zero_dvd.mp this];exact Int.dvd_zero _
  have key:=gauss_prime hpr hd;by_cases ha:∀i,(r:Int)∣cf p i
  .have:=gz_greatest p r ha;rw[hp]at this;have:=Nat.le_of_dvd (by decide) this;omega
  .obtain⟨i,hi⟩:=Classical.not_forall.mp ha;have:=gz_greatest q r λj=>(key _ i j rfl).resolve_left hi
   rw[hq]at this;have:=Nat.le_of_dvd (by decide) this;omega
 .exact h
 .exfalso
  obtain⟨r,hr,hrd,hpr⟩:=prime_fac _ h;have hd:∀k,(r:Int)∣cf (pmul p q) k:=λk=>Int.dvd_trans (Int.natCast_dvd_natCast.mpr hrd) (gz_dvd _ k)
  have key:=gauss_prime hpr hd;by_cases ha:∀i,(r:Int)∣cf p i
  .have:=gz_greatest p r ha;rw[hp]at this;have:=Nat.le_of_dvd (by decide) this;omega
  .obtain⟨i,hi⟩:=Classical.not_forall.mp ha;have:=gz_greatest q r λj=>(key _ i j rfl).resolve_left hi
   rw[hq]at this;have:=Nat.le_of_dvd (by decide) this;omega
theorem lc_spec {q:List Int}{n:Nat}(h:cf q n≠0)(h0:∀k,n<k->cf q k=0):lc q=cf q n:=by
 unfold lc;rw[tz_spec h h0,Nat.add_sub_cancel]
theorem lc_ne {q:List Int}(h:gz q≠0):tz q≠0/\lc q≠0:=by
 have h1:tz q≠0:=λh1=>by
  have h2:(0:Nat)∣gz q:=gz_greatest q 0 λk=>by rw[tz_zero_iff.mp h1 k];exact Int.dvd_zero _
  exact h (Nat.eq_zero_of_zero_dvd h2)
 exact⟨h1,cf_tz_pred h1⟩
def Prm (q:List Int):Prop:=gz q=1/\0<lc q
theorem lc_scale {T R:List Int}{c:Int}(h:∀k,cf T k=c*cf R k)(hR:lc R≠0):lc T=c*lc R:=by
 have hR':tz R≠0:=λh0=>hR (by unfold lc;exact tz_zero_iff.mp h0 _)
 by_cases hc:c=0
 .unfold lc;rw[h,hc,Int.zero_mul,Int.zero_mul]
 .have e:lc T=cf T (tz R-1):=lc_spec (by rw[h];exact Int.mul_ne_zero hc hR) λk hk=>by rw[h,cf_ge_tz R (by omega),Int.mul_zero]
  rw[e,h];rfl
theorem gz_mul {T R:List Int}{c:Int}(h:∀k,cf T k=c*cf R k):gz T=c.natAbs*gz R:=by
 rw[<-gz_scale];exact gz_eq λk=>by rw[h,cf_pscale,Int.mul_comm]
theorem sg_abs {c l:Int}(hl:0<l):sg (decide (c*l<0)) c.natAbs=c:=by
 unfold sg;by_cases hc:c<0
 .rw[decide_eq_true (Int.mul_neg_of_neg_of_pos hc hl)];simp only[↓reduceIte];omega
 .have h1:¬c*l<0:=by have:=Int.mul_nonneg (show 0<=c by omega) (show 0<=l by omega);omega
  rw[decide_eq_false h1];simp only[Bool.false_eq_true,↓reduceIte];omega
theorem cont_of {T R:List Int}{c:Int}(hR:Prm R)(h:∀k,cf T k=c*cf R k):cont T=c:=by
 unfold cont;rw[gz_mul h,hR.1,Nat.mul_one,lc_scale h (by have:=hR.2;omega)];exact sg_abs hR.2
theorem prim_of {T R:List Int}{c:Int}(hR:Prm R)(hc:c≠0)(h:∀k,cf T k=c*cf R k)(k:Nat):cf (prim T) k=cf R k:=by
 unfold prim;rw[cf_pdivs,cont_of hR h,h,Int.mul_ediv_cancel_left _ hc]
theorem cf_prim (q:List Int)(k:Nat):cf q k=cont q*cf (prim q) k:=by
 unfold prim;rw[cf_pdivs,Int.mul_ediv_cancel' (cont_dvd q k)]
theorem prm_prim {q:List Int}(h:cont q≠0):Prm (prim q):=by
 have h0:gz q≠0:=λh0=>h (Int.natAbs_eq_zero.mp (by rw[cont_natAbs];exact h0))
 have h1:=gz_mul (cf_prim q);rw[cont_natAbs]at h1;have h2:gz (prim q)=1:=by
  have:gz q*gz (prim q)=gz q*1:=by omega
  exact Nat.eq_of_mul_eq_mul_left (by omega) this
 refine⟨h2,?_⟩;have h3:=(lc_ne (q:=prim q) (by omega)).2;have h4:=lc_scale (cf_prim q) h3;have h5:=(lc_ne h0).2;rcases Int.lt_trichotomy (lc (prim q)) 0 with h6|h6|h6
 .exfalso
  rcases Int.lt_or_gt_of_ne h5 with h7|h7
  .have h8:cont q<0:=by
    unfold cont sg;rw[decide_eq_true h7];simp only[↓reduceIte];omega
   have:=Int.mul_pos_of_neg_of_neg h8 h6;omega
  .have h8:0<cont q:=by
    unfold cont sg;rw[decide_eq_false (by omega)];simp only[Bool.false_eq_true,↓reduceIte];omega
   have:=Int.mul_neg_of_pos_of_neg h8 h6;omega
 .exact absurd h6 h3
 .exact h6
theorem lc_pmul {P Q:List Int}(hP:lc P≠0)(hQ:lc Q≠0):lc (pmul P Q)=lc P*lc Q:=by
 have hP':tz P≠0:=λh0=>hP (by unfold lc;exact tz_zero_iff.mp h0 _)
 have hQ':tz Q≠0:=λh0=>hQ (by unfold lc;exact tz_zero_iff.mp h0 _)
 have e1:cf (pmul P Q) (tz P-1+(tz Q-1))=lc P*lc Q:=by
  rw[cf_pmul,PS.cv_conv,PS.conv,sumN_one (j:=tz P-1) _ (by omega) λi hi hne=>?_]
  .rw[show tz P-1+(tz Q-1)-(tz P-1)=tz Q-1 by omega];rfl
  .rcases Nat.lt_or_ge i (tz P-1) with h|h
   .rw[cf_ge_tz Q (by omega),Int.mul_zero]
   .rw[cf_ge_tz P (by omega),Int.zero_mul]
 rw[lc_spec (n:=tz P-1+(tz Q-1)) (by rw[e1];exact Int.mul_ne_zero hP hQ) λk hk=>?_,e1];rw[cf_pmul,PS.cv_conv,PS.conv];refine sumN_zero λi hi=>?_;rcases Nat.lt_or_ge i (tz P) with h|h
 .rw[cf_ge_tz Q (by omega),Int.mul_zero]
 .rw[cf_ge_tz P (by omega),Int.zero_mul]
theorem prm_mul {P Q:List Int}(hP:Prm P)(hQ:Prm Q):Prm (pmul P Q):=by
 refine⟨gauss_gz hP.1 hQ.1,?_⟩;have h1:=hP.2;have h2:=hQ.2;rw[lc_pmul (by omega) (by omega)];exact Int.mul_pos h1 h2
theorem prim_zero {q:List Int}(h:cont q=0)(k:Nat):cf (prim q) k=0/\cf q k=0:=by
 constructor
 .unfold prim;rw[cf_pdivs,h,Int.ediv_zero]
 .rw[cf_prim,h,Int.zero_mul]
theorem ps_prim (q:List Int):ps q=PS.C (cont q)*ps (prim q):=PS.ext λk=>by
 rw[PS.C_mul_c,ps_c,ps_c];exact cf_prim q k
theorem mul_prims (p q:List Int)(k:Nat):cf (pmul p q) k=cont p*cont q*cf (pmul (prim p) (prim q)) k:=by
 have h:ps (pmul p q)=PS.C (cont p*cont q)*ps (pmul (prim p) (prim q)):=by
  rw[ps_pmul,ps_pmul,ps_prim p,ps_prim q,PS.C_mul];rw[<-ps_prim p,<-ps_prim q]
  conv=>lhs;rw[ps_prim p,ps_prim q]
  rw[PS.mul_assoc,PS.mul_assoc,<-PS.mul_assoc (ps (prim p)),PS.mul_comm (ps (prim p)) (PS.C _),PS.mul_assoc]
 have:=congrArg (λf=>f.c k) h;simp only[ps_c,PS.C_mul_c]at this;exact this
theorem cont_mul (p q:List Int):cont (pmul p q)=cont p*cont q:=by
 by_cases hp:cont p=0
 .have h0:∀k,cf (pmul p q) k=0:=λk=>by rw[mul_prims,hp,Int.zero_mul,Int.zero_mul]
  have h1:gz (pmul p q)=0:=Nat.eq_zero_of_zero_dvd (gz_greatest _ 0 λk=>by rw[h0];exact Int.dvd_zero _);rw[hp,Int.zero_mul];exact Int.natAbs_eq_zero.mp (by rw[cont_natAbs];exact h1)
 by_cases hq:cont q=0
 .have h0:∀k,cf (pmul p q) k=0:=λk=>by rw[mul_prims,hq,Int.mul_zero,Int.zero_mul]
  have h1:gz (pmul p q)=0:=Nat.eq_zero_of_zero_dvd (gz_greatest _ 0 λk=>by rw[h0];exact Int.dvd_zero _);rw[hq,Int.mul_zero];exact Int.natAbs_eq_zero.mp (by rw[cont_natAbs];exact h1)
 exact cont_of (prm_mul (prm_prim hp) (prm_prim hq)) (mul_prims p q)
theorem ps_zero {q:List Int}(h:∀k,cf q k=0):ps q=0:=PS.ext h
theorem prm_self {q:List Int}(h:Prm q):cont q=1/\ps (prim q)=ps q :=
 ⟨cont_of h λk=>(Int.one_mul _).symm,ps_ext λk=>prim_of h (by decide) (λk=>(Int.one_mul _).symm) k⟩
theorem cont_zero_iff {q:List Int}:cont q=0↔tz q=0:=by
 constructor
 .intro h;exact tz_zero_iff.mpr λk=>(prim_zero h k).2
 .intro h;refine Int.natAbs_eq_zero.mp ?_;rw[cont_natAbs];exact Nat.eq_zero_of_zero_dvd (gz_greatest _ 0 λk=>by rw[tz_zero_iff.mp h k];exact Int.dvd_zero _)
theorem pnone_ok (p:List RI)(h:RP (2^40) (2^40) p):AC Tryz.prog 168 [cw p] none [cb (decide (tz (pv p)=0))]:=by
 refine AC.by_walk (rs:=[.tmp 2]) ords Tryz.func168 (by rfl) (by rfl) (by rfl) (by rfl) (by rfl) ?_;simp (disch:=omega) only[wt,seval,reduceCtorEq,Nat.reduceEqDiff,cpoly_len];refine call_by ((pdeg_ok p h)) (by rfl) (by simp) ?_;simp (disch:=omega) only[wt,seval,reduceCtorEq,Nat.reduceEqDiff,cpoly_len];rw[decide_eq_decide];omega
theorem prsmono_ok (c:RI)(n:Nat)(hn:n<=2^29)(hc:Sz (2^35) c):AC Tryz.prog 219 [cr c,ci n] none [cp (List.replicate n 0++[iv c])]:=by
 refine AC.by_walk (rs:=[.tmp 4]) ords Tryz.func219 (by rfl) (by rfl) (by rfl) (by rfl) (by rfl) ?_;simp (disch:=omega) only[wt,seval,reduceCtorEq,Nat.reduceEqDiff,cpoly_len];refine .inl ⟨tmps_by (by kernel_rfl),?_⟩;have m:=pnorm_ok (List.replicate n (false,[])++[c]) ⟨by simp;omega,λx hx=>by
  rcases List.mem_append.mp hx with h|h
  .rw[List.eq_of_mem_replicate h];exact⟨by simp,Lim.nil⟩
  .rw[List.mem_singleton.mp h];exact hc.mono (by omega)⟩
 have e:pv (List.replicate n (false,[])++[c])=List.replicate n 0++[iv c]:=by
  simp only[pv,List.map_append,List.map_replicate,List.map_cons,List.map_nil,iv_zero]
 rw[e]at m;refine call_by (m) (by rfl) (by simp) ?_;simp (disch:=omega) only[wt,seval,reduceCtorEq,Nat.reduceEqDiff,cpoly_len]
 first|exact log_by (by kernel_rfl)|refine⟨log_by (by kernel_rfl),?_⟩
def rowsAt (f:Fr)(t:Nat):Nat:=match f t with
 |.iv (.sl rows)=>rows.length
 |_=>0
def mono (n:Nat)(c:Int):List Int:=List.replicate n 0++[c]
theorem cf_mono (n:Nat)(c:Int)(k:Nat):cf (mono n c) k=if k=n then c else 0:=by
 unfold mono cf;rw[List.getD_eq_getElem?_getD];rcases Nat.lt_trichotomy k n with h|h|h
 .rw[List.getElem?_append_left (by simpa using h),List.getElem?_replicate,if_pos h,if_neg (by omega)];rfl
 .subst h;rw[List.getElem?_append_right (by simp),if_pos rfl];simp
 .rw[List.getElem?_eq_none (by simp;omega),if_neg (by omega)];rfl
theorem cf_mono_mul (n:Nat)(c:Int)(B:List Int)(k:Nat):cf (pmul (mono n c) B) k=if n<=k then c*cf B (k-n) else 0:=by
 rw[cf_pmul,PS.cv_conv,PS.conv];by_cases h:n<=k
 .rw[if_pos h,sumN_one (j:=n) _ (by omega) λi hi hne=>by rw[cf_mono,if_neg hne,Int.zero_mul],cf_mono,if_pos rfl]
 .rw[if_neg h];exact sumN_zero λi hi=>by rw[cf_mono,if_neg (by omega),Int.zero_mul]
def dstep (c L:Int)(B:List Int)(s:List Int×List Int):List Int×List Int :=
 (padd (pscale c s.1) (mono (tz s.2-tz B) (c*lc s.2/L)),padd (pscale c s.2) (pscale (-1) (pmul (mono (tz s.2-tz B) (c*lc s.2/L)) B)))
def dres (c L:Int)(B:List Int):Nat->List Int×List Int->List Int×List Int
 |0,s=>s
 |n+1,s=>if tz B<=tz s.2 then dres c L B n (dstep c L B s) else dres c L B n (pscale c s.1,pscale c s.2)
theorem tz_le_of {q:List Int}{n:Nat}(h:∀k,n<=k->cf q k=0):tz q<=n:=by
 rcases Nat.lt_or_ge n (tz q) with h1|h1
 .exact absurd (h (tz q-1) (by omega)) (cf_tz_pred (by omega))
 .exact h1
theorem dstep_tz {c L:Int}{B:List Int}{s:List Int×List Int}(hL:L=lc B)(hB:tz B≠0)(hd:L∣c)(h:tz B<=tz s.2):tz (dstep c L B s).2<=tz s.2-1:=by
 refine tz_le_of λk hk=>?_;show cf (padd (pscale c s.2) (pscale (-1) (pmul (mono (tz s.2-tz B) (c*lc s.2/L)) B))) k=0;rw[cf_padd,cf_pscale,cf_pscale,cf_mono_mul,if_pos (by omega)];have hL0:L≠0:=by rw[hL];exact cf_tz_pred hB
 rcases Nat.lt_or_ge k (tz s.2) with h1|h1
 .have hk1:k=tz s.2-1:=by omega
  have e1:k-(tz s.2-tz B)=tz B-1:=by omega
  rw[e1];have e2:cf B (tz B-1)=L:=hL.symm;have e3:cf s.2 k=lc s.2:=by rw[hk1];rfl
  rw[e2,e3,Int.ediv_mul_cancel (Int.dvd_trans hd (Int.dvd_mul_right _ _)),Int.mul_comm c];omega
 .rw[cf_ge_tz s.2 h1,cf_ge_tz B (by omega)];simp
theorem dstep_eq {c L:Int}{B:List Int}{s:List Int×List Int}:ps (dstep c L B s).1*ps B+ps (dstep c L B s).2=PS.C c*(ps s.1*ps B+ps s.2):=by
 show ps (padd _ _)*ps B+ps (padd _ _)=_;rw[ps_padd,ps_padd,ps_pscale,ps_pscale,ps_pscale,ps_pmul,PS.neg_one_C,PS.add_mul,PS.mul_add,PS.mul_assoc,PS.add_assoc,PS.add_comm (PS.C c*ps s.2),<-PS.add_assoc (ps (mono _ _)*ps B),PS.add_neg,PS.zero_add]
theorem dres_eq {c L:Int}{B:List Int}:∀(n:Nat) (s:List Int×List Int),ps (dres c L B n s).1*ps B+ps (dres c L B n s).2=PS.pw (PS.C c) n*(ps s.1*ps B+ps s.2)
 |0,s=>by rw[dres,PS.pw,PS.one_mul]
 |n+1,s=>by
  have e:PS.pw (PS.C c) (n+1)=PS.pw (PS.C c) n*PS.C c:=by rw[PS.pw_add,PS.pw_one]
  rw[dres];split
  .rw[dres_eq n,dstep_eq,e,PS.mul_assoc]
  .rw[dres_eq n,e,PS.mul_assoc]
   congr 1
   rw[ps_pscale,ps_pscale,PS.mul_assoc,PS.mul_add]
theorem tz_scale_le (c:Int)(q:List Int):tz (pscale c q)<=tz q:=tz_le_of λk hk=>by rw[cf_pscale,cf_ge_tz q hk,Int.zero_mul]
theorem dres_tz {c L:Int}{B:List Int}(hL:L=lc B)(hB:tz B≠0)(hd:L∣c):∀(n:Nat) (s:List Int×List Int),tz s.2<tz B+n->tz (dres c L B n s).2<tz B
 |0,s,h=>by simpa [dres] using h
 |n+1,s,h=>by
  rw[dres];split
  .rename_i h1;refine dres_tz hL hB hd n _ ?_;have:=dstep_tz (c:=c) hL hB hd h1;omega
  .refine dres_tz hL hB hd n _ ?_;have:=tz_scale_le c s.2;show tz (pscale c s.2)<_;omega
theorem cpoly_nil:cpoly []=[]:=rfl
theorem cpoly_at {q:List Int}{i:Nat}(h:i<tz q):(cpoly q).getD i []=prow (canon (cf q i)):=by
 have h1:i<(trimz q).length:=by rw[trimz_len];exact h
 rw[<-cf_trimz];simp[cpoly,raws,cf,List.getD,h1]
def Bd (k:Nat)(q:List Int):Prop:=tz q<=40/\∀i,zl (cf q i)<=k
theorem Bd.rp {k:Nat}{q:List Int}(h:Bd k q)(hk:k<=2^35):RP (2^30) (2^35) (cn q):=by
 refine(RP.canon (.of (by rw[trimz_len];exact h.1) λi=>?_)).mono (by decide:40<=_) hk;rw[cf_trimz];exact h.2 i
def KB (l:Nat):Nat:=(60-l)*536870912
theorem KB_step (l:Nat)(h:l+1<=41):KB l=KB (l+1)+536870912:=by unfold KB;omega
theorem KB_le (l:Nat):KB l<=32212254720:=by unfold KB;omega
theorem KB_ge (l:Nat)(h:l<=41):536870912<=KB l:=by unfold KB;omega
theorem bnd_fin {K k:Nat}(h:K=k+536870912):max (k+2^27) (k+2^27+2^27)+1<=K:=by omega
theorem bnd_fin1 {K k:Nat}(h:K=k+536870912):max (k+2^27) (k+2^27)+1<=K:=by omega
theorem bnd_fin2 {K k:Nat}(h:K=k+536870912):k+2^27<=K:=by omega
theorem bd_scale {K k:Nat}{c:Int}{q:List Int}(h:Bd K q)(hc:zl c<=k):Bd (K+k) (pscale c q):=by
 refine⟨Nat.le_trans (tz_scale_le c q) h.1,λi=>?_⟩;rw[cf_pscale];have:=zl_mul (cf q i) c;have:=h.2 i;omega
theorem bd_mono {K n:Nat}{c:Int}(hn:n<40)(hc:zl c<=K):Bd K (mono n c):=by
 refine⟨tz_le_of λk hk=>by rw[cf_mono,if_neg (by omega)],λi=>?_⟩;rw[cf_mono];split
 .exact hc
 .rw[zl_zero];omega
theorem bd_mmul {K k n m:Nat}{c:Int}{B:List Int}(hB:Bd k B)(hn:n+tz B<=40)(hc:zl c<=K):Bd (K+k) (pmul (mono n c) B):=by
 refine⟨tz_le_of λj hj=>?_,λi=>?_⟩
 .rw[cf_mono_mul];split
  .rw[cf_ge_tz B (by omega),Int.mul_zero]
  .rfl
 .rw[cf_mono_mul];split
  .have:=zl_mul c (cf B (i-n));have:=hB.2 (i-n);omega
  .rw[zl_zero];omega
theorem bd_add {K k:Nat}{p q:List Int}(hp:Bd K p)(hq:Bd k q):Bd (max K k+1) (padd p q):=by
 have h1:=hp.1;have h2:=hq.1;refine⟨tz_le_of λj hj=>by rw[cf_padd,cf_ge_tz p (by omega),cf_ge_tz q (by omega)];rfl,λi=>?_⟩;rw[cf_padd];have:=zl_add (cf p i) (cf q i);have:=hp.2 i;have:=hq.2 i;omega
theorem bd_neg {K:Nat}{q:List Int}(h:Bd K q):Bd K (pscale (-1) q):=by
 refine⟨Nat.le_trans (tz_scale_le _ q) h.1,λi=>?_⟩;rw[cf_pscale,Int.mul_neg,Int.mul_one,zl_neg];exact h.2 i
theorem bd_nil (K:Nat):Bd K []:=⟨by simp[tz,topN],λi=>by rw[cf_nil,zl_zero];exact Nat.zero_le _⟩
theorem Bd.mono {K k:Nat}{q:List Int}(h:Bd K q)(hk:K<=k):Bd k q:=⟨h.1,λi=>Nat.le_trans (h.2 i) hk⟩
set_option maxHeartbeats 1000000 in
theorem divide_ok (p q:List RI)(fa:RI)(hp:RP 40 (2^27) p)(hq:RP 40 (2^27) q)(hf:Sz (2^27) fa)(hB:tz (pv q)≠0)(hd:lc (pv q)∣iv fa) :
  AC Tryz.prog 169 [cw p,cw q,cr fa] none [cp (dres (iv fa) (lc (pv q)) (pv q) (tz (pv p)+1-tz (pv q)) ([],pv p)).1,cp (dres (iv fa) (lc (pv q)) (pv q) (tz (pv p)+1-tz (pv q)) ([],pv p)).2,ci (tz (pv p)+1-tz (pv q):Nat)]:=by
 refine AC.by_walk (rs:=[.tmp 6,.tmp 7,.tmp 8]) ords Tryz.func169 (by rfl) (by rfl) (by rfl) (by rfl) (by rfl) ?_;have qp:=hp.pv;have qq:=hq.pv;have tp:tz (pv p)<=40:=Nat.le_trans (tz_le _) qp.1;have tq:tz (pv q)<=40:=Nat.le_trans (tz_le _) qq.1;generalize hee:tz (pv p)+1-tz (pv q)=e at *;have he:max ((tz (pv p):Int)-tz (pv q)+1) 0=(e:Int):=by omega
 have ht1:((tz (pv q):Int)-1).toNat=tz (pv q)-1:=by omega
 have hat:=cpoly_at (q:=pv q) (i:=tz (pv q)-1) (by omega);have hL:cf (pv q) (tz (pv q)-1)=lc (pv q):=rfl;rw[hL]at hat;simp (disch:=omega) only[wt,seval,reduceCtorEq,Nat.reduceEqDiff,cpoly_len,cpoly_nil];refine call_by ((pnorm_ok p (hp.mono (by omega) (by omega)))) (by rfl) (by simp) ?_;simp (disch:=omega) only[wt,seval,reduceCtorEq,Nat.reduceEqDiff,cpoly_len,cpoly_nil];refine call_by ((pnorm_ok q (hq.mono (by omega) (by omega)))) (by rfl) (by simp) ?_;simp (disch:=omega) only[wt,seval,reduceCtorEq,Nat.reduceEqDiff,cpoly_len,cpoly_nil];simp (disch:=omega) only[wt,seval,reduceCtorEq,Nat.reduceEqDiff,cpoly_len,cpoly_nil,he,ht1,hat];generalize hc:iv fa=c at *;generalize hPe:pv p=P at *;generalize hBe:pv q=B at *;generalize hLe:lc B=L at *;have bd_P:Bd (KB e) P:=⟨tp,λi=>Nat.le_trans (qp.cf i) (Nat.le_trans (by decide) (KB_ge e (by omega)))⟩;refine aloop_w (.nilv 13 (by simp (disch:=omega) only[wt,seval,reduceCtorEq,Nat.reduceEqDiff,cpoly_len,cpoly_nil]) (.refl _ _)) (λf H=>∃(left st5 st12:Nat) (Q R:List Int),dres c L B left (Q,R)=dres c L B e ([],P)/\tz R<tz B+left/\left<=41/\Bd (KB left) Q/\Bd (KB left) R/\f 14=.iv (.int .i64 left)/\f 9=.iv (.sl (cpoly R))/\f 10=.iv (.sl (cpoly B))/\f 13=.iv (.sl (cpoly Q))/\f 11=.iv (.int .i64 e)/\f 5=.hp 5 st5 0 0/\f 12=.hp 12 st12 0 0/\H 5=.blk false st5 44 2 [prow fa]/\H 12=.blk false st12 44 2 [prow (canon L)]) (λf H=>(intAt f 14).toNat) ?_ ?_
 .refine⟨e,1,1,[],P,rfl,by omega,by omega,bd_nil _,bd_P,?_⟩;simp (disch:=omega) only[wt,seval,reduceCtorEq,Nat.reduceEqDiff,cpoly_len,cpoly_nil]
 rintro f H ⟨left,st5,st12,Q,R,hD,hT,hle,hQ,hR,hF⟩;rw[intAt_of hF.1];simp (disch:=omega) only[wt,seval,reduceCtorEq,Nat.reduceEqDiff,cpoly_len,cpoly_nil,hF];have hkb:=KB_le left;have hkR:=hR.rp (by omega);have hkQ:=hQ.rp (by omega);refine if_by (λhge=>?_) (λhge=>?_)
 .obtain⟨l,rfl⟩:∃l,left=l+1:=⟨left-1,by omega⟩;have hm:((tz R:Int)-tz B)=((tz R-tz B:Nat):Int):=by omega
  have ht2:((tz R:Int)-1).toNat=tz R-1:=by omega
  have hat2:=cpoly_at (q:=R) (i:=tz R-1) (by omega);have hLR:cf R (tz R-1)=lc R:=rfl;rw[hLR]at hat2;have hzR:=hR.2 (tz R-1);rw[hLR]at hzR;have hzc:zl c<=2^27:=by rw[<-hc];exact zl_iv hf
  have hzL:zl L<=2^27:=by rw[<-hLe];exact qq.cf _
  have hL0:L≠0:=by rw[<-hLe];exact cf_tz_pred hB
  have hzm:=zl_mul c (lc R);have hdv:L∣c*lc R:=Int.dvd_trans hd (Int.dvd_mul_right _ _);have hzt:=zl_div hdv;have m1:=zmul_ok fa (canon (lc R)) (hf.mono (by omega)) ((sz_canon _).mono (by omega));rw[hc,iv_canon]at m1;have m2:=zexact_ok (canon (c*lc R)) (canon L) ((sz_canon _).mono (by omega)) ((sz_canon _).mono (by omega)) (by rw[iv_canon];exact hL0) (by rw[iv_canon,iv_canon];exact hdv);rw[iv_canon,iv_canon]at m2;have m3:=prsmono_ok (canon (c*lc R/L)) (tz R-tz B) (by omega) ((sz_canon _).mono (by omega));rw[iv_canon]at m3;simp (disch:=omega) only[wt,seval,reduceCtorEq,Nat.reduceEqDiff,cpoly_len,cpoly_nil,hF,hm,ht2,hat2];refine .inl ⟨tmps_by (by kernel_rfl),?_⟩;refine call_by (m1) (by first|rfl|(simp only[tocvs,tocv,toboxes,tobox,updH_at,Nat.reduceEqDiff,↓reduceIte,hF,hm,ht2,hat2];rfl)) (by simp) ?_;simp (disch:=omega) only[wt,seval,reduceCtorEq,Nat.reduceEqDiff,cpoly_len,cpoly_nil,hF,hm,ht2,hat2];refine call_by (m2) (by first|rfl|(simp only[tocvs,tocv,toboxes,tobox,updH_at,Nat.reduceEqDiff,↓reduceIte,hF,hm,ht2,hat2];rfl)) (by simp) ?_;simp (disch:=omega) only[wt,seval,reduceCtorEq,Nat.reduceEqDiff,cpoly_len,cpoly_nil,hF,hm,ht2,hat2]
  first|exact log_by (by kernel_rfl)|refine⟨log_by (by kernel_rfl),?_⟩
  refine call_by (m3) (by first|rfl|(simp only[tocvs,tocv,toboxes,tobox,updH_at,Nat.reduceEqDiff,↓reduceIte,hF,hm,ht2,hat2];rfl)) (by simp) ?_;simp (disch:=omega) only[wt,seval,reduceCtorEq,Nat.reduceEqDiff,cpoly_len,cpoly_nil,hF,hm,ht2,hat2];have hBB:Bd (2^27) B:=⟨tq,λi=>qq.cf i⟩;have hlt:=hR.1;have hK2:=KB_step l hle;have hge':tz B<=tz R:=by omega
  generalize KB (l+1)=K at *;have b1:=bd_scale hQ hzc;have b2:=bd_mono (n:=tz R-tz B) (c:=c*lc R/L) (K:=K+2^27) (by omega) (by omega);have b3:=bd_scale hR hzc;have b4:=bd_mmul (m:=0) (n:=tz R-tz B) (c:=c*lc R/L) (K:=K+2^27) hBB (by omega) (by omega);have b5:=bd_add b1 b2;have b6:=bd_add b3 (bd_neg b4);have hBr:=hBB.rp (by omega);have s1:=pscale_g (q:=Q) (c:=fa) hkQ (hf.mono (by omega)) (ps_cn _);have s2:=pscale_g (q:=R) (c:=fa) hkR (hf.mono (by omega)) (ps_cn _);rw[hc]at s1 s2;have hstep:dres c L B (l+1) (Q,R)=dres c L B l (dstep c L B (Q,R)):=by
   rw[dres,if_pos (show tz B<=tz (Q,R).2 from hge')]
  have htz:=dstep_tz (c:=c) (s:=(Q,R)) hLe.symm hB hd (show tz B<=tz (Q,R).2 from hge');refine call_by (s1) (by first|rfl|(simp only[tocvs,tocv,toboxes,tobox,updH_at,Nat.reduceEqDiff,↓reduceIte,hF,hm,ht2,hat2];rfl)) (by simp) ?_;simp (disch:=omega) only[wt,seval,reduceCtorEq,Nat.reduceEqDiff,cpoly_len,cpoly_nil,hF,hm,ht2,hat2];refine call_by ((padd_g (b1.rp (by omega)) (b2.rp (by omega)) (ps_cn _) (ps_cn _))) (by first|rfl|(simp only[tocvs,tocv,toboxes,tobox,updH_at,Nat.reduceEqDiff,↓reduceIte,hF,hm,ht2,hat2];rfl)) (by simp) ?_;simp (disch:=omega) only[wt,seval,reduceCtorEq,Nat.reduceEqDiff,cpoly_len,cpoly_nil,hF,hm,ht2,hat2];refine call_by (s2) (by first|rfl|(simp only[tocvs,tocv,toboxes,tobox,updH_at,Nat.reduceEqDiff,↓reduceIte,hF,hm,ht2,hat2];rfl)) (by simp) ?_;simp (disch:=omega) only[wt,seval,reduceCtorEq,Nat.reduceEqDiff,cpoly_len,cpoly_nil,hF,hm,ht2,hat2];refine call_by ((pmul_g (b2.rp (by omega)) hBr (ps_cn _) (ps_cn _))) (by first|rfl|(simp only[tocvs,tocv,toboxes,tobox,updH_at,Nat.reduceEqDiff,↓reduceIte,hF,hm,ht2,hat2];rfl)) (by simp) ?_;simp (disch:=omega) only[wt,seval,reduceCtorEq,Nat.reduceEqDiff,cpoly_len,cpoly_nil,hF,hm,ht2,hat2];refine call_by ((psub_g (b3.rp (by omega)) (b4.rp (by omega)) (ps_cn _) (ps_cn _))) (by first|rfl|(simp only[tocvs,tocv,toboxes,tobox,updH_at,Nat.reduceEqDiff,↓reduceIte,hF,hm,ht2,hat2];rfl)) (by simp) ?_;simp (disch:=omega) only[wt,seval,reduceCtorEq,Nat.reduceEqDiff,cpoly_len,cpoly_nil,hF,hm,ht2,hat2];refine⟨⟨l,st5,st12,_,_,by rw[<-hD,hstep];rfl,?_,by omega,b5.mono (bnd_fin1 hK2),b6.mono (bnd_fin hK2),by omega,rfl,rfl,rfl,rfl,rfl,rfl⟩,by omega⟩;have h1:tz R≠0:=by omega
  have h2:tz (padd (pscale c R) (pscale (-1) (pmul (mono (tz R-tz B) (c*lc R/L)) B)))<=tz R-1:=htz;omega
 .have hout:tz R<tz B:=by omega
  simp (disch:=omega) only[wt,seval,reduceCtorEq,Nat.reduceEqDiff,cpoly_len,cpoly_nil,hF];refine aloop_by (λf H=>∃(lft sf:Nat) (S T:List Int),dres c L B lft (S,T)=dres c L B e ([],P)/\tz T<tz B/\lft<=41/\Bd (KB lft) S/\Bd (KB lft) T/\f 14=.iv (.int .i64 lft)/\f 9=.iv (.sl (cpoly T))/\f 13=.iv (.sl (cpoly S))/\f 11=.iv (.int .i64 e)/\f 5=.hp 5 sf 0 0/\H 5=.blk false sf 44 2 [prow fa]) (λf H=>(intAt f 14).toNat) ?_ ?_
  .refine⟨left,st5,Q,R,hD,hout,hle,hQ,hR,?_⟩;simp (disch:=omega) only[wt,seval,reduceCtorEq,Nat.reduceEqDiff,cpoly_len,cpoly_nil,hF]
  rintro f H ⟨lft,sf,S,T,hD,hT,hle,hQ,hR,hF⟩;rw[intAt_of hF.1];simp (disch:=omega) only[wt,seval,reduceCtorEq,Nat.reduceEqDiff,cpoly_len,cpoly_nil,hF];refine if_by (λhgt=>?_) (λhgt=>?_)
  .obtain⟨l,rfl⟩:∃l,lft=l+1:=⟨lft-1,by omega⟩;have hkb:=KB_le (l+1);have hzc:zl c<=2^27:=by rw[<-hc];exact zl_iv hf
   have hK2:=KB_step l hle;have s1:=pscale_g (q:=S) (c:=fa) (hQ.rp (by omega)) (hf.mono (by omega)) (ps_cn _);have s2:=pscale_g (q:=T) (c:=fa) (hR.rp (by omega)) (hf.mono (by omega)) (ps_cn _);rw[hc]at s1 s2;have hstep:dres c L B (l+1) (S,T)=dres c L B l (pscale c S,pscale c T):=by
    rw[dres,if_neg (show ¬tz B<=tz (S,T).2 from Nat.not_le.2 hT)]
   have hts:=tz_scale_le c T;have b1:=(bd_scale hQ hzc).mono (bnd_fin2 hK2);have b2:=(bd_scale hR hzc).mono (bnd_fin2 hK2);clear hK2;simp (disch:=omega) only[wt,seval,reduceCtorEq,Nat.reduceEqDiff,cpoly_len,cpoly_nil,hF];refine .inl ⟨tmps_by (by kernel_rfl),?_⟩;refine call_by (s1) (by first|rfl|(simp only[tocvs,tocv,toboxes,tobox,updH_at,Nat.reduceEqDiff,↓reduceIte,hF];rfl)) (by simp) ?_;simp (disch:=omega) only[wt,seval,reduceCtorEq,Nat.reduceEqDiff,cpoly_len,cpoly_nil,hF];refine call_by (s2) (by first|rfl|(simp only[tocvs,tocv,toboxes,tobox,updH_at,Nat.reduceEqDiff,↓reduceIte,hF];rfl)) (by simp) ?_;simp (disch:=omega) only[wt,seval,reduceCtorEq,Nat.reduceEqDiff,cpoly_len,cpoly_nil,hF]
   first|exact log_by (by kernel_rfl)|refine⟨log_by (by kernel_rfl),?_⟩
   refine⟨⟨l,sf,_,_,by rw[<-hD,hstep],by omega,by omega,b1,b2,by omega,rfl,rfl,rfl,rfl⟩,by omega⟩
  .obtain rfl:lft=0:=by omega
   simp (disch:=omega) only[wt,seval,reduceCtorEq,Nat.reduceEqDiff,cpoly_len,cpoly_nil,hF];rw[<-hD];exact⟨rfl,rfl⟩

def NP (n k:Nat)(l:List (List Nat)):Prop:=l.length<=n/\∀a∈l,Lim a/\a.length<=k
theorem NP.get {n k:Nat}{l:List (List Nat)}(h:NP n k l)(i:Nat):Lim (l.getD i [])/\(l.getD i []).length<=k:=by
 by_cases hi:i<l.length
 .have e:l.getD i []=l[i]:=by simp[List.getD,hi]
  rw[e];exact h.2 _ (List.getElem_mem hi)
 .rw[List.getD_eq_getElem?_getD,List.getElem?_eq_none (by omega)];exact⟨Lim.nil,by simp⟩
theorem cont_ps {p q:List Int}(h:ps p=ps q):cont p=cont q:=by
 unfold cont lc;rw[gz_eq (ps_eq h),tz_eq_of_cf (ps_eq h),ps_eq h]
theorem prim_ps {p q:List Int}(h:ps p=ps q):ps (prim p)=ps (prim q):=ps_ext λk=>by
 unfold prim;rw[cf_pdivs,cf_pdivs,cont_ps h,ps_eq h]
theorem pprim_g {a:List RI}{q:List Int}(ha:RP (2^30) (2^35) a)(eq:ps (pv a)=ps q):AC Tryz.prog 104 [cw a] none [cp (prim q)]:=by
 have h:=pprim_ok a ha;rwa [cp_ps (prim_ps eq)]at h
theorem plead_g {a:List RI}{q:List Int}(ha:RP (2^30) (2^35) a)(eq:ps (pv a)=ps q):AC Tryz.prog 112 [cw a] none [cz (lc q)]:=by
 have h:=plead_ok a (ha.mono (by omega) (by omega));have e:cf (pv a) (tz (pv a)-1)=lc q:=by unfold lc;rw[tz_eq_of_cf (ps_eq eq),ps_eq eq]
 rwa [e]at h
def dxp (P B:List Int):Nat:=tz P+1-tz B
def dq (P B:List Int):List Int:=(dres (lc B) (lc B) B (dxp P B) ([],P)).1
def dr (P B:List Int):List Int:=(dres (lc B) (lc B) B (dxp P B) ([],P)).2
def dpos (P B:List Int):List Int:=(dres ((lc B).natAbs:Int) (lc B) B (dxp P B) ([],P)).2
theorem pdiv_zero (p q:List RI)(hq:RP 40 (2^27) q)(h0:tz (pv q)=0):AC Tryz.prog 110 [cw p,cw q] none [cw [],cw [],ci 0,ci 1]:=by
 refine AC.by_walk (rs:=[.tmp 4,.tmp 5,.tmp 6,.tmp 7]) ords Tryz.func110 (by rfl) (by rfl) (by rfl) (by rfl) (by rfl) ?_;simp (disch:=omega) only[wt,seval,reduceCtorEq,Nat.reduceEqDiff,cpoly_len,cpoly_nil];refine call_by ((pnone_ok q (hq.mono (by omega) (by omega)))) (by first|rfl|(simp only[tocvs,tocv,toboxes,tobox,updH_at,Nat.reduceEqDiff,↓reduceIte,h0];rfl)) (by simp) ?_;simp (disch:=omega) only[wt,seval,reduceCtorEq,Nat.reduceEqDiff,cpoly_len,cpoly_nil,h0]
theorem pdiv_ok (p q:List RI)(hp:RP 40 (2^27) p)(hq:RP 40 (2^27) q)(h0:¬tz (pv q)=0):AC Tryz.prog 110 [cw p,cw q] none [cp (dq (pv p) (pv q)),cp (dr (pv p) (pv q)),ci (dxp (pv p) (pv q)),ci 0]:=by
 refine AC.by_walk (rs:=[.tmp 4,.tmp 5,.tmp 6,.tmp 7]) ords Tryz.func110 (by rfl) (by rfl) (by rfl) (by rfl) (by rfl) ?_;have hl:Sz (2^27) (canon (lc (pv q))):=(sz_canon _).mono (hq.pv.cf _);have m:=divide_ok p q (canon (lc (pv q))) hp hq hl h0 (by rw[iv_canon];exact Int.dvd_refl _);rw[iv_canon]at m;simp (disch:=omega) only[wt,seval,reduceCtorEq,Nat.reduceEqDiff,cpoly_len,cpoly_nil];refine call_by ((pnone_ok q (hq.mono (by omega) (by omega)))) (by first|rfl|(simp only[tocvs,tocv,toboxes,tobox,updH_at,Nat.reduceEqDiff,↓reduceIte,h0];rfl)) (by simp) ?_;simp (disch:=omega) only[wt,seval,reduceCtorEq,Nat.reduceEqDiff,cpoly_len,cpoly_nil,h0];refine call_by ((plead_g (hq.mono (by omega) (by omega)) rfl)) (by first|rfl|(simp only[tocvs,tocv,toboxes,tobox,updH_at,Nat.reduceEqDiff,↓reduceIte,h0];rfl)) (by simp) ?_;simp (disch:=omega) only[wt,seval,reduceCtorEq,Nat.reduceEqDiff,cpoly_len,cpoly_nil,h0];refine call_by (m) (by first|rfl|(simp only[tocvs,tocv,toboxes,tobox,updH_at,Nat.reduceEqDiff,↓reduceIte,h0];rfl)) (by simp) ?_;simp (disch:=omega) only[wt,seval,reduceCtorEq,Nat.reduceEqDiff,cpoly_len,cpoly_nil,h0];exact⟨rfl,rfl,rfl⟩
theorem prem_ok (p q:List RI)(hp:RP 40 (2^27) p)(hq:RP 40 (2^27) q)(h0:¬tz (pv q)=0):AC Tryz.prog 167 [cw p,cw q] none [cp (dr (pv p) (pv q)),ci 0]:=by
 refine AC.by_walk (rs:=[.tmp 4,.tmp 5]) ords Tryz.func167 (by rfl) (by rfl) (by rfl) (by rfl) (by rfl) ?_;simp (disch:=omega) only[wt,seval,reduceCtorEq,Nat.reduceEqDiff,cpoly_len,cpoly_nil];refine call_by ((pdiv_ok p q hp hq h0)) (by rfl) (by simp) ?_;simp (disch:=omega) only[wt,seval,reduceCtorEq,Nat.reduceEqDiff,cpoly_len,cpoly_nil]
theorem lc_sgn {q r:List Int}{σ:Int}(hσ:σ=1\/σ = -1)(h:ps q=PS.C σ*ps r):tz q=tz r/\lc q=σ*lc r:=by
 have hk:∀k,cf q k=σ*cf r k:=λk=>by
  have:=congrArg (λf=>f.c k) h;simp only[ps_c,PS.C_mul_c]at this;exact this
 have h1:tz q=tz r:=by
  refine Nat.le_antisymm (tz_le_of λk hk'=>by rw[hk,cf_ge_tz r hk',Int.mul_zero]) (tz_le_of λk hk'=>?_);have:=cf_ge_tz q hk';rw[hk]at this;rcases hσ with rfl|rfl<;>omega
 exact⟨h1,by unfold lc;rw[h1,hk]⟩
theorem ps_mono (n:Nat)(c d:Int):ps (mono n (c*d))=PS.C c*ps (mono n d):=PS.ext λk=>by
 rw[PS.C_mul_c,ps_c,ps_c,cf_mono,cf_mono];split
 .rfl
 .rw[Int.mul_zero]
theorem c_swap (x y m b:PS):x*(y*m*b)=y*(x*(m*b)):=by rw[PS.mul_assoc y,<-PS.mul_assoc x y,PS.mul_comm x y,PS.mul_assoc]
theorem c_c (a b:Int)(r:PS):PS.C a*(PS.C b*r)=PS.C (a*b)*r:=by rw[<-PS.mul_assoc,<-PS.C_mul]
theorem dres_neg {c L:Int}{B:List Int}(hL0:L≠0)(hd:L∣c):∀(n:Nat) (s s':List Int×List Int) (σ:Int),(σ=1\/σ = -1)->ps s'.1=PS.C σ*ps s.1->ps s'.2=PS.C σ*ps s.2 ->
  ps (dres (-c) L B n s').2=PS.C ((-1)^n*σ)*ps (dres c L B n s).2
 |0,s,s',σ,_,_,h2=>by rw[dres,dres,Int.pow_zero,Int.one_mul];exact h2
 |n+1,s,s',σ,hσ,h1,h2=>by
  obtain⟨ht,hl⟩:=lc_sgn hσ h2;have hσ' : -σ=1\/-σ = -1:=by omega
  have e:(-1:Int)^(n+1)*σ=(-1)^n*(-σ):=by rw[Int.pow_succ,Int.mul_assoc,Int.neg_mul,Int.one_mul]
  rw[dres,dres,ht,e];split
  .rename_i hge;have hdv:L∣c*lc s.2:=Int.dvd_trans hd (Int.dvd_mul_right _ _);have hq : -c*lc s'.2/L = -σ*(c*lc s.2/L):=by
    rw[hl,show -c*(σ*lc s.2) = -σ*(c*lc s.2) by rw[Int.neg_mul,Int.neg_mul,Int.mul_left_comm],Int.mul_ediv_assoc _ hdv]
   refine dres_neg hL0 hd n _ _ (-σ) hσ' ?_ ?_
   .show ps (padd _ _)=PS.C _*ps (padd _ _);rw[hq,ps_padd,ps_padd,ps_pscale,ps_pscale,h1,ht,ps_mono,PS.mul_add,<-PS.mul_assoc,<-PS.mul_assoc,<-PS.C_mul,<-PS.C_mul]
    congr 2
    congr 1
    rw[Int.neg_mul,Int.neg_mul,Int.mul_comm]
   .show ps (padd _ _)=PS.C _*ps (padd _ _);rw[hq,ps_padd,ps_padd,ps_pscale,ps_pscale,ps_pscale,ps_pscale,ps_pmul,ps_pmul,h2,ht,ps_mono,PS.mul_add,c_swap];simp only[c_c];rw[show -c*σ = -σ*c by rw[Int.neg_mul,Int.neg_mul,Int.mul_comm]]
  .refine dres_neg hL0 hd n _ _ (-σ) hσ' ?_ ?_
   .show ps (pscale _ _)=PS.C _*ps (pscale _ _);rw[ps_pscale,ps_pscale,h1,<-PS.mul_assoc,<-PS.mul_assoc,<-PS.C_mul,<-PS.C_mul,Int.neg_mul,Int.neg_mul,Int.mul_comm]
   .show ps (pscale _ _)=PS.C _*ps (pscale _ _);rw[ps_pscale,ps_pscale,h2,<-PS.mul_assoc,<-PS.mul_assoc,<-PS.C_mul,<-PS.C_mul,Int.neg_mul,Int.neg_mul,Int.mul_comm]
end Go.Proofs.YtbnincgnfiaemaaGreat
