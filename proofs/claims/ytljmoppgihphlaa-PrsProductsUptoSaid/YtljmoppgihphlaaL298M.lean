/-
 Contracts of the functions that the law reaches.
-/
import Derived.Test.YtljmoppgihphlaaL36M
import Derived.Test.YtljmoppgihphlaaL1M
import Derived.Test.YtljmoppgihphlaaAbsYM
import Derived.Test.YtljmoppgihphlaaL12M
import Derived.Test.YtljmoppgihphlaaL51M
import Derived.Test.YtljmoppgihphlaaAbsV
import Derived.Test.YtljmoppgihphlaaL59M
set_option maxHeartbeats 2000000
namespace Go.Proofs.Ytljmoppgihphlaa
open Go Go.Proofs Go.AL Go.RowKit
set_option linter.unusedSimpArgs false
set_option linter.unusedVariables false
theorem cvreps_get {w:World}{D:Nat->Prop}:∀{xs:List CV} {vs:List Value},CVReps w D xs vs->∀(j:Nat) (c:CV) (v:Value),xs[j]?=some c->vs[j]?=some v->CVRep w D c v
 |[],[],_,j,c,v,h,_=>by simp at h
 |x::xs,u::vs,h,0,c,v,h1,h2=>by
  simp only[List.getElem?_cons_zero,Option.some.injEq]at h1 h2;subst h1 h2;exact h.1
 |x::xs,u::vs,h,j+1,c,v,h1,h2=>cvreps_get h.2 j c v (by simpa using h1) (by simpa using h2)
 |[],_::_,h,_,_,_,_,_=>h.elim
 |_::_,[],h,_,_,_,_,_=>h.elim
theorem ACX.plain {P:Program}{g:Nat}{args res:List CV}{R:Nat->Nat->List CV->Prop}(h:ACX P g args R)(hs:∀B E r,R B E r->SoftsC r res):AC P g args none res:=by
 intro w D vs hD hv;refine CallsR.mono (h.2 w D vs hD hv) ?_;rintro v w' ⟨hb,us,r,rfl,hR,hr⟩;have h2:=(hs _ _ _ hR).reps hr;refine⟨hb,us,rfl,⟨(CVReps.length h2).symm,λj c v _ hc hv=>?_,λi e sz rows h=>by cases h⟩⟩;exact(cvreps_get h2 j c v hc hv).mono (Grows.of_sub λb hb=>hb.elim id λh=>h.elim)
theorem soft_own {b:Option (Nat×Nat)}{e sz k:Nat}{rows:List (List IV)}(h:∀r∈rows,r.length=k):Soft (.own b e sz rows) (.sl rows) :=
 .own _ _ _ _ _ rfl (λi r r' h1 h2=>by rw[h1]at h2;injection h2 with h2;rw[h2]) (λi r r' h1 h2 j x x' h3 h4=>by
  rw[h1]at h2;injection h2 with h2;subst h2;rw[h3]at h4;injection h4 with h4;subst h4;exact .refl _)
abbrev fint (b:OB)(n:Int):List IV:=[.bool (canon n).1,fnat b (canon n).2]
def RInt (n:Int)(B E:Nat)(res:List CV):Prop:=∃b,res=[.agg (fint b n)]/\Nw B E (oid b)
theorem soft_fint (b:OB)(n:Int):∀(j:Nat) (x y:IV),(fint b n)[j]?=some x->(prow (canon n))[j]?=some y->Soft x y
 |0,x,y,hx,hy=>by cases hx;cases hy;exact .refl _
 |1,x,y,hx,hy=>by
  cases hx;cases hy;refine .own _ _ _ _ _ rfl (λi r r' h h'=>?_) (λi r r' h h' j x x' hx hx'=>?_)
  .rw[h]at h';cases h';rfl
  .rw[h]at h';cases h';rw[hx]at hx';cases hx';exact .refl _
 |j+2,x,y,hx,_=>by simp at hx
theorem RNat.plain {P:Program}{g:Nat}{args:List CV}{l:List Nat}(h:ACX P g args (RNat l)):AC P g args none [cl l] :=
 ACX.plain h λB E r hr=>by
  obtain⟨b,rfl,-⟩:=hr;exact .cons (.iv (soft_own (k:=1) (λr hr=>by obtain⟨x,_,rfl⟩:=List.mem_map.1 hr;rfl))) .nil
theorem RInt.plain {P:Program}{g:Nat}{args:List CV}{n:Int}(h:ACX P g args (RInt n)):AC P g args none [cz n] :=
 ACX.plain h λB E r hr=>by
  obtain⟨b,rfl,-⟩:=hr;exact .cons (.agg rfl (soft_fint b n)) .nil
end Go.Proofs.Ytljmoppgihphlaa

namespace Go.Proofs.Ytljmoppgihphlaa
open Go Go.Proofs Go.AL
set_option linter.unusedSimpArgs false
set_option linter.unusedVariables false
theorem wd_top {v:Nat}(h:0<(wd v).length):0<(wd v).getD ((wd v).length-1) 0:=by
 rcases Nat.eq_zero_or_pos ((wd v).getD ((wd v).length-1) 0) with h0|h0
 .exfalso
  have h1:=vl_take_next W (wd v) ((wd v).length-1);rw[Nat.sub_add_cancel h,List.take_length,h0,Nat.mul_zero,Nat.add_zero]at h1;have h2:=nv_lt ((lim_wd v).take ((wd v).length-1));rw[List.length_take,Nat.min_eq_left (Nat.sub_le _ _)]at h2;have h3:v<W^((wd v).length-1):=by
   have h4:=nv_wd v;simp only[nv]at *;omega
  have:=wd_len_le.mpr h3;omega
 .exact h0
theorem knuth_shift {y:Nat}(h:0<(wd y).length):∃s,s=64-bl ((wd y).getD ((wd y).length-1) 0)/\s<=63/\(wd y).getD ((wd y).length-1) 0<W/\(wd (y*2^s)).length=(wd y).length:=by
 have ht:=wd_top h;have hw:=(lim_wd y).get ((wd y).length-1);have h1:=vl_take_next W (wd y) ((wd y).length-1);rw[Nat.sub_add_cancel h,List.take_length]at h1;have h2:=nv_lt ((lim_wd y).take ((wd y).length-1));rw[List.length_take,Nat.min_eq_left (Nat.sub_le _ _)]at h2;have h4:=nv_wd y;simp only[nv]at *;rw[h4]at h1;have hmono:(wd y).length<=(wd (y*2^(64-bl ((wd y).getD ((wd y).length-1) 0)))).length:=wd_len_mono (Nat.le_mul_of_pos_right _ (Nat.pow_pos (by decide)));generalize hk:(wd y).length=k at *;generalize (wd y).getD (k-1) 0=t at *;have hb64:bl t<=64:=bl_le.mpr hw;have hb1:1<=bl t:=by
  rcases Nat.eq_zero_or_pos (bl t) with h0|h0
  .have:=bl_le.mp (Nat.le_of_eq h0);omega
  .exact h0
 have hbt:t<2^bl t:=bl_le.mp (Nat.le_refl _);refine⟨_,rfl,by omega,hw,Nat.le_antisymm (wd_len_le.mpr ?_) hmono⟩;have h5:y<W^(k-1)*2^bl t:=by
  have:=Nat.mul_le_mul_left (W^(k-1)) hbt;rw[Nat.mul_succ]at this;omega
 have h6:=Nat.mul_lt_mul_of_pos_right h5 (Nat.pow_pos (by decide:0<2):0<2^(64-bl t));rw[Nat.mul_assoc,<-Nat.pow_add,show bl t+(64-bl t)=64 by omega]at h6;have h7:W^k=W^(k-1)*2^64:=by
  have h8:W^(k-1+1)=W^(k-1)*W:=Nat.pow_succ _ _;rw[Nat.sub_add_cancel h]at h8;exact h8
 rw[h7];exact h6
theorem vl_rep0 (b:Nat):∀n,vl b (List.replicate n 0)=0
 |0=>rfl
 |n+1=>by rw[List.replicate_succ,vl,vl_rep0 b n];rfl
theorem put_row {X:List Nat}{k d:Nat}(h:k<X.length):(lims X).set k (splice ((lims X).getD k []) 0 [.int .u64 (d:Int)])=lims (X.set k d):=by
 rw[lims_at h,splice_one,lims_set]
theorem put_eq {u rs:List Nat}{i n d:Nat}(h:i+n<u.length)(hr:rs.length=n):(u.take i++rs++u.drop (i+n)).set (i+n) d=u.take i++(rs++d::u.drop (i+n+1)):=by
 rw[List.drop_eq_getElem_cons h,List.set_append_right _ _ (by simp;omega)];have e:i+n-(u.take i++rs).length=0:=by simp;omega
 rw[e,List.set_cons_zero,List.append_assoc]
theorem put_digit {u rs:List Nat}{i n d:Nat}(h:i+n<u.length)(hr:rs.length=n)(hu:Lim u)(hrs:Lim rs)(hd:d<W):∃X,(u.take i++rs++u.drop (i+n)).set (i+n) d=X/\X.length=u.length/\X.take i=u.take i/\nv (X.drop i)=nv rs+W^n*(d+W*nv (u.drop (i+n+1))) /\
  (X.drop i).take n=rs/\X.getD (i+n) 0=d/\X.drop (i+n+1)=u.drop (i+n+1)/\Lim X:=by
 refine⟨_,put_eq h hr,?_,?_,?_,?_,?_,?_,?_⟩
 .simp;omega
 .rw[List.take_append_of_le_length (by simp;omega),List.take_take,Nat.min_self]
 .rw[List.drop_append_of_le_length (by simp;omega),List.drop_of_length_le (by rw[List.length_take];exact Nat.min_le_left _ _),List.nil_append];have:=vl_split W (rs++d::u.drop (i+n+1)) (k:=n) (by simp;omega);rw[<-hr,List.take_left,List.drop_left,hr]at this;exact this
 .rw[List.drop_append_of_le_length (by simp;omega),List.drop_of_length_le (by rw[List.length_take];exact Nat.min_le_left _ _),List.nil_append,<-hr,List.take_left]
 .rw[List.getD_eq_getElem?_getD,List.getElem?_append_right (by simp;omega)];have e:i+n-(u.take i).length=n:=by simp;omega
  rw[e,List.getElem?_append_right (by omega),hr];simp
 .rw[<-List.append_assoc,List.drop_append,List.drop_of_length_le (by simp;omega)];have e:i+n+1-(u.take i++rs).length=1:=by simp;omega
  rw[e];rfl
 .exact(hu.take i).append (hrs.append (Lim.cons hd (hu.drop _)))
theorem knuth_next {u u0 q:List Nat}{i V g D:Nat}(hul:i<u.length)(hu0:u0.length=u.length)(hq:i<q.length)(hT:u.take (i+1)=u0.take (i+1))(hE:nv (u0.drop (i+1))=nv (q.drop (i+1))*V+nv (u.drop (i+1)))(hD:nv (u.drop i)=D)(hg:g=D/V) :
  nv (u0.drop i)=nv ((q.set i g).drop i)*V+D%V/\u.take i=u0.take i:=by
 have e1:=nv_dropk u0 i (by omega);have e2:=nv_dropk u i hul;have e3:=nv_dropk (q.set i g) i (by simp;omega);have e4:(q.set i g).getD i 0=g:=by simp[List.getD,hq]
 have e5:(q.set i g).drop (i+1)=q.drop (i+1):=List.drop_set_of_lt (by omega);have e6:u0.getD i 0=u.getD i 0:=by
  have h1:u0.getD i 0=(u0.take (i+1)).getD i 0:=by simp[List.getD,List.getElem?_take]
  have h2:u.getD i 0=(u.take (i+1)).getD i 0:=by simp[List.getD,List.getElem?_take]
  rw[h1,h2,hT]
 have hd:=Nat.div_add_mod D V;rw[e4,e5]at e3;rw[e3,e1,e6,hE,Nat.add_mul,Nat.mul_add,<-Nat.mul_assoc,Nat.mul_comm g V,hg];rw[hD]at e2;constructor
 .omega
 .have:=congrArg (List.take i) hT;simpa [List.take_take] using this
theorem flat_lims (l:List Nat):∀r∈lims l,∀x∈r,FlatI x:=by
 intro r hr x hx;simp only[lims,List.mem_map]at hr;obtain⟨n,_,rfl⟩:=hr;simp only[List.mem_singleton]at hx;subst hx;trivial
theorem flat_own2 (e:Nat)(l l':List Nat)(a:Nat):FlatRes (some (0,e,1,lims l)) [cl l',cu a]:=by
 refine⟨flat_lims l,λj c hj hc=>?_⟩
 match j,hj with
 |1,_=>simp at hc;subst hc;trivial
 |j+2,_=>simp at hc
theorem flat_own3 (e:Nat)(l l':List Nat)(a b:Nat):FlatRes (some (0,e,1,lims l)) [cl l',cu a,ci b]:=by
 refine⟨flat_lims l,λj c hj hc=>?_⟩
 match j,hj with
 |1,_=>simp at hc;subst hc;trivial
 |2,_=>simp at hc;subst hc;trivial
 |j+3,_=>simp at hc
def RDiv (q r:Nat)(B E:Nat)(res:List CV):Prop:=∃b,res=[.iv (fnat b (wd q)),cl (wd r)]/\Nw B E (oid b)
theorem ne_div (q r B:Nat):∃E res,B<=E/\RDiv q r B E res:=⟨B,_,Nat.le_refl _,none,rfl,.nil _ _⟩
theorem soft_nat {b:OB}{l:List Nat}:Soft (fnat b l) (.sl (lims l)):=soft_own (k:=1) (λr hr=>by obtain⟨x,_,rfl⟩:=List.mem_map.1 hr;rfl)
set_option maxHeartbeats 4000000 in
theorem knuthx_ok (x y m n:Nat)(hm:(wd x).length=m)(hn:(wd y).length=n)(h2:2<=n)(hxy:y<=x)(hl:m<=2^38):ACX Try.prog 83 [cl (wd x),cl (wd y)] (RDiv (x/y) (x%y)):=by
 refine ACX.by_walk zi0 (rs:=[.tmp 4,.tmp 5]) ords Try.func83 (by rfl) (by rfl) (by rfl) (by rfl) (by rfl) (ne_div _ _) (λB0=>?_);obtain⟨s,hs,hs63,htw,hvl⟩:=knuth_shift (y:=y) (by omega);have hyl:n<=m:=by rw[<-hm,<-hn];exact wd_len_mono hxy
 have lz:=lz64_ok _ htw;rw[<-hs,hn]at lz;rw[hn]at hvl;have hn1:((n:Int)-1).toNat=n-1:=by omega
 simp (disch:=omega) only[wt,seval,reduceCtorEq,Nat.reduceEqDiff,natsr_len,natsr_at,Option.getD_some,hn,hn1];refine call_by (lz) (by first|rfl|(simp only[tocvs,tocv,toboxes,tobox,updH_at,Nat.reduceEqDiff,↓reduceIte,hn,hn1];rfl)) (by simp) ?_;simp (disch:=omega) only[wt,seval,reduceCtorEq,Nat.reduceEqDiff,natsr_len,natsr_at,Option.getD_some,hn,hn1];refine call_by ((nshl_ok (wd y) s (lim_wd _) (by omega) (by omega))) (by first|rfl|(simp only[tocvs,tocv,toboxes,tobox,updH_at,Nat.reduceEqDiff,↓reduceIte,hn];rfl)) (by simp) ?_;simp (disch:=omega) only[wt,seval,reduceCtorEq,Nat.reduceEqDiff,natsr_len,natsr_at,Option.getD_some,hn];rw[nv_wd];refine call_by ((nshl_ok (wd x) s (lim_wd _) (by omega) (by omega))) (by first|rfl|(simp only[tocvs,tocv,toboxes,tobox,updH_at,Nat.reduceEqDiff,↓reduceIte,hn];rfl)) (by simp) ?_;simp (disch:=omega) only[wt,seval,reduceCtorEq,Nat.reduceEqDiff,natsr_len,natsr_at,Option.getD_some,hn];rw[nv_wd];have hUlt:x*2^s<W^(m+1):=by
  have h1:x<W^m:=by rw[<-hm];exact wd_len_le.mp (Nat.le_refl _)
  rw[Nat.pow_succ];exact Nat.mul_lt_mul_of_lt_of_le h1 (Nat.pow_le_pow_right (by decide) (by omega:s<=64)) (by decide)
 have hul:(wd (x*2^s)).length<=m+1:=wd_len_le.mpr hUlt;generalize hup:(wd (x*2^s)).length=up at *;have hz1:((m:Int)+1-up).toNat=m+1-up:=by omega
 simp (disch:=omega) only[wt,seval,reduceCtorEq,Nat.reduceEqDiff,natsr_len,natsr_at,Option.getD_some,hn,hm,hup,hz1];have hcc:=concat_ok [wd (x*2^s),List.replicate (m+1-up) 0] (by simp) (by simp only[tot,List.map_cons,List.map_nil,List.sum_cons,List.sum_nil,List.length_replicate];omega);have hpu:[wd (x*2^s),List.replicate (m+1-up) 0].flatten=pad (m+1) (x*2^s):=by
  simp only[List.flatten_cons,List.flatten_nil,List.append_nil];refine eq_pad ((lim_wd _).append (Lim.replicate _)) (by simp;omega) ?_;have h1:=vl_split W (wd (x*2^s)++List.replicate (m+1-up) 0) (k:=up) (by simp;omega);rw[List.take_append_of_le_length (by omega),List.drop_append_of_le_length (by omega),List.take_of_length_le (by omega),List.drop_of_length_le (by omega),List.nil_append,vl_rep0,Nat.mul_zero,Nat.add_zero]at h1;rw[Nat.mod_eq_of_lt hUlt];exact h1.trans (nv_wd _)
 rw[hpu]at hcc;have hpl:=pad_len (m+1) (x*2^s);have hz2:(((m+1:Nat):Int)-n).toNat=m+1-n:=by omega
 refine call_by (hcc) (by first|rfl|(simp only[tocvs,tocv,toboxes,tobox,updH_at,Nat.reduceEqDiff,↓reduceIte,hn,hm,hup,hz1,hpl,hz2];rfl)) (by simp) ?_;simp (disch:=omega) only[wt,seval,reduceCtorEq,Nat.reduceEqDiff,natsr_len,natsr_at,Option.getD_some,hn,hm,hup,hz1,hpl,hz2];have hV:Lim (wd (y*2^s)):=lim_wd _;have hq0:Lim (List.replicate (m+1-n) 0):=Lim.replicate _;have hu0:=lim_pad (m+1) (x*2^s);have hi1:nv ((pad (m+1) (x*2^s)).drop (m+1-n))<y*2^s:=by
  have h1:=vl_split W (pad (m+1) (x*2^s)) (k:=m+1-n) (by omega);have h3:=nv_pad (m+1) (x*2^s);rw[Nat.mod_eq_of_lt hUlt]at h3;have hx:x<W^m:=by rw[<-hm];exact wd_len_le.mp (Nat.le_refl _)
  have hy:W^(n-1)<=y:=by
   rcases Nat.lt_or_ge y (W^(n-1)) with h|h
   .have:=wd_len_le.mpr h;omega
   .exact h
  simp only[nv]at *;have h4:W^(m+1-n)*vl W ((pad (m+1) (x*2^s)).drop (m+1-n))<W^(m+1-n)*(y*2^s):=by
   refine Nat.lt_of_le_of_lt (Nat.le_trans (Nat.le_add_left _ _) (Nat.le_of_eq (h1.symm.trans h3))) ?_;rw[<-Nat.mul_assoc];refine Nat.mul_lt_mul_of_pos_right (Nat.lt_of_lt_of_le hx ?_) (Nat.pow_pos (by decide));rw[show m=m+1-n+(n-1) by omega,Nat.pow_add];refine Nat.mul_le_mul (Nat.pow_le_pow_right (by decide) (by omega)) hy
  exact Nat.lt_of_mul_lt_mul_left h4
 have hi2:nv ((pad (m+1) (x*2^s)).drop (m+1-n))=nv ((List.replicate (m+1-n) 0).drop (m+1-n))*(y*2^s)+nv ((pad (m+1) (x*2^s)).drop (m+1-n)):=by
  rw[List.drop_of_length_le (l:=List.replicate _ _) (by simp)];simp[nv,vl]
 refine aloop_by (λf H=>∃(k st st2:Nat) (u q:List Nat),k+n<=m+1/\Lim u/\u.length=m+1/\Lim q/\q.length=m+1-n/\nv (u.drop k)<y*2^s/\nv ((pad (m+1) (x*2^s)).drop k)=nv (q.drop k)*(y*2^s)+nv (u.drop k)/\u.take k=(pad (m+1) (x*2^s)).take k/\f 14=.iv (.int .i64 (k-1))/\f 12=.hs 54 st/\f 13=.hs 59 st2/\f 6=.iv (.int .i64 n)/\f 7=.iv (.int .i64 s)/\f 8=.iv (.sl (lims (wd (y*2^s))))/\H 54=.blk false st 55 1 (lims u)/\H 59=.blk false st2 55 1 (lims q)/\H 999=.mrk B0) (λf H=>(intAt f 14+1).toNat) ?_ ?_
 .refine⟨m+1-n,1,1,pad (m+1) (x*2^s),List.replicate (m+1-n) 0,by omega,hu0,hpl,hq0,by simp,hi1,hi2,rfl,?_⟩;simp (disch:=omega) only[wt,seval,reduceCtorEq,Nat.reduceEqDiff,natsr_len,natsr_at,Option.getD_some,hn,hm,hup,hz1,hpl,hz2]
 rintro f H ⟨k,st,st2,u,q,hk,hu,hul',hq,hql,hR,hE,hT,hF⟩;rw[intAt_of hF.1];simp (disch:=omega) only[wt,seval,reduceCtorEq,Nat.reduceEqDiff,natsr_len,natsr_at,Option.getD_some,hF];generalize hU0:pad (m+1) (x*2^s)=u0 at *;refine if_by (λhge=>?_) (λhge=>?_)
 .obtain⟨i,rfl⟩:∃i,k=i+1:=⟨k-1,by omega⟩;rw[show (((i+1:Nat):Int)-1)=i by omega]at *;have hnV:nv (wd (y*2^s))=y*2^s:=nv_wd _;have hv1:0<(wd (y*2^s)).getD (n-1) 0:=by
   have:=wd_top (v:=y*2^s) (by omega);rwa [hvl]at this
  have hR0:nv (u.drop (i+1))<nv (wd (y*2^s)):=by rw[hnV];exact hR
  have hV0:0<nv (wd (y*2^s)):=Nat.zero_lt_of_lt hR0;have hVn:=Nat.le_of_lt (nv_lt hV);rw[hvl]at hVn;generalize hv:wd (y*2^s)=v at *;generalize y*2^s=V at *;subst hnV;obtain⟨k1,k2,k3,k4,k5⟩:=knuth_digit hu hV h2 (show i+n<u.length by omega) hvl hv1 hR;have gg:=guess_ok (u.getD (i+n) 0) (u.getD (i+n-1) 0) (u.getD (i+n-2) 0) (v.getD (n-1) 0) (v.getD (n-2) 0) k1 (hu.get _) (hu.get _) (hV.get _) (hV.get _) hv1;have hgW:gd3 (u.getD (i+n) 0) (u.getD (i+n-1) 0) (u.getD (i+n-2) 0) (v.getD (n-1) 0) (v.getD (n-2) 0)<W:=Nat.lt_of_le_of_lt (Nat.min_le_right _ _) (Nat.sub_lt (by decide) (by decide));generalize gd3 (u.getD (i+n) 0) (u.getD (i+n-1) 0) (u.getD (i+n-2) 0) (v.getD (n-1) 0) (v.getD (n-2) 0)=g at *;have t1:((i:Int)+n).toNat=i+n:=by omega
  have t2:((i:Int)+n-1).toNat=i+n-1:=by omega
  have t3:((i:Int)+n-2).toNat=i+n-2:=by omega
  have t4:((n:Int)-1).toNat=n-1:=by omega
  have t5:((n:Int)-2).toNat=n-2:=by omega
  simp (disch:=omega) only[wt,seval,reduceCtorEq,Nat.reduceEqDiff,natsr_len,natsr_at,Option.getD_some,hF,t1,t2,t3,t4,t5];refine .inl ⟨tmps_by (by kernel_rfl),?_⟩;refine call_by (gg) (by first|rfl|(simp only[tocvs,tocv,toboxes,tobox,updH_at,Nat.reduceEqDiff,↓reduceIte,hF,t1,t2,t3,t4,t5];rfl)) (by simp) ?_;simp (disch:=omega) only[wt,seval,reduceCtorEq,Nat.reduceEqDiff,natsr_len,natsr_at,Option.getD_some,hF,t1,t2,t3,t4,t5]
  first|exact log_by (by kernel_rfl)|refine⟨log_by (by kernel_rfl),?_⟩
  have hal:((u.drop i).take n).length=n:=by simp;omega
  have ms:=mulsub_ok ((u.drop i).take n) v g ((hu.drop i).take n) hV hgW (by omega) (by omega);rw[hal]at ms;have hlo:=nv_lt ((hu.drop i).take n);rw[hal]at hlo;obtain⟨c1,c2⟩:=subC_eq (y:=nv v*g) (W_pow_pos n) hlo;generalize hc:subC (nv ((u.drop i).take n)) (nv v*g) (W^n)=c at *;have t6:((i:Int)+n-i).toNat=n:=by omega
  refine frame_call (λf H=>f 14=.iv (.int .i64 i)/\f 12=.hs 54 st/\f 13=.hs 59 st2/\f 6=.iv (.int .i64 n)/\f 7=.iv (.int .i64 s)/\f 8=.iv (.sl (lims v))/\f 15=.iv (.int .u64 g)/\H 54=.blk false st 55 1 (lims u)/\H 59=.blk false st2 55 1 (lims q)/\H 999=.mrk B0) ?_ (λf H hF=>?_)
  .simp (disch:=omega) only[wt,seval,reduceCtorEq,Nat.reduceEqDiff,natsr_len,natsr_at,Option.getD_some,hF]
  rw[t6];refine call_flat ms (by simp only[tocvs,tocv,hF,lims_take,lims_drop];rfl) (by simp only[lims_len];simp;omega) (.inr (flat_own3 ..)) ?_;have hrsl:=pad_len n (nv ((u.drop i).take n)+W^n*c-nv v*g);have hrsL:=lim_pad n (nv ((u.drop i).take n)+W^n*c-nv v*g);have hrsv:=nv_pad n (nv ((u.drop i).take n)+W^n*c-nv v*g);rw[Nat.mod_eq_of_lt c2]at hrsv;rw[<-hrsv]at c1 c2;generalize pad n (nv ((u.drop i).take n)+W^n*c-nv v*g)=rs at *;have hti:(u.take i).length=i:=by rw[List.length_take];omega
  have hdi:(u.drop (i+n)).length=m+1-(i+n):=by rw[List.length_drop];omega
  have hh1:i+n<i+n+(m+1-(i+n)):=by omega
  have hiq:i<m+1-n:=by omega
  have hut:=hu.get (i+n);have sb:=sub64_ok (u.getD (i+n) 0) c 0 (by omega);obtain⟨p1,p2⟩:=knuth_sub (b:=0) (g:=g) (W_pow_pos n) hlo k2 hV0 hVn k4 k5 c1 c2;rcases Nat.lt_or_ge (u.getD (i+n) 0) c with hct|hct
  .obtain⟨p3,p4,p5⟩:=p2 hct;obtain rfl:c=u.getD (i+n) 0+1:=by omega
   rw[show (u.getD (i+n) 0+W-(u.getD (i+n) 0+1)-0)%W=W-1 by rw[show u.getD (i+n) 0+W-(u.getD (i+n) 0+1)-0=W-1 by omega];exact Nat.mod_eq_of_lt (Nat.sub_lt (by decide) (by decide)),
    if_pos (by omega)]at sb
   have hWe:W-1+1=W:=Nat.sub_add_cancel (by decide);have hW1:W-1<W:=Nat.sub_lt (by decide) (by decide);generalize W-1=e at sb hWe hW1;obtain⟨X,x0,x1,x2,x3,x4,x5,x6,x7⟩:=put_digit (d:=e) (show i+n<u.length by omega) hrsl hu hrsL hW1;have hpr:=put_row (X:=u.take i++rs++u.drop (i+n)) (k:=i+n) (d:=e) (by simp only[List.length_append];omega);rw[x0]at hpr;simp (disch:=omega) only[wt,seval,reduceCtorEq,Nat.reduceEqDiff,natsr_len,natsr_at,Option.getD_some,hF,hrsl,t1];refine call_by (sb) (by first|rfl|(simp only[tocvs,tocv,toboxes,tobox,updH_at,Nat.reduceEqDiff,↓reduceIte,hF,hrsl,t1,hti,hdi,hh1,hiq];rfl)) (by simp) ?_;simp (disch:=omega) only[wt,seval,reduceCtorEq,Nat.reduceEqDiff,natsr_len,natsr_at,Option.getD_some,hF,hrsl,t1,hti,hdi,hh1,hiq];rw[t6];have hg0:1<=g:=by rw[p3];exact Nat.succ_pos _
   have hgL:g<18446744073709551616:=hgW;have hg1:((g:Int)-1)=((g-1:Nat):Int):=(Int.ofNat_sub hg0).symm;have hgl:((g-1:Nat):Int)<18446744073709551616:=by rw[<-hg1];clear p1 p2 p3;omega
   have hgw:=wrap_u64 (n:=((g-1:Nat):Int)) ⟨Int.natCast_nonneg _,hgl⟩;refine frame_call (λf H=>f 14=.iv (.int .i64 i)/\f 12=.hs 54 st/\f 13=.hs 59 st2/\f 6=.iv (.int .i64 n)/\f 7=.iv (.int .i64 s)/\f 8=.iv (.sl (lims v))/\f 15=.iv (.int .u64 (g-1:Nat))/\H 54=.blk false st 55 1 (lims X)/\H 59=.blk false st2 55 1 (lims q)/\H 999=.mrk B0) ?_ (λf H hF=>?_)
   .simp (disch:=omega) only[wt,seval,reduceCtorEq,Nat.reduceEqDiff,natsr_len,natsr_at,Option.getD_some,hF,hpr,hg1,hgw]
   have ad:=laddo_ok rs v hrsL hV (by omega) (by omega);rw[hrsl,hvl,Nat.max_self,p5,Nat.add_div_right _ (W_pow_pos n),Nat.div_eq_of_lt (Nat.lt_of_lt_of_le (Nat.mod_lt _ hV0) hVn)]at ad;have hbl:=pad_len n (nv (u.drop i)%nv v+W^n);have hbL:=lim_pad n (nv (u.drop i)%nv v+W^n);have hbv:=nv_pad n (nv (u.drop i)%nv v+W^n);rw[Nat.add_mod_right,Nat.mod_eq_of_lt (Nat.lt_of_lt_of_le (Nat.mod_lt _ hV0) hVn)]at hbv;generalize pad n (nv (u.drop i)%nv v+W^n)=bk at *;obtain⟨Y,z0,z1,z2,z3,z4,z5,z6,z7⟩:=put_digit (d:=0) (show i+n<X.length by omega) hbl x7 hbL (by decide);have hqr:=put_row (X:=X.take i++bk++X.drop (i+n)) (k:=i+n) (d:=0) (by simp only[List.length_append,List.length_take,List.length_drop];omega);rw[z0]at hqr;refine call_flat ad (by simp only[tocvs,tocv,hF,lims_take,lims_drop,x4];rfl) (by simp only[lims_len];simp;omega) (.inr (flat_own2 ..)) ?_;have hti2:(X.take i).length=i:=by rw[List.length_take];omega
   have hdi2:(X.drop (i+n)).length=m+1-(i+n):=by rw[List.length_drop];omega
   have hbg:(X.take i++bk++X.drop (i+n)).getD (i+n) 0=e:=by
    rw[List.getD_eq_getElem?_getD,List.getElem?_append_right (by simp only[List.length_append];omega),List.length_append,hti2,hbl,Nat.sub_self,List.getElem?_drop,Nat.add_zero,<-List.getD_eq_getElem?_getD,x5]
   have hrow:(lims (X.take i++bk++X.drop (i+n))).getD (i+n) []=[.int .u64 (e:Int)]:=by
    rw[lims_at (by simp only[List.length_append];omega),hbg]
   rw[hrow,splice_one]at hqr;have hqr':(lims (X.take i++bk++X.drop (i+n))).set (i+n) [.int .u64 0]=lims Y:=hqr;have hwr:IntKind.u64.wrap ((e:Int)+1)=0:=by
    have h1:((e:Int)+1)=((e+1:Nat):Int):=rfl;rw[h1,hWe];rfl
   simp (disch:=omega) only[wt,seval,reduceCtorEq,Nat.reduceEqDiff,natsr_len,natsr_at,Option.getD_some,hF,hbl,t1,hti2,hdi2,hh1,hiq,hrow,hqr',hwr,splice_one];rw[x6,k3,Nat.mul_zero,Nat.add_zero,Nat.mul_zero,Nat.add_zero,hbv]at z3;have hq1:g-1=nv (u.drop i)/nv v:=by rw[p3];rfl
   obtain⟨y1,y2⟩:=knuth_next (g:=g-1) (by omega) (by omega) (by omega) hT hE rfl hq1;exact⟨⟨i,st,st2,Y,q.set i (g-1),by omega,z7,by omega,hq.set (Nat.lt_of_le_of_lt (Nat.sub_le _ _) hgW),by simp;omega,by rw[z3];exact Nat.mod_lt _ hV0,by rw[z3];exact y1,by rw[z2,x2];exact y2,rfl,rfl,rfl,rfl,rfl⟩,by omega⟩
  .obtain⟨p3,p4⟩:=p1 hct;rw[show (u.getD (i+n) 0+W-c-0)%W=u.getD (i+n) 0-c by rw[show u.getD (i+n) 0+W-c-0=u.getD (i+n) 0-c+W by omega,Nat.add_mod_right];exact Nat.mod_eq_of_lt (by omega),
    if_neg (by omega)]at sb
   simp (disch:=omega) only[wt,seval,reduceCtorEq,Nat.reduceEqDiff,natsr_len,natsr_at,Option.getD_some,hF,hrsl,t1];refine call_by (sb) (by first|rfl|(simp only[tocvs,tocv,toboxes,tobox,updH_at,Nat.reduceEqDiff,↓reduceIte,hF,hrsl,t1,hti,hdi,hh1,hiq];rfl)) (by simp) ?_;simp (disch:=omega) only[wt,seval,reduceCtorEq,Nat.reduceEqDiff,natsr_len,natsr_at,Option.getD_some,hF,hrsl,t1,hti,hdi,hh1,hiq];rw[put_row (by simp only[List.length_append];omega)];obtain⟨X,x0,x1,x2,x3,x4,x5,x6,x7⟩:=put_digit (d:=u.getD (i+n) 0-c) (show i+n<u.length by omega) hrsl hu hrsL (by omega);rw[k3,Nat.mul_zero,Nat.add_zero]at x3;have x8:=x3.trans p4;obtain⟨y1,y2⟩:=knuth_next (g:=g) (by omega) (by omega) (by omega) hT hE rfl p3;exact⟨⟨i,st,st2,X,q.set i g,by omega,x7,by omega,hq.set hgW,by simp;omega,by rw[x8];exact Nat.mod_lt _ hV0,by rw[x8];exact y1,by rw[x2];exact y2,rfl,rfl,rfl,by rw[x0],rfl⟩,by omega⟩
 .obtain rfl:k=0:=by omega
  simp only[List.drop_zero]at hR hE;have hun:nv (u.take n)=nv u:=by
   have h1:=vl_split W u (k:=n) (by omega);have h2:nv u<W^n:=Nat.lt_of_lt_of_le hR (by rw[<-nv_wd (y*2^s),<-hvl];exact Nat.le_of_lt (nv_lt hV));simp only[nv]at *;rcases Nat.eq_zero_or_pos (vl W (u.drop n)) with h|h
   .rw[h,Nat.mul_zero]at h1;exact h1.symm
   .have h3:=Nat.mul_le_mul_left (W^n) h;rw[Nat.mul_succ,Nat.mul_zero,Nat.zero_add]at h3;omega
  have hal:(u.take n).length=n:=by rw[List.length_take];omega
  have hut:=hu.take n;simp (disch:=omega) only[wt,seval,reduceCtorEq,Nat.reduceEqDiff,natsr_len,natsr_at,Option.getD_some,hF];refine call_by (nshr_ok (u.take n) s hut (by omega) (by omega)) (by simp only[tocvs,tocv,hF,lims_take,lims_drop,List.drop_zero];rfl) (by simp only[lims_len];simp;omega) ?_;simp (disch:=omega) only[wt,seval,reduceCtorEq,Nat.reduceEqDiff,natsr_len,natsr_at,Option.getD_some,hF];refine callx_by ((normx_ok q hq (by omega))) (by first|rfl|(simp only[tocvs,tocv,toboxes,tobox,updH_at,Nat.reduceEqDiff,↓reduceIte,hF];rfl)) (by simp) (by first|rfl|assumption|(simp (disch:=omega) only[wt,seval,reduceCtorEq,Nat.reduceEqDiff,natsr_len,natsr_at,Option.getD_some,hF];done)|((repeat (replace hF:=hF.2));exact hF)) ?_;rintro B' E' _ hB hE' ⟨c,rfl,hc⟩;simp (disch:=omega) only[wt,seval,reduceCtorEq,Nat.reduceEqDiff,natsr_len,natsr_at,Option.getD_some,hF];have hpv:=nv_pad (m+1) (x*2^s);rw[hU0,Nat.mod_eq_of_lt hUlt,hE]at hpv;have hps:0<2^s:=Nat.pow_pos (by decide);have hV0:0<y*2^s:=Nat.zero_lt_of_lt hR;have eq1:nv q=x/y:=by
   rw[<-Nat.mul_div_mul_right x y hps,<-hpv,Nat.mul_comm (nv q),Nat.mul_add_div hV0,Nat.div_eq_of_lt hR,Nat.add_zero]
  have eq2:nv u=x%y*2^s:=by
   rw[<-Nat.mul_mod_mul_right,<-hpv,Nat.mul_comm (nv q),Nat.mul_add_mod,Nat.mod_eq_of_lt hR]
  rw[hun,eq1,eq2,Nat.mul_div_cancel _ hps];refine opn_done [.iv (fnat c (wd (x/y))),cl (wd (x%y))] (by first|rfl|assumption) (by first|(simp (disch:=omega) only[wt,seval,reduceCtorEq,Nat.reduceEqDiff,natsr_len,natsr_at,Option.getD_some,hF];done)|(simp (disch:=omega) only[wt,seval,reduceCtorEq,Nat.reduceEqDiff,natsr_len,natsr_at,Option.getD_some,hF];rfl)|rfl) ?_;intro E hE;exact⟨c,rfl,hc.mono hB (by omega)⟩
theorem knuth_ok (x y m n:Nat)(hm:(wd x).length=m)(hn:(wd y).length=n)(h2:2<=n)(hxy:y<=x)(hl:m<=2^38):AC Try.prog 83 [cl (wd x),cl (wd y)] none [cl (wd (x/y)),cl (wd (x%y))] :=
 ACX.plain (knuthx_ok x y m n hm hn h2 hxy hl) λB E r hr=>by
  obtain⟨b,rfl,-⟩:=hr;exact .cons (.iv soft_nat) (.cons (.refl _) .nil)

theorem pcoef_ok (p:List RI)(i:Int)(h:RP (2^40) (2^40) p):AC Try.prog 55 [cw p,ci i] none [cz (if i<0 then 0 else cf (pv p) i.toNat)]:=by
 refine AC.by_walk (rs:=[.cell 4 32]) ords Try.func55 (by rfl) (by rfl) (by rfl) (by rfl) (by rfl) ?_;have hl:=h.1;simp (disch:=omega) only[wt,seval,reduceCtorEq,Nat.reduceEqDiff,cpoly_len,natsr_len,natsr_at,natsr_snoc,natsr_app,natsr_rows,natsr_nil];have key:AC Try.prog 66 [cw p,ci i] none [cr (if i<0 then (false,[]) else p.getD i.toNat (false,[]))]:=by
  refine AC.by_walk (rs:=[.cell 4 32]) ords Try.func66 (by rfl) (by rfl) (by rfl) (by rfl) (by rfl) ?_;by_cases h0:i<0
  .simp (disch:=omega) only[wt,seval,reduceCtorEq,Nat.reduceEqDiff,cpoly_len,natsr_len,natsr_at,natsr_snoc,natsr_app,natsr_rows,natsr_nil,h0]
  by_cases h1:(p.length:Int)<=i
  .simp (disch:=omega) only[wt,seval,reduceCtorEq,Nat.reduceEqDiff,cpoly_len,natsr_len,natsr_at,natsr_snoc,natsr_app,natsr_rows,natsr_nil,h0,h1];have e:p.getD i.toNat (false,[])=(false,[]):=by rw[List.getD_eq_getElem?_getD,List.getElem?_eq_none (by omega)];rfl
   rw[e]
  .simp (disch:=omega) only[wt,seval,reduceCtorEq,Nat.reduceEqDiff,cpoly_len,natsr_len,natsr_at,natsr_snoc,natsr_app,natsr_rows,natsr_nil,h0,h1]
 refine call_by (key) (by rfl) (by simp) ?_;simp (disch:=omega) only[wt,seval,reduceCtorEq,Nat.reduceEqDiff,cpoly_len,natsr_len,natsr_at,natsr_snoc,natsr_app,natsr_rows,natsr_nil];have hs:Sz (2^40) (if i<0 then (false,[]) else p.getD i.toNat (false,[])):=by
  split
  .exact⟨by simp,Lim.nil⟩
  .exact h.get _
 have e:iv (if i<0 then (false,[]) else p.getD i.toNat (false,[]))=if i<0 then 0 else cf (pv p) i.toNat:=by
  split
  .exact iv_zero
  .rw[<-cf_pv]
 refine call_by ((znorm_ok _ hs)) (by rfl) (by simp) ?_;simp (disch:=omega) only[wt,seval,reduceCtorEq,Nat.reduceEqDiff,cpoly_len,natsr_len,natsr_at,natsr_snoc,natsr_app,natsr_rows,natsr_nil];rw[e]
theorem plead_ok (p:List RI)(h:RP (2^40) (2^40) p):AC Try.prog 34 [cw p] none [cz (cf (pv p) (tz (pv p)-1))]:=by
 refine AC.by_walk (rs:=[.cell 2 32]) ords Try.func34 (by rfl) (by rfl) (by rfl) (by rfl) (by rfl) ?_;have hl:=h.1;simp (disch:=omega) only[wt,seval,reduceCtorEq,Nat.reduceEqDiff,cpoly_len,natsr_len,natsr_at,natsr_snoc,natsr_app,natsr_rows,natsr_nil];refine call_by ((pdeg_ok p h)) (by rfl) (by simp) ?_;simp (disch:=omega) only[wt,seval,reduceCtorEq,Nat.reduceEqDiff,cpoly_len,natsr_len,natsr_at,natsr_snoc,natsr_app,natsr_rows,natsr_nil];have:=pcoef_ok p ((tz (pv p):Int)-1) h;have e:(if (tz (pv p):Int)-1<0 then 0 else cf (pv p) ((tz (pv p):Int)-1).toNat)=cf (pv p) (tz (pv p)-1):=by
  by_cases h0:tz (pv p)=0
  .rw[if_pos (by omega),cf_ge_tz _ (by omega)]
  .rw[if_neg (by omega)];congr 1;omega
 rw[e]at this;refine call_by (this) (by rfl) (by simp) ?_;simp (disch:=omega) only[wt,seval,reduceCtorEq,Nat.reduceEqDiff,cpoly_len,natsr_len,natsr_at,natsr_snoc,natsr_app,natsr_rows,natsr_nil]
theorem topW_lt {x y i:Nat}(h:x/W^(i+1)=y/W^(i+1))(hd:x/W^i%W<y/W^i%W):x<y:=by
 have e:∀z:Nat,z/W^i=W*(z/W^(i+1))+z/W^i%W:=λz=>by
  rw[Nat.pow_succ,<-Nat.div_div_eq_div_mul];exact(Nat.div_add_mod _ _).symm
 have h1:=e x;have h2:=e y;rw[h]at h1;rcases Nat.lt_or_ge x y with h3|h3
 .exact h3
 .have:=Nat.div_le_div_right (c:=W^i) h3;omega
theorem word_at {l:List Nat}(h:Lim l)(k:Nat):l.getD k 0=nv l/W^k%W:=by
 have h1:=vl_take_next W l k;have e1:=nv_take h (k+1);have e2:=nv_take h k;simp only[nv]at *;rw[e1,e2,Nat.mod_pow_succ]at h1;exact(Nat.eq_of_mul_eq_mul_left (W_pow_pos k) (Nat.add_left_cancel h1)).symm
theorem lcmp_ok (a b:List Nat)(ha:Lim a)(hb:Lim b)(hla:a.length<=2^42)(hlb:b.length<=2^42):AC Try.prog 85 [cl a,cl b] none [ci (cmpN (nv a) (nv b))]:=by
 refine AC.by_walk (rs:=[.tmp 4]) ords Try.func85 (by rfl) (by rfl) (by rfl) (by rfl) (by rfl) ?_;generalize hn:max a.length b.length=n at *;have hnI:max (a.length:Int) (b.length:Int)=(n:Int):=by omega
 have h0:nv a/W^n=nv b/W^n:=by
  have hA:=nv_lt ha;have hB:=nv_lt hb;have hA2:W^a.length<=W^n:=Nat.pow_le_pow_right (by decide) (by omega);have hB2:W^b.length<=W^n:=Nat.pow_le_pow_right (by decide) (by omega);rw[Nat.div_eq_of_lt (by omega),Nat.div_eq_of_lt (by omega)]
 simp (disch:=omega) only[wt,seval,reduceCtorEq,Nat.reduceEqDiff,cpoly_len,natsr_len,natsr_at,natsr_snoc,natsr_app,natsr_rows,natsr_nil,hnI];refine aloop_by (λf H=>∃(i:Nat),i<=n/\nv a/W^i=nv b/W^i/\f 6=.iv (.int .i64 ((i:Int)-1))/\f 0=.iv (.sl (lims a))/\f 1=.iv (.sl (lims b))) (λf H=>(intAt f 6+1).toNat) ?_ ?_
 .refine⟨n,by omega,h0,?_⟩;simp (disch:=omega) only[wt,seval,reduceCtorEq,Nat.reduceEqDiff,cpoly_len,natsr_len,natsr_at,natsr_snoc,natsr_app,natsr_rows,natsr_nil]
 rintro f H ⟨i,hi,hv,hF⟩;rw[intAt_of hF.1];simp (disch:=omega) only[wt,seval,reduceCtorEq,Nat.reduceEqDiff,cpoly_len,natsr_len,natsr_at,natsr_snoc,natsr_app,natsr_rows,natsr_nil,hF];refine if_by (λhlt=>?_) (λhlt=>?_)
 .obtain⟨j,rfl⟩:∃j,i=j+1:=⟨i-1,by omega⟩;have ej:((j+1:Nat):Int)-1=(j:Int):=by omega
  have hx:=word_at ha j;have hy:=word_at hb j;rw[ej]at hF;simp (disch:=omega) only[wt,seval,reduceCtorEq,Nat.reduceEqDiff,cpoly_len,natsr_len,natsr_at,natsr_snoc,natsr_app,natsr_rows,natsr_nil,hF];refine call_by ((at_ok a j (by omega))) (by first|rfl|(simp only[tocvs,tocv,toboxes,tobox,updH_at,Nat.reduceEqDiff,↓reduceIte,hF];rfl)) (by simp) ?_;simp (disch:=omega) only[wt,seval,reduceCtorEq,Nat.reduceEqDiff,cpoly_len,natsr_len,natsr_at,natsr_snoc,natsr_app,natsr_rows,natsr_nil,hF];refine call_by ((at_ok b j (by omega))) (by first|rfl|(simp only[tocvs,tocv,toboxes,tobox,updH_at,Nat.reduceEqDiff,↓reduceIte,hF];rfl)) (by simp) ?_;simp (disch:=omega) only[wt,seval,reduceCtorEq,Nat.reduceEqDiff,cpoly_len,natsr_len,natsr_at,natsr_snoc,natsr_app,natsr_rows,natsr_nil,hF];refine if_by (λh1=>?_) (λh1=>?_)
  .simp (disch:=omega) only[wt,seval,reduceCtorEq,Nat.reduceEqDiff,cpoly_len,natsr_len,natsr_at,natsr_snoc,natsr_app,natsr_rows,natsr_nil,hF];refine⟨⟨j,by omega,?_,rfl⟩,by omega⟩;have e:∀z:Nat,z/W^j=W*(z/W^(j+1))+z/W^j%W:=λz=>by
    rw[Nat.pow_succ,<-Nat.div_div_eq_div_mul];exact(Nat.div_add_mod _ _).symm
   rw[e (nv a),e (nv b),hv];omega
  simp (disch:=omega) only[wt,seval,reduceCtorEq,Nat.reduceEqDiff,cpoly_len,natsr_len,natsr_at,natsr_snoc,natsr_app,natsr_rows,natsr_nil,hF];refine if_by (λh2=>?_) (λh2=>?_)
  .simp (disch:=omega) only[wt,seval,reduceCtorEq,Nat.reduceEqDiff,cpoly_len,natsr_len,natsr_at,natsr_snoc,natsr_app,natsr_rows,natsr_nil,hF];have:nv a<nv b:=topW_lt hv (by omega);rw[cmpN,if_pos this]
  simp (disch:=omega) only[wt,seval,reduceCtorEq,Nat.reduceEqDiff,cpoly_len,natsr_len,natsr_at,natsr_snoc,natsr_app,natsr_rows,natsr_nil,hF];have:nv b<nv a:=topW_lt hv.symm (by omega);rw[cmpN,if_neg (by omega),if_pos this]
 .simp (disch:=omega) only[wt,seval,reduceCtorEq,Nat.reduceEqDiff,cpoly_len,natsr_len,natsr_at,natsr_snoc,natsr_app,natsr_rows,natsr_nil,hF];have:i=0:=by omega
  subst this;simp at hv;rw[hv,cmpN];simp
theorem ncmp_ok (a b:List Nat)(ha:Lim a)(hb:Lim b)(hla:a.length<=2^42)(hlb:b.length<=2^42):AC Try.prog 81 [cl a,cl b] none [ci (cmpN (nv a) (nv b))]:=by
 refine AC.by_walk (rs:=[.tmp 4]) ords Try.func81 (by rfl) (by rfl) (by rfl) (by rfl) (by rfl) ?_;simp (disch:=omega) only[wt,seval,reduceCtorEq,Nat.reduceEqDiff,cpoly_len,natsr_len,natsr_at,natsr_snoc,natsr_app,natsr_rows,natsr_nil];refine call_by ((lcmp_ok a b ha hb hla hlb)) (by rfl) (by simp) ?_;simp (disch:=omega) only[wt,seval,reduceCtorEq,Nat.reduceEqDiff,cpoly_len,natsr_len,natsr_at,natsr_snoc,natsr_app,natsr_rows,natsr_nil]
theorem wd_one {y:Nat}(h:(wd y).length=1):(wd y).getD 0 0=y/\y<W:=by
 have h1:=vl_take_next W (wd y) 0;rw[Nat.zero_add,List.take_of_length_le (by omega),List.take_zero,Nat.pow_zero,Nat.one_mul]at h1;have h2:=nv_wd y;simp only[nv,vl,Nat.zero_add]at *;have h3:=(lim_wd y).get 0;omega
theorem quo_ok (a b:List Nat)(ha:Lim a)(hb:Lim b)(hla:a.length<=2^38)(hlb:b.length<=2^38)(h0:nv b≠0):AC Try.prog 72 [cl a,cl b] none [cl (wd (nv a/nv b)),cl (wd (nv a%nv b)),ci 0]:=by
 refine AC.by_walk (rs:=[.tmp 4,.tmp 5,.tmp 6]) ords Try.func72 (by rfl) (by rfl) (by rfl) (by rfl) (by rfl) ?_;simp (disch:=omega) only[wt,seval,reduceCtorEq,Nat.reduceEqDiff,natsr_len,natsr_at,Option.getD_some];refine call_by ((norm_ok a ha (by omega))) (by rfl) (by simp) ?_;simp (disch:=omega) only[wt,seval,reduceCtorEq,Nat.reduceEqDiff,natsr_len,natsr_at,Option.getD_some];refine call_by ((norm_ok b hb (by omega))) (by rfl) (by simp) ?_;simp (disch:=omega) only[wt,seval,reduceCtorEq,Nat.reduceEqDiff,natsr_len,natsr_at,Option.getD_some];have hxl:=nv_len ha;have hyl:=nv_len hb;generalize nv a=x at *;generalize nv b=y at *;refine if_by (λh=>?_) (λh=>?_)
 .have:=wd_len_zero.mp (Int.ofNat.inj h);exact absurd this h0
 simp (disch:=omega) only[wt,seval,reduceCtorEq,Nat.reduceEqDiff,natsr_len,natsr_at,Option.getD_some];refine call_by ((ncmp_ok (wd x) (wd y) (lim_wd _) (lim_wd _) (by omega) (by omega))) (by rfl) (by simp) ?_;simp (disch:=omega) only[wt,seval,reduceCtorEq,Nat.reduceEqDiff,natsr_len,natsr_at,Option.getD_some];rw[nv_wd,nv_wd];refine if_by (λhc=>?_) (λhc=>?_)
 .have hlt:x<y:=by
   unfold cmpN at hc;split at hc
   .assumption
   .split at hc<;>omega
  rw[Nat.div_eq_of_lt hlt,Nat.mod_eq_of_lt hlt,wd_zero];simp (disch:=omega) only[wt,seval,reduceCtorEq,Nat.reduceEqDiff,natsr_len,natsr_at,Option.getD_some]
 have hle:y<=x:=by
  unfold cmpN at hc;split at hc
  .omega
  .omega
 simp (disch:=omega) only[wt,seval,reduceCtorEq,Nat.reduceEqDiff,natsr_len,natsr_at,Option.getD_some];refine if_by (λh1=>?_) (λh1=>?_)
 .obtain⟨e1,e2⟩:=wd_one (Int.ofNat.inj h1);have hp:0<(wd y).length:=by omega
  simp (disch:=omega) only[wt,seval,reduceCtorEq,Nat.reduceEqDiff,natsr_len,natsr_at,Option.getD_some];have m:=dword_ok (wd x) y (lim_wd _) (by omega) h0 e2;rw[nv_wd]at m;have n:=nof_ok (x%y) (Nat.lt_trans (Nat.mod_lt _ (by omega)) e2);simp (disch:=omega) only[wt,seval,reduceCtorEq,Nat.reduceEqDiff,natsr_len,natsr_at,Option.getD_some,e1];refine call_by (m) (by first|rfl|(simp only[tocvs,tocv,toboxes,tobox,updH_at,Nat.reduceEqDiff,↓reduceIte,e1];rfl)) (by simp) ?_;simp (disch:=omega) only[wt,seval,reduceCtorEq,Nat.reduceEqDiff,natsr_len,natsr_at,Option.getD_some,e1];refine call_by (n) (by first|rfl|(simp only[tocvs,tocv,toboxes,tobox,updH_at,Nat.reduceEqDiff,↓reduceIte,e1];rfl)) (by simp) ?_;simp (disch:=omega) only[wt,seval,reduceCtorEq,Nat.reduceEqDiff,natsr_len,natsr_at,Option.getD_some,e1]
 .have hn:2<=(wd y).length:=by omega
  simp (disch:=omega) only[wt,seval,reduceCtorEq,Nat.reduceEqDiff,natsr_len,natsr_at,Option.getD_some];refine call_by ((knuth_ok x y _ _ rfl rfl hn hle (by omega))) (by rfl) (by simp) ?_;simp (disch:=omega) only[wt,seval,reduceCtorEq,Nat.reduceEqDiff,natsr_len,natsr_at,Option.getD_some]
theorem dexact_ok (a b:List Nat)(ha:Lim a)(hb:Lim b)(hla:a.length<=2^38)(hlb:b.length<=2^38)(h0:nv b≠0):AC Try.prog 59 [cl a,cl b] none [cl (if nv a%nv b=0 then wd (nv a/nv b) else []),ci (if nv a%nv b=0 then 0 else 4)]:=by
 refine AC.by_walk (rs:=[.tmp 4,.tmp 5]) ords Try.func59 (by rfl) (by rfl) (by rfl) (by rfl) (by rfl) ?_;simp (disch:=omega) only[wt,seval,reduceCtorEq,Nat.reduceEqDiff,natsr_len,natsr_at,Option.getD_some];refine call_by ((quo_ok a b ha hb hla hlb h0)) (by rfl) (by simp) ?_;simp (disch:=omega) only[wt,seval,reduceCtorEq,Nat.reduceEqDiff,natsr_len,natsr_at,Option.getD_some];refine if_by (λh=>?_) (λh=>?_)
 .have h1:nv a%nv b≠0:=λh2=>by rw[h2,wd_zero]at h;simp at h
  rw[if_neg h1,if_neg h1];simp (disch:=omega) only[wt,seval,reduceCtorEq,Nat.reduceEqDiff,natsr_len,natsr_at,Option.getD_some]
 .have h1:nv a%nv b=0:=by
   rcases Nat.eq_zero_or_pos (wd (nv a%nv b)).length with h2|h2
   .exact wd_len_zero.mp h2
   .exact absurd (by omega) h
  rw[if_pos h1,if_pos h1];simp (disch:=omega) only[wt,seval,reduceCtorEq,Nat.reduceEqDiff,natsr_len,natsr_at,Option.getD_some]
theorem iv_sg (c:RI):iv c=sg c.1 (nv c.2):=rfl
theorem sg_div {s t:Bool}{x y:Nat}(h:x%y=0):sg s x/sg t y=sg (s != t) (x/y)/\sg t y∣sg s x:=by
 obtain⟨k,rfl⟩:=Nat.dvd_of_mod_eq_zero h;rcases Nat.eq_zero_or_pos y with h0|h0
 .subst h0;cases s<;>cases t<;>simp[sg]
 .rw[Nat.mul_div_cancel_left _ h0];have hy:(y:Int)≠0:=by omega
  cases s<;>cases t<;>simp[sg,Int.mul_ediv_cancel_left _ hy,<-Int.mul_neg]
theorem sg_dvd {s t:Bool}{x y:Nat}:sg t y∣sg s x↔x%y=0:=by
 constructor
 .intro h;have h1:=Int.natAbs_dvd_natAbs.mpr h;have e:∀(b:Bool) (n:Nat),(sg b n).natAbs=n:=λb n=>by cases b<;>simp[sg]
  rw[e,e]at h1;exact Nat.mod_eq_zero_of_dvd h1
 .intro h;exact(sg_div h).2
theorem zexact_ok (a b:RI)(ha:Sz (2^38) a)(hb:Sz (2^38) b)(h0:iv b≠0)(hd:iv b∣iv a):AC Try.prog 42 [cr a,cr b] none [cz (iv a/iv b),ci 0]:=by
 refine AC.by_walk (rs:=[.cell 4 32,.tmp 5]) ords Try.func42 (by rfl) (by rfl) (by rfl) (by rfl) (by rfl) ?_;rw[iv_sg,iv_sg]at hd;rw[iv_sg]at h0;have hm:=sg_dvd.mp hd;have hn:nv b.2≠0:=λh=>h0 (by rw[h];cases b.1<;>rfl)
 have m:=dexact_ok a.2 b.2 ha.2 hb.2 ha.1 hb.1 hn;rw[if_pos hm,if_pos hm]at m;rw[iv_sg,iv_sg,(sg_div hm).1];simp (disch:=omega) only[wt,seval,reduceCtorEq,Nat.reduceEqDiff,cpoly_len];refine call_by (m) (by rfl) (by simp) ?_;simp (disch:=omega) only[wt,seval,reduceCtorEq,Nat.reduceEqDiff,cpoly_len];refine call_by ((zof_ok (a.1 != b.1) (nv a.2/nv b.2))) (by rfl) (by simp) ?_;simp (disch:=omega) only[wt,seval,reduceCtorEq,Nat.reduceEqDiff,cpoly_len]
def gz (q:List Int):Nat:=q.foldl (λg c=>Nat.gcd g c.natAbs) 0
def lc (q:List Int):Int:=cf q (tz q-1)
def cont (q:List Int):Int:=sg (decide (lc q<0)) (gz q)
theorem zl_div {a b:Int}(h:b∣a):zl (a/b)<=zl a:=by
 obtain⟨k,rfl⟩:=h;by_cases h0:b=0
 .subst h0;simp
 .rw[Int.mul_ediv_cancel_left _ h0];unfold zl;rw[Int.natAbs_mul];exact wd_len_mono (Nat.le_mul_of_pos_left _ (by omega))


abbrev q0:RQ:=((false,[]),[])
theorem rats_get {l:List RQ}{i:Nat}(h:i<l.length):(rats l).getD i []=qrow (l.getD i q0):=by simp[rats,List.getD,h]
theorem rats_rows (p:List RQ):(∀r∈rats p,r.length=3)↔True:=by
 simp only[iff_true];intro r hr;obtain⟨c,_,rfl⟩:=List.mem_map.1 hr;rfl
theorem rats_snoc (p:List RQ)(c:RQ):rats p++[qrow c]=rats (p++[c]):=by simp[rats]
theorem rats_nil:rats []=[]:=rfl
theorem rats_set (p:List RQ)(i:Nat)(c:RQ):(rats p).set i (qrow c)=rats (p.set i c):=by simp[rats,List.map_set]
theorem rats_take (p:List RQ)(k:Nat):(rats p).take k=rats (p.take k):=by simp[rats,List.map_take]
theorem rats_rep (n:Nat):List.replicate n [IV.bool false,IV.sl [],IV.sl []]=rats (List.replicate n q0):=by rw[rats,List.map_replicate];rfl
theorem qrow_take (r:RQ):List.take 3 (qrow r)=qrow r:=rfl
theorem qrow_drop2 (r:RQ):List.drop 2 (qrow r)=[.sl (lims r.2)]:=rfl
theorem qrow_drop1 (r:RQ):List.drop 1 (qrow r)=[.sl (lims r.1.2),.sl (lims r.2)]:=rfl
theorem qrow_take2 (r:RQ):List.take 2 (qrow r)=prow r.1:=rfl
theorem qrow_spl0 (r:RQ)(c:RI):splice (qrow r) 0 (prow c)=qrow (c,r.2):=rfl
theorem qrow_len (r:RQ):(qrow r).length=3:=rfl
theorem qrow_splice (x y z:IV)(r:RQ):splice [x,y,z] 0 (qrow r)=qrow r:=rfl
theorem qrow_row (r:RQ):[IV.bool r.1.1,IV.sl (lims r.1.2),IV.sl (lims r.2)]=qrow r:=rfl
theorem rqs:(∀l:List RQ,(rats l).length=l.length)/\(∀{l:List RQ} {i:Nat},i<l.length->(rats l).getD i []=qrow (l.getD i q0)) /\
  (∀(c:RI) (x:IV),lay (λi=>[(0,2),(2,1)][i]?) [.bool false,.sl [],.sl []] ([0,1].zip [prow c,[x]])=some ((2=2/\0+2<=3)/\(1=1/\2+1<=3)/\True,[.bool c.1,.sl (lims c.2),x])) /\
  (∀r:RQ,List.take 3 (qrow r)=qrow r)/\(∀r:RQ,(qrow r).length=3)/\(∀(x y z:IV) (r:RQ),splice [x,y,z] 0 (qrow r)=qrow r)/\(∀r:RQ,[IV.bool r.1.1,IV.sl (lims r.1.2),IV.sl (lims r.2)]=qrow r) /\
  (∀p:List RQ,(∀r∈rats p,r.length=3)↔True)/\(∀(p:List RQ) (c:RQ),rats p++[qrow c]=rats (p++[c]))/\(∀(p:List RQ) (i:Nat) (c:RQ),(rats p).set i (qrow c)=rats (p.set i c)) /\
  (∀(p:List RQ) (k:Nat),(rats p).take k=rats (p.take k))/\(∀n:Nat,List.replicate n [IV.bool false,IV.sl [],IV.sl []]=rats (List.replicate n q0))/\(rats []=[]) /\
  (∀r:RQ,List.drop 2 (qrow r)=[.sl (lims r.2)])/\(∀r:RQ,List.take 2 (qrow r)=prow r.1)/\(∀r:RQ,List.drop 1 (qrow r)=[.sl (lims r.1.2),.sl (lims r.2)])/\(∀(r:RQ) (c:RI),splice (qrow r) 0 (prow c)=qrow (c,r.2)) :=
 ⟨rats_len,rats_get,lay_rat,qrow_take,qrow_len,qrow_splice,qrow_row,rats_rows,rats_snoc,rats_set,rats_take,rats_rep,rats_nil,qrow_drop2,qrow_take2,qrow_drop1,qrow_spl0⟩
theorem SzQ.mono {j k:Nat}{r:RQ}(h:SzQ j r)(hk:j<=k):SzQ k r:=⟨h.1.mono hk,Nat.le_trans h.2.1 hk,h.2.2⟩
theorem wd_len2 {a b:Nat}{j k:Nat}(ha:(wd a).length<=j)(hb:(wd b).length<=k):(wd (a*b)).length<=j+k:=Nat.le_trans (AL.wd_mul_len a b) (Nat.add_le_add ha hb)
theorem zneg_ok (c:RI)(h:Sz (2^40) c):AC Try.prog 12 [cr c] none [cz (-iv c)]:=by
 have e:sg (!c.1) (nv c.2) = -iv c:=by
  rw[iv_sg];unfold sg;cases c.1<;>simp
 have m:=zof_ok (!c.1) (nv c.2);rw[e]at m;have n:=norm_ok c.2 h.2 (Nat.le_trans h.1 (by omega));refine AC.by_walk (rs:=[.cell 2 32]) ords Try.func12 (by rfl) (by rfl) (by rfl) (by rfl) (by rfl) ?_;simp (disch:=omega) only[wt,seval,reduceCtorEq,Nat.reduceEqDiff,rqs];refine .inl ⟨tmps_by (by kernel_rfl),?_⟩;refine call_by (n) (by rfl) (by simp) ?_;simp (disch:=omega) only[wt,seval,reduceCtorEq,Nat.reduceEqDiff,rqs];refine call_by (m) (by rfl) (by simp) ?_;simp (disch:=omega) only[wt,seval,reduceCtorEq,Nat.reduceEqDiff,rqs]
 first|exact log_by (by kernel_rfl)|refine⟨log_by (by kernel_rfl),?_⟩
 try rfl
theorem zl_pow {a:Int}{K:Nat}(h:zl a<=K)(i:Nat):zl (a^i)<=i*K+1:=by
 induction i with
 |zero=>rw[Int.pow_zero];have:zl 1<=1:=zl_le.mpr (by decide);omega
 |succ i ih =>
  rw[Int.pow_succ];have:=zl_mul (a^i) a;rw[Nat.succ_mul];omega
def ev:List Int->Int->Int
 |[],_=>0
 |c::p,t=>c+t*ev p t

def BQ (n k:Nat)(p:List RQ):Prop:=p.length<=n/\∀r∈p,SzQ k r
def GQ (n k:Nat)(p:List RQ):Prop:=p.length<=n/\∀r∈p,SzQ k r/\nv r.2≠0
def QB (n k:Nat)(q:List Rat):Prop:=q.length<=n/\∀c∈q,qz c<=k
def gd (p:List RQ):Bool:=p.all λr=>decide (nv r.2≠0)
theorem getq_mem {p:List RQ}{i:Nat}(h:i<p.length):p.getD i q0∈p:=by rw[List.getD,List.getElem?_eq_getElem h,Option.getD_some];exact List.getElem_mem h
theorem BQ.get {n k i:Nat}{p:List RQ}(h:BQ n k p)(hi:i<p.length):SzQ k (p.getD i q0):=h.2 _ (getq_mem hi)
theorem GQ.get {n k i:Nat}{p:List RQ}(h:GQ n k p)(hi:i<p.length):SzQ k (p.getD i q0):=(h.2 _ (getq_mem hi)).1
theorem GQ.den {n k i:Nat}{p:List RQ}(h:GQ n k p)(hi:i<p.length):nv (p.getD i q0).2≠0:=(h.2 _ (getq_mem hi)).2
theorem gd_iff {p:List RQ}:gd p=true↔∀r∈p,nv r.2≠0:=by simp[gd]
theorem GQ.gd {n k:Nat}{p:List RQ}(h:GQ n k p):gd p=true:=gd_iff.mpr λr hr=>(h.2 r hr).2
theorem BQ.mono {n k n' k':Nat}{p:List RQ}(h:BQ n k p)(hn:n<=n')(hk:k<=k'):BQ n' k' p:=⟨Nat.le_trans h.1 hn,λr hr=>(h.2 r hr).mono hk⟩
theorem GQ.mono {n k n' k':Nat}{p:List RQ}(h:GQ n k p)(hn:n<=n')(hk:k<=k'):GQ n' k' p:=⟨Nat.le_trans h.1 hn,λr hr=>⟨(h.2 r hr).1.mono hk,(h.2 r hr).2⟩⟩
theorem QB.mono {n k n' k':Nat}{q:List Rat}(h:QB n k q)(hn:n<=n')(hk:k<=k'):QB n' k' q:=⟨Nat.le_trans h.1 hn,λr hr=>Nat.le_trans (h.2 r hr) hk⟩
theorem GQ.qb {n k:Nat}{p:List RQ}(h:GQ n k p):QB n k (qvs p):=⟨by rw[qvs_len];exact h.1,λc hc=>by
 obtain⟨r,hr,rfl⟩:=List.mem_map.1 hc;exact qz_raw (h.2 r hr).1 (h.2 r hr).2⟩
theorem QB.trimq {n k:Nat}{q:List Rat}(h:QB n k q):QB n k (trimq q):=⟨Nat.le_trans (by rw[trimq_len];exact tzq_le q) h.1,λc hc=>h.2 c (List.mem_of_mem_take hc)⟩
theorem QB.cz {n k:Nat}{q:List Rat}(h:QB n k q)(hk:1<=k)(i:Nat):qz (cfq q i)<=k:=by
 unfold cfq;rw[List.getD_eq_getElem?_getD];cases hi:q[i]? with
 |none=>rw[Option.getD_none,qz_zero];exact hk
 |some x=>exact h.2 x (List.mem_of_getElem? hi)
theorem QB.of {n k:Nat}{q:List Rat}(hl:q.length<=n)(h:∀i,qz (cfq q i)<=k):QB n k q:=⟨hl,λc hc=>by
 obtain⟨i,hi,rfl⟩:=List.getElem_of_mem hc;have:=h i;rwa [cfq_lt hi]at this⟩
def qp (p:List Int):List Rat:=p.map λz:Int=>(z:Rat)
theorem cfq_qp (p:List Int)(k:Nat):cfq (qp p) k=(cf p k:Rat):=by
 unfold cfq qp cf;rw[List.getD_eq_getElem?_getD,List.getD_eq_getElem?_getD,List.getElem?_map];cases p[k]?<;>rfl
structure VB (p:List RQ) (x:RQ) (B:Nat):Prop where
 hp:GQ (2^30) B p
 hx:SzQ B x
 d:nv x.2≠0
 e:∀q:List Rat,q.length<=p.length->(∀c∈q,c∈qvs p)->qz (evq q (qv x))<=B
 w:∀i,i<=p.length->qz (qv x^i)<=B
 b:B<=2^34
 one:1<=B
theorem VB.of {n K X B:Nat}{p:List RQ}{x:RQ}(hp:GQ n K p)(hx:SzQ X x)(hd:nv x.2≠0)(hn:n<=2^30)(hB:n*(K+X+1)+K+X+1<=B)(hB':B<=2^34):VB p x B where
 hp:=hp.mono hn (by omega)
 hx:=hx.mono (by omega)
 d:=hd
 e:=λq hq hc=>by
  have h:=qz_evq (K:=K) (qz_raw hx hd) (p:=q) λc hc'=>hp.qb.2 c (hc c hc')
  have h2:=Nat.mul_le_mul_right (K+X+1) (Nat.le_trans hq hp.1);omega
 w:=λi hi=>by
  have h:=qz_pow (qz_raw hx hd) i;have h2:=Nat.mul_le_mul_right X (Nat.le_trans hi hp.1);have h3:n*X<=n*(K+X+1):=Nat.mul_le_mul_left n (by omega);omega
 b:=hB'
 one:=by omega
theorem VB.take {p:List RQ}{x:RQ}{B:Nat}(v:VB p x B)(i:Nat):qz (evq ((qvs p).take i) (qv x))<=B :=
 v.e _ (by rw[List.length_take,qvs_len];omega) λc hc=>List.mem_of_mem_take hc
theorem VB.drop {p:List RQ}{x:RQ}{B:Nat}(v:VB p x B)(i:Nat):qz (evq ((qvs p).drop i) (qv x))<=B :=
 v.e _ (by rw[List.length_drop,qvs_len];omega) λc hc=>List.mem_of_mem_drop hc

def NP (n k:Nat)(l:List (List Nat)):Prop:=l.length<=n/\∀a∈l,Lim a/\a.length<=k
theorem NP.get {n k:Nat}{l:List (List Nat)}(h:NP n k l)(i:Nat):Lim (l.getD i [])/\(l.getD i []).length<=k:=by
 by_cases hi:i<l.length
 .have e:l.getD i []=l[i]:=by simp[List.getD,hi]
  rw[e];exact h.2 _ (List.getElem_mem hi)
 .rw[List.getD_eq_getElem?_getD,List.getElem?_eq_none (by omega)];exact⟨Lim.nil,by simp⟩
theorem pv_cn (q:List Int):pv (cn q)=trimz q:=by rw[cn,pv_canon]
theorem sameint_g {a b:Int}(e:a=b)(h:zl a<=2^43):AC Try.prog 10 [cz a,cz b] none [cb true]:=by
 subst e;have:=rSameInt_ok (canon a) (canon a) h h;rwa [decide_eq_true rfl]at this
structure C12 where
 (P Q:List RI) (R S:List RQ) (A B:RI) (X Y:RQ) (N:Int)
structure Ok12 (x:C12):Prop where
 P:Raw x.P
 Q:Raw x.Q
 R:RawQ x.R
 S:RawQ x.S
 A:Sz 9223372036854775807 x.A
 B:Sz 9223372036854775807 x.B
 X:SzQ 9223372036854775807 x.X
 Y:SzQ 9223372036854775807 x.Y
 N : -9223372036854775808<=x.N/\x.N<=9223372036854775807
structure Fit12 (x:C12):Prop where
 P:RP 40 200 x.P
 Q:RP 40 200 x.Q
 R:BQ 40 200 x.R
 S:BQ 40 200 x.S
 A:Sz 200 x.A
 B:Sz 200 x.B
 X:SzQ 200 x.X
 Y:SzQ 200 x.Y
def CD (D M:Nat)(q:Rat):Prop:=∃z:Int,q=(z:Rat)/(D:Rat)/\zl z<=M
theorem CD.mono {D M N:Nat}{q:Rat}(h:CD D M q)(hk:M<=N):CD D N q:=by
 obtain⟨z,e,hz⟩:=h;exact⟨z,e,Nat.le_trans hz hk⟩
theorem natr_ne {n:Nat}(h:n≠0):(n:Rat)≠0:=λe=>h (Rat.natCast_eq_zero_iff.mp e)
theorem CD.add {D M N:Nat}{p q:Rat}(h:CD D M p)(k:CD D N q):CD D (max M N+1) (p+q):=by
 obtain⟨z,e,hz⟩:=h;obtain⟨w,f,hw⟩:=k;refine⟨z+w,?_,?_⟩
 .rw[e,f,Rat.intCast_add,Rat.div_def,Rat.div_def,Rat.div_def,Rat.add_mul]
 .have:=zl_add z w;omega
theorem CD.neg {D M:Nat}{p:Rat}(h:CD D M p):CD D M (-p):=by
 obtain⟨z,e,hz⟩:=h;exact⟨-z,by rw[e,Rat.intCast_neg,Rat.div_def,Rat.div_def,Rat.neg_mul],by rw[zl_neg];exact hz⟩
theorem CD.mul {D E M N:Nat}{p q:Rat}(hD:D≠0)(hE:E≠0)(h:CD D M p)(k:CD E N q):CD (D*E) (M+N) (p*q):=by
 obtain⟨z,e,hz⟩:=h;obtain⟨w,f,hw⟩:=k;refine⟨z*w,?_,?_⟩
 .have h1:=natr_ne hD;have h2:=natr_ne hE;rw[e,f,Rat.intCast_mul,Rat.natCast_mul]
  grind
 .have:=zl_mul z w;omega
theorem CD.up {D E M V:Nat}{q:Rat}(hD:D≠0)(hE:E≠0)(hV:(wd E).length<=V)(h:CD D M q):CD (D*E) (M+V) q:=by
 obtain⟨z,e,hz⟩:=h;refine⟨z*E,?_,?_⟩
 .have h1:=natr_ne hD;have h2:=natr_ne hE;rw[e,Rat.intCast_mul,Rat.natCast_mul,Rat.intCast_natCast]
  grind
 .have:=zl_mul z E;rw[zl_nat]at this;omega
theorem CD.ofRat (q:Rat):CD q.den (zl q.num) q:=⟨q.num,by rw[<-Rat.mkRat_eq_div];exact(Rat.mkRat_self q).symm,Nat.le_refl _⟩
theorem CD.size {D M:Nat}{q:Rat}(hD:D≠0)(hw:(wd D).length<=M)(h:CD D M q):qz q<=M:=by
 obtain⟨z,e,hz⟩:=h;rw[e,<-Rat.mkRat_eq_div];exact qz_mk hD hz hw
theorem CD.zero (D M:Nat):CD D M 0:=⟨0,by rw[Rat.intCast_zero,Rat.div_def,Rat.zero_mul],by rw[zl_zero];omega⟩
theorem wd_pow {v V:Nat}(h:(wd v).length<=V)(n:Nat):(wd (v^n)).length<=n*V+1:=by
 have:=zl_pow (a:=(v:Int)) (K:=V) h n;unfold zl at this;rwa [Int.natAbs_pow,Int.natAbs_natCast]at this
theorem pow_ne {v:Nat}(h:v≠0)(n:Nat):v^n≠0:=Nat.ne_of_gt (Nat.pow_pos (Nat.pos_of_ne_zero h))
theorem evq_cd {D K v X V:Nat}{x:Rat}(hD:D≠0)(hv:v≠0)(hV:(wd v).length<=V)(hx:CD v X x):∀p:List Rat,(∀c∈p,CD D K c)->CD (D*v^p.length) (K+p.length*(X+V+1)+1) (evq p x)
 |[],_=>CD.zero _ _
 |c::p,h=>by
  have ih:=evq_cd hD hv hV hx p λc' hc=>h c' (List.mem_cons_of_mem _ hc)
  have h1:=(h c (by simp)).up hD (pow_ne hv (p.length+1)) (wd_pow hV (p.length+1));have h2:=hx.mul hv (Nat.mul_ne_zero hD (pow_ne hv _)) ih;rw[show v*(D*v^p.length)=D*v^(p.length+1) by rw[Nat.pow_succ];ac_rfl]at h2;rw[evq,List.length_cons];refine(h1.add h2).mono ?_;have e1:(p.length+1)*V=p.length*V+V:=Nat.succ_mul _ _;have e2:(p.length+1)*(X+V+1)=p.length*(X+V+1)+(X+V+1):=Nat.succ_mul _ _;have e3:p.length*V<=p.length*(X+V+1):=Nat.mul_le_mul_left _ (by omega);omega
theorem evq_cdN {D K v X V N:Nat}{x:Rat}(hD:D≠0)(hv:v≠0)(hV:(wd v).length<=V)(hx:CD v X x){p:List Rat}(hp:∀c∈p,CD D K c)(hN:p.length<=N):CD (D*v^N) (K+N*(X+V+1)+N*V+2) (evq p x):=by
 have h1:=(evq_cd hD hv hV hx p hp).up (Nat.mul_ne_zero hD (pow_ne hv _)) (pow_ne hv (N-p.length)) (wd_pow hV (N-p.length));rw[Nat.mul_assoc,<-Nat.pow_add,show p.length+(N-p.length)=N by omega]at h1;refine h1.mono ?_;have e1:p.length*(X+V+1)<=N*(X+V+1):=Nat.mul_le_mul_right _ hN;have e2:(N-p.length)*V<=N*V:=Nat.mul_le_mul_right _ (by omega);omega
structure CB (D n M:Nat) (q:List Rat):Prop where
 d:D≠0
 w:(wd D).length<=M
 l:q.length<=n
 c:∀c∈q,CD D M c
theorem CB.qb {D n M:Nat}{q:List Rat}(h:CB D n M q):QB n M q:=⟨h.l,λc hc=>(h.c c hc).size h.d h.w⟩
theorem CB.mono {D n M m N:Nat}{q:List Rat}(h:CB D n M q)(hn:n<=m)(hM:M<=N):CB D m N q:=⟨h.d,Nat.le_trans h.w hM,Nat.le_trans h.l hn,λc hc=>(h.c c hc).mono hM⟩
theorem CB.sub {D n M:Nat}{q r:List Rat}(h:CB D n M q)(hl:r.length<=n)(hr:∀c∈r,c∈q):CB D n M r:=⟨h.d,h.w,hl,λc hc=>h.c c (hr c hc)⟩
theorem qz_parts (q:Rat):zl q.num<=qz q/\(wd q.den).length<=qz q:=⟨Nat.le_max_left _ _,Nat.le_max_right _ _⟩
theorem one_cd:∀{k:Nat} (q:List Rat),(∀c∈q,qz c<=k)->∃D,D≠0/\(wd D).length<=q.length*k+1/\∀c∈q,CD D (q.length*k+k+1) c
 |k,[],_=>⟨1,by omega,by rw[show wd 1=[1] by decide +kernel];simp,λc hc=>nomatch hc⟩
 |k,a::q,h=>by
  obtain⟨D,hD,hw,hc⟩:=one_cd q λc hc=>h c (List.mem_cons_of_mem _ hc)
  have ha:=h a (by simp);have hp:=qz_parts a;refine⟨a.den*D,Nat.mul_ne_zero a.den_nz hD,?_,λc hc'=>?_⟩
  .have:=AL.wd_mul_len a.den D;rw[List.length_cons,Nat.succ_mul];omega
  .rw[List.length_cons,Nat.succ_mul];rcases List.mem_cons.1 hc' with rfl|hc'
   .exact((CD.ofRat c).up c.den_nz hD hw).mono (by omega)
   .rw[Nat.mul_comm];exact((hc c hc').up hD a.den_nz hp.2).mono (by omega)
theorem QB.cb {n k:Nat}{q:List Rat}(h:QB n k q):∃D,CB D n (n*k+k+1) q:=by
 obtain⟨D,hD,hw,hc⟩:=one_cd q h.2;have:=Nat.mul_le_mul_right k h.1;exact⟨D,hD,by omega,h.1,λc hc'=>(hc c hc').mono (by omega)⟩
def sqq (q:List Rat)(c:Rat):List Rat:=(List.range (q.length-1)).map λi=>evq (q.drop (i+1)) c
theorem sqq_len (q:List Rat)(c:Rat):(sqq q c).length=q.length-1:=by simp[sqq]
theorem cfq_sqq (q:List Rat)(c:Rat)(i:Nat):cfq (sqq q c) i=evq (q.drop (i+1)) c:=by
 by_cases h:i<q.length-1
 .rw[sqq,cfq,List.getD,List.getElem?_map,List.getElem?_range h];rfl
 .rw[cfq_ge (by rw[sqq_len];omega),List.drop_of_length_le (by omega)];rfl
theorem CB.sqq {D n M v X V:Nat}{q:List Rat}{x:Rat}(h:CB D n M q)(hv:v≠0)(hV:(wd v).length<=V)(hx:CD v X x):CB (D*v^n) n (M+n*(X+V+1)+n*V+2) (sqq q x) where
 d:=Nat.mul_ne_zero h.d (pow_ne hv _)
 w:=by
  have h1:=AL.wd_mul_len D (v^n);have h2:=wd_pow hV n;have h3:=h.w;omega
 l:=by rw[sqq_len];have:=h.l;omega
 c:=λc hc=>by
  obtain⟨i,_,rfl⟩:=List.mem_map.1 hc;exact evq_cdN h.d hv hV hx (λc hc=>h.c c (List.mem_of_mem_drop hc)) (by rw[List.length_drop];have:=h.l;omega)
theorem trimq_full {q:List Rat}(h:trimq q=q):tzq q=q.length:=by rw[<-trimq_len,h]
theorem sqq_tz {q:List Rat}{c:Rat}(h:trimq q=q)(h0:q.length≠0)(he:evq q c=0):tzq (sqq q c)=q.length-1/\q.length-1≠0:=by
 have ht:=trimq_full h;have h1:q.length≠1:=λe=>by
  match q,e with
  |[a],_ =>
   have:=cfq_tzq_pred (q:=[a]) (by rw[ht];simp);rw[ht]at this;rw[evq,evq]at he;exact this (by show a=0;rw[<-he];grind)
 have h2:cfq (sqq q c) (q.length-2)≠0:=by
  have:=cfq_tzq_pred (q:=q) (by rw[ht];exact h0);rw[ht]at this;rw[cfq_sqq,show q.length-2+1=q.length-1 by omega,List.drop_eq_getElem_cons (by omega),evq,List.drop_of_length_le (by omega),evq];rw[cfq_lt (by omega)]at this;intro e;exact this (by rw[<-e];grind)
 have:=tzq_spec h2 λk hk=>by rw[cfq_sqq,List.drop_of_length_le (by omega)];rfl
 exact⟨by omega,by omega⟩
def qit (q:List Rat)(c:Rat):Nat->List Rat
 |0=>q
 |k+1=>trimq (sqq (qit q c k) c)
theorem qit_len {q:List Rat}{c:Rat}(h:trimq q=q)(h0:q.length≠0):∀k,(∀j,j<k->evq (qit q c j) c=0)->(qit q c k).length+k=q.length/\(qit q c k).length≠0/\trimq (qit q c k)=qit q c k
 |0,_=>⟨rfl,h0,h⟩
 |k+1,hk=>by
  obtain⟨h1,h2,h3⟩:=qit_len h h0 k λj hj=>hk j (by omega)
  obtain⟨h4,h5⟩:=sqq_tz h3 h2 (hk k (by omega));refine⟨?_,?_,trimq_trimq _⟩
  .rw[qit,trimq_len];omega
  .rw[qit,trimq_len];omega

structure SB (A:List Rat) (x:RQ) (B:Nat):Prop where
 l:A.length<=2^30
 c:∀i,i<A.length->qz (cfq A i)<=B
 e:∀i,qz (evq (A.drop i) (qv x))<=B
 hx:SzQ B x
 d:nv x.2≠0
 b:B<=2^34
 one:1<=B
theorem VB.sb {p:List RQ}{x:RQ}{B:Nat}(v:VB p x B):SB (trimq (qvs p)) x B where
 l:=by rw[trimq_len];exact Nat.le_trans (tzq_le _) (by rw[qvs_len];exact v.hp.1)
 c:=λi hi=>by
  have:=v.hp.qb.trimq;exact this.cz v.one i
 e:=λi=>v.e _ (by rw[List.length_drop,trimq_len];have:=tzq_le (qvs p);rw[qvs_len]at this;omega) λc hc=>List.mem_of_mem_take (List.mem_of_mem_drop hc)
 hx:=v.hx
 d:=v.d
 b:=v.b
 one:=v.one
structure TB (A:List Rat) (x:RQ) (n:Nat):Prop where
 t:trimq A=A
 l:A.length<=2^30
 n0:A.length≠0
 z:∀j,j<n->evq (qit A (qv x) j) (qv x)=0
 e:evq (qit A (qv x) n) (qv x)≠0
 v:∀k,k<=n->VB ((qit A (qv x) k).map crat) x (2^34)
theorem TB.le {A:List Rat}{x:RQ}{n:Nat}(h:TB A x n){k:Nat}(hk:k<=n):(qit A (qv x) k).length+k=A.length/\(qit A (qv x) k).length≠0/\trimq (qit A (qv x) k)=qit A (qv x) k :=
 qit_len h.t h.n0 k λj hj=>h.z j (by omega)


theorem lcm_len {a b j k:Nat}(ha:(wd a).length<=j)(hb:(wd b).length<=k):(wd (Nat.lcm a b)).length<=j+k :=
 Nat.le_trans (wd_len_mono (Nat.div_le_self _ _)) (wd_len2 ha hb)
theorem lcm_ne {a b:Nat}(ha:a≠0)(hb:b≠0):Nat.lcm a b≠0:=Nat.lcm_ne_zero ha hb
def lcmL (l:List Nat):Nat:=l.foldl Nat.lcm 1
theorem lcmL_take {l:List Nat}{i:Nat}(h:i<l.length):lcmL (l.take (i+1))=Nat.lcm (lcmL (l.take i)) (l.getD i 0):=by
 rw[List.take_add_one,List.getElem?_eq_getElem h,lcmL,List.foldl_append];simp[lcmL,List.getD,h]
theorem lcmL_facts (l:List Nat)(K:Nat)(h0:∀x∈l,x≠0)(hK:∀x∈l,(wd x).length<=K):∀i,i<=l.length->lcmL (l.take i)≠0/\(wd (lcmL (l.take i))).length<=i*K+1/\∀j,j<i->l.getD j 0∣lcmL (l.take i)
 |0,_=>⟨by simp[lcmL],by rw[List.take_zero];show (wd 1).length<=_;rw[show wd 1=[1] by decide +kernel];simp,λj hj=>by omega⟩
 |i+1,hi=>by
  obtain⟨a1,a2,a3⟩:=lcmL_facts l K h0 hK i (by omega);have hm:l.getD i 0∈l:=by rw[List.getD,List.getElem?_eq_getElem (by omega),Option.getD_some];exact List.getElem_mem _
  rw[lcmL_take (by omega)];refine⟨lcm_ne a1 (h0 _ hm),?_,λj hj=>?_⟩
  .have:=lcm_len a2 (hK _ hm);rw[Nat.succ_mul];omega
  .rcases Nat.lt_or_ge j i with h|h
   .exact Nat.dvd_trans (a3 j h) (Nat.dvd_lcm_left _ _)
   .obtain rfl:j=i:=by omega
    exact Nat.dvd_lcm_right _ _
def dens (A:List Rat):List Nat:=A.map λc=>c.den
def cden (A:List Rat):Nat:=lcmL (dens A)
def clr (A:List Rat):List Int:=A.map λc=>c.num*((cden A:Int)/(c.den:Int))
theorem dens_len (A:List Rat):(dens A).length=A.length:=List.length_map _
theorem clr_len (A:List Rat):(clr A).length=A.length:=List.length_map _
theorem dens_get {A:List Rat}{i:Nat}(h:i<A.length):(dens A).getD i 0=(cfq A i).den:=by simp[dens,cfq,List.getD,h]
theorem clr_get {A:List Rat}{i:Nat}(h:i<A.length):cf (clr A) i=(cfq A i).num*((cden A:Int)/((cfq A i).den:Int)):=by simp[clr,cf,cfq,List.getD,h]
theorem dens_ne {A:List Rat}:∀x∈dens A,x≠0:=λx hx=>by
 obtain⟨c,_,rfl⟩:=List.mem_map.1 hx;exact c.den_nz
theorem QB.dens {n k:Nat}{A:List Rat}(h:QB n k A):∀x∈dens A,(wd x).length<=k:=λx hx=>by
 obtain⟨c,hc,rfl⟩:=List.mem_map.1 hx;exact Nat.le_trans (qz_parts c).2 (h.2 c hc)
theorem cden_ne (A:List Rat):cden A≠0:=by
 have:=(lcmL_facts (dens A) ((dens A).foldl (λm x=>max m (wd x).length) 0) dens_ne (λx hx=>by
  have key:∀(l:List Nat) (m:Nat),m<=l.foldl (λm x=>max m (wd x).length) m/\∀x∈l,(wd x).length<=l.foldl (λm x=>max m (wd x).length) m:=by
   intro l
   induction l with
   |nil=>exact λm=>⟨Nat.le_refl _,λx hx=>nomatch hx⟩
   |cons a l ih =>
    intro m;have:=ih (max m (wd a).length);refine⟨Nat.le_trans (Nat.le_max_left _ _) this.1,λx hx=>?_⟩;rcases List.mem_cons.1 hx with rfl|hx
    .exact Nat.le_trans (Nat.le_max_right _ _) this.1
    .exact this.2 x hx
  exact(key (dens A) 0).2 x hx) (dens A).length (Nat.le_refl _)).1
 rwa [List.take_of_length_le (Nat.le_refl _)]at this
theorem cden_dvd {A:List Rat}{i:Nat}(h:i<A.length):(cfq A i).den∣cden A:=by
 have:=(lcmL_facts (dens A) (cden A+(dens A).foldl (λm x=>m+(wd x).length) 0) dens_ne (λx hx=>by
  have key:∀(l:List Nat) (m:Nat),m<=l.foldl (λm x=>m+(wd x).length) m/\∀x∈l,(wd x).length<=l.foldl (λm x=>m+(wd x).length) m:=by
   intro l
   induction l with
   |nil=>exact λm=>⟨Nat.le_refl _,λx hx=>nomatch hx⟩
   |cons a l ih =>
    intro m;have:=ih (m+(wd a).length);refine⟨Nat.le_trans (by omega) this.1,λx hx=>?_⟩;rcases List.mem_cons.1 hx with rfl|hx
    .exact Nat.le_trans (by omega) this.1
    .exact this.2 x hx
  have:=(key (dens A) 0).2 x hx;omega) (dens A).length (Nat.le_refl _)).2.2 i (by rw[dens_len];exact h)
 rw[List.take_of_length_le (Nat.le_refl _),dens_get h]at this;exact this
theorem cden_len {n k:Nat}{A:List Rat}(h:QB n k A):(wd (cden A)).length<=n*k+1:=by
 have:=(lcmL_facts (dens A) k dens_ne h.dens (dens A).length (Nat.le_refl _)).2.1;rw[List.take_of_length_le (Nat.le_refl _),dens_len]at this;have h2:=Nat.mul_le_mul_right k h.1;show (wd (lcmL (dens A))).length<=_;omega
theorem cf_clr (A:List Rat)(i:Nat):(cf (clr A) i:Rat)=cfq A i*(cden A:Rat):=by
 by_cases h:i<A.length
 .rw[clr_get h];obtain⟨m,hm⟩:=cden_dvd h;have hd:((cfq A i).den:Int)≠0:=by have:=(cfq A i).den_nz;omega
  have e:(cden A:Int)/((cfq A i).den:Int)=(m:Int):=by
   rw[hm,Int.natCast_mul,Int.mul_ediv_cancel_left _ hd]
  rw[e,Rat.intCast_mul,Rat.intCast_natCast,hm,Rat.natCast_mul];have h1:cfq A i=((cfq A i).num:Rat)/((cfq A i).den:Rat):=by rw[<-Rat.mkRat_eq_div,Rat.mkRat_self]
  have h2:=natr_ne (cfq A i).den_nz;generalize (cfq A i).num=u at *;generalize (cfq A i).den=v at *;rw[h1]
  grind
 .rw[cf_ge (by rw[clr_len];omega),cfq_ge (by omega),Rat.intCast_zero,Rat.zero_mul]
theorem zl_clr {n k:Nat}{A:List Rat}(h:QB n k A)(i:Nat):zl (cf (clr A) i)<=k+n*k+1:=by
 by_cases hi:i<A.length
 .rw[clr_get hi];have h1:=zl_mul (cfq A i).num ((cden A:Int)/((cfq A i).den:Int));have h2:=zl_div (a:=(cden A:Int)) (b:=((cfq A i).den:Int)) (Int.natCast_dvd_natCast.mpr (cden_dvd hi));have h3:=cden_len h;have h4:=(qz_parts (cfq A i)).1;have h5:qz (cfq A i)<=k:=by rw[cfq_lt hi];exact h.2 _ (List.getElem_mem hi)
  rw[zl_nat]at h2;omega
 .rw[cf_ge (by rw[clr_len];omega),zl_zero];omega
theorem QB.clr {n k:Nat}{A:List Rat}(h:QB n k A):PB n (k+n*k+1) (clr A):=.of (by rw[clr_len];exact h.1) (zl_clr h)
def divl (L:List Int)(D:Int):List Rat:=L.map λc:Int=>(c:Rat)/(D:Rat)
theorem divl_len (L:List Int)(D:Int):(divl L D).length=L.length:=List.length_map _
theorem zero_divr (x:Rat):(0:Rat)/x=0:=by rw[Rat.div_def,Rat.zero_mul]
theorem cfq_divl (L:List Int)(D:Int)(k:Nat):cfq (divl L D) k=(cf L k:Rat)/(D:Rat):=by
 unfold divl cfq cf;rw[List.getD_eq_getElem?_getD,List.getD_eq_getElem?_getD,List.getElem?_map];cases L[k]? with
 |none=>simp only[Option.map_none,Option.getD_none];rw[Rat.intCast_zero,zero_divr]
 |some x=>rfl
theorem qz_divn {c:Int}{d M:Nat}(hd:d≠0)(hc:zl c<=M)(hw:(wd d).length<=M):qz ((c:Rat)/(((d:Nat):Int):Rat))<=M:=by
 rw[Rat.intCast_natCast,<-Rat.mkRat_eq_div];exact qz_mk hd hc hw
theorem QB.divl {n M:Nat}{L:List Int}{d:Nat}(h:PB n M L)(hd:d≠0)(hw:(wd d).length<=M):QB n M (divl L (d:Int)):=.of (by rw[divl_len];exact h.1) λi=>by
 rw[cfq_divl];exact qz_divn hd (h.cf i) hw
theorem cv_cast (g:Nat->Int):∀(p:List Int) (k:Nat),((cv p g k:Int):Rat)=cvq (qp p) (λj=>(g j:Rat)) k
 |[],k=>by simp only[cv,qp,List.map_nil,cvq];rfl
 |x::xs,0=>by
  have e:qp (x::xs)=(x:Rat)::qp xs:=rfl;rw[e];simp only[cv,cvq];rw[Int.add_zero,Rat.intCast_mul,Rat.add_zero]
 |x::xs,k+1=>by
  have e:qp (x::xs)=(x:Rat)::qp xs:=rfl;have ih:=cv_cast g xs k;rw[e];simp only[cv,cvq];rw[Rat.intCast_add,Rat.intCast_mul,ih]
theorem cfq_qp_pmul (x y:List Int)(k:Nat):cfq (qp (pmul x y)) k=cfq (mulq (qp x) (qp y)) k:=by
 rw[cfq_qp,cf_pmul,cfq_mulq,cv_cast];exact cvq_congr _ _ λj=>(cfq_qp y j).symm
theorem pq_clr (A:List Rat):pq (qp (clr A))=PQ.C (cden A:Rat)*pq A:=PQ.ext λk=>by
 rw[PQ.C_mul_c,pq_c,pq_c,cfq_qp,cf_clr,Rat.mul_comm]
theorem cfq_clear_mul (A B:List Rat)(k:Nat):cfq (divl (trimz (pmul (clr A) (clr B))) ((cden A*cden B:Nat):Int)) k=cfq (mulq A B) k:=by
 have h1:=natr_ne (cden_ne A);have h2:=natr_ne (cden_ne B);rw[cfq_divl,cf_trimz,<-cfq_qp,cfq_qp_pmul];have e:pq (mulq (qp (clr A)) (qp (clr B)))=PQ.C ((cden A:Rat)*(cden B:Rat))*pq (mulq A B):=by
  rw[pq_mulq,pq_clr,pq_clr,PQ.C_mul,pq_mulq]
  ac_rfl
 have e2:=congrArg (λf=>PQ.c f k) e;simp only[PQ.C_mul_c,pq_c]at e2;rw[e2,Rat.intCast_natCast,Rat.natCast_mul]
 grind
theorem mulq_def (A B:List Rat):mulq A B=(List.range (A.length+B.length)).map (cvq A (cfq B)):=rfl
theorem QB.mulq {n k M:Nat}{A B:List Rat}(hA:QB n k A)(hB:QB n k B)(hn:n<W)(hM:n*k+k+1<=M)(hk:1<=k):QB (2*n) (2*M+1) (mulq A B):=by
 have pA:=hA.clr.mono (n':=n) (k':=M) (Nat.le_refl _) (by omega);have pB:=hB.clr.mono (n':=n) (k':=M) (Nat.le_refl _) (by omega);have pm:=(pA.pmul pB hn).trimz;have c1:=cden_len hA;have c2:=cden_len hB;have hw:(wd (cden A*cden B)).length<=M+M:=wd_len2 (by omega) (by omega);have q:=QB.divl (pm.mono (n':=n+n) (k':=M+M+1) (Nat.le_refl _) (by omega)) (Nat.mul_ne_zero (cden_ne A) (cden_ne B)) (by omega);refine .of (by simp only[mulq_def,List.length_map,List.length_range];have:=hA.1;have:=hB.1;omega) λi=>?_;rw[<-cfq_clear_mul];have:=q.cz (by omega) i;omega

theorem zsame_ok (a b:List RI)(ha:RP (2^40) (2^43) a)(hb:RP (2^40) (2^43) b):AC Try.prog 17 [cw a,cw b] none [cb (decide (a=b))]:=by
 refine AC.by_walk (rs:=[.tmp 4]) ords Try.func17 (by rfl) (by rfl) (by rfl) (by rfl) (by rfl) ?_;have hla:=ha.1;have hlb:=hb.1;simp (disch:=omega) only[wt,seval,reduceCtorEq,Nat.reduceEqDiff,cpoly_len];refine if_by (λhz=>?_) (λhz=>?_)
 .simp (disch:=omega) only[wt,seval,reduceCtorEq,Nat.reduceEqDiff,cpoly_len];exact(decide_eq_false (λe=>hz (by rw[e]))).symm
 have hl:a.length=b.length:=by omega
 simp (disch:=omega) only[wt,seval,reduceCtorEq,Nat.reduceEqDiff,cpoly_len];refine aloop_by (λf H=>∃i:Nat,i<=a.length/\a.take i=b.take i/\f 0=.iv (.sl (raws a))/\f 1=.iv (.sl (raws b))/\f 5=.iv (.int .i64 i)) (λf H=>(a.length-intAt f 5).toNat) ?_ ?_
 .exact⟨0,by omega,rfl,by simp (disch:=omega) only[wt,seval,reduceCtorEq,Nat.reduceEqDiff,cpoly_len],by simp (disch:=omega) only[wt,seval,reduceCtorEq,Nat.reduceEqDiff,cpoly_len],by simp (disch:=omega) only[wt,seval,reduceCtorEq,Nat.reduceEqDiff,cpoly_len]⟩
 rintro f H ⟨i,hi,he,h0,h1,h5⟩;rw[intAt_of h5];simp (disch:=omega) only[wt,seval,reduceCtorEq,Nat.reduceEqDiff,cpoly_len,h0,h1,h5];refine if_by (λhlt=>?_) (λhlt=>?_)
 .simp (disch:=omega) only[wt,seval,reduceCtorEq,Nat.reduceEqDiff,cpoly_len,h0,h1,h5];refine .inl ⟨tmps_by (by kernel_rfl),?_⟩;refine call_by ((rSameInt_ok (a.getD i (false,[])) (b.getD i (false,[])) (ha.get i).1 (hb.get i).1)) (by first|rfl|(simp only[tocvs,tocv,toboxes,tobox,updH_at,Nat.reduceEqDiff,↓reduceIte,h0,h1,h5];rfl)) (by simp) ?_;simp (disch:=omega) only[wt,seval,reduceCtorEq,Nat.reduceEqDiff,cpoly_len,h0,h1,h5]
  first|exact log_by (by kernel_rfl)|refine⟨log_by (by kernel_rfl),?_⟩
  by_cases hne:a.getD i (false,[])=b.getD i (false,[])
  .simp (disch:=omega) only[wt,seval,reduceCtorEq,Nat.reduceEqDiff,cpoly_len,h0,h1,h5,hne,Bool.not_true];refine⟨⟨i+1,by omega,?_,by omega⟩,by omega⟩;have hia:i<a.length:=by omega
   have hib:i<b.length:=by omega
   rw[List.take_add_one,List.take_add_one,he,List.getElem?_eq_getElem hia,List.getElem?_eq_getElem hib];have e1:a.getD i (false,[])=a[i]:=by simp[List.getD,hia]
   have e2:b.getD i (false,[])=b[i]:=by simp[List.getD,hib]
   rw[<-e1,<-e2,hne]
  .simp (disch:=omega) only[wt,seval,reduceCtorEq,Nat.reduceEqDiff,cpoly_len,h0,h1,h5,hne,Bool.not_false];exact(decide_eq_false (λe=>hne (by rw[e]))).symm
 .simp (disch:=omega) only[wt,seval,reduceCtorEq,Nat.reduceEqDiff,cpoly_len,h0,h1,h5];rw[List.take_of_length_le (by omega),List.take_of_length_le (by omega)]at he;exact(decide_eq_true he).symm
theorem few13_ok (p:List RI)(hl:p.length<=2^62):AC Try.prog 6 [cw p] none [cw (p.take 40)]:=by
 refine AC.by_walk (rs:=[.tmp 2]) ords Try.func6 (by rfl) (by rfl) (by rfl) (by rfl) (by rfl) ?_;simp (disch:=omega) only[wt,seval,reduceCtorEq,Nat.reduceEqDiff,cpoly_len];have e:p.take (min (p.length:Int) 40).toNat=p.take 40:=by
  rcases Nat.le_total p.length 40 with h|h
  .rw[List.take_of_length_le (i:=40) h,List.take_of_length_le (by omega)]
  .congr 1;omega
 rw[e]
theorem pnone_ok (p:List RI)(h:RP (2^40) (2^40) p):AC Try.prog 32 [cw p] none [cb (decide (tz (pv p)=0))]:=by
 refine AC.by_walk (rs:=[.tmp 2]) ords Try.func32 (by rfl) (by rfl) (by rfl) (by rfl) (by rfl) ?_;simp (disch:=omega) only[wt,seval,reduceCtorEq,Nat.reduceEqDiff,cpoly_len];refine call_by ((pdeg_ok p h)) (by rfl) (by simp) ?_;simp (disch:=omega) only[wt,seval,reduceCtorEq,Nat.reduceEqDiff,cpoly_len];rw[decide_eq_decide];omega
theorem prsmono_ok (c:RI)(n:Nat)(hn:n<=2^29)(hc:Sz (2^35) c):AC Try.prog 51 [cr c,ci n] none [cp (List.replicate n 0++[iv c])]:=by
 refine AC.by_walk (rs:=[.tmp 4]) ords Try.func51 (by rfl) (by rfl) (by rfl) (by rfl) (by rfl) ?_;simp (disch:=omega) only[wt,seval,reduceCtorEq,Nat.reduceEqDiff,cpoly_len];refine .inl ⟨tmps_by (by kernel_rfl),?_⟩;have m:=pnorm_ok (List.replicate n (false,[])++[c]) ⟨by simp;omega,λx hx=>by
  rcases List.mem_append.mp hx with h|h
  .rw[List.eq_of_mem_replicate h];exact⟨by simp,Lim.nil⟩
  .rw[List.mem_singleton.mp h];exact hc.mono (by omega)⟩
 have e:pv (List.replicate n (false,[])++[c])=List.replicate n 0++[iv c]:=by
  simp only[pv,List.map_append,List.map_replicate,List.map_cons,List.map_nil,iv_zero]
 rw[e]at m;refine call_by (m) (by rfl) (by simp) ?_;simp (disch:=omega) only[wt,seval,reduceCtorEq,Nat.reduceEqDiff,cpoly_len]
 first|exact log_by (by kernel_rfl)|refine⟨log_by (by kernel_rfl),?_⟩
theorem poly13_ok (l:List Int)(hl:l.length<=2^30)(h:∀z∈l,-9223372036854775808<z/\z<9223372036854775808):AC Try.prog 15 [cis l] none [cw (l.map canon)]:=by
 refine AC.by_walk (rs:=[.tmp 2]) ords Try.func15 (by rfl) (by rfl) (by rfl) (by rfl) (by rfl) ?_;simp (disch:=omega) only[wt,seval,reduceCtorEq,Nat.reduceEqDiff,cpoly_len];refine aloop_nil 3 3 32 2 (by simp (disch:=omega) only[wt,seval,reduceCtorEq,Nat.reduceEqDiff,cpoly_len]) (λf H=>∃(k st:Nat),k<=l.length/\f 0=.iv (.sl (ilims l))/\f 3=.hs 3 st/\f 4=.iv (.int .i64 k)/\H 3=.blk false st 32 2 (raws ((l.take k).map canon))) (λf H=>(l.length-intAt f 4).toNat) ?_ ?_
 .refine⟨0,1,by omega,?_⟩;simp (disch:=omega) only[wt,seval,reduceCtorEq,Nat.reduceEqDiff,cpoly_len,ghostF,ghostH,List.take_zero]
 rintro f H ⟨k,st,hk,h0,h3,h4,hH⟩;rw[intAt_of h4];simp (disch:=omega) only[wt,seval,reduceCtorEq,Nat.reduceEqDiff,cpoly_len,h0,h3,h4,hH];refine if_by (λhlt=>?_) (λhlt=>?_)
 .have hq:((l.take k).map canon).length=k:=by rw[List.length_map,List.length_take];omega
  have hkl:k<l.length:=by omega
  have hg:l.getD k 0=l[k]:=by simp[List.getD,hkl]
  have hb:=h l[k] (List.getElem_mem hkl);simp (disch:=omega) only[wt,seval,reduceCtorEq,Nat.reduceEqDiff,cpoly_len,h0,h3,h4,hH,hq];rw[hg];refine call_by ((rZ_ok l[k] hb.1 hb.2)) (by first|rfl|(simp only[tocvs,tocv,toboxes,tobox,updH_at,Nat.reduceEqDiff,↓reduceIte,h0,h3,h4,hH,hq];rfl)) (by simp) ?_;simp (disch:=omega) only[wt,seval,reduceCtorEq,Nat.reduceEqDiff,cpoly_len,h0,h3,h4,hH,hq];refine⟨⟨k+1,st+1,by omega,rfl,by omega,?_⟩,by omega⟩;rw[List.take_add_one];simp[hkl]
 .simp (disch:=omega) only[wt,seval,reduceCtorEq,Nat.reduceEqDiff,cpoly_len,h0,h3,h4,hH];have hk:k=l.length:=by omega
  rw[hk,List.take_length]
def rowsAt (f:Fr)(t:Nat):Nat:=match f t with
 |.iv (.sl rows)=>rows.length
 |_=>0
theorem rowsAt_of {f:Fr}{t:Nat}{rows:List (List IV)}(h:f t=.iv (.sl rows)):rowsAt f t=rows.length:=by
 unfold rowsAt;rw[h]
theorem zform_ok (p:List RI)(h:RP (2^40) (2^40) p):AC Try.prog 5 [cw p] none [cp (pv p)]:=by
 refine AC.by_walk (rs:=[.tmp 2]) ords Try.func5 (by rfl) (by rfl) (by rfl) (by rfl) (by rfl) ?_;have hl:=h.1;simp (disch:=omega) only[wt,seval,reduceCtorEq,Nat.reduceEqDiff,cpoly_len];refine aloop_nil 3 3 32 2 (by simp (disch:=omega) only[wt,seval,reduceCtorEq,Nat.reduceEqDiff,cpoly_len]) (λf H=>∃(i st:Nat),i<=p.length/\f 4=.iv (.int .i64 i)/\f 3=.hs 3 st/\f 0=.iv (.sl (raws p))/\H 3=.blk false st 32 2 (raws (((pv p).take i).map canon))) (λf H=>(p.length-intAt f 4).toNat) ?_ ?_
 .refine⟨0,1,by omega,?_⟩;simp (disch:=omega) only[wt,seval,reduceCtorEq,Nat.reduceEqDiff,cpoly_len,ghostF,ghostH,List.take_zero]
 rintro f H ⟨i,st,hi,hF⟩;rw[intAt_of hF.1];simp (disch:=omega) only[wt,seval,reduceCtorEq,Nat.reduceEqDiff,cpoly_len,hF];refine if_by (λhlt=>?_) (λhlt=>?_)
 .have hq:(((pv p).take i).map canon).length=i:=by rw[List.length_map,List.length_take,pv_len];omega
  have e:((pv p).take (i+1)).map canon=((pv p).take i).map canon++[canon (iv (p.getD i (false,[])))]:=by
   rw[List.take_add_one,List.map_append,<-cf_pv];congr 1;simp[cf,List.getD,show i<(pv p).length by rw[pv_len];omega]
  have m:=rI_ok (p.getD i (false,[])).1 (p.getD i (false,[])).2 (h.get _).2 (h.get _).1;simp (disch:=omega) only[wt,seval,reduceCtorEq,Nat.reduceEqDiff,cpoly_len,hF,hq];refine .inl ⟨tmps_by (by kernel_rfl),?_⟩;refine call_by (m) (by first|rfl|(simp only[tocvs,tocv,toboxes,tobox,updH_at,Nat.reduceEqDiff,↓reduceIte,hF,hq];rfl)) (by simp) ?_;simp (disch:=omega) only[wt,seval,reduceCtorEq,Nat.reduceEqDiff,cpoly_len,hF,hq]
  first|exact log_by (by kernel_rfl)|refine⟨log_by (by kernel_rfl),?_⟩
  rw[<-iv_sg,<-cf_pv];refine⟨⟨i+1,st+1,by omega,by omega,rfl,?_⟩,by omega⟩;rw[List.take_add_one];simp[cf,List.getD,show i<(pv p).length by rw[pv_len];omega]
 .obtain rfl:i=p.length:=by omega
  rw[List.take_of_length_le (by rw[pv_len];exact Nat.le_refl _)]at hF;simp (disch:=omega) only[wt,seval,reduceCtorEq,Nat.reduceEqDiff,cpoly_len,hF];refine aloop_w (.iv 3 3 st false 32 2 (raws ((pv p).map canon)) (by simp (disch:=omega) only[wt,seval,reduceCtorEq,Nat.reduceEqDiff,cpoly_len,hF]) (by simp (disch:=omega) only[wt,seval,reduceCtorEq,Nat.reduceEqDiff,cpoly_len,hF]) (.refl _ _)) (λf H=>∃k:Nat,k<=p.length/\tz ((pv p).take k)=tz (pv p)/\f 0=.iv (.sl (raws p))/\f 3=.iv (.sl (raws (((pv p).take k).map canon)))) (λf H=>rowsAt f 3) ?_ ?_
  .refine⟨p.length,Nat.le_refl _,by rw[<-pv_len p,List.take_length],?_⟩;rw[show (pv p).take p.length=pv p from List.take_of_length_le (by rw[pv_len];exact Nat.le_refl _)];simp (disch:=omega) only[wt,seval,reduceCtorEq,Nat.reduceEqDiff,cpoly_len,hF]
  clear hF;rintro f H ⟨k,hk,ht,hF⟩;have hq:(((pv p).take k).map canon).length=k:=by rw[List.length_map,List.length_take,pv_len];omega
  rw[rowsAt_of hF.2,raws_len,hq];by_cases hc:0<(k:Int)
  .have ek:((k:Int)-1).toNat=k-1:=by omega
   have hg:(((pv p).take k).map canon).getD (k-1) (false,[])=canon (cf (pv p) (k-1)):=by
    simp[cf,List.getD,List.getElem?_take,show k-1<k by omega,show k-1<(pv p).length by rw[pv_len];omega]
   have hs:=rSign_ok (canon (cf (pv p) (k-1))) ((sz_canon _).mono (h.pv.cf _));rw[iv_canon]at hs;simp (disch:=omega) only[wt,seval,reduceCtorEq,Nat.reduceEqDiff,cpoly_len,hF,hq,hc,ek,hg];refine call_by (hs) (by first|rfl|(simp only[tocvs,tocv,toboxes,tobox,updH_at,Nat.reduceEqDiff,↓reduceIte,hF,hq,hc,ek,hg];rfl)) (by simp) ?_;simp (disch:=omega) only[wt,seval,reduceCtorEq,Nat.reduceEqDiff,cpoly_len,hF,hq,hc,ek,hg];refine if_by (λhz=>?_) (λhz=>?_)
   .have e2:(((pv p).take k).map canon).take (k-1)=((pv p).take (k-1)).map canon:=by
     rw[<-List.map_take,List.take_take,Nat.min_eq_left (by omega)]
    have hq2:(((pv p).take (k-1)).map canon).length=k-1:=by rw[List.length_map,List.length_take,pv_len];omega
    simp (disch:=omega) only[wt,seval,reduceCtorEq,Nat.reduceEqDiff,cpoly_len,hF,hq,hc,ek,hg];refine⟨⟨k-1,by omega,?_,by rw[e2]⟩,?_⟩
    .rw[<-tz_take_zero (k:=k-1) (by rw[pv_len];omega) (Int.sign_eq_zero_iff_zero.mp hz),show k-1+1=k by omega,ht]
    .rw[rowsAt_of rfl,raws_len,e2,hq2];omega
   .have hk:k=tz (pv p):=by
     have:=tz_full (q:=pv p) (k:=k-1) (by rw[pv_len];omega) (λe=>hz (Int.sign_eq_zero_iff_zero.mpr e));rw[show k-1+1=k by omega,ht]at this;exact this.symm
    simp (disch:=omega) only[wt,seval,reduceCtorEq,Nat.reduceEqDiff,cpoly_len,hF,hq,hc,ek,hg];rw[hk];rfl
  .have hk:k=tz (pv p):=by
    obtain rfl:k=0:=by omega
    rw[<-ht];rfl
   simp (disch:=omega) only[wt,seval,reduceCtorEq,Nat.reduceEqDiff,cpoly_len,hF,hq,hc];rw[hk];rfl

end Go.Proofs.Ytljmoppgihphlaa
