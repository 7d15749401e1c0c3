/-
 Contracts of the functions that the law reaches.
-/
import Derived.Test.YtnjaeokkfbihlaaGreatL51M
import Derived.Test.YtnjaeokkfbihlaaGreatAbsV
import Derived.Test.YtnjaeokkfbihlaaGreatL1M
set_option maxHeartbeats 2000000
namespace Go.Proofs.YtnjaeokkfbihlaaGreat
open Go Go.Proofs Go.AL Go.RowKit
set_option linter.unusedSimpArgs false
set_option linter.unusedVariables false
theorem grow_res (w:World)(D:Nat->Prop)(n k:Nat)(hk:k<2^63)(hnk:n<=k)(z:Array Value)(hz:z.size=k)(hD:∀b,D b->b<w.heap.size) :
  Below w.heap.size w (w.alloc (Obj.cells z 92)).drew/\∃us,Value.slice (some { block:=w.heap.size,off:=0 }) 0 k=packV us/\ResOk w (w.alloc (Obj.cells z 92)).drew D (some (0,92,1,[])) [.iv (.sl [])] us:=by
 refine⟨?_,[_],rfl,rfl,?_,?_⟩
 .exact((Below.refl _ _).alloc (Nat.le_refl _) _).drew
 .intro j c v hj hc hv;cases j with
  |zero=>exact(hj 0 92 1 [] rfl rfl).elim
  |succ j=>simp at hc
 .intro i e sz rows h;injection h with h;injection h with h1 h;injection h with h2 h;injection h with h3 h4;subst h1 h2 h3 h4;refine⟨_,rfl,by decide,by simp,.inr ⟨w.heap.size,k,z,rfl,.inl (Nat.le_refl _),?_,by simp,?_,by omega,by simp[Reps]⟩⟩
  .show (w.alloc _).heap[w.heap.size]?=some _;simp only[World.alloc,Array.getElem?_push_size]
  .simp only[maxLen];omega
theorem grow_ok (n:Nat)(hn:n<=8796093022208):AC Tryz.prog 148 [.val (.slice none 0 0),.iv (.int .i64 n)] (some (0,92,1,[])) [.iv (.sl [])]:=by
 intro w D vs hD hvs
 match vs,hvs with
 |[v1,v2],hvs =>
 obtain⟨h1,h2,_⟩:=hvs;simp only[CVRep]at h1 h2;subst h1;obtain rfl:v2=.int .i64 n:=by cases h2;rfl
 refine .inl ⟨_,Tryz.func148,by rfl,by rfl,?_⟩;have hb:Tryz.t92.bytes=8:=by kernel_rfl
 have h4:¬281474976710656<(n:Int)*(8:Nat):=by omega
 have h6:¬281474976710656<n*8:=by omega
 have h8:¬(9223372036854775807<(n:Int)):=by omega
 have h1:¬(n:Int)<0:=by omega
 have h3:(0:Int)-0=0:=rfl;rcases Nat.eq_zero_or_pos n with h0|h0
 .subst h0
  go_enter Tryz.func148,Tryz.ntmps148
  go_wp2
  refine bodyPost_ret (results_tmp rfl _ _ _) rfl ?_;refine⟨_,rfl,Below.refl _ _,[_],rfl,rfl,?_,?_⟩
  .intro j c v hj hc hv;cases j with
   |zero=>exact(hj 0 _ 1 [] rfl rfl).elim
   |succ j=>simp at hc
  .intro i e sz rows h;injection h with h;injection h with h1 h;injection h with h2 h;injection h with h3 h4;subst h1 h2 h3 h4;exact⟨_,rfl,Nat.zero_lt_one,by simp,.inl ⟨rfl,rfl⟩⟩
 .have h2:(0:Int)<n:=by omega
  have h5:Builtin.nextslicecap n 0=n:=nextslicecap_zero h0;have h7:n≠0:=by omega
  go_enter Tryz.func148,Tryz.ntmps148
  go_wp2
  refine bodyPost_ret (results_tmp rfl _ _ _) rfl ?_;refine⟨_,rfl,grow_res w D n _ ?_ ?_ _ ?_ hD⟩
  .have:=grownCap_le_maxLen w n 0 92 (by simp only[maxLen];omega);simp only[maxLen,grownCap]at this;omega
  .exact grownCap_ge w n 0 92
  .have:=grownCap_ge w n 0 92;simp only[grownCap]at this;simp only[Array.size_append,size_zeroCells,List.size_toArray,List.length_cons,List.length_nil,Nat.zero_add,Nat.mul_one,Nat.one_mul];omega
def tot (l:List (List Nat)):Nat:=(l.map List.length).sum
theorem snoc_take {l:List (List Nat)}{i:Nat}(h:i<l.length):l.take (i+1)=l.take i++[l.getD i []]:=by
 rw[List.take_add_one];congr 1;simp[List.getD,h]
theorem tot_take {l:List (List Nat)}{i:Nat}(h:i<l.length):tot (l.take (i+1))=tot (l.take i)+(l.getD i []).length:=by
 rw[snoc_take h];simp only[tot,List.map_append,List.map_cons,List.map_nil,List.sum_append,List.sum_cons,List.sum_nil,Nat.add_zero]
theorem flat_take {l:List (List Nat)}{i:Nat}(h:i<l.length):(l.take (i+1)).flatten=(l.take i).flatten++l.getD i []:=by
 rw[snoc_take h];simp only[List.flatten_append,List.flatten_cons,List.flatten_nil,List.append_nil]
theorem tot_flat (l:List (List Nat)):l.flatten.length=tot l:=by simp[tot,List.length_flatten]
theorem tot_mono (l:List (List Nat))(i:Nat):tot (l.take i)<=tot l:=by
 have h:tot l=tot (l.take i)+tot (l.drop i):=by
  have:=congrArg tot (List.take_append_drop i l);rw[<-this];simp only[tot,List.map_append,List.sum_append]
 omega
theorem concat_ok (l:List (List Nat))(hl:l.length<=1048576)(ht:tot l<=4398046511104):AC Tryz.prog 139 [.iv (.sl (natsr l))] (some (0,92,1,lims l.flatten)) [cl l.flatten]:=by
 refine AC.by_walk (rs:=[.tmp 2]) ords Tryz.func139 (by rfl) (by rfl) (by rfl) (by rfl) (by rfl) ?_;simp (disch:=omega) only[wt,seval,reduceCtorEq,Nat.reduceEqDiff,natsr_len,natsr_at];refine aloop_by (λf H=>∃(i:Nat),i<=l.length/\f 11=.iv (.int .i64 i)/\f 3=.iv (.int .i64 (tot (l.take i)))/\f 0=.iv (.sl (natsr l))/\f 9=.iv (.sl (natsr l))/\f 10=.iv (.int .i64 l.length)) (λf H=>(l.length-intAt f 11).toNat) ?_ ?_
 .refine⟨0,by omega,?_⟩;simp (disch:=omega) only[wt,seval,reduceCtorEq,Nat.reduceEqDiff,natsr_len,natsr_at,List.take_zero,tot,List.map_nil,List.sum_nil]
 rintro f H ⟨i,hi,hF⟩;rw[intAt_of hF.1];simp (disch:=omega) only[wt,seval,reduceCtorEq,Nat.reduceEqDiff,natsr_len,natsr_at,hF];refine if_by (λhlt=>?_) (λhlt=>?_)
 .have h1:=tot_take (l:=l) (i:=i) (by omega);have h2:=tot_mono l (i+1);have h3:¬(((tot (l.take i):Nat):Int)+(((l.getD i []).length:Nat):Int)<0):=by omega
  simp (disch:=omega) only[wt,seval,reduceCtorEq,Nat.reduceEqDiff,natsr_len,natsr_at,hF,h3];exact⟨⟨i+1,by omega,by omega,by omega⟩,by omega⟩
 .obtain rfl:i=l.length:=by omega
  rw[List.take_length]at hF;simp (disch:=omega) only[wt,seval,reduceCtorEq,Nat.reduceEqDiff,natsr_len,natsr_at,hF];refine call_nil (grow_ok (tot l) (by omega)) (by first|rfl|(simp only[tocvsN,tocvN,tocvs,tocv,hF];rfl)) (by simp) ?_;simp (disch:=omega) only[wt,seval,reduceCtorEq,Nat.reduceEqDiff,natsr_len,natsr_at,hF];have hrl:=natsr_len l;refine aloop_by (λf H=>∃(i st:Nat),i<=l.length/\f 27=.iv (.int .i64 i)/\f 6=.hs 24 st/\f 25=.iv (.sl (natsr l))/\f 26=.iv (.int .i64 l.length)/\H 24=.blk false st 92 1 (lims (l.take i).flatten)) (λf H=>(l.length-intAt f 27).toNat) ?_ ?_
  .refine⟨0,(H 24).stamp+1,by omega,?_⟩;simp (disch:=omega) only[wt,seval,reduceCtorEq,Nat.reduceEqDiff,natsr_len,natsr_at,hF,List.take_zero,List.flatten_nil,lims_nil]
  rintro f H ⟨i,st,hi,hF⟩;rw[intAt_of hF.1];simp (disch:=omega) only[wt,seval,reduceCtorEq,Nat.reduceEqDiff,natsr_len,natsr_at,hF];refine if_by (λhlt=>?_) (λhlt=>?_)
  .have h1:=flat_take (l:=l) (i:=i) (by omega);have h2:=tot_flat (l.take i);have h3:=tot_take (l:=l) (i:=i) (by omega);have h4:=tot_mono l (i+1);have h5:((l.take i).flatten.length+(l.getD i []).length)*8<=140737488355328:=by omega
   simp (disch:=omega) only[wt,seval,reduceCtorEq,Nat.reduceEqDiff,natsr_len,natsr_at,hF];exact⟨⟨i+1,st+1,by omega,by omega,rfl,by rw[h1]⟩,by omega⟩
  .obtain rfl:i=l.length:=by omega
   rw[List.take_length]at hF;simp (disch:=omega) only[wt,seval,reduceCtorEq,Nat.reduceEqDiff,natsr_len,natsr_at,hF]
end Go.Proofs.YtnjaeokkfbihlaaGreat

namespace Go.Proofs.YtnjaeokkfbihlaaGreat
open Go Go.Proofs Go.AL
set_option linter.unusedSimpArgs false
set_option linter.unusedVariables false
theorem knuth_est {b D D3 V V2 X g:Nat}(hX:0<X)(h1:D3*X<=D)(h2:D<(D3+1)*X)(h3:V2*X<=V)(h4:V<(V2+1)*X)(h5:D<V*b)(h6:b<=V2)(hb:0<b)
  (hg:g=min (D3/V2) (b-1)):D/V<=g/\g<=D/V+1:=by
 have hV2:0<V2:=by omega
 have hV:0<V:=Nat.lt_of_lt_of_le (Nat.mul_pos hV2 hX) h3;constructor
 .rw[hg,Nat.le_min];have e1:=Nat.div_mul_le_self D V;constructor
  .rw[Nat.le_div_iff_mul_le hV2];have e2:D/V*V2*X<(D3+1)*X:=by
    rw[Nat.mul_assoc];exact Nat.lt_of_le_of_lt (Nat.le_trans (Nat.mul_le_mul_left _ h3) e1) h2
   have:=Nat.lt_of_mul_lt_mul_right e2;omega
  .have:D/V<b:=by rw[Nat.div_lt_iff_lt_mul hV,Nat.mul_comm];exact h5
   omega
 .have e2:D<(D/V+1)*V:=by rw[Nat.mul_comm];exact Nat.lt_mul_div_succ D hV
  generalize D/V=q at *;rcases Nat.lt_or_ge (q+1) g with h|h
  .exfalso
   have hgb:g<=b-1:=by rw[hg];exact Nat.min_le_right _ _
   have hgd:g<=D3/V2:=by rw[hg];exact Nat.min_le_left _ _
   have e1:g*V2<=D3:=(Nat.le_div_iff_mul_le hV2).mp hgd;have e3:(q+1)*V<=(g-1)*V:=Nat.mul_le_mul_right _ (by omega);have e4:(g-1)*V<(g-1)*((V2+1)*X):=Nat.mul_lt_mul_of_pos_left h4 (by omega);have e5:g*V2*X<=D:=Nat.le_trans (Nat.mul_le_mul_right _ e1) h1;have e6:g*V2*X<(g-1)*(V2+1)*X:=by rw[Nat.mul_assoc (g-1)];omega
   have e7:=Nat.lt_of_mul_lt_mul_right e6;obtain⟨k,rfl⟩:∃k,g=k+1:=⟨g-1,by omega⟩;rw[Nat.add_sub_cancel,Nat.succ_mul,Nat.mul_succ]at e7;omega
  .exact h
theorem knuth_sub {b N D V lo t g c r:Nat}(hN:0<N)(hlo:lo<N)(hD:D=lo+N*t)(hV:0<V)(hVN:V<=N)(h1:D/V<=g)(h2:g<=D/V+1)
  (hr:r+V*g=lo+N*c) (hrN:r<N) :
  (c<=t->g=D/V/\r+N*(t-c)=D%V)/\(t<c->g=D/V+1/\c<=t+1+0*b/\r+V=D%V+N):=by
 have hd:=Nat.div_add_mod D V;have hm:=Nat.mod_lt D hV;generalize D/V=q at *;generalize D%V=m at *;constructor
 .intro hc;obtain⟨k,rfl⟩:∃k,t=c+k:=⟨t-c,by omega⟩;rw[Nat.mul_add]at hD;rw[Nat.add_sub_cancel_left];have:g=q:=by
   rcases Nat.lt_or_ge q g with h|h
   .obtain rfl:g=q+1:=by omega
    rw[Nat.mul_succ]at hr;omega
   .omega
  subst this;exact⟨rfl,by omega⟩
 .intro hc;obtain⟨k,rfl⟩:∃k,c=t+1+k:=⟨c-t-1,by omega⟩;rw[Nat.mul_add,Nat.mul_add,Nat.mul_one]at hr;have:g=q+1:=by
   rcases Nat.lt_or_ge q g with h|h
   .omega
   .obtain rfl:g=q:=by omega
    omega
  subst this;rw[Nat.mul_succ]at hr;have hk:k=0:=by
   rcases Nat.eq_zero_or_pos k with h|h
   .exact h
   .have:=Nat.mul_le_mul_left N h;omega
  subst hk;rw[Nat.mul_zero]at hr;exact⟨rfl,by omega,by omega⟩
theorem nv_dropk (l:List Nat)(k:Nat)(h:k<l.length):nv (l.drop k)=l.getD k 0+W*nv (l.drop (k+1)):=by
 rw[List.drop_eq_getElem_cons h];simp only[nv,vl,List.getD,List.getElem?_eq_getElem h,Option.getD_some]
theorem subC_eq {x y N:Nat}(hN:0<N)(hx:x<N):(x+N*subC x y N-y)+y=x+N*subC x y N/\x+N*subC x y N-y<N:=by
 unfold subC;have h1:=Nat.div_add_mod (y-x+N-1) N;have h2:=Nat.mod_lt (y-x+N-1) hN;generalize (y-x+N-1)/N=q at *;rcases Nat.eq_zero_or_pos q with h|h
 .subst h;rw[Nat.mul_zero]at *;omega
 .have:=Nat.mul_le_mul_left N h;omega
theorem knuth_digit {u v:List Nat}{i n:Nat}(hu:Lim u)(hv:Lim v)(hn:2<=n)(hin:i+n<u.length)(hvl:v.length=n)(hv1:0<v.getD (n-1) 0)(hR:nv (u.drop (i+1))<nv v) :
  u.getD (i+n) 0<=v.getD (n-1) 0/\nv (u.drop i)=nv ((u.drop i).take n)+W^n*u.getD (i+n) 0/\nv (u.drop (i+n+1))=0 /\
  nv (u.drop i)/nv v<=gd3 (u.getD (i+n) 0) (u.getD (i+n-1) 0) (u.getD (i+n-2) 0) (v.getD (n-1) 0) (v.getD (n-2) 0) /\
  gd3 (u.getD (i+n) 0) (u.getD (i+n-1) 0) (u.getD (i+n-2) 0) (v.getD (n-1) 0) (v.getD (n-2) 0)<=nv (u.drop i)/nv v+1:=by
 obtain⟨k,rfl⟩:∃k,n=k+2:=⟨n-2,by omega⟩;rw[show k+2-1=k+1 by omega,show k+2-2=k by omega,show i+(k+2)-1=i+k+1 by omega,show i+(k+2)-2=i+k by omega,show i+(k+2)=i+k+2 by omega]at *;have hVlt:=nv_lt hv;rw[hvl]at hVlt;have d1:=nv_dropk u i (by omega);have hDR:nv (u.drop i)<nv v*W:=by
  have:=hu.get i;have h2:=Nat.mul_le_mul_right W hR;rw[Nat.succ_mul]at h2;rw[Nat.mul_comm W]at d1;omega
 have s1:=vl_split W (u.drop i) (k:=k) (by simp;omega);rw[List.drop_drop]at s1;have d2:=nv_dropk u (i+k) (by omega);have d3:=nv_dropk u (i+k+1) (by omega);have d4:=nv_dropk u (i+k+1+1) (by omega);have s2:=vl_split W v (k:=k) (by omega);have v2:=nv_dropk v k (by omega);have v3:=nv_dropk v (k+1) (by omega);have v4:nv (v.drop (k+1+1))=0:=by rw[List.drop_of_length_le (by omega)];rfl
 have s3:=vl_split W (u.drop i) (k:=k+2) (by simp;omega);rw[List.drop_drop]at s3;have s4:=vl_split W (u.drop i) (k:=k+2+1) (by simp;omega);rw[List.drop_drop]at s4;have s5:=vl_split W (u.drop (i+1)) (k:=k+1) (by simp;omega);rw[List.drop_drop]at s5;have s6:=vl_split W v (k:=k+1) (by omega);have l1:=nv_lt ((hu.drop i).take k);have l2:=nv_lt (hv.take k);have l3:=nv_lt (hv.take (k+1));rw[List.length_take,Nat.min_eq_left (by simp only[List.length_drop];omega)]at l1;rw[List.length_take,Nat.min_eq_left (by omega)]at l2 l3;simp only[nv]at *;rw[show i+1+(k+1)=i+k+2 by omega]at s5;rw[show i+(k+2)=i+k+2 by omega]at s3;rw[show i+(k+2+1)=i+k+3 by omega]at s4;rw[show i+k+1+1+1=i+k+3 by omega,show i+k+1+1=i+k+2 by omega]at d4;rw[show i+k+1+1=i+k+2 by omega]at d3;rw[show i+k+2+1=i+k+3 by omega];have hz:vl W (u.drop (i+k+3))=0:=by
  rcases Nat.eq_zero_or_pos (vl W (u.drop (i+k+3))) with h|h
  .exact h
  .exfalso
   have h1:=Nat.mul_le_mul_left (W^(k+2+1)) h;have h2:=Nat.mul_le_mul_right W (Nat.le_of_lt hVlt);rw[<-Nat.pow_succ]at h2;rw[Nat.mul_succ,Nat.mul_zero,Nat.zero_add]at h1;have h3:=Nat.lt_of_lt_of_le hDR h2;have h4:W^(k+2+1)<=vl W (u.drop i):=by rw[s4];exact Nat.le_trans h1 (Nat.le_add_left _ _)
   exact absurd h3 (Nat.not_lt.mpr h4)
 rw[hz,Nat.mul_zero]at d4;replace d4:=d4.trans (Nat.add_zero _);rw[d4]at d3 s3 s5;rw[d3]at d2;rw[d2]at s1;rw[v4,Nat.mul_zero]at v3;replace v3:=v3.trans (Nat.add_zero _);rw[v3]at v2 s6;rw[v2]at s2;have hX:0<W^k:=W_pow_pos k;refine⟨?_,s3,hz,?_⟩
 .rcases Nat.lt_or_ge (v.getD (k+1) 0) (u.getD (i+k+2) 0) with h|h
  .exfalso
   have h1:=Nat.mul_le_mul_left (W^(k+1)) h;rw[Nat.mul_succ]at h1;generalize W^(k+1)*u.getD (i+k+2) 0=z at *;generalize W^(k+1)*v.getD (k+1) 0=z' at *;omega
  .exact h
 generalize u.getD (i+k+2) 0=u2 at *;generalize u.getD (i+k+1) 0=u1 at *;generalize u.getD (i+k) 0=u0 at *;generalize v.getD (k+1) 0=v1 at *;generalize v.getD k 0=v0 at *;have eD:u0+W*(u1+W*u2)=(u2*W+u1)*W+u0:=by rw[Nat.mul_comm u2 W,Nat.add_comm (W*u2) u1,Nat.mul_comm (u1+W*u2) W];exact Nat.add_comm _ _
 have eV:v0+W*v1=v1*W+v0:=by rw[Nat.mul_comm v1 W];exact Nat.add_comm _ _
 rw[eD]at s1;rw[eV]at s2;refine knuth_est (b:=W) (X:=W^k) (D3:=(u2*W+u1)*W+u0) (V2:=v1*W+v0) hX ?_ ?_ ?_ ?_ hDR ?_ (by decide) rfl
 .rw[s1,Nat.mul_comm];exact Nat.le_add_left _ _
 .rw[s1,Nat.succ_mul,Nat.mul_comm _ (W^k)];exact Nat.add_comm _ _▸Nat.add_lt_add_left l1 _
 .rw[s2,Nat.mul_comm];exact Nat.le_add_left _ _
 .rw[s2,Nat.succ_mul,Nat.mul_comm _ (W^k)];exact Nat.add_comm _ _▸Nat.add_lt_add_left l2 _
 .exact Nat.le_trans (Nat.le_of_eq (Nat.one_mul W).symm) (Nat.le_trans (Nat.mul_le_mul_right W hv1) (Nat.le_add_right _ _))
abbrev OB:=Option (Nat×Nat)
def oid:OB->List Nat
 |some p=>[p.1]
 |none=>[]
def Nw (B E:Nat)(l:List Nat):Prop:=l.Nodup/\∀g∈l,B<=g/\g<E
theorem Nw.nil (B E:Nat):Nw B E []:=⟨List.nodup_nil,by simp⟩
theorem Nw.mono {B E B' E':Nat}{l:List Nat}(h:Nw B E l)(hB:B'<=B)(hE:E<=E'):Nw B' E' l:=⟨h.1,λg hg=>⟨Nat.le_trans hB (h.2 g hg).1,Nat.lt_of_lt_of_le (h.2 g hg).2 hE⟩⟩
theorem Nw.append {B E C F:Nat}{l m:List Nat}(h:Nw B E l)(k:Nw C F m)(hB:B<=C)(hE:E<=C)(hF:E<=F):Nw B F (l++m):=by
 refine⟨List.nodup_append.2 ⟨h.1,k.1,λa ha b hb e=>?_⟩,λg hg=>?_⟩
 .subst e;have:=h.2 a ha;have:=k.2 a hb;omega
 .rcases List.mem_append.1 hg with hg|hg
  .have:=h.2 g hg;omega
  .have:=k.2 g hg;omega
theorem Nw.cons {B E:Nat}{l:List Nat}{g:Nat}(h:Nw B E l)(hg:g∉l)(hB:B<=g)(hE:g<E):Nw B E (g::l) :=
 ⟨List.nodup_cons.2 ⟨hg,h.1⟩,λk hk=>by
  rcases List.mem_cons.1 hk with rfl|hk
  .exact⟨hB,hE⟩
  .exact h.2 k hk⟩
theorem Nw.oid {B E:Nat}{b:OB}(h:∀g cap,b=some (g,cap)->B<=g/\g<E):Nw B E (oid b):=by
 cases b with
 |none=>exact .nil _ _
 |some p=>exact⟨by simp[Go.Proofs.YtnjaeokkfbihlaaGreat.oid],by simp only[Go.Proofs.YtnjaeokkfbihlaaGreat.oid,List.mem_singleton,forall_eq];exact h p.1 p.2 rfl⟩
abbrev fnat (b:OB)(l:List Nat):IV:=.own b 92 1 (lims l)
def RNat (l:List Nat)(B E:Nat)(res:List CV):Prop:=∃b,res=[.iv (fnat b l)]/\Nw B E (oid b)
theorem ne_nat (l:List Nat)(B:Nat):∃E res,B<=E/\RNat l B E res:=⟨B,_,Nat.le_refl _,none,rfl,.nil _ _⟩
theorem ownx_ok (l:List Nat)(h:Lim l)(hl:l.length<=2^43):ACX Tryz.prog 104 [cl l] (RNat (wd (nv l))):=by
 refine ACX.by_walk zi0 (rs:=[.tmp 2]) ords Tryz.func104 (by rfl) (by rfl) (by rfl) (by rfl) (by rfl) (ne_nat _) (λB=>?_);have ht:=topN_le l;simp (disch:=omega) only[wt,seval,reduceCtorEq,Nat.reduceEqDiff];refine call_by ((trim_ok l hl)) (by rfl) (by simp) ?_;simp (disch:=omega) only[wt,seval,reduceCtorEq,Nat.reduceEqDiff];rw[<-wd_nv h];refine if_by (λhz=>?_) (λhz=>?_)
 .have:wd (nv l)=[]:=by rw[<-List.length_eq_zero_iff];omega
  simp (disch:=omega) only[wt,seval,reduceCtorEq,Nat.reduceEqDiff];refine opn_nils 2 92 1 (by rfl) ?_;refine opn_done [.iv (fnat none [])] (by first|rfl|assumption) (by first|(simp (disch:=omega) only[wt,seval,reduceCtorEq,Nat.reduceEqDiff];done)|(simp (disch:=omega) only[wt,seval,reduceCtorEq,Nat.reduceEqDiff];rfl)|rfl) ?_;intro E hE;exact⟨none,by rw[this],.nil _ _⟩
 .simp (disch:=omega) only[wt,seval,reduceCtorEq,Nat.reduceEqDiff];refine call_by ((clone_ok (wd (nv l)) (by have:=nv_len h;omega))) (by rfl) (by simp) ?_;simp (disch:=omega) only[wt,seval,reduceCtorEq,Nat.reduceEqDiff];refine opn_by 2 10 _ 92 1 ((lims (wd (nv l)))) (by first|rfl|assumption|simp (disch:=omega) only[wt,seval,reduceCtorEq,Nat.reduceEqDiff]) (by first|rfl|assumption|simp (disch:=omega) only[wt,seval,reduceCtorEq,Nat.reduceEqDiff]) (by first|rfl|assumption) ?_;rintro b E hE hb;refine opn_done [.iv (fnat b (wd (nv l)))] (by first|rfl|assumption) (by first|(simp (disch:=omega) only[wt,seval,reduceCtorEq,Nat.reduceEqDiff];done)|(simp (disch:=omega) only[wt,seval,reduceCtorEq,Nat.reduceEqDiff];rfl)|rfl) ?_;intro E hE;exact⟨b,rfl,Nw.oid λg cap e=>by have:=hb.2 g cap e;omega⟩
theorem normx_ok (l:List Nat)(h:Lim l)(hl:l.length<=2^43):ACX Tryz.prog 83 [cl l] (RNat (wd (nv l))):=by
 refine ACX.by_walk zi0 (rs:=[.tmp 2]) ords Tryz.func83 (by rfl) (by rfl) (by rfl) (by rfl) (by rfl) (ne_nat _) (λB=>?_);simp (disch:=omega) only[wt,seval,reduceCtorEq,Nat.reduceEqDiff];refine callx_by ((ownx_ok l h hl)) (by rfl) (by simp) (by first|rfl|assumption|(simp (disch:=omega) only[wt,seval,reduceCtorEq,Nat.reduceEqDiff];done)|((repeat (replace hF:=hF.2));exact hF)) ?_;rintro B' E _ hB hE ⟨b,rfl,hb⟩;simp (disch:=omega) only[wt,seval,reduceCtorEq,Nat.reduceEqDiff];refine opn_done [.iv (fnat b (wd (nv l)))] (by first|rfl|assumption) (by first|(simp (disch:=omega) only[wt,seval,reduceCtorEq,Nat.reduceEqDiff];done)|(simp (disch:=omega) only[wt,seval,reduceCtorEq,Nat.reduceEqDiff];rfl)|rfl) ?_;intro E hE;exact⟨b,rfl,hb.mono hB (by omega)⟩
end Go.Proofs.YtnjaeokkfbihlaaGreat
