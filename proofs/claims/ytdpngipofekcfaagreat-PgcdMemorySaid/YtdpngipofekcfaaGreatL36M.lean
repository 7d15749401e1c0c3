/-
 Contracts of the functions that the law reaches.
-/
import Derived.Test.YtdpngipofekcfaaGreatL31M
import Derived.Test.YtdpngipofekcfaaGreatAbsRM
set_option maxHeartbeats 2000000
namespace Go.Proofs.YtdpngipofekcfaaGreat
open Go Go.Proofs Go.AL Go.RowKit
set_option linter.unusedSimpArgs false
set_option linter.unusedVariables false
variable {l:List (List Nat)} {i:Nat}
theorem a6Y (w:World)(D:Nat->Prop)(n k:Nat)(hk:k<2^63)(hnk:n<=k)(z:Array Value)(hz:z.size=k)(hD:∀b,D b->b<w.heap.size) :
  Below w.heap.size w (w.alloc (Obj.cells z 148)).drew/\∃us,Value.slice (some { block:=w.heap.size,off:=0 }) 0 k=uP us/\NY w (w.alloc (Obj.cells z 148)).drew D (some (0,148,1,[])) [.iv (.sl [])] us:=by
 refine⟨?_,[_],rfl,rfl,?_,?_⟩
 .exact((Below.refl _ _).alloc (zab _) _).drew
 .intro j c v hj hc hv;cases j with
  |zero=>exact(hj 0 148 1 [] rfl rfl).elim
  |succ j=>simp at hc
 .intro i e sz rows h;injection h with h;injection h with h1 h;injection h with h2 h;injection h with h3 h4;subst h1 h2 h3 h4;refine⟨_,rfl,by decide,by simp,.inr ⟨w.heap.size,k,z,rfl,.inl (zab _),?_,by simp,?_,by omega,by simp[dY]⟩⟩
  .show (w.alloc _).heap[w.heap.size]?=some _;simp only[World.alloc,Array.getElem?_push_size]
  .simp only[maxLen];omega
theorem b1F (n:Nat)(hn:n<=8796093022208):AC Tryz.prog 320 [.val (.slice none 0 0),.iv (.int .i64 n)] (some (0,148,1,[])) [.iv (.sl [])]:=by
 intro w D vs hD hvs
 match vs,hvs with
 |[v1,v2],hvs =>
 obtain⟨h1,h2,_⟩:=hvs;simp only[jo]at h1 h2;subst h1;obtain rfl:v2=.int .i64 n:=by cases h2;rfl
 refine .inl ⟨_,Tryz.func320,by rfl,by rfl,?_⟩;have hb:Tryz.t148.bytes=8:=by kernel_rfl
 have h4:¬281474976710656<(n:Int)*(8:Nat):=by omega
 have h6:¬281474976710656<n*8:=by omega
 have h8:¬(9223372036854775807<(n:Int)):=by omega
 have h1:¬(n:Int)<0:=by omega
 have h3:(0:Int)-0=0:=rfl;rcases za8 n with h0|h0
 .subst h0
  go_enter Tryz.func320,Tryz.ntmps320
  go_wp2
  refine bodyPost_ret (results_tmp rfl _ _ _) rfl ?_;refine⟨_,rfl,Below.refl _ _,[_],rfl,rfl,?_,?_⟩
  .intro j c v hj hc hv;cases j with
   |zero=>exact(hj 0 _ 1 [] rfl rfl).elim
   |succ j=>simp at hc
  .intro i e sz rows h;injection h with h;injection h with h1 h;injection h with h2 h;injection h with h3 h4;subst h1 h2 h3 h4;exact⟨_,rfl,Nat.zero_lt_one,by simp,.inl ⟨rfl,rfl⟩⟩
 .have h2:(0:Int)<n:=by omega
  have h5:Builtin.nextslicecap n 0=n:=nextslicecap_zero h0;have h7:n≠0:=by omega
  go_enter Tryz.func320,Tryz.ntmps320
  go_wp2
  refine bodyPost_ret (results_tmp rfl _ _ _) rfl ?_;refine⟨_,rfl,a6Y w D n _ ?_ ?_ _ ?_ hD⟩
  .have:=zex w n 0 148 (by simp only[maxLen];omega);simp only[maxLen,grownCap]at this;omega
  .exact zfO w n 0 148
  .have:=zfO w n 0 148;simp only[grownCap]at this;simp only[zeO,zeU,zbU,zaL,zb9,za9,zcU];omega
def tot (l:List (List Nat)):Nat:=(l.map List.length).sum
theorem OD {l:List (List Nat)}{i:Nat}(h:i<l.length):l.take (i+1)=l.take i++[l.getD i []]:=by
 rw[List.take_add_one];congr 1;simp[List.getD,h]
theorem Ve (h:i<l.length):tot (l.take (i+1))=tot (l.take i)+(l.getD i []).length:=by
 rw[OD h];simp only[tot,zav,zaC,zbv,List.sum_append,List.sum_cons,List.sum_nil,zaV]
theorem a2N (h:i<l.length):(l.take (i+1)).flatten=(l.take i).flatten++l.getD i []:=by
 rw[OD h];simp only[zc3,zbI,zdu,zbr]
theorem a4L (l:List (List Nat)):l.flatten.length=tot l:=by simp[tot,List.length_flatten]
theorem Vf (l:List (List Nat))(i:Nat):tot (l.take i)<=tot l:=by
 have h:tot l=tot (l.take i)+tot (l.drop i):=by
  have:=zaO tot (zb1 i l);rw[<-this];simp only[tot,zav,List.sum_append]
 omega
theorem a3m (l:List (List Nat))(hl:l.length<=1048576)(ht:tot l<=4398046511104):AC Tryz.prog 309 [.iv (.sl (zF l))] (some (0,148,1,dh l.flatten)) [cl l.flatten]:=by
 refine AC.aj (rs:=[.tmp 2]) aV Tryz.func309 (by rfl) (by rfl) (by rfl) (by rfl) (by rfl) ?_;simp (disch:=omega) only[wt,seval,oq];refine aI (λf H=>∃(i:Nat),i<=l.length/\f 11=.iv (.int .i64 i)/\f 3=.iv (.int .i64 (tot (l.take i)))/\f 0=.iv (.sl (zF l))/\f 9=.iv (.sl (zF l))/\f 10=.iv (.int .i64 l.length)) (λf H=>(l.length-bC f 11).toNat) ?_ ?_
 .refine⟨0,by omega,?_⟩;simp only[wt,seval,zaj,tot,List.sum_nil]
 rintro f H ⟨i,hi,hF⟩;rw[aC hF.1];simp (disch:=omega) only[wt,seval,hF];refine bf (λhlt=>?_) (λhlt=>?_)
 .have h1:=Ve (l:=l) (i:=i) (by omega);have h2:=Vf l (i+1);have h3:¬(((tot (l.take i):Nat):Int)+(((l.getD i []).length:Nat):Int)<0):=by omega
  simp (disch:=omega) only[wt,seval,oq,MS,hF,h3];exact⟨⟨i+1,by omega,by omega,by omega⟩,by omega⟩
 .obtain rfl:i=l.length:=by omega
  rw[zaM]at hF;simp (disch:=omega) only[wt,seval,hF];refine a7x (b1F (tot l) (by omega)) (by rfl) (by simp) ?_;simp (disch:=omega) only[wt,seval,oq,hF];have hrl:=oq l;refine aI (λf H=>∃(i st:Nat),i<=l.length/\f 27=.iv (.int .i64 i)/\f 6=.hs 24 st/\f 25=.iv (.sl (zF l))/\f 26=.iv (.int .i64 l.length)/\H 24=.blk false st 148 1 (dh (l.take i).flatten)) (λf H=>(l.length-bC f 27).toNat) ?_ ?_
  .refine⟨0,(H 24).stamp+1,by omega,?_⟩;simp only[wt,seval,zaj,zdu]
  rintro f H ⟨i,st,hi,hF⟩;rw[aC hF.1];simp (disch:=omega) only[wt,seval,hF];refine bf (λhlt=>?_) (λhlt=>?_)
  .have h1:=a2N (l:=l) (i:=i) (by omega);have h2:=a4L (l.take i);have h3:=Ve (l:=l) (i:=i) (by omega);have h4:=Vf l (i+1);have h5:((l.take i).flatten.length+(l.getD i []).length)*8<=140737488355328:=by omega
   simp (disch:=omega) only[wt,seval,oq,MS,hF];exact⟨⟨i+1,st+1,by omega,by omega,rfl,by rw[h1]⟩,by omega⟩
  .obtain rfl:i=l.length:=by omega
   rw[zaM]at hF;simp (disch:=omega) only[wt,seval,hF]
end Go.Proofs.YtdpngipofekcfaaGreat

namespace Go.Proofs.YtdpngipofekcfaaGreat
open Go Go.Proofs Go.AL
set_option linter.unusedSimpArgs false
set_option linter.unusedVariables false

section
variable {b D V g N:Nat}
theorem a2h {D3 V2 X:Nat}(hX:0<X)(h1:D3*X<=D)(h2:D<(D3+1)*X)(h3:V2*X<=V)(h4:V<(V2+1)*X)(h5:D<V*b)(h6:b<=V2)(hb:0<b)
  (hg:g=min (D3/V2) (b-1)):D/V<=g/\g<=D/V+1:=by
 have hV2:0<V2:=by omega
 have hV:0<V:=zau (Nat.mul_pos hV2 hX) h3;constructor
 .rw[hg,Nat.le_min];have e1:=zcO D V;constructor
  .rw[zcv hV2];have e2:D/V*V2*X<(D3+1)*X:=by
    rw[za1];exact za3 (zad (zbb _ h3) e1) h2
   have:=zdt e2;omega
  .have:D/V<b:=by rw[za5 hV,zaA];exact h5
   omega
 .have e2:D<(D/V+1)*V:=by rw[zaA];exact Nat.lt_mul_div_succ D hV
  generalize D/V=q at *;rcases zbh (q+1) g with h|h
  .exfalso
   have hgb:g<=b-1:=by rw[hg];exact Nat.min_le_right _ _
   have hgd:g<=D3/V2:=by rw[hg];exact zeE _ _
   have e1:g*V2<=D3:=(zcv hV2).mp hgd;have e3:(q+1)*V<=(g-1)*V:=zag _ (by omega);have e4:(g-1)*V<(g-1)*((V2+1)*X):=Nat.mul_lt_mul_of_pos_left h4 (by omega);have e5:g*V2*X<=D:=zad (zag _ e1) h1;have e6:g*V2*X<(g-1)*(V2+1)*X:=by rw[za1 (g-1)];omega
   have e7:=zdt e6;obtain⟨k,rfl⟩:∃k,g=k+1:=⟨g-1,by omega⟩;rw[zdD,zbS,zdQ]at e7;omega
  .exact h
theorem a2g {lo t c r:Nat}(hN:0<N)(hlo:lo<N)(hD:D=lo+N*t)(hV:0<V)(hVN:V<=N)(h1:D/V<=g)(h2:g<=D/V+1)
  (hr:r+V*g=lo+N*c) (hrN:r<N) :
  (c<=t->g=D/V/\r+N*(t-c)=D%V)/\(t<c->g=D/V+1/\c<=t+1+0*b/\r+V=D%V+N):=by
 have hd:=zbl D V;have hm:=zbj D hV;generalize D/V=q at *;generalize D%V=m at *;constructor
 .intro hc;obtain⟨k,rfl⟩:∃k,t=c+k:=⟨t-c,by omega⟩;rw[zbx]at hD;rw[zde];have:g=q:=by
   rcases zbh q g with h|h
   .obtain rfl:g=q+1:=by omega
    rw[zdQ]at hr;omega
   .omega
  subst this;exact⟨rfl,by omega⟩
 .intro hc;obtain⟨k,rfl⟩:∃k,c=t+1+k:=⟨c-t-1,by omega⟩;rw[zbx,zbx,zcU]at hr;have:g=q+1:=by
   rcases zbh q g with h|h
   .omega
   .obtain rfl:g=q:=by omega
    omega
  subst this;rw[zdQ]at hr;have hk:k=0:=by
   rcases za8 k with h|h
   .exact h
   .have:=zbb N h;omega
  subst hk;rw[zcd]at hr;exact⟨rfl,by omega,by omega⟩
theorem pI (l:List Nat)(k:Nat)(h:k<l.length):nv (l.drop k)=l.getD k 0+W*nv (l.drop (k+1)):=by
 rw[zcl h];simp only[nv,vl,List.getD,zaf h,zaE]
theorem a9Y {x y:Nat}(hN:0<N)(hx:x<N):(x+N*a5a x y N-y)+y=x+N*a5a x y N/\x+N*a5a x y N-y<N:=by
 unfold a5a;have h1:=zbl (y-x+N-1) N;have h2:=zbj (y-x+N-1) hN;generalize (y-x+N-1)/N=q at *;rcases za8 q with h|h
 .subst h;rw[zcd]at *;omega
 .have:=zbb N h;omega
theorem U4 {u v:List Nat}{i n:Nat}(hu:Lim u)(hv:Lim v)(hn:2<=n)(hin:i+n<u.length)(hvl:v.length=n)(hv1:0<v.getD (n-1) 0)(hR:nv (u.drop (i+1))<nv v) :
  u.getD (i+n) 0<=v.getD (n-1) 0/\nv (u.drop i)=nv ((u.drop i).take n)+W^n*u.getD (i+n) 0/\nv (u.drop (i+n+1))=0 /\
  nv (u.drop i)/nv v<=gd3 (u.getD (i+n) 0) (u.getD (i+n-1) 0) (u.getD (i+n-2) 0) (v.getD (n-1) 0) (v.getD (n-2) 0) /\
  gd3 (u.getD (i+n) 0) (u.getD (i+n-1) 0) (u.getD (i+n-2) 0) (v.getD (n-1) 0) (v.getD (n-2) 0)<=nv (u.drop i)/nv v+1:=by
 obtain⟨k,rfl⟩:∃k,n=k+2:=⟨n-2,by omega⟩;rw[show k+2-1=k+1 by omega,show k+2-2=k by omega,show i+(k+2)-1=i+k+1 by omega,show i+(k+2)-2=i+k by omega,show i+(k+2)=i+k+2 by omega]at *;have b5Z:=kE hv;rw[hvl]at b5Z;have d1:=pI u i (by omega);have hDR:nv (u.drop i)<nv v*W:=by
  have:=hu.get i;have h2:=zag W hR;rw[zbS]at h2;rw[zaA W]at d1;omega
 have s1:=gK W (u.drop i) (k:=k) (by simp;omega);rw[zdi]at s1;have d2:=pI u (i+k) (by omega);have d3:=pI u (i+k+1) (by omega);have d4:=pI u (i+k+1+1) (by omega);have s2:=gK W v (k:=k) (by omega);have v2:=pI v k (by omega);have v3:=pI v (k+1) (by omega);have v4:nv (v.drop (k+1+1))=0:=by rw[zbD (by omega)];rfl
 have s3:=gK W (u.drop i) (k:=k+2) (by simp;omega);rw[zdi]at s3;have s4:=gK W (u.drop i) (k:=k+2+1) (by simp;omega);rw[zdi]at s4;have s5:=gK W (u.drop (i+1)) (k:=k+1) (by simp;omega);rw[zdi]at s5;have s6:=gK W v (k:=k+1) (by omega);have l1:=kE ((hu.drop i).take k);have l2:=kE (hv.take k);have l3:=kE (hv.take (k+1));rw[zah,zaZ (by simp only[zbV];omega)]at l1;rw[zah,zaZ (by omega)]at l2 l3;simp only[nv]at *;rw[show i+1+(k+1)=i+k+2 by omega]at s5;rw[show i+(k+2)=i+k+2 by omega]at s3;rw[show i+(k+2+1)=i+k+3 by omega]at s4;rw[show i+k+1+1+1=i+k+3 by omega,show i+k+1+1=i+k+2 by omega]at d4;rw[show i+k+1+1=i+k+2 by omega]at d3;rw[show i+k+2+1=i+k+3 by omega];have hz:vl W (u.drop (i+k+3))=0:=by
  rcases za8 (vl W (u.drop (i+k+3))) with h|h
  .exact h
  .exfalso
   have h1:=zbb (W^(k+2+1)) h;have h2:=zag W (zee b5Z);rw[<-za7]at h2;rw[zdQ,zcd,za9]at h1;have h3:=zau hDR h2;have h4:W^(k+2+1)<=vl W (u.drop i):=by rw[s4];exact zad h1 (zez _ _)
   exact absurd h3 (zeu.mpr h4)
 rw[hz,zcd]at d4;replace d4:=d4.trans (zaV _);rw[d4]at d3 s3 s5;rw[d3]at d2;rw[d2]at s1;rw[v4,zcd]at v3;replace v3:=v3.trans (zaV _);rw[v3]at v2 s6;rw[v2]at s2;have hX:0<W^k:=gB k;refine⟨?_,s3,hz,?_⟩
 .rcases zbh (v.getD (k+1) 0) (u.getD (i+k+2) 0) with h|h
  .exfalso
   have h1:=zbb (W^(k+1)) h;rw[zdQ]at h1;generalize W^(k+1)*u.getD (i+k+2) 0=z at *;generalize W^(k+1)*v.getD (k+1) 0=z' at *;omega
  .exact h
 generalize u.getD (i+k+2) 0=u2 at *;generalize u.getD (i+k+1) 0=u1 at *;generalize u.getD (i+k) 0=u0 at *;generalize v.getD (k+1) 0=v1 at *;generalize v.getD k 0=v0 at *;have eD:u0+W*(u1+W*u2)=(u2*W+u1)*W+u0:=by rw[zaA u2 W,zdP (W*u2) u1,zaA (u1+W*u2) W];exact zdP _ _
 have eV:v0+W*v1=v1*W+v0:=by rw[zaA v1 W];exact zdP _ _
 rw[eD]at s1;rw[eV]at s2;refine a2h (b:=W) (X:=W^k) (D3:=(u2*W+u1)*W+u0) (V2:=v1*W+v0) hX ?_ ?_ ?_ ?_ hDR ?_ (by decide) rfl
 .rw[s1,zaA];exact zez _ _
 .rw[s1,zbS,zaA _ (W^k)];exact zdP _ _▸zfn l1 _
 .rw[s2,zaA];exact zez _ _
 .rw[s2,zbS,zaA _ (W^k)];exact zdP _ _▸zfn l2 _
 .exact zad (zdB (zfd W).symm) (zad (zag W hv1) (Nat.le_add_right _ _))
end
section
variable {B E:Nat} {l:List Nat}
abbrev OB:=Option (Nat×Nat)
def oid:OB->List Nat
 |some p=>[p.1]
 |none=>[]
def Nw (B E:Nat)(l:List Nat):Prop:=l.Nodup/\∀g∈l,B<=g/\g<E
theorem Nw.nil (B E:Nat):Nw B E []:=⟨zcb,by simp⟩
theorem Nw.mono {B' E':Nat}(h:Nw B E l)(hB:B'<=B)(hE:E<=E'):Nw B' E' l:=⟨h.1,λg hg=>⟨zad hB (h.2 g hg).1,zau (h.2 g hg).2 hE⟩⟩
theorem Nw.append {C F:Nat}{m:List Nat}(h:Nw B E l)(k:Nw C F m)(hB:B<=C)(hE:E<=C)(hF:E<=F):Nw B F (l++m):=by
 refine⟨zek.2 ⟨h.1,k.1,λa ha b hb e=>?_⟩,λg hg=>?_⟩
 .subst e;have:=h.2 a ha;have:=k.2 a hb;omega
 .rcases zap.1 hg with hg|hg
  .have:=h.2 g hg;omega
  .have:=k.2 g hg;omega
theorem Nw.cons {B E:Nat}{l:List Nat}{g:Nat}(h:Nw B E l)(hg:g∉l)(hB:B<=g)(hE:g<E):Nw B E (g::l) :=
 ⟨zdM.2 ⟨hg,h.1⟩,λk hk=>by
  rcases zaG.1 hk with rfl|hk
  .exact⟨hB,hE⟩
  .exact h.2 k hk⟩
theorem Nw.oid {b:OB}(h:∀g cap,b=some (g,cap)->B<=g/\g<E):Nw B E (oid b):=by
 cases b with
 |none=>exact .nil _ _
 |some p=>exact⟨by simp[Go.Proofs.YtdpngipofekcfaaGreat.oid],by simp only[Go.Proofs.YtdpngipofekcfaaGreat.oid,zb0,zfg];exact h p.1 p.2 rfl⟩
theorem WJ (l:List Nat):bY (dh l)=[]:=by
 induction l with
 |nil=>rfl
 |cons x xs ih=>simp only[dh,zaC,bY,iV,IV.ids,zcg];exact ih
abbrev Fj (b:OB)(l:List Nat):IV:=.own b 148 1 (dh l)
theorem gW (c:RI)(b:Bool)(o:OB)(e sz:Nat)(l:List (List IV)):lay (λi=>[(0,1),(1,1)][i]?) (jy c) ([0,1].zip [[.bool b],[.own o e sz l]])=some (True,[.bool b,.own o e sz l]):=by
 simp[lay,splice,jy]
theorem fM (c:RI)(x y:IV):splice (jy c) 0 [x,y]=[x,y]:=rfl
def b5t (l:List Nat)(B E:Nat)(res:List CV):Prop:=∃b,res=[.iv (Fj b l)]/\Nw B E (oid b)
theorem a1L (l:List Nat)(B:Nat):∃E res,B<=E/\b5t l B E res:=⟨B,_,zab _,none,rfl,.nil _ _⟩
theorem TN (l:List Nat)(h:Lim l)(hl:l.length<=2^43):ACX Tryz.prog 196 [cl l] (b5t (wd (nv l))):=by
 refine ACX.aj zi0 (rs:=[.tmp 2]) aV Tryz.func196 (by rfl) (by rfl) (by rfl) (by rfl) (by rfl) (a1L _) (λB=>?_);have ht:=wE l;simp only[wt,seval];refine ah ((SE l hl)) (by rfl) (by simp) ?_;simp (disch:=omega) only[wt,seval];rw[<-a9L h];refine bf (λhz=>?_) (λhz=>?_)
 .have:wd (nv l)=[]:=by rw[<-zaz];omega
  simp only[wt,seval];refine dO 2 148 1 (by rfl) ?_;refine aQ [.iv (Fj none [])] (by rfl) (by simp (disch:=omega) only[wt,seval];rfl) ?_;intro E hE;exact⟨none,by rw[this],.nil _ _⟩
 .simp only[wt,seval];refine ah ((yx (wd (nv l)) (by have:=iP h;omega))) (by rfl) (by simp) ?_;simp only[wt,seval];refine AY 2 10 _ 148 1 ((dh (wd (nv l)))) (by first|rfl|assumption|simp only[wt,seval]) (by first|rfl|assumption|simp only[wt,seval]) (by rfl) ?_;rintro b E hE hb;refine aQ [.iv (Fj b (wd (nv l)))] (by rfl) (by simp (disch:=omega) only[wt,seval]) ?_;intro E hE;exact⟨b,rfl,Nw.oid λg cap e=>by have:=hb.2 g cap e;omega⟩
theorem Fa (l:List Nat)(h:Lim l)(hl:l.length<=2^43):ACX Tryz.prog 252 [cl l] (b5t (wd (nv l))):=by
 refine ACX.aj zi0 (rs:=[.tmp 2]) aV Tryz.func252 (by rfl) (by rfl) (by rfl) (by rfl) (by rfl) (a1L _) (λB=>?_);simp only[wt,seval];refine aJ ((TN l h hl)) (by rfl) (by simp) (by rfl) ?_;rintro B' E _ hB hE ⟨b,rfl,hb⟩;simp only[wt,seval];refine aQ [.iv (Fj b (wd (nv l)))] (by rfl) (by simp (disch:=omega) only[wt,seval]) ?_;intro E hE;exact⟨b,rfl,hb.mono hB (by omega)⟩
end
end Go.Proofs.YtdpngipofekcfaaGreat
