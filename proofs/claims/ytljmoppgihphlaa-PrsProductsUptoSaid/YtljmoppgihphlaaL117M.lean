/-
 Contracts of the functions that the law reaches.
-/
import Derived.Test.YtljmoppgihphlaaL298M
import Derived.Test.YtljmoppgihphlaaAbsT
import Derived.Test.YtljmoppgihphlaaTyA
import Derived.Test.YtljmoppgihphlaaL1M
import Derived.RangeFuncBox
import Derived.OwnWalkIn
import Derived.TacticsInMore
import Derived.LoopNIn
import Derived.LoopIn
set_option maxHeartbeats 2000000
namespace Go.Proofs.Ytljmoppgihphlaa
open Go Go.Proofs Go.AL
set_option linter.unusedSimpArgs false
set_option linter.unusedVariables false



theorem CD.cf {D n M:Nat}{q:List Rat}(h:CB D n M q)(k:Nat):CD D M (cfq q k):=by
 by_cases hk:k<q.length
 .rw[cfq_lt hk];exact h.c _ (List.getElem_mem hk)
 .rw[cfq_ge (by omega)];exact CD.zero _ _
theorem CD.den_dvd {D M:Nat}{q:Rat}(hD:D≠0)(h:CD D M q):q.den∣D:=by
 obtain⟨z,e,hz⟩:=h;have h1:=natr_ne hD;have h2:=natr_ne q.den_nz;have h3:(q.num:Rat)/(q.den:Rat)=(z:Rat)/(D:Rat):=by
  rw[<-e,<-Rat.mkRat_eq_div];exact Rat.mkRat_self q
 have h4:(q.num:Rat)*(D:Rat)=(z:Rat)*(q.den:Rat):=by grind
 have h5:q.num*(D:Int)=z*(q.den:Int):=by
  rw[<-Rat.intCast_natCast,<-Rat.intCast_natCast,<-Rat.intCast_mul,<-Rat.intCast_mul]at h4;exact Rat.intCast_inj.mp h4
 have h6:q.den∣q.num.natAbs*D:=⟨z.natAbs,by
  have:=congrArg Int.natAbs h5;rw[Int.natAbs_mul,Int.natAbs_mul,Int.natAbs_natCast,Int.natAbs_natCast]at this;rw[this,Nat.mul_comm]⟩
 exact(q.reduced.symm).dvd_of_dvd_mul_left h6
theorem qsum_cd {D M n:Nat}{f:Nat->Rat}(h:∀i,i<n->CD D M (f i)):CD D (M+n) (qsum n f):=by
 induction n with
 |zero=>exact CD.zero _ _
 |succ n ih =>
  have h1:=ih λi hi=>h i (by omega)
  have h2:=h n (by omega);exact(h1.add h2).mono (by omega)
theorem lcmL_dvd {D:Nat}:∀(l:List Nat) (i:Nat),(∀x∈l,x∣D)->lcmL (l.take i)∣D
 |l,0,_=>by rw[List.take_zero];exact Nat.one_dvd _
 |l,i+1,h=>by
  by_cases hi:i<l.length
  .rw[lcmL_take hi];refine Nat.lcm_dvd (lcmL_dvd l i h) (h _ ?_);rw[List.getD,List.getElem?_eq_getElem hi,Option.getD_some];exact List.getElem_mem hi
  .rw[List.take_of_length_le (by omega),<-List.take_of_length_le (l:=l) (i:=i) (by omega)];exact lcmL_dvd l i h
theorem CB.dens_dvd {D n M:Nat}{A:List Rat}(h:CB D n M A):∀x∈dens A,x∣D:=λx hx=>by
 obtain⟨c,hc,rfl⟩:=List.mem_map.1 hx;exact(h.c c hc).den_dvd h.d
theorem CB.lcm_len {D n M:Nat}{A:List Rat}(h:CB D n M A)(i:Nat):(wd (lcmL ((dens A).take i))).length<=M :=
 Nat.le_trans (wd_len_mono (Nat.le_of_dvd (Nat.pos_of_ne_zero h.d) (lcmL_dvd _ i h.dens_dvd))) h.w
theorem CB.cden_dvd {D n M:Nat}{A:List Rat}(h:CB D n M A):cden A∣D:=by
 have:=lcmL_dvd (dens A) (dens A).length h.dens_dvd;rwa [List.take_length]at this
theorem CB.cden_len {D n M:Nat}{A:List Rat}(h:CB D n M A):(wd (cden A)).length<=M :=
 Nat.le_trans (wd_len_mono (Nat.le_of_dvd (Nat.pos_of_ne_zero h.d) h.cden_dvd)) h.w
theorem CB.mulq {D E n m M N:Nat}{A B:List Rat}(hA:CB D n M A)(hB:CB E m N B):CB (D*E) (n+m) (M+N+(n+m)) (mulq A B) where
 d:=Nat.mul_ne_zero hA.d hB.d
 w:=by
  have h1:=AL.wd_mul_len D E;have h2:=hA.w;have h3:=hB.w;omega
 l:=by
  simp only[mulq_def,List.length_map,List.length_range];have:=hA.l;have:=hB.l;omega
 c:=λc hc=>by
  obtain⟨k,hk,rfl⟩:=List.getElem_of_mem hc;have hl:k<n+m:=by
   simp only[mulq_def,List.length_map,List.length_range]at hk;have:=hA.l;have:=hB.l;omega
  rw[<-cfq_lt hk,cfq_mulq,PQ.cvq_conv];exact(qsum_cd (n:=k+1) (f:=λi=>cfq A i*cfq B (k-i)) λi _=>CD.mul hA.d hB.d (CD.cf hA _) (CD.cf hB _)).mono (by omega)
abbrev RowQ:=Nat->Rat
def altq (F:List RowQ->Rat)(c:Nat):List RowQ->List RowQ->Rat
 |_,[]=>0
 |pre,v::post=>v c*F (pre++post)-altq F c (pre++[v]) post
def dl:Nat->Nat->List RowQ->Rat
 |0,_,[]=>1
 |0,_,_::_=>0
 |n+1,c,l=>altq (dl n (c+1)) c [] l
def lcq (a b:Rat)(u v:RowQ):RowQ:=λk=>a*u k+b*v k
def MltQ (F:List RowQ->Rat):Prop:=∀p q a b u v,F (p++lcq a b u v::q)=a*F (p++u::q)+b*F (p++v::q)
def AltQ (F:List RowQ->Rat):Prop:=∀p q u,F (p++u::u::q)=0
theorem altq_pre_mlt {F:List RowQ->Rat}(hF:MltQ F)(c:Nat)(p:List RowQ)(a b:Rat)(u v:RowQ):∀post q,altq F c (p++lcq a b u v::q) post=a*altq F c (p++u::q) post+b*altq F c (p++v::q) post
 |[],q=>by simp only[altq];grind
 |w::post,q=>by
  have ih:=altq_pre_mlt hF c p a b u v post (q++[w]);have h:=hF p (q++post) a b u v;simp only[altq,List.append_assoc,List.cons_append]at *;rw[h,ih]
  grind
theorem altq_mlt {F:List RowQ->Rat}(hF:MltQ F)(c:Nat)(q:List RowQ)(a b:Rat)(u v:RowQ):∀p pre,altq F c pre (p++lcq a b u v::q)=a*altq F c pre (p++u::q)+b*altq F c pre (p++v::q)
 |[],pre=>by
  have h:=altq_pre_mlt hF c pre a b u v q [];simp only[altq,List.nil_append];rw[h];simp only[lcq]
  grind
 |x::p,pre=>by
  have ih:=altq_mlt hF c q a b u v p (pre++[x]);have h:=hF (pre++p) q a b u v;simp only[List.append_assoc]at h;simp only[altq,List.cons_append];rw[h,ih]
  grind
theorem altq_pre_alt {F:List RowQ->Rat}(hF:AltQ F)(c:Nat)(p:List RowQ)(u:RowQ):∀post q,altq F c (p++u::u::q) post=0
 |[],q=>rfl
 |w::post,q=>by
  have ih:=altq_pre_alt hF c p u post (q++[w]);have h:=hF p (q++post) u;simp only[altq,List.append_assoc,List.cons_append]at *;rw[h,ih]
  grind
theorem altq_alt {F:List RowQ->Rat}(hF:AltQ F)(c:Nat)(q:List RowQ)(u:RowQ):∀p pre,altq F c pre (p++u::u::q)=0
 |[],pre=>by
  have h:=altq_pre_alt hF c pre u q [];simp only[altq,List.nil_append,List.append_assoc,List.cons_append]at *;rw[h]
  grind
 |x::p,pre=>by
  have ih:=altq_alt hF c q u p (pre++[x]);have h:=hF (pre++p) q u;simp only[List.append_assoc]at h;simp only[altq,List.cons_append];rw[h,ih]
  grind
theorem dl_zero (c:Nat)(p:List RowQ)(x:RowQ)(q:List RowQ):dl 0 c (p++x::q)=0:=by cases p<;>rfl
theorem dl_mlt:∀n c,MltQ (dl n c)
 |0,c=>λp q a b u v=>by rw[dl_zero,dl_zero,dl_zero];grind
 |n+1,c=>λp q a b u v=>altq_mlt (dl_mlt n (c+1)) c q a b u v p []
theorem dl_alt:∀n c,AltQ (dl n c)
 |0,c=>λp q u=>dl_zero c p u (u::q)
 |n+1,c=>λp q u=>altq_alt (dl_alt n (c+1)) c q u p []
theorem q_swap {F:List RowQ->Rat}(hM:MltQ F)(hA:AltQ F)(p q:List RowQ)(u v:RowQ):F (p++u::v::q) = -F (p++v::u::q):=by
 have h0:=hA p q (lcq 1 1 u v);have h1:=hM p (lcq 1 1 u v::q) 1 1 u v;have h2:=hM (p++[u]) q 1 1 u v;have h3:=hM (p++[v]) q 1 1 u v;simp only[List.append_assoc,List.cons_append,List.nil_append]at h2 h3;have h4:=hA p q u;have h5:=hA p q v;rw[h1,h2,h3,h4,h5]at h0
 grind
theorem q_far {F:List RowQ->Rat}(hM:MltQ F)(hA:AltQ F)(u:RowQ)(q:List RowQ):∀m p,F (p++u::(m++u::q))=0
 |[],p=>hA p q u
 |x::m,p=>by
  have ih:=q_far hM hA u q m (p++[x]);simp only[List.append_assoc,List.cons_append,List.nil_append]at ih;rw[List.cons_append,q_swap hM hA,ih];rfl
theorem q_rowop {F:List RowQ->Rat}(hM:MltQ F)(hA:AltQ F)(u v:RowQ)(t:Rat)(m q:List RowQ):F (u::(m++lcq 1 t v u::q))=F (u::(m++v::q)):=by
 have h:=hM (u::m) q 1 t v u;have h2:=q_far hM hA u q m [];simp only[List.cons_append,List.nil_append]at h h2;rw[h,h2]
 grind
def opq (c:Nat)(u v:RowQ):RowQ:=lcq 1 (-(v c/u c)) v u
theorem q_allops {F:List RowQ->Rat}(hM:MltQ F)(hA:AltQ F)(c:Nat)(u:RowQ):∀L d,F (u::(d++L.map (opq c u)))=F (u::(d++L))
 |[],d=>rfl
 |v::L,d=>by
  have ih:=q_allops hM hA c u L (d++[v]);simp only[List.append_assoc,List.cons_append,List.nil_append]at ih;rw[List.map_cons,opq,q_rowop hM hA,ih]
theorem altq_zero {F:List RowQ->Rat}{c:Nat}:∀l pre,(∀v∈l,v c=0)->altq F c pre l=0
 |[],pre,h=>rfl
 |v::l,pre,h=>by
  rw[altq,h v (by simp),altq_zero l _ λw hw=>h w (by simp[hw])]
  grind
theorem dl_elim (n c:Nat)(u:RowQ)(L:List RowQ)(h:u c≠0):dl (n+1) c (u::L)=u c*dl n (c+1) (L.map (opq c u)):=by
 have h1:=q_allops (dl_mlt (n+1) c) (dl_alt (n+1) c) c u L [];rw[List.nil_append,List.nil_append]at h1;rw[<-h1,dl,altq,altq_zero _ _ λv hv=>?_,List.nil_append]
 .grind
 .obtain⟨w,_,rfl⟩:=List.mem_map.1 hv;simp only[opq,lcq]
  grind
def gsq (A:Nat->RowQ):Nat->Nat->RowQ
 |0,i=>A i
 |k+1,i=>λj=>gsq A k i j-gsq A k i k/gsq A k k k*gsq A k k j
def pvt (A:Nat->RowQ):Nat->Rat
 |0=>1
 |k+1=>pvt A k*gsq A k k k
theorem opq_gs (A:Nat->RowQ)(m i:Nat)(s:Nat->Nat)(hs:s m=m):opq m (λq=>gsq A m m (s q)) (λq=>gsq A m i (s q))=λq=>gsq A (m+1) i (s q):=by
 funext q
 simp only[opq,lcq,gsq,hs]
 grind
def rowsL (A:Nat->RowQ)(s:Nat->Nat)(m k i:Nat):List RowQ:=(List.range' m (k-m)).map (λr q=>gsq A m r (s q))++[λq=>gsq A m i (s q)]
theorem rowsL_step (A:Nat->RowQ)(s:Nat->Nat){m k i:Nat}(hm:m<k)(hs:s m=m)(h:gsq A m m m≠0):dl (k+1-m) m (rowsL A s m k i)=gsq A m m m*dl (k+1-(m+1)) (m+1) (rowsL A s (m+1) k i):=by
 have e1:k+1-m=(k-m)+1:=by omega
 have e2:k+1-(m+1)=k-m:=by omega
 have e3:k-m=(k-(m+1))+1:=by omega
 have e:rowsL A s m k i=(λq=>gsq A m m (s q))::((List.range' (m+1) (k-(m+1))).map (λr q=>gsq A m r (s q))++[λq=>gsq A m i (s q)]):=by
  rw[rowsL,e3,List.range'_succ,List.map_cons,List.cons_append]
 rw[e,e1,e2,dl_elim _ _ _ _ (by simp only[hs];exact h)];simp only[hs]
 congr 2
 rw[List.map_append,List.map_map,List.map_cons,List.map_nil,rowsL]
 congr 1
 .refine List.map_congr_left λr _=>?_;exact opq_gs A m r s hs
 .rw[opq_gs A m i s hs]
theorem rowsL_all (A:Nat->RowQ)(s:Nat->Nat)(k i:Nat)(hs:∀q,q<k->s q=q):∀m,m<=k->(∀l,l<m->gsq A l l l≠0)->dl (k+1) 0 (rowsL A s 0 k i)=pvt A m*dl (k+1-m) m (rowsL A s m k i)
 |0,_,_=>by rw[pvt,Nat.sub_zero];grind
 |m+1,hm,h=>by
  rw[rowsL_all A s k i hs m (by omega) λl hl=>h l (by omega),rowsL_step A s (by omega) (hs m (by omega)) (h m (by omega)),pvt]
  grind
def selq (k j q:Nat):Nat:=if q<k then q else j
theorem minor_eq (A:Nat->RowQ)(k i j:Nat)(h:∀l,l<k->gsq A l l l≠0):dl (k+1) 0 (rowsL A (selq k j) 0 k i)=pvt A k*gsq A k i j:=by
 rw[rowsL_all A (selq k j) k i (λq hq=>if_pos hq) k (Nat.le_refl k) h,Nat.add_sub_cancel_left]
 congr 1
 have e:rowsL A (selq k j) k k i=[λq=>gsq A k i (selq k j q)]:=by rw[rowsL,Nat.sub_self];rfl
 rw[e,dl,altq,altq,List.nil_append,dl];rw[show selq k j k=j from if_neg (Nat.lt_irrefl k)]
 grind
theorem CD.one_mul {M N:Nat}{p q:Rat}(h:CD 1 M p)(k:CD 1 N q):CD 1 (M+N) (p*q):=CD.mul Nat.one_ne_zero Nat.one_ne_zero h k
theorem CD.sub {D M N:Nat}{p q:Rat}(h:CD D M p)(k:CD D N q):CD D (max M N+1) (p-q):=by rw[Rat.sub_eq_add_neg];exact h.add k.neg
theorem altq_cd {F:List RowQ->Rat}{c M S B:Nat}(hF:∀l,l.length<=B->(∀v∈l,∀q,CD 1 M (v q))->CD 1 S (F l)):∀post pre,pre.length+post.length<=B->(∀v∈pre++post,∀q,CD 1 M (v q))->CD 1 (M+S+post.length) (altq F c pre post)
 |[],pre,_,_=>CD.zero _ _
 |v::post,pre,hl,h=>by
  rw[List.length_cons]at hl;have h1:=hF (pre++post) (by rw[List.length_append];omega) λw hw=>h w (by
   rcases List.mem_append.1 hw with hw|hw
   .exact List.mem_append_left _ hw
   .exact List.mem_append_right _ (List.mem_cons_of_mem _ hw))
  have h2:=altq_cd (c:=c) hF post (pre++[v]) (by rw[List.length_append,List.length_singleton];omega) λw hw=>h w (by simpa using hw)
  exact(((h v (by simp) c).one_mul h1).sub h2).mono (by rw[List.length_cons];omega)
theorem dl_cd {M B:Nat}:∀n c l,l.length<=B->(∀v∈l,∀q,CD 1 M (v q))->CD 1 (n*(M+B)+1) (dl n c l)
 |0,_,[],_,_=>⟨1,by rw[dl];decide +kernel,by rw[show zl 1=1 by decide +kernel];omega⟩
 |0,_,_::_,_,_=>CD.zero _ _
 |n+1,c,l,hl,h=>by
  have h1:=altq_cd (c:=c) (B:=B) (λl hl h=>dl_cd n (c+1) l hl h) l [] (by rw[List.length_nil];omega) h;exact h1.mono (by rw[Nat.succ_mul];omega)
theorem minor_cd {A:Nat->RowQ}{M k i j:Nat}(hA:∀i j,CD 1 M (A i j))(h:∀l,l<k->gsq A l l l≠0):CD 1 ((k+1)*(M+(k+1))+1) (pvt A k*gsq A k i j):=by
 rw[<-minor_eq A k i j h];refine dl_cd (B:=k+1) _ _ _ ?_ λv hv q=>?_
 .simp[rowsL]
 .rw[rowsL]at hv;rcases List.mem_append.1 hv with hv|hv
  .obtain⟨r,_,rfl⟩:=List.mem_map.1 hv;exact hA _ _
  .rw[List.mem_singleton.1 hv];exact hA _ _
theorem CD.int {M:Nat}{q:Rat}(h:CD 1 M q):((q.num:Int):Rat)=q/\zl q.num<=M:=by
 obtain⟨z,e,hz⟩:=h;have e:q=(z:Rat):=by rw[e];rw[show ((1:Nat):Rat)=1 from rfl];grind
 rw[e];exact⟨by rw[Rat.num_intCast],by rw[Rat.num_intCast];exact hz⟩
theorem bareiss (A:Nat->RowQ)(k i j:Nat)(h:gsq A k k k≠0):pvt A (k+1)*gsq A (k+1) i j*pvt A k=pvt A k*gsq A k i j*(pvt A k*gsq A k k k)-pvt A k*gsq A k i k*(pvt A k*gsq A k k j):=by
 simp only[pvt,gsq]
 grind
def swp (a b i:Nat):Nat:=if i=a then b else if i=b then a else i
theorem swp_lt {a b k i:Nat}(ha:k<=a)(hb:k<=b)(hi:i<k):swp a b i=i:=by unfold swp;rw[if_neg (by omega),if_neg (by omega)]
theorem gsq_perm (A:Nat->RowQ)(s:Nat->Nat)(k:Nat)(hs:∀i,i<k->s i=i):∀m,m<=k->∀i,gsq (λr=>A (s r)) m i=gsq A m (s i)
 |0,_,i=>rfl
 |m+1,hm,i=>by
  have ih:=gsq_perm A s k hs m (by omega)
  funext j
  simp only[gsq,ih,hs m (by omega)]
theorem pvt_perm (A:Nat->RowQ)(s:Nat->Nat)(k:Nat)(hs:∀i,i<k->s i=i):∀m,m<=k->pvt (λr=>A (s r)) m=pvt A m
 |0,_=>rfl
 |m+1,hm=>by rw[pvt,pvt,pvt_perm A s k hs m (by omega),gsq_perm A s k hs m (by omega),hs m (by omega)]
def fpv (A:Nat->RowQ)(k:Nat):Nat->Nat->Nat
 |0,p=>p
 |n+1,p=>if gsq A k (k+p) k≠0 then p else fpv A k n (p+1)
theorem fpv_spec (A:Nat->RowQ)(k:Nat):∀n p,p<=fpv A k n p/\fpv A k n p<=p+n/\(∀j,p<=j->j<fpv A k n p->gsq A k (k+j) k=0)/\(fpv A k n p<p+n->gsq A k (k+fpv A k n p) k≠0)
 |0,p=>⟨Nat.le_refl _,Nat.le_refl _,λj h1 h2=>absurd h2 (by rw[fpv];omega),λh=>absurd h (by rw[fpv];omega)⟩
 |n+1,p=>by
  rw[fpv];split
  .rename_i h;exact⟨Nat.le_refl _,by omega,λj h1 h2=>by omega,λ_=>h⟩
  .rename_i h;obtain⟨h1,h2,h3,h4⟩:=fpv_spec A k n (p+1);refine⟨by omega,by omega,λj hj hj2=>?_,λhl=>h4 (by omega)⟩;rcases Nat.eq_or_lt_of_le hj with e|e
   .subst e;exact Decidable.not_not.mp h
   .exact h3 j (by omega) hj2
def gdt:Nat->Nat->(Nat->RowQ)->Rat
 |0,k,A=>pvt A k
 |m+1,k,A=>let p:=fpv A k (m+1) 0
  if p=m+1 then 0 else if p=0 then gdt m (k+1) A else -gdt m (k+1) λr=>A (swp k (k+p) r)
section
def miq (A:Nat->RowQ)(k i j:Nat):Int:=(pvt A k*gsq A k i j).num
def lstq (A:Nat->RowQ)(k:Nat):Int:=(pvt A k).num
def bz (M k:Nat):Nat:=(k+1)*(M+(k+1))+1
theorem bz_mono {M k l:Nat}(h:k<=l):bz M k<=bz M l:=by
 unfold bz;have h1:(k+1)*(M+(k+1))<=(l+1)*(M+(l+1)):=Nat.mul_le_mul (by omega) (by omega);omega
structure Gs (A:Nat->RowQ) (M k:Nat):Prop where
 e:∀i j,CD 1 M (A i j)
 p:∀l,l<k->gsq A l l l≠0
section
variable {A:Nat->RowQ} {M k:Nat}
theorem Gs.mono {m:Nat}(g:Gs A M k)(h:m<=k):Gs A M m:=⟨g.e,λl hl=>g.p l (by omega)⟩
theorem Gs.next (g:Gs A M k)(h:gsq A k k k≠0):Gs A M (k+1):=⟨g.e,λl hl=>by
 rcases Nat.lt_or_ge l k with h1|h1
 .exact g.p l h1
 .obtain rfl:l=k:=by omega
  exact h⟩
theorem pvt_ne:∀{k:Nat},(∀l,l<k->gsq A l l l≠0)->pvt A k≠0
 |0,_=>by rw[pvt];decide +kernel
 |k+1,h=>λe=>by
  rcases Rat.mul_eq_zero.mp e with e|e
  .exact pvt_ne (λl hl=>h l (by omega)) e
  .exact h k (by omega) e
theorem Gs.mi (g:Gs A M k)(i j:Nat):((miq A k i j:Int):Rat)=pvt A k*gsq A k i j/\zl (miq A k i j)<=bz M k:=(minor_cd g.e g.p).int
theorem Gs.lst:∀{k:Nat},Gs A M k->((lstq A k:Int):Rat)=pvt A k/\zl (lstq A k)<=bz M k
 |0,_=>⟨by rw[lstq,pvt];decide +kernel,by rw[show zl (lstq A 0)=1 by rw[lstq,pvt];decide +kernel];unfold bz;omega⟩
 |k+1,g=>⟨((g.mono (Nat.le_succ k)).mi k k).1,Nat.le_trans ((g.mono (Nat.le_succ k)).mi k k).2 (bz_mono (Nat.le_succ k))⟩
theorem lstq_succ (A:Nat->RowQ)(k:Nat):lstq A (k+1)=miq A k k k:=rfl
theorem Gs.lst_ne (g:Gs A M k):lstq A k≠0:=λe=>by
 have h:=g.lst.1;rw[e]at h;exact pvt_ne g.p h.symm
theorem Gs.mi_zero (g:Gs A M k)(i j:Nat):miq A k i j=0↔gsq A k i j=0:=by
 have h:=(g.mi i j).1;constructor
 .intro e;rw[e]at h;rcases Rat.mul_eq_zero.mp h.symm with h|h
  .exact absurd h (pvt_ne g.p)
  .exact h
 .intro e;rw[e,Rat.mul_zero]at h;exact Rat.intCast_eq_zero_iff.mp h
theorem Gs.step (g:Gs A M k)(h:gsq A k k k≠0)(i j:Nat):miq A k i j*miq A k k k-miq A k i k*miq A k k j=miq A (k+1) i j*lstq A k:=by
 have b:=bareiss A k i j h;rw[<-((g.next h).mi i j).1,<-(g.mi i j).1,<-(g.mi k k).1,<-(g.mi i k).1,<-(g.mi k j).1,<-g.lst.1,<-Rat.intCast_mul,<-Rat.intCast_mul,<-Rat.intCast_mul,<-Rat.intCast_sub]at b;exact(Rat.intCast_inj.mp b).symm
theorem Gs.gs (g:Gs A M k)(i j:Nat):gsq A k i j=(miq A k i j:Rat)/(lstq A k:Rat):=by
 rw[(g.mi i j).1,g.lst.1];have:=pvt_ne g.p
 grind
theorem Gs.perm {s:Nat->Nat}(g:Gs A M k)(hs:∀i,i<k->s i=i):Gs (λr=>A (s r)) M k:=⟨λi j=>g.e _ _,λl hl=>by
 rw[gsq_perm A s k hs l (by omega),hs l hl];exact g.p l hl⟩
theorem miq_perm {s:Nat->Nat}(hs:∀i,i<k->s i=i){m:Nat}(hm:m<=k)(i j:Nat):miq (λr=>A (s r)) m i j=miq A m (s i) j:=by
 unfold miq;rw[gsq_perm A s k hs m hm,pvt_perm A s k hs m hm]
theorem lstq_perm {s:Nat->Nat}(hs:∀i,i<k->s i=i){m:Nat}(hm:m<=k):lstq (λr=>A (s r)) m=lstq A m:=by
 unfold lstq;rw[pvt_perm A s k hs m hm]
end
def stq (A:Nat->RowQ)(k i j:Nat):Int:=miq A (min k (min i j)) i j
def siq (A:Nat->RowQ)(k i0 j0 i j:Nat):Int:=if k<i/\k<j/\(i<i0\/i=i0/\j<j0) then miq A (k+1) i j else stq A k i j
theorem stq_zero (A:Nat->RowQ)(i j:Nat):stq A 0 i j=(A i j).num:=by
 unfold stq miq;rw[Nat.zero_min,pvt,gsq,Rat.one_mul]
theorem swp_min {k p i j:Nat}:min k (min (swp k (k+p) i) j)=min k (min i j):=by unfold swp;split<;>(try split)<;>omega
theorem stq_swap (A:Nat->RowQ)(k p i j:Nat):stq (λr=>A (swp k (k+p) r)) k i j=stq A k (swp k (k+p) i) j:=by
 unfold stq;rw[swp_min,miq_perm (k:=k) (λi hi=>swp_lt (Nat.le_refl k) (by omega) hi) (Nat.min_le_left _ _)]
theorem siq_first (A:Nat->RowQ)(k i j:Nat):siq A k (k+1) (k+1) i j=stq A k i j:=if_neg λh=>by omega
theorem siq_last (A:Nat->RowQ)(k n j0 i j:Nat)(hi:i<n)(hj:j<n):siq A k n j0 i j=stq A (k+1) i j:=by
 unfold siq stq;by_cases h:k<i/\k<j
 .rw[if_pos ⟨h.1,h.2,.inl hi⟩,show min (k+1) (min i j)=k+1 by omega]
 .rw[if_neg λh'=>h ⟨h'.1,h'.2.1⟩,show min (k+1) (min i j)=min k (min i j) by omega]
theorem siq_row (A:Nat->RowQ)(k n i0 i j:Nat)(hj:j<n):siq A k i0 n i j=siq A k (i0+1) (k+1) i j:=by
 unfold siq
 congr 1
 refine propext ⟨λh=>⟨h.1,h.2.1,by omega⟩,λh=>⟨h.1,h.2.1,by omega⟩⟩
theorem siq_set (A:Nat->RowQ)(k i0 j0 i j:Nat)(hi:k<i0)(hj:k<j0):siq A k i0 (j0+1) i j=if i=i0/\j=j0 then miq A (k+1) i j else siq A k i0 j0 i j:=by
 unfold siq;by_cases h:i=i0/\j=j0
 .rw[if_pos h,if_pos (by omega)]
 .rw[if_neg h]
  congr 1
  refine propext ⟨λh=>⟨h.1,h.2.1,by omega⟩,λh=>⟨h.1,h.2.1,by omega⟩⟩
theorem siq_ne (A:Nat->RowQ)(k i0 j0 i j:Nat)(hi:i≠i0):siq A k i0 j0 i j=siq A k i0 (k+1) i j:=by
 unfold siq
 congr 1
 refine propext ⟨λh=>⟨h.1,h.2.1,by omega⟩,λh=>⟨h.1,h.2.1,by omega⟩⟩
theorem siq_at (A:Nat->RowQ)(k i0 j0:Nat)(hi:k<i0)(hj:k<j0):siq A k i0 j0 i0 j0=miq A k i0 j0/\siq A k i0 j0 k k=miq A k k k/\siq A k i0 j0 i0 k=miq A k i0 k/\siq A k i0 j0 k j0=miq A k k j0:=by
 unfold siq stq;refine⟨?_,?_,?_,?_⟩
 .rw[if_neg (by omega),show min k (min i0 j0)=k by omega]
 .rw[if_neg (by omega),show min k (min k k)=k by omega]
 .rw[if_neg (by omega),show min k (min i0 k)=k by omega]
 .rw[if_neg (by omega),show min k (min k j0)=k by omega]
theorem gdt_none {A:Nat->RowQ}{m k:Nat}(h:fpv A k (m+1) 0=m+1):gdt (m+1) k A=0:=by
 simp only[gdt];rw[if_pos h]
theorem gdt_stay {A:Nat->RowQ}{m k:Nat}(h:fpv A k (m+1) 0=0):gdt (m+1) k A=gdt m (k+1) A:=by
 simp only[gdt];rw[if_neg (by omega),if_pos h]
theorem gdt_swap {A:Nat->RowQ}{m k p:Nat}(h:fpv A k (m+1) 0=p)(h1:p≠m+1)(h0:p≠0):gdt (m+1) k A = -gdt m (k+1) λr=>A (swp k (k+p) r):=by
 subst h;simp only[gdt];rw[if_neg h1,if_neg h0]
end
def dtq (A:Nat->RowQ)(n:Nat):Rat:=dl n 0 ((List.range n).map A)
theorem dl_all (A:Nat->RowQ)(n:Nat):∀m,m<=n->(∀l,l<m->gsq A l l l≠0)->dtq A n=pvt A m*dl (n-m) m ((List.range' m (n-m)).map (gsq A m))
 |0,_,_=>by
  rw[pvt,Rat.one_mul,Nat.sub_zero,dtq,List.range_eq_range'];rfl
 |m+1,hm,h=>by
  rw[dl_all A n m (by omega) λl hl=>h l (by omega),pvt,show n-m=(n-(m+1))+1 by omega,List.range'_succ,List.map_cons,dl_elim _ _ _ _ (h m (by omega)),Rat.mul_assoc]
  congr 2
  rw[List.map_map]
  congr 1
  refine List.map_congr_left λr _=>?_;exact opq_gs A m r id rfl
theorem dtq_zero {A:Nat->RowQ}{n k:Nat}(hk:k<n)(hp:∀l,l<k->gsq A l l l≠0)(h:∀i,k<=i->i<n->gsq A k i k=0):dtq A n=0:=by
 rw[dl_all A n k (by omega) hp,show n-k=(n-k-1)+1 by omega,dl,altq_zero _ _ λv hv=>?_]
 .exact Rat.mul_zero _
 .obtain⟨r,hr,rfl⟩:=List.mem_map.1 hv;rw[List.mem_range']at hr;obtain⟨i,hi,rfl⟩:=hr;exact h _ (by omega) (by omega)
theorem dtq_full {A:Nat->RowQ}{n:Nat}(hp:∀l,l<n->gsq A l l l≠0):dtq A n=pvt A n:=by
 rw[dl_all A n n (Nat.le_refl n) hp,Nat.sub_self];exact Rat.mul_one _
theorem q_swap_far {F:List RowQ->Rat}(hM:MltQ F)(hA:AltQ F)(p m q:List RowQ)(u v:RowQ):F (p++u::(m++v::q)) = -F (p++v::(m++u::q)):=by
 have h0:=q_far hM hA (lcq 1 1 u v) q m p;have h1:=hM p (m++lcq 1 1 u v::q) 1 1 u v;have h2:=hM (p++u::m) q 1 1 u v;have h3:=hM (p++v::m) q 1 1 u v;simp only[List.append_assoc,List.cons_append]at h2 h3;have h4:=q_far hM hA u q m p;have h5:=q_far hM hA v q m p;rw[h1,h2,h3,h4,h5]at h0
 grind
theorem range_split {k p n:Nat}(hp:0<p)(hn:k+p<n):List.range n=List.range' 0 k++k::(List.range' (k+1) (p-1)++(k+p)::List.range' (k+p+1) (n-(k+p+1))):=by
 rw[List.range_eq_range',show n=k+(1+((p-1)+(1+(n-(k+p+1))))) by omega,<-List.range'_append_1,<-List.range'_append_1,<-List.range'_append_1,<-List.range'_append_1];simp only[Nat.zero_add];rw[show k+1+(p-1)=k+p by omega,show k+(1+(p-1+(1+(n-(k+p+1)))))-(k+p+1)=n-(k+p+1) by omega];rfl
theorem dtq_swap (A:Nat->RowQ){k p n:Nat}(hp:0<p)(hn:k+p<n):dtq (λr=>A (swp k (k+p) r)) n = -dtq A n:=by
 have e1:∀s l,(∀i,i<l->s+i≠k/\s+i≠k+p)->(List.range' s l).map (λr=>A (swp k (k+p) r))=(List.range' s l).map A:=λs l h=>List.map_congr_left λr hr=>by
  rw[List.mem_range']at hr;obtain⟨i,hi,rfl⟩:=hr;have:=h i hi;rw[show swp k (k+p) (s+1*i)=s+1*i by unfold swp;rw[if_neg (by omega),if_neg (by omega)]]
 rw[dtq,dtq,range_split hp hn];simp only[List.map_append,List.map_cons];rw[e1 0 k λi hi=>by omega,e1 (k+1) (p-1) λi hi=>by omega,e1 (k+p+1) _ λi hi=>by omega,show swp k (k+p) k=k+p from if_pos rfl,show swp k (k+p) (k+p)=k by unfold swp;rw[if_neg (by omega),if_pos rfl]];exact q_swap_far (dl_mlt n 0) (dl_alt n 0) _ _ _ _ _
theorem gdt_det (n:Nat):∀m k A,k+m=n->(∀l,l<k->gsq A l l l≠0)->gdt m k A=dtq A n
 |0,k,A,hk,hp=>by
  obtain rfl:k=n:=by omega
  rw[gdt,dtq_full hp]
 |m+1,k,A,hk,hp=>by
  obtain⟨h1,h2,h3,h4⟩:=fpv_spec A k (m+1) 0;generalize hq:fpv A k (m+1) 0=p at *;by_cases e1:p=m+1
  .rw[gdt_none (hq.trans e1),dtq_zero (k:=k) (by omega) hp λi hi1 hi2=>?_];have:=h3 (i-k) (by omega) (by omega);rwa [show k+(i-k)=i by omega]at this
  .have h4:=h4 (by omega);by_cases e0:p=0
   .subst e0;rw[gdt_stay hq];refine gdt_det n m (k+1) A (by omega) λl hl=>?_;rcases Nat.lt_or_ge l k with h|h
    .exact hp l h
    .obtain rfl:l=k:=by omega
     exact h4
   .rw[gdt_swap hq e1 e0,gdt_det n m (k+1) _ (by omega) λl hl=>?_,dtq_swap A (by omega) (by omega)]
    .grind
    .have hs:∀i,i<k->swp k (k+p) i=i:=λi hi=>swp_lt (Nat.le_refl k) (by omega) hi
     rcases Nat.lt_or_ge l k with h|h
     .rw[gsq_perm A _ k hs l (by omega),hs l h];exact hp l h
     .obtain rfl:l=k:=by omega
      rw[gsq_perm A _ l hs l (Nat.le_refl l),show swp l (l+p) l=l+p from if_pos rfl];exact h4
theorem gdt_dtq (A:Nat->RowQ)(n:Nat):gdt n 0 A=dtq A n:=gdt_det n n 0 A (by omega) λl hl=>absurd hl (by omega)
def mrows (m:List (List RI)):List (List IV):=m.map λr=>[.sl (raws r)]
theorem mrows_len (m:List (List RI)):(mrows m).length=m.length:=List.length_map _
theorem mrows_at {m:List (List RI)}{i:Nat}(h:i<m.length):(mrows m).getD i []=[.sl (raws (m.getD i []))]:=by simp[mrows,List.getD,h]
theorem mrows_take (m:List (List RI))(k:Nat):(mrows m).take k=mrows (m.take k):=by simp[mrows,List.map_take]
abbrev cm (m:List (List RI)):CV:=.iv (.sl (mrows m))
theorem getm_mem {m:List (List RI)}{i:Nat}(h:i<m.length):m.getD i []∈m:=by rw[List.getD,List.getElem?_eq_getElem h,Option.getD_some];exact List.getElem_mem h
def mq (m:List (List RI)):Nat->RowQ:=λi j=>((iv ((m.getD i []).getD j (false,[])):Int):Rat)
theorem mq_num (m:List (List RI))(i j:Nat):(mq m i j).num=iv ((m.getD i []).getD j (false,[])):=Rat.num_intCast _
theorem zsub_ok (a b:RI)(ha:Sz (2^40) a)(hb:Sz (2^40) b):AC Try.prog 41 [cr a,cr b] none [cz (iv a-iv b)]:=by
 have m:=zneg_ok b hb;have hz:Sz (2^40) (canon (-iv b)):=(sz_canon _).mono (by rw[zl_neg];exact zl_iv hb);have k:=zadd_ok a (canon (-iv b)) ha hz;rw[iv_canon,show iv a + -iv b=iv a-iv b by omega]at k;refine AC.by_walk (rs:=[.cell 4 32]) ords Try.func41 (by rfl) (by rfl) (by rfl) (by rfl) (by rfl) ?_;simp (disch:=omega) only[wt,seval,reduceCtorEq,Nat.reduceEqDiff,mrows_len,mrows_at,mrows_take];refine .inl ⟨tmps_by (by kernel_rfl),?_⟩;refine call_by (m) (by rfl) (by simp) ?_;simp (disch:=omega) only[wt,seval,reduceCtorEq,Nat.reduceEqDiff,mrows_len,mrows_at,mrows_take];refine call_by (k) (by rfl) (by simp) ?_;simp (disch:=omega) only[wt,seval,reduceCtorEq,Nat.reduceEqDiff,mrows_len,mrows_at,mrows_take]
 first|exact log_by (by kernel_rfl)|refine⟨log_by (by kernel_rfl),?_⟩
 try rfl
theorem det1_ok (r:List RI)(k:Nat)(hk:k<r.length)(hl:r.length<=2^40)(h:Sz (2^40) (r.getD k (false,[]))):AC Try.prog 40 [.iv (.sl (raws r)),.box [.int .i64 k]] none [cb (decide (iv (r.getD k (false,[]))≠0))]:=by
 have m:=zsign_ok _ h;refine AC.by_walk (rs:=[.tmp 3]) ords Try.func40 (by rfl) (by rfl) (by rfl) (by rfl) (by rfl) ?_;simp (disch:=omega) only[wt,seval,reduceCtorEq,Nat.reduceEqDiff,mrows_len,mrows_at,mrows_take];refine call_by (m) (by rfl) (by simp) ?_;simp (disch:=omega) only[wt,seval,reduceCtorEq,Nat.reduceEqDiff,mrows_len,mrows_at,mrows_take];rw[decide_eq_decide,Int.sign_eq_zero_iff_zero]
theorem idxm_gen (l:List (List RI))(g:Nat)(row:List IV)(P:List RI->Bool)(e:Int)(hl:l.length<=2^43)(hc:∀r∈l,AC Try.prog g [.iv (.sl (raws r)),.box row] none [cb (P r)])
  (h1:∀i,i<l.length->(∀j,j<i->P (l.getD j [])=false)->P (l.getD i [])=true->e=i) (h2:(∀j,j<l.length->P (l.getD j [])=false)->e = -1) :
  AC Try.prog 39 [cm l,.fn g [row]] none [ci e]:=by
 refine AC.by_walk (rs:=[.tmp 4]) ords Try.func39 (by rfl) (by rfl) (by rfl) (by rfl) (by rfl) ?_;simp (disch:=omega) only[wt,seval,reduceCtorEq,Nat.reduceEqDiff,mrows_len,mrows_at,mrows_take,List.map_cons,List.map_nil];refine aloop_by (λf H=>∃(i:Nat),i<=l.length/\(∀j,j<i->P (l.getD j [])=false)/\f 8=.iv (.int .i64 i)/\f 0=.iv (.sl (mrows l))/\f 6=.iv (.sl (mrows l))/\f 7=.iv (.int .i64 l.length)/\f 1=.fn g [.ip row]) (λf H=>(l.length-intAt f 8).toNat) ?_ ?_
 .refine⟨0,by omega,λj hj=>by omega,?_⟩;simp (disch:=omega) only[wt,seval,reduceCtorEq,Nat.reduceEqDiff,mrows_len,mrows_at,mrows_take,List.map_cons,List.map_nil]
 rintro f H ⟨i,hi,hz,hF⟩;rw[intAt_of hF.1];simp (disch:=omega) only[wt,seval,reduceCtorEq,Nat.reduceEqDiff,mrows_len,mrows_at,mrows_take,hF];refine if_by (λhlt=>?_) (λhlt=>?_)
 .have hlt':i<l.length:=by omega
  simp (disch:=omega) only[wt,seval,reduceCtorEq,Nat.reduceEqDiff,mrows_len,mrows_at,mrows_take,hF];refine call_by ((hc (l.getD i []) (getm_mem hlt'))) (by first|rfl|(simp only[tocvs,tocv,toboxes,tobox,updH_at,Nat.reduceEqDiff,↓reduceIte,hF];rfl)) (by simp) ?_;simp (disch:=omega) only[wt,seval,reduceCtorEq,Nat.reduceEqDiff,mrows_len,mrows_at,mrows_take,hF];cases hP:P (l.getD i []) with
  |true =>
   obtain rfl:=h1 i hlt' hz hP;simp (disch:=omega) only[wt,seval,reduceCtorEq,Nat.reduceEqDiff,mrows_len,mrows_at,mrows_take,hF]
  |false =>
   simp (disch:=omega) only[wt,seval,reduceCtorEq,Nat.reduceEqDiff,mrows_len,mrows_at,mrows_take,hF];refine⟨⟨i+1,by omega,λj hj=>?_,by omega⟩,by omega⟩;rcases Nat.lt_or_ge j i with hj'|hj'
   .exact hz j hj'
   .obtain rfl:j=i:=by omega
    exact hP
 .obtain rfl:=h2 λj hj=>hz j (by omega)
  simp (disch:=omega) only[wt,seval,reduceCtorEq,Nat.reduceEqDiff,mrows_len,mrows_at,mrows_take,hF]
def capN (k:Nat):Nat:=if k<1000 then k else 1000
def capL (lg:Log):Log:=lg.map λp=>(p.1.map capN,p.2.map capN)
theorem capL_nil:capL []=[]:=rfl
theorem capL_cons (x y:List Nat)(lg:Log):capL ((x,y)::lg)=(x.map capN,y.map capN)::capL lg:=rfl
theorem capN_lt {k:Nat}(h:k<1000):capN k=k:=if_pos h
theorem capN_ge {k:Nat}(h:1000<=k):capN k=1000:=if_neg (by omega)
theorem clash_cap {x y:List Nat×List Nat}(h:clash (x.1.map capN,x.2.map capN) (y.1.map capN,y.2.map capN)=false):clash x y=false:=by
 have key:∀(a b c:List Nat),((a.map capN).any λk=>(b.map capN).contains k || (c.map capN).contains k)=false->(a.any λk=>b.contains k || c.contains k)=false:=λa b c h=>by
  rw[List.any_eq_false]at h ⊢;intro k hk hc;have:=h (capN k) (List.mem_map.2 ⟨k,hk,rfl⟩);simp only[Bool.or_eq_true,List.contains_iff_mem]at hc this;exact this (hc.elim (λh=>.inl (List.mem_map.2 ⟨k,h,rfl⟩)) λh=>.inr (List.mem_map.2 ⟨k,h,rfl⟩))
 simp only[clash,Bool.or_eq_false_iff]at h ⊢;exact⟨key _ _ _ h.1,key _ _ _ h.2⟩
theorem cap_contains (l:List Nat){m:Nat}(h:m<1000):(l.map capN).contains m=l.contains m:=by
 rw[Bool.eq_iff_iff,List.contains_iff_mem,List.contains_iff_mem,List.mem_map];constructor
 .rintro⟨k,hk,e⟩;unfold capN at e;split at e
  .subst e;exact hk
  .omega
 .intro hm;exact⟨m,hm,capN_lt h⟩
theorem logN_by {ops:Array Oper}{lg lg':Log}(e:capL lg=lg')(h:logOk ops lg'.reverse=true):LogOk ops lg:=by
 subst e;unfold LogOk;unfold logOk pairsOk at h ⊢;have hg:∀i,((capL lg).reverse).getD i ([],[])=(((lg.reverse).getD i ([],[])).1.map capN,((lg.reverse).getD i ([],[])).2.map capN):=λi=>by
  rw[capL,<-List.map_reverse,List.getD,List.getD,List.getElem?_map];cases lg.reverse[i]?<;>rfl
 simp only[Bool.and_eq_true]at h ⊢;obtain⟨⟨h1,h2⟩,h3⟩:=h;refine⟨⟨?_,?_⟩,?_⟩
 .rw[List.all_eq_true]at h1 ⊢;intro j hj;have h:=h1 j hj;rw[List.all_eq_true]at h ⊢;intro i hi;have h:=h i hi;simp only[Bool.or_eq_true]at h ⊢;refine h.elim (λh=>.inl ?_) .inr;rw[hg,hg]at h;rw[Bool.not_eq_true']at h ⊢;exact clash_cap h
 .rw[List.all_eq_true]at h2 ⊢;intro j hj;have h:=h2 j hj;rw[List.all_eq_true]at h ⊢;intro i hi;have h:=h i hi;simp only[Bool.or_eq_true]at h ⊢;refine h.elim (λh=>.inl ?_) .inr;rw[hg]at h;rwa [cap_contains _ (by omega)]at h
 .rw[List.all_eq_true]at h3 ⊢;intro e he;have:=h3 (e.1.map capN,e.2.map capN) (by rw[capL,<-List.map_reverse];exact List.mem_map.2 ⟨e,he,rfl⟩);rwa [cap_contains _ (by omega)]at this
def hrows (hd s:Nat->Nat)(n:Nat):List AV:=(List.range n).map λj=>.hs (hd j) (s j)
theorem hrows_len (hd s:Nat->Nat)(n:Nat):(hrows hd s n).length=n:=by simp[hrows]
theorem hrows_at (hd s:Nat->Nat){n i:Nat}(h:i<n):(hrows hd s n).getD i .undef=.hs (hd i) (s i):=by
 simp only[hrows,List.getD,List.getElem?_map,List.getElem?_range h,Option.map_some,Option.getD_some]
theorem hrows_snoc (hd s:Nat->Nat)(i st:Nat):hrows hd s i++[.hs (hd i) st]=hrows hd (λj=>if j=i then st else s j) (i+1):=by
 rw[hrows,hrows,List.range_succ,List.map_append,List.map_cons,List.map_nil,if_pos rfl]
 congr 1
 refine List.map_congr_left λj hj=>?_;rw[List.mem_range]at hj;rw[if_neg (by omega)]
theorem hrows_swap (hd s:Nat->Nat){n a b:Nat}(ha:a<n)(hb:b<n):((hrows hd s n).set a (.hs (hd b) (s b))).set b (.hs (hd a) (s a))=hrows (λj=>hd (swp a b j)) (λj=>s (swp a b j)) n:=by
 refine List.ext_getElem (by simp[hrows]) λi h1 h2=>?_;simp only[List.getElem_set,hrows,List.getElem_map,List.getElem_range,swp];by_cases e1:b=i
 .subst e1;by_cases e2:b=a
  .subst e2;simp
  .rw[if_pos rfl,if_neg e2,if_pos rfl]
   try simp[e2]
 .rw[if_neg e1];by_cases e2:a=i
  .subst e2;rw[if_pos rfl,if_pos rfl]
   try simp
  .rw[if_neg e2,if_neg (λh=>e2 h.symm),if_neg (λh=>e1 h.symm)]
   try simp[Ne.symm e2,Ne.symm e1]
theorem nrows_of {H:Hp}{hd s:Nat->Nat}{R:Nat->List (List IV)}:∀L:List Nat,(∀q∈L,∃b e sz,H (hd q)=.blk b (s q) e sz (R q))->∃(c:Prop) (ms:List Nat),c/\nrows H (L.map λq=>.hs (hd q) (s q))=some (c,L.map (λq=>[.sl (R q)]),ms)
 |[],_=>⟨True,[],trivial,rfl⟩
 |q::L,h=>by
  obtain⟨c,ms,hc,hn⟩:=nrows_of L λr hr=>h r (by simp[hr])
  obtain⟨b,e,sz,hq⟩:=h q (by simp);refine⟨s q=s q/\c,hd q::ms,⟨rfl,hc⟩,?_⟩;simp only[List.map_cons,nrows,hq,hn]
theorem hrows_part (hd s:Nat->Nat)(n k:Nat):((hrows hd s n).drop k).take (n-k)=(List.range' k (n-k)).map λq=>.hs (hd q) (s q):=by
 rw[List.take_of_length_le (by simp[hrows]),hrows,<-List.map_drop,List.range_eq_range',List.drop_range',Nat.zero_add,Nat.mul_one]
def nrow (m:List (List RI))(j:Nat):List RI:=(m.getD j []).map λc=>canon (iv c)
def srow (A:Nat->RowQ)(n k q:Nat):List RI:=(List.range n).map λj=>canon (stq A k q j)
def irow (A:Nat->RowQ)(n k i0 j0 q:Nat):List RI:=(List.range n).map λj=>canon (siq A k i0 j0 q j)
theorem srow_len (A:Nat->RowQ)(n k q:Nat):(srow A n k q).length=n:=by simp[srow]
theorem irow_len (A:Nat->RowQ)(n k i0 j0 q:Nat):(irow A n k i0 j0 q).length=n:=by simp[irow]
theorem srow_at (A:Nat->RowQ){n c:Nat}(k q:Nat)(h:c<n):(srow A n k q).getD c (false,[])=canon (stq A k q c):=by
 simp only[srow,List.getD,List.getElem?_map,List.getElem?_range h,Option.map_some,Option.getD_some]
theorem irow_at (A:Nat->RowQ){n c:Nat}(k i0 j0 q:Nat)(h:c<n):(irow A n k i0 j0 q).getD c (false,[])=canon (siq A k i0 j0 q c):=by
 simp only[irow,List.getD,List.getElem?_map,List.getElem?_range h,Option.map_some,Option.getD_some]
theorem nrow_srow {m:List (List RI)}{n j:Nat}(hl:(m.getD j []).length=n):nrow m j=srow (mq m) n 0 j:=by
 refine List.ext_getElem (by rw[nrow,srow,List.length_map,List.length_map,List.length_range,hl]) λi h1 h2=>?_;have h3:i<(m.getD j []).length:=by rw[nrow,List.length_map]at h1;exact h1
 simp only[nrow,srow,List.getElem_map,List.getElem_range];rw[stq_zero,mq_num,show (m.getD j []).getD i (false,[])=(m.getD j [])[i] by rw[List.getD,List.getElem?_eq_getElem h3,Option.getD_some]]
theorem irow_first (A:Nat->RowQ)(n k q:Nat):irow A n k (k+1) (k+1) q=srow A n k q:=List.map_congr_left λj _=>by rw[siq_first]
theorem irow_row (A:Nat->RowQ)(n k i0 q:Nat):irow A n k i0 n q=irow A n k (i0+1) (k+1) q:=List.map_congr_left λj hj=>by rw[siq_row A k n i0 q j (List.mem_range.1 hj)]
theorem irow_last (A:Nat->RowQ){n k q:Nat}(hq:q<n):irow A n k n (k+1) q=srow A n (k+1) q:=List.map_congr_left λj hj=>by rw[siq_last A k n (k+1) q j hq (List.mem_range.1 hj)]
theorem irow_set (A:Nat->RowQ){n k i0 j0:Nat}(hi:k<i0)(hj:k<j0):(irow A n k i0 j0 i0).set j0 (canon (miq A (k+1) i0 j0))=irow A n k i0 (j0+1) i0:=by
 refine List.ext_getElem (by simp[irow]) λc h1 h2=>?_;simp only[List.getElem_set,irow,List.getElem_map,List.getElem_range];rw[siq_set A k i0 j0 i0 c hi hj];by_cases e:j0=c
 .subst e;rw[if_pos rfl,if_pos ⟨rfl,rfl⟩]
 .rw[if_neg e,if_neg λh=>e h.2.symm]
theorem irow_ne (A:Nat->RowQ)(n k i0 j0:Nat){q:Nat}(h:q≠i0):irow A n k i0 (j0+1) q=irow A n k i0 j0 q:=List.map_congr_left λj _=>by rw[siq_ne A k i0 (j0+1) q j h,siq_ne A k i0 j0 q j h]
theorem srow_swap (A:Nat->RowQ)(n k p q:Nat):srow (λr=>A (swp k (k+p) r)) n k q=srow A n k (swp k (k+p) q):=List.map_congr_left λj _=>by rw[stq_swap]
theorem swp_in {n a b i:Nat}(ha:a<n)(hb:b<n)(hi:i<n):swp a b i<n:=by unfold swp;split<;>(try split)<;>omega
theorem swp_inj {a b i j:Nat}(h:swp a b i=swp a b j):i=j:=by
 unfold swp at h;split at h<;>split at h<;>(try split at h)<;>(try split at h)<;>omega
theorem stq_diag (A:Nat->RowQ)(k:Nat):stq A (k+1) k k=lstq A (k+1):=by
 rw[lstq_succ,stq,show min (k+1) (min k k)=k by omega]
theorem stq_col (A:Nat->RowQ){k q:Nat}(h:k<=q):stq A k q k=miq A k q k:=by
 rw[stq,show min k (min q k)=k by omega]
theorem key_ne (i x:Nat)(h:x<1000):(1000+i=x)=False:=eq_false (by omega)
theorem key_ne' (i x:Nat)(h:x<1000):(x=1000+i)=False:=eq_false (by omega)
theorem key_lt (i:Nat):(1000+i<1000)=False:=eq_false (by omega)
def MB (n k:Nat)(m:List (List RI)):Prop:=m.length<=n/\∀r∈m,r.length<=n/\∀c∈r,Sz k c
theorem MB.row {n k i:Nat}{m:List (List RI)}(h:MB n k m)(hi:i<m.length):(m.getD i []).length<=n:=(h.2 _ (getm_mem hi)).1
theorem MB.cell {n k i j:Nat}{m:List (List RI)}(h:MB n k m)(hi:i<m.length)(hj:j<(m.getD i []).length):Sz k ((m.getD i []).getD j (false,[])):=(h.2 _ (getm_mem hi)).2 _ (by
 generalize m.getD i []=r at *;rw[List.getD,List.getElem?_eq_getElem hj,Option.getD_some];exact List.getElem_mem hj)
def nrmv (l:List RI):List RI:=l.map λc=>canon (iv c)
theorem nrmv_len (l:List RI):(nrmv l).length=l.length:=List.length_map _
theorem nrmv_take {l:List RI}{j:Nat}(h:j<l.length):nrmv (l.take j)++[canon (iv (l.getD j (false,[])))]=nrmv (l.take (j+1)):=by
 rw[nrmv,nrmv,List.take_add_one,List.getD,List.getElem?_eq_getElem h,Option.getD_some,List.map_append];rfl
def sgb (b:Bool):Rat:=if b then -1 else 1
theorem rows_all {m:List (List RI)}(h:∀r∈m,r.length=m.length){i:Nat}(hi:i<m.length):(m.getD i []).length=m.length:=h _ (getm_mem hi)
theorem mq_cd {m:List (List RI)}(hm:MB (2^20) (2^22) m)(i j:Nat):CD 1 (2^22) (mq m i j):=by
 refine⟨iv ((m.getD i []).getD j (false,[])),by rw[mq,show ((1:Nat):Rat)=1 from rfl];grind,?_⟩;by_cases hi:i<m.length
 .by_cases hj:j<(m.getD i []).length
  .exact zl_iv (hm.cell hi hj)
  .generalize m.getD i []=r at *;rw[List.getD,List.getElem?_eq_none (by omega)];exact Nat.le_trans (show zl (iv (false,[]))<=1 by decide +kernel) (by omega)
 .rw[show m.getD i []=[] by rw[List.getD,List.getElem?_eq_none (by omega)];rfl];exact Nat.le_trans (show zl (iv (([]:List RI).getD j (false,[])))<=1 by rw[List.getD_nil];decide +kernel) (by omega)
theorem bz_small {k:Nat}(h:k<=129):bz (2^22) k<=2^30:=Nat.le_trans (bz_mono h) (by decide)
def pidx (A:Nat->RowQ)(n k:Nat):Int:=if fpv A k (n-k) 0=n-k then -1 else ((fpv A k (n-k) 0:Nat):Int)
theorem lrow_at (A:Nat->RowQ){n k i:Nat}(h:i<n-k):((List.range' k (n-k)).map (srow A n k)).getD i []=srow A n k (k+i):=by
 rw[List.getD,List.getElem?_map,List.getElem?_range' h,Option.map_some,Option.getD_some,Nat.one_mul]
theorem lrow_len (A:Nat->RowQ)(n k:Nat):((List.range' k (n-k)).map (srow A n k)).length=n-k:=by simp
theorem detidx_ok (A:Nat->RowQ)(n k:Nat)(hg:Gs A (2^22) k)(hk:k<n)(hn:n<=128):AC Try.prog 39 [cm ((List.range' k (n-k)).map (srow A n k)),.fn 40 [[.int .i64 k]]] none [ci (pidx A n k)]:=by
 have hb:=bz_small (k:=k) (by omega);have hcell:∀q,k<=q->(srow A n k q).getD k (false,[])=canon (miq A k q k):=λq hq=>by rw[srow_at A k q hk,stq_col A hq]
 have hP:∀i,i<n-k->(decide (iv ((((List.range' k (n-k)).map (srow A n k)).getD i []).getD k (false,[]))≠0)=true↔gsq A k (k+i) k≠0):=λi hi=>by
  rw[lrow_at A hi,hcell _ (by omega),iv_canon,decide_eq_true_iff,ne_eq,ne_eq,hg.mi_zero]
 obtain⟨_,s2,s3,s4⟩:=fpv_spec A k (n-k) 0;refine idxm_gen _ 40 [.int .i64 k] (λr=>decide (iv (r.getD k (false,[]))≠0)) _ (by rw[lrow_len];omega) (λr hr=>?_) (λi hi hz hp=>?_) (λhz=>?_)
 .obtain⟨q,hq,rfl⟩:=List.mem_map.1 hr;rw[List.mem_range']at hq;obtain⟨i,hi,rfl⟩:=hq;refine det1_ok _ k (by rw[srow_len];exact hk) (by rw[srow_len];omega) ?_;rw[hcell _ (by omega)];exact(sz_canon _).mono (Nat.le_trans (hg.mi _ _).2 (by omega))
 .rw[lrow_len]at hi;have h1:=(hP i hi).mp hp;have hpi:fpv A k (n-k) 0=i:=by
   rcases Nat.lt_trichotomy (fpv A k (n-k) 0) i with h|h|h
   .have h2:=(hP (fpv A k (n-k) 0) (by omega)).mpr (s4 (by omega));rw[hz _ h]at h2;cases h2
   .exact h
   .exact absurd (s3 i (by omega) h) h1
  rw[pidx,hpi,if_neg (by omega)]
 .rw[lrow_len]at hz;rw[pidx,if_pos];rcases Nat.lt_or_ge (fpv A k (n-k) 0) (n-k) with h|h
  .have h2:=(hP _ h).mpr (s4 (by omega));rw[hz _ h]at h2;cases h2
  .omega
set_option maxHeartbeats 1000000 in
theorem det_ok (m:List (List RI))(hm:MB (2^20) (2^22) m)(h128:m.length<=128)(hall:∀r∈m,r.length=m.length):AC Try.prog 22 [cm m] none [cz (gdt m.length 0 (mq m)).num,ci 0]:=by
 have hl:=hm.1;have zo1:=zOf_ok 1 (by omega) (by omega);have zo0:=zOf_ok 0 (by omega) (by omega);refine AC.by_walk (rs:=[.cell 2 32,.tmp 3]) ords Try.func22 (by rfl) (by rfl) (by rfl) (by rfl) (by rfl) ?_;simp (disch:=omega) only[wt,seval,reduceCtorEq,Nat.reduceEqDiff,mrows_len,mrows_at,mrows_take,hrows_len];refine aloop_nilN 4 4 22 (by simp (disch:=omega) only[wt,seval,reduceCtorEq,Nat.reduceEqDiff,mrows_len,mrows_at,mrows_take,hrows_len]) (λf H=>∃(i sa s2:Nat) (s:Nat->Nat),i<=m.length/\(∀j,j<i->(m.getD j []).length=m.length)/\H 4=.nst sa 22 (hrows (1000 + ·) s i)/\(∀j,j<i->H (1000+j)=.blk false (s j) 32 2 (raws (nrow m j)))/\f 19=.iv (.int .i64 i)/\f 17=.iv (.sl (mrows m))/\f 18=.iv (.int .i64 m.length)/\f 0=.iv (.sl (mrows m))/\f 2=.hp 2 s2 0 0/\H 2=.blk false s2 32 2 [[.bool false,.sl []]]/\f 3=.iv (.int .i64 0)/\f 4=.hs 4 sa) (λf H=>(m.length-intAt f 19).toNat) ?_ ?_
 .refine⟨0,1,1,λ_=>0,by omega,λj hj=>by omega,rfl,λj hj=>absurd hj (by omega),?_⟩;simp (disch:=omega) only[wt,seval,reduceCtorEq,Nat.reduceEqDiff,mrows_len,mrows_at,mrows_take,hrows_len,ghostF,ghostHN,ghostH]
 rintro f H ⟨i,sa,s2,s,hi,hg,hN,hr,hF⟩;rw[intAt_of hF.1];simp (disch:=omega) only[wt,seval,reduceCtorEq,Nat.reduceEqDiff,mrows_len,mrows_at,mrows_take,hrows_len,hF];refine if_by (λhlt=>?_) (λhlt=>?_)
 .have hlt':i<m.length:=by omega
  have hrw:=hm.row hlt';have hrl:=rows_all hall hlt';have hrl':((m.getD i []).length:Int)=(m.length:Int):=by omega
  simp (disch:=omega) only[wt,seval,reduceCtorEq,Nat.reduceEqDiff,mrows_len,mrows_at,mrows_take,hrows_len,hF,hrl'];have hkn:=key_ne i;have hkn':=key_ne' i;have hki:=key_lt i;refine aloop_nil 7 (1000+i) 32 2 (by simp (disch:=omega) only[wt,seval,reduceCtorEq,Nat.reduceEqDiff,mrows_len,mrows_at,mrows_take,hrows_len]) (λf H=>∃(j sa s2 st:Nat),j<=m.length/\H 4=.nst sa 22 (hrows (1000 + ·) s i)/\(∀j,j<i->H (1000+j)=.blk false (s j) 32 2 (raws (nrow m j)))/\H (1000+i)=.blk false st 32 2 (raws (nrmv ((m.getD i []).take j)))/\f 31=.iv (.int .i64 j)/\f 29=.iv (.sl (raws (m.getD i [])))/\f 30=.iv (.int .i64 m.length)/\f 19=.iv (.int .i64 i)/\f 17=.iv (.sl (mrows m))/\f 18=.iv (.int .i64 m.length)/\f 0=.iv (.sl (mrows m))/\f 2=.hp 2 s2 0 0/\H 2=.blk false s2 32 2 [[.bool false,.sl []]]/\f 3=.iv (.int .i64 0)/\f 4=.hs 4 sa/\f 7=.hs (1000+i) st) (λf H=>(m.length-intAt f 31).toNat) ?_ ?_
  .refine⟨0,sa,s2,(H (1000+i)).stamp+1,by omega,by simp (disch:=omega) only[wt,seval,reduceCtorEq,Nat.reduceEqDiff,mrows_len,mrows_at,mrows_take,hrows_len,ghostH,hN,hkn'],λj hj=>by simp (disch:=omega) only[wt,seval,reduceCtorEq,Nat.reduceEqDiff,mrows_len,mrows_at,mrows_take,hrows_len,ghostH,hr j hj,Nat.add_left_cancel_iff,Nat.ne_of_lt hj],by simp (disch:=omega) only[wt,seval,reduceCtorEq,Nat.reduceEqDiff,mrows_len,mrows_at,mrows_take,hrows_len,ghostH];rfl,?_⟩;simp (disch:=omega) only[wt,seval,reduceCtorEq,Nat.reduceEqDiff,mrows_len,mrows_at,mrows_take,hrows_len,ghostF,ghostH,hF,hkn']
  rintro f H ⟨j,sa,s2,st,hj,hN,hr,hw,hF⟩;rw[intAt_of hF.1];simp (disch:=omega) only[wt,seval,reduceCtorEq,Nat.reduceEqDiff,mrows_len,mrows_at,mrows_take,hrows_len,hF];refine if_by (λhlt=>?_) (λhlt=>?_)
  .have hjl:j<(m.getD i []).length:=by omega
   have zc:=znorm_ok _ ((hm.cell hlt' hjl).mono (by omega));have hwl:(nrmv ((m.getD i []).take j)).length=j:=by rw[nrmv_len,List.length_take];omega
   simp (disch:=omega) only[wt,seval,reduceCtorEq,Nat.reduceEqDiff,mrows_len,mrows_at,mrows_take,hrows_len,hF];refine call_by (zc) (by first|rfl|(simp only[tocvs,tocv,toboxes,tobox,updH_at,Nat.reduceEqDiff,↓reduceIte,hF,hw,hwl,hkn,hkn'];rfl)) (by simp) ?_;simp (disch:=omega) only[wt,seval,reduceCtorEq,Nat.reduceEqDiff,mrows_len,mrows_at,mrows_take,hrows_len,hF,hw,hwl,hkn,hkn'];refine⟨⟨j+1,sa,s2,st+1,by omega,by simp (disch:=omega) only[wt,seval,reduceCtorEq,Nat.reduceEqDiff,mrows_len,mrows_at,mrows_take,hrows_len,hN,hkn'],λq hq=>by simp (disch:=omega) only[wt,seval,reduceCtorEq,Nat.reduceEqDiff,mrows_len,mrows_at,mrows_take,hrows_len,hr q hq,Nat.add_left_cancel_iff,Nat.ne_of_lt hq,key_ne q],by rw[<-nrmv_take hjl],?_⟩,by omega⟩
   (repeat' apply And.intro)<;>first|rfl|omega
  ·
   obtain rfl:j=m.length:=by omega
   have hnw:nrmv ((m.getD i []).take m.length)=nrow m i:=by rw[List.take_of_length_le (by omega)];rfl
   rw[hnw]at hw;simp (disch:=omega) only[wt,seval,reduceCtorEq,Nat.reduceEqDiff,mrows_len,mrows_at,mrows_take,hrows_len,hF,hN,Nat.add_zero,hw,hkn,hkn',hki];refine⟨⟨i+1,sa+1,s2,λq=>if q=i then st else s q,by omega,λq hq=>?_,?_,λq hq=>?_,?_⟩,by omega⟩
   .rcases Nat.lt_or_ge q i with h|h
    .exact hg q h
    .obtain rfl:q=i:=by omega
     exact hrl
   .rw[<-hrows_snoc]
   .rcases Nat.lt_or_ge q i with h|h
    .simp (disch:=omega) only[wt,seval,reduceCtorEq,Nat.reduceEqDiff,mrows_len,mrows_at,mrows_take,hrows_len,hr q h,key_ne q];rw[if_neg (by omega)]
    .obtain rfl:q=i:=by omega
     simp (disch:=omega) only[wt,seval,reduceCtorEq,Nat.reduceEqDiff,mrows_len,mrows_at,mrows_take,hrows_len,hw,hkn]
   ·(repeat' apply And.intro)<;>first|rfl|omega
 obtain rfl:i=m.length:=by omega
 have hr0:∀j,j<m.length->H (1000+j)=.blk false (s j) 32 2 (raws (srow (mq m) m.length 0 j)):=λj hj=>by rw[hr j hj,nrow_srow (rows_all hall hj)]
 clear hr;have hg0:Gs (mq m) (2^22) 0:=⟨mq_cd hm,λl hl=>absurd hl (by omega)⟩;have el:canon 1=canon (lstq (mq m) 0):=by rw[lstq,pvt];rfl
 generalize mq m=A0 at *;generalize hn:m.length=n at *;simp (disch:=omega) only[wt,seval,reduceCtorEq,Nat.reduceEqDiff,mrows_len,mrows_at,mrows_take,hrows_len,hF];refine call_by (zo1) (by first|rfl|(simp only[tocvs,tocv,toboxes,tobox,updH_at,Nat.reduceEqDiff,↓reduceIte,hF,hN,Nat.add_zero];rfl)) (by simp) ?_;simp (disch:=omega) only[wt,seval,reduceCtorEq,Nat.reduceEqDiff,mrows_len,mrows_at,mrows_take,hrows_len,hF,hN,Nat.add_zero];refine aloop_by (λf H=>∃(k sa s10 s2:Nat) (A:Nat->RowQ) (hd s:Nat->Nat) (tn:Bool),k<=n/\Gs A (2^22) k/\sgb tn*gdt (n-k) k A=gdt n 0 A0/\H 4=.nst sa 22 (hrows hd s n)/\(∀q,1000<=hd q)/\(∀q r,q<n->r<n->hd q=hd r->q=r)/\(∀q,q<n->H (hd q)=.blk false (s q) 32 2 (raws (srow A n k q)))/\f 49=.iv (.int .i64 k)/\f 48=.iv (.int .i64 n)/\f 4=.hs 4 sa/\f 10=.hp 10 s10 0 0/\H 10=.blk false s10 32 2 [prow (canon (lstq A k))]/\f 11=.iv (.bool tn)/\f 2=.hp 2 s2 0 0/\H 2=.blk false s2 32 2 [[.bool false,.sl []]]/\f 3=.iv (.int .i64 0)) (λf H=>(n-intAt f 49).toNat) ?_ ?_
 .refine⟨0,sa,(H 10).stamp+1,s2,A0,(1000 + ·),s,false,by omega,hg0,by rw[Nat.sub_zero];exact Rat.one_mul _,by simp (disch:=omega) only[wt,seval,reduceCtorEq,Nat.reduceEqDiff,mrows_len,mrows_at,mrows_take,hrows_len,hN],λq=>Nat.le_add_right _ _,λq r _ _ h=>Nat.add_left_cancel h,λq hq=>by simp (disch:=omega) only[wt,seval,reduceCtorEq,Nat.reduceEqDiff,mrows_len,mrows_at,mrows_take,hrows_len,hr0 q hq,key_ne q],?_⟩;simp (disch:=omega) only[wt,seval,reduceCtorEq,Nat.reduceEqDiff,mrows_len,mrows_at,mrows_take,hrows_len,hF,el]
 rintro f H ⟨k,sa,s10,s2,A,hd,s,tn,hk,hG,hgd,hN,hge,hinj,hr,hF⟩;rw[intAt_of hF.1];simp (disch:=omega) only[wt,seval,reduceCtorEq,Nat.reduceEqDiff,mrows_len,mrows_at,mrows_take,hrows_len,hF];have hne:∀q x,x<1000->(hd q=x)=False:=λq x hx=>eq_false (by have:=hge q;omega)
 have hne':∀q x,x<1000->(x=hd q)=False:=λq x hx=>eq_false (by have:=hge q;omega)
 refine if_by (λhlt=>?_) (λhlt=>?_)
 .have hlt':k<n:=by omega
  have hnk:((n:Int)-(k:Int)).toNat=n-k:=by omega
  simp (disch:=omega) only[wt,seval,reduceCtorEq,Nat.reduceEqDiff,mrows_len,mrows_at,mrows_take,hrows_len,hF,hN,Nat.add_zero,hnk];generalize (H 12).stamp+1=s12;refine frame_call (λf H=>H 4=.nst sa 22 (hrows hd s n)/\(∀q,q<n->H (hd q)=.blk false (s q) 32 2 (raws (srow A n k q)))/\f 49=.iv (.int .i64 k)/\f 48=.iv (.int .i64 n)/\f 4=.hs 4 sa/\f 10=.hp 10 s10 0 0/\H 10=.blk false s10 32 2 [prow (canon (lstq A k))]/\f 11=.iv (.bool tn)/\f 2=.hp 2 s2 0 0/\H 2=.blk false s2 32 2 [[.bool false,.sl []]]/\f 3=.iv (.int .i64 0)/\f 12=.hp 12 s12 0 0/\H 12=.blk false s12 3 1 [[.int .i64 k]])
   ⟨by simp (disch:=omega) only[wt,seval,reduceCtorEq,Nat.reduceEqDiff,mrows_len,mrows_at,mrows_take,hrows_len,hN],λq hq=>by simp (disch:=omega) only[wt,seval,reduceCtorEq,Nat.reduceEqDiff,mrows_len,mrows_at,mrows_take,hrows_len,hr q hq,hne q],?_⟩ (λf H hI=>?_)
  .simp (disch:=omega) only[wt,seval,reduceCtorEq,Nat.reduceEqDiff,mrows_len,mrows_at,mrows_take,hrows_len,hF]
  clear hN hr hF;obtain⟨hN,hr,hF⟩:=hI;obtain⟨c,ms,hc,hnr⟩:=nrows_of (H:=H) (hd:=hd) (s:=s) (R:=λq=>raws (srow A n k q)) (List.range' k (n-k)) (λq hq=>⟨false,_,_,hr q (by rw[List.mem_range']at hq;obtain⟨i,hi,rfl⟩:=hq;omega)⟩);rw[show (List.range' k (n-k)).map (λq=>[IV.sl (raws (srow A n k q))])=mrows ((List.range' k (n-k)).map (srow A n k)) by rw[mrows,List.map_map];rfl]at hnr;have di:=detidx_ok A n k hG hlt' h128;refine call_flatN di (by simp only[tocvsN,tocvN,tocv,toboxes,tobox,hN,hF,hrows_part,hnr];rfl) ?_ (.inr (by simp[FlatRes,FlatCV,FlatI])) ?_
  ·(repeat' apply And.intro)<;>first|trivial|exact hc|(rw[hrows_len];omega)|exact Nat.zero_lt_one
  simp (disch:=omega) only[wt,seval,reduceCtorEq,Nat.reduceEqDiff,mrows_len,mrows_at,mrows_take,hrows_len,hF];obtain⟨_,q2,q3,q4⟩:=fpv_spec A k (n-k) 0;have e1:n-k=(n-(k+1))+1:=by omega
  have hpi:pidx A n k=if fpv A k (n-k) 0=n-k then -1 else ((fpv A k (n-k) 0:Nat):Int):=rfl
  have gs1:=@gdt_none A (n-(k+1)) k;have gs2:=@gdt_stay A (n-(k+1)) k;have gs3:=@gdt_swap A (n-(k+1)) k;rw[<-e1]at gs1 gs2 gs3;generalize fpv A k (n-k) 0=p at *;by_cases hpn:p=n-k
  .have hz:gdt n 0 A0=0:=by rw[<-hgd,gs1 hpn];exact Rat.mul_zero _
   rw[if_pos hpn]at hpi;rw[hpi];refine if_by (λh=>?_) (λh=>absurd h (by omega));simp (disch:=omega) only[wt,seval,reduceCtorEq,Nat.reduceEqDiff,mrows_len,mrows_at,mrows_take,hrows_len,hF];refine call_by (zo0) (by first|rfl|(simp only[tocvs,tocv,toboxes,tobox,updH_at,Nat.reduceEqDiff,↓reduceIte,hF];rfl)) (by simp) ?_;simp (disch:=omega) only[wt,seval,reduceCtorEq,Nat.reduceEqDiff,mrows_len,mrows_at,mrows_take,hrows_len,hF];rw[hz]
   try rfl
  rw[if_neg hpn]at hpi;rw[hpi];have hpk:k+p<n:=by omega
  have hpiv:=q4 (by omega);refine if_by (λh=>absurd h (by omega)) (λh=>?_);simp (disch:=omega) only[wt,seval,reduceCtorEq,Nat.reduceEqDiff,mrows_len,mrows_at,mrows_take,hrows_len,hF]
  refine if_cut (λf H=>∃(sa:Nat) (A:Nat->RowQ) (hd s:Nat->Nat) (tn:Bool),Gs A (2^22) (k+1)/\sgb tn*gdt (n-(k+1)) (k+1) A=gdt n 0 A0/\H 4=.nst sa 22 (hrows hd s n)/\(∀q,1000<=hd q)/\(∀q r,q<n->r<n->hd q=hd r->q=r)/\(∀q,q<n->H (hd q)=.blk false (s q) 32 2 (raws (srow A n k q))) /\
    f 49=.iv (.int .i64 k)/\f 48=.iv (.int .i64 n)/\f 4=.hs 4 sa/\f 10=.hp 10 s10 0 0/\H 10=.blk false s10 32 2 [prow (canon (lstq A k))]/\f 11=.iv (.bool tn)/\f 2=.hp 2 s2 0 0/\H 2=.blk false s2 32 2 [[.bool false,.sl []]]/\f 3=.iv (.int .i64 0)/\f 12=.hp 12 s12 0 0/\H 12=.blk false s12 3 1 [[.int .i64 k]]) ?_ (λf H hI=>?_)
  .refine if_by (λh0=>?_) (λh0=>?_)
   .have ekp:(k:Int)+(p:Int)=((k+p:Nat):Int):=by omega
    have h1:=hrows_at hd s hlt';have h2:=hrows_at hd s hpk;refine .inl ⟨tmps_by (by kernel_rfl),?_⟩;have r1:=hr k hlt';have r2:=hr (k+p) hpk;have g1:=hge k;have g2:=hge (k+p);simp (disch:=omega) only[wt,seval,reduceCtorEq,Nat.reduceEqDiff,mrows_len,mrows_at,mrows_take,hrows_len,hF,hN,Nat.add_zero,ekp,h1,h2,r1,r2,hne,hne',List.length_set];refine⟨logN_by (by simp (disch:=omega) only[capL_cons,capL_nil,List.map_cons,List.map_nil,List.cons_append,List.nil_append,List.append_nil,capN_lt,capN_ge];rfl) (by kernel_rfl),?_⟩;have hs:∀i,i<k->swp k (k+p) i=i:=λi hi=>swp_lt (Nat.le_refl k) (by omega) hi
    refine⟨sa,λr=>A (swp k (k+p) r),λj=>hd (swp k (k+p) j),λj=>s (swp k (k+p) j),!tn,?_,?_,?_,λq=>hge _,λq r hq hr' e=>?_,λq hq=>?_,rfl,?_,rfl⟩
    .refine(hG.perm hs).next ?_;rw[gsq_perm A _ k hs k (Nat.le_refl k),show swp k (k+p) k=k+p from if_pos rfl];exact hpiv
    .rw[<-hgd,gs3 rfl hpn (by omega)];cases tn<;>simp only[sgb,Bool.not_true,Bool.not_false,if_true,if_false,Bool.false_eq_true]<;>grind
    .rw[hrows_swap hd s hlt' hpk]
    .exact swp_inj (hinj _ _ (swp_in hlt' hpk hq) (swp_in hlt' hpk hr') e)
    .have hx:=hge (swp k (k+p) q);show (if hd (swp k (k+p) q)=4 then _ else if hd (swp k (k+p) q)=4 then _ else H (hd (swp k (k+p) q)))=_;rw[if_neg (by omega),if_neg (by omega),hr _ (swp_in hlt' hpk hq),srow_swap]
    .rw[lstq_perm hs (Nat.le_refl k)]
   .obtain rfl:p=0:=by omega
    simp (disch:=omega) only[wt,seval,reduceCtorEq,Nat.reduceEqDiff,mrows_len,mrows_at,mrows_take,hrows_len,hF,hN,Nat.add_zero];refine⟨sa,A,hd,s,tn,hG.next hpiv,?_,rfl,hge,hinj,hr,rfl,rfl,rfl⟩;rw[<-hgd,gs2 rfl]
  .clear hN hr hF hge hinj hgd hnr hne hne' hpiv q3 q4 gs1 gs2 gs3 di;obtain⟨sa,A1,hd,s,tn,hg1,hgd,hN,hge,hinj,hr,hF⟩:=hI;have hgk:=hg1.mono (Nat.le_succ k);have hpk:=hg1.p k (Nat.lt_succ_self k);have hb:=bz_small (k:=k+1) (by omega);have hbk:=bz_small (k:=k) (by omega);have zl0:=hgk.lst;have hl0:=hgk.lst_ne;have hne:∀q x,x<1000->(hd q=x)=False:=λq x hx=>eq_false (by have:=hge q;omega)
   have hne':∀q x,x<1000->(x=hd q)=False:=λq x hx=>eq_false (by have:=hge q;omega)
   have hgk1:=hge k;have ak:=hrows_at hd s hlt';simp (disch:=omega) only[wt,seval,reduceCtorEq,Nat.reduceEqDiff,mrows_len,mrows_at,mrows_take,hrows_len,hF];refine aloop_by (λf H=>∃(i:Nat),k<i/\i<=n/\H 4=.nst sa 22 (hrows hd s n)/\(∀q,q<n->H (hd q)=.blk false (s q) 32 2 (raws (irow A1 n k i (k+1) q)))/\f 14=.iv (.int .i64 i)/\f 49=.iv (.int .i64 k)/\f 48=.iv (.int .i64 n)/\f 4=.hs 4 sa/\f 10=.hp 10 s10 0 0/\H 10=.blk false s10 32 2 [prow (canon (lstq A1 k))]/\f 11=.iv (.bool tn)/\f 2=.hp 2 s2 0 0/\H 2=.blk false s2 32 2 [[.bool false,.sl []]]/\f 3=.iv (.int .i64 0)/\f 12=.hp 12 s12 0 0/\H 12=.blk false s12 3 1 [[.int .i64 k]]) (λf H=>(n-intAt f 14).toNat) ?_ ?_
   .refine⟨k+1,by omega,by omega,hN,λq hq=>by rw[irow_first];exact hr q hq,?_⟩;simp (disch:=omega) only[wt,seval,reduceCtorEq,Nat.reduceEqDiff,mrows_len,mrows_at,mrows_take,hrows_len,hF,show ((k+1:Nat):Int)=(k:Int)+1 from rfl]
   rintro f H ⟨i,hki,hi,hN,hr,hF⟩;rw[intAt_of hF.1];simp (disch:=omega) only[wt,seval,reduceCtorEq,Nat.reduceEqDiff,mrows_len,mrows_at,mrows_take,hrows_len,hF];simp (disch:=omega) only[wt,seval,reduceCtorEq,Nat.reduceEqDiff,mrows_len,mrows_at,mrows_take,hrows_len,hF,hN,Nat.add_zero];refine if_by (λhlt=>?_) (λhlt=>?_)
   .have hi':i<n:=by omega
    have ai:=hrows_at hd s hi';have hgi1:=hge i;simp (disch:=omega) only[wt,seval,reduceCtorEq,Nat.reduceEqDiff,mrows_len,mrows_at,mrows_take,hrows_len,hF];refine aloop_by (λf H=>∃(j:Nat),k<j/\j<=n/\H 4=.nst sa 22 (hrows hd s n)/\(∀q,q<n->H (hd q)=.blk false (s q) 32 2 (raws (irow A1 n k i j q)))/\f 15=.iv (.int .i64 j)/\f 14=.iv (.int .i64 i)/\f 49=.iv (.int .i64 k)/\f 48=.iv (.int .i64 n)/\f 4=.hs 4 sa/\f 10=.hp 10 s10 0 0/\H 10=.blk false s10 32 2 [prow (canon (lstq A1 k))]/\f 11=.iv (.bool tn)/\f 2=.hp 2 s2 0 0/\H 2=.blk false s2 32 2 [[.bool false,.sl []]]/\f 3=.iv (.int .i64 0)/\f 12=.hp 12 s12 0 0/\H 12=.blk false s12 3 1 [[.int .i64 k]]) (λf H=>(n-intAt f 15).toNat) ?_ ?_
    .refine⟨k+1,by omega,by omega,hN,hr,?_⟩;simp (disch:=omega) only[wt,seval,reduceCtorEq,Nat.reduceEqDiff,mrows_len,mrows_at,mrows_take,hrows_len,hF,show ((k+1:Nat):Int)=(k:Int)+1 from rfl]
    rintro f H ⟨j,hkj,hj,hN,hr,hF⟩;rw[intAt_of hF.1];simp (disch:=omega) only[wt,seval,reduceCtorEq,Nat.reduceEqDiff,mrows_len,mrows_at,mrows_take,hrows_len,hF];simp (disch:=omega) only[wt,seval,reduceCtorEq,Nat.reduceEqDiff,mrows_len,mrows_at,mrows_take,hrows_len,hF,hN,Nat.add_zero];refine if_by (λhlt=>?_) (λhlt=>?_)
    .have hj':j<n:=by omega
     have ri:=hr i hi';have rk:=hr k hlt';obtain⟨c1,c2,c3,c4⟩:=siq_at A1 k i j hki hkj;have li:=irow_len A1 n k i j i;have lk:=irow_len A1 n k i j k;have e1:=irow_at A1 k i j i hj';have e2:=irow_at A1 k i j k hlt';have e3:=irow_at A1 k i j i hlt';have e4:=irow_at A1 k i j k hj';rw[c1]at e1;rw[c2]at e2;rw[c3]at e3;rw[c4]at e4;have z1:=(hgk.mi i j).2;have z2:=(hgk.mi k k).2;have z3:=(hgk.mi i k).2;have z4:=(hgk.mi k j).2;have z5:=(hg1.mi i j).2;have z6:=zl_mul (miq A1 k i j) (miq A1 k k k);have z7:=zl_mul (miq A1 k i k) (miq A1 k k j);have z8:=zl_mul (miq A1 (k+1) i j) (lstq A1 k);have m1:=zmul_ok (canon (miq A1 k i j)) (canon (miq A1 k k k)) ((sz_canon _).mono (by omega)) ((sz_canon _).mono (by omega));have m2:=zmul_ok (canon (miq A1 k i k)) (canon (miq A1 k k j)) ((sz_canon _).mono (by omega)) ((sz_canon _).mono (by omega));have sb:=zsub_ok (canon (miq A1 k i j*miq A1 k k k)) (canon (miq A1 k i k*miq A1 k k j)) ((sz_canon _).mono (by omega)) ((sz_canon _).mono (by omega));rw[iv_canon,iv_canon]at m1 m2 sb;rw[hgk.step hpk]at sb;have ex:=zexact_ok (canon (miq A1 (k+1) i j*lstq A1 k)) (canon (lstq A1 k)) ((sz_canon _).mono (by omega)) ((sz_canon _).mono (by omega)) (by rw[iv_canon];exact hl0) (by rw[iv_canon,iv_canon];exact Int.dvd_mul_left _ _);rw[iv_canon,iv_canon,Int.mul_ediv_cancel _ hl0]at ex;refine .inl ⟨tmps_by (by kernel_rfl),?_⟩;simp (disch:=omega) only[wt,seval,reduceCtorEq,Nat.reduceEqDiff,mrows_len,mrows_at,mrows_take,hrows_len,hF,hN,Nat.add_zero,ai,ak,ri,rk,li,lk,e1,e2,e3,e4,hne,hne'];refine call_by (m1) (by first|rfl|(simp only[tocvs,tocv,toboxes,tobox,updH_at,Nat.reduceEqDiff,↓reduceIte,hF,hN,Nat.add_zero,ai,ak,ri,rk,li,lk,e1,e2,e3,e4,hne,hne'];rfl)) (by simp) ?_;simp (disch:=omega) only[wt,seval,reduceCtorEq,Nat.reduceEqDiff,mrows_len,mrows_at,mrows_take,hrows_len,hF,hN,Nat.add_zero,ai,ak,ri,rk,li,lk,e1,e2,e3,e4,hne,hne'];refine call_by (m2) (by first|rfl|(simp only[tocvs,tocv,toboxes,tobox,updH_at,Nat.reduceEqDiff,↓reduceIte,hF,hN,Nat.add_zero,ai,ak,ri,rk,li,lk,e1,e2,e3,e4,hne,hne'];rfl)) (by simp) ?_;simp (disch:=omega) only[wt,seval,reduceCtorEq,Nat.reduceEqDiff,mrows_len,mrows_at,mrows_take,hrows_len,hF,hN,Nat.add_zero,ai,ak,ri,rk,li,lk,e1,e2,e3,e4,hne,hne'];refine call_by (sb) (by first|rfl|(simp only[tocvs,tocv,toboxes,tobox,updH_at,Nat.reduceEqDiff,↓reduceIte,hF,hN,Nat.add_zero,ai,ak,ri,rk,li,lk,e1,e2,e3,e4,hne,hne'];rfl)) (by simp) ?_;simp (disch:=omega) only[wt,seval,reduceCtorEq,Nat.reduceEqDiff,mrows_len,mrows_at,mrows_take,hrows_len,hF,hN,Nat.add_zero,ai,ak,ri,rk,li,lk,e1,e2,e3,e4,hne,hne'];refine⟨logN_by (by simp (disch:=omega) only[capL_cons,capL_nil,List.map_cons,List.map_nil,List.cons_append,List.nil_append,List.append_nil,capN_lt,capN_ge];rfl) (by kernel_rfl),?_⟩;refine .inl ⟨tmps_by (by kernel_rfl),?_⟩;refine call_by (ex) (by first|rfl|(simp only[tocvs,tocv,toboxes,tobox,updH_at,Nat.reduceEqDiff,↓reduceIte,hF,hN,Nat.add_zero,ai,ak,ri,rk,li,lk,e1,e2,e3,e4,hne,hne'];rfl)) (by simp) ?_;simp (disch:=omega) only[wt,seval,reduceCtorEq,Nat.reduceEqDiff,mrows_len,mrows_at,mrows_take,hrows_len,hF,hN,Nat.add_zero,ai,ak,ri,rk,li,lk,e1,e2,e3,e4,hne,hne'];refine⟨logN_by (by simp (disch:=omega) only[capL_cons,capL_nil,List.map_cons,List.map_nil,List.cons_append,List.nil_append,List.append_nil,capN_lt,capN_ge];rfl) (by kernel_rfl),?_⟩;refine⟨⟨j+1,by omega,by omega,λq hq=>?_,?_⟩,by omega⟩
     .by_cases hqi:q=i
      .subst hqi;rw[if_pos rfl,irow_set A1 hki hkj]
      .rw[if_neg (λe=>hqi (hinj q i hq hi' e)),irow_ne A1 n k i j hqi];exact hr q hq
     ·(repeat' apply And.intro)<;>first|rfl|omega
    .obtain rfl:j=n:=by omega
     simp (disch:=omega) only[wt,seval,reduceCtorEq,Nat.reduceEqDiff,mrows_len,mrows_at,mrows_take,hrows_len,hF];refine⟨⟨i+1,by omega,by omega,hN,λq hq=>?_,?_⟩,by omega⟩
     .rw[hr q hq,irow_row]
     ·(repeat' apply And.intro)<;>first|rfl|omega
   .obtain rfl:i=n:=by omega
    have rk:=hr k hlt';rw[irow_last A1 hlt']at rk;have e1:=srow_at A1 (k+1) k hlt';rw[stq_diag]at e1;have lk:=srow_len A1 i (k+1) k;simp (disch:=omega) only[wt,seval,reduceCtorEq,Nat.reduceEqDiff,mrows_len,mrows_at,mrows_take,hrows_len,hF];refine .inl ⟨tmps_by (by kernel_rfl),?_⟩;simp (disch:=omega) only[wt,seval,reduceCtorEq,Nat.reduceEqDiff,mrows_len,mrows_at,mrows_take,hrows_len,hF,hN,Nat.add_zero,ak,rk,lk,e1];refine⟨logN_by (by simp (disch:=omega) only[capL_cons,capL_nil,List.map_cons,List.map_nil,List.cons_append,List.nil_append,List.append_nil,capN_lt,capN_ge];rfl) (by kernel_rfl),?_⟩;refine⟨⟨k+1,sa,s10,s2,A1,hd,s,tn,by omega,hg1,hgd,rfl,hge,hinj,λq hq=>?_,?_⟩,by omega⟩
    .have:=hge q;rw[if_neg (by omega),hr q hq,irow_last A1 hq]
    ·(repeat' apply And.intro)<;>first|rfl|omega
 .obtain rfl:k=n:=by omega
  have zl0:=hG.lst;have hbk:=bz_small (k:=k) (by omega);rw[Nat.sub_self,gdt]at hgd;have zn:=zneg_ok (canon (lstq A k)) ((sz_canon _).mono (by omega));have zm:=znorm_ok (canon (lstq A k)) ((sz_canon _).mono (by omega));rw[iv_canon]at zn zm;cases tn with
  |true =>
   have e:(gdt k 0 A0).num = -lstq A k:=by rw[<-hgd,lstq,<-Rat.neg_num];congr 1;simp only[sgb,if_true];grind
   rw[e];simp (disch:=omega) only[wt,seval,reduceCtorEq,Nat.reduceEqDiff,mrows_len,mrows_at,mrows_take,hrows_len,hF];refine call_by (zn) (by first|rfl|(simp only[tocvs,tocv,toboxes,tobox,updH_at,Nat.reduceEqDiff,↓reduceIte,hF];rfl)) (by simp) ?_;simp (disch:=omega) only[wt,seval,reduceCtorEq,Nat.reduceEqDiff,mrows_len,mrows_at,mrows_take,hrows_len,hF]
   try rfl
  |false =>
   have e:(gdt k 0 A0).num=lstq A k:=by rw[<-hgd,lstq];congr 1;simp only[sgb];exact Rat.one_mul _
   rw[e];simp (disch:=omega) only[wt,seval,reduceCtorEq,Nat.reduceEqDiff,mrows_len,mrows_at,mrows_take,hrows_len,hF];refine call_by (zm) (by first|rfl|(simp only[tocvs,tocv,toboxes,tobox,updH_at,Nat.reduceEqDiff,↓reduceIte,hF];rfl)) (by simp) ?_;simp (disch:=omega) only[wt,seval,reduceCtorEq,Nat.reduceEqDiff,mrows_len,mrows_at,mrows_take,hrows_len,hF]
   try rfl
def alone (p:List RowQ)(F:List RowQ->Rat):List RowQ->Rat:=λl=>F (p++l)
theorem alone_mlt {F:List RowQ->Rat}(h:MltQ F)(r:List RowQ):MltQ (alone r F):=λp q a b u v=>by
 have:=h (r++p) q a b u v;simpa only[alone,List.append_assoc] using this
theorem alone_alt {F:List RowQ->Rat}(h:AltQ F)(r:List RowQ):AltQ (alone r F):=λp q u=>by
 have:=h (r++p) q u;simpa only[alone,List.append_assoc] using this
def sgn (n:Nat):Rat:=if n%2=0 then 1 else -1
theorem sgn_succ (n:Nat):sgn (n+1) = -sgn n:=by
 unfold sgn;rcases Nat.mod_two_eq_zero_or_one n with h|h
 .rw[if_neg (by omega),if_pos h]
 .rw[if_pos (by omega),if_neg (by omega)];rfl
theorem sgn_add (m n:Nat):sgn (m+n)=sgn m*sgn n:=by
 induction n with
 |zero=>rw[Nat.add_zero];exact(Rat.mul_one _).symm
 |succ n ih=>rw[<-Nat.add_assoc,sgn_succ,sgn_succ,ih];grind
theorem q_front {F:List RowQ->Rat}(hM:MltQ F)(hA:AltQ F)(u:RowQ)(q:List RowQ):∀p r,F (r++(p++u::q))=sgn p.length*F (r++u::(p++q))
 |[],r=>by rw[List.nil_append,List.nil_append,show sgn ([]:List RowQ).length=1 from rfl,Rat.one_mul]
 |x::p,r=>by
  have ih:=q_front hM hA u q p (r++[x]);have hs:=q_swap hM hA r (p++q) x u;simp only[List.append_assoc,List.cons_append,List.nil_append]at ih;rw[List.cons_append,ih,hs,List.length_cons,sgn_succ,List.cons_append]
  grind
theorem q_blocks {F:List RowQ->Rat}(hM:MltQ F)(hA:AltQ F)(p:List RowQ):∀q r s,F (r++(p++(q++s)))=sgn (p.length*q.length)*F (r++(q++(p++s)))
 |[],r,s=>by rw[List.nil_append,List.nil_append,List.length_nil,Nat.mul_zero,show sgn 0=1 from rfl,Rat.one_mul]
 |u::q,r,s=>by
  have ih:=q_blocks hM hA p q (r++[u]) s;simp only[List.append_assoc,List.cons_append,List.nil_append]at ih;rw[List.cons_append,q_front hM hA,ih,List.length_cons,Nat.mul_succ,sgn_add,List.cons_append]
  grind
theorem q_mem {F:List RowQ->Rat}(hM:MltQ F)(hA:AltQ F){u:RowQ}{L:List RowQ}(h:u∈L)(p:List RowQ):F (p++u::L)=0:=by
 obtain⟨m,q,rfl⟩:=List.append_of_mem h;exact q_far hM hA u q m p
theorem q_add {F:List RowQ->Rat}(hM:MltQ F)(hA:AltQ F){u:RowQ}{L:List RowQ}(h:u∈L)(p:List RowQ)(a b:Rat)(v:RowQ):F (p++lcq a b v u::L)=a*F (p++v::L):=by
 rw[hM p L a b v u,q_mem hM hA h]
 grind
def Low (N:Nat)(f:RowQ):Prop:=∀k,N<=k->f k=0
theorem Low.lcq {N:Nat}{f g:RowQ}(hf:Low N f)(hg:Low N g)(a b:Rat):Low N (lcq a b f g):=λk hk=>by
 simp only[Go.Proofs.Ytljmoppgihphlaa.lcq,hf k hk,hg k hk]
 grind
theorem Low.mono {M N:Nat}{f:RowQ}(h:Low M f)(hl:M<=N):Low N f:=λk hk=>h k (by omega)
theorem Low.opq {N:Nat}{u v:RowQ}(hu:Low (N+1) u)(hv:Low (N+1) v)(h:u N≠0):Low N (opq N u v):=λk hk=>by
 rcases Nat.eq_or_lt_of_le hk with e|e
 .subst e;simp only[Go.Proofs.Ytljmoppgihphlaa.opq,Go.Proofs.Ytljmoppgihphlaa.lcq]
  grind
 .exact hv.lcq hu 1 _ k e
theorem pick (N:Nat)(S:List RowQ):(∀v∈S,v N=0)\/∃p u q,S=p++u::q/\u N≠0:=by
 by_cases h:∀v∈S,v N=0
 .exact .inl h
 .refine .inr ?_;have ⟨u,hu⟩:=Classical.not_forall.1 h;have ⟨h1,h2⟩:=Classical.not_imp.1 hu;obtain⟨p,q,rfl⟩:=List.append_of_mem h1;exact⟨p,u,q,rfl,h2⟩
theorem low_step {N:Nat}{S:List RowQ}(h:∀v∈S,Low (N+1) v)(h0:∀v∈S,v N=0):∀v∈S,Low N v:=λv hv k hk=>by
 rcases Nat.eq_or_lt_of_le hk with e|e
 .subst e;exact h0 v hv
 .exact h v hv k e
theorem low_ops {N:Nat}{u:RowQ}{L:List RowQ}(hu:Low (N+1) u)(h:∀v∈L,Low (N+1) v)(h0:u N≠0):∀v∈L.map (opq N u),Low N v:=λv hv=>by
 obtain⟨w,hw,rfl⟩:=List.mem_map.1 hv;exact hu.opq (h w hw) h0
theorem front_ops {F:List RowQ->Rat}(hM:MltQ F)(hA:AltQ F)(N:Nat)(p:List RowQ)(u:RowQ)(q:List RowQ):F (p++u::q)=sgn p.length*F (u::(p++q).map (opq N u)):=by
 have h1:=q_front hM hA u q p [];have h2:=q_allops hM hA N u (p++q) [];simp only[List.nil_append]at h1 h2;rw[h1,h2]
theorem dim_zero:∀(N:Nat) {F:List RowQ->Rat} (hM:MltQ F) (hA:AltQ F) (S:List RowQ),(∀v∈S,Low N v)->N<S.length->F S=0
 |0,F,hM,hA,[],_,hl=>absurd hl (Nat.lt_irrefl _)
 |0,F,hM,hA,u::S,h,_=>by
  have e:u=lcq 0 0 u u:=by
   funext k
   rw[h u (by simp) k (Nat.zero_le _),lcq,h u (by simp) k (Nat.zero_le _)]
   grind
  have h1:=hM [] S 0 0 u u;rw[List.nil_append,<-e]at h1;rw[List.nil_append]at h1;rw[h1]
  grind
 |N+1,F,hM,hA,S,h,hl=>by
  rcases pick N S with h0|⟨p,u,q,rfl,hu⟩
  .exact dim_zero N hM hA S (low_step h h0) (by omega)
  .have hp:∀v∈p++q,Low (N+1) v:=λv hv=>h v (by
    rcases List.mem_append.1 hv with h|h
    .exact List.mem_append_left _ h
    .exact List.mem_append_right _ (List.mem_cons_of_mem _ h))
   have ih:=dim_zero N (alone_mlt hM [u]) (alone_alt hA [u]) ((p++q).map (opq N u)) (low_ops (h u (by simp)) hp hu) (by simp at hl ⊢;omega);rw[front_ops hM hA N,show F (u::(p++q).map (opq N u))=alone [u] F ((p++q).map (opq N u)) from rfl,ih];exact Rat.mul_zero _
def dp:Nat->List RowQ->Rat
 |0,[]=>1
 |0,_::_=>0
 |n+1,l=>altq (dp n) n [] l
theorem dp_zero (p:List RowQ)(x:RowQ)(q:List RowQ):dp 0 (p++x::q)=0:=by cases p<;>rfl
theorem dp_mlt:∀n,MltQ (dp n)
 |0=>λp q a b u v=>by rw[dp_zero,dp_zero,dp_zero];grind
 |n+1=>λp q a b u v=>altq_mlt (dp_mlt n) n q a b u v p []
theorem dp_alt:∀n,AltQ (dp n)
 |0=>λp q u=>dp_zero p u (u::q)
 |n+1=>λp q u=>altq_alt (dp_alt n) n q u p []
theorem dp_top (n:Nat)(u:RowQ)(L:List RowQ)(h:∀v∈L,v n=0):dp (n+1) (u::L)=u n*dp n L:=by
 rw[dp,altq,altq_zero _ _ h,List.nil_append]
 grind
theorem dp_none (n:Nat)(L:List RowQ)(h:∀v∈L,v n=0):dp (n+1) L=0:=by
 rw[dp,altq_zero _ _ h]
def xp (n:Nat):RowQ:=λk=>if k=n then 1 else 0
def shf (s:Nat)(f:RowQ):RowQ:=λk=>if s<=k then f (k-s) else 0
def sh (f:RowQ):Nat->List RowQ
 |0=>[]
 |n+1=>shf n f::sh f n
theorem sh_len (f:RowQ):∀n,(sh f n).length=n
 |0=>rfl
 |n+1=>by rw[sh,List.length_cons,sh_len f n]
theorem sh_mem (f:RowQ){i:Nat}:∀n,i<n->shf i f∈sh f n
 |n+1,h=>by
  rw[sh];rcases Nat.eq_or_lt_of_le (Nat.le_of_lt_succ h) with e|e
  .subst e;exact List.mem_cons_self
  .exact List.mem_cons_of_mem _ (sh_mem f n e)
theorem of_sh {f v:RowQ}:∀{n},v∈sh f n->∃i,i<n/\v=shf i f
 |n+1,h=>by
  rw[sh]at h;rcases List.mem_cons.1 h with e|e
  .exact⟨n,Nat.lt_succ_self n,e⟩
  .obtain⟨i,h1,h2⟩:=of_sh e;exact⟨i,by omega,h2⟩
theorem shf_shf (s t:Nat)(f:RowQ):shf s (shf t f)=shf (s+t) f:=by
 funext k
 unfold shf;by_cases h:s+t<=k
 .rw[if_pos (by omega),if_pos (by omega),if_pos h,Nat.sub_sub]
 .rw[if_neg h];split
  .rw[if_neg (by omega)]
  .rfl
theorem shf_low {n:Nat}(s:Nat){f:RowQ}(h:Low n f):Low (s+n) (shf s f):=λk hk=>by
 unfold shf;rw[if_pos (by omega)];exact h _ (by omega)
theorem shf_top {s n:Nat}(f:RowQ):shf s f (s+n)=f n:=by
 unfold shf;rw[if_pos (by omega),Nat.add_sub_cancel_left]
theorem sh_low {n m:Nat}{f:RowQ}(h:Low m f):∀v∈sh f n,Low (n+m-1) v:=λv hv=>by
 obtain⟨i,hi,rfl⟩:=of_sh hv;exact(shf_low i h).mono (by omega)
theorem shf_zero (f:RowQ):shf 0 f=f:=by
 funext k
 unfold shf;rw[if_pos (Nat.zero_le k),Nat.sub_zero]
theorem xp_low (n:Nat):Low (n+1) (xp n):=λk hk=>if_neg (by omega)
theorem sh_one (n:Nat):∀v∈sh (xp 0) n,Low n v:=λv hv=>(sh_low (xp_low 0) v hv).mono (by omega)
theorem base_form:∀(N:Nat) {F:List RowQ->Rat} (hM:MltQ F) (hA:AltQ F) (S:List RowQ),(∀v∈S,Low N v)->S.length=N->F S=dp N S*F (sh (xp 0) N)
 |0,F,hM,hA,[],_,_=>by rw[dp,Rat.one_mul];rfl
 |N+1,F,hM,hA,S,h,hl=>by
  rcases pick N S with h0|⟨p,u,q,rfl,hu⟩
  .rw[dp_none N S h0,dim_zero N hM hA S (low_step h h0) (by omega)];exact(Rat.zero_mul _).symm
  .have hp:∀v∈p++q,Low (N+1) v:=λv hv=>h v (by
    rcases List.mem_append.1 hv with h|h
    .exact List.mem_append_left _ h
    .exact List.mem_append_right _ (List.mem_cons_of_mem _ h))
   have hul:=h u (by simp);have lo:=low_ops hul hp hu;have ih:=base_form N (alone_mlt hM [u]) (alone_alt hA [u]) ((p++q).map (opq N u)) lo (by simp at hl ⊢;omega);have e1:=front_ops hM hA N p u q;have e2:=front_ops (dp_mlt (N+1)) (dp_alt (N+1)) N p u q;rw[dp_top N u _ λv hv=>lo v hv N (Nat.le_refl N)]at e2;rw[show F (u::(p++q).map (opq N u))=alone [u] F ((p++q).map (opq N u)) from rfl,ih]at e1;have hx:lcq 1 (-(u N)) u (xp N)=lcq 1 (-(u N)) u (xp N):=rfl;have lx:Low N (lcq 1 (-(u N)) u (xp N)):=λk hk=>by
    rcases Nat.eq_or_lt_of_le hk with e|e
    .subst e;simp only[lcq,xp,if_pos]
     grind
    .exact hul.lcq (xp_low N) 1 _ k e
   have e3:F (lcq 1 (-(u N)) u (xp N)::sh (xp 0) N)=0:=dim_zero N hM hA _ (λv hv=>by
    rcases List.mem_cons.1 hv with e|e
    .subst e;exact lx
    .exact sh_one N v e) (by rw[List.length_cons,sh_len];omega)
   have e4:=hM [] (sh (xp 0) N) 1 (-(u N)) u (xp N);rw[List.nil_append,e3,List.nil_append,List.nil_append]at e4;have e5:shf N (xp 0)=xp N:=by
    funext k
    unfold shf xp;by_cases hk:k=N
    .subst hk;rw[if_pos (Nat.le_refl _),if_pos (Nat.sub_self _),if_pos rfl]
    .rw[if_neg hk];split
     .rw[if_neg (by omega)]
     .rfl
   rw[e1,e2,sh,e5,show alone [u] F (sh (xp 0) N)=F (u::sh (xp 0) N) from rfl]
   grind
def zq:RowQ:=λ_=>0
def mulN (A:RowQ):Nat->RowQ->RowQ
 |0,_=>zq
 |k+1,f=>lcq 1 (A k) (mulN A k f) (shf k f)
theorem shf_lcq (s:Nat)(a b:Rat)(f g:RowQ):shf s (lcq a b f g)=lcq a b (shf s f) (shf s g):=by
 funext k
 unfold shf lcq;split<;>grind
theorem shf_zq (s:Nat):shf s zq=zq:=by
 funext k
 unfold shf zq;split<;>rfl
theorem mulN_lcq (A:RowQ)(a b:Rat)(f g:RowQ):∀k,mulN A k (lcq a b f g)=lcq a b (mulN A k f) (mulN A k g)
 |0=>by funext k;simp only[mulN,zq,lcq];grind
 |k+1=>by
  rw[mulN,mulN_lcq A a b f g k,shf_lcq,mulN,mulN]
  funext j
  simp only[lcq]
  grind
theorem shf_mulN (A:RowQ)(s:Nat)(f:RowQ):∀k,shf s (mulN A k f)=mulN A k (shf s f)
 |0=>shf_zq s
 |k+1=>by rw[mulN,shf_lcq,shf_mulN A s f k,mulN,shf_shf,shf_shf,Nat.add_comm s k]
theorem sh_mulN (A:RowQ)(k:Nat)(f:RowQ):∀n,sh (mulN A k f) n=(sh f n).map (mulN A k)
 |0=>rfl
 |n+1=>by rw[sh,sh_mulN A k f n,sh,List.map_cons,shf_mulN]
theorem mulN_one (A:RowQ):∀k j,mulN A k (xp 0) j=if j<k then A j else 0
 |0,j=>by rw[if_neg (by omega)];rfl
 |k+1,j=>by
  rw[mulN,lcq,mulN_one A k j];have e:shf k (xp 0) j=if j=k then 1 else 0:=by
   unfold shf xp;by_cases h:j=k
   .rw[if_pos (by omega),if_pos (by omega),if_pos h]
   .rw[if_neg h];split
    .rw[if_neg (by omega)]
    .rfl
  rw[e];by_cases h:j=k
  .subst h;rw[if_neg (by omega),if_pos rfl,if_pos (by omega)];grind
  .by_cases h2:j<k
   .rw[if_pos h2,if_neg h,if_pos (by omega)];grind
   .rw[if_neg h2,if_neg h,if_neg (by omega)];grind
theorem mulN_base {A:RowQ}{m:Nat}(h:Low m A):mulN A m (xp 0)=A:=by
 funext j
 rw[mulN_one];split
 .rfl
 .exact(h j (by omega)).symm
def mapF (g:RowQ->RowQ)(F:List RowQ->Rat)(r:List RowQ):List RowQ->Rat:=λl=>F (l.map g++r)
theorem mapF_mlt {F:List RowQ->Rat}(h:MltQ F){g:RowQ->RowQ}(hg:∀a b u v,g (lcq a b u v)=lcq a b (g u) (g v))(r:List RowQ):MltQ (mapF g F r):=λp q a b u v=>by
 have:=h (p.map g) (q.map g++r) a b (g u) (g v);simp only[mapF,List.map_append,List.map_cons,List.append_assoc,List.cons_append,hg];exact this
theorem mapF_alt {F:List RowQ->Rat}(h:AltQ F)(g:RowQ->RowQ)(r:List RowQ):AltQ (mapF g F r):=λp q u=>by
 have:=h (p.map g) (q.map g++r) (g u);simp only[mapF,List.map_append,List.map_cons,List.append_assoc,List.cons_append];exact this
def res (m n:Nat)(f g:RowQ):Rat:=dp (m+n) (sh f n++sh g m)
theorem res_turn (m n:Nat)(f g:RowQ):res n m g f=sgn (m*n)*res m n f g:=by
 have h:=q_blocks (dp_mlt (n+m)) (dp_alt (n+m)) (sh g m) (sh f n) [] [];rw[List.append_nil,List.append_nil,List.nil_append,List.nil_append,sh_len,sh_len]at h;rw[res,h,res,Nat.add_comm n m]
theorem kill_mul {F:List RowQ->Rat}(hM:MltQ F)(hA:AltQ F)(A g:RowQ)(s N:Nat)(p:List RowQ):∀k,s+k<=N->F (p++mulN A k (shf s g)::sh g N)=0
 |0,_=>by
  have h:=hM p (sh g N) 0 0 zq zq;rw[show lcq 0 0 zq zq=zq by funext k;simp only[lcq,zq];grind]at h;rw[mulN,h]
  grind
 |k+1,h=>by
  rw[mulN,shf_shf,q_add hM hA (sh_mem g N (by omega)),kill_mul hM hA A g s N p k (by omega)];exact Rat.mul_zero _
theorem take_lead {F:List RowQ->Rat}(hM:MltQ F)(hA:AltQ F)(A g:RowQ)(m:Nat):∀n p,F (p++(sh (mulN A (m+1) g) n++sh g m))=A m^n*F (p++sh g (n+m))
 |0,p=>by rw[Rat.pow_zero,Rat.one_mul,Nat.zero_add];rfl
 |n+1,p=>by
  have ih:=take_lead hM hA A g m n (p++[shf n (mulN A (m+1) g)]);simp only[List.append_assoc,List.cons_append,List.nil_append]at ih;have h:=hM p (sh g (n+m)) 1 (A m) (mulN A m (shf n g)) (shf (m+n) g);rw[kill_mul hM hA A g n (n+m) p m (Nat.le_refl _)]at h;rw[sh,List.cons_append,ih,shf_mulN,mulN,shf_shf,h,show n+1+m=(n+m)+1 by omega,sh,Nat.add_comm m n,Rat.pow_succ]
  grind
theorem top_steps {A g:RowQ}{m n:Nat}(hA:Low (m+1) A)(hg:Low (n+1) g):∀k,dp (k+n+m) (sh A (k+n)++sh g m)=A m^k*dp (n+m) (sh A n++sh g m)
 |0=>by rw[Rat.pow_zero,Rat.one_mul,Nat.zero_add]
 |k+1=>by
  rw[show k+1+n+m=(k+n+m)+1 by omega,show k+1+n=(k+n)+1 by omega,sh,List.cons_append,dp_top _ _ _ λv hv=>?_,top_steps hA hg k,shf_top,Rat.pow_succ]
  .grind
  .rcases List.mem_append.1 hv with h|h
   .exact sh_low hA v h _ (by omega)
   .exact sh_low hg v h _ (by omega)
theorem qpow_ne {a:Rat}(h:a≠0):∀n:Nat,a^n≠0
 |0=>by rw[Rat.pow_zero];decide +kernel
 |n+1=>λe=>by
  rw[Rat.pow_succ]at e;rcases Rat.mul_eq_zero.mp e with e|e
  .exact qpow_ne h n e
  .exact h e
theorem res_mul {A B G:RowQ}{m1 m2 n:Nat}(hA:Low (m1+1) A)(h0:A m1≠0)(hB:Low (m2+1) B)(hG:Low (n+1) G):res (m1+m2) n (mulN A (m1+1) B) G=res m1 n A G*res m2 n B G:=by
 have e1:=take_lead (dp_mlt (m1+m2+n)) (dp_alt (m1+m2+n)) A G m1 m2 (sh (mulN A (m1+1) B) n);have e2:=base_form (n+m2) (mapF_mlt (dp_mlt (m1+m2+n)) (λa b u v=>mulN_lcq A a b u v (m1+1)) (sh G m1)) (mapF_alt (dp_alt (m1+m2+n)) (mulN A (m1+1)) (sh G m1)) (sh B n++sh G m2) (λv hv=>by
  rcases List.mem_append.1 hv with h|h
  .exact(sh_low hB v h).mono (by omega)
  .exact(sh_low hG v h).mono (by omega)) (by rw[List.length_append,sh_len,sh_len])
 have e3:=top_steps hA hG m2;rw[show mapF (mulN A (m1+1)) (dp (m1+m2+n)) (sh G m1) (sh B n++sh G m2)=dp (m1+m2+n) (sh (mulN A (m1+1) B) n++(sh (mulN A (m1+1) G) m2++sh G m1)) by rw[mapF,List.map_append,<-sh_mulN,<-sh_mulN,List.append_assoc],e1,show mapF (mulN A (m1+1)) (dp (m1+m2+n)) (sh G m1) (sh (xp 0) (n+m2))=dp (m1+m2+n) (sh A (m2+n)++sh G m1) by rw[mapF,<-sh_mulN,mulN_base hA,Nat.add_comm n m2],show m1+m2+n=m2+n+m1 by omega,e3]at e2;have hp:=qpow_ne h0 m2;have r1:res (m1+m2) n (mulN A (m1+1) B) G=dp (m2+n+m1) (sh (mulN A (m1+1) B) n++sh G (m2+m1)):=by rw[res,show m1+m2+n=m2+n+m1 by omega,show m1+m2=m2+m1 by omega]
 have r2:res m1 n A G=dp (n+m1) (sh A n++sh G m1):=by rw[res,show m1+n=n+m1 by omega]
 have r3:res m2 n B G=dp (n+m2) (sh B n++sh G m2):=by rw[res,show m2+n=n+m2 by omega]
 rw[<-r1,<-r2,<-r3]at e2;generalize res m1 n A G=x at *;generalize res m2 n B G=y at *;generalize res (m1+m2) n (mulN A (m1+1) B) G=z at *;generalize A m1^m2=t at *;clear r1 r2 r3 e1 e3;have e4:t*(z-x*y)=0:=by grind
 rcases Rat.mul_eq_zero.mp e4 with e|e
 .exact absurd e hp
 .grind
def xk (k:Rat):RowQ:=λj=>if j=0 then -k else if j=1 then 1 else 0
theorem xk_low (k:Rat):Low 2 (xk k):=λj hj=>by unfold xk;rw[if_neg (by omega),if_neg (by omega)]
def evk (k:Rat):Nat->RowQ->Rat
 |0,g=>g 0
 |n+1,g=>g 0+k*evk k n λj=>g (j+1)
theorem evk_top (k c:Rat):∀n g,evk k (n+1) g=evk k n (lcq 1 (-g (n+1)) g (shf n (xk k)))
 |0,g=>by
  simp only[evk,lcq,shf,xk];simp only[Nat.le_refl,if_pos,Nat.sub_self]
  grind
 |n+1,g=>by
  have ih:=evk_top k c n λj=>g (j+1)
  rw[evk,ih,evk];have e1:(lcq 1 (-g (n+1+1)) g (shf (n+1) (xk k))) 0=g 0:=by
   simp only[lcq,shf];rw[if_neg (by omega)]
   grind
  have e2:(λj=>lcq 1 (-g (n+1+1)) g (shf (n+1) (xk k)) (j+1))=lcq 1 (-g (n+1+1)) (λj=>g (j+1)) (shf n (xk k)):=by
   funext j
   simp only[lcq,shf];by_cases h:n<=j
   .rw[if_pos (by omega),if_pos h,show j+1-(n+1)=j-n by omega]
   .rw[if_neg (by omega),if_neg h]
  rw[e1,e2]
theorem res_root (k:Rat):∀n G,Low (n+1) G->res 1 n (xk k) G=evk k n G
 |0,G,hG=>by
  rw[res,sh,List.nil_append,show (1:Nat)+0=0+1 from rfl,sh,sh,dp_top 0 _ _ (λv hv=>by cases hv),shf_zero,evk];exact Rat.mul_one _
 |n+1,G,hG=>by
  have hM:=dp_mlt (1+(n+1));have hA:=dp_alt (1+(n+1));have h:=q_rowop hM hA (shf n (xk k)) G (-G (n+1)) (sh (xk k) n) [];have ih:=res_root k n (lcq 1 (-G (n+1)) G (shf n (xk k))) λj hj=>by
   rcases Nat.eq_or_lt_of_le hj with e|e
   .subst e;simp only[lcq];rw[shf_top];unfold xk;rw[if_neg (by omega),if_pos rfl]
    grind
   .exact(hG.lcq ((shf_low n (xk_low k)).mono (by omega)) 1 _) j (by omega)
  rw[evk_top k 0,<-ih,res,sh,show sh G 1=[G] by rw[sh,sh,shf_zero],List.cons_append,<-h,res,show 1+(n+1)=(1+n)+1 by omega,dp_top _ _ _ λv hv=>?_,show sh (lcq 1 (-G (n+1)) G (shf n (xk k))) 1=[lcq 1 (-G (n+1)) G (shf n (xk k))] by rw[sh,sh,shf_zero]]
  .rw[show 1+n=n+1 by omega,shf_top,show xk k 1=1 by unfold xk;rw[if_neg (by omega),if_pos rfl],Rat.one_mul]
  .rcases List.mem_append.1 hv with h|h
   .exact sh_low (xk_low k) v h _ (by omega)
   .rw[List.mem_singleton.1 h];simp only[lcq];rw[show 1+n=n+1 by omega,shf_top];unfold xk;rw[if_neg (by omega),if_pos rfl]
    grind
theorem altq_map {F G:List RowQ->Rat}{g:RowQ->RowQ}{c d:Nat}:∀post pre,(∀v∈post,g v c=v d)->(∀l:List RowQ,G (l.map g)=F l)->altq G c (pre.map g) (post.map g)=altq F d pre post
 |[],pre,_,_=>rfl
 |v::post,pre,h,hF=>by
  have ih:=altq_map post (pre++[v]) (λw hw=>h w (List.mem_cons_of_mem _ hw)) hF;rw[List.map_append,List.map_cons,List.map_nil]at ih;rw[List.map_cons,altq,altq,ih,h v List.mem_cons_self,<-List.map_append,hF]
theorem dl_dp {g:RowQ->RowQ}:∀n c,(∀f j,c<=j->j<c+n->g f j=f (c+n-1-j))->∀l:List RowQ,dl n c (l.map g)=dp n l
 |0,c,_,[]=>rfl
 |0,c,_,_::_=>rfl
 |n+1,c,h,l=>by
  have ih:=dl_dp (g:=g) n (c+1) λf j h1 h2=>by rw[h f j (by omega) (by omega),show c+(n+1)-1-j=c+1+n-1-j by omega]
  have:=altq_map (F:=dp n) (G:=dl n (c+1)) (g:=g) (c:=c) (d:=n) l [] (λv _=>by rw[h v c (Nat.le_refl _) (by omega),show c+(n+1)-1-c=n by omega]) ih;rw[dl,dp];exact this
end Go.Proofs.Ytljmoppgihphlaa

namespace Go.Proofs.Ytljmoppgihphlaa
open Go Go.Proofs Go.AL
open Go.RowKit Go.Shelf
set_option linter.unusedSimpArgs false
set_option linter.unusedVariables false
attribute [local go_sem] Oper.semAt_some
set_option maxRecDepth 100000 in
set_option maxHeartbeats 4000000 in
theorem back_in (F:Fence)(n:Nat)(h7:F.fn 80)(hro:F.round=none)(hn:1<=n)(l Bs Bo b off len cap:Nat)(cell:Nat->Nat->Value)(n0:Nat)(D:Nat->Prop)(hlen:(len:Int)*32<=140737488351232)(J Jx:Nat->World->Prop)(w:World)
  (hBs0:Bs<n0) (hBs1:¬D Bs) (hb0:b<n0) (hb1:¬D b)
  (hY:∀k W1,k<len->J k W1->YieldAt F (n-1) Try.prog l #[.int .i64 ((len:Int)-1-k),.agg #[cell (len-1-k) 0,cell (len-1-k) 1]] W1 λe W'=>(e=.returned (.bool true)/\J (k+1) W'/\Kept D n0 W1 W')\/(e=.returned (.bool false)/\Jx k W'))
  (hw:w.cell? ⟨Bs,Bo,none⟩=some (.slice (some ⟨b,off,none⟩) len cap)) (hc:∀i,i<len->w.cell? ⟨b,off+i*2,none⟩=some (cell i 0)/\w.cell? ⟨b,off+i*2+1,none⟩=some (cell i 1))
  (W:World) (hk:Kept D n0 w W) (h0:J 0 W) :
  CallsIn F n Try.prog 80 #[.func (.yield l) #[] #[],.pointer (some ⟨Bs,Bo,none⟩)] W λe W'=>(∃v,e=.returned v)/\(J len W'\/∃k,Jx k W'):=by
 refine callsIn_of_wp Try.func80 rfl h7 ?_ hro;simp only[Try.ntmps80,List.size_toArray,List.length_cons,List.length_nil,Nat.reduceAdd,Nat.reduceSub,Array.replicate_succ,Array.replicate_zero,List.push_toArray,List.append_toArray,List.nil_append,List.cons_append];have kc:∀{W':World} {g o:Nat} {v:Value},Kept D n0 w W'->g<n0->¬D g->w.cell? ⟨g,o,none⟩=some v->W'.cell? ⟨g,o,none⟩=some v:=λhk hg hD hv=>by
  rw[World.cell?_of_block (hk _ hg hD (cells_of_cell hv))];exact hv
 have hW:=kc hk hBs0 hBs1 hw
 gi_wp2
 gi_loopw [3] (λi wr=>∃k:Nat,k<=len/\i=.int .i64 ((len:Int)-1-k)/\J k wr/\Kept D n0 w wr)
  (λi _=>(intOf i+1).toNat)
 case atStart=>exact⟨0,Nat.zero_le _,by congr 1;omega,h0,hk⟩
 case round =>
  obtain⟨k,hkl,rfl,hJs,hnx⟩:=hrel;have hWr:=kc hnx hBs0 hBs1 hw;by_cases hlt:k<len
  .obtain⟨fn,tmps,assign,body,hy,hR⟩:=hY k wr hlt hJs;obtain⟨hc0,hc1⟩:=hc (len-1-k) (by omega);have hcx0:=kc hnx hb0 hb1 hc0;have hcx1:=kc hnx hb0 hb1 hc1;have hge:(k:Int)<=(len:Int)-1:=by omega
   gi_wp2
   refine hR.mono ?_;rintro e W3 (⟨rfl,hJ3,hk3⟩|⟨rfl,hJx3⟩)
   .gi_wp2
    go_roundw
    case rel=>exact⟨k+1,by omega,by congr 1;omega,hJ3,hnx.trans hk3⟩
    case measure=>simp[intOf];omega
   .gi_wp2
    refine bodyPost_ret (results_none rfl _ _ _) rfl ?_;exact⟨⟨_,rfl⟩,.inr ⟨_,hJx3⟩⟩
  .obtain rfl:k=len:=by omega
   have hge:¬((k:Int)<=(k:Int)-1):=by omega
   gi_wp2
   go_end0
   exact⟨⟨_,rfl⟩,.inl hJs⟩
set_option maxRecDepth 100000 in
set_option maxHeartbeats 1000000 in
theorem back_nil_in (F:Fence)(n:Nat)(h7:F.fn 80)(hro:F.round=none)(l Bs Bo:Nat)(a:Option Addr)(cap:Nat)(J:World->Prop)
  (W:World) (hW:W.cell? ⟨Bs,Bo,none⟩=some (.slice a 0 cap)) (h0:J W) :
  CallsIn F n Try.prog 80 #[.func (.yield l) #[] #[],.pointer (some ⟨Bs,Bo,none⟩)] W λe W'=>(∃v,e=.returned v)/\J W':=by
 refine callsIn_of_wp Try.func80 rfl h7 ?_ hro;simp only[Try.ntmps80,List.size_toArray,List.length_cons,List.length_nil,Nat.reduceAdd,Nat.reduceSub,Array.replicate_succ,Array.replicate_zero,List.push_toArray,List.append_toArray,List.nil_append,List.cons_append]
 gi_wp2
 gi_loopw [3] (λi wr=>i=.int .i64 (-1)/\J wr) (λ_ _=>0)
 case atStart=>exact⟨rfl,h0⟩
 case round =>
  obtain⟨rfl,hJs⟩:=hrel
  gi_wp2
  go_end0
  exact⟨⟨_,rfl⟩,hJs⟩
theorem run_enter_back:∀args w,(callFunc 80 args).run Try.prog w=.ok (.enter 80 args) w:=enters_of Try.func80 (by kernel_rfl) rfl
theorem back_iter {rows:List (List IV)}(h2:∀r∈rows,r.length=2)(hlen:(rows.length:Int)*32<=140737488351232):AIter Try.prog 80 [[.sl rows]] 2 rows.length
  (λk=>[ci ((rows.length:Int)-1-k),.agg (rows.getD (rows.length-1-k) [])]):=by
 refine⟨run_enter_back,λw D vs hD hb=>?_⟩
 match vs,hb with
 |⟨[v]⟩,hb =>
  obtain⟨⟨Bs,Bo,rfl,hDb,us,hus,hcs⟩,-⟩:=hb
  match us,hus with
  |[u],hus =>
   have hcell:w.cell? ⟨Bs,Bo,none⟩=some u:=by simpa using hcs 0 u rfl
   have hBs1:=hDb (by simp);have hBs0:=World.block_lt_of_cell? w _ hcell;generalize hx:IV.sl rows=x at hus;cases hus.1 with
   |int=>cases hx
   |bool=>cases hx
   |raw=>cases hx
   |ownN=>cases hx
   |own=>cases hx
   |av=>cases hx
   |nil a cap hcap =>
    cases hx;refine⟨λ_=>#[Go.undef,Go.undef],λ_=>rfl,λk hk=>absurd hk (by simp),λl J Jx W hk hs _ _ hY h0=>?_⟩;have hW:W.cell? ⟨Bs,Bo,none⟩=some (.slice a 0 cap):=by
     rw[World.cell?_of_block (hk _ hBs0 hBs1 (cells_of_cell hcell))];exact hcell
    exact((back_nil_in (Wd none) 0 trivial rfl l Bs Bo a cap (J 0) W hW h0).mono λe W' h=>⟨h.1,.inl h.2⟩)
   |sl rows' g o cap sz cell hsz hle hcap hg hD' hc hr =>
    cases hx;have goW:∀{W:World},Kept D w.heap.size w W->W.cell? ⟨Bs,Bo,none⟩=some (.slice (some ⟨g,o,none⟩) rows.length cap):=λhk=>by
     rw[World.cell?_of_block (hk _ hBs0 hBs1 (cells_of_cell hcell))];exact hcell
    by_cases hne:rows=[]
    .subst hne;refine⟨λ_=>#[Go.undef,Go.undef],λ_=>rfl,λk hk=>absurd hk (by simp),λl J Jx W hk hs _ _ hY h0=>?_⟩;exact((back_nil_in (Wd none) 0 trivial rfl l Bs Bo _ cap (J 0) W (goW hk) h0).mono λe W' h=>⟨h.1,.inl h.2⟩)
    .obtain⟨r0,hr0⟩:∃r,rows[0]?=some r:=⟨rows[0]'(List.length_pos_iff.2 hne),by simp⟩;obtain rfl:sz=2:=(hsz 0 r0 hr0).symm.trans (h2 r0 (List.mem_of_getElem? hr0));have hro:∀i,i<rows.length->∃x y,rows[i]?=some [x,y]:=λi hi=>by
      have e:rows[i]?=some rows[i]:=by simp[hi]
      have hl:=h2 rows[i] (List.mem_of_getElem? e)
      match hm:rows[i],hl with
      |[x,y],_=>exact⟨x,y,by rw[e,hm]⟩
     refine⟨λk=>#[.int .i64 ((rows.length:Int)-1-k),.agg #[cell (rows.length-1-k) 0,cell (rows.length-1-k) 1]],λ_=>rfl,λk hk=>?_,λl J Jx W hk hs _ _ hY h0=>?_⟩
     .obtain⟨x,y,he⟩:=hro (rows.length-1-k) (by omega);refine⟨Rep.int _ _,⟨_,rfl,?_⟩,trivial⟩;have hg2:rows.getD (rows.length-1-k) []=[x,y]:=by rw[List.getD_eq_getElem?_getD,he];rfl
      rw[hg2];exact⟨hr _ _ he 0 x rfl,hr _ _ he 1 y rfl,trivial⟩
     .have h:=back_in (Wd none) 1 trivial rfl (Nat.le_refl _) l Bs Bo g o rows.length cap cell w.heap.size D hlen J Jx w hBs0 hBs1 hg hD' hY hcell (λi hi=>by
       obtain⟨x,y,he⟩:=hro i hi;exact⟨hc _ _ he 0 x rfl,hc _ _ he 1 y rfl⟩) W hk h0
      exact⟨trivial,λcs _=>h.2 cs (room_wd _ _)⟩
theorem back_ok (rows:List (List IV)):AC Try.prog 71 [.iv (.sl rows)] none [.fn 80 [[.sl rows]]]:=by
 refine AC.by_walk (rs:=[.tmp 2]) ords Try.func71 (by rfl) (by rfl) (by rfl) (by rfl) (by rfl) ?_;simp (disch:=omega) only[wt,seval,reduceCtorEq,Nat.reduceEqDiff]
end Go.Proofs.Ytljmoppgihphlaa

namespace Go.Proofs.Ytljmoppgihphlaa
open Go Go.Proofs Go.AL
set_option linter.unusedSimpArgs false
set_option linter.unusedVariables false
def mono (n:Nat)(c:Int):List Int:=List.replicate n 0++[c]
theorem cf_mono (n:Nat)(c:Int)(k:Nat):cf (mono n c) k=if k=n then c else 0:=by
 unfold mono cf;rw[List.getD_eq_getElem?_getD];rcases Nat.lt_trichotomy k n with h|h|h
 .rw[List.getElem?_append_left (by simpa using h),List.getElem?_replicate,if_pos h,if_neg (by omega)];rfl
 .subst h;rw[List.getElem?_append_right (by simp),if_pos rfl];simp
 .rw[List.getElem?_eq_none (by simp;omega),if_neg (by omega)];rfl
theorem cf_mono_mul (n:Nat)(c:Int)(B:List Int)(k:Nat):cf (pmul (mono n c) B) k=if n<=k then c*cf B (k-n) else 0:=by
 rw[cf_pmul,PS.cv_conv,PS.conv];by_cases h:n<=k
 .rw[if_pos h,sumN_one (j:=n) _ (by omega) λi hi hne=>by rw[cf_mono,if_neg hne,Int.zero_mul],cf_mono,if_pos rfl]
 .rw[if_neg h];exact sumN_zero λi hi=>by rw[cf_mono,if_neg (by omega),Int.zero_mul]
def dstep (c L:Int)(B:List Int)(s:List Int×List Int):List Int×List Int :=
 (padd (pscale c s.1) (mono (tz s.2-tz B) (c*lc s.2/L)),padd (pscale c s.2) (pscale (-1) (pmul (mono (tz s.2-tz B) (c*lc s.2/L)) B)))
def dres (c L:Int)(B:List Int):Nat->List Int×List Int->List Int×List Int
 |0,s=>s
 |n+1,s=>if tz B<=tz s.2 then dres c L B n (dstep c L B s) else dres c L B n (pscale c s.1,pscale c s.2)
theorem tz_le_of {q:List Int}{n:Nat}(h:∀k,n<=k->cf q k=0):tz q<=n:=by
 rcases Nat.lt_or_ge n (tz q) with h1|h1
 .exact absurd (h (tz q-1) (by omega)) (cf_tz_pred (by omega))
 .exact h1
theorem dstep_tz {c L:Int}{B:List Int}{s:List Int×List Int}(hL:L=lc B)(hB:tz B≠0)(hd:L∣c)(h:tz B<=tz s.2):tz (dstep c L B s).2<=tz s.2-1:=by
 refine tz_le_of λk hk=>?_;show cf (padd (pscale c s.2) (pscale (-1) (pmul (mono (tz s.2-tz B) (c*lc s.2/L)) B))) k=0;rw[cf_padd,cf_pscale,cf_pscale,cf_mono_mul,if_pos (by omega)];have hL0:L≠0:=by rw[hL];exact cf_tz_pred hB
 rcases Nat.lt_or_ge k (tz s.2) with h1|h1
 .have hk1:k=tz s.2-1:=by omega
  have e1:k-(tz s.2-tz B)=tz B-1:=by omega
  rw[e1];have e2:cf B (tz B-1)=L:=hL.symm;have e3:cf s.2 k=lc s.2:=by rw[hk1];rfl
  rw[e2,e3,Int.ediv_mul_cancel (Int.dvd_trans hd (Int.dvd_mul_right _ _)),Int.mul_comm c];omega
 .rw[cf_ge_tz s.2 h1,cf_ge_tz B (by omega)];simp
theorem tz_scale_le (c:Int)(q:List Int):tz (pscale c q)<=tz q:=tz_le_of λk hk=>by rw[cf_pscale,cf_ge_tz q hk,Int.zero_mul]
theorem cpoly_nil:cpoly []=[]:=rfl
theorem cpoly_at {q:List Int}{i:Nat}(h:i<tz q):(cpoly q).getD i []=prow (canon (cf q i)):=by
 have h1:i<(trimz q).length:=by rw[trimz_len];exact h
 rw[<-cf_trimz];simp[cpoly,raws,cf,List.getD,h1]
def Bd (k:Nat)(q:List Int):Prop:=tz q<=40/\∀i,zl (cf q i)<=k
theorem Bd.rp {k:Nat}{q:List Int}(h:Bd k q)(hk:k<=2^35):RP (2^30) (2^35) (cn q):=by
 refine(RP.canon (.of (by rw[trimz_len];exact h.1) λi=>?_)).mono (by decide:40<=_) hk;rw[cf_trimz];exact h.2 i
def KB (l:Nat):Nat:=(60-l)*536870912
theorem KB_step (l:Nat)(h:l+1<=41):KB l=KB (l+1)+536870912:=by unfold KB;omega
theorem KB_le (l:Nat):KB l<=32212254720:=by unfold KB;omega
theorem KB_ge (l:Nat)(h:l<=41):536870912<=KB l:=by unfold KB;omega
theorem bnd_fin {K k:Nat}(h:K=k+536870912):max (k+2^27) (k+2^27+2^27)+1<=K:=by omega
theorem bnd_fin1 {K k:Nat}(h:K=k+536870912):max (k+2^27) (k+2^27)+1<=K:=by omega
theorem bnd_fin2 {K k:Nat}(h:K=k+536870912):k+2^27<=K:=by omega
theorem bd_scale {K k:Nat}{c:Int}{q:List Int}(h:Bd K q)(hc:zl c<=k):Bd (K+k) (pscale c q):=by
 refine⟨Nat.le_trans (tz_scale_le c q) h.1,λi=>?_⟩;rw[cf_pscale];have:=zl_mul (cf q i) c;have:=h.2 i;omega
theorem bd_mono {K n:Nat}{c:Int}(hn:n<40)(hc:zl c<=K):Bd K (mono n c):=by
 refine⟨tz_le_of λk hk=>by rw[cf_mono,if_neg (by omega)],λi=>?_⟩;rw[cf_mono];split
 .exact hc
 .rw[zl_zero];omega
theorem bd_mmul {K k n m:Nat}{c:Int}{B:List Int}(hB:Bd k B)(hn:n+tz B<=40)(hc:zl c<=K):Bd (K+k) (pmul (mono n c) B):=by
 refine⟨tz_le_of λj hj=>?_,λi=>?_⟩
 .rw[cf_mono_mul];split
  .rw[cf_ge_tz B (by omega),Int.mul_zero]
  .rfl
 .rw[cf_mono_mul];split
  .have:=zl_mul c (cf B (i-n));have:=hB.2 (i-n);omega
  .rw[zl_zero];omega
theorem bd_add {K k:Nat}{p q:List Int}(hp:Bd K p)(hq:Bd k q):Bd (max K k+1) (padd p q):=by
 have h1:=hp.1;have h2:=hq.1;refine⟨tz_le_of λj hj=>by rw[cf_padd,cf_ge_tz p (by omega),cf_ge_tz q (by omega)];rfl,λi=>?_⟩;rw[cf_padd];have:=zl_add (cf p i) (cf q i);have:=hp.2 i;have:=hq.2 i;omega
theorem bd_neg {K:Nat}{q:List Int}(h:Bd K q):Bd K (pscale (-1) q):=by
 refine⟨Nat.le_trans (tz_scale_le _ q) h.1,λi=>?_⟩;rw[cf_pscale,Int.mul_neg,Int.mul_one,zl_neg];exact h.2 i
theorem bd_nil (K:Nat):Bd K []:=⟨by simp[tz,topN],λi=>by rw[cf_nil,zl_zero];exact Nat.zero_le _⟩
theorem Bd.mono {K k:Nat}{q:List Int}(h:Bd K q)(hk:K<=k):Bd k q:=⟨h.1,λi=>Nat.le_trans (h.2 i) hk⟩
set_option maxHeartbeats 1000000 in
theorem divide_ok (p q:List RI)(fa:RI)(hp:RP 40 (2^27) p)(hq:RP 40 (2^27) q)(hf:Sz (2^27) fa)(hB:tz (pv q)≠0)(hd:lc (pv q)∣iv fa) :
  AC Try.prog 33 [cw p,cw q,cr fa] none [cp (dres (iv fa) (lc (pv q)) (pv q) (tz (pv p)+1-tz (pv q)) ([],pv p)).1,cp (dres (iv fa) (lc (pv q)) (pv q) (tz (pv p)+1-tz (pv q)) ([],pv p)).2,ci (tz (pv p)+1-tz (pv q):Nat)]:=by
 refine AC.by_walk (rs:=[.tmp 6,.tmp 7,.tmp 8]) ords Try.func33 (by rfl) (by rfl) (by rfl) (by rfl) (by rfl) ?_;have qp:=hp.pv;have qq:=hq.pv;have tp:tz (pv p)<=40:=Nat.le_trans (tz_le _) qp.1;have tq:tz (pv q)<=40:=Nat.le_trans (tz_le _) qq.1;generalize hee:tz (pv p)+1-tz (pv q)=e at *;have he:max ((tz (pv p):Int)-tz (pv q)+1) 0=(e:Int):=by omega
 have ht1:((tz (pv q):Int)-1).toNat=tz (pv q)-1:=by omega
 have hat:=cpoly_at (q:=pv q) (i:=tz (pv q)-1) (by omega);have hL:cf (pv q) (tz (pv q)-1)=lc (pv q):=rfl;rw[hL]at hat;simp (disch:=omega) only[wt,seval,reduceCtorEq,Nat.reduceEqDiff,cpoly_len,cpoly_nil];refine call_by ((pnorm_ok p (hp.mono (by omega) (by omega)))) (by rfl) (by simp) ?_;simp (disch:=omega) only[wt,seval,reduceCtorEq,Nat.reduceEqDiff,cpoly_len,cpoly_nil];refine call_by ((pnorm_ok q (hq.mono (by omega) (by omega)))) (by rfl) (by simp) ?_;simp (disch:=omega) only[wt,seval,reduceCtorEq,Nat.reduceEqDiff,cpoly_len,cpoly_nil];simp (disch:=omega) only[wt,seval,reduceCtorEq,Nat.reduceEqDiff,cpoly_len,cpoly_nil,he,ht1,hat];generalize hc:iv fa=c at *;generalize hPe:pv p=P at *;generalize hBe:pv q=B at *;generalize hLe:lc B=L at *;have bd_P:Bd (KB e) P:=⟨tp,λi=>Nat.le_trans (qp.cf i) (Nat.le_trans (by decide) (KB_ge e (by omega)))⟩;refine aloop_w (.nilv 13 (by simp (disch:=omega) only[wt,seval,reduceCtorEq,Nat.reduceEqDiff,cpoly_len,cpoly_nil]) (.refl _ _)) (λf H=>∃(left st5 st12:Nat) (Q R:List Int),dres c L B left (Q,R)=dres c L B e ([],P)/\tz R<tz B+left/\left<=41/\Bd (KB left) Q/\Bd (KB left) R/\f 14=.iv (.int .i64 left)/\f 9=.iv (.sl (cpoly R))/\f 10=.iv (.sl (cpoly B))/\f 13=.iv (.sl (cpoly Q))/\f 11=.iv (.int .i64 e)/\f 5=.hp 5 st5 0 0/\f 12=.hp 12 st12 0 0/\H 5=.blk false st5 32 2 [prow fa]/\H 12=.blk false st12 32 2 [prow (canon L)]) (λf H=>(intAt f 14).toNat) ?_ ?_
 .refine⟨e,1,1,[],P,rfl,by omega,by omega,bd_nil _,bd_P,?_⟩;simp (disch:=omega) only[wt,seval,reduceCtorEq,Nat.reduceEqDiff,cpoly_len,cpoly_nil]
 rintro f H ⟨left,st5,st12,Q,R,hD,hT,hle,hQ,hR,hF⟩;rw[intAt_of hF.1];simp (disch:=omega) only[wt,seval,reduceCtorEq,Nat.reduceEqDiff,cpoly_len,cpoly_nil,hF];have hkb:=KB_le left;have hkR:=hR.rp (by omega);have hkQ:=hQ.rp (by omega);refine if_by (λhge=>?_) (λhge=>?_)
 .obtain⟨l,rfl⟩:∃l,left=l+1:=⟨left-1,by omega⟩;have hm:((tz R:Int)-tz B)=((tz R-tz B:Nat):Int):=by omega
  have ht2:((tz R:Int)-1).toNat=tz R-1:=by omega
  have hat2:=cpoly_at (q:=R) (i:=tz R-1) (by omega);have hLR:cf R (tz R-1)=lc R:=rfl;rw[hLR]at hat2;have hzR:=hR.2 (tz R-1);rw[hLR]at hzR;have hzc:zl c<=2^27:=by rw[<-hc];exact zl_iv hf
  have hzL:zl L<=2^27:=by rw[<-hLe];exact qq.cf _
  have hL0:L≠0:=by rw[<-hLe];exact cf_tz_pred hB
  have hzm:=zl_mul c (lc R);have hdv:L∣c*lc R:=Int.dvd_trans hd (Int.dvd_mul_right _ _);have hzt:=zl_div hdv;have m1:=zmul_ok fa (canon (lc R)) (hf.mono (by omega)) ((sz_canon _).mono (by omega));rw[hc,iv_canon]at m1;have m2:=zexact_ok (canon (c*lc R)) (canon L) ((sz_canon _).mono (by omega)) ((sz_canon _).mono (by omega)) (by rw[iv_canon];exact hL0) (by rw[iv_canon,iv_canon];exact hdv);rw[iv_canon,iv_canon]at m2;have m3:=prsmono_ok (canon (c*lc R/L)) (tz R-tz B) (by omega) ((sz_canon _).mono (by omega));rw[iv_canon]at m3;simp (disch:=omega) only[wt,seval,reduceCtorEq,Nat.reduceEqDiff,cpoly_len,cpoly_nil,hF,hm,ht2,hat2];refine .inl ⟨tmps_by (by kernel_rfl),?_⟩;refine call_by (m1) (by first|rfl|(simp only[tocvs,tocv,toboxes,tobox,updH_at,Nat.reduceEqDiff,↓reduceIte,hF,hm,ht2,hat2];rfl)) (by simp) ?_;simp (disch:=omega) only[wt,seval,reduceCtorEq,Nat.reduceEqDiff,cpoly_len,cpoly_nil,hF,hm,ht2,hat2];refine call_by (m2) (by first|rfl|(simp only[tocvs,tocv,toboxes,tobox,updH_at,Nat.reduceEqDiff,↓reduceIte,hF,hm,ht2,hat2];rfl)) (by simp) ?_;simp (disch:=omega) only[wt,seval,reduceCtorEq,Nat.reduceEqDiff,cpoly_len,cpoly_nil,hF,hm,ht2,hat2]
  first|exact log_by (by kernel_rfl)|refine⟨log_by (by kernel_rfl),?_⟩
  refine call_by (m3) (by first|rfl|(simp only[tocvs,tocv,toboxes,tobox,updH_at,Nat.reduceEqDiff,↓reduceIte,hF,hm,ht2,hat2];rfl)) (by simp) ?_;simp (disch:=omega) only[wt,seval,reduceCtorEq,Nat.reduceEqDiff,cpoly_len,cpoly_nil,hF,hm,ht2,hat2];have hBB:Bd (2^27) B:=⟨tq,λi=>qq.cf i⟩;have hlt:=hR.1;have hK2:=KB_step l hle;have hge':tz B<=tz R:=by omega
  generalize KB (l+1)=K at *;have b1:=bd_scale hQ hzc;have b2:=bd_mono (n:=tz R-tz B) (c:=c*lc R/L) (K:=K+2^27) (by omega) (by omega);have b3:=bd_scale hR hzc;have b4:=bd_mmul (m:=0) (n:=tz R-tz B) (c:=c*lc R/L) (K:=K+2^27) hBB (by omega) (by omega);have b5:=bd_add b1 b2;have b6:=bd_add b3 (bd_neg b4);have hBr:=hBB.rp (by omega);have s1:=pscale_g (q:=Q) (c:=fa) hkQ (hf.mono (by omega)) (ps_cn _);have s2:=pscale_g (q:=R) (c:=fa) hkR (hf.mono (by omega)) (ps_cn _);rw[hc]at s1 s2;have hstep:dres c L B (l+1) (Q,R)=dres c L B l (dstep c L B (Q,R)):=by
   rw[dres,if_pos (show tz B<=tz (Q,R).2 from hge')]
  have htz:=dstep_tz (c:=c) (s:=(Q,R)) hLe.symm hB hd (show tz B<=tz (Q,R).2 from hge');refine call_by (s1) (by first|rfl|(simp only[tocvs,tocv,toboxes,tobox,updH_at,Nat.reduceEqDiff,↓reduceIte,hF,hm,ht2,hat2];rfl)) (by simp) ?_;simp (disch:=omega) only[wt,seval,reduceCtorEq,Nat.reduceEqDiff,cpoly_len,cpoly_nil,hF,hm,ht2,hat2];refine call_by ((padd_g (b1.rp (by omega)) (b2.rp (by omega)) (ps_cn _) (ps_cn _))) (by first|rfl|(simp only[tocvs,tocv,toboxes,tobox,updH_at,Nat.reduceEqDiff,↓reduceIte,hF,hm,ht2,hat2];rfl)) (by simp) ?_;simp (disch:=omega) only[wt,seval,reduceCtorEq,Nat.reduceEqDiff,cpoly_len,cpoly_nil,hF,hm,ht2,hat2];refine call_by (s2) (by first|rfl|(simp only[tocvs,tocv,toboxes,tobox,updH_at,Nat.reduceEqDiff,↓reduceIte,hF,hm,ht2,hat2];rfl)) (by simp) ?_;simp (disch:=omega) only[wt,seval,reduceCtorEq,Nat.reduceEqDiff,cpoly_len,cpoly_nil,hF,hm,ht2,hat2];refine call_by ((pmul_g (b2.rp (by omega)) hBr (ps_cn _) (ps_cn _))) (by first|rfl|(simp only[tocvs,tocv,toboxes,tobox,updH_at,Nat.reduceEqDiff,↓reduceIte,hF,hm,ht2,hat2];rfl)) (by simp) ?_;simp (disch:=omega) only[wt,seval,reduceCtorEq,Nat.reduceEqDiff,cpoly_len,cpoly_nil,hF,hm,ht2,hat2];refine call_by ((psub_g (b3.rp (by omega)) (b4.rp (by omega)) (ps_cn _) (ps_cn _))) (by first|rfl|(simp only[tocvs,tocv,toboxes,tobox,updH_at,Nat.reduceEqDiff,↓reduceIte,hF,hm,ht2,hat2];rfl)) (by simp) ?_;simp (disch:=omega) only[wt,seval,reduceCtorEq,Nat.reduceEqDiff,cpoly_len,cpoly_nil,hF,hm,ht2,hat2];refine⟨⟨l,st5,st12,_,_,by rw[<-hD,hstep];rfl,?_,by omega,b5.mono (bnd_fin1 hK2),b6.mono (bnd_fin hK2),by omega,rfl,rfl,rfl,rfl,rfl,rfl⟩,by omega⟩;have h1:tz R≠0:=by omega
  have h2:tz (padd (pscale c R) (pscale (-1) (pmul (mono (tz R-tz B) (c*lc R/L)) B)))<=tz R-1:=htz;omega
 .have hout:tz R<tz B:=by omega
  simp (disch:=omega) only[wt,seval,reduceCtorEq,Nat.reduceEqDiff,cpoly_len,cpoly_nil,hF];refine aloop_by (λf H=>∃(lft sf:Nat) (S T:List Int),dres c L B lft (S,T)=dres c L B e ([],P)/\tz T<tz B/\lft<=41/\Bd (KB lft) S/\Bd (KB lft) T/\f 14=.iv (.int .i64 lft)/\f 9=.iv (.sl (cpoly T))/\f 13=.iv (.sl (cpoly S))/\f 11=.iv (.int .i64 e)/\f 5=.hp 5 sf 0 0/\H 5=.blk false sf 32 2 [prow fa]) (λf H=>(intAt f 14).toNat) ?_ ?_
  .refine⟨left,st5,Q,R,hD,hout,hle,hQ,hR,?_⟩;simp (disch:=omega) only[wt,seval,reduceCtorEq,Nat.reduceEqDiff,cpoly_len,cpoly_nil,hF]
  rintro f H ⟨lft,sf,S,T,hD,hT,hle,hQ,hR,hF⟩;rw[intAt_of hF.1];simp (disch:=omega) only[wt,seval,reduceCtorEq,Nat.reduceEqDiff,cpoly_len,cpoly_nil,hF];refine if_by (λhgt=>?_) (λhgt=>?_)
  .obtain⟨l,rfl⟩:∃l,lft=l+1:=⟨lft-1,by omega⟩;have hkb:=KB_le (l+1);have hzc:zl c<=2^27:=by rw[<-hc];exact zl_iv hf
   have hK2:=KB_step l hle;have s1:=pscale_g (q:=S) (c:=fa) (hQ.rp (by omega)) (hf.mono (by omega)) (ps_cn _);have s2:=pscale_g (q:=T) (c:=fa) (hR.rp (by omega)) (hf.mono (by omega)) (ps_cn _);rw[hc]at s1 s2;have hstep:dres c L B (l+1) (S,T)=dres c L B l (pscale c S,pscale c T):=by
    rw[dres,if_neg (show ¬tz B<=tz (S,T).2 from Nat.not_le.2 hT)]
   have hts:=tz_scale_le c T;have b1:=(bd_scale hQ hzc).mono (bnd_fin2 hK2);have b2:=(bd_scale hR hzc).mono (bnd_fin2 hK2);clear hK2;simp (disch:=omega) only[wt,seval,reduceCtorEq,Nat.reduceEqDiff,cpoly_len,cpoly_nil,hF];refine .inl ⟨tmps_by (by kernel_rfl),?_⟩;refine call_by (s1) (by first|rfl|(simp only[tocvs,tocv,toboxes,tobox,updH_at,Nat.reduceEqDiff,↓reduceIte,hF];rfl)) (by simp) ?_;simp (disch:=omega) only[wt,seval,reduceCtorEq,Nat.reduceEqDiff,cpoly_len,cpoly_nil,hF];refine call_by (s2) (by first|rfl|(simp only[tocvs,tocv,toboxes,tobox,updH_at,Nat.reduceEqDiff,↓reduceIte,hF];rfl)) (by simp) ?_;simp (disch:=omega) only[wt,seval,reduceCtorEq,Nat.reduceEqDiff,cpoly_len,cpoly_nil,hF]
   first|exact log_by (by kernel_rfl)|refine⟨log_by (by kernel_rfl),?_⟩
   refine⟨⟨l,sf,_,_,by rw[<-hD,hstep],by omega,by omega,b1,b2,by omega,rfl,rfl,rfl,rfl⟩,by omega⟩
  .obtain rfl:lft=0:=by omega
   simp (disch:=omega) only[wt,seval,reduceCtorEq,Nat.reduceEqDiff,cpoly_len,cpoly_nil,hF];rw[<-hD];exact⟨rfl,rfl⟩
theorem plead_g {a:List RI}{q:List Int}(ha:RP (2^30) (2^35) a)(eq:ps (pv a)=ps q):AC Try.prog 34 [cw a] none [cz (lc q)]:=by
 have h:=plead_ok a (ha.mono (by omega) (by omega));have e:cf (pv a) (tz (pv a)-1)=lc q:=by unfold lc;rw[tz_eq_of_cf (ps_eq eq),ps_eq eq]
 rwa [e]at h
def dxp (P B:List Int):Nat:=tz P+1-tz B
def dq (P B:List Int):List Int:=(dres (lc B) (lc B) B (dxp P B) ([],P)).1
def dr (P B:List Int):List Int:=(dres (lc B) (lc B) B (dxp P B) ([],P)).2
theorem pdiv_ok (p q:List RI)(hp:RP 40 (2^27) p)(hq:RP 40 (2^27) q)(h0:¬tz (pv q)=0):AC Try.prog 16 [cw p,cw q] none [cp (dq (pv p) (pv q)),cp (dr (pv p) (pv q)),ci (dxp (pv p) (pv q)),ci 0]:=by
 refine AC.by_walk (rs:=[.tmp 4,.tmp 5,.tmp 6,.tmp 7]) ords Try.func16 (by rfl) (by rfl) (by rfl) (by rfl) (by rfl) ?_;have hl:Sz (2^27) (canon (lc (pv q))):=(sz_canon _).mono (hq.pv.cf _);have m:=divide_ok p q (canon (lc (pv q))) hp hq hl h0 (by rw[iv_canon];exact Int.dvd_refl _);rw[iv_canon]at m;simp (disch:=omega) only[wt,seval,reduceCtorEq,Nat.reduceEqDiff,cpoly_len,cpoly_nil];refine call_by ((pnone_ok q (hq.mono (by omega) (by omega)))) (by first|rfl|(simp only[tocvs,tocv,toboxes,tobox,updH_at,Nat.reduceEqDiff,↓reduceIte,h0];rfl)) (by simp) ?_;simp (disch:=omega) only[wt,seval,reduceCtorEq,Nat.reduceEqDiff,cpoly_len,cpoly_nil,h0];refine call_by ((plead_g (hq.mono (by omega) (by omega)) rfl)) (by first|rfl|(simp only[tocvs,tocv,toboxes,tobox,updH_at,Nat.reduceEqDiff,↓reduceIte,h0];rfl)) (by simp) ?_;simp (disch:=omega) only[wt,seval,reduceCtorEq,Nat.reduceEqDiff,cpoly_len,cpoly_nil,h0];refine call_by (m) (by first|rfl|(simp only[tocvs,tocv,toboxes,tobox,updH_at,Nat.reduceEqDiff,↓reduceIte,h0];rfl)) (by simp) ?_;simp (disch:=omega) only[wt,seval,reduceCtorEq,Nat.reduceEqDiff,cpoly_len,cpoly_nil,h0];exact⟨rfl,rfl,rfl⟩
theorem div_known1:trimz (dq [0,0,1] [1,2])=[-1,2]:=by decide
theorem div_known2:trimz (dr [0,0,1] [1,2])=[1]:=by decide
theorem div_known3:tz [1,2]=2:=by decide
theorem known13_ok:AC Try.prog 4 [] none [cb true]:=by
 refine AC.by_walk (rs:=[.tmp 0]) ords Try.func4 (by rfl) (by rfl) (by rfl) (by rfl) (by rfl) ?_;have rp:∀l:List Int,l.length<=40->(∀z∈l,zl z<=1)->RP 40 (2^27) (l.map canon):=λl h1 h2=>RP.canon ⟨h1,λz hz=>Nat.le_trans (h2 z hz) (by decide)⟩
 have hz:∀z:Int,z.natAbs<10->zl z<=1:=λz h=>zl_le.mpr (Nat.lt_of_lt_of_le h (by decide))
 have ra:=rp [0,0,1] (by decide) (λz hz'=>hz z (by simp at hz';omega));have rb:=rp [1,2] (by decide) (λz hz'=>hz z (by simp at hz';omega));have m:=pdiv_ok _ _ ra rb (by rw[pv_canon,div_known3];decide);rw[pv_canon,pv_canon]at m;have e1:cn (dq [0,0,1] [1,2])=[-1,2].map canon:=by unfold cn;rw[div_known1]
 have e2:cn (dr [0,0,1] [1,2])=[1].map canon:=by unfold cn;rw[div_known2]
 have e3:((dxp [0,0,1] [1,2]:Nat):Int)=2:=by decide
 have r1:=rp [-1,2] (by decide) (λz hz'=>hz z (by simp at hz';omega));have r2:=rp [1] (by decide) (λz hz'=>hz z (by simp at hz';omega));have c1:cpoly (dq [0,0,1] [1,2])=raws ([-1,2].map canon):=by rw[<-e1];rfl
 have c2:cpoly (dr [0,0,1] [1,2])=raws ([1].map canon):=by rw[<-e2];rfl
 simp only[cp,c1,c2,e3]at m;simp (disch:=omega) only[wt,seval,reduceCtorEq,Nat.reduceEqDiff,cpoly_len,cpoly_nil];refine call_by ((poly13_ok [0,0,1] (by decide) (by decide))) (by rfl) (by simp) ?_;simp (disch:=omega) only[wt,seval,reduceCtorEq,Nat.reduceEqDiff,cpoly_len,cpoly_nil];refine call_by ((poly13_ok [1,2] (by decide) (by decide))) (by rfl) (by simp) ?_;simp (disch:=omega) only[wt,seval,reduceCtorEq,Nat.reduceEqDiff,cpoly_len,cpoly_nil];refine call_by (m) (by rfl) (by simp) ?_;simp (disch:=omega) only[wt,seval,reduceCtorEq,Nat.reduceEqDiff,cpoly_len,cpoly_nil];refine call_by ((poly13_ok [-1,2] (by decide) (by decide))) (by rfl) (by simp) ?_;simp (disch:=omega) only[wt,seval,reduceCtorEq,Nat.reduceEqDiff,cpoly_len,cpoly_nil];have s1:=zsame_ok ([-1,2].map canon) ([-1,2].map canon) (r1.mono (by decide) (by decide)) (r1.mono (by decide) (by decide));have s2:=zsame_ok ([1].map canon) ([1].map canon) (r2.mono (by decide) (by decide)) (r2.mono (by decide) (by decide));rw[decide_eq_true rfl]at s1 s2;refine call_by (s1) (by rfl) (by simp) ?_;simp (disch:=omega) only[wt,seval,reduceCtorEq,Nat.reduceEqDiff,cpoly_len,cpoly_nil];refine call_by ((poly13_ok [1] (by decide) (by decide))) (by rfl) (by simp) ?_;simp (disch:=omega) only[wt,seval,reduceCtorEq,Nat.reduceEqDiff,cpoly_len,cpoly_nil];refine call_by (s2) (by rfl) (by simp) ?_;simp (disch:=omega) only[wt,seval,reduceCtorEq,Nat.reduceEqDiff,cpoly_len,cpoly_nil]
end Go.Proofs.Ytljmoppgihphlaa

set_option linter.unusedSimpArgs false
set_option linter.unusedVariables false
set_option linter.defProp false
namespace Go.Proofs.Ytljmoppgihphlaa
open Go Go.Proofs Go.AL
theorem zcpoly_two (q:List Int):∀r∈cpoly q,r.length=2:=λr hr=>by
 obtain⟨c,_,rfl⟩:=List.mem_map.1 hr;rfl
theorem zcpoly_len (q:List Int):(cpoly q).length=tz q:=by simp[cpoly,raws,trimz_len]
theorem zcpoly_getD (q:List Int){i:Nat}(h:i<tz q):(cpoly q).getD i []=prow (canon (cf q i)):=by
 have hl:i<(trimz q).length:=by rw[trimz_len];exact h
 have e:cf q i=(trimz q)[i]:=by rw[<-cf_trimz];simp[cf,List.getD,hl]
 rw[e];simp[cpoly,raws,List.getD,hl]
def srk (P:List Int)(ah w k:Nat):List RI:=(List.range w).map λj=>canon (if ah<=j/\j<ah+k then cf P (tz P-1-(j-ah)) else 0)
theorem srk_len (P:List Int)(ah w k:Nat):(srk P ah w k).length=w:=by simp[srk]
theorem srk_zero (P:List Int)(ah w:Nat):srk P ah w 0=List.replicate w (false,[]):=by
 refine List.ext_getElem (by simp[srk]) λi h1 h2=>?_;simp only[srk,List.getElem_map,List.getElem_range,List.getElem_replicate];rw[if_neg (by omega)]
 decide +kernel
theorem srk_set (P:List Int){ah w k:Nat}(h:ah+k<w)(hk:k<tz P):(srk P ah w k).set (ah+k) (canon (cf P (tz P-1-k)))=srk P ah w (k+1):=by
 refine List.ext_getElem (by simp[srk]) λi h1 h2=>?_;simp only[List.getElem_set,srk,List.getElem_map,List.getElem_range];by_cases e:ah+k=i
 .subst e;rw[if_pos rfl,if_pos (by omega),Nat.add_sub_cancel_left]
 .rw[if_neg e]
  congr 1
  by_cases h3:ah<=i/\i<ah+k
  .rw[if_pos h3,if_pos (by omega)]
  .rw[if_neg h3,if_neg (by omega)]
@[reducible] def zS:Zi:=⟨none,(· == 7),λ_=>false,.no⟩
theorem zbxS (e:Nat) : @Zi.bx zS e=(e == 7):=rfl
theorem zbsS (e:Nat) : @Zi.bs zS e=false:=rfl
theorem zstS : @Zi.st zS=.no:=rfl
theorem zslS : @zsl zS=.sl []:=rfl
def wzS:=And.intro zbxS (And.intro zbsS (And.intro zstS zslS))
theorem AC.by_walkz (zx : Zi) {P : Program} {g : Nat} {args : List CV} {own : OwnRes} {res : List CV} (hm : P.follows .mixedOrders = true) {fn : Func} {body : Code} {rs : List ResultVar} (hf : P.funcs[g]? = some fn) (hb : fn.body = some body) (hr : fn.results.toList = rs) (hn : (fn.name == "runtime.NumGoroutine") = false)
  (hd:codeOk fn.ntmps body=true) (hargs:Nat.ble args.length fn.ntmps=true) (h : @AW zx P body (@RetC zx P rs own res) (initF args) initH):AC P g args own res:=by
 subst hr;exact AC.of_body (zi:=zx) hm hf hb hn hd (Nat.le_of_ble_eq_true hargs) h
theorem shifted_ok (p:List RI)(ah w:Nat)(hp:RP (2^20) (2^22) p)(hw:ah+tz (pv p)<=w)(hw2:w<=2^20):AC Try.prog 58 [cw p,ci ah,ci w] none [.iv (.sl (raws (srk (pv p) ah w (tz (pv p)))))]:=by
 refine AC.by_walkz zS (rs:=[.tmp 6]) ords Try.func58 (by rfl) (by rfl) (by rfl) (by rfl) (by rfl) ?_;simp (disch:=omega) only[wt,seval,reduceCtorEq,Nat.reduceEqDiff,wzS];refine call_by ((pnorm_ok p (hp.mono (by omega) (by omega)))) (by rfl) (by simp) ?_;simp (disch:=omega) only[wt,seval,reduceCtorEq,Nat.reduceEqDiff,wzS];refine call_by ((back_ok (cpoly (pv p)))) (by rfl) (by simp) ?_;simp (disch:=omega) only[wt,seval,reduceCtorEq,Nat.reduceEqDiff,wzS];have hcl:=zcpoly_len (pv p);have htz:tz (pv p)<=2^20:=by rw[<-trimz_len];exact hp.pv.trimz.1
 have hsl:=srk_len (pv p) ah w;refine range_by (l:=[.ip [.sl (cpoly (pv p))]]) (c:=True/\True) (ms:=[]) (back_iter (rows:=cpoly (pv p)) (zcpoly_two _) (by omega)) (λk H2=>k<=tz (pv p)/\H2 3=HC.blk false 1 23 1 [[.sl (raws p)]]/\H2 4=HC.blk false 1 3 1 [[.int .i64 ah]]/\H2 7=HC.nst 1 22 [.hs 11 1]/\H2 11=HC.blk false 1 32 2 (raws (srk (pv p) ah w k))) (by simp (disch:=omega) only[wt,seval,reduceCtorEq,Nat.reduceEqDiff,wzS]) (by rfl) ⟨trivial,trivial⟩ ?_ ?_ ?_
 .rw[srk_zero];refine⟨by omega,by simp (disch:=omega) only[wt,seval,reduceCtorEq,Nat.reduceEqDiff,wzS],by simp (disch:=omega) only[wt,seval,reduceCtorEq,Nat.reduceEqDiff,wzS],by simp (disch:=omega) only[wt,seval,reduceCtorEq,Nat.reduceEqDiff,wzS],by simp (disch:=omega) only[wt,seval,reduceCtorEq,Nat.reduceEqDiff,wzS]⟩
 .rintro k H2 hk ⟨hk',h3,h4,h7,h11⟩;rw[hcl]at hk;rw[hcl,zcpoly_getD _ (by omega)];simp (disch:=omega) only[wt,seval,reduceCtorEq,Nat.reduceEqDiff,wzS,h3,h4,h7,h11];refine .inl ⟨tmps_by (by kernel_rfl),?_⟩;have m:=pdeg_ok p (hp.mono (by omega) (by omega));have ex:(ah:Int)+((tz (pv p):Int)-1)-((tz (pv p):Int)-1-(k:Int))=((ah+k:Nat):Int):=by omega
  have hk1:ah+k<w:=by omega
  have hset:=srk_set (pv p) hk1 hk;refine call_by (m) (by first|rfl|(simp only[tocvs,tocv,toboxes,tobox,updH_at,Nat.reduceEqDiff,↓reduceIte,h3,h4,h7,h11,ex,hsl,hset];rfl)) (by simp) ?_;simp (disch:=omega) only[wt,seval,reduceCtorEq,Nat.reduceEqDiff,wzS,h3,h4,h7,h11,ex,hsl,hset]
  first|exact log_by (by kernel_rfl)|refine⟨log_by (by kernel_rfl),?_⟩
  refine⟨by omega,?_⟩;rw[raws_at (by rw[hsl];exact hk1),prow_splice,raws_set,hset]
 .rintro H2 ⟨hk',h3,h4,h7,h11⟩;simp (disch:=omega) only[wt,seval,reduceCtorEq,Nat.reduceEqDiff,wzS,h3,h4,h7,h11];rw[hcl]
def sylm (P Q:List Int):List (List RI):=(List.range (tz Q-1)).map (λi=>srk P i (tz P-1+(tz Q-1)) (tz P))++(List.range (tz P-1)).map (λi=>srk Q i (tz P-1+(tz Q-1)) (tz Q))
theorem mrows_app (a b:List (List RI)):mrows (a++b)=mrows a++mrows b:=List.map_append
theorem mrows_snoc (a:List (List RI))(r:List RI):mrows a++[[.sl (raws r)]]=mrows (a++[r]):=by rw[mrows_app];rfl
theorem rng_snoc {α:Type}(f:Nat->α)(i:Nat):(List.range i).map f++[f i]=(List.range (i+1)).map f:=by rw[List.range_succ,List.map_append];rfl
theorem sylvester_ok (p q:List RI)(hp:RP (2^19) (2^22) p)(hq:RP (2^19) (2^22) q)(p0:tz (pv p)≠0)(q0:tz (pv q)≠0):AC Try.prog 37 [cw p,cw q,ci (tz (pv q)-1:Nat),ci (tz (pv p)-1:Nat)] none [cm (sylm (pv p) (pv q))]:=by
 have hl1:tz (pv p)<=2^19:=by rw[<-trimz_len];exact hp.pv.trimz.1
 have hl2:tz (pv q)<=2^19:=by rw[<-trimz_len];exact hq.pv.trimz.1
 refine AC.by_walk (rs:=[.tmp 8]) ords Try.func37 (by rfl) (by rfl) (by rfl) (by rfl) (by rfl) ?_;simp (disch:=omega) only[wt,seval,reduceCtorEq,Nat.reduceEqDiff,wzS];refine call_by ((pdeg_ok p (hp.mono (by omega) (by omega)))) (by rfl) (by simp) ?_;simp (disch:=omega) only[wt,seval,reduceCtorEq,Nat.reduceEqDiff,wzS];refine call_by ((pdeg_ok q (hq.mono (by omega) (by omega)))) (by rfl) (by simp) ?_;simp (disch:=omega) only[wt,seval,reduceCtorEq,Nat.reduceEqDiff,wzS];obtain⟨m,hm⟩:∃m,tz (pv p)-1=m:=⟨_,rfl⟩;obtain⟨n,hn⟩:∃n,tz (pv q)-1=n:=⟨_,rfl⟩;have ew:(tz (pv p):Int)-1+((tz (pv q):Int)-1)=((m+n:Nat):Int):=by omega
 unfold sylm;rw[hm,hn,ew];have l1:∀i,(mrows ((List.range i).map λi=>srk (pv p) i (m+n) (tz (pv p)))).length=i:=λi=>by simp[mrows]
 refine aloop_by (λf H=>∃(i st:Nat),i<=n/\f 23=.iv (.int .i64 i)/\f 22=.iv (.int .i64 n)/\f 10=.hs 21 st/\f 0=.iv (.sl (raws p))/\f 1=.iv (.sl (raws q))/\f 3=.iv (.int .i64 m)/\f 9=.iv (.int .i64 (m+n:Nat))/\H 21=.blk false st 22 1 (mrows ((List.range i).map λi=>srk (pv p) i (m+n) (tz (pv p))))) (λf H=>(n-intAt f 23).toNat) ?_ ?_
 .refine⟨0,1,by omega,?_⟩;simp (disch:=omega) only[wt,seval,reduceCtorEq,Nat.reduceEqDiff,wzS,List.range_zero,List.map_nil,show mrows []=[] from rfl]
 rintro f H ⟨i,st,hi,hF⟩;rw[intAt_of hF.1];simp (disch:=omega) only[wt,seval,reduceCtorEq,Nat.reduceEqDiff,wzS,hF];refine if_by (λhlt=>?_) (λhlt=>?_)
 .simp (disch:=omega) only[wt,seval,reduceCtorEq,Nat.reduceEqDiff,wzS,hF];have sh:=shifted_ok p i (m+n) (hp.mono (by omega) (by omega)) (by omega) (by omega);refine call_by (sh) (by first|rfl|(simp only[tocvs,tocv,toboxes,tobox,updH_at,Nat.reduceEqDiff,↓reduceIte,hF,l1];rfl)) (by simp) ?_;simp (disch:=omega) only[wt,seval,reduceCtorEq,Nat.reduceEqDiff,wzS,hF,l1];refine⟨⟨i+1,st+1,by omega,by omega,rfl,?_⟩,by omega⟩;rw[mrows_snoc,rng_snoc]
 .obtain rfl:i=n:=by omega
  simp (disch:=omega) only[wt,seval,reduceCtorEq,Nat.reduceEqDiff,wzS,hF];generalize hA:(List.range i).map (λj=>srk (pv p) j (m+i) (tz (pv p)))=A at *;have l2:∀k,(mrows (A++(List.range k).map λk=>srk (pv q) k (m+i) (tz (pv q)))).length=i+k:=λk=>by rw[mrows_app,List.length_append,<-hA,l1];simp[mrows]
  refine aloop_by (λf H=>∃(k st:Nat),k<=m/\f 35=.iv (.int .i64 k)/\f 34=.iv (.int .i64 m)/\f 10=.hs 21 st/\f 1=.iv (.sl (raws q))/\f 9=.iv (.int .i64 (m+i:Nat))/\H 21=.blk false st 22 1 (mrows (A++(List.range k).map λk=>srk (pv q) k (m+i) (tz (pv q))))) (λf H=>(m-intAt f 35).toNat) ?_ ?_
  .refine⟨0,st,by omega,?_⟩;simp (disch:=omega) only[wt,seval,reduceCtorEq,Nat.reduceEqDiff,wzS,hF,List.range_zero,List.map_nil,List.append_nil]
  rintro f H ⟨k,st,hk,hF⟩;rw[intAt_of hF.1];simp (disch:=omega) only[wt,seval,reduceCtorEq,Nat.reduceEqDiff,wzS,hF];refine if_by (λhlt=>?_) (λhlt=>?_)
  .simp (disch:=omega) only[wt,seval,reduceCtorEq,Nat.reduceEqDiff,wzS,hF];have sh:=shifted_ok q k (m+i) (hq.mono (by omega) (by omega)) (by omega) (by omega);refine call_by (sh) (by first|rfl|(simp only[tocvs,tocv,toboxes,tobox,updH_at,Nat.reduceEqDiff,↓reduceIte,hF,l2];rfl)) (by simp) ?_;simp (disch:=omega) only[wt,seval,reduceCtorEq,Nat.reduceEqDiff,wzS,hF,l2];refine⟨⟨k+1,st+1,by omega,by omega,rfl,?_⟩,by omega⟩;rw[mrows_snoc,List.append_assoc,rng_snoc (λk=>srk (pv q) k (m+i) (tz (pv q)))]
  .obtain rfl:k=m:=by omega
   simp (disch:=omega) only[wt,seval,reduceCtorEq,Nat.reduceEqDiff,wzS,hF]
theorem pmatrix_ok (p q:List RI)(hp:RP (2^19) (2^22) p)(hq:RP (2^19) (2^22) q)(p0:tz (pv p)≠0)(q0:tz (pv q)≠0):AC Try.prog 21 [cw p,cw q] none [cm (sylm (pv p) (pv q)),ci 0]:=by
 have hl1:tz (pv p)<=2^19:=by rw[<-trimz_len];exact hp.pv.trimz.1
 have hl2:tz (pv q)<=2^19:=by rw[<-trimz_len];exact hq.pv.trimz.1
 refine AC.by_walk (rs:=[.tmp 4,.tmp 5]) ords Try.func21 (by rfl) (by rfl) (by rfl) (by rfl) (by rfl) ?_;have n1:=pnone_ok p (hp.mono (by omega) (by omega));have n2:=pnone_ok q (hq.mono (by omega) (by omega));rw[decide_eq_false p0]at n1;rw[decide_eq_false q0]at n2;have sy:=sylvester_ok p q hp hq p0 q0;rw[show ((tz (pv q)-1:Nat):Int)=(tz (pv q):Int)-1 by omega,show ((tz (pv p)-1:Nat):Int)=(tz (pv p):Int)-1 by omega]at sy;simp (disch:=omega) only[wt,seval,reduceCtorEq,Nat.reduceEqDiff,wzS];refine call_by (n1) (by rfl) (by simp) ?_;simp (disch:=omega) only[wt,seval,reduceCtorEq,Nat.reduceEqDiff,wzS];refine call_by (n2) (by rfl) (by simp) ?_;simp (disch:=omega) only[wt,seval,reduceCtorEq,Nat.reduceEqDiff,wzS];refine call_by ((pdeg_ok q (hq.mono (by omega) (by omega)))) (by rfl) (by simp) ?_;simp (disch:=omega) only[wt,seval,reduceCtorEq,Nat.reduceEqDiff,wzS];refine call_by ((pdeg_ok p (hp.mono (by omega) (by omega)))) (by rfl) (by simp) ?_;simp (disch:=omega) only[wt,seval,reduceCtorEq,Nat.reduceEqDiff,wzS];refine call_by (sy) (by rfl) (by simp) ?_;simp (disch:=omega) only[wt,seval,reduceCtorEq,Nat.reduceEqDiff,wzS]
 try rfl
theorem pmatrix_zero (p q:List RI)(hp:RP (2^19) (2^22) p)(hq:RP (2^19) (2^22) q)(h:tz (pv p)=0\/tz (pv q)=0):AC Try.prog 21 [cw p,cw q] none [.iv (.sl []),ci 1]:=by
 refine AC.by_walk (rs:=[.tmp 4,.tmp 5]) ords Try.func21 (by rfl) (by rfl) (by rfl) (by rfl) (by rfl) ?_;have n1:=pnone_ok p (hp.mono (by omega) (by omega));have n2:=pnone_ok q (hq.mono (by omega) (by omega));simp (disch:=omega) only[wt,seval,reduceCtorEq,Nat.reduceEqDiff,wzS];by_cases p0:tz (pv p)=0
 .rw[decide_eq_true p0]at n1;refine call_by (n1) (by rfl) (by simp) ?_;simp (disch:=omega) only[wt,seval,reduceCtorEq,Nat.reduceEqDiff,wzS]
  try rfl
 .rw[decide_eq_false p0]at n1;rw[decide_eq_true (h.resolve_left p0)]at n2;refine call_by (n1) (by rfl) (by simp) ?_;simp (disch:=omega) only[wt,seval,reduceCtorEq,Nat.reduceEqDiff,wzS];refine call_by (n2) (by rfl) (by simp) ?_;simp (disch:=omega) only[wt,seval,reduceCtorEq,Nat.reduceEqDiff,wzS]
  try rfl
theorem sylm_len (P Q:List Int):(sylm P Q).length=tz P-1+(tz Q-1):=by
 rw[sylm,List.length_append,List.length_map,List.length_map,List.length_range,List.length_range];omega
theorem sylm_row {P Q:List Int}{r:List RI}(h:r∈sylm P Q):r.length=tz P-1+(tz Q-1)/\∃ah R,r=srk R ah (tz P-1+(tz Q-1)) (tz R)/\(R=P\/R=Q):=by
 rcases List.mem_append.1 h with h|h
 .obtain⟨i,_,rfl⟩:=List.mem_map.1 h;exact⟨srk_len _ _ _ _,i,P,rfl,.inl rfl⟩
 .obtain⟨i,_,rfl⟩:=List.mem_map.1 h;exact⟨srk_len _ _ _ _,i,Q,rfl,.inr rfl⟩
theorem srk_sz {P:List Int}{n k:Nat}(h:PB n k P)(ah w:Nat)(hk:1<=k):∀c∈srk P ah w (tz P),Sz k c:=λc hc=>by
 obtain⟨j,_,rfl⟩:=List.mem_map.1 hc;refine(sz_canon _).mono ?_;split
 .exact h.cf _
 .exact Nat.le_trans (show zl 0<=1 by decide +kernel) hk
def rsq (P Q:List Int):Int:=(gdt (sylm P Q).length 0 (mq (sylm P Q))).num
theorem sylm_mb {P Q:List Int}(hP:PB (2^19) (2^22) P)(hQ:PB (2^19) (2^22) Q):MB (2^20) (2^22) (sylm P Q):=by
 have hl1:tz P<=2^19:=by rw[<-trimz_len];exact hP.trimz.1
 have hl2:tz Q<=2^19:=by rw[<-trimz_len];exact hQ.trimz.1
 refine⟨by rw[sylm_len];omega,λr hr=>?_⟩;obtain⟨h1,ah,R,rfl,h2⟩:=sylm_row hr;refine⟨by rw[h1];omega,?_⟩;rcases h2 with rfl|rfl
 .exact srk_sz hP _ _ (by omega)
 .exact srk_sz hQ _ _ (by omega)
theorem presult_ok (p q:List RI)(hp:RP (2^19) (2^22) p)(hq:RP (2^19) (2^22) q)(p0:tz (pv p)≠0)(q0:tz (pv q)≠0)(h128:tz (pv p)-1+(tz (pv q)-1)<=128):AC Try.prog 8 [cw p,cw q] none [cz (rsq (pv p) (pv q))]:=by
 refine AC.by_walk (rs:=[.cell 4 32]) ords Try.func8 (by rfl) (by rfl) (by rfl) (by rfl) (by rfl) ?_;have d:=det_ok (sylm (pv p) (pv q)) (sylm_mb hp.pv hq.pv) (by rw[sylm_len];exact h128) λr hr=>by rw[(sylm_row hr).1,sylm_len]
 simp (disch:=omega) only[wt,seval,reduceCtorEq,Nat.reduceEqDiff,wzS];refine call_by ((pmatrix_ok p q hp hq p0 q0)) (by rfl) (by simp) ?_;simp (disch:=omega) only[wt,seval,reduceCtorEq,Nat.reduceEqDiff,wzS];refine call_by (d) (by rfl) (by simp) ?_;simp (disch:=omega) only[wt,seval,reduceCtorEq,Nat.reduceEqDiff,wzS]
 try rfl
theorem presult_zero (p q:List RI)(hp:RP (2^19) (2^22) p)(hq:RP (2^19) (2^22) q)(h:tz (pv p)=0\/tz (pv q)=0):AC Try.prog 8 [cw p,cw q] none [cz 0]:=by
 refine AC.by_walk (rs:=[.cell 4 32]) ords Try.func8 (by rfl) (by rfl) (by rfl) (by rfl) (by rfl) ?_;simp (disch:=omega) only[wt,seval,reduceCtorEq,Nat.reduceEqDiff,wzS];refine call_by ((pmatrix_zero p q hp hq h)) (by rfl) (by simp) ?_;simp (disch:=omega) only[wt,seval,reduceCtorEq,Nat.reduceEqDiff,wzS];refine call_by ((zOf_ok 0 (by omega) (by omega))) (by rfl) (by simp) ?_;simp (disch:=omega) only[wt,seval,reduceCtorEq,Nat.reduceEqDiff,wzS]
 try rfl
end Go.Proofs.Ytljmoppgihphlaa

set_option linter.unusedSimpArgs false
set_option linter.unusedVariables false
namespace Go.Proofs.Ytljmoppgihphlaa
open Go Go.Proofs Go.AL
def fq (P:List Int):RowQ:=λk=>((cf P k:Int):Rat)
theorem fq_low {P:List Int}{n:Nat}(h:tz P<=n):Low n (fq P):=λk hk=>by
 unfold fq;rw[cf_ge_tz P (Nat.le_trans h hk)];rfl
theorem fq_trimz (P:List Int):fq (trimz P)=fq P:=by
 funext k
 unfold fq;rw[cf_trimz]
theorem sh_map (f:RowQ):∀n,sh f n=(List.range n).map λi=>shf (n-1-i) f
 |0=>rfl
 |n+1=>by
  rw[sh,sh_map f n,List.range_succ_eq_map,List.map_cons,List.map_map]
  congr 1
  refine List.map_congr_left λi _=>?_;simp only[Function.comp_def];rw[show n+1-1-(i+1)=n-1-i by omega]
def gW (w:Nat)(f:RowQ):RowQ:=λj=>if j<w then f (w-1-j) else 0
def rowq (r:List RI):RowQ:=λj=>((iv (r.getD j (false,[])):Int):Rat)
theorem mq_map (L:List (List RI)):(List.range L.length).map (mq L)=L.map rowq:=by
 refine List.ext_getElem (by simp) λi h1 h2=>?_;have hi:i<L.length:=by simpa using h2
 simp only[List.getElem_map,List.getElem_range]
 funext j
 simp only[mq,rowq,List.getD,List.getElem?_eq_getElem hi,Option.getD_some]
theorem srk_rowq {P:List Int}{i s w:Nat}(hp:tz P≠0)(hs:s+i+tz P=w):rowq (srk P i w (tz P))=gW w (shf s (fq P)):=by
 funext j
 simp only[rowq,gW];by_cases hj:j<w
 .rw[if_pos hj,show (srk P i w (tz P)).getD j (false,[])=canon (if i<=j/\j<i+tz P then cf P (tz P-1-(j-i)) else 0) by
   simp only[srk,List.getD,List.getElem?_map,List.getElem?_range hj,Option.map_some,Option.getD_some],iv_canon]
  unfold shf fq;by_cases h1:i<=j/\j<i+tz P
  .rw[if_pos h1,if_pos (by omega),show w-1-j-s=tz P-1-(j-i) by omega]
  .rw[if_neg h1];by_cases h2:s<=w-1-j
   .rw[if_pos h2,cf_ge_tz P (by omega)]
   .rw[if_neg h2];rfl
 .rw[if_neg hj,List.getD,List.getElem?_eq_none (by rw[srk_len];omega)]
  decide +kernel
theorem sylm_rows {P Q:List Int}(p0:tz P≠0)(q0:tz Q≠0):(sylm P Q).map rowq=(sh (fq P) (tz Q-1)++sh (fq Q) (tz P-1)).map (gW (tz P-1+(tz Q-1))):=by
 rw[sylm,List.map_append,List.map_append,sh_map,sh_map,List.map_map,List.map_map,List.map_map,List.map_map]
 congr 1
 .refine List.map_congr_left λi hi=>?_;have hi:=List.mem_range.1 hi;exact srk_rowq p0 (by omega)
 .refine List.map_congr_left λi hi=>?_;have hi:=List.mem_range.1 hi;exact srk_rowq q0 (by omega)
theorem sylm_dtq {P Q:List Int}(p0:tz P≠0)(q0:tz Q≠0):gdt (sylm P Q).length 0 (mq (sylm P Q))=res (tz P-1) (tz Q-1) (fq P) (fq Q):=by
 rw[gdt_dtq,dtq,mq_map,sylm_rows p0 q0,sylm_len,dl_dp _ 0 λf j _ h=>by rw[gW,if_pos (by omega),Nat.zero_add],res]
theorem rsq_eq {P Q:List Int}(hP:PB (2^19) (2^22) P)(hQ:PB (2^19) (2^22) Q)(p0:tz P≠0)(q0:tz Q≠0)(h:tz P-1+(tz Q-1)<=128):((rsq P Q:Int):Rat)=res (tz P-1) (tz Q-1) (fq P) (fq Q)/\zl (rsq P Q)<=2^30:=by
 have hm:=sylm_mb hP hQ;have hl:=sylm_len P Q;have hd:=sylm_dtq p0 q0;have c:=dl_cd (M:=2^22) (B:=128) (sylm P Q).length 0 ((List.range (sylm P Q).length).map (mq (sylm P Q))) (by rw[List.length_map,List.length_range,hl];exact h) λv hv q=>by
  obtain⟨i,_,rfl⟩:=List.mem_map.1 hv;exact mq_cd hm i q
 have hc:=c.int;rw[show dl (sylm P Q).length 0 ((List.range (sylm P Q).length).map (mq (sylm P Q)))=gdt (sylm P Q).length 0 (mq (sylm P Q)) by rw[gdt_dtq,dtq]]at hc;refine⟨by rw[<-hd];exact hc.1,Nat.le_trans hc.2 ?_⟩;clear hc c hd hm;rw[hl];generalize tz P-1+(tz Q-1)=L at h;exact Nat.le_trans (Nat.succ_le_succ (Nat.mul_le_mul_right _ h)) (show 128*(2^22+128)+1<=2^30 by decide)
theorem mulN_front (A f:RowQ):∀k,mulN A (k+1) f=lcq (A 0) 1 f (shf 1 (mulN (λj=>A (j+1)) k f))
 |0=>by
  rw[mulN,mulN,mulN,shf_zero,shf_zq]
  funext j
  simp only[lcq,zq]
  grind
 |k+1=>by
  rw[mulN,mulN_front A f k,mulN,shf_lcq,shf_shf,Nat.add_comm 1 k]
  funext j
  simp only[lcq]
  grind
theorem fq_pmul:∀(P Q:List Int),fq (pmul P Q)=mulN (fq P) P.length (fq Q)
 |[],Q=>by
  funext k
  unfold fq;rw[cf_pmul];rfl
 |x::P,Q=>by
  rw[List.length_cons,mulN_front,show (λj=>fq (x::P) (j+1))=fq P from rfl,<-fq_pmul P Q]
  funext k
  show ((cf (pmul (x::P) Q) k:Int):Rat)=_;rw[cf_pmul_cons,lcq,show fq (x::P) 0=(x:Rat) from rfl,Rat.intCast_add,Rat.intCast_mul,show fq Q k=((cf Q k:Int):Rat) from rfl];have e:((shiftf (cf (pmul P Q)) k:Int):Rat)=shf 1 (fq (pmul P Q)) k:=by
   cases k with
   |zero=>rfl
   |succ k=>unfold shf;rw[if_pos (by omega)];rfl
  rw[e]
  grind
theorem rsq_mul {A B Q:List Int}(hA:PB (2^19) (2^22) A)(hB:PB (2^19) (2^22) B)(hQ:PB (2^19) (2^22) Q)(hAB:PB (2^19) (2^22) (pmul A B))(a0:tz A≠0)(b0:tz B≠0)(q0:tz Q≠0)(h:tz A-1+(tz B-1)+(tz Q-1)<=128):rsq (pmul A B) Q=rsq A Q*rsq B Q:=by
 have ht:=tz_pmul a0 b0;have e1:=(rsq_eq hAB hQ (by omega) q0 (by omega)).1;have e2:=(rsq_eq hA hQ a0 q0 (by omega)).1;have e3:=(rsq_eq hB hQ b0 q0 (by omega)).1;have hm:=res_mul (m1:=tz A-1) (m2:=tz B-1) (n:=tz Q-1) (A:=fq A) (B:=fq B) (G:=fq Q) (fq_low (by omega)) (λe=>cf_tz_pred a0 (Rat.intCast_eq_zero_iff.mp e)) (fq_low (by omega)) (fq_low (by omega));have e4:fq (pmul A B)=mulN (fq A) (tz A-1+1) (fq B):=by
  rw[show tz A-1+1=tz A by omega,<-fq_trimz A,<-trimz_len,<-fq_pmul]
  funext k
  unfold fq;rw[pmul_congr (cf_trimz A) (λ_=>rfl)]
 rw[<-e4,<-e2,<-e3,show tz A-1+(tz B-1)=tz (pmul A B)-1 by omega,<-e1,<-Rat.intCast_mul]at hm;exact Rat.intCast_inj.mp hm
theorem rsq_turn {A Q:List Int}(hA:PB (2^19) (2^22) A)(hQ:PB (2^19) (2^22) Q)(a0:tz A≠0)(q0:tz Q≠0)(h:tz A-1+(tz Q-1)<=128):rsq A Q=if (tz A-1)*(tz Q-1)%2=1 then -rsq Q A else rsq Q A:=by
 have e1:=(rsq_eq hA hQ a0 q0 h).1;have e2:=(rsq_eq hQ hA q0 a0 (by omega)).1;have ht:=res_turn (tz Q-1) (tz A-1) (fq Q) (fq A);rw[<-e1,<-e2,sgn,Nat.mul_comm]at ht;by_cases hs:(tz A-1)*(tz Q-1)%2=1
 .rw[if_neg (by omega)]at ht;rw[if_pos hs];refine Rat.intCast_inj.mp ?_;rw[ht,Rat.intCast_neg]
  grind
 .rw[if_pos (by omega),Rat.one_mul]at ht;rw[if_neg hs];exact Rat.intCast_inj.mp ht
def hor (k:Int):List Int->Int
 |[]=>0
 |c::l=>hor k l*k+c
theorem evk_hor (k:Int):∀(l:List Int) (n:Nat),l.length=n+1->evk (k:Rat) n (fq l)=((hor k l:Int):Rat)
 |[c],0,_=>by
  rw[evk,hor,hor,Int.zero_mul,Int.zero_add];rfl
 |c::d::l,n+1,h=>by
  have ih:=evk_hor k (d::l) n (by simpa using h);rw[evk,show (λj=>fq (c::d::l) (j+1))=fq (d::l) from rfl,ih,show hor k (c::d::l)=hor k (d::l)*k+c from rfl,Rat.intCast_add,Rat.intCast_mul,show fq (c::d::l) 0=(c:Rat) from rfl]
  grind
theorem rsq_root {k:Int}{Q:List Int}(hk:k.natAbs<=1000)(hQ:PB (2^19) (2^22) Q)(q0:tz Q≠0)(h:tz Q<=128):rsq [-k,1] Q=hor k (trimz Q):=by
 have hl:PB (2^19) (2^22) [-k,1]:=⟨by simp,λz hz=>by
  refine Nat.le_trans (zl_le.mpr (show z.natAbs<W^1 from Nat.lt_of_lt_of_le (show z.natAbs<2000 from ?_) (by decide))) (show 1<=2^22 by omega);simp only[List.mem_cons,List.not_mem_nil,or_false]at hz;rcases hz with rfl|rfl
  .rw[Int.natAbs_neg];omega
  .decide⟩
 have ht:tz [-k,1]=2:=by
  have h1:=tz_le [-k,1];by_cases h2:tz [-k,1]=2
  .exact h2
  .have h3:=cf_ge_tz [-k,1] (k:=1) (by simp at h1;omega);exact absurd h3 (by show ¬(1:Int)=0;decide)
 have e1:=(rsq_eq hl hQ (by omega) q0 (by omega)).1;have e2:=res_root (k:Rat) (tz Q-1) (fq Q) (fq_low (by omega));have e3:=evk_hor k (trimz Q) (tz Q-1) (by rw[trimz_len];omega);have e4:fq [-k,1]=xk (k:Rat):=by
  funext j
  unfold fq xk
  match j with
  |0=>rw[if_pos rfl];show ((-k:Int):Rat)=_;rw[Rat.intCast_neg]
  |1=>rfl
  |j+2=>rfl
 rw[fq_trimz]at e3;rw[ht,e4,e2,e3]at e1;exact Rat.intCast_inj.mp e1
end Go.Proofs.Ytljmoppgihphlaa
