/-
 Contracts of the functions that the law reaches.
-/
import Derived.Test.YtnhghmibjddlkaaGreatDoorL360M
import Derived.Test.YtnhghmibjddlkaaGreatDoorAbsT
import Derived.Test.YtnhghmibjddlkaaGreatDoorL59M
import Derived.Test.YtnhghmibjddlkaaGreatDoorL31M
import Derived.Test.YtnhghmibjddlkaaGreatDoorAbsYM
import Derived.Test.YtnhghmibjddlkaaGreatDoorL1M
import Derived.Test.YtnhghmibjddlkaaGreatDoorL12M
import Derived.Test.YtnhghmibjddlkaaGreatDoorTyA
import Derived.RangeFuncBox
import Derived.OwnWalkIn
import Derived.TacticsInMore
import Derived.LoopNIn
import Derived.LoopIn
set_option maxHeartbeats 2000000
namespace Go.Proofs.YtnhghmibjddlkaaGreatDoor
open Go Go.Proofs Go.AL
set_option linter.unusedSimpArgs false
set_option linter.unusedVariables false





abbrev kN:=Nat->Rat
def DJ (F:List kN->Rat)(c:Nat):List kN->List kN->Rat
 |_,[]=>0
 |pre,v::post=>v c*F (pre++post)-DJ F c (pre++[v]) post
def dl:Nat->Nat->List kN->Rat
 |0,_,[]=>1
 |0,_,_::_=>0
 |n+1,c,l=>DJ (dl n (c+1)) c [] l
def lcq (a b:Rat)(u v:kN):kN:=λk=>a*u k+b*v k
def a8L (F:List kN->Rat):Prop:=∀p q a b u v,F (p++lcq a b u v::q)=a*F (p++u::q)+b*F (p++v::q)
def a8R (F:List kN->Rat):Prop:=∀p q u,F (p++u::u::q)=0
theorem zX {F:List kN->Rat}(hF:a8L F)(c:Nat)(p:List kN)(a b:Rat)(u v:kN):∀post q,DJ F c (p++lcq a b u v::q) post=a*DJ F c (p++u::q) post+b*DJ F c (p++v::q) post
 |[],q=>by simp only[DJ];grind
 |w::post,q=>by
  have ih:=zX hF c p a b u v post (q++[w]);have h:=hF p (q++post) a b u v;simp only[DJ,List.append_assoc,List.cons_append]at *;rw[h,ih]
  grind
theorem SH {F:List kN->Rat}(hF:a8L F)(c:Nat)(q:List kN)(a b:Rat)(u v:kN):∀p pre,DJ F c pre (p++lcq a b u v::q)=a*DJ F c pre (p++u::q)+b*DJ F c pre (p++v::q)
 |[],pre=>by
  have h:=zX hF c pre a b u v q [];simp only[DJ,List.nil_append];rw[h];simp only[lcq]
  grind
 |x::p,pre=>by
  have ih:=SH hF c q a b u v p (pre++[x]);have h:=hF (pre++p) q a b u v;simp only[List.append_assoc]at h;simp only[DJ,List.cons_append];rw[h,ih]
  grind
theorem zY {F:List kN->Rat}(hF:a8R F)(c:Nat)(p:List kN)(u:kN):∀post q,DJ F c (p++u::u::q) post=0
 |[],q=>rfl
 |w::post,q=>by
  have ih:=zY hF c p u post (q++[w]);have h:=hF p (q++post) u;simp only[DJ,List.append_assoc,List.cons_append]at *;rw[h,ih]
  grind
theorem SI {F:List kN->Rat}(hF:a8R F)(c:Nat)(q:List kN)(u:kN):∀p pre,DJ F c pre (p++u::u::q)=0
 |[],pre=>by
  have h:=zY hF c pre u q [];simp only[DJ,List.nil_append,List.append_assoc,List.cons_append]at *;rw[h]
  grind
 |x::p,pre=>by
  have ih:=SI hF c q u p (pre++[x]);have h:=hF (pre++p) q u;simp only[List.append_assoc]at h;simp only[DJ,List.cons_append];rw[h,ih]
  grind
theorem Io (c:Nat)(p:List kN)(x:kN)(q:List kN):dl 0 c (p++x::q)=0:=by cases p<;>rfl
theorem a4W:∀n c,a8L (dl n c)
 |0,c=>λp q a b u v=>by rw[Io,Io,Io];grind
 |n+1,c=>λp q a b u v=>SH (a4W n (c+1)) c q a b u v p []
theorem a4X:∀n c,a8R (dl n c)
 |0,c=>λp q u=>Io c p u (u::q)
 |n+1,c=>λp q u=>SI (a4X n (c+1)) c q u p []
theorem a9Z {F:List kN->Rat}(hM:a8L F)(hA:a8R F)(p q:List kN)(u v:kN):F (p++u::v::q) = -F (p++v::u::q):=by
 have h0:=hA p q (lcq 1 1 u v);have h1:=hM p (lcq 1 1 u v::q) 1 1 u v;have h2:=hM (p++[u]) q 1 1 u v;have h3:=hM (p++[v]) q 1 1 u v;simp only[List.append_assoc,List.cons_append,List.nil_append]at h2 h3;have h4:=hA p q u;have h5:=hA p q v;rw[h1,h2,h3,h4,h5]at h0
 grind
theorem b0a {F:List kN->Rat}(hM:a8L F)(hA:a8R F)(u:kN)(q:List kN):∀m p,F (p++u::(m++u::q))=0
 |[],p=>hA p q u
 |x::m,p=>by
  have ih:=b0a hM hA u q m (p++[x]);simp only[List.append_assoc,List.cons_append,List.nil_append]at ih;rw[List.cons_append,a9Z hM hA,ih];rfl
theorem a6x {F:List kN->Rat}(hM:a8L F)(hA:a8R F)(u v:kN)(t:Rat)(m q:List kN):F (u::(m++lcq 1 t v u::q))=F (u::(m++v::q)):=by
 have h:=hM (u::m) q 1 t v u;have h2:=b0a hM hA u q m [];simp only[List.cons_append,List.nil_append]at h h2;rw[h,h2]
 grind
def opq (c:Nat)(u v:kN):kN:=lcq 1 (-(v c/u c)) v u
theorem Qu {F:List kN->Rat}(hM:a8L F)(hA:a8R F)(c:Nat)(u:kN):∀L d,F (u::(d++L.map (opq c u)))=F (u::(d++L))
 |[],d=>rfl
 |v::L,d=>by
  have ih:=Qu hM hA c u L (d++[v]);simp only[List.append_assoc,List.cons_append,List.nil_append]at ih;rw[List.map_cons,opq,a6x hM hA,ih]
theorem LH {F:List kN->Rat}{c:Nat}:∀l pre,(∀v∈l,v c=0)->DJ F c pre l=0
 |[],pre,h=>rfl
 |v::l,pre,h=>by
  rw[DJ,h v (by simp),LH l _ λw hw=>h w (by simp[hw])]
  grind
theorem a7V (n c:Nat)(u:kN)(L:List kN)(h:u c≠0):dl (n+1) c (u::L)=u c*dl n (c+1) (L.map (opq c u)):=by
 have h1:=Qu (a4W (n+1) c) (a4X (n+1) c) c u L [];rw[List.nil_append,List.nil_append]at h1;rw[<-h1,dl,DJ,LH _ _ λv hv=>?_,List.nil_append]
 .grind
 .obtain⟨w,_,rfl⟩:=List.mem_map.1 hv;simp only[opq,lcq]
  grind
def gsq (A:Nat->kN):Nat->Nat->kN
 |0,i=>A i
 |k+1,i=>λj=>gsq A k i j-gsq A k i k/gsq A k k k*gsq A k k j
def pvt (A:Nat->kN):Nat->Rat
 |0=>1
 |k+1=>pvt A k*gsq A k k k
theorem a4B (A:Nat->kN)(m i:Nat)(s:Nat->Nat)(hs:s m=m):opq m (λq=>gsq A m m (s q)) (λq=>gsq A m i (s q))=λq=>gsq A (m+1) i (s q):=by
 funext q
 simp only[opq,lcq,gsq,hs]
 grind
def Af (A:Nat->kN)(s:Nat->Nat)(m k i:Nat):List kN:=(List.range' m (k-m)).map (λr q=>gsq A m r (s q))++[λq=>gsq A m i (s q)]
theorem TD (A:Nat->kN)(s:Nat->Nat){m k i:Nat}(hm:m<k)(hs:s m=m)(h:gsq A m m m≠0):dl (k+1-m) m (Af A s m k i)=gsq A m m m*dl (k+1-(m+1)) (m+1) (Af A s (m+1) k i):=by
 have e1:k+1-m=(k-m)+1:=by omega
 have e2:k+1-(m+1)=k-m:=by omega
 have e3:k-m=(k-(m+1))+1:=by omega
 have e:Af A s m k i=(λq=>gsq A m m (s q))::((List.range' (m+1) (k-(m+1))).map (λr q=>gsq A m r (s q))++[λq=>gsq A m i (s q)]):=by
  rw[Af,e3,List.range'_succ,List.map_cons,List.cons_append]
 rw[e,e1,e2,a7V _ _ _ _ (by simp only[hs];exact h)];simp only[hs]
 congr 2
 rw[List.map_append,List.map_map,List.map_cons,List.map_nil,Af]
 congr 1
 .refine List.map_congr_left λr _=>?_;exact a4B A m r s hs
 .rw[a4B A m i s hs]
theorem JJ (A:Nat->kN)(s:Nat->Nat)(k i:Nat)(hs:∀q,q<k->s q=q):∀m,m<=k->(∀l,l<m->gsq A l l l≠0)->dl (k+1) 0 (Af A s 0 k i)=pvt A m*dl (k+1-m) m (Af A s m k i)
 |0,_,_=>by rw[pvt,Nat.sub_zero];grind
 |m+1,hm,h=>by
  rw[JJ A s k i hs m (by omega) λl hl=>h l (by omega),TD A s (by omega) (hs m (by omega)) (h m (by omega)),pvt]
  grind
def a9O (k j q:Nat):Nat:=if q<k then q else j
theorem a2e (A:Nat->kN)(k i j:Nat)(h:∀l,l<k->gsq A l l l≠0):dl (k+1) 0 (Af A (a9O k j) 0 k i)=pvt A k*gsq A k i j:=by
 rw[JJ A (a9O k j) k i (λq hq=>if_pos hq) k (Nat.le_refl k) h,Nat.add_sub_cancel_left]
 congr 1
 have e:Af A (a9O k j) k k i=[λq=>gsq A k i (a9O k j q)]:=by rw[Af,Nat.sub_self];rfl
 rw[e,dl,DJ,DJ,List.nil_append,dl];rw[show a9O k j k=j from if_neg (Nat.lt_irrefl k)]
 grind
theorem CD.one_mul {M N:Nat}{p q:Rat}(h:CD 1 M p)(k:CD 1 N q):CD 1 (M+N) (p*q):=CD.mul Nat.one_ne_zero Nat.one_ne_zero h k
theorem CD.sub {D M N:Nat}{p q:Rat}(h:CD D M p)(k:CD D N q):CD D (max M N+1) (p-q):=by rw[Rat.sub_eq_add_neg];exact h.add k.neg
theorem ZK {F:List kN->Rat}{c M S B:Nat}(hF:∀l,l.length<=B->(∀v∈l,∀q,CD 1 M (v q))->CD 1 S (F l)):∀post pre,pre.length+post.length<=B->(∀v∈pre++post,∀q,CD 1 M (v q))->CD 1 (M+S+post.length) (DJ F c pre post)
 |[],pre,_,_=>CD.zero _ _
 |v::post,pre,hl,h=>by
  rw[List.length_cons]at hl;have h1:=hF (pre++post) (by rw[List.length_append];omega) λw hw=>h w (by
   rcases List.mem_append.1 hw with hw|hw
   .exact List.mem_append_left _ hw
   .exact List.mem_append_right _ (List.mem_cons_of_mem _ hw))
  have h2:=ZK (c:=c) hF post (pre++[v]) (by rw[List.length_append,List.length_singleton];omega) λw hw=>h w (by simpa using hw)
  exact(((h v (by simp) c).one_mul h1).sub h2).mono (by rw[List.length_cons];omega)
theorem b1k {M B:Nat}:∀n c l,l.length<=B->(∀v∈l,∀q,CD 1 M (v q))->CD 1 (n*(M+B)+1) (dl n c l)
 |0,_,[],_,_=>⟨1,by rw[dl];decide +kernel,by rw[show zl 1=1 by decide +kernel];omega⟩
 |0,_,_::_,_,_=>CD.zero _ _
 |n+1,c,l,hl,h=>by
  have h1:=ZK (c:=c) (B:=B) (λl hl h=>b1k n (c+1) l hl h) l [] (by rw[List.length_nil];omega) h;exact h1.mono (by rw[Nat.succ_mul];omega)
theorem a2f {A:Nat->kN}{M k i j:Nat}(hA:∀i j,CD 1 M (A i j))(h:∀l,l<k->gsq A l l l≠0):CD 1 ((k+1)*(M+(k+1))+1) (pvt A k*gsq A k i j):=by
 rw[<-a2e A k i j h];refine b1k (B:=k+1) _ _ _ ?_ λv hv q=>?_
 .simp[Af]
 .rw[Af]at hv;rcases List.mem_append.1 hv with hv|hv
  .obtain⟨r,_,rfl⟩:=List.mem_map.1 hv;exact hA _ _
  .rw[List.mem_singleton.1 hv];exact hA _ _
theorem CD.int {M:Nat}{q:Rat}(h:CD 1 M q):((q.num:Int):Rat)=q/\zl q.num<=M:=by
 obtain⟨z,e,hz⟩:=h;have e:q=(z:Rat):=by rw[e];rw[show ((1:Nat):Rat)=1 from rfl];grind
 rw[e];exact⟨by rw[Rat.num_intCast],by rw[Rat.num_intCast];exact hz⟩
theorem a8s (A:Nat->kN)(k i j:Nat)(h:gsq A k k k≠0):pvt A (k+1)*gsq A (k+1) i j*pvt A k=pvt A k*gsq A k i j*(pvt A k*gsq A k k k)-pvt A k*gsq A k i k*(pvt A k*gsq A k k j):=by
 simp only[pvt,gsq]
 grind
section
def miq (A:Nat->kN)(k i j:Nat):Int:=(pvt A k*gsq A k i j).num
def a9c (A:Nat->kN)(k:Nat):Int:=(pvt A k).num
def bz (M k:Nat):Nat:=(k+1)*(M+(k+1))+1
theorem a8l {M k l:Nat}(h:k<=l):bz M k<=bz M l:=by
 unfold bz;have h1:(k+1)*(M+(k+1))<=(l+1)*(M+(l+1)):=Nat.mul_le_mul (by omega) (by omega);omega
structure Gs (A:Nat->kN) (M k:Nat):Prop where
 e:∀i j,CD 1 M (A i j)
 p:∀l,l<k->gsq A l l l≠0
section
variable {A:Nat->kN} {M k:Nat}
theorem Gs.mono {m:Nat}(g:Gs A M k)(h:m<=k):Gs A M m:=⟨g.e,λl hl=>g.p l (by omega)⟩
theorem Gs.next (g:Gs A M k)(h:gsq A k k k≠0):Gs A M (k+1):=⟨g.e,λl hl=>by
 rcases Nat.lt_or_ge l k with h1|h1
 .exact g.p l h1
 .obtain rfl:l=k:=by omega
  exact h⟩
theorem Gs.mi (g:Gs A M k)(i j:Nat):((miq A k i j:Int):Rat)=pvt A k*gsq A k i j/\zl (miq A k i j)<=bz M k:=(a2f g.e g.p).int
theorem Gs.lst:∀{k:Nat},Gs A M k->((a9c A k:Int):Rat)=pvt A k/\zl (a9c A k)<=bz M k
 |0,_=>⟨by rw[a9c,pvt];decide +kernel,by rw[show zl (a9c A 0)=1 by rw[a9c,pvt];decide +kernel];unfold bz;omega⟩
 |k+1,g=>⟨((g.mono (Nat.le_succ k)).mi k k).1,Nat.le_trans ((g.mono (Nat.le_succ k)).mi k k).2 (a8l (Nat.le_succ k))⟩
theorem Gs.step (g:Gs A M k)(h:gsq A k k k≠0)(i j:Nat):miq A k i j*miq A k k k-miq A k i k*miq A k k j=miq A (k+1) i j*a9c A k:=by
 have b:=a8s A k i j h;rw[<-((g.next h).mi i j).1,<-(g.mi i j).1,<-(g.mi k k).1,<-(g.mi i k).1,<-(g.mi k j).1,<-g.lst.1,<-Rat.intCast_mul,<-Rat.intCast_mul,<-Rat.intCast_mul,<-Rat.intCast_sub]at b;exact(Rat.intCast_inj.mp b).symm
end
end

def Ud (m:List (List RI)):List (List IV):=m.map λr=>[.sl (gZ r)]
theorem CW (m:List (List RI)):(Ud m).length=m.length:=List.length_map _
theorem GX {m:List (List RI)}{i:Nat}(h:i<m.length):(Ud m).getD i []=[.sl (gZ (m.getD i []))]:=by simp[Ud,List.getD,h]
theorem yT (m:List (List RI))(k:Nat):(Ud m).take k=Ud (m.take k):=by simp[Ud,List.map_take]
theorem a5E (a b:RI)(ha:Sz (2^40) a)(hb:Sz (2^40) b):AC Tryz.prog 115 [cr a,cr b] none [cz (iv a-iv b)]:=by
 have m:=FT b hb;have hz:Sz (2^40) (canon (-iv b)):=(aW _).mono (by rw[rO];exact rG hb);have k:=rP a (canon (-iv b)) ha hz;rw[aU,show iv a + -iv b=iv a-iv b by omega]at k;refine AC.aF (rs:=[.cell 4 29]) bM Tryz.func115 (by rfl) (by rfl) (by rfl) (by rfl) (by rfl) ?_;simp (disch:=omega) only[wt,seval,reduceCtorEq,Nat.reduceEqDiff,CW,GX,yT];refine .inl ⟨aZ (by kernel_rfl),?_⟩;refine au (m) (by rfl) (by simp) ?_;simp (disch:=omega) only[wt,seval,reduceCtorEq,Nat.reduceEqDiff,CW,GX,yT];refine au (k) (by rfl) (by simp) ?_;simp (disch:=omega) only[wt,seval,reduceCtorEq,Nat.reduceEqDiff,CW,GX,yT]
 first|exact aN (by kernel_rfl)|refine⟨aN (by kernel_rfl),?_⟩
 try rfl
theorem MZ (n:Nat):zl (2^n)<=n/64+1:=dR.mpr (by
 rw[Int.natAbs_pow,Ea];exact Nat.pow_lt_pow_right (by decide) (by omega))
theorem FY (n:Nat)(hn:n<=2^30):AC Tryz.prog 70 [ci n] none [cz (2^n)]:=by
 have o:=iJ 1 (by omega) (by omega);refine AC.aF (rs:=[.cell 2 29]) bM Tryz.func70 (by rfl) (by rfl) (by rfl) (by rfl) (by rfl) ?_;simp (disch:=omega) only[wt,seval,reduceCtorEq,Nat.reduceEqDiff,aj];refine au (o) (by rfl) (by simp) ?_;simp (disch:=omega) only[wt,seval,reduceCtorEq,Nat.reduceEqDiff,aj];refine bF (λf H=>∃(i:Nat),i<=n/\f 0=.iv (.int .i64 i)/\f 3=.hp 3 1 0 0/\H 3=.blk false 1 29 2 [je (canon (2^(n-i)))]/\f 2=.hp 2 1 0 0/\H 2=.blk false 1 29 2 [[.bool false,.sl []]]) (λf H=>(dQ f 0).toNat) ?_ ?_
 .refine⟨n,by omega,?_⟩;simp (disch:=omega) only[wt,seval,reduceCtorEq,Nat.reduceEqDiff,aj,Nat.sub_self,Int.pow_zero]
 rintro f H ⟨i,hi,hF⟩;rw[bC hF.1];simp (disch:=omega) only[wt,seval,reduceCtorEq,Nat.reduceEqDiff,aj,hF];refine bU (λhlt=>?_) (λhlt=>?_)
 .obtain⟨m,hm⟩:∃m,m=min i 1048576:=⟨_,rfl⟩;have em:min (i:Int) 1048576=m:=by omega
  have s:=FQ (canon (2^(n-i))) m ((aW _).mono (by have:=MZ (n-i);omega)) (by omega);rw[aU,<-Int.pow_add,show n-i+m=n-(i-m) by omega]at s;have ei:(i:Int)-(m:Int)=((i-m:Nat):Int):=by omega
  simp (disch:=omega) only[wt,seval,reduceCtorEq,Nat.reduceEqDiff,aj,hF,em];refine au (s) (by first|rfl|(simp only[aH,bn,aB,aI,aA,Nat.reduceEqDiff,↓reduceIte,hF,em,ei];rfl)) (by simp) ?_;simp (disch:=omega) only[wt,seval,reduceCtorEq,Nat.reduceEqDiff,aj,hF,em,ei];refine⟨⟨i-m,by omega,?_⟩,by omega⟩
  (repeat' apply And.intro)<;>first|rfl|omega
 .obtain rfl:i=0:=by omega
  simp (disch:=omega) only[wt,seval,reduceCtorEq,Nat.reduceEqDiff,aj,hF]
  try rfl
theorem a5H (z d:Int)(hd:0<d)(hz:zl z<=2^38)(hdz:zl d<=2^38):AC Tryz.prog 114 [cz z,cz d] none [cz (sg (decide (z<0)) (z.natAbs/d.natAbs)),cz (sg (decide (z<0)) (z.natAbs%d.natAbs)),ci 0]:=by
 have q:=WX (wd z.natAbs) (wd d.natAbs) (bY _) (bY _) hz hdz (by rw[dU];omega);rw[dU,dU]at q;have o1:=mP (decide (z<0)) (z.natAbs/d.natAbs);have o2:=mP (decide (z<0)) (z.natAbs%d.natAbs);have c1:(canon z).1=decide (z<0):=rfl;have c2:(canon d).1=false:=by simp[canon];omega
 show AC Tryz.prog 114 [.agg [.bool (canon z).1,.sl (dJ (wd z.natAbs))],.agg [.bool (canon d).1,.sl (dJ (wd d.natAbs))]] none _;rw[c2,c1];generalize sg (decide (z<0)) (z.natAbs/d.natAbs)=u at *;generalize sg (decide (z<0)) (z.natAbs%d.natAbs)=v at *;clear c1 c2;generalize decide (z<0)=s at *;cases s
 all_goals
  refine AC.aF (rs:=[.cell 4 29,.cell 5 29,.tmp 6]) bM Tryz.func114 (by rfl) (by rfl) (by rfl) (by rfl) (by rfl) ?_;simp (disch:=omega) only[wt,seval,reduceCtorEq,Nat.reduceEqDiff,aj];refine au (q) (by rfl) (by simp) ?_;simp (disch:=omega) only[wt,seval,reduceCtorEq,Nat.reduceEqDiff,aj];refine .inl ⟨aZ (by kernel_rfl),?_⟩;refine au (o1) (by rfl) (by simp) ?_;simp (disch:=omega) only[wt,seval,reduceCtorEq,Nat.reduceEqDiff,aj];refine au (o2) (by rfl) (by simp) ?_;simp (disch:=omega) only[wt,seval,reduceCtorEq,Nat.reduceEqDiff,aj]
  first|exact aN (by kernel_rfl)|refine⟨aN (by kernel_rfl),?_⟩
  try rfl
theorem Yz {z d:Int}(hd:0<d):(0<=z->sg (decide (z<0)) (z.natAbs/d.natAbs)=z/d)/\(z<0->z.natAbs%d.natAbs=0->sg (decide (z<0)) (z.natAbs/d.natAbs)=z/d)/\(z<0->z.natAbs%d.natAbs≠0->sg (decide (z<0)) (z.natAbs/d.natAbs)-1=z/d):=by
 obtain⟨D,rfl⟩:∃D:Nat,d=D:=⟨d.toNat,by omega⟩;rw[Int.natAbs_natCast];generalize hN:z.natAbs=N;have h1:=Nat.div_add_mod N D;have h2:=Nat.mod_lt N (show 0<D by omega);have cN:((D*(N/D)+N%D:Nat):Int)=N:=by exact_mod_cast h1
 rw[Int.natCast_add,Int.natCast_mul]at cN;have c2:((N%D:Nat):Int)<D:=by exact_mod_cast h2
 refine⟨λh=>?_,λh h0=>?_,λh h0=>?_⟩
 .rw[decide_eq_false (by omega)];show ((N/D:Nat):Int)=_;refine(tK hd ?_ ?_).symm
  .rw[Int.mul_comm];omega
  .rw[Int.add_mul,Int.mul_comm,Int.one_mul];omega
 .rw[decide_eq_true h];show -((N/D:Nat):Int)=_;rw[h0]at cN;refine(tK hd ?_ ?_).symm
  .rw[Int.neg_mul,Int.mul_comm];omega
  .rw[Int.add_mul,Int.neg_mul,Int.mul_comm,Int.one_mul];omega
 .rw[decide_eq_true h];show -((N/D:Nat):Int)-1=_;refine(tK hd ?_ ?_).symm
  .rw[Int.sub_mul,Int.neg_mul,Int.mul_comm];omega
  .rw[show -((N/D:Nat):Int)-1+1 = -((N/D:Nat):Int) by omega,Int.neg_mul,Int.mul_comm];omega
theorem Vr {z:Int}{n k:Nat}(h:zl z<=k)(hn:n<=z.natAbs):(wd n).length<=k:=by
 have:=fB hn;have e:zl z=(wd z.natAbs).length:=rfl;omega
theorem b3v (s:Bool)(n:Nat):zl (sg s n)=(wd n).length:=by
 have:(sg s n).natAbs=n:=by unfold sg;split<;>omega
 show (wd (sg s n).natAbs).length=_;rw[this]
theorem Vm (z d:Int)(hd:0<d)(hz:zl z<=2^38)(hdz:zl d<=2^38):AC Tryz.prog 86 [cz z,cz d] none [cz (z/d),ci 0]:=by
 have q:=a5H z d hd hz hdz;obtain⟨v1,v2,v3⟩:=Yz (z:=z) hd;have lq:(wd (z.natAbs/d.natAbs)).length<=2^38:=Vr hz (Nat.div_le_self _ _);have lr:(wd (z.natAbs%d.natAbs)).length<=2^38:=Vr hz (Nat.mod_le _ _);have szq:zl (sg (decide (z<0)) (z.natAbs/d.natAbs))<=2^38:=by
  rw[b3v];exact lq
 have szr:zl (sg (decide (z<0)) (z.natAbs%d.natAbs))<=2^38:=by
  rw[b3v];exact lr
 have s1:=fM (canon (sg (decide (z<0)) (z.natAbs%d.natAbs))) ((aW _).mono (by omega));have s2:=fM (canon z) ((aW _).mono (by omega));have s3:=fM (canon d) ((aW _).mono (by omega));rw[aU]at s1 s2 s3;rw[Int.sign_eq_one_of_pos hd]at s3;have hr:∀x:Nat,(sg (decide (z<0)) x).sign=0↔x=0:=λx=>by
  rw[Int.sign_eq_zero_iff_zero];unfold sg;split<;>omega
 by_cases h0:z.natAbs%d.natAbs=0
 .have e:sg (decide (z<0)) (z.natAbs/d.natAbs)=z/d:=by
   by_cases hz0:z<0
   .exact v2 hz0 h0
   .exact v1 (by omega)
  rw[(hr _).2 h0]at s1;rw[e]at q;generalize sg (decide (z<0)) (z.natAbs%d.natAbs)=r at *;generalize z/d=y at *;generalize z.sign=t at *;refine AC.aF (rs:=[.cell 4 29,.tmp 5]) bM Tryz.func86 (by rfl) (by rfl) (by rfl) (by rfl) (by rfl) ?_;simp (disch:=omega) only[wt,seval,reduceCtorEq,Nat.reduceEqDiff,aj];refine au (q) (by rfl) (by simp) ?_;simp (disch:=omega) only[wt,seval,reduceCtorEq,Nat.reduceEqDiff,aj];refine .inl ⟨aZ (by kernel_rfl),?_⟩;refine au (s1) (by rfl) (by simp) ?_;simp (disch:=omega) only[wt,seval,reduceCtorEq,Nat.reduceEqDiff,aj]
  first|exact aN (by kernel_rfl)|refine⟨aN (by kernel_rfl),?_⟩
  try rfl
 .have hn:¬(sg (decide (z<0)) (z.natAbs%d.natAbs)).sign=0:=λh=>h0 ((hr _).1 h)
  generalize (sg (decide (z<0)) (z.natAbs%d.natAbs)).sign=rs at *;by_cases hz0:z<0
  .have e:=v3 hz0 h0;have o:=iJ 1 (by omega) (by omega);have sb:=a5E (canon (sg (decide (z<0)) (z.natAbs/d.natAbs))) (canon 1) ((aW _).mono (by omega)) ((aW _).mono (by have:zl 1<=1:=dR.mpr (by decide);omega));rw[aU,aU,e]at sb;rw[Int.sign_eq_neg_one_of_neg hz0]at s2;generalize sg (decide (z<0)) (z.natAbs%d.natAbs)=r at *;generalize sg (decide (z<0)) (z.natAbs/d.natAbs)=x at *;generalize z/d=y at *;refine AC.aF (rs:=[.cell 4 29,.tmp 5]) bM Tryz.func86 (by rfl) (by rfl) (by rfl) (by rfl) (by rfl) ?_;simp (disch:=omega) only[wt,seval,reduceCtorEq,Nat.reduceEqDiff,aj];refine au (q) (by rfl) (by simp) ?_;simp (disch:=omega) only[wt,seval,reduceCtorEq,Nat.reduceEqDiff,aj];refine .inl ⟨aZ (by kernel_rfl),?_⟩;refine au (s1) (by first|rfl|(simp only[aH,bn,aB,aI,aA,Nat.reduceEqDiff,↓reduceIte,hn];rfl)) (by simp) ?_;simp (disch:=omega) only[wt,seval,reduceCtorEq,Nat.reduceEqDiff,aj,hn];refine au (s2) (by first|rfl|(simp only[aH,bn,aB,aI,aA,Nat.reduceEqDiff,↓reduceIte,hn];rfl)) (by simp) ?_;simp (disch:=omega) only[wt,seval,reduceCtorEq,Nat.reduceEqDiff,aj,hn];refine au (s3) (by first|rfl|(simp only[aH,bn,aB,aI,aA,Nat.reduceEqDiff,↓reduceIte,hn];rfl)) (by simp) ?_;simp (disch:=omega) only[wt,seval,reduceCtorEq,Nat.reduceEqDiff,aj,hn]
   first|exact aN (by kernel_rfl)|refine⟨aN (by kernel_rfl),?_⟩
   refine .inl ⟨aZ (by kernel_rfl),?_⟩;refine au (o) (by first|rfl|(simp only[aH,bn,aB,aI,aA,Nat.reduceEqDiff,↓reduceIte,hn];rfl)) (by simp) ?_;simp (disch:=omega) only[wt,seval,reduceCtorEq,Nat.reduceEqDiff,aj,hn];refine au (sb) (by first|rfl|(simp only[aH,bn,aB,aI,aA,Nat.reduceEqDiff,↓reduceIte,hn];rfl)) (by simp) ?_;simp (disch:=omega) only[wt,seval,reduceCtorEq,Nat.reduceEqDiff,aj,hn]
   first|exact aN (by kernel_rfl)|refine⟨aN (by kernel_rfl),?_⟩
   try rfl
  .have e:=v1 (by omega);have hzp:0<z:=by
    rcases Int.lt_trichotomy z 0 with h|h|h
    .omega
    .subst h;exact(h0 (by simp)).elim
    .exact h
   rw[e]at q;rw[Int.sign_eq_one_of_pos hzp]at s2;generalize sg (decide (z<0)) (z.natAbs%d.natAbs)=r at *;generalize z/d=y at *;refine AC.aF (rs:=[.cell 4 29,.tmp 5]) bM Tryz.func86 (by rfl) (by rfl) (by rfl) (by rfl) (by rfl) ?_;simp (disch:=omega) only[wt,seval,reduceCtorEq,Nat.reduceEqDiff,aj];refine au (q) (by rfl) (by simp) ?_;simp (disch:=omega) only[wt,seval,reduceCtorEq,Nat.reduceEqDiff,aj];refine .inl ⟨aZ (by kernel_rfl),?_⟩;refine au (s1) (by first|rfl|(simp only[aH,bn,aB,aI,aA,Nat.reduceEqDiff,↓reduceIte,hn];rfl)) (by simp) ?_;simp (disch:=omega) only[wt,seval,reduceCtorEq,Nat.reduceEqDiff,aj,hn];refine au (s2) (by first|rfl|(simp only[aH,bn,aB,aI,aA,Nat.reduceEqDiff,↓reduceIte,hn];rfl)) (by simp) ?_;simp (disch:=omega) only[wt,seval,reduceCtorEq,Nat.reduceEqDiff,aj,hn];refine au (s3) (by first|rfl|(simp only[aH,bn,aB,aI,aA,Nat.reduceEqDiff,↓reduceIte,hn];rfl)) (by simp) ?_;simp (disch:=omega) only[wt,seval,reduceCtorEq,Nat.reduceEqDiff,aj,hn]
   first|exact aN (by kernel_rfl)|refine⟨aN (by kernel_rfl),?_⟩
   try rfl

def clz (n lo hi:Int):Int:=if n<lo then lo else if hi<n then hi else n
theorem zT {n lo hi:Int}(h:lo<=hi):lo<=clz n lo hi/\clz n lo hi<=hi:=by unfold clz;split<;>(try split)<;>omega
theorem uP (n lo hi:Int):AC Tryz.prog 21 [ci n,ci lo,ci hi] none [ci (clz n lo hi)]:=by
 unfold clz;by_cases h1:n<lo
 .rw[if_pos h1];refine AC.aF (rs:=[.tmp 6]) bM Tryz.func21 (by rfl) (by rfl) (by rfl) (by rfl) (by rfl) ?_;simp (disch:=omega) only[wt,seval,reduceCtorEq,Nat.reduceEqDiff,rqs,h1]
  try rfl
 .by_cases h2:hi<n
  .rw[if_neg h1,if_pos h2];refine AC.aF (rs:=[.tmp 6]) bM Tryz.func21 (by rfl) (by rfl) (by rfl) (by rfl) (by rfl) ?_;simp (disch:=omega) only[wt,seval,reduceCtorEq,Nat.reduceEqDiff,rqs,h1,h2]
   try rfl
  .rw[if_neg h1,if_neg h2];refine AC.aF (rs:=[.tmp 6]) bM Tryz.func21 (by rfl) (by rfl) (by rfl) (by rfl) (by rfl) ?_;simp (disch:=omega) only[wt,seval,reduceCtorEq,Nat.reduceEqDiff,rqs,h1,h2]
   try rfl
theorem FC (l:List Nat)(h:l.length<=2^40):AC Tryz.prog 27 [cl l] none [cl l]:=by
 refine AC.aF (rs:=[.tmp 2]) bM Tryz.func27 (by rfl) (by rfl) (by rfl) (by rfl) (by rfl) ?_;simp (disch:=omega) only[wt,seval,reduceCtorEq,Nat.reduceEqDiff,rqs]
 try rfl
theorem FD (c:RI)(h:c.2.length<=2^40):AC Tryz.prog 26 [cr c] none [cr c]:=by
 have n:=FC c.2 h;refine AC.aF (rs:=[.cell 2 29]) bM Tryz.func26 (by rfl) (by rfl) (by rfl) (by rfl) (by rfl) ?_;simp (disch:=omega) only[wt,seval,reduceCtorEq,Nat.reduceEqDiff,rqs];refine .inl ⟨aZ (by kernel_rfl),?_⟩;refine au (n) (by rfl) (by simp) ?_;simp (disch:=omega) only[wt,seval,reduceCtorEq,Nat.reduceEqDiff,rqs]
 first|exact aN (by kernel_rfl)|refine⟨aN (by kernel_rfl),?_⟩
 try rfl
theorem mO (r:RQ)(h:r.1.2.length<=2^40)(h2:r.2.length<=2^40):AC Tryz.prog 11 [cqq r] none [cqq r]:=by
 have n:=FC r.2 h2;have m:=FD r.1 h;refine AC.aF (rs:=[.cell 2 31]) bM Tryz.func11 (by rfl) (by rfl) (by rfl) (by rfl) (by rfl) ?_;simp (disch:=omega) only[wt,seval,reduceCtorEq,Nat.reduceEqDiff,rqs];refine .inl ⟨aZ (by kernel_rfl),?_⟩;refine au (m) (by rfl) (by simp) ?_;simp (disch:=omega) only[wt,seval,reduceCtorEq,Nat.reduceEqDiff,rqs];refine au (n) (by rfl) (by simp) ?_;simp (disch:=omega) only[wt,seval,reduceCtorEq,Nat.reduceEqDiff,rqs]
 first|exact aN (by kernel_rfl)|refine⟨aN (by kernel_rfl),?_⟩
 try rfl
theorem Vs {n:Nat}(h0:n≠0)(h:n<W):wd n=[n]:=by
 have h1:zl (n:Int)<=1:=dR.mpr (by rw[Nat.pow_one,Int.natAbs_natCast];exact h);have h2:zl (n:Int)=(wd n).length:=by unfold zl;rw[Int.natAbs_natCast]
 have h3:=dU n
 match hw:wd n with
 |[]=>rw[hw]at h3;exact absurd h3.symm h0
 |[a] =>
  rw[hw]at h3;have:nv [a]=a:=by simp[nv,vl]
  rw[<-h3,this]
 |a::b::l=>rw[hw]at h2;simp only[List.length_cons]at h2;omega
theorem wB (n:Int)(h : -9223372036854775808<n)(h':n<9223372036854775808):AC Tryz.prog 19 [ci n] none [cz n]:=by
 by_cases h0:n=0
 .subst h0;show AC Tryz.prog 19 [ci 0] none [cr (canon 0)];rw[zy];refine AC.aF (rs:=[.cell 2 29]) bM Tryz.func19 (by rfl) (by rfl) (by rfl) (by rfl) (by rfl) ?_;simp (disch:=omega) only[wt,seval,reduceCtorEq,Nat.reduceEqDiff,rqs]
  try rfl
 .by_cases hn:n<0
  .have e:canon n=(true,[n.natAbs]):=by rw[canon,decide_eq_true hn,Vs (by omega) (by simp only[W];omega)]
   have e1:IntKind.u64.wrap (0-n)=(n.natAbs:Int):=by
    rw[show (0:Int)-n=(n.natAbs:Int) by omega];exact fZ (by simp only[W];omega)
   show AC Tryz.prog 19 [ci n] none [cr (canon n)];rw[e];refine AC.aF (rs:=[.cell 2 29]) bM Tryz.func19 (by rfl) (by rfl) (by rfl) (by rfl) (by rfl) ?_;simp (disch:=omega) only[wt,seval,reduceCtorEq,Nat.reduceEqDiff,rqs,h0,hn,e1]
   try rfl
  .have e:canon n=(false,[n.natAbs]):=by rw[canon,decide_eq_false hn,Vs (by omega) (by simp only[W];omega)]
   have e1:IntKind.u64.wrap n=(n.natAbs:Int):=by
    have:n=(n.natAbs:Int):=by omega
    rw[this];exact fZ (by simp only[W];omega)
   show AC Tryz.prog 19 [ci n] none [cr (canon n)];rw[e];refine AC.aF (rs:=[.cell 2 29]) bM Tryz.func19 (by rfl) (by rfl) (by rfl) (by rfl) (by rfl) ?_;simp (disch:=omega) only[wt,seval,reduceCtorEq,Nat.reduceEqDiff,rqs,h0,hn,e1]
   try rfl
theorem Gg (l:List Int)(hl:l.length<=1000)(h:∀z∈l,-9223372036854775808<z/\z<9223372036854775808):AC Tryz.prog 6 [cis l] none [cw (l.map canon)]:=by
 refine AC.aF (rs:=[.tmp 2]) bM Tryz.func6 (by rfl) (by rfl) (by rfl) (by rfl) (by rfl) ?_;simp (disch:=omega) only[wt,seval,reduceCtorEq,Nat.reduceEqDiff,rqs];refine bF (λf H=>∃(i st:Nat),i<=l.length/\f 9=.iv (.int .i64 i)/\f 7=.iv (.sl (iO l))/\f 8=.iv (.int .i64 l.length)/\f 3=.hs 6 st/\H 6=.blk false st 29 2 (gZ ((l.take i).map canon))) (λf H=>(l.length-dQ f 9).toNat) ?_ ?_
 .refine⟨0,1,by omega,?_⟩;simp (disch:=omega) only[wt,seval,reduceCtorEq,Nat.reduceEqDiff,rqs,List.take_zero,List.map_nil]
 rintro f H ⟨i,st,hi,hF⟩;rw[bC hF.1];simp (disch:=omega) only[wt,seval,reduceCtorEq,Nat.reduceEqDiff,rqs,hF];refine bU (λhlt=>?_) (λhlt=>?_)
 .have hlt':i<l.length:=by omega
  have hq:((l.take i).map canon).length=i:=by rw[List.length_map,List.length_take];omega
  have hm:=h _ (getD_mem hlt' 0);have w:=wB (l.getD i 0) hm.1 hm.2;simp (disch:=omega) only[wt,seval,reduceCtorEq,Nat.reduceEqDiff,rqs,hF,hq];refine au (w) (by first|rfl|(simp only[aH,bn,aB,aI,aA,Nat.reduceEqDiff,↓reduceIte,hF,hq];rfl)) (by simp) ?_;simp (disch:=omega) only[wt,seval,reduceCtorEq,Nat.reduceEqDiff,rqs,hF,hq];refine⟨⟨i+1,st+1,by omega,?_⟩,by omega⟩;rw[show l.take (i+1)=l.take i++[l.getD i 0] by rw[List.take_add_one];simp[List.getD,hlt']]
  (repeat' apply And.intro)<;>first|rfl|omega
 .obtain rfl:i=l.length:=by omega
  rw[List.take_length]at hF;simp (disch:=omega) only[wt,seval,reduceCtorEq,Nat.reduceEqDiff,rqs,hF]
  try rfl
theorem a2W (p:List RI)(hl:p.length<=1000)(h:∀c∈p,c.2.length<=2^40):AC Tryz.prog 10 [cw p] none [cw p]:=by
 refine AC.aF (rs:=[.tmp 2]) bM Tryz.func10 (by rfl) (by rfl) (by rfl) (by rfl) (by rfl) ?_;simp (disch:=omega) only[wt,seval,reduceCtorEq,Nat.reduceEqDiff,rqs];refine bF (λf H=>∃(i st:Nat),i<=p.length/\f 9=.iv (.int .i64 i)/\f 7=.iv (.sl (gZ p))/\f 8=.iv (.int .i64 p.length)/\f 3=.hs 6 st/\H 6=.blk false st 29 2 (gZ (p.take i))) (λf H=>(p.length-dQ f 9).toNat) ?_ ?_
 .refine⟨0,1,by omega,?_⟩;simp (disch:=omega) only[wt,seval,reduceCtorEq,Nat.reduceEqDiff,rqs,List.take_zero]
 rintro f H ⟨i,st,hi,hF⟩;rw[bC hF.1];simp (disch:=omega) only[wt,seval,reduceCtorEq,Nat.reduceEqDiff,rqs,hF];refine bU (λhlt=>?_) (λhlt=>?_)
 .have hlt':i<p.length:=by omega
  have hq:(p.take i).length=i:=by rw[List.length_take];omega
  have w:=FD (p.getD i (false,[])) (h _ (getD_mem hlt' _));simp (disch:=omega) only[wt,seval,reduceCtorEq,Nat.reduceEqDiff,rqs,hF,hq];refine au (w) (by first|rfl|(simp only[aH,bn,aB,aI,aA,Nat.reduceEqDiff,↓reduceIte,hF,hq];rfl)) (by simp) ?_;simp (disch:=omega) only[wt,seval,reduceCtorEq,Nat.reduceEqDiff,rqs,hF,hq];refine⟨⟨i+1,st+1,by omega,?_⟩,by omega⟩;rw[show p.take (i+1)=p.take i++[p.getD i (false,[])] by rw[List.take_add_one];simp[List.getD,hlt']]
  (repeat' apply And.intro)<;>first|rfl|omega
 .obtain rfl:i=p.length:=by omega
  rw[List.take_length]at hF;simp (disch:=omega) only[wt,seval,reduceCtorEq,Nat.reduceEqDiff,rqs,hF]
  try rfl
set_option maxRecDepth 100000 in
theorem a2g (r:RQ)(hl:r.2.length<=2^40):AC Tryz.prog 12 [cqq r] none [cb (decide (nv r.2≠0))]:=by
 have z0:∀l:List Nat,nv l=0↔∀j,j<l.length->l.getD j 0=0:=λl=>by
  induction l with
  |nil=>simp[nv,vl]
  |cons a l ih =>
   have e:nv (a::l)=a+W*nv l:=rfl;have hW:(W:Nat)≠0:=by decide
   constructor
   .intro h j hj;have h1:a=0:=by omega
    have h2:nv l=0:=by
     rcases Nat.mul_eq_zero.mp (show W*nv l=0 by omega) with h|h
     .exact absurd h hW
     .exact h
    cases j with
    |zero=>exact h1
    |succ j=>exact ih.1 h2 j (by simpa using hj)
   .intro h;have h1:a=0:=h 0 (by simp);have h2:nv l=0:=ih.2 λj hj=>h (j+1) (by simpa using hj)
    rw[e,h1,h2];simp
 refine AC.aF (rs:=[.tmp 2]) bM Tryz.func12 (by rfl) (by rfl) (by rfl) (by rfl) (by rfl) ?_;simp (disch:=omega) only[wt,seval,reduceCtorEq,Nat.reduceEqDiff,rqs];refine bF (λf H=>∃(i:Nat),i<=r.2.length/\(∀j,j<i->r.2.getD j 0=0)/\f 8=.iv (.int .i64 i)/\f 6=.iv (.sl (dJ r.2))/\f 7=.iv (.int .i64 r.2.length)) (λf H=>(r.2.length-dQ f 8).toNat) ?_ ?_
 .refine⟨0,by omega,λj hj=>by omega,?_⟩;simp (disch:=omega) only[wt,seval,reduceCtorEq,Nat.reduceEqDiff,rqs]
 rintro f H ⟨i,hi,hz,hF⟩;rw[bC hF.1];simp (disch:=omega) only[wt,seval,reduceCtorEq,Nat.reduceEqDiff,rqs,hF];refine bU (λhlt=>?_) (λhlt=>?_)
 .have hlt':i<r.2.length:=by omega
  by_cases hx:r.2.getD i 0=0
  .have hx':((r.2.getD i 0:Nat):Int)=0:=by omega
   simp (disch:=omega) only[wt,seval,reduceCtorEq,Nat.reduceEqDiff,rqs,hF,hx'];refine⟨⟨i+1,by omega,λj hj=>?_,by omega⟩,by omega⟩;rcases Nat.lt_or_ge j i with hj'|hj'
   .exact hz j hj'
   .obtain rfl:j=i:=by omega
    exact hx
  .have hx':¬((r.2.getD i 0:Nat):Int)=0:=by omega
   have e:decide (¬nv r.2=0)=true:=decide_eq_true (λh=>hx ((z0 r.2).1 h i hlt'));rw[e];simp (disch:=omega) only[wt,seval,reduceCtorEq,Nat.reduceEqDiff,rqs,hF,hx']
   try rfl
 .have:nv r.2=0:=(z0 r.2).2 λj hj=>hz j (by omega)
  have e:decide (¬nv r.2=0)=false:=decide_eq_false (λh=>h this);rw[e];simp (disch:=omega) only[wt,seval,reduceCtorEq,Nat.reduceEqDiff,rqs,hF]
  try rfl
abbrev kn3 (x y z:Int):List IV:=[.int .i64 x,.int .i64 y,.int .i64 z]
theorem b2D (a b c x:IV):splice [a,b,c] 0 [x]=[x,b,c]:=rfl
theorem b2C (a b c x:IV):splice [a,b,c] 1 [x]=[a,x,c]:=rfl
theorem b2B (a b c x:IV):splice [a,b,c] 2 [x]=[a,b,x]:=rfl
theorem ln1 (a:IV):[a].length=1:=rfl
theorem ln3 (a b c:IV):[a,b,c].length=3:=rfl
theorem a1z (x y z:Int):AC Tryz.prog 22 [.agg (kn3 x y z)] none [.agg (kn3 (clz x (-1000000) 1000000) (clz y 1 1000) (clz z 1 3))]:=by
 have a:=uP x (-1000000) 1000000;have b:=uP y 1 1000;have c:=uP z 1 3;refine AC.aF (rs:=[.cell 2 65]) bM Tryz.func22 (by rfl) (by rfl) (by rfl) (by rfl) (by rfl) ?_;simp (disch:=omega) only[wt,seval,reduceCtorEq,Nat.reduceEqDiff,rqs];refine .inl ⟨aZ (by kernel_rfl),?_⟩;refine au (a) (by rfl) (by simp) ?_;simp (disch:=omega) only[wt,seval,reduceCtorEq,Nat.reduceEqDiff,rqs];refine au (b) (by rfl) (by simp) ?_;simp (disch:=omega) only[wt,seval,reduceCtorEq,Nat.reduceEqDiff,rqs];refine au (c) (by first|rfl|(simp only[aH,bn,aB,aI,aA,Nat.reduceEqDiff,↓reduceIte,b2D,b2C,b2B,ln1,ln3];rfl)) (by simp) ?_;simp (disch:=omega) only[wt,seval,reduceCtorEq,Nat.reduceEqDiff,rqs,b2D,b2C,b2B,ln1,ln3];refine⟨⟨⟨rfl,by simp⟩,⟨rfl,by simp[splice]⟩,⟨rfl,by simp[splice]⟩,trivial⟩,?_⟩
 dsimp only
 simp (disch:=omega) only[wt,seval,reduceCtorEq,Nat.reduceEqDiff,rqs,b2D,b2C,b2B]
 first|exact aN (by kernel_rfl)|refine⟨aN (by kernel_rfl),?_⟩
 try rfl
theorem Y4 (x y z:Int)(hx : -1000000<=x/\x<=1000000)(hy:1<=y/\y<=1000):AC Tryz.prog 24 [.agg (kn3 x y z)] none [cw ([-x,y].map canon)]:=by
 have a:=wB (0-x) (by omega) (by omega);have b:=wB y (by omega) (by omega);have e:[-x,y].map canon=[canon (0-x),canon y]:=by rw[Int.zero_sub];rfl
 rw[e];refine AC.aF (rs:=[.tmp 2]) bM Tryz.func24 (by rfl) (by rfl) (by rfl) (by rfl) (by rfl) ?_;simp (disch:=omega) only[wt,seval,reduceCtorEq,Nat.reduceEqDiff,rqs];refine .inl ⟨aZ (by kernel_rfl),?_⟩;refine au (a) (by rfl) (by simp) ?_;simp (disch:=omega) only[wt,seval,reduceCtorEq,Nat.reduceEqDiff,rqs];refine au (b) (by rfl) (by simp) ?_;simp (disch:=omega) only[wt,seval,reduceCtorEq,Nat.reduceEqDiff,rqs]
 first|exact aN (by kernel_rfl)|refine⟨aN (by kernel_rfl),?_⟩
 try rfl
def knr (p:List RI)(l:List RQ)(ts:List Int)(ok:Bool):List IV:=[.sl (gZ p),.sl (lD l),.sl (iO ts),.bool ok]
theorem knl (p:List RI)(l:List RQ)(ts:List Int)(ok:Bool):(knr p l ts ok).length=4:=rfl
theorem kn1 (p:List RI)(l:List RQ)(ts:List Int)(ok:Bool):(knr p l ts ok).getD 1 default=.sl (lD l):=rfl
theorem kn2 (p:List RI)(l:List RQ)(ts:List Int)(ok:Bool):(knr p l ts ok).getD 2 default=.sl (iO ts):=rfl
theorem kn0 (p:List RI)(l:List RQ)(ts:List Int)(ok:Bool):(knr p l ts ok).getD 0 default=.sl (gZ p):=rfl

def jo {α:Type}(l:List α)(k:Nat)(x:α):List α:=l.take k++x::l.drop k
theorem KO {α:Type}(l:List α)(x:α):jo l l.length x=l++[x]:=by
 rw[jo,List.take_length,List.drop_length]
theorem tu {α:Type}{l:List α}{k:Nat}(x:α)(h:k<=l.length):(jo l k x).length=l.length+1:=by
 rw[jo,List.length_append,List.length_cons,List.length_take,List.length_drop];omega
theorem EW {α:Type}{l:List α}{k:Nat}(x d:α)(h:k<l.length):((jo l (k+1) x).set (k+1) (l.getD k d)).set k x=jo l k x:=by
 have hg:l.getD k d=l[k]:=by simp[List.getD,h]
 have e1:l.take (k+1)=l.take k++[l[k]]:=by rw[List.take_add_one];simp[h]
 have e2:l.drop k=l[k]::l.drop (k+1):=List.drop_eq_getElem_cons h;have lk:(l.take k).length=k:=by rw[List.length_take];omega
 rw[jo,jo,hg,e1,e2,List.append_assoc];rw[List.set_append_right _ _ (by omega),List.set_append_right _ _ (by omega),lk];simp
theorem QW {α:Type}{l:List α}{k:Nat}(x d:α)(h:k<=l.length):(jo l k x).getD k d=x:=by
 have lk:(l.take k).length=k:=by rw[List.length_take];omega
 rw[jo,List.getD,List.getElem?_append_right (by omega),lk,Nat.sub_self];rfl
theorem zM {α:Type}{l:List α}{k:Nat}(x d:α)(h:k<l.length):(jo l (k+1) x).getD k d=l.getD k d:=by
 have lk:(l.take (k+1)).length=k+1:=by rw[List.length_take];omega
 rw[jo,List.getD,List.getElem?_append_left (by omega),List.getElem?_take,if_pos (by omega)];rfl
theorem D6 {α:Type}{l:List α}{k:Nat}{x y:α}:y∈jo l k x↔y=x\/y∈l:=by
 rw[jo,List.mem_append,List.mem_cons];have h:=List.take_append_drop k l;constructor
 .rintro(h1|h1|h1)
  .exact .inr (List.mem_of_mem_take h1)
  .exact .inl h1
  .exact .inr (List.mem_of_mem_drop h1)
 .rintro(h1|h1)
  .exact .inr (.inl h1)
  .rw[<-h,List.mem_append]at h1;rcases h1 with h1|h1
   .exact .inl h1
   .exact .inr (.inr h1)
def a0v (l:List RQ):Prop:=l.Pairwise λa b=>qv a<qv b
theorem a1d {l:List RQ}(h:a0v l){k:Nat}{x:RQ}(hk:k<=l.length)(h1:∀j,j<k->qv (l.getD j q0)<qv x)(h2:∀j,k<=j->j<l.length->qv x<qv (l.getD j q0)):a0v (jo l k x):=by
 unfold a0v at *;have e:=List.take_append_drop k l;have h':=h;rw[<-e,List.pairwise_append]at h';obtain⟨a,b,c⟩:=h';have m1:∀y∈l.take k,qv y<qv x:=λy hy=>by
  obtain⟨j,hj,rfl⟩:=List.getElem_of_mem hy;rw[List.length_take]at hj;have:=h1 j (by omega);rwa [List.getD,List.getElem?_eq_getElem (show j<l.length by omega),Option.getD_some,<-List.getElem_take]at this
 have m2:∀y∈l.drop k,qv x<qv y:=λy hy=>by
  obtain⟨j,hj,rfl⟩:=List.getElem_of_mem hy;rw[List.length_drop]at hj;have:=h2 (k+j) (by omega) (by omega);rw[List.getElem_drop];rwa [List.getD,List.getElem?_eq_getElem (show k+j<l.length by omega),Option.getD_some]at this
 rw[jo,List.pairwise_append,List.pairwise_cons];refine⟨a,⟨m2,b⟩,λy hy z hz=>?_⟩;rcases List.mem_cons.1 hz with rfl|hz
 .exact m1 y hy
 .exact c y hy z hz
theorem Qh {l:List RQ}(h:a0v l){i j:Nat}(hij:i<j)(hj:j<l.length):qv (l.getD i q0)<qv (l.getD j q0):=by
 have:=List.pairwise_iff_getElem.1 h i j (by omega) hj hij;rw[List.getD,List.getD,List.getElem?_eq_getElem (show i<l.length by omega),List.getElem?_eq_getElem hj];exact this
theorem TJ {l:List RQ}(h:a0v l):(l.map qv).Nodup:=by
 rw[List.Nodup,List.pairwise_map];exact List.Pairwise.imp (λ{a b} hab e=>by rw[e]at hab;exact Rat.lt_irrefl hab) h
theorem Qd {A B:List Int}{a n:Nat}(hA:SBd a A)(hB:SBd 1 B)(tA:tz A<=n)(tB:tz B<=3)(hn:n<W):SBd (a+2) (bV A B):=by
 intro i;have h:=(PB.bV (oQ tA hA).pv (oQ tB hB).pv hn).cf i;rw[U6 (p':=A) (q':=B) (Uo _) (Uo _)]at h;omega
structure Bw (Q:List Int) (S:Rat->Prop) (i m q:Nat):Prop where
 root:nR Q S
 com:∃D,Com Q D i
 sz:SBd m Q
 t:2*tz Q<=m+1+2*q
theorem Bw.start {c:Int}(hc:c≠0)(h:c.natAbs<W):Bw [c] (λ_=>False) 0 1 0:=by
 refine⟨Nu hc,⟨[1],Za hc⟩,λk=>?_,by have:tz [c]<=1:=oI [c];omega⟩
 match k with
 |0=>exact dR.mpr (by rw[Nat.pow_one];exact h)
 |k+1=>show zl 0<=1;rw[fA];omega
theorem a4n {x y:Int}(hx:x.natAbs<W)(hy:y.natAbs<W):SBd 1 [x,y]:=λk=>by
 match k with
 |0=>exact dR.mpr (by rw[Nat.pow_one];exact hx)
 |1=>exact dR.mpr (by rw[Nat.pow_one];exact hy)
 |k+2=>show zl 0<=1;rw[fA];omega
theorem VL {n d:Int}(hd:0<d):tz [-n,d]=2:=by
 refine Nat.le_antisymm (oI _) (Nat.le_of_not_lt λh=>?_);have:cf [-n,d] 1=d:=rfl;have h2:=bW [-n,d] (k:=1) (by omega);omega
theorem Y3 {P L:List Int}{m:Nat}(hP:SBd m P)(hL:SBd 1 L)(tL:tz L=2)(hP0:tz P≠0)(k:Nat)(hm:tz P+k<W):SBd (m+2*k) (MV P L k)/\tz (MV P L k)=tz P+k:=by
 induction k with
 |zero=>exact⟨hP,rfl⟩
 |succ k ih =>
  obtain⟨a,b⟩:=ih (by omega);refine⟨?_,?_⟩
  .exact Qd (n:=tz P+k) a hL (by omega) (by omega) (by omega)
  .rw[MV,gJ (by omega) (by omega)];omega
theorem Bw.ne {Q:List Int}{S:Rat->Prop}{i m q:Nat}(h:Bw Q S i m q):tz Q≠0:=by
 obtain⟨D,hD,E,G,e1,e2,e3,e4⟩:=h.com;rw[dX (q:=bV D E) (by rw[aX,e1]),gJ hD e4];omega
theorem Bw.lin {Q:List Int}{S:Rat->Prop}{i m q:Nat}(h:Bw Q S i m q){n d:Int}(hd:0<d)(hn:n.natAbs<W)(hd2:d.natAbs<W)(k:Nat)(hm:m+q+2*(k+1)+10<W):Bw (MV Q [-n,d] (k+1)) (λr=>S r\/r=(n:Rat)/(d:Rat)) (i+1) (m+2*(k+1)) q:=by
 have t:=VL (n:=n) hd;obtain⟨D,c⟩:=h.com;obtain⟨D',c',-⟩:=a2Y c (L:=[-n,d]) (by omega) (by omega) k;have ht:=h.t;obtain⟨a,b⟩:=Y3 h.sz (a4n (x:=-n) (y:=d) (by omega) hd2) t h.ne (k+1) (by omega);exact⟨TG h.root (WE hd) k,⟨D',c'⟩,a,by omega⟩
theorem Bw.b2F {Q:List Int}{S:Rat->Prop}{i m q:Nat}(h:Bw Q S i m q){a b:Int}(hb:1<=b)(ha : -1000<=a/\a<=1000)(hb2:b<=1000)(hm:m+q+10<W):Bw (bV Q [a*a+b,-2*a,1]) S (i+2) (m+2) (q+1):=by
 have t:tz [a*a+b,-2*a,1]=3:=by
  refine Nat.le_antisymm (oI _) (Nat.le_of_not_lt λh=>?_);have:cf [a*a+b,-2*a,1] 2=1:=rfl;have h2:=bW [a*a+b,-2*a,1] (k:=2) (by omega);omega
 obtain⟨D,c⟩:=h.com;have q1:0<=a*a:=by
  rcases Int.le_total 0 a with h|h
  .exact Int.mul_nonneg h h
  .have:=Int.mul_nonneg (show 0<=-a by omega) (show 0<=-a by omega);rwa [Int.neg_mul_neg]at this
 have q2:a*a<=1000*1000:=by
  rcases Int.le_total 0 a with h|h
  .exact Int.mul_le_mul (by omega) (by omega) h (by omega)
  .have:=Int.mul_le_mul (a:=-a) (b:=-a) (c:=1000) (d:=1000) (by omega) (by omega) (by omega) (by omega);rwa [Int.neg_mul_neg]at this
 have sq:SBd 1 [a*a+b,-2*a,1]:=λk=>by
  match k with
  |0=>exact dR.mpr (by rw[Nat.pow_one];show (a*a+b).natAbs<W;simp only[W];omega)
  |1=>exact dR.mpr (by rw[Nat.pow_one];show (-2*a).natAbs<W;simp only[W];omega)
  |2=>exact dR.mpr (by rw[Nat.pow_one];show (1:Int).natAbs<W;decide)
  |k+3=>show zl 0<=1;rw[fA];omega
 refine⟨(h.root.mul (TF hb)).congr λr=>⟨λh=>h.elim (λh=>h) (λh=>h.elim),.inl⟩,⟨D,c.one (k:=2) (by omega) (by omega)⟩,Qd (n:=m+1+q) h.sz sq (by have:=h.t;omega) (by omega) (by omega),?_⟩;have ht:=h.t;rw[gJ h.ne (by omega)];omega
theorem Bw.kw {Q:List Int}{l:List RQ}{i m q:Nat}(h:Bw Q (·∈l.map qv) i m q)(hi:i<=10)(hm:m<=44)(hqq:q<=2)(hr:a0v l)(hq:aV Q=Q):∃D,Kw (cn Q) D i (m+1) (l.map qv):=by
 obtain⟨D,c⟩:=h.com;have ht:tz Q<=30:=by have:=h.t;omega
 have e:pv (cn Q)=Q:=Ce hq;refine⟨D,⟨?_,oQ (by omega) (h.sz.mono (by omega)),hi,by omega,?_⟩⟩
 .rw[e];refine⟨c,h.sz.mono (by omega),Wy h.sz ht (by decide),ht,by omega,?_⟩;have:=YD (S:=m+1) (n:=i) (by omega) hi;omega
 .rw[e];exact h.root.two (TJ hr)
theorem Bw.kF {P Q:List Int}{S:Rat->Prop}{i m q:Nat}(h:Bw P S i m q)(e:ps P=ps Q):Bw Q S i m q:=by
 obtain⟨D,c⟩:=h.com;exact⟨h.root.kF e,⟨D,c.kF e⟩,λk=>by rw[<-jc e];exact h.sz k,by rw[<-dX e];exact h.t⟩
theorem Bw.congr {Q:List Int}{S T:Rat->Prop}{i m q:Nat}(h:Bw Q S i m q)(e:∀r,S r↔T r):Bw Q T i m q:=⟨h.root.congr e,h.com,h.sz,h.t⟩
set_option linter.defProp false
theorem gzA (x:AV)(l:List AV)(d:AV):(x::l).getD 0 d=x:=rfl
theorem gsA (x:AV)(l:List AV)(d:AV)(n:Nat):(x::l).getD (n+1) d=l.getD n d:=rfl
theorem szA (x y:AV)(l:List AV):(x::l).set 0 y=y::l:=rfl
theorem ssA (x y:AV)(l:List AV)(n:Nat):(x::l).set (n+1) y=x::l.set n y:=rfl
theorem gzI (x:IV)(l:List IV)(d:IV):(x::l).getD 0 d=x:=rfl
theorem gsI (x:IV)(l:List IV)(d:IV)(n:Nat):(x::l).getD (n+1) d=l.getD n d:=rfl
theorem szI (x y:IV)(l:List IV):(x::l).set 0 y=y::l:=rfl
theorem ssI (x y:IV)(l:List IV)(n:Nat):(x::l).set (n+1) y=x::l.set n y:=rfl
def wz:=And.intro gzA (And.intro gsA (And.intro szA (And.intro ssA (And.intro gzI (And.intro gsI (And.intro szI ssI))))))
def Kb (p:List RI)(l:List RQ)(ts:List Int)(H:AL.Hp):Prop :=
 ∃rn tn,H 900=.nst 1 46 [.iv (.sl (gZ p)),rn,tn,.iv (.bool true)]/\((l=[]/\rn=.oG)\/∃st,l≠[]/\rn=.hs 68 st/\H 68=.blk false st 31 3 (lD l)) /\
  ((ts=[]/\tn=.oG)\/∃st,ts≠[]/\tn=.hs 78 st/\H 78=.blk false st 3 1 (iO ts))
def Ep (H H':AL.Hp):Prop:=∀k,(k=1\/k=2\/150<k)->k≠900->H' k=H k
theorem a7m (p:List RI){l:List RQ}{ts:List Int}(hl:l≠[])(ht:ts≠[])(H:AL.Hp):∃H',Kb p l ts H'/\Ep H H':=by
 refine⟨λk=>if k=900 then .nst 1 46 [.iv (.sl (gZ p)),.hs 68 1,.hs 78 1,.iv (.bool true)] else if k=68 then .blk false 1 31 3 (lD l) else if k=78 then .blk false 1 3 1 (iO ts) else H k,⟨_,_,by rfl,.inr ⟨1,hl,rfl,by rfl⟩,.inr ⟨1,ht,rfl,by rfl⟩⟩,λk h1 h2=>?_⟩;show (if k=900 then _ else if k=68 then _ else if k=78 then _ else H k)=H k;rw[if_neg h2,if_neg (by omega),if_neg (by omega)]
theorem a8x (p:List RI)(x:RQ)(t:Int)(H:AL.Hp)(hB:Kb p [] [] H):ACI Tryz.prog 25 [.hp 900 1 0 0,.agg (oh x),.iv (.int .i64 t)] H (λ_ H'=>Kb p [x] [t] H'/\Ep H H'):=by
 refine ACI.aF zi0 (rs:=[]) bM Tryz.func25 (by rfl) (by rfl) (by rfl) (by rfl) (by rfl) (by rfl) ?_ ?_
 .obtain⟨H',h⟩:=a7m p (l:=[x]) (ts:=[t]) (by simp) (by simp) H;exact⟨.dead,H',h⟩
 obtain⟨rn,tn,a4M,hR,hT⟩:=hB;obtain rfl:rn=.oG:=by
  rcases hR with ⟨_,h⟩|⟨st,h,h2,h3⟩
  .exact h
  .exact(h rfl).elim
 obtain rfl:tn=.oG:=by
  rcases hT with ⟨_,h⟩|⟨st,h,h2,h3⟩
  .exact h
  .exact(h rfl).elim
 simp (disch:=omega) only[wt,seval,reduceCtorEq,Nat.reduceEqDiff,rqs,wz,a4M];refine bF (λf H'=>(f 0=.hp 900 1 0 0/\f 2=.iv (.int .i64 t)/\f 4=.hp 4 ((H 4).stamp+1) 0 0/\f 6=.iv (.int .i64 0)/\f 21=.iv (.int .i64 0)/\f 22=.iv (.int .i64 0))/\H' 4=.blk false ((H 4).stamp+1) 31 3 [oh x]/\H' 900=.nst 1 46 [.iv (.sl (gZ p)),.oG,.oG,.iv (.bool true)]/\Ep H H') (λf H=>0) ?_ ?_
 .refine⟨⟨by simp (disch:=omega) only[wt,seval,reduceCtorEq,Nat.reduceEqDiff,rqs,wz],by simp (disch:=omega) only[wt,seval,reduceCtorEq,Nat.reduceEqDiff,rqs,wz],by simp (disch:=omega) only[wt,seval,reduceCtorEq,Nat.reduceEqDiff,rqs,wz],by simp (disch:=omega) only[wt,seval,reduceCtorEq,Nat.reduceEqDiff,rqs,wz],by simp (disch:=omega) only[wt,seval,reduceCtorEq,Nat.reduceEqDiff,rqs,wz],by simp (disch:=omega) only[wt,seval,reduceCtorEq,Nat.reduceEqDiff,rqs,wz]⟩,by simp (disch:=omega) only[wt,seval,reduceCtorEq,Nat.reduceEqDiff,rqs,wz],by simp (disch:=omega) only[wt,seval,reduceCtorEq,Nat.reduceEqDiff,rqs,wz,a4M],λk h1 h2=>by rw[aJ _ _ (by omega)]⟩
 rintro f H' ⟨⟨f0,f2,f4,f6,f21,f22⟩,g4,g9,kp⟩;simp (disch:=omega) only[wt,seval,reduceCtorEq,Nat.reduceEqDiff,rqs,wz,f0,f2,f4,f6,f21,f22,g4,g9];refine .inl ⟨aZ (by kernel_rfl),?_⟩
 first|exact aN (by kernel_rfl)|refine⟨aN (by kernel_rfl),?_⟩
 refine bF (λf H''=>f 6=.iv (.int .i64 0)/\f 11=.iv (.int .i64 0)/\Kb p [x] [t] H''/\Ep H H'') (λf H=>0) ?_ ?_
 .refine⟨by simp (disch:=omega) only[wt,seval,reduceCtorEq,Nat.reduceEqDiff,rqs,wz,f6],by simp (disch:=omega) only[wt,seval,reduceCtorEq,Nat.reduceEqDiff,rqs,wz],⟨_,_,by simp (disch:=omega) only[wt,seval,reduceCtorEq,Nat.reduceEqDiff,rqs,wz];rfl,.inr ⟨(H' 68).stamp+1,by simp,by rfl,by simp (disch:=omega) only[wt,seval,reduceCtorEq,Nat.reduceEqDiff,rqs,wz];rfl⟩,.inr ⟨(H' 78).stamp+1,by simp,by rfl,by simp (disch:=omega) only[wt,seval,reduceCtorEq,Nat.reduceEqDiff,rqs,wz];rfl⟩⟩,λk h1 h2=>?_⟩;rw[aJ _ _ (by omega),aJ _ _ (by omega),aJ _ _ (by omega),aJ _ _ (by omega),aJ _ _ (by omega),aJ _ _ (by omega)];exact kp k h1 h2
 rintro f H'' ⟨f6,f11,kb,kq⟩;simp (disch:=omega) only[wt,seval,reduceCtorEq,Nat.reduceEqDiff,rqs,wz,f6,f11];exact C9 ⟨kb,kq⟩
set_option linter.defProp false
def atk (l:List RQ)(x:RQ):Nat->Nat
 |0=>l.length
 |i+1=>if atk l x i=l.length/\qv x<qv (l.getD i q0) then i else atk l x i
theorem SA (l:List RQ)(x:RQ):∀i,atk l x i=l.length\/atk l x i<i
 |0=>.inl rfl
 |i+1=>by
  have ih:=SA l x i;rw[atk];split
  .right;omega
  .omega
set_option maxRecDepth 100000 in
theorem a8w (p:List RI)(l:List RQ)(ts:List Int)(x:RQ)(t:Int)(H:AL.Hp)(hB:Kb p l ts H)(hl0:l≠[])(hl:l.length<=100)(ht:ts.length=l.length)(hq:∀r∈l,SzQ (2^20) r/\nv r.2≠0)(hx:SzQ (2^20) x)(hx0:nv x.2≠0)(hn:∀r∈l,qv r≠qv x):ACI Tryz.prog 25 [.hp 900 1 0 0,.agg (oh x),.iv (.int .i64 t)] H (λ_ H'=>Kb p (jo l (atk l x l.length) x) (jo ts (atk l x l.length) t) H'/\Ep H H'):=by
 have ht0:ts≠[]:=λe=>hl0 (by rw[e]at ht;exact List.length_eq_zero_iff.1 ht.symm)
 refine ACI.aF zi0 (rs:=[]) bM Tryz.func25 (by rfl) (by rfl) (by rfl) (by rfl) (by rfl) (by rfl) ?_ ?_
 .obtain⟨H',h⟩:=a7m p (l:=jo l (atk l x l.length) x) (ts:=jo ts (atk l x l.length) t) (by simp[jo]) (by simp[jo]) H;exact⟨.dead,H',h⟩
 obtain⟨rn,tn,a4M,hR,hT⟩:=hB;obtain⟨st,-,rfl,h68⟩:∃st,l≠[]/\rn=.hs 68 st/\H 68=.blk false st 31 3 (lD l):=hR.resolve_left λh=>hl0 h.1
 obtain⟨st2,-,rfl,h78⟩:∃st,ts≠[]/\tn=.hs 78 st/\H 78=.blk false st 3 1 (iO ts):=hT.resolve_left λh=>ht0 h.1
 clear hR hT;have cx:=mO x (Nat.le_trans hx.1.1 (by omega)) (Nat.le_trans hx.2.1 (by omega));simp (disch:=omega) only[wt,seval,reduceCtorEq,Nat.reduceEqDiff,rqs,wz,a4M,h68,h78];refine bF (λf H'=>∃i:Nat,i<=l.length/\(f 0=.hp 900 1 0 0/\f 2=.iv (.int .i64 t)/\f 4=.hp 4 ((H 4).stamp+1) 0 0/\f 6=.iv (.int .i64 (atk l x i))/\f 20=.hs 68 st/\f 21=.iv (.int .i64 l.length)/\f 22=.iv (.int .i64 i))/\H' 4=.blk false ((H 4).stamp+1) 31 3 [oh x]/\H' 900=.nst 1 46 [.iv (.sl (gZ p)),.hs 68 st,.hs 78 st2,.iv (.bool true)]/\H' 68=.blk false st 31 3 (lD l)/\H' 78=.blk false st2 3 1 (iO ts)/\Ep H H') (λf H=>(l.length-dQ f 22).toNat) ?_ ?_
 .refine⟨0,by omega,⟨by simp (disch:=omega) only[wt,seval,reduceCtorEq,Nat.reduceEqDiff,rqs,wz],by simp (disch:=omega) only[wt,seval,reduceCtorEq,Nat.reduceEqDiff,rqs,wz],by simp (disch:=omega) only[wt,seval,reduceCtorEq,Nat.reduceEqDiff,rqs,wz],by simp (disch:=omega) only[wt,seval,reduceCtorEq,Nat.reduceEqDiff,rqs,wz];try rfl,by simp (disch:=omega) only[wt,seval,reduceCtorEq,Nat.reduceEqDiff,rqs,wz],by simp (disch:=omega) only[wt,seval,reduceCtorEq,Nat.reduceEqDiff,rqs,wz],by simp (disch:=omega) only[wt,seval,reduceCtorEq,Nat.reduceEqDiff,rqs,wz];try rfl⟩,by simp (disch:=omega) only[wt,seval,reduceCtorEq,Nat.reduceEqDiff,rqs,wz],by simp (disch:=omega) only[wt,seval,reduceCtorEq,Nat.reduceEqDiff,rqs,wz,a4M],by simp (disch:=omega) only[wt,seval,reduceCtorEq,Nat.reduceEqDiff,rqs,wz,h68],by simp (disch:=omega) only[wt,seval,reduceCtorEq,Nat.reduceEqDiff,rqs,wz,h78],λk h1 h2=>by rw[aJ _ _ (by omega)]⟩
 rintro f H' ⟨i,hi,⟨f0,f2,f4,f6,f20,f21,f22⟩,g4,g9,g68,g78,kp⟩;have ak:=SA l x i;rw[bC f22];simp (disch:=omega) only[wt,seval,reduceCtorEq,Nat.reduceEqDiff,rqs,wz,f0,f2,f4,f6,f20,f21,f22,g4,g9,g68,g78];refine bU (λhlt=>?_) (λhlt=>?_)
 .have hlt':i<l.length:=by omega
  obtain⟨sy,ny⟩:=hq _ (getD_mem hlt' q0);have cy:=mO (l.getD i q0) (Nat.le_trans sy.1.1 (by omega)) (Nat.le_trans sy.2.1 (by omega));have c1:=Qs x (l.getD i q0) (hx.mono (by omega)) (sy.mono (by omega)) hx0 ny;have hne:qv (l.getD i q0)≠qv x:=hn _ (getD_mem hlt' q0);have c0:¬sgq (qv x-qv (l.getD i q0))=0:=λe=>hne (by have:=qw.1 e;grind)
  by_cases hc:qv x<qv (l.getD i q0)
  .have s1:sgq (qv x-qv (l.getD i q0)) = -1:=BO (by grind);rw[s1]at c1;by_cases ha:atk l x i=l.length
   .have ea:atk l x (i+1)=i:=by rw[atk,if_pos ⟨ha,hc⟩]
    have hia:(i:Int)<((atk l x i:Nat):Int):=by omega
    simp (disch:=omega) only[wt,seval,reduceCtorEq,Nat.reduceEqDiff,rqs,wz,f0,f2,f4,f6,f20,f21,f22,g4,g9,g68,g78];refine .inl ⟨aZ (by kernel_rfl),?_⟩;refine au (cx) (by first|rfl|(simp only[aH,bn,aB,aI,aA,Nat.reduceEqDiff,↓reduceIte,f0,f2,f4,f6,f20,f21,f22,g4,g9,g68,g78];rfl)) (by simp) ?_;simp (disch:=omega) only[wt,seval,reduceCtorEq,Nat.reduceEqDiff,rqs,wz,f0,f2,f4,f6,f20,f21,f22,g4,g9,g68,g78];refine au (cy) (by first|rfl|(simp only[aH,bn,aB,aI,aA,Nat.reduceEqDiff,↓reduceIte,f0,f2,f4,f6,f20,f21,f22,g4,g9,g68,g78];rfl)) (by simp) ?_;simp (disch:=omega) only[wt,seval,reduceCtorEq,Nat.reduceEqDiff,rqs,wz,f0,f2,f4,f6,f20,f21,f22,g4,g9,g68,g78];refine au (c1) (by first|rfl|(simp only[aH,bn,aB,aI,aA,Nat.reduceEqDiff,↓reduceIte,f0,f2,f4,f6,f20,f21,f22,g4,g9,g68,g78,hia];rfl)) (by simp) ?_;simp (disch:=omega) only[wt,seval,reduceCtorEq,Nat.reduceEqDiff,rqs,wz,f0,f2,f4,f6,f20,f21,f22,g4,g9,g68,g78,hia]
    first|exact aN (by kernel_rfl)|refine⟨aN (by kernel_rfl),?_⟩
    refine⟨⟨i+1,by omega,⟨by rw[ea],by omega⟩,λk h1 h2=>by rw[aJ _ _ (by omega),aJ _ _ (by omega)];exact kp k h1 h2⟩,by omega⟩
   .have ea:atk l x (i+1)=atk l x i:=by rw[atk,if_neg (λh=>ha h.1)]
    have hia:¬(i:Int)<((atk l x i:Nat):Int):=by omega
    simp (disch:=omega) only[wt,seval,reduceCtorEq,Nat.reduceEqDiff,rqs,wz,f0,f2,f4,f6,f20,f21,f22,g4,g9,g68,g78];refine .inl ⟨aZ (by kernel_rfl),?_⟩;refine au (cx) (by first|rfl|(simp only[aH,bn,aB,aI,aA,Nat.reduceEqDiff,↓reduceIte,f0,f2,f4,f6,f20,f21,f22,g4,g9,g68,g78];rfl)) (by simp) ?_;simp (disch:=omega) only[wt,seval,reduceCtorEq,Nat.reduceEqDiff,rqs,wz,f0,f2,f4,f6,f20,f21,f22,g4,g9,g68,g78];refine au (cy) (by first|rfl|(simp only[aH,bn,aB,aI,aA,Nat.reduceEqDiff,↓reduceIte,f0,f2,f4,f6,f20,f21,f22,g4,g9,g68,g78];rfl)) (by simp) ?_;simp (disch:=omega) only[wt,seval,reduceCtorEq,Nat.reduceEqDiff,rqs,wz,f0,f2,f4,f6,f20,f21,f22,g4,g9,g68,g78];refine au (c1) (by first|rfl|(simp only[aH,bn,aB,aI,aA,Nat.reduceEqDiff,↓reduceIte,f0,f2,f4,f6,f20,f21,f22,g4,g9,g68,g78,hia];rfl)) (by simp) ?_;simp (disch:=omega) only[wt,seval,reduceCtorEq,Nat.reduceEqDiff,rqs,wz,f0,f2,f4,f6,f20,f21,f22,g4,g9,g68,g78,hia]
    first|exact aN (by kernel_rfl)|refine⟨aN (by kernel_rfl),?_⟩
    refine⟨⟨i+1,by omega,⟨by rw[ea],by omega⟩,λk h1 h2=>by rw[aJ _ _ (by omega),aJ _ _ (by omega)];exact kp k h1 h2⟩,by omega⟩
  .have ea:atk l x (i+1)=atk l x i:=by rw[atk,if_neg (λh=>hc h.2)]
   have s1:¬sgq (qv x-qv (l.getD i q0))<0:=by
    have:=Rat.not_lt.mp hc;rcases wM (qv x-qv (l.getD i q0)) with ⟨_,e⟩|⟨_,e⟩|⟨h,e⟩<;>rw[e]
    .decide
    .decide
    .exfalso;grind
   generalize sgq (qv x-qv (l.getD i q0))=s at *;simp (disch:=omega) only[wt,seval,reduceCtorEq,Nat.reduceEqDiff,rqs,wz,f0,f2,f4,f6,f20,f21,f22,g4,g9,g68,g78];refine .inl ⟨aZ (by kernel_rfl),?_⟩;refine au (cx) (by first|rfl|(simp only[aH,bn,aB,aI,aA,Nat.reduceEqDiff,↓reduceIte,f0,f2,f4,f6,f20,f21,f22,g4,g9,g68,g78];rfl)) (by simp) ?_;simp (disch:=omega) only[wt,seval,reduceCtorEq,Nat.reduceEqDiff,rqs,wz,f0,f2,f4,f6,f20,f21,f22,g4,g9,g68,g78];refine au (cy) (by first|rfl|(simp only[aH,bn,aB,aI,aA,Nat.reduceEqDiff,↓reduceIte,f0,f2,f4,f6,f20,f21,f22,g4,g9,g68,g78];rfl)) (by simp) ?_;simp (disch:=omega) only[wt,seval,reduceCtorEq,Nat.reduceEqDiff,rqs,wz,f0,f2,f4,f6,f20,f21,f22,g4,g9,g68,g78];refine au (c1) (by first|rfl|(simp only[aH,bn,aB,aI,aA,Nat.reduceEqDiff,↓reduceIte,f0,f2,f4,f6,f20,f21,f22,g4,g9,g68,g78,s1,c0];rfl)) (by simp) ?_;simp (disch:=omega) only[wt,seval,reduceCtorEq,Nat.reduceEqDiff,rqs,wz,f0,f2,f4,f6,f20,f21,f22,g4,g9,g68,g78,s1,c0]
   first|exact aN (by kernel_rfl)|refine⟨aN (by kernel_rfl),?_⟩
   refine⟨⟨i+1,by omega,⟨by rw[ea],by omega⟩,λk h1 h2=>by rw[aJ _ _ (by omega),aJ _ _ (by omega)];exact kp k h1 h2⟩,by omega⟩
 .obtain rfl:i=l.length:=by omega
  have hln:(lD l).length=l.length:=by simp[lD]
  have htl:(iO ts).length=l.length:=by rw[KP,ht]
  simp (disch:=omega) only[wt,seval,reduceCtorEq,Nat.reduceEqDiff,rqs,wz,f0,f2,f4,f6,f20,f21,f22,g4,g9,g68,g78];refine .inl ⟨aZ (by kernel_rfl),?_⟩
  first|exact aN (by kernel_rfl)|refine⟨aN (by kernel_rfl),?_⟩
  have ee:(((l.length+1:Nat):Int))-1=(l.length:Int):=by omega
  refine bF (λf H''=>∃i:Nat,atk l x l.length<=i/\i<=l.length/\(f 0=.hp 900 1 0 0/\f 6=.iv (.int .i64 (atk l x l.length))/\f 11=.iv (.int .i64 i))/\H'' 900=.nst 1 46 [.iv (.sl (gZ p)),.hs 68 (st+1),.hs 78 (st2+1),.iv (.bool true)]/\H'' 68=.blk false (st+1) 31 3 (lD (jo l i x))/\H'' 78=.blk false (st2+1) 3 1 (iO (jo ts i t))/\Ep H H'') (λf H=>(dQ f 11).toNat) ?_ ?_
  .refine⟨l.length,by omega,by omega,⟨by simp (disch:=omega) only[wt,seval,reduceCtorEq,Nat.reduceEqDiff,rqs,wz,f0],by simp (disch:=omega) only[wt,seval,reduceCtorEq,Nat.reduceEqDiff,rqs,wz,f6];try rfl,by simp (disch:=omega) only[wt,seval,reduceCtorEq,Nat.reduceEqDiff,rqs,wz,ee];try rfl⟩,by simp (disch:=omega) only[wt,seval,reduceCtorEq,Nat.reduceEqDiff,rqs,wz];try rfl,by rw[KO];simp (disch:=omega) only[wt,seval,reduceCtorEq,Nat.reduceEqDiff,rqs,wz];try rfl,by rw[<-ht,KO,Uh];simp (disch:=omega) only[wt,seval,reduceCtorEq,Nat.reduceEqDiff,rqs,wz];try rfl,λk h1 h2=>?_⟩;rw[aJ _ _ (by omega),aJ _ _ (by omega),aJ _ _ (by omega),aJ _ _ (by omega),aJ _ _ (by omega),aJ _ _ (by omega)];exact kp k h1 h2
  clear f0 f2 f4 f20 f21 f6 f22 g4 g9 g68 g78;rintro f H'' ⟨i,hi1,hi2,⟨f0,f6,f11⟩,g9,g68,g78,kp'⟩;rw[bC f11];simp (disch:=omega) only[wt,seval,reduceCtorEq,Nat.reduceEqDiff,rqs,wz,f0,f6,f11,g9,g68,g78];refine bU (λhlt=>?_) (λhlt=>?_)
  .obtain⟨j,rfl⟩:∃j,i=j+1:=⟨i-1,by omega⟩;have ej:((j+1:Nat):Int)-1=(j:Int):=by omega
   have l1:=tu (k:=j+1) x hi2;have l2:=tu (l:=ts) (k:=j+1) t (by omega);have b1:=zM (l:=l) (k:=j) x q0 (by omega);have b2:=zM (l:=ts) (k:=j) t 0 (by omega);have a1:=QW (l:=l) (k:=j+1) x q0 hi2;have a2:=QW (l:=ts) (k:=j+1) t 0 (by omega);have w1:=EW (l:=l) (k:=j) x q0 (by omega);have w2:=EW (l:=ts) (k:=j) t 0 (by omega);have l3:((jo l (j+1) x).set (j+1) (l.getD j q0)).length=l.length+1:=by rw[List.length_set];exact l1
   have l4:((jo ts (j+1) t).set (j+1) (ts.getD j 0)).length=ts.length+1:=by rw[List.length_set];exact l2
   simp (disch:=omega) only[wt,seval,reduceCtorEq,Nat.reduceEqDiff,rqs,wz,f0,f6,f11,g9,g68,g78,ej,l1,l2,l3,l4,ht,b1,b2,a1,a2,w1,w2];refine .inl ⟨aZ (by kernel_rfl),?_⟩
   first|exact aN (by kernel_rfl)|refine⟨aN (by kernel_rfl),?_⟩
   refine .inl ⟨aZ (by kernel_rfl),?_⟩
   first|exact aN (by kernel_rfl)|refine⟨aN (by kernel_rfl),?_⟩
   have is:∀(X:List Int) (k:Nat) (v:Int),(iO X).set k [.int .i64 v]=iO (X.set k v):=λX k v=>by simp[iO,List.map_set]
   have isp:∀(Y:List Int) (v:Int),j<Y.length->splice ((iO Y).getD j []) 0 [.int .i64 v]=[.int .i64 v]:=λY v hj=>by rw[I9 hj];rfl
   rw[is,isp _ _ (by omega),is,w2];refine⟨j,by omega,by omega,rfl,rfl,rfl,λk h1 h2=>?_⟩;rw[aJ _ _ (by omega),aJ _ _ (by omega),aJ _ _ (by omega),aJ _ _ (by omega)];exact kp' k h1 h2
  .obtain rfl:i=atk l x l.length:=by omega
   simp (disch:=omega) only[wt,seval,reduceCtorEq,Nat.reduceEqDiff,rqs,wz,f0,f6,f11,g9,g68,g78];exact C9 ⟨⟨_,_,g9,.inr ⟨st+1,by simp[jo],rfl,g68⟩,.inr ⟨st2+1,by simp[jo],rfl,g78⟩⟩,kp'⟩
set_option linter.defProp false
theorem Sv {l:List RQ}{x:RQ}(hn:∀r∈l,qv r≠qv x):∀i,i<=l.length->(∀j,j<i->j<atk l x i->qv (l.getD j q0)<qv x)/\(atk l x i≠l.length->atk l x i<i/\qv x<qv (l.getD (atk l x i) q0))
 |0,_=>⟨λj h=>by omega,λh=>(h rfl).elim⟩
 |i+1,hi=>by
  obtain⟨a,b⟩:=Sv hn i (by omega);have hne:=hn _ (getD_mem (show i<l.length by omega) q0);by_cases h:atk l x i=l.length
  .by_cases h2:qv x<qv (l.getD i q0)
   .have e:atk l x (i+1)=i:=by rw[atk,if_pos ⟨h,h2⟩]
    rw[e];exact⟨λj _ hj=>a j hj (by omega),λ_=>⟨by omega,h2⟩⟩
   .have e:atk l x (i+1)=l.length:=by rw[atk,if_neg (λk=>h2 k.2),h]
    rw[e];refine⟨λj hj _=>?_,λk=>(k rfl).elim⟩;by_cases hji:j=i
    .subst hji;exact Rat.lt_of_le_of_ne (Rat.not_lt.mp h2) hne
    .exact a j (by omega) (by omega)
  .have e:atk l x (i+1)=atk l x i:=by rw[atk,if_neg (λk=>h k.1)]
   rw[e];have:=(b h).1;exact⟨λj _ hj=>a j (by omega) hj,λk=>⟨by omega,(b h).2⟩⟩
theorem a1e {l:List RQ}{x:RQ}(hr:a0v l)(hn:∀r∈l,qv r≠qv x):a0v (jo l (atk l x l.length) x):=by
 obtain⟨a,b⟩:=Sv hn l.length (Nat.le_refl _);have hk:=SA l x l.length;refine a1d hr (by omega) (λj hj=>a j (by omega) hj) (λj h1 h2=>?_);have h3:=(b (by omega)).2;by_cases hjk:j=atk l x l.length
 .subst hjk;exact h3
 .have h4:=Qh hr (show atk l x l.length<j by omega) h2;grind
set_option linter.defProp false
set_option maxRecDepth 100000 in
theorem a3w (p:List RI)(l:List RQ)(ts:List Int)(x:RQ)(t:Int)(H:AL.Hp)(hB:Kb p l ts H)(hr:a0v l)(hl:l.length<=100)(ht:ts.length=l.length)(hq:∀r∈l,SzQ (2^20) r/\nv r.2≠0)(hx:SzQ (2^20) x)(hx0:nv x.2≠0){m:Nat}(hm:m<l.length)(e:qv (l.getD m q0)=qv x)(b1:0<=ts.getD m 0/\ts.getD m 0<=1000)(b2:0<=t/\t<=1000):ACI Tryz.prog 25 [.hp 900 1 0 0,.agg (oh x),.iv (.int .i64 t)] H (λ_ H'=>Kb p l (ts.set m (ts.getD m 0+t)) H'/\Ep H H'):=by
 have hl0:l≠[]:=λe=>by rw[e]at hm;simp at hm
 have ht0:ts≠[]:=λe=>by rw[e]at ht;rw[<-ht]at hm;simp at hm
 have b3G:ts.set m (ts.getD m 0+t)≠[]:=λe=>ht0 (List.length_eq_zero_iff.1 (by rw[<-List.length_set (i:=m) (a:=ts.getD m 0+t),e];rfl))
 refine ACI.aF zi0 (rs:=[]) bM Tryz.func25 (by rfl) (by rfl) (by rfl) (by rfl) (by rfl) (by rfl) ?_ ?_
 .obtain⟨H',h⟩:=a7m p (l:=l) (ts:=ts.set m (ts.getD m 0+t)) hl0 b3G H;exact⟨.dead,H',h⟩
 obtain⟨rn,tn,a4M,hR,hT⟩:=hB;obtain⟨st,-,rfl,h68⟩:∃st,l≠[]/\rn=.hs 68 st/\H 68=.blk false st 31 3 (lD l):=hR.resolve_left λh=>hl0 h.1
 obtain⟨st2,-,rfl,h78⟩:∃st,ts≠[]/\tn=.hs 78 st/\H 78=.blk false st 3 1 (iO ts):=hT.resolve_left λh=>ht0 h.1
 clear hR hT;have cx:=mO x (Nat.le_trans hx.1.1 (by omega)) (Nat.le_trans hx.2.1 (by omega));simp (disch:=omega) only[wt,seval,reduceCtorEq,Nat.reduceEqDiff,rqs,wz,a4M,h68,h78];refine bF (λf H'=>∃i:Nat,i<=m/\(f 0=.hp 900 1 0 0/\f 2=.iv (.int .i64 t)/\f 4=.hp 4 ((H 4).stamp+1) 0 0/\f 6=.iv (.int .i64 l.length)/\f 20=.hs 68 st/\f 21=.iv (.int .i64 l.length)/\f 22=.iv (.int .i64 i))/\H' 4=.blk false ((H 4).stamp+1) 31 3 [oh x]/\H' 900=.nst 1 46 [.iv (.sl (gZ p)),.hs 68 st,.hs 78 st2,.iv (.bool true)]/\H' 68=.blk false st 31 3 (lD l)/\H' 78=.blk false st2 3 1 (iO ts)/\Ep H H') (λf H=>(l.length-dQ f 22).toNat) ?_ ?_
 .refine⟨0,by omega,⟨by simp (disch:=omega) only[wt,seval,reduceCtorEq,Nat.reduceEqDiff,rqs,wz],by simp (disch:=omega) only[wt,seval,reduceCtorEq,Nat.reduceEqDiff,rqs,wz],by simp (disch:=omega) only[wt,seval,reduceCtorEq,Nat.reduceEqDiff,rqs,wz],by simp (disch:=omega) only[wt,seval,reduceCtorEq,Nat.reduceEqDiff,rqs,wz];try rfl,by simp (disch:=omega) only[wt,seval,reduceCtorEq,Nat.reduceEqDiff,rqs,wz],by simp (disch:=omega) only[wt,seval,reduceCtorEq,Nat.reduceEqDiff,rqs,wz],by simp (disch:=omega) only[wt,seval,reduceCtorEq,Nat.reduceEqDiff,rqs,wz];try rfl⟩,by simp (disch:=omega) only[wt,seval,reduceCtorEq,Nat.reduceEqDiff,rqs,wz],by simp (disch:=omega) only[wt,seval,reduceCtorEq,Nat.reduceEqDiff,rqs,wz,a4M],by simp (disch:=omega) only[wt,seval,reduceCtorEq,Nat.reduceEqDiff,rqs,wz,h68],by simp (disch:=omega) only[wt,seval,reduceCtorEq,Nat.reduceEqDiff,rqs,wz,h78],λk h1 h2=>by rw[aJ _ _ (by omega)]⟩
 rintro f H' ⟨i,hi,⟨f0,f2,f4,f6,f20,f21,f22⟩,g4,g9,g68,g78,kp⟩;rw[bC f22];simp (disch:=omega) only[wt,seval,reduceCtorEq,Nat.reduceEqDiff,rqs,wz,f0,f2,f4,f6,f20,f21,f22,g4,g9,g68,g78];refine bU (λhlt=>?_) (λhlt=>by omega);have hlt':i<l.length:=by omega
 obtain⟨sy,ny⟩:=hq _ (getD_mem hlt' q0);have cy:=mO (l.getD i q0) (Nat.le_trans sy.1.1 (by omega)) (Nat.le_trans sy.2.1 (by omega));have c1:=Qs x (l.getD i q0) (hx.mono (by omega)) (sy.mono (by omega)) hx0 ny;by_cases him:i=m
 .subst him;have s1:sgq (qv x-qv (l.getD i q0))=0:=qw.2 (by rw[e];grind);rw[s1]at c1;have ew:IntKind.i64.wrap (ts.getD i 0+t)=ts.getD i 0+t:=wrap_i64 _ (by omega) (by omega);have is:∀(X:List Int) (k:Nat) (v:Int),(iO X).set k [.int .i64 v]=iO (X.set k v):=λX k v=>by simp[iO,List.map_set]
  have isp:∀(v:Int),splice ((iO ts).getD i []) 0 [.int .i64 v]=[.int .i64 v]:=λv=>by rw[I9 (by omega)];rfl
  simp (disch:=omega) only[wt,seval,reduceCtorEq,Nat.reduceEqDiff,rqs,wz,f0,f2,f4,f6,f20,f21,f22,g4,g9,g68,g78];refine .inl ⟨aZ (by kernel_rfl),?_⟩;refine au (cx) (by first|rfl|(simp only[aH,bn,aB,aI,aA,Nat.reduceEqDiff,↓reduceIte,f0,f2,f4,f6,f20,f21,f22,g4,g9,g68,g78];rfl)) (by simp) ?_;simp (disch:=omega) only[wt,seval,reduceCtorEq,Nat.reduceEqDiff,rqs,wz,f0,f2,f4,f6,f20,f21,f22,g4,g9,g68,g78];refine au (cy) (by first|rfl|(simp only[aH,bn,aB,aI,aA,Nat.reduceEqDiff,↓reduceIte,f0,f2,f4,f6,f20,f21,f22,g4,g9,g68,g78];rfl)) (by simp) ?_;simp (disch:=omega) only[wt,seval,reduceCtorEq,Nat.reduceEqDiff,rqs,wz,f0,f2,f4,f6,f20,f21,f22,g4,g9,g68,g78];refine au (c1) (by first|rfl|(simp only[aH,bn,aB,aI,aA,Nat.reduceEqDiff,↓reduceIte,f0,f2,f4,f6,f20,f21,f22,g4,g9,g68,g78,ew,ht,is,isp];rfl)) (by simp) ?_;simp (disch:=omega) only[wt,seval,reduceCtorEq,Nat.reduceEqDiff,rqs,wz,f0,f2,f4,f6,f20,f21,f22,g4,g9,g68,g78,ew,ht,is,isp]
  first|exact aN (by kernel_rfl)|refine⟨aN (by kernel_rfl),?_⟩
  refine C9 ⟨⟨.hs 68 st,.hs 78 st2,?_,.inr ⟨st,hl0,rfl,?_⟩,.inr ⟨st2,b3G,rfl,?_⟩⟩,λk h1 h2=>?_⟩
  .rw[aJ _ _ (by decide),aJ _ _ (by decide),aJ _ _ (by decide)];exact g9
  .rw[aJ _ _ (by decide),aJ _ _ (by decide),aJ _ _ (by decide)];exact g68
  .rw[aO]
  .rw[aJ _ _ (by omega),aJ _ _ (by omega),aJ _ _ (by omega)];exact kp k h1 h2
 .have s1:sgq (qv x-qv (l.getD i q0))=1:=sH (by have:=Qh hr (show i<m by omega) hm;rw[e]at this;grind);rw[s1]at c1;simp (disch:=omega) only[wt,seval,reduceCtorEq,Nat.reduceEqDiff,rqs,wz,f0,f2,f4,f6,f20,f21,f22,g4,g9,g68,g78];refine .inl ⟨aZ (by kernel_rfl),?_⟩;refine au (cx) (by first|rfl|(simp only[aH,bn,aB,aI,aA,Nat.reduceEqDiff,↓reduceIte,f0,f2,f4,f6,f20,f21,f22,g4,g9,g68,g78];rfl)) (by simp) ?_;simp (disch:=omega) only[wt,seval,reduceCtorEq,Nat.reduceEqDiff,rqs,wz,f0,f2,f4,f6,f20,f21,f22,g4,g9,g68,g78];refine au (cy) (by first|rfl|(simp only[aH,bn,aB,aI,aA,Nat.reduceEqDiff,↓reduceIte,f0,f2,f4,f6,f20,f21,f22,g4,g9,g68,g78];rfl)) (by simp) ?_;simp (disch:=omega) only[wt,seval,reduceCtorEq,Nat.reduceEqDiff,rqs,wz,f0,f2,f4,f6,f20,f21,f22,g4,g9,g68,g78];refine au (c1) (by first|rfl|(simp only[aH,bn,aB,aI,aA,Nat.reduceEqDiff,↓reduceIte,f0,f2,f4,f6,f20,f21,f22,g4,g9,g68,g78];rfl)) (by simp) ?_;simp (disch:=omega) only[wt,seval,reduceCtorEq,Nat.reduceEqDiff,rqs,wz,f0,f2,f4,f6,f20,f21,f22,g4,g9,g68,g78]
  first|exact aN (by kernel_rfl)|refine⟨aN (by kernel_rfl),?_⟩
  refine⟨⟨i+1,by omega,rfl,λk h1 h2=>by rw[aJ _ _ (by omega),aJ _ _ (by omega)];exact kp k h1 h2⟩,by omega⟩
set_option linter.defProp false
def a7t (l:List RQ)(x:RQ):Bool:=l.any λr=>decide (qv r=qv x)
def a0u (l:List RQ)(x:RQ):List RQ:=if a7t l x then l else jo l (atk l x l.length) x
def whq (l:List RQ)(x:RQ):Nat:=l.findIdx λr=>decide (qv r=qv x)
def a8v (l:List RQ)(ts:List Int)(x:RQ)(t:Int):List Int:=if a7t l x then ts.set (whq l x) (ts.getD (whq l x) 0+t) else jo ts (atk l x l.length) t
structure Kl (l:List RQ) (ts:List Int) (n b:Nat):Prop where
 rise:a0v l
 len:l.length<=n
 VU:ts.length=l.length
 sz:∀r∈l,SzQ (2^20) r/\nv r.2≠0
 tb:∀t∈ts,0<=t/\t<=b
theorem Kl.nil:Kl [] [] 0 0:=⟨List.Pairwise.nil,Nat.le_refl _,rfl,λ_ h=>(by simp at h),λ_ h=>(by simp at h)⟩
theorem FX {l:List RQ}{x:RQ}(h:a7t l x=true):whq l x<l.length/\qv (l.getD (whq l x) q0)=qv x:=by
 have hm:whq l x<l.length:=List.findIdx_lt_length.2 (by simpa [a7t] using h);have:=List.findIdx_getElem (w:=hm);refine⟨hm,?_⟩;rw[List.getD,List.getElem?_eq_getElem hm,Option.getD_some];exact of_decide_eq_true this
theorem QY {l:List RQ}{x:RQ}(h:¬a7t l x=true):∀r∈l,qv r≠qv x:=λr hr e=>h (List.any_eq_true.2 ⟨r,hr,decide_eq_true e⟩)
theorem a3v {l:List RQ}{x:RQ}(r:Rat):r∈(a0u l x).map qv↔r∈l.map qv\/r=qv x:=by
 unfold a0u;split
 .rename_i h;obtain⟨hm,e⟩:=FX h;refine⟨.inl,λh=>h.elim id λh=>?_⟩;rw[h,<-e];exact List.mem_map_of_mem (getD_mem hm q0)
 .simp only[List.mem_map,D6];constructor
  .rintro⟨y,rfl|h,rfl⟩
   .exact .inr rfl
   .exact .inl ⟨y,h,rfl⟩
  .rintro(⟨y,h,rfl⟩|rfl)
   .exact⟨y,.inr h,rfl⟩
   .exact⟨x,.inl rfl,rfl⟩
theorem Kl.add {l:List RQ}{ts:List Int}{x:RQ}{t:Int}{n b:Nat}(k:Kl l ts n b)(ht:0<=t/\t<=3)(hx:SzQ (2^20) x)(hx0:nv x.2≠0):Kl (a0u l x) (a8v l ts x t) (n+1) (b+3):=by
 have k1:=k.len;by_cases he:a7t l x=true
 .rw[a0u,a8v,if_pos he,if_pos he];obtain⟨hm,e⟩:=FX he;have hmt:whq l x<ts.length:=by rw[k.VU];exact hm
  have tm:=k.tb _ (getD_mem hmt 0);refine⟨k.rise,by omega,by rw[List.length_set];exact k.VU,k.sz,λs h=>?_⟩;rcases List.mem_or_eq_of_mem_set h with h|h
  .have:=k.tb _ h;omega
  .omega
 .rw[a0u,a8v,if_neg he,if_neg he];have ha:=SA l x l.length;refine⟨a1e k.rise (QY he),by rw[tu (l:=l) _ (by omega)];omega,by rw[tu (l:=ts) _ (by rw[k.VU];omega),tu (l:=l) _ (by omega),k.VU],λr h=>?_,λs h=>?_⟩
  .rcases D6.1 h with rfl|h
   .exact⟨hx,hx0⟩
   .exact k.sz _ h
  .rcases D6.1 h with rfl|h
   .omega
   .have:=k.tb _ h;omega
theorem b1E (p:List RI)(l:List RQ)(ts:List Int)(x:RQ)(t:Int)(H:AL.Hp)(hB:Kb p l ts H){n b:Nat}(k:Kl l ts n b)(hn:n<=10)(hb:b<=100)(ht:0<=t/\t<=3)(hx:SzQ (2^20) x)(hx0:nv x.2≠0) :
  ACI Tryz.prog 25 [.hp 900 1 0 0,.agg (oh x),.iv (.int .i64 t)] H (λ_ H'=>Kb p (a0u l x) (a8v l ts x t) H'/\Ep H H'):=by
 have k1:=k.len;by_cases hl0:l=[]
 .subst hl0;obtain rfl:ts=[]:=List.length_eq_zero_iff.1 k.VU;exact a8x p x t H hB
 by_cases he:a7t l x=true
 .rw[a0u,a8v,if_pos he,if_pos he];obtain⟨hm,e⟩:=FX he;have hmt:whq l x<ts.length:=by rw[k.VU];exact hm
  have tm:=k.tb _ (getD_mem hmt 0);exact a3w p l ts x t H hB k.rise (by omega) k.VU k.sz hx hx0 hm e (by omega) (by omega)
 .rw[a0u,a8v,if_neg he,if_neg he];exact a8w p l ts x t H hB hl0 (by omega) k.VU k.sz hx hx0 (QY he)
def kk (rs:List (Int×Int×Int))(i:Nat):Int×Int×Int:=(clz (rs.getD i (0,0,0)).1 (-1000000) 1000000,clz (rs.getD i (0,0,0)).2.1 1 1000,clz (rs.getD i (0,0,0)).2.2 1 3)
def kx (rs:List (Int×Int×Int))(i:Nat):RQ:=uf (((kk rs i).1:Rat)/((kk rs i).2.1:Rat))
def bL (rs:List (Int×Int×Int)):Nat->List RQ
 |0=>[]
 |i+1=>a0u (bL rs i) (kx rs i)
def bT (rs:List (Int×Int×Int)):Nat->List Int
 |0=>[]
 |i+1=>a8v (bL rs i) (bT rs i) (kx rs i) (kk rs i).2.2
def bQ (c:Int)(rs:List (Int×Int×Int)):Nat->List Int
 |0=>[c]
 |i+1=>MV (bQ c rs i) [-(kk rs i).1,(kk rs i).2.1] (kk rs i).2.2.toNat
def ab (qs:List (Int×Int))(j:Nat):Int×Int:=(clz (qs.getD j (0,0)).1 (-1000) 1000,clz (qs.getD j (0,0)).2 1 1000)
def bR (Q:List Int)(qs:List (Int×Int)):Nat->List Int
 |0=>Q
 |j+1=>bV (bR Q qs j) [(ab qs j).1*(ab qs j).1+(ab qs j).2,-2*(ab qs j).1,1]
theorem Uf (rs:List (Int×Int×Int))(i:Nat):(-1000000<=(kk rs i).1/\(kk rs i).1<=1000000)/\(1<=(kk rs i).2.1/\(kk rs i).2.1<=1000)/\1<=(kk rs i).2.2/\(kk rs i).2.2<=3:=⟨zT (by decide),zT (by decide),zT (by decide)⟩
theorem a8z (qs:List (Int×Int))(j:Nat):(-1000<=(ab qs j).1/\(ab qs j).1<=1000)/\1<=(ab qs j).2/\(ab qs j).2<=1000:=⟨zT (by decide),zT (by decide)⟩
theorem b0D (rs:List (Int×Int×Int))(i:Nat):qv (kx rs i)=((kk rs i).1:Rat)/((kk rs i).2.1:Rat):=Cb _
theorem a7l (rs:List (Int×Int×Int))(i:Nat):SzQ 1 (kx rs i)/\nv (kx rs i).2≠0:=by
 obtain⟨h1,h2,-⟩:=Uf rs i;refine⟨(Nk _).mono ?_,Ip _⟩;obtain⟨d,hd⟩:∃d:Nat,(kk rs i).2.1=(d:Int):=⟨(kk rs i).2.1.toNat,by omega⟩;rw[hd,show (((kk rs i).1:Rat)/(((d:Nat):Int):Rat))=mkRat (kk rs i).1 d by rw[Rat.mkRat_eq_div];rfl];exact a9X (by omega) (dR.mpr (by rw[Nat.pow_one];simp only[W];omega)) (b4p (by simp only[W];omega))
theorem a3r (rs:List (Int×Int×Int)):∀i,Kl (bL rs i) (bT rs i) i (3*i)
 |0=>.nil
 |i+1=>by
  obtain⟨-,-,h⟩:=Uf rs i;exact(a3r rs i).add (by omega) ((a7l rs i).1.mono (by decide)) (a7l rs i).2
theorem a3n {c:Int}(hc:c≠0)(hW:c.natAbs<W)(rs:List (Int×Int×Int)):∀i,i<=6->∃m,m<=1+6*i/\Bw (bQ c rs i) (·∈(bL rs i).map qv) i m 0
 |0,_=>⟨1,by omega,(Bw.start hc hW).congr λr=>by simp[bL]⟩
 |i+1,hi=>by
  obtain⟨m,hm,b⟩:=a3n hc hW rs i (by omega);obtain⟨h1,h2,h3⟩:=Uf rs i;obtain⟨k,hk⟩:∃k:Nat,(kk rs i).2.2.toNat=k+1:=⟨(kk rs i).2.2.toNat-1,by omega⟩;refine⟨m+2*(k+1),by omega,?_⟩;have:=b.lin (n:=(kk rs i).1) (d:=(kk rs i).2.1) (by omega) (by simp only[W];omega) (by simp only[W];omega) k (by simp only[W];omega);rw[bQ,hk];exact this.congr λr=>by rw[bL,a3v,b0D]
theorem a8m {Q:List Int}{S:Rat->Prop}{i m:Nat}(h:Bw Q S i m 0)(hm:m<=100)(qs:List (Int×Int)):∀j,j<=2->Bw (bR Q qs j) S (i+2*j) (m+2*j) j
 |0,_=>h
 |j+1,hj=>by
  obtain⟨h1,h2⟩:=a8z qs j;exact(a8m h hm qs j (by omega)).b2F h2.1 h1 h2.2 (by simp only[W];omega)
end Go.Proofs.YtnhghmibjddlkaaGreatDoor

namespace Go.Proofs.YtnhghmibjddlkaaGreatDoor
open Go Go.Proofs Go.AL Go.RowKit
set_option linter.unusedSimpArgs false
set_option linter.unusedVariables false
set_option linter.defProp false
@[reducible] def zB:Zi:=⟨some (73,1),(· == 4),λ_=>false,.no⟩
theorem b4j (e:Nat) : @Zi.bx zB e=(e == 4):=rfl
theorem b4n (e:Nat) : @Zi.bs zB e=false:=rfl
theorem b4b : @Zi.st zB=.no:=rfl
theorem b4f : @zsl zB=.own none 73 1 []:=rfl
def wzB:=And.intro b4j (And.intro b4n (And.intro b4b b4f))
theorem a4I (a b c d x y:IV):lay (λi=>[(0,1),(1,1),(2,1),(3,1)][i]?) [a,b,c,d] ([0,3].zip [[x],[y]])=some ((1=1/\0+1<=4)/\(1=1/\3+1<=4)/\True,[x,b,c,y]):=rfl
def yY (rs:List (Int×Int×Int)):List (List IV):=rs.map λk=>[.int .i64 k.1,.int .i64 k.2.1,.int .i64 k.2.2]
def Ag (qs:List (Int×Int)):List (List IV):=qs.map λq=>[.int .i64 q.1,.int .i64 q.2]
theorem xH (rs:List (Int×Int×Int)):(yY rs).length=rs.length:=by simp[yY]
theorem Cc (qs:List (Int×Int)):(Ag qs).length=qs.length:=by simp[Ag]
theorem I8 {rs:List (Int×Int×Int)}{i:Nat}(h:i<rs.length):(yY rs).getD i []=[.int .i64 (rs.getD i (0,0,0)).1,.int .i64 (rs.getD i (0,0,0)).2.1,.int .i64 (rs.getD i (0,0,0)).2.2]:=by simp[yY,List.getD,h]
theorem Qr {qs:List (Int×Int)}{i:Nat}(h:i<qs.length):(Ag qs).getD i []=[.int .i64 (qs.getD i (0,0)).1,.int .i64 (qs.getD i (0,0)).2]:=by simp[Ag,List.getD,h]
theorem yX (rs:List (Int×Int×Int)):(∀r∈yY rs,r.length=3)↔True:=⟨λ_=>trivial,λ_ r hr=>by obtain⟨k,_,rfl⟩:=List.mem_map.1 hr;rfl⟩
theorem EK (qs:List (Int×Int)):(∀r∈Ag qs,r.length=2)↔True:=⟨λ_=>trivial,λ_ r hr=>by obtain⟨k,_,rfl⟩:=List.mem_map.1 hr;rfl⟩
def a4b (lead:Int)(rs:List (Int×Int×Int))(qs:List (Int×Int)):List IV:=[.int .i64 lead,.sl (yY rs),.sl (Ag qs)]
def RBt (p:List RI)(l:List RQ)(ts:List Int)(_ _:Nat)(res:List CV):Prop:=∃r t:IV,res=[.agg [.sl (gZ p),r,t,.bool true]]/\SL r (.sl (lD l))/\SL t (.sl (iO ts))
theorem a1W (p:List RI)(l:List RQ)(ts:List Int):∀B,∃E res,B<=E/\RBt p l ts B E res:=λB=>⟨B,_,Nat.le_refl _,_,_,rfl,.refl _,.refl _⟩
def ld (lead:Int):Int:=if clz lead (-1000000) 1000000=0 then 1 else clz lead (-1000000) 1000000
theorem b4s (a b c d:AV):List.take 4 [a,b,c,d]=[a,b,c,d]:=rfl
theorem tk4 (a b c d:IV):List.take 4 [a,b,c,d]=[a,b,c,d]:=rfl
theorem b4r (x y:IV):G6 [.iv x,.oG,.oG,.iv y]=some [x,.own none 0 0 [],.own none 0 0 [],y]:=rfl
theorem un4 (x y z u:IV):G6 [.iv x,.iv y,.iv z,.iv u]=some [x,y,z,u]:=rfl
theorem sp4 (x y z u a b c d:IV):splice [x,y,z,u] 0 [a,b,c,d]=[a,b,c,d]:=rfl
theorem ln4 (a b c d:IV):[a,b,c,d].length=4:=rfl
theorem tk2 (a b:IV):List.take 2 [a,b]=[a,b]:=rfl
theorem sp2 (x y a b:IV):splice [x,y] 0 [a,b]=[a,b]:=rfl
theorem ln2 (a b:IV):[a,b].length=2:=rfl
theorem a9I {a:Int}(h1 : -1000<=a)(h2:a<=1000):0<=a*a/\a*a<=1000000:=by
 rcases Int.le_total 0 a with h|h
 .exact⟨Int.mul_nonneg h h,Int.mul_le_mul (a:=a) (b:=a) (c:=1000) (d:=1000) h2 h2 h (by omega)⟩
 .have x:=Int.mul_nonneg (show 0<=-a by omega) (show 0<=-a by omega);have y:=Int.mul_le_mul (a:=-a) (b:=-a) (c:=1000) (d:=1000) (by omega) (by omega) (by omega) (by omega);rw[Int.neg_mul_neg]at x y;exact⟨x,y⟩
theorem a0Z {n d e:Int}(hn:n.natAbs<W)(hd:d.natAbs<W)(he:e.natAbs<W):RP (2^30) (2^35) ([n,d,e].map canon):=by
 refine⟨by simp,λc hc=>?_⟩;simp only[List.map_cons,List.map_nil,List.mem_cons,List.not_mem_nil,or_false]at hc;rcases hc with rfl|rfl|rfl
 .exact(aW _).mono (Nat.le_trans (dR.mpr (show n.natAbs<W^1 by rw[Nat.pow_one];exact hn)) (by decide))
 .exact(aW _).mono (Nat.le_trans (dR.mpr (show d.natAbs<W^1 by rw[Nat.pow_one];exact hd)) (by decide))
 .exact(aW _).mono (Nat.le_trans (dR.mpr (show e.natAbs<W^1 by rw[Nat.pow_one];exact he)) (by decide))
theorem tk3 (a b c:IV):List.take 3 [a,b,c]=[a,b,c]:=rfl
theorem sp3 (x y z a b c:IV):splice [x,y,z] 0 [a,b,c]=[a,b,c]:=rfl
theorem Kb.upd {p:List RI}{l:List RQ}{ts:List Int}{H:AL.Hp}(k:Kb p l ts H){h:Nat}{c:HC}(h1:h≠900)(h2:h≠68)(h3:h≠78):Kb p l ts (dF H h c):=by
 unfold Kb;rw[aJ _ _ (Ne.symm h1),aJ _ _ (Ne.symm h2),aJ _ _ (Ne.symm h3)];exact k
def w3:=And.intro tk3 (And.intro sp3 ln3)
def w2:=And.intro tk2 (And.intro sp2 ln2)
def w4:=And.intro b4s (And.intro tk4 (And.intro b4r (And.intro un4 (And.intro sp4 ln4))))
theorem Kb.poly {p:List RI}{l:List RQ}{ts:List Int}{H:AL.Hp}(k:Kb p l ts H):∃rn tn,H 900=.nst 1 46 [.iv (.sl (gZ p)),rn,tn,.iv (.bool true)]/\∀(q:List RI) (H':AL.Hp),H' 900=.nst 1 46 [.iv (.sl (gZ q)),rn,tn,.iv (.bool true)]->H' 68=H 68->H' 78=H 78->Kb q l ts H':=by
 obtain⟨rn,tn,h1,h2,h3⟩:=k;exact⟨rn,tn,h1,λq H' e1 e2 e3=>⟨rn,tn,e1,by rw[e2];exact h2,by rw[e3];exact h3⟩⟩
theorem a9U {n d:Int}(hn:n.natAbs<W)(hd:d.natAbs<W):RP (2^30) (2^35) ([n,d].map canon):=by
 refine⟨by simp,λc hc=>?_⟩;simp only[List.map_cons,List.map_nil,List.mem_cons,List.not_mem_nil,or_false]at hc;rcases hc with rfl|rfl
 .exact(aW _).mono (Nat.le_trans (dR.mpr (show n.natAbs<W^1 by rw[Nat.pow_one];exact hn)) (by decide))
 .exact(aW _).mono (Nat.le_trans (dR.mpr (show d.natAbs<W^1 by rw[Nat.pow_one];exact hd)) (by decide))
theorem Gu {K J:Fr->AL.Hp->Prop}{Q:Post}(h:∀f H,J f H->K f H):∀e f H,E5 J Q e f H->E5 K Q e f H
 |.normal,f,H,k=>h f H k
 |.ret,_,_,k=>k
 |.exit _,_,_,k=>k
 |.goto _,_,_,k=>k
 |.panic _,_,_,k=>k
 |.outgrown,_,_,k=>k
theorem LJ {zi:Zi}{P:Program}{c:Code}{id:Nat}{K:Fr->AL.Hp->Prop}{Q:Post}{f:Fr}{H:AL.Hp}(J:Fr->AL.Hp->Prop)(h1:Am P c (kY id (E5 J Q)) f H)(h2:∀f H,J f H->K f H):Am P c (kY id (E5 K Q)) f H:=by
 have:∀e f H,kY id (E5 J Q) e f H->kY id (E5 K Q) e f H:=by
  intro e f H h;cases e with
  |exit j =>
   simp only[kY]at h ⊢;split
   .rename_i e;rw[if_pos e]at h;exact Gu h2 _ _ _ h
   .rename_i e;rw[if_neg e]at h;exact Gu h2 _ _ _ h
  |normal=>exact h2 _ _ h
  |ret=>exact h
  |goto g=>exact h
  |panic p=>exact h
  |outgrown=>exact h
 unfold Am at h1 ⊢;exact AW.mono (.loop c) this h1
theorem zN {zi:Zi}{P:Program}{c:Prop}[Decidable c] {x y:Code}{K:Fr->AL.Hp->Prop}{Q:Post}{f:Fr}{H:AL.Hp}(J:Fr->AL.Hp->Prop)(h1:c->AW P x (E5 J Q) f H)(h2:¬c->AW P y (E5 J Q) f H)(h3:∀f H,J f H->K f H):yC P (.iv (.bool (decide c))) x y (E5 K Q) f H :=
 bU (λh=>AW.mono x (Gu h3) (h1 h)) (λh=>AW.mono y (Gu h3) (h2 h))
theorem a5c {q r:List Int}(h:ps q=ps r):cn q=cn r:=by unfold cn;rw[kQ (jc h)]
theorem XP {Q L:List Int}(h1:RP (2^30) (2^35) (cn Q))(h2:RP (2^30) (2^35) (L.map canon)):AC Tryz.prog 23 [cw (cn Q),cw (L.map canon)] none [cw (cn (bV Q L))]:=by
 have h:=Xm _ _ h1 h2;have e:cn (bV (pv (cn Q)) (pv (L.map canon)))=cn (bV Q L):=a5c (by rw[aX,aX,gW,show pv (cn Q)=aV Q by unfold cn;rw[gW],lK]);rw[<-e];exact h
set_option maxRecDepth 4000 in
theorem Zv (lead:Int)(rs:List (Int×Int×Int))(qs:List (Int×Int))(hrs:rs.length<=2^40)(hqs:qs.length<=2^40):ACX Tryz.prog 9 [.agg (a4b lead rs qs)] (RBt (cn (bR (bQ (ld lead) rs (min rs.length 6)) qs (min qs.length 2))) (bL rs (min rs.length 6)) (bT rs (min rs.length 6))):=by
 refine ACX.a3k zB 6 (rs:=[.cell 2 46]) bM Tryz.func9 (by rfl) (by rfl) (by rfl) (by rfl) (by rfl) (a1W _ _ _) (λB=>?_);have cl:=uP lead (-1000000) 1000000;have cb:=zT (n:=lead) (lo:=-1000000) (hi:=1000000) (by decide);obtain⟨c,hc⟩:∃c,ld lead=c:=⟨_,rfl⟩;have hcb:c≠0/\-1000000<=c/\c<=1000000:=by rw[<-hc];unfold ld;split<;>omega
 rw[hc];simp (disch:=omega) only[wt,seval,reduceCtorEq,Nat.reduceEqDiff,rqs,wz,wzB,a4b];refine au (cl) (by rfl) (by simp) ?_;simp (disch:=omega) only[wt,seval,reduceCtorEq,Nat.reduceEqDiff,rqs,wz,wzB];refine zN (c:=clz lead (-1000000) 1000000=0) (λf H=>(f 1=.hp 1 1 0 0/\f 2=.hp 2 1 0 0/\f 3=.iv (.int .i64 c))/\H=dF (dF (pF B) 1 (.blk false 1 25 3 [a4b lead rs qs])) 2 (.blk false 1 46 4 [[.own none 73 1 [],.own none 73 1 [],.own none 73 1 [],.bool false]])) (λh0=>?_) (λh0=>?_) ?_
 .have e:c=1:=by rw[<-hc,ld,if_pos h0]
  subst e;simp (disch:=omega) only[wt,seval,reduceCtorEq,Nat.reduceEqDiff,rqs,wz,wzB];rfl
 .have e:c=clz lead (-1000000) 1000000:=by rw[<-hc,ld,if_neg h0]
  rw[<-e];simp (disch:=omega) only[wt,seval,reduceCtorEq,Nat.reduceEqDiff,rqs,wz,wzB];rfl
 rintro f H ⟨⟨f1,f2,f3⟩,rfl⟩;have tp:=Gg [c] (by simp) (λz hz=>by simp at hz;subst hz;omega);simp (disch:=omega) only[wt,seval,reduceCtorEq,Nat.reduceEqDiff,rqs,wz,wzB,f1,f2,f3,a4b];refine au (tp) (by first|rfl|(simp only[aH,bn,aB,aI,aA,Nat.reduceEqDiff,↓reduceIte,a4I,f1,f2,f3];rfl)) (by simp) ?_;simp (disch:=omega) only[wt,seval,reduceCtorEq,Nat.reduceEqDiff,rqs,wz,wzB,a4I,f1,f2,f3];obtain⟨N,hN⟩:∃N,min rs.length 6=N:=⟨_,rfl⟩;rw[hN];have kl0:=xH rs;refine LJ (λf H=>(f 1=.hp 1 1 0 0/\f 2=.hp 2 1 0 0/\f 4=.hp 900 1 0 0)/\H 1=.blk false 1 25 3 [[.int .i64 lead,.sl (yY rs),.sl (Ag qs)]]/\H 2=.blk false 1 46 4 [[.own none 73 1 [],.own none 73 1 [],.own none 73 1 [],.bool false]]/\H 999=.mrk B/\Kb (cn (bQ c rs N)) (bL rs N) (bT rs N) H) ?_ ?_
 .refine OW (Weak.b3A 4 4 900 1 0 0 46 [.iv (.sl (gZ [canon c])),.oG,.oG,.iv (.bool true)] (by simp (disch:=omega) only[wt,seval,reduceCtorEq,Nat.reduceEqDiff,rqs,wz,wzB]) (by simp (disch:=omega) only[wt,seval,reduceCtorEq,Nat.reduceEqDiff,rqs,wz,wzB]) (by decide) (Weak.refl _ _)) (λf H=>∃i:Nat,i<=N/\(f 1=.hp 1 1 0 0/\f 2=.hp 2 1 0 0/\f 4=.hp 900 1 0 0/\f 25=.iv (.sl (yY rs))/\f 26=.iv (.int .i64 rs.length)/\f 27=.iv (.int .i64 i))/\H 1=.blk false 1 25 3 [[.int .i64 lead,.sl (yY rs),.sl (Ag qs)]]/\H 2=.blk false 1 46 4 [[.own none 73 1 [],.own none 73 1 [],.own none 73 1 [],.bool false]]/\H 999=.mrk B/\Kb (cn (bQ c rs i)) (bL rs i) (bT rs i) H) (λf H=>(rs.length-dQ f 27).toNat) ?_ ?_
  .refine⟨0,by omega,⟨by simp (disch:=omega) only[wt,seval,reduceCtorEq,Nat.reduceEqDiff,rqs,wz,wzB,f1],by simp (disch:=omega) only[wt,seval,reduceCtorEq,Nat.reduceEqDiff,rqs,wz,wzB,f2],by simp (disch:=omega) only[wt,seval,reduceCtorEq,Nat.reduceEqDiff,rqs,wz,wzB];try rfl,by simp (disch:=omega) only[wt,seval,reduceCtorEq,Nat.reduceEqDiff,rqs,wz,wzB],by simp (disch:=omega) only[wt,seval,reduceCtorEq,Nat.reduceEqDiff,rqs,wz,wzB,kl0],by simp (disch:=omega) only[wt,seval,reduceCtorEq,Nat.reduceEqDiff,rqs,wz,wzB];try rfl⟩,by simp (disch:=omega) only[wt,seval,reduceCtorEq,Nat.reduceEqDiff,rqs,wz,wzB],by simp (disch:=omega) only[wt,seval,reduceCtorEq,Nat.reduceEqDiff,rqs,wz,wzB],by simp (disch:=omega) only[wt,seval,reduceCtorEq,Nat.reduceEqDiff,rqs,wz,wzB];try rfl,?_⟩;have ec:cn (bQ c rs 0)=[canon c]:=by
    have t1:tz [c]=1:=Nat.le_antisymm (oI _) (Nat.le_of_not_lt λh=>hcb.1 (bW [c] (k:=0) (by omega)));show (List.take (tz [c]) [c]).map canon=_;rw[t1];rfl
   rw[ec];exact⟨.oG,.oG,by simp (disch:=omega) only[wt,seval,reduceCtorEq,Nat.reduceEqDiff,rqs,wz,wzB];try rfl,.inl ⟨rfl,rfl⟩,.inl ⟨rfl,rfl⟩⟩
  clear f1 f2 f3;rintro f H ⟨i,hi,⟨f1,f2,f4,f25,f26,f27⟩,g1,g2,g9,kb⟩;rw[bC f27];simp (disch:=omega) only[wt,seval,reduceCtorEq,Nat.reduceEqDiff,rqs,wz,wzB,f1,f2,f4,f25,f26,f27,g1,g2,g9];refine bU (λhlt=>?_) (λhlt=>?_)
  .have hlt':i<rs.length:=by omega
   simp (disch:=omega) only[wt,seval,reduceCtorEq,Nat.reduceEqDiff,rqs,wz,wzB,f1,f2,f4,f25,f26,f27,g1,g2,g9,xH,I8 hlt',yX];obtain⟨⟨n,d,t⟩,hk⟩:∃k,kk rs i=k:=⟨_,rfl⟩;have kb1:=Uf rs i;have e1:clz (rs.getD i (0,0,0)).1 (-1000000) 1000000=n:=congrArg (·.1) hk;have e2:clz (rs.getD i (0,0,0)).2.1 1 1000=d:=congrArg (·.2.1) hk;have e3:clz (rs.getD i (0,0,0)).2.2 1 3=t:=congrArg (·.2.2) hk;rw[hk]at kb1;obtain⟨⟨n1,n2⟩,⟨d1,d2⟩,t1,t2⟩:(-1000000<=n/\n<=1000000)/\(1<=d/\d<=1000)/\1<=t/\t<=3:=kb1;have pl:AC Tryz.prog 22 [.agg [.int .i64 (rs.getD i (0,0,0)).1,.int .i64 (rs.getD i (0,0,0)).2.1,.int .i64 (rs.getD i (0,0,0)).2.2]] none [.agg [.int .i64 n,.int .i64 d,.int .i64 t]]:=by
    have:=a1z (rs.getD i (0,0,0)).1 (rs.getD i (0,0,0)).2.1 (rs.getD i (0,0,0)).2.2;rw[e1,e2,e3]at this;exact this
   have li:AC Tryz.prog 24 [.agg [.int .i64 n,.int .i64 d,.int .i64 t]] none [cw ([-n,d].map canon)]:=Y4 n d t ⟨n1,n2⟩ ⟨d1,d2⟩;have xv:kx rs i=uf ((n:Rat)/(d:Rat)):=by rw[kx,hk]
   obtain⟨x,hx⟩:∃x,kx rs i=x:=⟨_,rfl⟩;have qo:AC Tryz.prog 4 [ci n,ci d] none [cqq (kx rs i),ci 0]:=by rw[xv];exact a4s n d (by omega) (by omega) (by omega) (by omega) (by omega)
   obtain⟨sx,nx⟩:=a7l rs i;rw[hx]at qo sx nx;simp (disch:=omega) only[wt,seval,reduceCtorEq,Nat.reduceEqDiff,rqs,wz,wzB,f1,f2,f4,f25,f26,f27,g1,g2,g9,xH,I8 hlt',yX,w3];refine bU (λh6=>?_) (λh6=>?_)
   .obtain rfl:i=N:=by omega
    simp (disch:=omega) only[wt,seval,reduceCtorEq,Nat.reduceEqDiff,rqs,wz,wzB,f1,f2,f4,f25,f26,f27,g1,g2,g9];exact(kb.upd (by decide) (by decide) (by decide)).upd (by decide) (by decide) (by decide)
   .simp (disch:=omega) only[wt,seval,reduceCtorEq,Nat.reduceEqDiff,rqs,wz,wzB,f1,f2,f4,f25,f26,f27,g1,g2,g9,xH,I8 hlt',yX,w3];refine au (pl) (by first|rfl|(simp only[aH,bn,aB,aI,aA,Nat.reduceEqDiff,↓reduceIte,f1,f2,f4,f25,f26,f27,g1,g2,g9,w3];rfl)) (by simp) ?_;simp (disch:=omega) only[wt,seval,reduceCtorEq,Nat.reduceEqDiff,rqs,wz,wzB,f1,f2,f4,f25,f26,f27,g1,g2,g9,w3];refine au (qo) (by first|rfl|(simp only[aH,bn,aB,aI,aA,Nat.reduceEqDiff,↓reduceIte,f1,f2,f4,f25,f26,f27,g1,g2,g9,w3];rfl)) (by simp) ?_;simp (disch:=omega) only[wt,seval,reduceCtorEq,Nat.reduceEqDiff,rqs,wz,wzB,f1,f2,f4,f25,f26,f27,g1,g2,g9,w3];have hi6:i<6:=by omega
    refine bF (λf H'=>∃j s7 s8:Nat,j<=t.toNat/\(f 1=.hp 1 1 0 0/\f 2=.hp 2 1 0 0/\f 4=.hp 900 1 0 0/\f 7=.hp 7 s7 0 0/\f 8=.hp 8 s8 0 0/\f 10=.iv (.int .i64 j)/\f 25=.iv (.sl (yY rs))/\f 26=.iv (.int .i64 rs.length)/\f 27=.iv (.int .i64 i))/\(H' 1=.blk false 1 25 3 [[.int .i64 lead,.sl (yY rs),.sl (Ag qs)]]/\H' 2=.blk false 1 46 4 [[.own none 73 1 [],.own none 73 1 [],.own none 73 1 [],.bool false]]/\H' 7=.blk false s7 65 3 [[.int .i64 n,.int .i64 d,.int .i64 t]]/\H' 8=.blk false s8 31 3 [oh x]/\H' 999=.mrk B)/\Kb (cn (MV (bQ c rs i) [-n,d] j)) (bL rs i) (bT rs i) H') (λf H=>(t-dQ f 10).toNat) ?_ ?_
    .refine⟨0,_,_,Nat.zero_le _,⟨by simp (disch:=omega) only[wt,seval,reduceCtorEq,Nat.reduceEqDiff,rqs,wz,wzB,f1],by simp (disch:=omega) only[wt,seval,reduceCtorEq,Nat.reduceEqDiff,rqs,wz,wzB,f2],by simp (disch:=omega) only[wt,seval,reduceCtorEq,Nat.reduceEqDiff,rqs,wz,wzB,f4],by simp (disch:=omega) only[wt,seval,reduceCtorEq,Nat.reduceEqDiff,rqs,wz,wzB];try rfl,by simp (disch:=omega) only[wt,seval,reduceCtorEq,Nat.reduceEqDiff,rqs,wz,wzB];try rfl,by simp (disch:=omega) only[wt,seval,reduceCtorEq,Nat.reduceEqDiff,rqs,wz,wzB],by simp (disch:=omega) only[wt,seval,reduceCtorEq,Nat.reduceEqDiff,rqs,wz,wzB,f25],by simp (disch:=omega) only[wt,seval,reduceCtorEq,Nat.reduceEqDiff,rqs,wz,wzB,f26],by simp (disch:=omega) only[wt,seval,reduceCtorEq,Nat.reduceEqDiff,rqs,wz,wzB,f27]⟩,⟨by simp (disch:=omega) only[wt,seval,reduceCtorEq,Nat.reduceEqDiff,rqs,wz,wzB,g1],by simp (disch:=omega) only[wt,seval,reduceCtorEq,Nat.reduceEqDiff,rqs,wz,wzB,g2],by simp (disch:=omega) only[wt,seval,reduceCtorEq,Nat.reduceEqDiff,rqs,wz,wzB],by simp (disch:=omega) only[wt,seval,reduceCtorEq,Nat.reduceEqDiff,rqs,wz,wzB],by simp (disch:=omega) only[wt,seval,reduceCtorEq,Nat.reduceEqDiff,rqs,wz,wzB,g9]⟩,?_⟩
     repeat (refine Kb.upd ?_ (by decide) (by decide) (by decide))
     exact kb
    clear f1 f2 f4 f25 f26 f27 g1 g2 g9 kb;rintro f H ⟨j,s7,s8,hj,⟨f1,f2,f4,f7,f8,f10,f25,f26,f27⟩,⟨g1,g2,g7,g8,g9⟩,kb⟩;rw[bC f10];simp (disch:=omega) only[wt,seval,reduceCtorEq,Nat.reduceEqDiff,rqs,wz,wzB,f1,f2,f4,f7,f8,f10,f25,f26,f27,g1,g2,g7,g8,g9];refine bU (λhlt2=>?_) (λhlt2=>?_)
    .obtain⟨m,hm,bw⟩:=a3n hcb.1 (by simp only[W];omega) rs i (by omega);have bt:=bw.t;obtain⟨s1,s2⟩:=Y3 bw.sz (a4n (x:=-n) (y:=d) (by simp only[W];omega) (by simp only[W];omega)) (VL (by omega)) bw.ne j (by simp only[W];omega);have mu:=XP ((oQ (D:=40) (by omega) s1).mono (by decide) (by omega)) (a9U (n:=-n) (d:=d) (by simp only[W];omega) (by simp only[W];omega));rw[show bV (MV (bQ c rs i) [-n,d] j) [-n,d]=MV (bQ c rs i) [-n,d] (j+1) from rfl]at mu;obtain⟨rn,tn,Jg,up⟩:=kb.poly;simp (disch:=omega) only[wt,seval,reduceCtorEq,Nat.reduceEqDiff,rqs,wz,wzB,f1,f2,f4,f7,f8,f10,f25,f26,f27,g1,g2,g7,g8,g9,Jg];refine .inl ⟨aZ (by kernel_rfl),?_⟩;refine au (li) (by first|rfl|(simp only[aH,bn,aB,aI,aA,Nat.reduceEqDiff,↓reduceIte,f1,f2,f4,f7,f8,f10,f25,f26,f27,g1,g2,g7,g8,g9,Jg];rfl)) (by simp) ?_;simp (disch:=omega) only[wt,seval,reduceCtorEq,Nat.reduceEqDiff,rqs,wz,wzB,f1,f2,f4,f7,f8,f10,f25,f26,f27,g1,g2,g7,g8,g9,Jg];refine au (mu) (by first|rfl|(simp only[aH,bn,aB,aI,aA,Nat.reduceEqDiff,↓reduceIte,f1,f2,f4,f7,f8,f10,f25,f26,f27,g1,g2,g7,g8,g9,Jg];rfl)) (by simp) ?_;simp (disch:=omega) only[wt,seval,reduceCtorEq,Nat.reduceEqDiff,rqs,wz,wzB,f1,f2,f4,f7,f8,f10,f25,f26,f27,g1,g2,g7,g8,g9,Jg]
     first|exact aN (by kernel_rfl)|refine⟨aN (by kernel_rfl),?_⟩
     refine⟨⟨j+1,_,_,by omega,⟨rfl,rfl,by omega⟩,⟨rfl,rfl⟩,up _ _ ?_ ?_ ?_⟩,by omega⟩
     .rw[aO]
     .repeat rw[aJ _ _ (by decide)]
     .repeat rw[aJ _ _ (by decide)]
    .have ej:(j:Int)=t:=by omega
     have ejn:j=t.toNat:=by omega
     subst ejn;simp (disch:=omega) only[wt,seval,reduceCtorEq,Nat.reduceEqDiff,rqs,wz,wzB,f1,f2,f4,f7,f8,f10,f25,f26,f27,g1,g2,g7,g8,g9];refine IQ (b1E _ _ _ x t _ kb (a3r rs i) (by omega) (by omega) (by omega) (sx.mono (by decide)) nx) ?_;rintro z H2 ⟨kb2,kp⟩;simp (disch:=omega) only[wt,seval,reduceCtorEq,Nat.reduceEqDiff,rqs,wz,wzB,f1,f2,f4,f7,f8,f10,f25,f26,f27,g1,g2,g7,g8,g9];refine⟨⟨i+1,by omega,by omega,(kp 1 (by omega) (by decide)).trans g1,(kp 2 (by omega) (by decide)).trans g2,(kp 999 (by omega) (by decide)).trans g9,?_⟩,by omega⟩;rw[bL,bT,bQ,hx,hk];exact kb2
  .obtain rfl:i=N:=by omega
   simp (disch:=omega) only[wt,seval,reduceCtorEq,Nat.reduceEqDiff,rqs,wz,wzB,f1,f2,f4,f25,f26,f27,g1,g2,g9];exact kb
 rintro f H ⟨⟨f1,f2,f4⟩,g1,g2,g9,kb⟩;simp (disch:=omega) only[wt,seval,reduceCtorEq,Nat.reduceEqDiff,rqs,wz,wzB,f1,f2,f4,g1,g2,g9];obtain⟨M,hM⟩:∃M,min qs.length 2=M:=⟨_,rfl⟩;rw[hM];have kl1:=Cc qs;obtain⟨m0,hm0,bw0⟩:=a3n hcb.1 (by simp only[W];omega) rs N (by omega);refine LJ (λf H=>(f 2=.hp 2 1 0 0/\f 4=.hp 900 1 0 0)/\H 2=.blk false 1 46 4 [[.own none 73 1 [],.own none 73 1 [],.own none 73 1 [],.bool false]]/\H 999=.mrk B/\Kb (cn (bR (bQ c rs N) qs M)) (bL rs N) (bT rs N) H) ?_ ?_
 .refine bF (λf H=>∃i:Nat,i<=M/\(f 2=.hp 2 1 0 0/\f 4=.hp 900 1 0 0/\f 66=.iv (.sl (Ag qs))/\f 67=.iv (.int .i64 qs.length)/\f 68=.iv (.int .i64 i))/\H 2=.blk false 1 46 4 [[.own none 73 1 [],.own none 73 1 [],.own none 73 1 [],.bool false]]/\H 999=.mrk B/\Kb (cn (bR (bQ c rs N) qs i)) (bL rs N) (bT rs N) H) (λf H=>(qs.length-dQ f 68).toNat) ?_ ?_
  .refine⟨0,by omega,⟨by simp (disch:=omega) only[wt,seval,reduceCtorEq,Nat.reduceEqDiff,rqs,wz,wzB,f2],by simp (disch:=omega) only[wt,seval,reduceCtorEq,Nat.reduceEqDiff,rqs,wz,wzB,f4],by simp (disch:=omega) only[wt,seval,reduceCtorEq,Nat.reduceEqDiff,rqs,wz,wzB],by simp (disch:=omega) only[wt,seval,reduceCtorEq,Nat.reduceEqDiff,rqs,wz,wzB,kl1],by simp (disch:=omega) only[wt,seval,reduceCtorEq,Nat.reduceEqDiff,rqs,wz,wzB];try rfl⟩,by simp (disch:=omega) only[wt,seval,reduceCtorEq,Nat.reduceEqDiff,rqs,wz,wzB,g2],by simp (disch:=omega) only[wt,seval,reduceCtorEq,Nat.reduceEqDiff,rqs,wz,wzB,g9],kb⟩
  clear f1 f2 f4 g1 g2 g9 kb;rintro f H ⟨i,hi,⟨f2,f4,f66,f67,f68⟩,g2,g9,kb⟩;rw[bC f68];simp (disch:=omega) only[wt,seval,reduceCtorEq,Nat.reduceEqDiff,rqs,wz,wzB,f2,f4,f66,f67,f68,g2,g9];refine bU (λhlt=>?_) (λhlt=>?_)
  .have hlt':i<qs.length:=by omega
   obtain⟨⟨a,b⟩,hk⟩:∃k,ab qs i=k:=⟨_,rfl⟩;have kb1:=a8z qs i;have e1:clz (qs.getD i (0,0)).1 (-1000) 1000=a:=congrArg (·.1) hk;have e2:clz (qs.getD i (0,0)).2 1 1000=b:=congrArg (·.2) hk;rw[hk]at kb1;obtain⟨⟨a1,a2⟩,b1,b2⟩:(-1000<=a/\a<=1000)/\1<=b/\b<=1000:=kb1;have c1:=uP (qs.getD i (0,0)).1 (-1000) 1000;have c2:=uP (qs.getD i (0,0)).2 1 1000;rw[e1]at c1;rw[e2]at c2;simp (disch:=omega) only[wt,seval,reduceCtorEq,Nat.reduceEqDiff,rqs,wz,wzB,f2,f4,f66,f67,f68,g2,g9,Cc,Qr hlt',EK,w2];refine bU (λh6=>?_) (λh6=>?_)
   .obtain rfl:i=M:=by omega
    simp (disch:=omega) only[wt,seval,reduceCtorEq,Nat.reduceEqDiff,rqs,wz,wzB,f2,f4,f66,f67,f68,g2,g9];exact(kb.upd (by decide) (by decide) (by decide)).upd (by decide) (by decide) (by decide)
   .obtain⟨q1,q2⟩:=a9I a1 a2;have w1:IntKind.i64.wrap (a*a)=a*a:=wrap_i64 _ (by omega) (by omega);have w2:IntKind.i64.wrap (a*a+b)=a*a+b:=wrap_i64 _ (by omega) (by omega);have w3:IntKind.i64.wrap (-2*a) = -2*a:=wrap_i64 _ (by omega) (by omega);have tp:=Gg [a*a+b,-2*a,1] (by simp) (λz hz=>by
     simp only[List.mem_cons,List.not_mem_nil,or_false]at hz;rcases hz with rfl|rfl|rfl<;>omega)
    have bw:=a8m bw0 (by omega) qs i (by omega);have bt:=bw.t;have mu:=XP (L:=[a*a+b,-2*a,1]) ((oQ (D:=40) (by omega) bw.sz).mono (by decide) (by omega)) (a0Z (by simp only[W];omega) (by simp only[W];omega) (by decide));have eb:bV (bR (bQ c rs N) qs i) [a*a+b,-2*a,1]=bR (bQ c rs N) qs (i+1):=by rw[bR,hk]
    rw[eb]at mu;obtain⟨rn,tn,Jg,up⟩:=kb.poly;simp (disch:=omega) only[wt,seval,reduceCtorEq,Nat.reduceEqDiff,rqs,wz,wzB,f2,f4,f66,f67,f68,g2,g9,Cc,Qr hlt',EK,w2];refine au (c1) (by first|rfl|(simp only[aH,bn,aB,aI,aA,Nat.reduceEqDiff,↓reduceIte,f2,f4,f66,f67,f68,g2,g9,w2];rfl)) (by simp) ?_;simp (disch:=omega) only[wt,seval,reduceCtorEq,Nat.reduceEqDiff,rqs,wz,wzB,f2,f4,f66,f67,f68,g2,g9,w2];refine au (c2) (by first|rfl|(simp only[aH,bn,aB,aI,aA,Nat.reduceEqDiff,↓reduceIte,f2,f4,f66,f67,f68,g2,g9,w2,Jg,w1,w2,w3];rfl)) (by simp) ?_;simp (disch:=omega) only[wt,seval,reduceCtorEq,Nat.reduceEqDiff,rqs,wz,wzB,f2,f4,f66,f67,f68,g2,g9,w2,Jg,w1,w2,w3];refine .inl ⟨aZ (by kernel_rfl),?_⟩;refine au (tp) (by first|rfl|(simp only[aH,bn,aB,aI,aA,Nat.reduceEqDiff,↓reduceIte,f2,f4,f66,f67,f68,g2,g9,w2,Jg];rfl)) (by simp) ?_;simp (disch:=omega) only[wt,seval,reduceCtorEq,Nat.reduceEqDiff,rqs,wz,wzB,f2,f4,f66,f67,f68,g2,g9,w2,Jg];refine au (mu) (by first|rfl|(simp only[aH,bn,aB,aI,aA,Nat.reduceEqDiff,↓reduceIte,f2,f4,f66,f67,f68,g2,g9,w2,Jg];rfl)) (by simp) ?_;simp (disch:=omega) only[wt,seval,reduceCtorEq,Nat.reduceEqDiff,rqs,wz,wzB,f2,f4,f66,f67,f68,g2,g9,w2,Jg]
    first|exact aN (by kernel_rfl)|refine⟨aN (by kernel_rfl),?_⟩
    refine⟨⟨i+1,by omega,by omega,up _ _ ?_ ?_ ?_⟩,by omega⟩
    .rw[aO]
    .repeat rw[aJ _ _ (by decide)]
    .repeat rw[aJ _ _ (by decide)]
  .obtain rfl:i=M:=by omega
   simp (disch:=omega) only[wt,seval,reduceCtorEq,Nat.reduceEqDiff,rqs,wz,wzB,f2,f4,f66,f67,f68,g2,g9];exact kb
 clear f1 f2 f4 g1 g2 g9 kb;rintro f H ⟨⟨f2,f4⟩,g2,g9,kb⟩;have kl:=a3r rs N;obtain⟨rn,tn,Jg,hR,hT⟩:=kb;rcases hR with ⟨l0,rfl⟩|⟨st,l0,rfl,g68⟩
 .have t0:bT rs N=[]:=List.length_eq_zero_iff.1 (by rw[kl.VU,l0];rfl);obtain rfl:tn=.oG:=by
   rcases hT with ⟨_,h⟩|⟨st,h,h2,h3⟩
   .exact h
   .exact(h t0).elim
  refine Opn.done ?_;simp (disch:=omega) only[wt,seval,reduceCtorEq,Nat.reduceEqDiff,rqs,wz,wzB,f2,f4,g2,g9,Jg,w4];refine uJ (B:=B) [.agg [.sl (gZ (cn (bR (bQ c rs N) qs M))),.own none 0 0 [],.own none 0 0 [],.bool true]] (by simp (disch:=omega) only[wt,seval,reduceCtorEq,Nat.reduceEqDiff,rqs,wz,wzB];try exact g9) (by simp (disch:=omega) only[wt,seval,reduceCtorEq,Nat.reduceEqDiff,rqs,wz,wzB,f2,f4,g2,g9,Jg];try rfl) ?_;intro E hE;refine⟨.own none 0 0 [],.own none 0 0 [],rfl,?_,?_⟩
  .rw[l0];exact wJ (k:=0) (λr hr=>by simp at hr)
  .rw[t0];exact wJ (k:=0) (λr hr=>by simp at hr)
 .have t0:bT rs N≠[]:=λe=>l0 (List.length_eq_zero_iff.1 (by rw[<-kl.VU,e];rfl))
  obtain⟨st2,-,rfl,g78⟩:=hT.resolve_left λh=>t0 h.1
  refine Opn.row 900 1 46 1 68 st 31 3 _ _ B Jg (by rfl) g68 g9 ?_;intro bo E3 hE3 hbo hbr;refine Opn.row 900 1 46 2 78 st2 3 1 _ (iO (bT rs N)) E3 (by rfl) (by rfl) (by simp (disch:=omega) only[wt,seval,reduceCtorEq,Nat.reduceEqDiff,rqs,wz,wzB,g78]) (by rfl) ?_;intro bi E4 hE4 hbi b6b;refine Opn.done ?_;simp (disch:=omega) only[wt,seval,reduceCtorEq,Nat.reduceEqDiff,rqs,wz,wzB,f2,f4,g2,g9,Jg,g68,g78,w4];refine uJ (B:=E4) [.agg [.sl (gZ (cn (bR (bQ c rs N) qs M))),.own bo 31 3 (lD (bL rs N)),.own bi 3 1 (iO (bT rs N)),.bool true]] (by rfl) (by simp (disch:=omega) only[wt,seval,reduceCtorEq,Nat.reduceEqDiff,rqs,wz,wzB,f2,f4,g2,g9,Jg,g68,g78];try rfl) ?_;intro E hE;exact⟨_,_,rfl,wJ ((JV _).mpr trivial),wJ (k:=1) (λr hr=>by obtain⟨k,_,rfl⟩:=List.mem_map.1 hr;rfl)⟩
theorem a3l (lead:Int)(rs:List (Int×Int×Int))(qs:List (Int×Int))(hrs:rs.length<=2^40)(hqs:qs.length<=2^40):AC Tryz.prog 9 [.agg (a4b lead rs qs)] none [.agg (knr (cn (bR (bQ (ld lead) rs (min rs.length 6)) qs (min qs.length 2))) (bL rs (min rs.length 6)) (bT rs (min rs.length 6)) true)] :=
 ACX.plain (Zv lead rs qs hrs hqs) λB E r hr=>by
  obtain⟨x,y,rfl,hx,hy⟩:=hr;refine .cons (.agg rfl λj a b ha hb=>?_) .nil
  match j with
  |0=>simp only[knr,List.getElem?_cons_zero,Option.some.injEq]at ha hb;subst ha hb;exact .refl _
  |1=>simp only[knr,List.getElem?_cons_succ,List.getElem?_cons_zero,Option.some.injEq]at ha hb;subst ha hb;exact hx
  |2=>simp only[knr,List.getElem?_cons_succ,List.getElem?_cons_zero,Option.some.injEq]at ha hb;subst ha hb;exact hy
  |3=>simp only[knr,List.getElem?_cons_succ,List.getElem?_cons_zero,Option.some.injEq]at ha hb;subst ha hb;exact .refl _
  |j+4=>simp[knr]at hb
theorem a3m (lead:Int)(rs:List (Int×Int×Int))(qs:List (Int×Int)):∃p l ts D n S,(p,l,ts)=(cn (bR (bQ (ld lead) rs (min rs.length 6)) qs (min qs.length 2)),bL rs (min rs.length 6),bT rs (min rs.length 6))/\Kw p D n S (l.map qv)/\Kl l ts 6 18:=by
 have hcb:ld lead≠0/\(ld lead).natAbs<W:=by
  have cb:=zT (n:=lead) (lo:=-1000000) (hi:=1000000) (by decide);unfold ld;simp only[W];split<;>omega
 obtain⟨m,hm,bw⟩:=a3n hcb.1 hcb.2 rs (min rs.length 6) (by omega);have b2:=a8m bw (by omega) qs (min qs.length 2) (by omega);have kl:=a3r rs (min rs.length 6);generalize hQ:bR (bQ (ld lead) rs (min rs.length 6)) qs (min qs.length 2)=Q at *;have b3:=b2.kF (Q:=aV Q) (lK Q).symm;have k:=b3.kw (by omega) (by omega) (by omega) kl.rise (kD Q);rw[show cn (aV Q)=cn Q by exact a5c (lK Q)]at k;obtain⟨D,k⟩:=k;refine⟨_,_,_,D,_,_,rfl,k,kl.rise,?_,kl.VU,kl.sz,λt ht=>?_⟩
 .have:=kl.len;omega
 .have:=kl.tb t ht;omega
end Go.Proofs.YtnhghmibjddlkaaGreatDoor

namespace Go.Proofs.YtnhghmibjddlkaaGreatDoor
open Go Go.Proofs Go.AL
set_option linter.unusedSimpArgs false
set_option linter.unusedVariables false
theorem Vg (A B:List Int):Dv A (bV A B):=.mul (S:=B) (by rw[aX,PS.mul_comm])
theorem Dv.pm {A A' B B':List Int}(h:Dv A A')(h2:Dv B B'):Dv (bV A B) (bV A' B'):=by
 obtain⟨c,S,hc,e⟩:=h;obtain⟨d,T,hd,e2⟩:=h2;refine⟨c*d,bV S T,Int.mul_ne_zero hc hd,?_⟩;rw[aX,aX,aX,PS.jL,show ps S*ps T*(ps A*ps B)=(ps S*ps A)*(ps T*ps B) by ac_rfl,e,e2]
 ac_rfl
theorem As.pm {A A' B B':List Int}(h:As A A')(h2:As B B'):As (bV A B) (bV A' B'):=(h.dv.pm h2.dv).anti (h.symm.dv.pm h2.symm.dv)
theorem Dv.cancel {D A B:List Int}(hD:tz D≠0)(h:Dv (bV D A) (bV D B)):Dv A B:=by
 obtain⟨c,S,hc,e⟩:=h;refine⟨c,S,hc,?_⟩;have:ps (bV S A)=ps (aY c B):=Cj (B:=D) (by
  rw[aX,bg];rw[aX,aX]at e;rw[show ps S*ps A*ps D=ps S*(ps D*ps A) by ac_rfl,e];ac_rfl) hD
 rwa [aX,bg]at this
theorem As.cancel {D A B:List Int}(hD:tz D≠0)(h:As (bV D A) (bV D B)):As A B:=(Dv.cancel hD h.dv).anti (Dv.cancel hD h.symm.dv)
theorem a5T {A:List Int}(h:tz A=1):ps A=PS.C (cf A 0)/\cf A 0≠0:=by
 refine⟨PS.ext λk=>?_,?_⟩
 .rw[zJ,PS.c_C];split
  .rename_i h;rw[h]
  .exact bW A (by omega)
 .have:=dS (q:=A) (by omega);rwa [h]at this
theorem RV {A:List Int}(h:tz A=1)(B:List Int):Dv A B:=by
 obtain⟨e,h0⟩:=a5T h;exact⟨cf A 0,B,h0,by rw[<-e];exact PS.mul_comm _ _⟩
theorem SC {A B:List Int}(hA:tz A=1)(hB:tz B=1):As A B:=(RV hA B).anti (RV hB A)
theorem a5R {A B:List Int}(hA:tz A≠0)(hB:tz B≠0):tz (bV A B)+1=tz A+tz B/\tz (bV A B)≠0:=by
 have:=gJ hA hB;omega
theorem b3d {A B:List Int}(h:Dv A B)(hB:tz B≠0)(e:tz A=tz B):As A B:=by
 obtain⟨c,S,hc,e1⟩:=h;have ht:tz (bV S A)=tz B:=by
  rw[<-jk hc B];exact dX (by rw[aX,bg,e1])
 have hS:tz S≠0:=λh0=>hB (by rw[<-ht];exact gV (.inl h0))
 have hA:tz A≠0:=by omega
 have:=(a5R hS hA).1;obtain⟨e2,h0⟩:=a5T (A:=S) (by omega);exact⟨cf S 0,c,h0,hc,by rw[<-e2,e1]⟩
theorem qJ {A B:List Int}(h:Dv B A):∃S,As A (bV B S):=by
 obtain⟨c,S,hc,e⟩:=h;exact⟨S,c,1,hc,by decide,by rw[<-e,aX,PS.uT,PS.one_mul,PS.mul_comm]⟩
theorem a5u (a:Int)(f:PS):PS.D (PS.C a*f)=PS.C a*PS.D f:=by rw[PS.UW,PS.D_C,PS.zero_mul,PS.zero_add]
theorem As.b3f {A B:List Int}(h:As A B):As (aP A) (aP B):=by
 obtain⟨a,b,ha,hb,e⟩:=h;exact⟨a,b,ha,hb,by rw[dL,dL,<-a5u,<-a5u,e]⟩
theorem a6B (A B:List Int):ps (aP (bV A B))=ps (aP A)*ps B+ps A*ps (aP B):=by rw[dL,aX,dL,dL];exact PS.UW _ _
theorem a0J {d:List Int}(h:2<=tz d):tz (aP d)≠0/\tz (aP d)<tz d:=by
 constructor
 .intro h0;have h1:=bf.mp h0 (tz d-2);rw[jr,show tz d-2+1=tz d-1 by omega]at h1;have h2:=dS (q:=d) (by omega);rcases Int.mul_eq_zero.mp h1 with h|h
  .exact h2 h
  .omega
 .have:tz (aP d)<=tz d-1:=iC λk hk=>by rw[jr,bW d (by omega),Int.zero_mul]
  omega
def Irr (d:List Int):Prop:=2<=tz d/\∀e,Dv e d->tz e=1\/tz e=tz d
theorem ET {d:List Int}(h:tz d=2):Irr d:=⟨by omega,λe he=>by
 have:=pO he (by omega);omega⟩
theorem Irr.ne {d:List Int}(h:Irr d):tz d≠0:=by have:=h.1;omega
theorem Irr.prime {d a b:List Int}(h:Irr d)(hd:Dv d (bV a b)):Dv d a\/Dv d b:=by
 have g:=nI d a;rcases h.2 _ g.a with h1|h1
 .right
  obtain⟨e,h0⟩:=a5T h1;obtain⟨c,U,V,hc,ez⟩:=g.z;refine Dv.lin (U:=bV U b) (V:=V) (k:=c*cf (rM d a) 0) (.refl d) hd (Int.mul_ne_zero hc h0) ?_;rw[aX,aX,PS.jL,<-e,<-ez,PS.add_mul]
  congr 1<;>ac_rfl
 .left
  exact(b3d g.a h.ne h1).symm.dv.trans g.b
theorem VJ {a:List Int}(h:tz a≠0):∀n,tz (wY a n)≠0
 |0=>by show tz [1]≠0;decide
 |n+1=>by
  rw[show tz (wY a (n+1))=tz (bV (wY a n) a) from dX (by rw[jR,aX,jR];rfl)];exact(a5R (VJ h n) h).2
theorem a4f {d:List Int}(hd:Irr d):∀(n:Nat) (P:List Int),tz P<=n->tz P≠0->∃e h,As P (bV (wY d e) h)/\¬Dv d h
 |0,P,h,h0=>by omega
 |n+1,P,hn,h0=>by
  by_cases hdv:Dv d P
  .obtain⟨S,hS⟩:=qJ hdv;have ht:=OU hS;have hS0:tz S≠0:=λh=>h0 (by rw[ht];exact gV (.inr h))
   have:=(a5R hd.ne hS0).1;have:=hd.1;obtain⟨e,h,e1,e2⟩:=a4f hd n S (by omega) hS0;refine⟨e+1,h,hS.trans (((As.refl d).pm e1).trans (.kF ?_)),e2⟩;rw[aX,aX,aX,jR,jR,PS.pw]
   ac_rfl
  .exact⟨0,P,.kF (by rw[aX,jR,PS.pw,PS.one_mul]),hdv⟩
theorem a6A (d h:List Int)(k:Nat):ps (aP (bV (wY d (k+1)) h))=ps (bV (wY d k) (ji (aY ((k+1:Nat):Int) (bV (aP d) h)) (bV d (aP h)))):=by
 rw[a6B,dL (wY d (k+1)),jR,PS.b5T,aX,jR,gq,bg,aX,aX,PS.mul_add,dL d,PS.pw]
 congr 1<;>ac_rfl
theorem a7n {d P G W:List Int}(hd:Irr d)(hP:tz P≠0)(hG:GG G P (aP P))(hW:As (bV W G) P):¬Dv (bV d d) W/\(Dv d P->Dv d W):=by
 obtain⟨e,h,eP,nh⟩:=a4f hd _ P (Nat.le_refl _) hP;have hWP:Dv W P:=(Vg W G).trans hW.dv;cases e with
 |zero =>
  have e1:As P h:=eP.trans (.kF (by rw[aX,jR,PS.pw,PS.one_mul]));have nP:¬Dv d P:=λx=>nh (x.trans e1.dv)
  exact⟨λx=>nP (((Vg d d).trans x).trans hWP),λx=>(nP x).elim⟩
 |succ k =>
  have hT:=VJ hd.ne k;have e1:As P (bV (wY d k) (bV d h)):=eP.trans (.kF (by
   rw[aX,aX,aX,jR,jR,PS.pw];ac_rfl))
  have e2:=eP.b3f.trans (.kF (a6A d h k));have nQ:¬Dv d (ji (aY ((k+1:Nat):Int) (bV (aP d) h)) (bV d (aP h))):=λx=>by
   have y:Dv d (bV (aP d) h):=x.lin (U:=[1]) (V:=[-1]) (k:=((k+1:Nat):Int)) (Vg d (aP h)) (by omega) (by
    rw[gq,bg,kR,PS.one_mul,uI,PS.oZ,PS.add_assoc,PS.add_neg,PS.add_zero])
   rcases hd.prime y with z|z
   .have t:=a0J hd.1;have:=(pO z t.1).2;omega
   .exact nh z
  generalize ji (aY ((k+1:Nat):Int) (bV (aP d) h)) (bV d (aP h))=Q at e2 nQ;generalize wY d k=T at hT e1 e2;have dG:Dv T G:=hG.dv ((Vg T _).trans e1.symm.dv) ((Vg T _).trans e2.symm.dv);obtain⟨G1,eG⟩:=qJ dG;have e3:As (bV W G1) (bV d h):=As.cancel hT ((As.kF (by simp only[aX];ac_rfl)).trans ((((As.refl W).pm eG).symm.trans hW).trans e1):As (bV T (bV W G1)) (bV T (bV d h)));have n1:¬Dv d G1:=λx=>nQ (Dv.cancel hT ((((Dv.refl T).pm x).trans eG.symm.dv).trans (hG.b.trans e2.dv)))
  refine⟨λx=>nh (Dv.cancel hd.ne ((x.trans (Vg W G1)).trans e3.dv)),λ_=>?_⟩;rcases hd.prime ((Vg d h).trans e3.symm.dv) with x|x
  .exact x
  .exact(n1 x).elim
theorem Dy (st:Nat×Int)(x:Int):(chs st x).2=if x.sign=0 then st.2 else x.sign:=by
 unfold chs;split<;>rfl
theorem OH (st:Nat×Int)(x:Int):(chs st x).1=if x.sign≠0/\st.2≠0/\x.sign≠st.2 then st.1+1 else st.1:=by
 unfold chs;by_cases h:x.sign=0
 .rw[if_pos h,if_neg (λe=>e.1 h)]
 .rw[if_neg h];by_cases h2:st.2≠0/\x.sign≠st.2
  .rw[if_pos h2,if_pos ⟨h,h2⟩]
  .rw[if_neg h2,if_neg (λe=>h2 e.2)]
def DI (a:Int)(sb sh:Nat×Int):Prop :=
 (sh.2=0/\sb.1=0/\sb.2=0/\sh.1=0/\a.sign=0)\/((sh.2=1\/sh.2 = -1)/\(a.sign=0\/a.sign=sh.2)/\((sb.2 = -sh.2/\sh.1<=sb.1/\a.sign≠0)\/(sb.2=sh.2/\sh.1+1<=sb.1)))
theorem YX {a x u v:Int}{sb sh:Nat×Int}(hu:u.sign=a.sign)(hv:v.sign=x.sign)(h:DI a sb sh):DI x (chs sb (u-v)) (chs sh x):=by
 have r1:x.sign=0->(u-v).sign=a.sign:=λe=>by
  rw[<-hv]at e;rw[Int.sign_eq_zero_iff_zero.mp e,Int.sub_zero,hu]
 have r2:a.sign=0->(u-v).sign = -x.sign:=λe=>by
  rw[<-hu]at e;rw[Int.sign_eq_zero_iff_zero.mp e,Int.zero_sub,Int.sign_neg,hv]
 have r3:a.sign = -x.sign->x.sign≠0->(u-v).sign=a.sign:=λe e2=>by
  rw[<-hu,<-hv]at e;rw[<-hv]at e2;rw[<-hu];rcases dD u with ⟨c1,s1⟩|⟨c1,s1⟩|⟨c1,s1⟩<;>rcases dD v with ⟨c2,s2⟩|⟨c2,s2⟩|⟨c2,s2⟩<;>rcases dD (u-v) with ⟨c3,s3⟩|⟨c3,s3⟩|⟨c3,s3⟩<;>omega
 have b1:x.sign = -1\/x.sign=0\/x.sign=1:=by rcases dD x with ⟨_,e⟩|⟨_,e⟩|⟨_,e⟩<;>omega
 have b2:(u-v).sign = -1\/(u-v).sign=0\/(u-v).sign=1:=by rcases dD (u-v) with ⟨_,e⟩|⟨_,e⟩|⟨_,e⟩<;>omega
 have b3:a.sign = -1\/a.sign=0\/a.sign=1:=by rcases dD a with ⟨_,e⟩|⟨_,e⟩|⟨_,e⟩<;>omega
 unfold DI at h ⊢;rw[OH,OH,Dy,Dy];generalize x.sign=X at *;generalize (u-v).sign=Y at *;generalize a.sign=A at *;generalize sb.1=n at *;generalize sb.2=s at *;generalize sh.1=m at *;generalize sh.2=t at *;clear hu hv;rcases h with ⟨h1,h2,h3,h4,h5⟩|⟨h1,h2,h3⟩
 .subst h1 h2 h3 h4 h5;have:=r2 rfl;subst this;rcases b1 with rfl|rfl|rfl
  .exact .inr (by simp)
  .exact .inl (by simp)
  .exact .inr (by simp)
 .refine .inr ?_;rcases b1 with rfl|rfl|rfl<;>rcases b2 with rfl|rfl|rfl<;>rcases b3 with rfl|rfl|rfl<;>rcases h1 with rfl|rfl<;>rcases h3 with ⟨rfl,h3,h4⟩|⟨rfl,h3⟩<;>simp at *<;>omega
def bq (d n:Int):Int->List Int->List Int
 |a,[]=>[d*a]
 |a,x::l=>(d*a-n*x)::bq d n x l
theorem sF {d:Int}(h:0<d)(a:Int):(d*a).sign=a.sign:=by rw[Int.sign_mul,Int.sign_eq_one_of_pos h,Int.one_mul]
theorem YZ {d n:Int}(hd:0<d)(hn:0<n):∀(l:List Int) (a:Int) (sb sh:Nat×Int),DI a sb sh->(l.foldl chs sh).2≠0->(l.foldl chs sh).1+1<=((bq d n a l).foldl chs sb).1
 |[],a,sb,sh,h,h0=>by
  have:=YX (x:=0) (v:=0) (sF hd a) rfl h;rw[Int.sub_zero,qP (st:=sh) (x:=0) rfl]at this;rw[List.foldl_nil]at h0 ⊢;rw[bq,List.foldl_cons,List.foldl_nil];rcases this with ⟨h1,_⟩|⟨_,_,⟨_,_,h3⟩|⟨_,h3⟩⟩
  .exact absurd h1 h0
  .exact absurd rfl h3
  .exact h3
 |x::l,a,sb,sh,h,h0=>by
  rw[List.foldl_cons]at h0 ⊢;rw[bq,List.foldl_cons];exact YZ hd hn l x _ _ (YX (sF hd a) (sF hn x) h) h0
theorem b1x (d n:Int):∀(l:List Int) (a:Int) (k:Nat),cf (bq d n a l) k=d*(if k=0 then a else cf l (k-1))-n*cf l k
 |[],a,0=>by rw[bq,if_pos rfl,gu];show d*a=_;omega
 |[],a,k+1=>by rw[bq,if_neg (by omega),gu,gu];show cf [] k=_;rw[gu];omega
 |x::l,a,0=>by rw[bq,if_pos rfl];rfl
 |x::l,a,k+1=>by
  rw[bq,if_neg (by omega),Nat.add_sub_cancel];show cf (bq d n x l) k=d*cf (x::l) k-n*cf l k;rw[b1x d n l x k];cases k with
  |zero=>rfl
  |succ k=>rw[if_neg (by omega)];rfl
theorem Zn (d n:Int)(h:List Int)(k:Nat):cf (bV [-n,d] h) k=cf (bq d n 0 h) k:=by
 rw[eH,b1x];cases k with
 |zero=>rw[if_pos rfl];show -n*cf h 0+0=_;rw[Int.neg_mul];omega
 |succ k =>
  rw[if_neg (by omega),Nat.add_sub_cancel];show -n*cf h (k+1)+cf (bV [d] h) k=_;rw[eH,Int.neg_mul];cases k with
  |zero=>show _+(d*cf h 0+0)=_;omega
  |succ k=>show _+(d*cf h (k+1)+cf (bV [] h) k)=_;rw[dZ];show _+(d*cf h (k+1)+0)=_;omega
theorem fold_zero:∀(l:List Int) (st:Nat×Int),(∀x∈l,x=0)->l.foldl chs st=st
 |[],_,_=>rfl
 |x::l,st,h=>by
  rw[List.foldl_cons,qP (by rw[h x (by simp)];rfl)];exact fold_zero l st λy hy=>h y (by simp[hy])
theorem IE (q:List Int):chf (aV q)=chf q:=by
 have e:q=aV q++q.drop (tz q):=(List.take_append_drop (tz q) q).symm;have:chf q=chf (aV q++q.drop (tz q)):=by rw[<-e]
 rw[this];show _=List.foldl chs (0,0) (aV q++q.drop (tz q));rw[List.foldl_append,fold_zero (q.drop (tz q))]
 .rfl
 .intro x hx;obtain⟨i,hi,rfl⟩:=List.getElem_of_mem hx;rw[List.getElem_drop];rw[List.length_drop]at hi;have:=bW q (k:=tz q+i) (by omega);rwa [cf,List.getD,List.getElem?_eq_getElem (by omega),Option.getD_some]at this
theorem Dz {p q:List Int}(h:∀k,cf p k=cf q k):chf p=chf q:=by rw[<-IE p,<-IE q,kQ h]
theorem Bc (st:Nat×Int)(x:Int)(l:List Int):(x::l).foldl chs st=l.foldl chs (chs st x):=rfl
theorem a3e:∀(n:Nat) (q:List Int),q.length=n->cf q (n-1)≠0->n≠0->(chf q).2=(cf q (n-1)).sign:=λn q hl h hn=>by
 have e:=Ba (l:=q) (i:=n-1) (by omega);rw[List.take_of_length_le (by omega)]at e;rw[e,Dy,if_neg]
 .rfl
 .exact λh0=>h (Int.sign_eq_zero_iff_zero.mp h0)
theorem Zh {q:List Int}(h:tz q≠0):(chf q).2=(lc q).sign/\(chf q).2≠0:=by
 have hz:cf (aV q) (tz q-1)≠0:=by
  rw[bH];intro e;have:=iC (q:=q) (n:=tz q-1) λk hk=>by
   by_cases h2:k=tz q-1
   .rw[h2];exact e
   .exact bW q (by omega)
  omega
 have:=a3e (tz q) (aV q) (bI q) hz h;rw[IE,bH]at this;refine⟨this,?_⟩;rw[this];rw[bH]at hz;exact λe=>hz (Int.sign_eq_zero_iff_zero.mp e)
theorem a3b {d n:Int}(hd:0<d)(hn:0<n){h q:List Int}(h0:tz h≠0)(e:∀k,cf q k=cf (bV [-n,d] h) k):chg h+1<=chg q:=by
 have e2:chf q=chf (bq d n 0 h):=Dz λk=>by rw[e,Zn]
 have:=YZ hd hn h 0 (0,0) (0,0) (.inl ⟨rfl,rfl,rfl,rfl,rfl⟩) (Zh h0).2;unfold chg;rw[e2];exact this
def DV (q:List Int)(m:Nat)(c:Int):Prop:=(∀j,j<m->cf q j=0)/\cf q m=c/\c≠0
theorem QC (f:Int)(hf:f=1\/f = -1):∀(l:List Int) (st:Nat×Int),(st.2=1\/st.2 = -1)->(st.1%2=0↔st.2=f)->((l.foldl chs st).1%2=0↔(l.foldl chs st).2=f)
 |[],st,_,h=>h
 |x::l,st,h1,h2=>by
  rw[List.foldl_cons];refine QC f hf l _ ?_ ?_
  .rw[Dy];rcases dD x with ⟨_,e⟩|⟨_,e⟩|⟨_,e⟩<;>rw[e]<;>simp<;>omega
  .rw[Dy,OH];generalize st.1=n at *;generalize st.2=s at *;rcases dD x with ⟨_,e⟩|⟨_,e⟩|⟨_,e⟩<;>rw[e]<;>rcases h1 with rfl|rfl<;>rcases hf with rfl|rfl<;>simp at *<;>omega
theorem Y1 {q:List Int}{m:Nat}{c:Int}(h:DV q m c):chf q=(q.drop (m+1)).foldl chs (0,c.sign):=by
 have hm:m<q.length:=by
  by_cases e:m<q.length
  .exact e
  .exact absurd (jK (q:=q) (k:=m) (by omega)) (by rw[h.2.1];exact h.2.2)
 have e1:chf (q.take m)=(0,0):=fold_zero _ _ λx hx=>by
  obtain⟨i,hi,rfl⟩:=List.getElem_of_mem hx;rw[List.length_take]at hi;rw[List.getElem_take];have:=h.1 i (by omega);rwa [cf,List.getD,List.getElem?_eq_getElem (by omega),Option.getD_some]at this
 have e2:=Ba hm;rw[e1,show q.getD m 0=c from h.2.1]at e2;have e3:q=q.take (m+1)++q.drop (m+1):=(List.take_append_drop _ _).symm;have:chf q=chf (q.take (m+1)++q.drop (m+1)):=by rw[<-e3]
 rw[this,chf,List.foldl_append];show List.foldl chs (chf (q.take (m+1))) _=_;rw[e2,kP (λe=>h.2.2 (Int.sign_eq_zero_iff_zero.mp e)) (λe=>e.1 rfl)]
theorem Gq {c:Int}(h:c≠0):c.sign=1\/c.sign = -1:=by
 rcases dD c with ⟨_,e⟩|⟨e,_⟩|⟨_,e⟩
 .exact .inr e
 .exact absurd e h
 .exact .inl e
theorem a8h {q:List Int}{m:Nat}{c:Int}(h:DV q m c)(h0:tz q≠0):chg q%2=0↔(lc q).sign=c.sign:=by
 have e:=Y1 h;have:=QC c.sign (Gq h.2.2) (q.drop (m+1)) (0,c.sign) (Gq h.2.2) (by simp);rw[<-e,(Zh h0).1]at this;exact this
theorem b2f (k:Nat):((-1:Int)^k=1\/(-1:Int)^k = -1)/\(-1:Int)^(k+1) = -(-1:Int)^k:=by
 have h2:(-1:Int)^(k+1) = -(-1:Int)^k:=by rw[Int.pow_succ];omega
 refine⟨?_,h2⟩;clear h2
 induction k with
 |zero=>exact .inl (Int.pow_zero _)
 |succ k ih =>
  rw[Int.pow_succ];rcases ih with e|e<;>rw[e]
  .exact .inr rfl
  .exact .inl rfl
theorem GZ {q:List Int}{m:Nat}(h:∀j,j<m->cf q j=0):∀(F:List Int) (j:Nat),j<m->cf (bV F q) j=0
 |[],j,_=>by rw[dZ];rfl
 |x::F,j,hj=>by
  rw[eH,h j hj,Int.mul_zero];cases j with
  |zero=>rfl
  |succ j=>show 0+cf (bV F q) j=0;rw[GZ h F j (by omega)];rfl
theorem AA {q:List Int}{m:Nat}{c:Int}(h:DV q m c):∀(F:List Int) (i:Nat) (a:Int),DV F i a->DV (bV F q) (i+m) (a*c)
 |[],i,a,hF=>absurd hF.2.1 (by rw[gu];exact λe=>hF.2.2 e.symm)
 |x::F,0,a,hF=>by
  have ha:x=a:=hF.2.1;subst ha;refine⟨λj hj=>GZ h.1 _ j (by omega),?_,Int.mul_ne_zero hF.2.2 h.2.2⟩;rw[Nat.zero_add,eH,h.2.1];cases m with
  |zero=>show x*c+0=_;omega
  |succ m=>show x*c+cf (bV F q) m=_;rw[GZ h.1 F m (by omega)];omega
 |x::F,i+1,a,hF=>by
  have hx:x=0:=hF.1 0 (by omega);have ih:=AA h F i a ⟨λj hj=>hF.1 (j+1) (by omega),hF.2.1,hF.2.2⟩;have e:∀k,cf (bV (x::F) q) (k+1)=cf (bV F q) k:=λk=>by
   rw[eH,hx,Int.zero_mul,Int.zero_add];rfl
  have e0:cf (bV (x::F) q) 0=0:=by rw[eH,hx,Int.zero_mul];rfl
  refine⟨λj hj=>?_,?_,ih.2.2⟩
  .cases j with
   |zero=>exact e0
   |succ j=>rw[e];exact ih.1 j (by omega)
  .rw[show i+1+m=(i+m)+1 by omega,e];exact ih.2.1
theorem Jw {q:List Int}{m:Nat}{c:Int}(h:DV q m c):tz q≠0:=λe=>h.2.2 (by rw[<-h.2.1];exact bf.mp e m)
def rf (r:Int×Int):List Int:=[-r.1,r.2]
def dI (A:List (Int×Int))(g:List Int):List Int:=A.foldr (λr h=>bV (rf r) h) g
theorem dw (r:Int×Int)(A:List (Int×Int))(g:List Int):dI (r::A) g=bV (rf r) (dI A g):=rfl
theorem a0I {r:Int×Int}(h:0<r.2):tz (rf r)=2/\lc (rf r)=r.2:=by
 have h1:cf (rf r) 1=r.2:=rfl;have h2:=vF (q:=rf r) (n:=1) (by rw[h1];omega) λk hk=>jK (by show 2<=k;omega)
 exact⟨h2,by unfold lc;rw[h2];rfl⟩
theorem b0z {r:Int×Int}(h:0<r.2):(r.1=0->DV (rf r) 1 r.2)/\(r.1≠0->DV (rf r) 0 (-r.1)) :=
 ⟨λe=>⟨λj hj=>by obtain rfl:j=0:=(by omega);show -r.1=0;omega,rfl,by omega⟩,λe=>⟨λj hj=>by omega,rfl,by omega⟩⟩
theorem wR {g:List Int}(hg:tz g≠0):∀A:List (Int×Int),(∀r∈A,0<r.2)->tz (dI A g)=A.length+tz g/\lc (dI A g)≠0/\(lc (dI A g)).sign=(lc g).sign
 |[],_=>by
  have h1:=(Zh hg);refine⟨by show tz g=0+tz g;omega,λe=>h1.2 (by rw[h1.1];rw[show lc (dI [] g)=lc g from rfl]at e;rw[e];rfl),rfl⟩
 |r::A,h=>by
  obtain⟨i1,i2,i3⟩:=wR hg A λx hx=>h x (by simp[hx])
  obtain⟨t1,t2⟩:=a0I (h r (by simp));have hr:=h r (by simp);rw[dw];have hl:=O5 (P:=rf r) (Q:=dI A g) (by rw[t2];omega) i2;refine⟨by rw[gJ (by omega) (by omega),t1,i1,List.length_cons];omega,by rw[hl,t2];exact Int.mul_ne_zero (by omega) i2,?_⟩;rw[hl,t2,Int.sign_mul,Int.sign_eq_one_of_pos hr,Int.one_mul,i3]
def npos (A:List (Int×Int)):Nat:=A.countP λr=>decide (0<r.1)
def b1Y (A:List (Int×Int)):Nat:=A.countP λr=>decide (r.1=0)
theorem Kz (r:Int×Int)(A:List (Int×Int)):npos (r::A)=npos A+if 0<r.1 then 1 else 0:=by simp[npos,List.countP_cons]
theorem Xz (r:Int×Int)(A:List (Int×Int)):b1Y (r::A)=b1Y A+if r.1=0 then 1 else 0:=by simp[b1Y,List.countP_cons]
theorem JL {g:List Int}{c:Int}(hg:DV g 0 c):∀A:List (Int×Int),(∀r∈A,0<r.2)->∃e,DV (dI A g) (b1Y A) e/\e.sign=c.sign*(-1)^npos A
 |[],_=>⟨c,hg,by show _=_*(-1:Int)^0;rw[Int.pow_zero,Int.mul_one]⟩
 |r::A,h=>by
  obtain⟨e,i1,i2⟩:=JL hg A λx hx=>h x (by simp[hx])
  have hr:=h r (by simp);obtain⟨l1,l2⟩:=b0z hr;rw[dw,Xz,Kz];by_cases h0:r.1=0
  .refine⟨r.2*e,?_,?_⟩
   .rw[if_pos h0,Nat.add_comm];exact AA i1 _ 1 r.2 (l1 h0)
   .rw[if_neg (by omega),Int.sign_mul,Int.sign_eq_one_of_pos hr,Int.one_mul,i2,Nat.add_zero]
  .refine⟨-r.1*e,?_,?_⟩
   .rw[if_neg h0,Nat.add_zero];have:=AA i1 _ 0 (-r.1) (l2 h0);rwa [Nat.zero_add]at this
   .rw[Int.sign_mul,Int.sign_neg,i2];by_cases hp:0<r.1
    .rw[if_pos hp,Int.sign_eq_one_of_pos hp,(b2f _).2,Int.mul_neg,Int.neg_mul,Int.one_mul]
    .rw[if_neg hp,Int.sign_eq_neg_one_of_neg (by omega),Nat.add_zero,Int.neg_neg,Int.one_mul]
theorem OI:∀(A:List (Int×Int)) (g q:List Int),(∀r∈A,0<r.2)->tz g≠0->ps q=ps (dI A g)->npos A<=chg q
 |[],_,_,_,_,_=>Nat.zero_le _
 |r::A,g,q,h,hg,e=>by
  have hA:∀x∈A,0<x.2:=λx hx=>h x (by simp[hx])
  have hr:=h r (by simp);rw[Kz];by_cases hp:0<r.1
  .rw[if_pos hp];have ih:=OI A g (dI A g) hA hg rfl;have:=a3b hr hp (h:=dI A g) (q:=q) (by have:=(wR hg A hA).1;omega) (jc e);omega
  .rw[if_neg hp,Nat.add_zero];have hg':tz (bV (rf r) g)≠0:=by rw[gJ (by rw[(a0I hr).1];omega) hg,(a0I hr).1];omega
   refine OI A (bV (rf r) g) q hA hg' (e.trans ?_);have:∀(B:List (Int×Int)) (u v:List Int),ps (dI B (bV u v))=ps u*ps (dI B v):=λB u v=>by
    induction B with
    |nil=>show ps (bV u v)=_;rw[aX];rfl
    |cons b B ih=>rw[dw,dw,aX,aX,ih,<-PS.mul_assoc,PS.mul_comm (ps (rf b)),PS.mul_assoc]
   rw[this,dw,aX]
structure GL (g:List Int):Prop where
 l:∃c,DV g 0 c/\(lc g).sign=c.sign
theorem GL.tz {g:List Int}(h:GL g):tz g≠0:=by
 obtain⟨c,h1,_⟩:=h.l;exact Jw h1
theorem a6J (n:Nat):(-1:Int)^n=1↔n%2=0:=by
 induction n with
 |zero=>simp
 |succ n ih =>
  rw[(b2f n).2];rcases (b2f n).1 with e|e
  .rw[e]at ih ⊢;simp at ih ⊢;omega
  .rw[e]at ih ⊢;simp at ih ⊢;omega
theorem a3c {A:List (Int×Int)}{g q:List Int}(hA:∀r∈A,0<r.2)(hg:GL g)(e:ps q=ps (dI A g)):chg q%2=npos A%2:=by
 obtain⟨c,h1,h2⟩:=hg.l;obtain⟨x,x1,x2⟩:=JL h1 A hA;obtain⟨t1,t2,t3⟩:=wR hg.tz A hA;have hp:=a8h x1 (Jw x1);have ec:chg (dI A g)=chg q:=by unfold chg;rw[Dz (jc e)]
 rw[ec,t3,h2,x2]at hp;have hc:=Gq h1.2.2;have hpp:=a6J (npos A);rcases (b2f (npos A)).1 with e1|e1<;>rw[e1]at hp hpp<;>rcases hc with e2|e2<;>rw[e2]at hp<;>simp at hp hpp<;>omega
theorem a7w {g l:List Int}(h:GL g)(ho:tz g%2=1)(h0:0<cf l 0)(h3:tz l=3)(h2:0<cf l 2):GL (bV g l)/\tz (bV g l)=tz g+2:=by
 have l3:lc l=cf l 2:=by unfold lc;rw[h3]
 obtain⟨a,l1,l2⟩:=h.l;have hn:lc g≠0:=λe=>(Gq l1.2.2).elim (λx=>by rw[e]at l2;rw[<-l2]at x;exact absurd x (by decide)) (λx=>by rw[e]at l2;rw[<-l2]at x;exact absurd x (by decide))
 have low:=AA l1 l 0 (cf l 0) ⟨λj hj=>by omega,rfl,by omega⟩;have lcm:=O5 (P:=g) (Q:=l) hn (by rw[l3];omega);have tzm:=gJ (p:=g) (q:=l) h.tz (by omega);refine⟨⟨cf l 0*a,⟨λj hj=>by omega,by rw[x9];exact low.2.1,low.2.2⟩,?_⟩,by omega⟩;rw[lcm,l3,Int.sign_mul,Int.sign_mul,Int.sign_eq_one_of_pos h0,Int.sign_eq_one_of_pos h2,l2,Int.one_mul,Int.mul_one]
def hom:List Int->PS->PS->PS
 |[],_,_=>0
 |c::p,f,g=>PS.C c*PS.pw g p.length+f*hom p f g
theorem X7 (n:Nat):PS.pw 1 n=1:=by
 induction n with
 |zero=>rfl
 |succ n ih=>rw[PS.pw,ih,PS.mul_one]
def cmp (p:List Int)(f:PS):PS:=hom p f 1
theorem Zd (f:PS):cmp [] f=0:=rfl
theorem Iz (c:Int)(p:List Int)(f:PS):cmp (c::p) f=PS.C c+f*cmp p f:=by
 simp only[cmp,hom,X7,PS.mul_one]
theorem RY {p:List Int}(f:PS)(h:∀k,cf p k=0):cmp p f=0:=by
 induction p with
 |nil=>rfl
 |cons c p ih =>
  have h0:=h 0;rw[Iz,ih (λk=>by have:=h (k+1);simpa [cf] using this),show c=0 by simpa [cf] using h0,PS.a5v,PS.mul_zero,PS.add_zero]
theorem a8f {p q:List Int}(f:PS)(h:∀k,cf p k=cf q k):cmp p f=cmp q f:=by
 induction p generalizing q with
 |nil=>rw[Zd,RY f (λk=>(h k).symm.trans (gu k))]
 |cons c p ih =>
  cases q with
  |nil=>rw[Zd,RY f (λk=>(h k).trans (gu k))]
  |cons d q =>
   have h0:=h 0;rw[Iz,Iz,ih (λk=>by have:=h (k+1);simpa [cf] using this),show c=d by simpa [cf] using h0]
theorem a5d {p q:List Int}(f:PS)(h:ps p=ps q):cmp p f=cmp q f:=a8f f (jc h)
def kS:List Int->List Int->List Int->List Int
 |[],_,_=>[]
 |c::p,f,g=>ji (aY c (wY g p.length)) (bV f (kS p f g))
theorem vJ (p f g:List Int):ps (kS p f g)=hom p (ps f) (ps g):=by
 induction p with
 |nil=>rw[kS,hom,EM]
 |cons c p ih=>rw[kS,hom,gq,bg,jR,aX,ih]
theorem GI {N K:Nat}{f g:List Int}(hf:PB N K f)(hg:PB N K g)(hN:N<2^20):∀{p:List Int} {m:Nat},m<2^20->PB m K p->PB (p.length*N+1) (p.length*(K+2)+K+3) (kS p f g)
 |[],_,_,_=>⟨by simp[kS],λz hz=>by simp[kS]at hz⟩
 |c::p,m,hm,hp=>by
  have h1:PB m K p:=⟨by have:=hp.1;simp at this;omega,λz hz=>hp.2 z (List.mem_cons_of_mem _ hz)⟩;have ih:=GI hf hg hN hm h1;have hc:=hp.2 c (by simp);have hpl:p.length<=2^20:=by have:=hp.1;simp at this;omega
  have hW:∀x,x<2^60->x<W:=λx hx=>by simp only[W];omega
  have q:=(hg.wY (hW N (by omega)) p.length).aY (c:=c);have r:=hf.bV ih (hW N (by omega));have e1:(p.length+1)*N=p.length*N+N:=Nat.succ_mul _ _;have e2:(p.length+1)*(K+2)=p.length*(K+2)+(K+2):=Nat.succ_mul _ _;have e3:p.length*(K+2)=p.length*(K+1)+p.length:=by rw[show K+2=K+1+1 from rfl,Nat.mul_succ]
  have hlen:(c::p).length=p.length+1:=rfl;rw[hlen,e1,e2];exact(q.ji r).mono (by omega) (by omega)
end Go.Proofs.YtnhghmibjddlkaaGreatDoor

namespace Go.Proofs.YtnhghmibjddlkaaGreatDoor
open Go Go.Proofs Go.AL
open Go.RowKit Go.Shelf
set_option linter.unusedSimpArgs false
set_option linter.unusedVariables false
attribute [local go_sem] Oper.semAt_some
set_option maxRecDepth 100000 in
set_option maxHeartbeats 4000000 in
theorem a8t (F:Fence)(n:Nat)(h7:F.fn 149)(hro:F.round=none)(hn:1<=n)(l Bs Bo b off len cap:Nat)(cell:Nat->Nat->Value)(n0:Nat)(D:Nat->Prop)(hlen:(len:Int)*32<=140737488351232)(J Jx:Nat->World->Prop)(w:World)
  (a9i:Bs<n0) (a9h:¬D Bs) (hb0:b<n0) (hb1:¬D b)
  (hY:∀k W1,k<len->J k W1->YieldAt F (n-1) Tryz.prog l #[.int .i64 ((len:Int)-1-k),.agg #[cell (len-1-k) 0,cell (len-1-k) 1]] W1 λe W'=>(e=.returned (.bool true)/\J (k+1) W'/\Kept D n0 W1 W')\/(e=.returned (.bool false)/\Jx k W'))
  (hw:w.cell? ⟨Bs,Bo,none⟩=some (.slice (some ⟨b,off,none⟩) len cap)) (hc:∀i,i<len->w.cell? ⟨b,off+i*2,none⟩=some (cell i 0)/\w.cell? ⟨b,off+i*2+1,none⟩=some (cell i 1))
  (W:World) (hk:Kept D n0 w W) (h0:J 0 W) :
  CallsIn F n Tryz.prog 149 #[.func (.yield l) #[] #[],.pointer (some ⟨Bs,Bo,none⟩)] W λe W'=>(∃v,e=.returned v)/\(J len W'\/∃k,Jx k W'):=by
 refine callsIn_of_wp Tryz.func149 rfl h7 ?_ hro;simp only[Tryz.ntmps149,List.size_toArray,List.length_cons,List.length_nil,Nat.reduceAdd,Nat.reduceSub,Array.replicate_succ,Array.replicate_zero,List.push_toArray,List.append_toArray,List.nil_append,List.cons_append];have kc:∀{W':World} {g o:Nat} {v:Value},Kept D n0 w W'->g<n0->¬D g->w.cell? ⟨g,o,none⟩=some v->W'.cell? ⟨g,o,none⟩=some v:=λhk hg hD hv=>by
  rw[World.cell?_of_block (hk _ hg hD (cells_of_cell hv))];exact hv
 have hW:=kc hk a9i a9h hw
 gi_wp2
 gi_loopw [3] (λi wr=>∃k:Nat,k<=len/\i=.int .i64 ((len:Int)-1-k)/\J k wr/\Kept D n0 w wr)
  (λi _=>(intOf i+1).toNat)
 case atStart=>exact⟨0,Nat.zero_le _,by congr 1;omega,h0,hk⟩
 case round =>
  obtain⟨k,hkl,rfl,hJs,hnx⟩:=hrel;have hWr:=kc hnx a9i a9h hw;by_cases hlt:k<len
  .obtain⟨fn,tmps,assign,body,hy,hR⟩:=hY k wr hlt hJs;obtain⟨hc0,hc1⟩:=hc (len-1-k) (by omega);have b6a:=kc hnx hb0 hb1 hc0;have b5Z:=kc hnx hb0 hb1 hc1;have hge:(k:Int)<=(len:Int)-1:=by omega
   gi_wp2
   refine hR.mono ?_;rintro e W3 (⟨rfl,hJ3,hk3⟩|⟨rfl,hJx3⟩)
   .gi_wp2
    go_roundw
    case rel=>exact⟨k+1,by omega,by congr 1;omega,hJ3,hnx.trans hk3⟩
    case measure=>simp[intOf];omega
   .gi_wp2
    refine bodyPost_ret (results_none rfl _ _ _) rfl ?_;exact⟨⟨_,rfl⟩,.inr ⟨_,hJx3⟩⟩
  .obtain rfl:k=len:=by omega
   have hge:¬((k:Int)<=(k:Int)-1):=by omega
   gi_wp2
   go_end0
   exact⟨⟨_,rfl⟩,.inl hJs⟩
set_option maxRecDepth 100000 in
set_option maxHeartbeats 1000000 in
theorem DF (F:Fence)(n:Nat)(h7:F.fn 149)(hro:F.round=none)(l Bs Bo:Nat)(a:Option Addr)(cap:Nat)(J:World->Prop)
  (W:World) (hW:W.cell? ⟨Bs,Bo,none⟩=some (.slice a 0 cap)) (h0:J W) :
  CallsIn F n Tryz.prog 149 #[.func (.yield l) #[] #[],.pointer (some ⟨Bs,Bo,none⟩)] W λe W'=>(∃v,e=.returned v)/\J W':=by
 refine callsIn_of_wp Tryz.func149 rfl h7 ?_ hro;simp only[Tryz.ntmps149,List.size_toArray,List.length_cons,List.length_nil,Nat.reduceAdd,Nat.reduceSub,Array.replicate_succ,Array.replicate_zero,List.push_toArray,List.append_toArray,List.nil_append,List.cons_append]
 gi_wp2
 gi_loopw [3] (λi wr=>i=.int .i64 (-1)/\J wr) (λ_ _=>0)
 case atStart=>exact⟨rfl,h0⟩
 case round =>
  obtain⟨rfl,hJs⟩:=hrel
  gi_wp2
  go_end0
  exact⟨⟨_,rfl⟩,hJs⟩
theorem E8:∀args w,(callFunc 149 args).run Tryz.prog w=.ok (.enter 149 args) w:=enters_of Tryz.func149 (by kernel_rfl) rfl
theorem LC {rows:List (List IV)}(h2:∀r∈rows,r.length=2)(hlen:(rows.length:Int)*32<=140737488351232):a3X Tryz.prog 149 [[.sl rows]] 2 rows.length
  (λk=>[ci ((rows.length:Int)-1-k),.agg (rows.getD (rows.length-1-k) [])]):=by
 refine⟨E8,λw D vs hD hb=>?_⟩
 match vs,hb with
 |⟨[v]⟩,hb =>
  obtain⟨⟨Bs,Bo,rfl,hDb,us,hus,hcs⟩,-⟩:=hb
  match us,hus with
  |[u],hus =>
   have hcell:w.cell? ⟨Bs,Bo,none⟩=some u:=by simpa using hcs 0 u rfl
   have a9h:=hDb (by simp);have a9i:=World.block_lt_of_cell? w _ hcell;generalize hx:IV.sl rows=x at hus;cases hus.1 with
   |int=>cases hx
   |bool=>cases hx
   |raw=>cases hx
   |QD=>cases hx
   |own=>cases hx
   |av=>cases hx
   |nil a cap hcap =>
    cases hx;refine⟨λ_=>#[Go.undef,Go.undef],λ_=>rfl,λk hk=>absurd hk (by simp),λl J Jx W hk hs _ _ hY h0=>?_⟩;have hW:W.cell? ⟨Bs,Bo,none⟩=some (.slice a 0 cap):=by
     rw[World.cell?_of_block (hk _ a9i a9h (cells_of_cell hcell))];exact hcell
    exact((DF (Wd none) 0 trivial rfl l Bs Bo a cap (J 0) W hW h0).mono λe W' h=>⟨h.1,.inl h.2⟩)
   |sl rows' g o cap sz cell hsz hle hcap hg hD' hc hr =>
    cases hx;have goW:∀{W:World},Kept D w.heap.size w W->W.cell? ⟨Bs,Bo,none⟩=some (.slice (some ⟨g,o,none⟩) rows.length cap):=λhk=>by
     rw[World.cell?_of_block (hk _ a9i a9h (cells_of_cell hcell))];exact hcell
    by_cases hne:rows=[]
    .subst hne;refine⟨λ_=>#[Go.undef,Go.undef],λ_=>rfl,λk hk=>absurd hk (by simp),λl J Jx W hk hs _ _ hY h0=>?_⟩;exact((DF (Wd none) 0 trivial rfl l Bs Bo _ cap (J 0) W (goW hk) h0).mono λe W' h=>⟨h.1,.inl h.2⟩)
    .obtain⟨r0,hr0⟩:∃r,rows[0]?=some r:=⟨rows[0]'(List.length_pos_iff.2 hne),by simp⟩;obtain rfl:sz=2:=(hsz 0 r0 hr0).symm.trans (h2 r0 (List.mem_of_getElem? hr0));have hro:∀i,i<rows.length->∃x y,rows[i]?=some [x,y]:=λi hi=>by
      have e:rows[i]?=some rows[i]:=by simp[hi]
      have hl:=h2 rows[i] (List.mem_of_getElem? e)
      match hm:rows[i],hl with
      |[x,y],_=>exact⟨x,y,by rw[e,hm]⟩
     refine⟨λk=>#[.int .i64 ((rows.length:Int)-1-k),.agg #[cell (rows.length-1-k) 0,cell (rows.length-1-k) 1]],λ_=>rfl,λk hk=>?_,λl J Jx W hk hs _ _ hY h0=>?_⟩
     .obtain⟨x,y,he⟩:=hro (rows.length-1-k) (by omega);refine⟨Rep.int _ _,⟨_,rfl,?_⟩,trivial⟩;have hg2:rows.getD (rows.length-1-k) []=[x,y]:=by rw[List.getD_eq_getElem?_getD,he];rfl
      rw[hg2];exact⟨hr _ _ he 0 x rfl,hr _ _ he 1 y rfl,trivial⟩
     .have h:=a8t (Wd none) 1 trivial rfl (Nat.le_refl _) l Bs Bo g o rows.length cap cell w.heap.size D hlen J Jx w a9i a9h hg hD' hY hcell (λi hi=>by
       obtain⟨x,y,he⟩:=hro i hi;exact⟨hc _ _ he 0 x rfl,hc _ _ he 1 y rfl⟩) W hk h0
      exact⟨trivial,λcs _=>h.2 cs (WG _ _)⟩
theorem ZE (rows:List (List IV)):AC Tryz.prog 125 [.iv (.sl rows)] none [.fn 149 [[.sl rows]]]:=by
 refine AC.aF (rs:=[.tmp 2]) bM Tryz.func125 (by rfl) (by rfl) (by rfl) (by rfl) (by rfl) ?_;simp (disch:=omega) only[wt,seval,reduceCtorEq,Nat.reduceEqDiff]
end Go.Proofs.YtnhghmibjddlkaaGreatDoor

namespace Go.Proofs.YtnhghmibjddlkaaGreatDoor
open Go Go.Proofs Go.AL
set_option linter.unusedSimpArgs false
set_option linter.unusedVariables false
theorem Kt (p:List RI)(h:RP (2^40) (2^40) p):AC Tryz.prog 44 [cw p] (some (0,29,2,dY (pv p))) [cp (pv p)]:=by
 refine AC.aF (rs:=[.tmp 2]) bM Tryz.func44 (by rfl) (by rfl) (by rfl) (by rfl) (by rfl) ?_;have hl:=h.1;have htl:=oI (pv p);rw[iK]at htl;simp (disch:=omega) only[wt,seval,reduceCtorEq,Nat.reduceEqDiff];refine au ((Gp p h)) (by rfl) (by simp) ?_;simp (disch:=omega) only[wt,seval,reduceCtorEq,Nat.reduceEqDiff];refine uo 3 3 29 2 (by simp (disch:=omega) only[wt,seval,reduceCtorEq,Nat.reduceEqDiff]) (λf H=>∃(k st:Nat),k<=tz (pv p)/\f 0=.iv (.sl (gZ p))/\f 3=.hs 3 st/\f 6=.iv (.int .i64 (tz (pv p)))/\f 7=.iv (.int .i64 k)/\H 3=.blk false st 29 2 (gZ (((aV (pv p)).take k).map canon))) (λf H=>(tz (pv p)-dQ f 7).toNat) ?_ ?_
 .refine⟨0,1,by omega,?_⟩;simp (disch:=omega) only[wt,seval,reduceCtorEq,Nat.reduceEqDiff,nH,nG,List.take_zero]
 rintro f H ⟨k,st,hk,h0,h3,h6,h7,hH⟩;rw[bC h7];simp (disch:=omega) only[wt,seval,reduceCtorEq,Nat.reduceEqDiff,h0,h3,h6,h7,hH];refine bU (λhlt=>?_) (λhlt=>?_)
 .simp (disch:=omega) only[wt,seval,reduceCtorEq,Nat.reduceEqDiff,h0,h3,h6,h7,hH];have hq:(((aV (pv p)).take k).map canon).length=k:=by rw[List.length_map,List.length_take,bI];omega
  refine au ((pX (p.getD k (false,[])) (h.get _))) (by first|rfl|(simp only[aH,bn,aB,aI,aA,Nat.reduceEqDiff,↓reduceIte,h0,h3,h6,h7,hH,hq];rfl)) (by simp) ?_;simp (disch:=omega) only[wt,seval,reduceCtorEq,Nat.reduceEqDiff,h0,h3,h6,h7,hH,hq];refine⟨⟨k+1,st+1,by omega,rfl,by omega,?_⟩,by omega⟩;rw[rW (by omega),rJ]
 .simp (disch:=omega) only[wt,seval,reduceCtorEq,Nat.reduceEqDiff,h0,h3,h6,h7,hH];have hk:k=tz (pv p):=by omega
  rw[hk,List.take_of_length_le (by rw[bI];exact Nat.le_refl _)];rfl
theorem GY (a b:RI)(ha:Sz (2^35) a)(hb:Sz (2^35) b):AC Tryz.prog 100 [cr a,cr b] none [cp [iv b,iv a]]:=by
 refine AC.aF (rs:=[.tmp 4]) bM Tryz.func100 (by rfl) (by rfl) (by rfl) (by rfl) (by rfl) ?_;simp (disch:=omega) only[wt,seval,reduceCtorEq,Nat.reduceEqDiff];have:=gX [b,a] ⟨by simp,λc hc=>by
  rcases List.mem_cons.1 hc with rfl|hc
  .exact hb.mono (by omega)
  .rw[List.mem_singleton.1 hc];exact ha.mono (by omega)⟩
 have e:pv [b,a]=[iv b,iv a]:=rfl;rw[e]at this;refine au (this) (by rfl) (by simp) ?_;simp (disch:=omega) only[wt,seval,reduceCtorEq,Nat.reduceEqDiff]
theorem Lj (q:List Int):∀r∈dY q,r.length=2:=λr hr=>by
 obtain⟨c,_,rfl⟩:=List.mem_map.1 hr;rfl
theorem Fv (q:List Int):(dY q).length=tz q:=by simp[dY,gZ,bI]
theorem Fz (q:List Int){i:Nat}(h:i<tz q):(dY q).getD i []=je (canon (cf q i)):=by
 have hl:i<(aV q).length:=by rw[bI];exact h
 have e:cf q i=(aV q)[i]:=by rw[<-bH];simp[cf,List.getD,hl]
 rw[e];simp[dY,gZ,List.getD,hl]
theorem Fe (q:List Int){i:Nat}(h:i<tz q):(aV q).drop i=cf q i::(aV q).drop (i+1):=by
 have hl:i<(aV q).length:=by rw[bI];exact h
 have e:cf q i=(aV q)[i]:=by rw[<-bH];simp[cf,List.getD,hl]
 rw[e,List.drop_eq_getElem_cons hl]
theorem xC {m:Nat}(h:m<=2^10):m*2^10+1<=2^20+1/\m*(2^20+2)+2^20+3<=2^32:=by
 constructor<;>omega
theorem O1 (p q:List RI)(hp:RP (2^10) (2^20) p)(hq:RP (2^10) (2^20) q):AC Tryz.prog 99 [cw p,cw q] none [cp (kS (aV (pv p)) (pv q) [1])]:=by
 refine AC.aF (rs:=[.tmp 4]) bM Tryz.func99 (by rfl) (by rfl) (by rfl) (by rfl) (by rfl) ?_;simp (disch:=omega) only[wt,seval,reduceCtorEq,Nat.reduceEqDiff];refine au ((gX p (hp.mono (by omega) (by omega)))) (by rfl) (by simp) ?_;simp (disch:=omega) only[wt,seval,reduceCtorEq,Nat.reduceEqDiff];refine au ((ZE (dY (pv p)))) (by rfl) (by simp) ?_;simp (disch:=omega) only[wt,seval,reduceCtorEq,Nat.reduceEqDiff];have hA:=hp.pv.aV;have hlt:tz (pv p)<=2^10:=by rw[<-bI];exact hA.1
 have hdr:∀i,PB (2^10) (2^20) ((aV (pv p)).drop i):=λi=>⟨by rw[List.length_drop];have:=hA.1;omega,λz hz=>hA.2 z (List.mem_of_mem_drop hz)⟩
 have hone:PB (2^10) (2^20) [1]:=.one (by omega) (by omega);have hB:∀i,PB (2^20+1) (2^32) (kS ((aV (pv p)).drop i) (pv q) [1]):=λi=>by
  have h:=GI hq.pv hone (by omega) (by omega) (hdr i);exact h.mono (xC (hdr i).1).1 (xC (hdr i).1).2
 have hcl:=Fv (pv p);refine Qo (l:=[.ip [.sl (dY (pv p))]]) (c:=True/\True) (ms:=[]) (LC (rows:=dY (pv p)) (Lj _) (by omega)) (λk H2=>k<=tz (pv p)/\H2 3=HC.blk false 1 39 1 [[.sl (gZ q)]]/\H2 5=HC.blk false 1 39 1 [[.sl (dY (kS ((aV (pv p)).drop (tz (pv p)-k)) (pv q) [1]))]]) (by simp (disch:=omega) only[wt,seval,reduceCtorEq,Nat.reduceEqDiff]) (by rfl) ⟨trivial,trivial⟩ ?_ ?_ ?_
 .rw[List.drop_of_length_le (by rw[bI];omega)];refine⟨by omega,by simp (disch:=omega) only[wt,seval,reduceCtorEq,Nat.reduceEqDiff],by simp (disch:=omega) only[wt,seval,reduceCtorEq,Nat.reduceEqDiff,show dY (kS [] (pv q) [1])=[] from rfl]⟩
 .rintro k H2 hk ⟨hk',h3,h5⟩;rw[hcl]at hk;rw[hcl,Fz _ (by omega)];simp (disch:=omega) only[wt,seval,reduceCtorEq,Nat.reduceEqDiff,h3,h5];refine .inl ⟨aZ (by kernel_rfl),?_⟩;obtain⟨i,hi⟩:∃i,i=tz (pv p)-1-k:=⟨_,rfl⟩;have hi1:tz (pv p)-k=i+1:=by omega
  have hi2:tz (pv p)-(k+1)=i:=by omega
  have hdi:=Fe (pv p) (i:=i) (by omega);rw[hi1,<-hi];have hBi:=hB (i+1);have eo:=vJ ((aV (pv p)).drop i) (pv q) [1];rw[hdi]at eo;have eo1:=vJ ((aV (pv p)).drop (i+1)) (pv q) [1];generalize kS ((aV (pv p)).drop (i+1)) (pv q) [1]=out at hBi eo1 ⊢;have zc:=hp.pv.cf i;have m:=Qy (a:=cn out) (b:=q) (yM (hBi.mono (by omega) (by omega))) (hq.mono (by omega) (by omega)) (jf out) rfl;refine au (m) (by first|rfl|(simp only[aH,bn,aB,aI,aA,Nat.reduceEqDiff,↓reduceIte,h3,h5];rfl)) (by simp) ?_;simp (disch:=omega) only[wt,seval,reduceCtorEq,Nat.reduceEqDiff,h3,h5];have hm:=hBi.bV hq.pv (by decide);have s:=Xv (a:=cn (bV out (pv q))) (b:=[canon (cf (pv p) i)]) (q:=bV out (pv q)) (r:=[cf (pv p) i]) (yM (hm.mono (by omega) (by omega))) (RP.canon (q:=[cf (pv p) i]) ⟨by simp,λz hz=>by rw[List.mem_singleton.1 hz];omega⟩) (jf _) (by show ps [iv (canon (cf (pv p) i))]=_;rw[aU]);refine au (s) (by first|rfl|(simp only[aH,bn,aB,aI,aA,Nat.reduceEqDiff,↓reduceIte,h3,h5];rfl)) (by simp) ?_;simp (disch:=omega) only[wt,seval,reduceCtorEq,Nat.reduceEqDiff,h3,h5]
  first|exact aN (by kernel_rfl)|refine⟨aN (by kernel_rfl),?_⟩
  refine⟨by omega,?_⟩;rw[hi2];have e:dY (ji (bV out (pv q)) [cf (pv p) i])=dY (kS ((aV (pv p)).drop i) (pv q) [1]):=xW (jc (by
   rw[hdi,eo,gq,aX,eo1,hom,kR,uI,X7,PS.mul_one]
   ac_rfl))
  rw[e]
 .rintro H2 ⟨hk',h3,h5⟩;rw[hcl,Nat.sub_self,List.drop_zero]at h5;simp (disch:=omega) only[wt,seval,reduceCtorEq,Nat.reduceEqDiff,h3,h5];have hB0:=hB 0;rw[List.drop_zero]at hB0;have m:=Xl (a:=cn (kS (aV (pv p)) (pv q) [1])) (yM (hB0.mono (by omega) (by omega))) (jf _);refine au (m) (by first|rfl|(simp only[aH,bn,aB,aI,aA,Nat.reduceEqDiff,↓reduceIte,h3,h5];rfl)) (by simp) ?_;simp (disch:=omega) only[wt,seval,reduceCtorEq,Nat.reduceEqDiff,h3,h5]
theorem Xt {b a:RI}{K:Nat}(hb:Sz K b)(ha:Sz K a):PB (2^10) K [iv b,iv a]:=⟨by simp,λz hz=>by
 rcases List.mem_cons.1 hz with rfl|hz
 .exact rG hb
 .rw[List.mem_singleton.1 hz];exact rG ha⟩
theorem XT {out Q R:PS}{c:Int}{p:List Int}{n:Nat}(hn:p.length=n)(h:out=hom p Q R):out*Q+PS.C c*PS.pw R n=hom (c::p) Q R:=by
 rw[hom,h,hn]
 ac_rfl
theorem NY (p:List RI)(a b c d:RI)(hp:RP (2^10) (2^20) p)(ha:Sz (2^20) a)(hb:Sz (2^20) b)(hc:Sz (2^20) c)(hd:Sz (2^20) d) :
  AC Tryz.prog 129 [cw p,cr a,cr b,cr c,cr d] none [cp (kS (aV (pv p)) [iv b,iv a] [iv d,iv c])]:=by
 refine AC.aF (rs:=[.tmp 10]) bM Tryz.func129 (by rfl) (by rfl) (by rfl) (by rfl) (by rfl) ?_;simp (disch:=omega) only[wt,seval,reduceCtorEq,Nat.reduceEqDiff];refine au ((gX p (hp.mono (by omega) (by omega)))) (by rfl) (by simp) ?_;simp (disch:=omega) only[wt,seval,reduceCtorEq,Nat.reduceEqDiff];refine .inl ⟨aZ (by kernel_rfl),?_⟩;refine au ((GY a b (ha.mono (by omega)) (hb.mono (by omega)))) (by rfl) (by simp) ?_;simp (disch:=omega) only[wt,seval,reduceCtorEq,Nat.reduceEqDiff];refine au ((GY c d (hc.mono (by omega)) (hd.mono (by omega)))) (by rfl) (by simp) ?_;simp (disch:=omega) only[wt,seval,reduceCtorEq,Nat.reduceEqDiff]
 first|exact aN (by kernel_rfl)|refine⟨aN (by kernel_rfl),?_⟩
 refine au ((iJ 1 (by omega) (by omega))) (by rfl) (by simp) ?_;simp (disch:=omega) only[wt,seval,reduceCtorEq,Nat.reduceEqDiff];refine au ((ZE (dY (pv p)))) (by rfl) (by simp) ?_;simp (disch:=omega) only[wt,seval,reduceCtorEq,Nat.reduceEqDiff];have hA:=hp.pv.aV;have hlt:tz (pv p)<=2^10:=by rw[<-bI];exact hA.1
 have hdr:∀i,PB (2^10) (2^20) ((aV (pv p)).drop i):=λi=>⟨by rw[List.length_drop];have:=hA.1;omega,λz hz=>hA.2 z (List.mem_of_mem_drop hz)⟩
 have hQ:=Xt hb ha;have hR:=Xt hd hc;generalize [iv b,iv a]=Q at *;generalize [iv d,iv c]=R at *;have hB:∀i,PB (2^20+1) (2^32) (kS ((aV (pv p)).drop i) Q R):=λi=>by
  have h:=GI hQ hR (by omega) (by omega) (hdr i);exact h.mono (xC (hdr i).1).1 (xC (hdr i).1).2
 have hP:∀k,k<=2^10->PB (2^20+1) (2^32) (wY R k):=λk hk=>by
  exact(hR.wY (by decide) k).mono (by omega) (by omega)
 have hcl:=Fv (pv p);have e0:dY (wY R 0)=[je (canon 1)]:=rfl;refine Qo (l:=[.ip [.sl (dY (pv p))]]) (c:=True/\True) (ms:=[]) (LC (rows:=dY (pv p)) (Lj _) (by omega)) (λk H2=>k<=tz (pv p)/\H2 11=HC.blk false 1 39 1 [[.sl (dY Q)]]/\H2 12=HC.blk false 1 39 1 [[.sl (dY R)]] /\
  H2 13=HC.blk false 1 39 1 [[.sl (dY (kS ((aV (pv p)).drop (tz (pv p)-k)) Q R))]]/\H2 14=HC.blk false 1 39 1 [[.sl (dY (wY R k))]]) (by simp (disch:=omega) only[wt,seval,reduceCtorEq,Nat.reduceEqDiff]) (by rfl) ⟨trivial,trivial⟩ ?_ ?_ ?_
 .rw[List.drop_of_length_le (by rw[bI];omega)];refine⟨by omega,by simp (disch:=omega) only[wt,seval,reduceCtorEq,Nat.reduceEqDiff],by simp (disch:=omega) only[wt,seval,reduceCtorEq,Nat.reduceEqDiff],by simp (disch:=omega) only[wt,seval,reduceCtorEq,Nat.reduceEqDiff,show dY (kS [] Q R)=[] from rfl],by simp (disch:=omega) only[wt,seval,reduceCtorEq,Nat.reduceEqDiff,e0]⟩
 .rintro k H2 hk ⟨hk',h11,h12,h13,h14⟩;rw[hcl]at hk;rw[hcl,Fz _ (by omega)];simp (disch:=omega) only[wt,seval,reduceCtorEq,Nat.reduceEqDiff,h11,h12,h13,h14];refine .inl ⟨aZ (by kernel_rfl),?_⟩;obtain⟨i,hi⟩:∃i,i=tz (pv p)-1-k:=⟨_,rfl⟩;have hi1:tz (pv p)-k=i+1:=by omega
  have hi2:tz (pv p)-(k+1)=i:=by omega
  have hdi:=Fe (pv p) (i:=i) (by omega);rw[hi1,<-hi];rw[hi1]at h13;have hBi:=hB (i+1);have hPk:=hP k (by omega);have eo:=vJ ((aV (pv p)).drop i) Q R;rw[hdi]at eo;have eo1:=vJ ((aV (pv p)).drop (i+1)) Q R;have hlk:((aV (pv p)).drop (i+1)).length=k:=by rw[List.length_drop,bI];omega
  have ep:=jR R k;have ep1:dY (bV (wY R k) R)=dY (wY R (k+1)):=xW (jc (by rw[aX,jR,jR,PS.pw]));generalize wY R k=pw at hPk ep ep1 h14 ⊢;generalize kS ((aV (pv p)).drop (i+1)) Q R=out at hBi eo1 h13 ⊢;have zc:=hp.pv.cf i;have m:=Qy (a:=cn out) (b:=cn Q) (yM (hBi.mono (by omega) (by omega))) (yM (hQ.mono (by omega) (by omega))) (jf out) (jf Q);refine au (m) (by first|rfl|(simp only[aH,bn,aB,aI,aA,Nat.reduceEqDiff,↓reduceIte,h11,h12,h13,h14];rfl)) (by simp) ?_;simp (disch:=omega) only[wt,seval,reduceCtorEq,Nat.reduceEqDiff,h11,h12,h13,h14];have t:=wV (a:=cn pw) (c:=canon (cf (pv p) i)) (yM (hPk.mono (by omega) (by omega))) ((aW _).mono (by omega)) (jf pw);rw[aU]at t;refine au (t) (by first|rfl|(simp only[aH,bn,aB,aI,aA,Nat.reduceEqDiff,↓reduceIte,h11,h12,h13,h14];rfl)) (by simp) ?_;simp (disch:=omega) only[wt,seval,reduceCtorEq,Nat.reduceEqDiff,h11,h12,h13,h14];have hm:=hBi.bV hQ (by decide);have ht:=hPk.aY (c:=cf (pv p) i);have s:=Xv (a:=cn (bV out Q)) (b:=cn (aY (cf (pv p) i) pw)) (yM (hm.mono (by omega) (by omega))) (yM (ht.mono (by omega) (by omega))) (jf _) (jf _);refine au (s) (by first|rfl|(simp only[aH,bn,aB,aI,aA,Nat.reduceEqDiff,↓reduceIte,h11,h12,h13,h14];rfl)) (by simp) ?_;simp (disch:=omega) only[wt,seval,reduceCtorEq,Nat.reduceEqDiff,h11,h12,h13,h14]
  first|exact aN (by kernel_rfl)|refine⟨aN (by kernel_rfl),?_⟩
  have u:=Qy (a:=cn pw) (b:=cn R) (yM (hPk.mono (by omega) (by omega))) (yM (hR.mono (by omega) (by omega))) (jf pw) (jf R);refine au (u) (by first|rfl|(simp only[aH,bn,aB,aI,aA,Nat.reduceEqDiff,↓reduceIte,h11,h12,h13,h14];rfl)) (by simp) ?_;simp (disch:=omega) only[wt,seval,reduceCtorEq,Nat.reduceEqDiff,h11,h12,h13,h14];refine⟨by omega,?_,by rw[ep1]⟩;rw[hi2,xW (jc (p:=ji (bV out Q) (aY (cf (pv p) i) pw)) (q:=kS ((aV (pv p)).drop i) Q R) ?_)];rw[hdi,eo,gq,aX,bg,ep];exact XT hlk eo1
 .rintro H2 ⟨hk',h11,h12,h13,h14⟩;rw[hcl,Nat.sub_self,List.drop_zero]at h13;simp (disch:=omega) only[wt,seval,reduceCtorEq,Nat.reduceEqDiff,h13];have hB0:=hB 0;rw[List.drop_zero]at hB0;have m:=Xl (a:=cn (kS (aV (pv p)) Q R)) (yM (hB0.mono (by omega) (by omega))) (jf _);refine au (m) (by first|rfl|(simp only[aH,bn,aB,aI,aA,Nat.reduceEqDiff,↓reduceIte,h13];rfl)) (by simp) ?_;simp (disch:=omega) only[wt,seval,reduceCtorEq,Nat.reduceEqDiff,h13]
end Go.Proofs.YtnhghmibjddlkaaGreatDoor
