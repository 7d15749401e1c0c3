/-
 Contracts of the functions that the law reaches.
-/
import Derived.Test.YtdpngipofekcfaaGreatL298M
import Derived.Test.YtdpngipofekcfaaGreatAbsS
import Derived.Test.YtdpngipofekcfaaGreatL302M
set_option maxHeartbeats 2000000
namespace Go.Proofs.YtdpngipofekcfaaGreat
open Go Go.Proofs Go.AL
set_option linter.unusedSimpArgs false
set_option linter.unusedVariables false
abbrev RQ:=RI×List Nat
abbrev pW (r:RQ):List IV:=[.bool r.1.1,.sl (dh r.1.2),.sl (dh r.2)]
def dN (l:List RQ):List (List IV):=l.map pW
theorem b1v (c:RI)(x:IV):lay (λi=>[(0,2),(2,1)][i]?) [.bool false,.sl [],.sl []] ([0,1].zip [jy c,[x]])=some ((2=2/\0+2<=3)/\(1=1/\2+1<=3)/\True,[.bool c.1,.sl (dh c.2),x]):=rfl
theorem MC (l:List RQ):(dN l).length=l.length:=by simp[dN]
def Nt (k:Nat)(l:List Nat):Prop:=l.length<=k/\Lim l
def SzQ (k:Nat)(r:RQ):Prop:=Sz k r.1/\Nt k r.2
def YS (p:List RQ):Prop:=p.length<=9223372036854775807/\∀c∈p,SzQ 9223372036854775807 c
theorem a0u {P:Program}{w:World}{t:TypeId}(h:Reads P w (λc:(RI×(List Nat×Unit))=>jy c.1++([.sl (dh c.2.1)]++[])) (λc=>Sz 9223372036854775807 c.1/\(Nt 9223372036854775807 c.2.1/\True)) t):Reads P w pW (SzQ 9223372036854775807) t:=λenc sp held fuel cs x hx=>by
 obtain⟨a,f,e⟩:=h enc sp held fuel cs x hx;exact⟨(a.1,a.2.1),⟨f.1,f.2.1⟩,e⟩
section
variable {n:Int} {d:Nat}
def rq (n:Int)(d:Nat):RQ:=(canon (n/(Nat.gcd n.natAbs d:Nat)),wd (d/Nat.gcd n.natAbs d))
theorem a2F (hd:0<d):0<Nat.gcd n.natAbs d:=zdc _ hd
theorem a5i (hd:0<d):∃(g:Nat) (a:Int) (b:Nat),0<g/\0<b/\n=a*g/\d=b*g/\Nat.gcd a.natAbs b=1/\rq n d=(canon a,wd b):=by
 have hg:=a2F (n:=n) hd;obtain⟨g,hgd⟩:∃g,g=Nat.gcd n.natAbs d:=⟨_,rfl⟩;have h1:g∣n.natAbs:=by rw[hgd];exact zcz _ _
 have h2:g∣d:=by rw[hgd];exact zdN _ _
 rw[<-hgd]at hg;obtain⟨b,hb⟩:=h2;obtain⟨a,ha⟩:(g:Int)∣n:=zcG.mpr h1;have hg':(g:Int)≠0:=by omega
 have hb0:0<b:=zcY λe=>by rw[e,zcd]at hb;omega
 refine⟨g,a,b,hg,hb0,by rw[ha,zcR],by rw[hb,zaA],?_,?_⟩
 .have e:Nat.gcd n.natAbs d=g*Nat.gcd a.natAbs b:=by rw[ha,hb,zcc,zbi,Nat.gcd_mul_left]
  rw[<-hgd]at e;exact zcJ hg (by rw[<-e,zcU])
 .unfold rq;rw[<-hgd];rw[ha,hb,zbW _ hg',zdX _ hg]
theorem b6K {K L:Nat}(hd:0<d)(hn:zl n<=K)(hl:(wd d).length<=L):Sz K (rq n d).1/\Nt L (rq n d).2:=by
 obtain⟨g,a,b,hg,hb,rfl,rfl,hc,e⟩:=a5i (n:=n) hd;rw[e];refine⟨⟨?_,bg _⟩,?_,bg _⟩
 .refine zad ?_ hn;show zl a<=zl (a*g);refine sH.mpr (za3 ?_ (sH.mp (zab (zl (a*g)))));rw[zcc,zbi];exact zcW _ hg
 .refine zad ?_ hl;refine bH.mpr (za3 ?_ (bH.mp (zab (wd (b*g)).length)));exact zcW _ hg
end
section
variable {n:Int} {d k:Nat}
def qv (r:RQ):Rat:=mkRat (iv r.1) (nv r.2)
def aN (q:Rat):RQ:=(canon q.num,wd q.den)
theorem LW (hd:d≠0):rq n d=aN (mkRat n d):=by
 have:mkRat n d=Rat.normalize n d hd:=Rat.mkRat_def n d |>.trans (by rw[dif_neg hd])
 rw[this,Rat.normalize_eq hd];rfl
theorem eF (q:Rat):qv (aN q)=q:=by
 unfold qv aN;rw[aS,bJ];exact zcT q
theorem a7l (q:Rat):nv (aN q).2≠0:=by
 show nv (wd q.den)≠0;rw[bJ];exact q.den_nz
def qz (q:Rat):Nat:=max (zl q.num) (wd q.den).length
theorem a9X (q:Rat):SzQ (qz q) (aN q):=⟨(aY _).mono (zdO _ _),⟨zdz _ _,bg _⟩⟩
theorem XY (hd:d≠0)(hn:zl n<=k)(h:(wd d).length<=k):qz (mkRat n d)<=k:=by
 have e:=LW (n:=n) hd;have s:=b6K (n:=n) (zcY hd) hn h;rw[e]at s;refine Nat.max_le.2 ⟨?_,s.2.1⟩;have:=oO s.1;rwa [show iv (aN (mkRat n d)).1=(mkRat n d).num from aS _]at this
theorem JV {r:RQ}(h:SzQ k r)(hd:nv r.2≠0):qz (qv r)<=k :=
 XY hd (oO h.1) (zad (iP h.2.2) h.2.1)
theorem fK (a b:Nat):(wd (a*b)).length<=(wd a).length+(wd b).length:=by
 have:=fA (a:Int) (b:Int);unfold zl at this;rwa [zcc,zbi,zbi]at this
theorem wz (d:Nat):zl (d:Int)=(wd d).length:=rfl
theorem a8B (p q:Rat):qz (p+q)<=qz p+qz q+1:=by
 have e:p+q=mkRat (p.num*q.den+q.num*p.den) (p.den*q.den):=by
  rw[<-Rat.mkRat_add_mkRat _ _ p.den_nz q.den_nz,zcT,zcT]
 have h1:=zdO (zl p.num) (wd p.den).length;have h2:=zdz (zl p.num) (wd p.den).length;have h3:=zdO (zl q.num) (wd q.den).length;have h4:=zdz (zl q.num) (wd q.den).length;have m1:=fA p.num (q.den:Int);have m2:=fA q.num (p.den:Int);have m3:=qg (p.num*q.den) (q.num*p.den);have m4:=fK p.den q.den;rw[wz]at m1 m2;rw[e];unfold qz;exact XY (zbN p.den_nz q.den_nz) (by omega) (by omega)
theorem Gw (p q:Rat):qz (p*q)<=qz p+qz q:=by
 have e:p*q=mkRat (p.num*q.num) (p.den*q.den):=by
  rw[<-Rat.mkRat_mul_mkRat,zcT,zcT]
 have h1:=zdO (zl p.num) (wd p.den).length;have h2:=zdz (zl p.num) (wd p.den).length;have h3:=zdO (zl q.num) (wd q.den).length;have h4:=zdz (zl q.num) (wd q.den).length;have m1:=fA p.num q.num;have m4:=fK p.den q.den;rw[e];unfold qz;exact XY (zbN p.den_nz q.den_nz) (by omega) (by omega)
end
def evq:List Rat->Rat->Rat
 |[],_=>0
 |c::p,x=>c+x*evq p x
theorem zy:qz 0=1:=by decide +kernel
theorem OU:qz 1=1:=by decide +kernel
section
variable {q p:List Rat} {k:Nat}
def tzq:List Rat->Nat
 |[]=>0
 |x::xs=>if tzq xs=0 then (if x=0 then 0 else 1) else tzq xs+1
def au (q:List Rat):List Rat:=q.take (tzq q)
def cfq (q:List Rat)(k:Nat):Rat:=q.getD k 0
theorem vP:∀q:List Rat,tzq q<=q.length
 |[]=>zab _
 |x::xs=>by
  have:=vP xs;rw[tzq,zaL];split
  .split<;>omega
  .omega
theorem jD (q:List Rat):(au q).length=tzq q:=by rw[au,zah,zaZ (vP q)]
theorem ig (h:q.length<=k):cfq q k=0:=by simp[cfq,List.getD,zaQ h]
theorem jY (x:Rat)(xs:List Rat):cfq (x::xs) 0=x:=rfl
theorem fQ (x:Rat)(xs:List Rat)(k:Nat):cfq (x::xs) (k+1)=cfq xs k:=rfl
theorem mO (k:Nat):cfq [] k=0:=rfl
theorem oN (h:k<q.length):cfq q k=q[k]:=by simp[cfq,List.getD,h]
theorem oU:∀{q:List Rat} {k:Nat},k<q.length->cfq q k=0->tzq (q.take (k+1))=tzq (q.take k)
 |[],k,h,_=>by simp at h
 |x::xs,0,_,h=>by
  have hx:x=0:=h;simp[tzq,hx]
 |x::xs,k+1,h,h0=>by
  have ih:=oU (q:=xs) (k:=k) (by simpa using h) h0;rw[zaJ,zaJ,tzq,tzq,ih]
theorem zZ:∀{q:List Rat} {k:Nat},k<q.length->cfq q k≠0->tzq (q.take (k+1))=k+1
 |[],k,h,_=>by simp at h
 |x::xs,0,_,h=>by
  have hx:x≠0:=h;simp[tzq,hx]
 |x::xs,k+1,h,h0=>by
  have ih:=zZ (q:=xs) (k:=k) (by simpa using h) h0;rw[zaJ,tzq,ih,zam (by omega)]
theorem dH:∀{q:List Rat},tzq q=0↔∀k,cfq q k=0
 |[]=>by simp[tzq,mO]
 |x::xs=>by
  rw[tzq];constructor
  .intro h k;split at h
   .rename_i h0;split at h
    .rename_i hx;subst hx;cases k with
     |zero=>rfl
     |succ k=>exact dH.mp h0 k
    .omega
   .omega
  .intro h;have h0:tzq xs=0:=dH.mpr λk=>h (k+1)
   have hx:x=0:=h 0;rw[zas h0,zas hx]
theorem CW (x:Rat)(xs:List Rat):au (x::xs)=if tzq xs=0/\x=0 then [] else x::au xs:=by
 unfold au;rw[tzq];by_cases h:tzq xs=0
 .by_cases hx:x=0<;>simp[h,hx]
 .simp[h]
theorem jk:∀{p q:List Rat},(∀k,cfq p k=cfq q k)->au p=au q
 |[],q,h=>by
  have:tzq q=0:=dH.mpr λk=>(h k).symm
  simp[au,this]
 |x::xs,[],h=>by
  have:tzq (x::xs)=0:=dH.mpr λk=>h k
  simp[au,this]
 |x::xs,y::ys,h=>by
  have hx:x=y:=h 0;have ih:=jk (p:=xs) (q:=ys) λk=>h (k+1)
  have ht:tzq xs=0↔tzq ys=0:=by
   rw[dH,dH];exact forall_congr' λk=>by rw[show cfq xs k=cfq ys k from h (k+1)]
  rw[CW,CW,hx,ih];simp only[ht]
theorem dQ:∀(q:List Rat) (k:Nat),cfq (au q) k=cfq q k
 |[],k=>by simp[au]
 |x::xs,k=>by
  rw[CW];split
  .rename_i h;cases k with
   |zero=>simp[mO,jY,h.2]
   |succ k=>rw[fQ,mO];exact(dH.mp h.1 k).symm
  .cases k with
   |zero=>rfl
   |succ k=>rw[fQ,fQ,dQ xs k]
theorem aZ (q:List Rat):au (au q)=au q:=jk (dQ q)
theorem lu (h:∀k,cfq p k=cfq q k):tzq p=tzq q:=by rw[<-jD,<-jD,jk h]
theorem a3q (q:List Rat){k:Nat}(h:tzq q<=k):cfq q k=0:=by
 rw[<-dQ];exact ig (by rw[jD];exact h)
def qvs (p:List RQ):List Rat:=p.map qv
def cqs (q:List Rat):List RQ:=(au q).map aN
theorem rO (p:List RQ):(qvs p).length=p.length:=by simp[qvs]
theorem dG (q:List Rat):qvs (q.map aN)=q:=by
 simp only[qvs,zb2]
 conv=>rhs;rw[<-zeP q]
 exact zbs λz _=>eF z
theorem vC (h:∀k,cfq p k=cfq q k):cqs p=cqs q:=by rw[cqs,cqs,jk h]
end
section
variable {q p p':List Rat} {n:Nat} {g g' f:Nat->Rat}
theorem EP (h:cfq q n≠0)(h0:∀k,n<k->cfq q k=0):tzq q=n+1:=by
 have hn:n<q.length:=by
  rcases zbh n q.length with h'|h'
  .exact h'
  .exact(h (ig h')).elim
 have e:∀k,cfq q k=cfq (q.take (n+1)) k:=by
  intro k;by_cases hk:k<n+1
  .simp[cfq,List.getD,hk]
  .rw[h0 k (by omega),ig (by rw[zah];omega)]
 rw[lu e,zZ hn h]
theorem jd (h:tzq q≠0):cfq q (tzq q-1)≠0:=by
 induction q with
 |nil=>simp[tzq]at h
 |cons x xs ih =>
  rw[tzq]at h ⊢;by_cases h0:tzq xs=0
  .rw[zas h0]at h ⊢;by_cases hx:x=0
   .simp[hx]at h
   .rw[zam hx];exact hx
  .rw[zam h0];have:=ih h0;rw[show tzq xs+1-1=(tzq xs-1)+1 by omega];exact this
theorem yA (q:List Rat){k:Nat}(h:tzq q<=k):cfq q k=0:=a3q q h
def Ja (p q:List Rat):List Rat:=(List.range (max p.length q.length)).map λk=>cfq p k+cfq q k
theorem nZ (p q:List Rat)(k:Nat):cfq (Ja p q) k=cfq p k+cfq q k:=by
 by_cases h:k<max p.length q.length
 .simp only[Ja,cfq,List.getD,zaD,zcN h,zbz,zaE]
 .rw[ig (by simp[Ja];omega),ig (by omega),ig (by omega)];grind
def nG (c:Rat)(p:List Rat):List Rat:=p.map λx=>x*c
theorem iw (c:Rat)(p:List Rat)(k:Nat):cfq (nG c p) k=cfq p k*c:=by
 simp only[nG,cfq,List.getD,zaD];cases p[k]?<;>simp<;>grind
def cvq:List Rat->(Nat->Rat)->Nat->Rat
 |[],_,_=>0
 |x::xs,g,k=>x*g k+match k with|0=>0|k+1=>cvq xs g k
def gJ (p q:List Rat):List Rat:=(List.range (p.length+q.length)).map (cvq p (cfq q))
theorem Np:∀(p:List Rat) (k:Nat),cvq p (cfq []) k=0
 |[],_=>rfl
 |x::xs,0=>by simp[cvq,mO]<;>grind
 |x::xs,k+1=>by simp[cvq,mO,Np xs k]<;>grind
theorem xE:∀(p:List Rat) (k:Nat),(∀j,g j=g' j)->cvq p g k=cvq p g' k
 |[],_,_=>rfl
 |x::xs,k,h=>by
  simp only[cvq,h k];cases k with
  |zero=>rfl
  |succ k=>simp only;rw[xE xs k h]
theorem Xa:∀(p:List Rat) {n k:Nat},(∀j,n<=j->g j=0)->p.length+n<=k+1->cvq p g k=0
 |[],_,_,_,_=>rfl
 |x::xs,n,k,h,hk=>by
  simp only[zaL]at hk;simp only[cvq,h k (by omega),zfy,zfz];cases k with
  |zero=>rfl
  |succ k=>exact Xa xs h (by omega)
theorem fE (p q:List Rat)(k:Nat):cfq (gJ p q) k=cvq p (cfq q) k:=by
 by_cases h:k<p.length+q.length
 .simp only[gJ];rw[cfq,List.getD,zaD,zcN h];rfl
 .rw[ig (by simp[gJ];omega),Xa p (n:=q.length) (λj hj=>ig hj) (by omega)]
theorem mM (h:∀j,cfq p j=cfq p' j):∀k,cvq p g k=cvq p' g k:=by
 induction p generalizing p' with
 |nil =>
  intro k
  induction p' generalizing k with
  |nil=>rfl
  |cons y ys ih =>
   have hy:y=0:=(h 0).symm;simp only[cvq,hy,zbG,zfz];cases k with
   |zero=>rfl
   |succ k=>exact ih (λj=>h (j+1)) k
 |cons x xs ih =>
  intro k;cases p' with
  |nil =>
   have hx:x=0:=h 0;simp only[cvq,hx,zbG,zfz];cases k with
   |zero=>rfl
   |succ k=>exact ih (p':=[]) (λj=>h (j+1)) k
  |cons y ys =>
   have hx:x=y:=h 0;simp only[cvq,hx];cases k with
   |zero=>rfl
   |succ k=>simp only;rw[ih (p':=ys) (λj=>h (j+1)) k]
theorem vk {g:Nat->Rat}:∀(p:List Rat) (i k:Nat),cvq (p.take (i+1)) g k=cvq (p.take i) g k+(if i<=k then cfq p i*g (k-i) else 0)
 |[],i,k=>by simp[cvq,mO]<;>grind
 |x::xs,0,k=>by
  simp only[zaJ,zaj,cvq,jY,zcF,za4,zcm];cases k<;>simp<;>grind
 |x::xs,i+1,k=>by
  simp only[zaJ,cvq,fQ];cases k with
  |zero=>simp<;>grind
  |succ k =>
   have:=vk (g:=g) xs i k;simp only[zaJ]at this ⊢;rw[this];simp only[Nat.add_le_add_iff_right,zeW]
   grind
def lX (g:Nat->Rat):Nat->Rat
 |0=>0
 |k+1=>g k
theorem Us (g h:Nat->Rat):∀(p:List Rat) (k:Nat),cvq p (λj=>g j+h j) k=cvq p g k+cvq p h k
 |[],_=>by simp only[cvq];grind
 |x::xs,0=>by simp only[cvq,Rat.mul_add];grind
 |x::xs,k+1=>by simp only[cvq,Us g h xs k,Rat.mul_add];grind
theorem Xb (c:Rat)(g:Nat->Rat):∀(p:List Rat) (k:Nat),cvq p (λj=>c*g j) k=c*cvq p g k
 |[],_=>by simp[cvq]<;>grind
 |x::xs,0=>by simp only[cvq,zdU];grind
 |x::xs,k+1=>by simp only[cvq,Xb c g xs k,Rat.mul_add];grind
theorem BD (g:Nat->Rat):∀(p:List Rat) (k:Nat),cvq p (lX g) k=lX (cvq p g) k
 |[],0=>rfl
 |[],k+1=>rfl
 |x::xs,0=>by simp[cvq,lX]<;>grind
 |x::xs,1=>by simp[cvq,lX,BD g xs 0]<;>grind
 |x::xs,k+2=>by simp[cvq,lX,BD g xs (k+1)]<;>grind
theorem Qx (x:Rat):∀(q:List Rat) (k:Nat),cvq q (λj=>if j=0 then x else 0) k=cfq q k*x
 |[],k=>by simp[cvq,mO]<;>grind
 |y::ys,0=>by simp[cvq,jY]<;>grind
 |y::ys,k+1=>by simp[cvq,fQ,Qx x ys k]<;>grind
theorem a7s (x:Rat)(xs:List Rat)(j:Nat):cfq (x::xs) j=(if j=0 then x else 0)+lX (cfq xs) j:=by
 cases j<;>simp[jY,fQ,lX]<;>grind
theorem kS (x:Rat)(xs:List Rat)(g:Nat->Rat)(k:Nat):cvq (x::xs) g k=x*g k+lX (cvq xs g) k:=by
 cases k<;>rfl
theorem wS {h:Nat->Rat}(e:∀j,g j=h j)(k:Nat):lX g k=lX h k:=by cases k<;>simp[lX,e]<;>grind
theorem BF:∀(p q:List Rat) (k:Nat),cvq p (cfq q) k=cvq q (cfq p) k
 |[],q,k=>by rw[Np];rfl
 |x::xs,q,k=>by
  rw[kS,xE q k (a7s x xs),Us,Qx,BD,wS (λj=>BF xs q j),ze0]
theorem Nu (x:Rat)(xs q:List Rat)(j:Nat):cfq (gJ (x::xs) q) j=x*cfq q j+lX (cfq (gJ xs q)) j:=by
 rw[fE,kS,wS (λj=>(fE xs q j).symm)]
theorem Qy:∀(p q r:List Rat) (k:Nat),cvq (gJ p q) (cfq r) k=cvq p (cfq (gJ q r)) k
 |[],q,r,k=>by
  rw[mM (p':=[]) (λj=>by rw[fE];rfl)];rfl
 |x::xs,q,r,k=>by
  rw[BF (gJ (x::xs) q) r,xE r k (Nu x xs q),Us,Xb,BD,kS,fE,BF q r]
  congr 1
  exact wS (λj=>by rw[BF,Qy xs q r j]) k
theorem PV (p q:List Rat)(k:Nat):cfq (gJ p q) k=cfq (gJ q p) k:=by rw[fE,fE,BF]
theorem Yn {q':List Rat}(hp:∀k,cfq p k=cfq p' k)(hq:∀k,cfq q k=cfq q' k)(k:Nat):cfq (gJ p q) k=cfq (gJ p' q') k:=by
 rw[fE,fE,mM hp,xE _ k hq]
theorem a3e (hg:∀j,n<j->g j=0):∀(p:List Rat) (m:Nat),(∀j,m<j->cfq p j=0)->cvq p g (m+n)=cfq p m*g n/\∀k,m+n<k->cvq p g k=0
 |[],m,_=>⟨by simp[cvq,mO],λ_ _=>rfl⟩
 |x::xs,0,h=>by
  have h0:∀j,cfq xs j=cfq [] j:=λj=>h (j+1) (by omega)
  have hz:∀k,lX (cvq xs g) k=0:=by
   intro k;cases k with
   |zero=>rfl
   |succ k=>show cvq xs g k=0;rw[mM h0];rfl
  refine⟨?_,λk hk=>?_⟩
  .rw[kS,hz,za9,jY,zdU]
  .rw[kS,hz,hg k (by omega)];grind
 |x::xs,m+1,h=>by
  obtain⟨h1,h2⟩:=a3e hg xs m λj hj=>h (j+1) (by omega)
  refine⟨?_,λk hk=>?_⟩
  .rw[kS,hg _ (by omega),fQ,show m+1+n=(m+n)+1 by omega];show x*0+cvq xs g (m+n)=_;rw[h1];grind
  .cases k with
   |zero=>omega
   |succ k =>
    rw[kS,hg _ (by omega)];show x*0+cvq xs g k=0;rw[h2 k (by omega)];grind
theorem Ls (hp:tzq p≠0)(hq:tzq q≠0):tzq (gJ p q)=tzq p+tzq q-1:=by
 obtain⟨h1,h2⟩:=a3e (g:=cfq q) (n:=tzq q-1) (λj hj=>yA q (by omega)) p (tzq p-1) (λj hj=>yA p (by omega));have:=EP (q:=gJ p q) (n:=tzq p-1+(tzq q-1)) (by
  rw[fE,h1];exact λh=>(zfr.mp h).elim (jd hp) (jd hq)) (λk hk=>by rw[fE];exact h2 k hk)
 omega
theorem uz (h:tzq p=0\/tzq q=0):tzq (gJ p q)=0:=by
 rw[dH];intro k;rcases h with h|h
 .rw[fE,mM (p':=[]) (dH.mp h)];rfl
 .rw[PV,fE,mM (p':=[]) (dH.mp h)];rfl
def MH:Nat->(Nat->Rat)->Rat
 |0,_=>0
 |n+1,f=>MH n f+f n
theorem D7 (h:∀i,i<n->f i=g i):MH n f=MH n g:=by
 induction n with
 |zero=>rfl
 |succ n ih=>rw[MH,MH,ih (λi hi=>h i (by omega)),h n (by omega)]
theorem a5F (n:Nat)(f g:Nat->Rat):MH n (λi=>f i+g i)=MH n f+MH n g:=by
 induction n with
 |zero=>simp only[MH];grind
 |succ n ih=>simp only[MH,ih];grind
theorem Gz (h:∀i,i<n->f i=0):MH n f=0:=by
 induction n with
 |zero=>rfl
 |succ n ih=>rw[MH,ih (λi hi=>h i (by omega)),h n (by omega)];grind
theorem JW (n:Nat)(f:Nat->Rat):MH (n+1) f=f 0+MH n (λi=>f (i+1)):=by
 induction n with
 |zero=>simp only[MH];grind
 |succ n ih=>rw[MH,ih,MH];grind
structure PQ where
 c:Nat->Rat
namespace PQ
theorem ext {f g:PQ}(h:∀k,f.c k=g.c k):f=g:=by
 cases f;cases g;congr;exact funext h
def conv (f g:Nat->Rat)(k:Nat):Rat:=MH (k+1) λi=>f i*g (k-i)
instance:Add PQ:=⟨λf g=>⟨λk=>f.c k+g.c k⟩⟩
instance:Mul PQ:=⟨λf g=>⟨conv f.c g.c⟩⟩
instance:Neg PQ:=⟨λf=>⟨λk=>- f.c k⟩⟩
instance:Sub PQ:=⟨λf g=>⟨λk=>f.c k-g.c k⟩⟩
instance:Zero PQ:=⟨⟨λ_=>0⟩⟩
def C (z:Rat):PQ:=⟨λk=>if k=0 then z else 0⟩
instance:One PQ:=⟨C 1⟩
def X:PQ:=⟨λk=>if k=1 then 1 else 0⟩
theorem vH (f g:PQ)(k:Nat):(f+g).c k=f.c k+g.c k:=rfl
theorem QJ (f g:PQ)(k:Nat):(f-g).c k=f.c k-g.c k:=rfl
theorem J7 (k:Nat):(0:PQ).c k=0:=rfl
theorem c_C (z:Rat)(k:Nat):(C z).c k=if k=0 then z else 0:=rfl
theorem a7y (k:Nat):(1:PQ).c k=if k=0 then 1 else 0:=rfl
theorem rW (f g:PQ)(k:Nat):(f*g).c k=conv f.c g.c k:=rfl
theorem yu:∀(p:List Rat) (g:Nat->Rat) (k:Nat),cvq p g k=conv (cfq p) g k
 |[],g,k=>by simp only[cvq,conv];rw[Gz];intro i _;rw[mO,Rat.zero_mul]
 |x::xs,g,k=>by
  rw[kS,conv,JW];simp only[jY,Nat.sub_zero,fQ]
  congr 1
  cases k with
  |zero=>rfl
  |succ k =>
   show cvq xs g k=_;rw[yu xs g k,conv];exact D7 λi hi=>by congr 2;omega
def cut (n:Nat)(f:Nat->Rat):List Rat:=(List.range n).map f
theorem Nz {i:Nat}(h:i<n):cfq (cut n f) i=f i:=by
 simp[cut,cfq,List.getD,h]<;>grind
theorem nR {f':Nat->Rat}{k:Nat}(hf:∀i,i<=k->f i=f' i)(hg:∀i,i<=k->g i=g' i):conv f g k=conv f' g' k :=
 D7 λi hi=>by rw[hf i (by omega),hg (k-i) (by omega)]
theorem pK (f g:Nat->Rat){n k:Nat}(h:k<n):conv f g k=cfq (gJ (cut n f) (cut n g)) k:=by
 rw[fE,yu];exact nR (λi hi=>(Nz (by omega)).symm) (λi hi=>(Nz (by omega)).symm)
theorem mul_comm (f g:PQ):f*g=g*f:=ext λk=>by
 rw[rW,rW,pK _ _ (zdw k),pK _ _ (zdw k),PV]
theorem mul_assoc (f g h:PQ):f*g*h=f*(g*h):=ext λk=>by
 rw[rW,rW];have e1:conv (f*g).c h.c k=conv (cfq (gJ (cut (k+1) f.c) (cut (k+1) g.c))) (cfq (cut (k+1) h.c)) k :=
  nR (λi hi=>by rw[rW,pK f.c g.c (n:=k+1) (by omega)]) (λi hi=>(Nz (by omega)).symm)
 have e2:conv f.c (g*h).c k=conv (cfq (cut (k+1) f.c)) (cfq (gJ (cut (k+1) g.c) (cut (k+1) h.c))) k :=
  nR (λi hi=>(Nz (by omega)).symm) (λi hi=>by rw[rW,pK g.c h.c (n:=k+1) (by omega)])
 rw[e1,e2,<-yu,<-yu,Qy]
theorem mul_add (f g h:PQ):f*(g+h)=f*g+f*h:=ext λk=>by
 simp only[rW,vH,conv];rw[<-a5F];exact D7 λi _=>Rat.mul_add _ _ _
theorem add_mul (f g h:PQ):(f+g)*h=f*h+g*h:=by rw[mul_comm,mul_add,mul_comm h f,mul_comm h g]
theorem add_comm (f g:PQ):f+g=g+f:=ext λk=>Rat.add_comm _ _
theorem add_assoc (f g h:PQ):f+g+h=f+(g+h):=ext λk=>Rat.add_assoc _ _ _
theorem zero_add (f:PQ):0+f=f:=ext λk=>zfz _
theorem add_zero (f:PQ):f+0=f:=ext λk=>zdU _
theorem gG (z:Rat)(f:PQ)(k:Nat):(C z*f).c k=z*f.c k:=by
 rw[rW,conv,JW,Gz (λi _=>by rw[c_C,zam (by omega),zbG]),zdU,c_C,zas rfl,zcF]
theorem one_mul (f:PQ):1*f=f:=ext λk=>by
 show (C 1*f).c k=_;rw[gG,Rat.one_mul]
theorem zero_mul (f:PQ):0*f=0:=ext λk=>by
 rw[rW,conv,J7,Gz];intro i _;rw[J7,zbG]
theorem qO (a b:Rat):C (a*b)=C a*C b:=ext λk=>by
 rw[gG,c_C,c_C];split<;>simp
theorem Ce:C 1=1:=rfl
instance:Std.Associative (α:=PQ) (· * ·):=⟨mul_assoc⟩
instance:Std.Commutative (α:=PQ) (· * ·):=⟨mul_comm⟩
instance:Std.Associative (α:=PQ) (· + ·):=⟨add_assoc⟩
instance:Std.Commutative (α:=PQ) (· + ·):=⟨add_comm⟩
def D (f:PQ):PQ:=⟨λk=>f.c (k+1)*((k+1:Nat):Rat)⟩
end PQ
def pq (q:List Rat):PQ:=⟨cfq q⟩
theorem qZ (q:List Rat)(k:Nat):(pq q).c k=cfq q k:=rfl
theorem TA (p q:List Rat):pq (Ja p q)=pq p+pq q:=PQ.ext λk=>nZ p q k
theorem eG (p q:List Rat):pq (gJ p q)=pq p*pq q:=PQ.ext λk=>by rw[qZ,fE,PQ.yu];rfl
theorem uN (c:Rat)(p:List Rat):pq (nG c p)=PQ.C c*pq p:=PQ.ext λk=>by rw[PQ.gG,qZ,qZ,iw,ze0]
theorem iJ (p:List Rat):pq (au p)=pq p:=PQ.ext (dQ p)
theorem wW:pq []=0:=PQ.ext λk=>mO k
theorem a8G:pq [1]=1:=PQ.ext λk=>by
 rw[PQ.a7y,qZ];cases k with
 |zero=>rfl
 |succ k=>rw[fQ,mO,zam (by omega)]
def b6P (p:List Rat):Nat->List Rat
 |0=>[1]
 |n+1=>gJ p (b6P p n)
end
abbrev cqq (r:RQ):CV:=.agg (pW r)
abbrev cqz (q:Rat):CV:=cqq (aN q)
abbrev cqw (l:List RQ):CV:=.iv (.sl (dN l))
abbrev cqp (q:List Rat):CV:=cqw (cqs q)
abbrev q0:RQ:=((false,[]),[])
theorem a5z {l:List RQ}{i:Nat}(h:i<l.length):(dN l).getD i []=pW (l.getD i q0):=by simp[dN,List.getD,h]
theorem a0E (p:List RQ):(∀r∈dN p,r.length=3)↔True:=by
 simp only[iff_true];intro r hr;obtain⟨c,_,rfl⟩:=zaw.1 hr;rfl
theorem a0D (p:List RQ)(c:RQ):dN p++[pW c]=dN (p++[c]):=by simp[dN]
theorem a5y:dN []=[]:=rfl
theorem a5w (p:List RQ)(i:Nat)(c:RQ):(dN p).set i (pW c)=dN (p.set i c):=by simp[dN,zev]
theorem a0C (p:List RQ)(k:Nat):(dN p).take k=dN (p.take k):=by simp[dN,zcL]
theorem a5x (n:Nat):List.replicate n [IV.bool false,IV.sl [],IV.sl []]=dN (List.replicate n q0):=by rw[dN,zfw];rfl
theorem a0P (r:RQ):List.take 3 (pW r)=pW r:=rfl
theorem Y6 (r:RQ):List.drop 2 (pW r)=[.sl (dh r.2)]:=rfl
theorem Y7 (r:RQ):List.drop 1 (pW r)=[.sl (dh r.1.2),.sl (dh r.2)]:=rfl
theorem Y4 (r:RQ):List.take 2 (pW r)=jy r.1:=rfl
theorem a0Q (r:RQ)(c:RI):splice (pW r) 0 (jy c)=pW (c,r.2):=rfl
theorem a5J (r:RQ):(pW r).length=3:=rfl
theorem Tm (x y z:IV)(r:RQ):splice [x,y,z] 0 (pW r)=pW r:=rfl
theorem a5I (r:RQ):[IV.bool r.1.1,IV.sl (dh r.1.2),IV.sl (dh r.2)]=pW r:=rfl
theorem rqs:(∀l:List RQ,(dN l).length=l.length)/\(∀{l:List RQ} {i:Nat},i<l.length->(dN l).getD i []=pW (l.getD i q0)) /\
  (∀(c:RI) (x:IV),lay (λi=>[(0,2),(2,1)][i]?) [.bool false,.sl [],.sl []] ([0,1].zip [jy c,[x]])=some ((2=2/\0+2<=3)/\(1=1/\2+1<=3)/\True,[.bool c.1,.sl (dh c.2),x])) /\
  (∀r:RQ,List.take 3 (pW r)=pW r)/\(∀r:RQ,(pW r).length=3)/\(∀(x y z:IV) (r:RQ),splice [x,y,z] 0 (pW r)=pW r)/\(∀r:RQ,[IV.bool r.1.1,IV.sl (dh r.1.2),IV.sl (dh r.2)]=pW r) /\
  (∀p:List RQ,(∀r∈dN p,r.length=3)↔True)/\(∀(p:List RQ) (c:RQ),dN p++[pW c]=dN (p++[c]))/\(∀(p:List RQ) (i:Nat) (c:RQ),(dN p).set i (pW c)=dN (p.set i c)) /\
  (∀(p:List RQ) (k:Nat),(dN p).take k=dN (p.take k))/\(∀n:Nat,List.replicate n [IV.bool false,IV.sl [],IV.sl []]=dN (List.replicate n q0))/\(dN []=[]) /\
  (∀r:RQ,List.drop 2 (pW r)=[.sl (dh r.2)])/\(∀r:RQ,List.take 2 (pW r)=jy r.1)/\(∀r:RQ,List.drop 1 (pW r)=[.sl (dh r.1.2),.sl (dh r.2)])/\(∀(r:RQ) (c:RI),splice (pW r) 0 (jy c)=pW (c,r.2)) :=
 ⟨MC,a5z,b1v,a0P,a5J,Tm,a5I,a0E,a0D,a5w,a0C,a5x,a5y,Y6,Y4,Y7,a0Q⟩
theorem b6Q (m:Nat):W^m=2^(64*m):=by rw[zfQ]
theorem b5b {l:List Nat}(h:Lim l){m:Nat}(h0:kV l=m+1):l.getD m 0<W/\m*64+bl (l.getD m 0)=bl (nv l):=by
 have e:(wd (nv l)).length=m+1:=by rw[a9L h,zah,zaZ (wE l),h0]
 have h1:nv l<W^(m+1):=bH.mp (by omega);have h2:W^m<=nv l:=ze6 λh3=>by have:=bH.mpr h3;omega
 have h4:nv l/W^m<W:=by rw[za5 (gB m),zaA,<-za7];exact h1
 have h5:=RY h m;rw[zan h4]at h5;refine⟨by rw[h5];exact h4,?_⟩;rw[h5,b6Q]at *;rw[FI h2];omega
theorem a6C (l:List Nat)(h:Lim l)(hl:l.length<=2^42):AC Tryz.prog 269 [cl l] none [ci (bl (nv l))]:=by
 refine AC.aj (rs:=[.tmp 2]) aV Tryz.func269 (by rfl) (by rfl) (by rfl) (by rfl) (by rfl) ?_;simp only[wt,seval];refine ah ((Vg l (by omega))) (by rfl) (by simp) ?_;simp (disch:=omega) only[wt,seval];have ht:=wE l;refine bf (λh1=>?_) (λh1=>?_)
 .have h2:kV l=0:=by omega
  simp (disch:=omega) only[wt,seval];rw[show nv l=0 from (uy oV l).mpr h2];rfl
 .obtain⟨m,hm⟩:∃m,kV l=m+1:=⟨kV l-1,by omega⟩;obtain⟨h3,h4⟩:=b5b h hm;have e:((m+1:Nat):Int)-1=(m:Int):=by omega
  rw[hm];have hb:bl (l.getD m 0)<=64:=Js.mpr h3;simp (disch:=omega) only[wt,seval,e];refine ah ((Wy (l.getD m 0) h3)) (by rfl) (by simp) ?_;simp (disch:=omega) only[wt,seval];rw[<-h4]
  push_cast
  rfl
theorem Wn (l:List Nat)(h:Lim l)(hl:l.length<=2^42):AC Tryz.prog 216 [cl l] none [ci (bl (nv l))]:=by
 refine AC.aj (rs:=[.tmp 2]) aV Tryz.func216 (by rfl) (by rfl) (by rfl) (by rfl) (by rfl) ?_;simp only[wt,seval];refine ah ((a6C l h hl)) (by rfl) (by simp) ?_;simp (disch:=omega) only[wt,seval]
theorem NI {n:Nat}:bl n=0↔n=0:=by unfold bl;split<;>simp_all
theorem Pg (r:RQ)(h:Nt (2^42) r.2):AC Tryz.prog 134 [cqq r] none [ci (if nv r.2=0 then 1 else 0)]:=by
 refine AC.aj (rs:=[.tmp 2]) aV Tryz.func134 (by rfl) (by rfl) (by rfl) (by rfl) (by rfl) ?_;simp (disch:=omega) only[wt,seval];refine ah ((Wn r.2 h.2 h.1)) (by rfl) (by simp) ?_;simp (disch:=omega) only[wt,seval];refine bf (λh1=>?_) (λh1=>?_)
 .rw[zas (NI.mp (by omega))];simp (disch:=omega) only[wt,seval]
 .rw[zam (λh2=>h1 (by rw[NI.mpr h2];rfl))];simp (disch:=omega) only[wt,seval]
theorem qx (r:RQ)(h:Nt (2^42) r.2)(h0:nv r.2≠0):AC Tryz.prog 134 [cqq r] none [ci 0]:=by
 have:=Pg r h;rwa [zam h0]at this
theorem JY (r:RQ)(h:Nt (2^42) r.2)(h0:nv r.2=0):AC Tryz.prog 134 [cqq r] none [ci 1]:=by
 have:=Pg r h;rwa [zas h0]at this
theorem Tt (l:List RQ)(e:Int)(hl:l.length<=2^40)(h:∀r∈l,Nt (2^42) r.2)(hg:(∀r∈l,nv r.2≠0)->e=0)(hb:(¬∀r∈l,nv r.2≠0)->e=1):AC Tryz.prog 181 [cqw l] none [ci e]:=by
 refine AC.aj (rs:=[.tmp 2]) aV Tryz.func181 (by rfl) (by rfl) (by rfl) (by rfl) (by rfl) ?_;simp (disch:=omega) only[wt,seval,rqs];refine aI (λf H=>∃(i:Nat),i<=l.length/\(∀j,j<i->nv (l.getD j q0).2≠0)/\f 8=.iv (.int .i64 i)/\f 6=.iv (.sl (dN l))/\f 7=.iv (.int .i64 l.length)) (λf H=>(l.length-bC f 8).toNat) ?_ ?_
 .refine⟨0,by omega,λj hj=>by omega,?_⟩;simp only[wt,seval]
 rintro f H ⟨i,hi,hz,hF⟩;rw[aC hF.1];simp (disch:=omega) only[wt,seval,hF];refine bf (λhlt=>?_) (λhlt=>?_)
 .have hlt':i<l.length:=by omega
  have hmem:l.getD i q0∈l:=by rw[List.getD,zaf hlt',zaE];exact zaY hlt'
  simp (disch:=omega) only[wt,seval,rqs,hF];by_cases h0:nv (l.getD i q0).2=0
  .obtain rfl:=hb (λh1=>h1 _ hmem h0);refine ah ((JY (l.getD i q0) (h _ hmem) h0)) (by rfl) (by simp) ?_;simp (disch:=omega) only[wt,seval]
  .have h0':=h0;refine ah ((qx (l.getD i q0) (h _ hmem) h0)) (by rfl) (by simp) ?_;simp (disch:=omega) only[wt,seval,hF];refine⟨⟨i+1,by omega,λj hj=>?_,by omega⟩,by omega⟩;rcases zbh j i with hj'|hj'
   .exact hz j hj'
   .obtain rfl:j=i:=by omega
    exact h0
 .obtain rfl:=hg (λr hr=>by
   obtain⟨j,hj,rfl⟩:=zbE hr;have:=hz j (by omega);rwa [List.getD,zaf hj,zaE]at this)
  simp (disch:=omega) only[wt,seval]
theorem a0c (n:Int)(g:Nat)(h:(g:Int)∣n)(hg:g≠0):sg (decide (n<0)) (n.natAbs/g)=n/g:=by
 obtain⟨k,rfl⟩:=h;have hg':(g:Int)≠0:=by omega
 have hp:(0:Int)<g:=by omega
 rw[zbW _ hg',zcc,zbi,zdX _ (by omega)];unfold sg;by_cases hk:k<0
 .rw[zbn (zen hp hk),zas rfl];omega
 .rw[zaW (by have:=Int.mul_nonneg (a:=(g:Int)) (b:=k) (by omega) (by omega);omega),zam (by decide)];omega
theorem XW (n:RI)(d:List Nat)(hn:Sz (2^38) n)(hd:Nt (2^38) d)(h0:nv d≠0):AC Tryz.prog 82 [cr n,cl d] none [cqz (mkRat (iv n) (nv d))]:=by
 rw[show cqz (mkRat (iv n) (nv d))=cqq (rq (iv n) (nv d)) by rw[LW h0]];have zn:=oO hn;have hgp:0<Nat.gcd (iv n).natAbs (nv d):=zdc _ (by omega);have hgd:(wd (Nat.gcd (iv n).natAbs (nv d))).length<=2^38:=zad (bF (zdx _ (by omega))) (zad (iP hd.2) hd.1);have h1:((Nat.gcd (iv n).natAbs (nv d):Nat):Int)∣iv n:=zcG.mpr (zcz _ _);have i1:=vW n.1 n.2 hn.2 (zad hn.1 (by omega));rw[<-vX]at i1;have g:=Td (wd (iv n).natAbs) d (bg _) hd.2 zn hd.1;rw[bJ]at g;have e1:=D6 (wd (iv n).natAbs) (wd (Nat.gcd (iv n).natAbs (nv d))) (bg _) (bg _) zn hgd (by rw[bJ];omega);rw[bJ,bJ]at e1;have e2:=D6 d (wd (Nat.gcd (iv n).natAbs (nv d))) hd.2 (bg _) hd.1 hgd (by rw[bJ];omega);rw[bJ]at e2;have e3:=vW (decide (iv n<0)) (wd ((iv n).natAbs/Nat.gcd (iv n).natAbs (nv d))) (bg _) (zad (bF (zbO _ _)) (zad zn (by omega)));rw[bJ,a0c _ _ h1 (by omega)]at e3;refine AC.aj (rs:=[.cell 4 32]) aV Tryz.func82 (by rfl) (by rfl) (by rfl) (by rfl) (by rfl) ?_;simp (disch:=omega) only[wt,seval];refine ah (i1) (by rfl) (by simp) ?_;simp (disch:=omega) only[wt,seval];refine ah (g) (by rfl) (by simp) ?_;simp (disch:=omega) only[wt,seval];refine ah (e1) (by rfl) (by simp) ?_;simp (disch:=omega) only[wt,seval];refine ah (e2) (by rfl) (by simp) ?_;simp (disch:=omega) only[wt,seval];refine ah (e3) (by rfl) (by simp) ?_;simp (disch:=omega) only[wt,seval,rqs];rfl
section
variable {r:RQ} {j k:Nat}
theorem Y1 (r:RQ):qv r=(iv r.1:Rat)/(nv r.2:Rat):=zcj _ _
theorem a8Y {s:RQ}(hr:nv r.2≠0)(hs:nv s.2≠0):mkRat (iv r.1*nv s.2+iv s.1*nv r.2) (nv r.2*nv s.2)=qv r+qv s:=(Rat.mkRat_add_mkRat _ _ hr hs).symm
theorem a8W (r s:RQ):mkRat (iv r.1*iv s.1) (nv r.2*nv s.2)=qv r*qv s:=(Rat.mkRat_mul_mkRat _ _ _ _).symm
theorem Ig (q:Rat):iv (aN q).1=q.num:=aS _
theorem cZ (q:Rat):nv (aN q).2≠0:=a7l q
theorem SzQ.mono (h:SzQ j r)(hk:j<=k):SzQ k r:=⟨h.1.mono hk,zad h.2.1 hk,h.2.2⟩
theorem cO {q:Rat}(h:qz q<=k):SzQ k (aN q):=(a9X q).mono h
theorem a4t (s:Bool)(l:List Nat)(h:Lim l)(hl:l.length<=2^40):AC Tryz.prog 100 [cb s,cl l] none [cz (sg s (nv l))]:=by
 refine AC.aj (rs:=[.cell 4 30]) aV Tryz.func100 (by rfl) (by rfl) (by rfl) (by rfl) (by rfl) ?_;simp (disch:=omega) only[wt,seval];have m:=EO (s,l) ⟨hl,h⟩;rw[vX]at m;refine ah (m) (by rfl) (by simp) ?_;simp (disch:=omega) only[wt,seval]
theorem D9 {l:List Nat}(h:Nt k l):zl ((nv l:Nat):Int)<=k:=zad (iP h.2) h.1
theorem sgf (n:Nat):sg false n=(n:Int):=rfl
theorem AA (a:RI)(d:List Nat)(ha:Sz (2^36) a)(hd:Nt (2^36) d):AC Tryz.prog 183 [cr a,cl d] none [cz (iv a*nv d)]:=by
 have m:=a4t false d hd.2 (zad hd.1 (by omega));rw[sgf]at m;have n:=wu a (canon (nv d)) ha ((aY _).mono (D9 hd));rw[aS]at n;refine AC.aj (rs:=[.cell 4 30]) aV Tryz.func183 (by rfl) (by rfl) (by rfl) (by rfl) (by rfl) ?_;simp (disch:=omega) only[wt,seval];refine .inl ⟨aP (by kernel_rfl),?_⟩;refine ah (m) (by rfl) (by simp) ?_;simp only[wt,seval];refine ah (n) (by rfl) (by simp) ?_;simp (disch:=omega) only[wt,seval];exact aX (by kernel_rfl)
 try rfl
theorem zC (a b:RQ)(ha:SzQ (2^36) a)(hb:SzQ (2^36) b)(h0:nv a.2≠0)(h1:nv b.2≠0):AC Tryz.prog 181 [cqw [a,b]] none [ci 0] :=
 Tt [a,b] 0 (by simp) (λr hr=>by
  simp only[zaG,zaT,zco]at hr;rcases hr with rfl|rfl
  .exact⟨zad ha.2.1 (by omega),ha.2.2⟩
  .exact⟨zad hb.2.1 (by omega),hb.2.2⟩) (λ_=>rfl) (λh=>(h λr hr=>by
   simp only[zaG,zaT,zco]at hr;rcases hr with rfl|rfl
   .exact h0
   .exact h1).elim)
theorem MB (a b:RQ):[pW a,pW b]=dN [a,b]:=rfl
theorem yV {a b:Nat}(ha:(wd a).length<=j)(hb:(wd b).length<=k):(wd (a*b)).length<=j+k:=zad (AL.fK a b) (Nat.add_le_add ha hb)
theorem Zg (c:RI)(h:Sz (2^40) c):AC Tryz.prog 185 [cr c] none [cz (-iv c)]:=by
 have e:sg (!c.1) (nv c.2) = -iv c:=by
  rw[vX];unfold sg;cases c.1<;>simp
 have m:=FU (!c.1) (nv c.2);rw[e]at m;have n:=qB c.2 h.2 (zad h.1 (by omega));refine AC.aj (rs:=[.cell 2 30]) aV Tryz.func185 (by rfl) (by rfl) (by rfl) (by rfl) (by rfl) ?_;simp (disch:=omega) only[wt,seval];refine .inl ⟨aP (by kernel_rfl),?_⟩;refine ah (n) (by rfl) (by simp) ?_;simp only[wt,seval];refine ah (m) (by rfl) (by simp) ?_;simp (disch:=omega) only[wt,seval];exact aX (by kernel_rfl)
 try rfl
theorem b1d (c:RI)(x:List Nat):qv (canon (-iv c),x) = -qv (c,x):=by
 unfold qv;rw[aS,Rat.neg_mkRat]
theorem a4v (c:RI)(h:Sz (2^40) c):AC Tryz.prog 192 [cr c] none [cl (wd (iv c).natAbs)]:=by
 have n:=qB c.2 h.2 (zad h.1 (by omega));rw[<-Ii]at n;refine AC.aj (rs:=[.tmp 2]) aV Tryz.func192 (by rfl) (by rfl) (by rfl) (by rfl) (by rfl) ?_;simp (disch:=omega) only[wt,seval];refine ah (n) (by rfl) (by simp) ?_;simp (disch:=omega) only[wt,seval]
theorem a8X {a b:Int}(hb:b≠0):mkRat (if b<0 then -a else a) b.natAbs=(a:Rat)/(b:Rat):=by
 have hr:(b:Rat)≠0:=λh=>hb (Rat.intCast_eq_zero_iff.mp h)
 rw[Rat.mkRat_eq_div];by_cases h:b<0
 .have e:((b.natAbs:Nat):Rat) = -(b:Rat):=by
   rw[<-Rat.intCast_natCast,<-Rat.intCast_neg]
   congr 1
   omega
  rw[if_pos h,e,Rat.intCast_neg]
  grind
 .have e:((b.natAbs:Nat):Rat)=(b:Rat):=by
   rw[<-Rat.intCast_natCast]
   congr 1
   omega
  rw[if_neg h,e]
theorem b3Y {a b:RQ}(h0:nv a.2≠0)(h1:nv b.2≠0)(h2:iv b.1≠0):((iv a.1*nv b.2:Int):Rat)/((iv b.1*nv a.2:Int):Rat)=qv a/qv b:=by
 rw[Y1,Y1,zbw,zbw,zaP,zaP];have e0:(nv a.2:Rat)≠0:=λh=>h0 (zcZ.mp h)
 have e1:(nv b.2:Rat)≠0:=λh=>h1 (zcZ.mp h)
 have e2:(iv b.1:Rat)≠0:=λh=>h2 (zcC.mp h)
 grind
theorem a5G (r:RQ)(h:SzQ (2^38) r)(h0:nv r.2≠0):AC Tryz.prog 137 [cqq r] none [ci (iv r.1).sign,ci 0]:=by
 have c:=qx r ⟨zad h.2.1 (by omega),h.2.2⟩ h0;have m:=uw r.1 (h.1.mono (by omega));refine AC.aj (rs:=[.tmp 2,.tmp 3]) aV Tryz.func137 (by rfl) (by rfl) (by rfl) (by rfl) (by rfl) ?_;simp (disch:=omega) only[wt,seval,rqs];refine ah (c) (by rfl) (by simp) ?_;simp (disch:=omega) only[wt,seval,rqs];refine ah (m) (by rfl) (by simp) ?_;simp (disch:=omega) only[wt,seval]
 try rfl
end
theorem b8E {x:Int}(h:x.natAbs<W):zl x<=1:=sH.mpr (by rwa [zes])
theorem b8L {d:Nat}(h:d<W):(wd d).length<=1:=bH.mpr (by rwa [zes])
theorem b4H (r:RQ)(h:Nt (2^40) r.2):AC Tryz.prog 81 [cqq r] none [cb (decide (nv r.2≠0))]:=by
 have z:=EU r.2 h.2 h.1;refine AC.aj (rs:=[.tmp 2]) aV Tryz.func81 (by rfl) (by rfl) (by rfl) (by rfl) (by rfl) ?_;simp (disch:=omega) only[wt,seval];refine ah (z) (by rfl) (by simp) ?_;simp (disch:=omega) only[wt,seval]
 try rfl
 try simp
theorem b7v (r:RQ)(h:Sz (2^40) r.1):AC Tryz.prog 85 [cqq r] none [ci (iv r.1).sign]:=by
 have z:=MG r.1 h;refine AC.aj (rs:=[.tmp 2]) aV Tryz.func85 (by rfl) (by rfl) (by rfl) (by rfl) (by rfl) ?_;simp (disch:=omega) only[wt,seval,rqs];refine ah (z) (by rfl) (by simp) ?_;simp (disch:=omega) only[wt,seval]
 try rfl
theorem b7u (n:RI)(h:Sz (2^38) n):AC Tryz.prog 113 [cr n] none [cqz (iv n:Rat)]:=by
 have w:=uI 1 (by omega);have hw:(wd 1).length<=2^38:=by decide +kernel
 have r:=XW n (wd 1) h ⟨hw,bg _⟩ (by rw[bJ];omega);rw[bJ,Rat.mkRat_one]at r;refine AC.aj (rs:=[.cell 2 32]) aV Tryz.func113 (by rfl) (by rfl) (by rfl) (by rfl) (by rfl) ?_;simp (disch:=omega) only[wt,seval];refine .inl ⟨aP (by kernel_rfl),?_⟩;refine ah (w) (by rfl) (by simp) ?_;simp only[wt,seval];refine ah (r) (by rfl) (by simp) ?_;simp (disch:=omega) only[wt,seval,rqs];exact aX (by kernel_rfl)
 try rfl
theorem Qi (n:Int)(d:Nat)(h : -9223372036854775808<n)(h':n<9223372036854775808)(hd:d<9223372036854775808)(h0:d≠0):AC Tryz.prog 9 [ci n,ci d] none [cqz ((n:Rat)/(d:Rat))]:=by
 have z:=MF n h h';have w:=uI d hd;have hz:zl n<=2^38:=zad (b8E (by simp only[W];omega)) (by omega);have hw:(wd d).length<=2^38:=zad (b8L (by simp only[W];omega)) (by omega);have r:=XW (canon n) (wd d) ((aY _).mono hz) ⟨hw,bg _⟩ (by rw[bJ];exact h0);rw[aS,bJ,zcj]at r;refine AC.aj (rs:=[.cell 4 32]) aV Tryz.func9 (by rfl) (by rfl) (by rfl) (by rfl) (by rfl) ?_;simp (disch:=omega) only[wt,seval];refine ah (z) (by rfl) (by simp) ?_;simp only[wt,seval];refine ah (w) (by rfl) (by simp) ?_;simp only[wt,seval];refine ah (r) (by rfl) (by simp) ?_;simp (disch:=omega) only[wt,seval,rqs]
 try rfl
theorem WL (a b:RQ)(ha:SzQ (2^35) a)(hb:SzQ (2^35) b)(h0:nv a.2≠0)(h1:nv b.2≠0):AC Tryz.prog 116 [cqq a,cqq b] none [cqz (qv a+qv b)]:=by
 have z1:=fA (iv a.1) (nv b.2:Nat);have z2:=fA (iv b.1) (nv a.2:Nat);have y1:=oO ha.1;have y2:=oO hb.1;have y3:=D9 ha.2;have y4:=D9 hb.2;have i1:=vW false b.2 hb.2.2 (zad hb.2.1 (by omega));have i2:=vW false a.2 ha.2.2 (zad ha.2.1 (by omega));rw[sgf]at i1 i2;have t1:=wR a.1 (canon (nv b.2:Nat)) (ha.1.mono (by omega)) ((aY _).mono (by omega));have t2:=wR b.1 (canon (nv a.2:Nat)) (hb.1.mono (by omega)) ((aY _).mono (by omega));rw[aS]at t1 t2;have z3:=qg (iv a.1*(nv b.2:Nat)) (iv b.1*(nv a.2:Nat));have s:=Tf (canon (iv a.1*(nv b.2:Nat))) (canon (iv b.1*(nv a.2:Nat))) ((aY _).mono (by omega)) ((aY _).mono (by omega));rw[aS,aS]at s;have m:=wQ a.2 b.2 ha.2.2 hb.2.2 (zad ha.2.1 (by omega)) (zad hb.2.1 (by omega));have hw:(wd (nv a.2*nv b.2)).length<=2^35+2^35:=yV y3 y4;have r:=XW (canon (iv a.1*(nv b.2:Nat)+iv b.1*(nv a.2:Nat))) (wd (nv a.2*nv b.2)) ((aY _).mono (by omega)) ⟨by omega,bg _⟩ (by rw[bJ];exact zbN h0 h1);rw[aS,bJ,a8Y h0 h1]at r;refine AC.aj (rs:=[.cell 4 32]) aV Tryz.func116 (by rfl) (by rfl) (by rfl) (by rfl) (by rfl) ?_;simp (disch:=omega) only[wt,seval,rqs];refine .inl ⟨aP (by kernel_rfl),?_⟩;refine ah (i1) (by rfl) (by simp) ?_;simp only[wt,seval];refine ah (t1) (by rfl) (by simp) ?_;simp (disch:=omega) only[wt,seval,rqs];refine ah (i2) (by rfl) (by simp) ?_;simp only[wt,seval];refine ah (t2) (by rfl) (by simp) ?_;simp only[wt,seval];refine ah (s) (by rfl) (by simp) ?_;simp (disch:=omega) only[wt,seval];refine ah (m) (by rfl) (by simp) ?_;simp only[wt,seval];refine ah (r) (by rfl) (by simp) ?_;simp (disch:=omega) only[wt,seval,rqs];exact aX (by kernel_rfl)
 try rfl
theorem Qe (a b:RQ)(ha:SzQ (2^35) a)(hb:SzQ (2^35) b)(h0:nv a.2≠0)(h1:nv b.2≠0):AC Tryz.prog 117 [cqq a,cqq b] none [cqz (qv a*qv b)]:=by
 have z1:=fA (iv a.1) (iv b.1);have y1:=oO ha.1;have y2:=oO hb.1;have y3:=D9 ha.2;have y4:=D9 hb.2;have s:=wR a.1 b.1 (ha.1.mono (by omega)) (hb.1.mono (by omega));have m:=wQ a.2 b.2 ha.2.2 hb.2.2 (zad ha.2.1 (by omega)) (zad hb.2.1 (by omega));have hw:(wd (nv a.2*nv b.2)).length<=2^35+2^35:=yV y3 y4;have r:=XW (canon (iv a.1*iv b.1)) (wd (nv a.2*nv b.2)) ((aY _).mono (by omega)) ⟨by omega,bg _⟩ (by rw[bJ];exact zbN h0 h1);rw[aS,bJ,a8W]at r;refine AC.aj (rs:=[.cell 4 32]) aV Tryz.func117 (by rfl) (by rfl) (by rfl) (by rfl) (by rfl) ?_;simp (disch:=omega) only[wt,seval,rqs];refine .inl ⟨aP (by kernel_rfl),?_⟩;refine ah (s) (by rfl) (by simp) ?_;simp (disch:=omega) only[wt,seval];refine ah (m) (by rfl) (by simp) ?_;simp only[wt,seval];refine ah (r) (by rfl) (by simp) ?_;simp (disch:=omega) only[wt,seval,rqs];exact aX (by kernel_rfl)
 try rfl
theorem a6j {a b:RQ}(h0:nv a.2≠0)(h1:nv b.2≠0)(h2:iv b.1≠0):mkRat (iv a.1*sg b.1.1 (nv b.2)) (nv a.2*nv b.1.2)=qv a/qv b:=by
 rw[Y1,Y1,zcj,zbw,zc9];have e0:(nv a.2:Rat)≠0:=λh=>h0 (zcZ.mp h)
 have e1:(nv b.2:Rat)≠0:=λh=>h1 (zcZ.mp h)
 have e2:(nv b.1.2:Rat)≠0:=λh=>h2 (by rw[vX,zcZ.mp h];cases b.1.1<;>rfl)
 have e3:(iv b.1:Rat)=if b.1.1 then -(nv b.1.2:Rat) else (nv b.1.2:Rat):=by
  unfold iv;split
  .rw[zdr,zaP]
  .rw[zaP]
 have e4:((sg b.1.1 (nv b.2):Int):Rat)=if b.1.1 then -(nv b.2:Rat) else (nv b.2:Rat):=by
  unfold sg;split
  .rw[zdr,zaP]
  .rw[zaP]
 rw[e3,e4];split<;>grind
theorem Fh (a b:RQ)(ha:SzQ (2^35) a)(hb:SzQ (2^35) b)(h0:nv a.2≠0)(h1:nv b.2≠0)(h2:iv b.1≠0):AC Tryz.prog 115 [cqq a,cqq b] none [cqz (qv a/qv b)]:=by
 have i1:=vW b.1.1 b.2 hb.2.2 (zad hb.2.1 (by omega));have y1:=oO ha.1;have y3:=D9 ha.2;have y4:zl (sg b.1.1 (nv b.2))<=2^35:=by rw[b6j];exact D9 hb.2
 have y5:(wd (nv b.1.2)).length<=2^35:=zad (iP hb.1.2) hb.1.1;have z1:=fA (iv a.1) (sg b.1.1 (nv b.2));have s:=wR a.1 (canon (sg b.1.1 (nv b.2))) (ha.1.mono (by omega)) ((aY _).mono (by omega));rw[aS]at s;have m:=wQ a.2 b.1.2 ha.2.2 hb.1.2 (zad ha.2.1 (by omega)) (zad hb.1.1 (by omega));have hw:(wd (nv a.2*nv b.1.2)).length<=2^35+2^35:=yV y3 y5;have hn:nv b.1.2≠0:=λh=>h2 (by rw[vX,h];cases b.1.1<;>rfl)
 have r:=XW (canon (iv a.1*sg b.1.1 (nv b.2))) (wd (nv a.2*nv b.1.2)) ((aY _).mono (by omega)) ⟨by omega,bg _⟩ (by rw[bJ];exact zbN h0 hn);rw[aS,bJ,a6j h0 h1 h2]at r;refine AC.aj (rs:=[.cell 4 32]) aV Tryz.func115 (by rfl) (by rfl) (by rfl) (by rfl) (by rfl) ?_;simp (disch:=omega) only[wt,seval,rqs];refine .inl ⟨aP (by kernel_rfl),?_⟩;refine ah (i1) (by rfl) (by simp) ?_;simp only[wt,seval];refine ah (s) (by rfl) (by simp) ?_;simp (disch:=omega) only[wt,seval];refine ah (m) (by rfl) (by simp) ?_;simp only[wt,seval];refine ah (r) (by rfl) (by simp) ?_;simp (disch:=omega) only[wt,seval,rqs];exact aX (by kernel_rfl)
 try rfl
theorem a6T (a b:RQ)(ha:SzQ (2^43) a)(hb:SzQ (2^43) b):AC Tryz.prog 33 [cqq a,cqq b] none [cb (decide (a=b))]:=by
 have s:=zu a.1 b.1 ha.1.1 hb.1.1;have t:=EW a.2 b.2 ha.2.1 hb.2.1;refine AC.aj (rs:=[.tmp 4]) aV Tryz.func33 (by rfl) (by rfl) (by rfl) (by rfl) (by rfl) ?_;simp (disch:=omega) only[wt,seval,rqs];refine ah (s) (by rfl) (by simp) ?_;simp (disch:=omega) only[wt,seval];by_cases h1:a.1=b.1
 .simp only[wt,seval,h1];by_cases h2:a.2=b.2
  .have e:a=b:=Prod.ext h1 h2;subst e;refine ah (t) (by rfl) (by simp) ?_;simp (disch:=omega) only[wt,seval]
   try rfl
  .have e:¬a=b:=λh=>h2 (by rw[h])
   refine ah (t) (by rfl) (by simp) ?_;simp (disch:=omega) only[wt,seval,h2,e]
   try rfl
 .have e:¬a=b:=λh=>h1 (by rw[h])
  simp only[wt,seval,h1,e]
  try rfl
section
variable {p:List RQ} {i n k n' k':Nat} {q:List Rat}
def BQ (n k:Nat)(p:List RQ):Prop:=p.length<=n/\∀r∈p,SzQ k r
def GQ (n k:Nat)(p:List RQ):Prop:=p.length<=n/\∀r∈p,SzQ k r/\nv r.2≠0
def QB (n k:Nat)(q:List Rat):Prop:=q.length<=n/\∀c∈q,qz c<=k
def gd (p:List RQ):Bool:=p.all λr=>decide (nv r.2≠0)
theorem yg (h:i<p.length):p.getD i q0∈p:=by rw[List.getD,zaf h,zaE];exact zaY h
theorem BQ.get (h:BQ n k p)(hi:i<p.length):SzQ k (p.getD i q0):=h.2 _ (yg hi)
theorem GQ.get (h:GQ n k p)(hi:i<p.length):SzQ k (p.getD i q0):=(h.2 _ (yg hi)).1
theorem GQ.den (h:GQ n k p)(hi:i<p.length):nv (p.getD i q0).2≠0:=(h.2 _ (yg hi)).2
theorem GQ.bq (h:GQ n k p):BQ n k p:=⟨h.1,λr hr=>(h.2 r hr).1⟩
theorem Ef:gd p=true↔∀r∈p,nv r.2≠0:=by simp[gd]
theorem GQ.gd (h:GQ n k p):gd p=true:=Ef.mpr λr hr=>(h.2 r hr).2
theorem BQ.mono (h:BQ n k p)(hn:n<=n')(hk:k<=k'):BQ n' k' p:=⟨zad h.1 hn,λr hr=>(h.2 r hr).mono hk⟩
theorem GQ.mono (h:GQ n k p)(hn:n<=n')(hk:k<=k'):GQ n' k' p:=⟨zad h.1 hn,λr hr=>⟨(h.2 r hr).1.mono hk,(h.2 r hr).2⟩⟩
theorem QB.mono (h:QB n k q)(hn:n<=n')(hk:k<=k'):QB n' k' q:=⟨zad h.1 hn,λr hr=>zad (h.2 r hr) hk⟩
theorem Dq (p:List RQ)(i:Nat):cfq (qvs p) i=qv (p.getD i q0):=by
 unfold cfq qvs;rw[zax,zax,zaD];cases p[i]? with
 |none=>decide +kernel
 |some x=>rfl
theorem GQ.qb (h:GQ n k p):QB n k (qvs p):=⟨by rw[rO];exact h.1,λc hc=>by
 obtain⟨r,hr,rfl⟩:=zaw.1 hc;exact JV (h.2 r hr).1 (h.2 r hr).2⟩
theorem QB.gq (h:QB n k q):GQ n k (q.map aN):=⟨by rw[zae];exact h.1,λr hr=>by
 obtain⟨c,hc,rfl⟩:=zaw.1 hr;exact⟨cO (h.2 c hc),cZ c⟩⟩
theorem QB.au (h:QB n k q):QB n k (au q):=⟨zad (by rw[jD];exact vP q) h.1,λc hc=>h.2 c (za0 hc)⟩
theorem QB.gqs (h:QB n k q):GQ n k (cqs q):=h.au.gq
theorem QB.cz (h:QB n k q)(hk:1<=k)(i:Nat):qz (cfq q i)<=k:=by
 unfold cfq;rw[zax];cases hi:q[i]? with
 |none=>rw[Option.getD_none,zy];exact hk
 |some x=>exact h.2 x (zat hi)
theorem QB.of (hl:q.length<=n)(h:∀i,qz (cfq q i)<=k):QB n k q:=⟨hl,λc hc=>by
 obtain⟨i,hi,rfl⟩:=zbE hc;have:=h i;rwa [oN hi]at this⟩
theorem b0w {r:RQ}(h:nv r.2≠0):qv r=0↔iv r.1=0:=Rat.mkRat_eq_zero h
theorem jR {q:List Rat}{i:Nat}(h:i<q.length):q.take (i+1)=q.take i++[cfq q i]:=by
 rw[List.take_add_one]
 congr 1
 simp[cfq,List.getD,h]
theorem a3j (q:List Rat):(q.map aN).length=q.length:=zae _
theorem Nq (q:List Rat):(cqs q).length=tzq q:=by rw[cqs,a3j,jD]
theorem b0v (q:List Rat):qvs (cqs q)=au q:=dG _
def qp (p:List Int):List Rat:=p.map λz:Int=>(z:Rat)
theorem jm (p:List Int)(k:Nat):cfq (qp p) k=(cf p k:Rat):=by
 unfold cfq qp cf;rw[zax,zax,zaD];cases p[k]?<;>rfl
theorem a8A (z:Int):qz (z:Rat)<=max (zl z) 1:=by
 unfold qz;rw[Rat.num_intCast,Rat.den_intCast];have:(wd 1).length=1:=by decide +kernel
 omega
theorem PB.ofZ {p:List Int}(h:PB n k p)(hk:1<=k):QB n k (qp p):=⟨by simp[qp];exact h.1,λc hc=>by
 obtain⟨z,hz,rfl⟩:=zaw.1 hc;have:=h.2 z hz;have:=a8A z;omega⟩
end
theorem WI (l:List RQ)(g:Nat)(P:RQ->Bool)(e:Int)(hl:l.length<=2^43)(hc:∀r∈l,AC Tryz.prog g [cqq r] none [cb (P r)])
  (h1:∀i,i<l.length->(∀j,j<i->P (l.getD j q0)=false)->P (l.getD i q0)=true->e=i) (h2:(∀j,j<l.length->P (l.getD j q0)=false)->e = -1) :
  AC Tryz.prog 268 [cqw l,.fn g []] none [ci e]:=by
 refine AC.aj (rs:=[.tmp 4]) aV Tryz.func268 (by rfl) (by rfl) (by rfl) (by rfl) (by rfl) ?_;simp (disch:=omega) only[wt,seval,rqs];refine aI (λf H=>∃(i:Nat),i<=l.length/\(∀j,j<i->P (l.getD j q0)=false)/\f 8=.iv (.int .i64 i)/\f 0=.iv (.sl (dN l))/\f 6=.iv (.sl (dN l))/\f 7=.iv (.int .i64 l.length)/\f 1=.fn g []) (λf H=>(l.length-bC f 8).toNat) ?_ ?_
 .refine⟨0,by omega,λj hj=>by omega,?_⟩;simp only[wt,seval]
 rintro f H ⟨i,hi,hz,hF⟩;rw[aC hF.1];simp (disch:=omega) only[wt,seval,hF];refine bf (λhlt=>?_) (λhlt=>?_)
 .have hlt':i<l.length:=by omega
  simp (disch:=omega) only[wt,seval,rqs,hF];refine ah ((hc (l.getD i q0) (yg hlt'))) (by rfl) (by simp) ?_;simp (disch:=omega) only[wt,seval];cases hP:P (l.getD i q0) with
  |true =>
   obtain rfl:=h1 i hlt' hz hP;simp (disch:=omega) only[wt,seval]
  |false =>
   simp (disch:=omega) only[wt,seval,hF];refine⟨⟨i+1,by omega,λj hj=>?_,by omega⟩,by omega⟩;rcases zbh j i with hj'|hj'
   .exact hz j hj'
   .obtain rfl:j=i:=by omega
    exact hP
 .obtain rfl:=h2 λj hj=>hz j (by omega)
  simp (disch:=omega) only[wt,seval]
theorem b2h (l:List RQ)(g:Nat)(P:RQ->Bool)(hl:l.length<=2^43)(hc:∀r∈l,AC Tryz.prog g [cqq r] none [cb (P r)]) :
  AC Tryz.prog 214 [cqw l,.fn g []] none [cb (l.any P)]:=by
 have key:∃e:Int,(0<=e↔l.any P=true)/\AC Tryz.prog 268 [cqw l,.fn g []] none [ci e]:=by
  by_cases h:∃i,i<l.length/\P (l.getD i q0)=true
  .obtain⟨i,hi,hP,hz⟩:∃i,i<l.length/\P (l.getD i q0)=true/\∀j,j<i->P (l.getD j q0)=false:=by
    obtain⟨i0,hi0⟩:=h
    induction i0 using Nat.strongRecOn with
    |_ n ih =>
     by_cases hm:∃m,m<n/\P (l.getD m q0)=true
     .obtain⟨m,hm1,hm2⟩:=hm;exact ih m hm1 ⟨by omega,hm2⟩
     .refine⟨n,hi0.1,hi0.2,λj hj=>?_⟩;cases hj':P (l.getD j q0) with
      |false=>rfl
      |true=>exact(hm ⟨j,hj,hj'⟩).elim
   refine⟨i,⟨λ_=>zeq.mpr ⟨_,yg hi,hP⟩,λ_=>by omega⟩,WI l g P i hl hc (λk hk hkz hkP=>?_) (λhall=>?_)⟩
   .have:k=i:=by
     rcases zdn k i with h|h|h
     .have:=hz k h;rw[this]at hkP;cases hkP
     .exact h
     .have:=hkz i h;rw[this]at hP;cases hP
    rw[this]
   .rw[hall i hi]at hP;cases hP
  .refine⟨-1,⟨λh0=>by omega,λh0=>?_⟩,WI l g P (-1) hl hc (λk hk _ hkP=>(h ⟨k,hk,hkP⟩).elim) (λ_=>rfl)⟩;obtain⟨r,hr,hP⟩:=zeq.mp h0;obtain⟨j,hj,rfl⟩:=zbE hr;exact(h ⟨j,hj,by rw[List.getD,zaf hj,zaE];exact hP⟩).elim
 obtain⟨e,he,m⟩:=key;refine AC.aj (rs:=[.tmp 4]) aV Tryz.func214 (by rfl) (by rfl) (by rfl) (by rfl) (by rfl) ?_;simp only[wt,seval];refine ah (m) (by rfl) (by simp) ?_;simp (disch:=omega) only[wt,seval];cases hP:l.any P with
 |true=>rw[zbn (he.mpr hP)]
 |false=>rw[zaW λh=>by rw[he.mp h]at hP;cases hP]
theorem a0W (r:RQ)(h:Nt (2^42) r.2):AC Tryz.prog 215 [cqq r] none [cb (decide (nv r.2=0))]:=by
 refine AC.aj (rs:=[.tmp 2]) aV Tryz.func215 (by rfl) (by rfl) (by rfl) (by rfl) (by rfl) ?_;simp (disch:=omega) only[wt,seval,rqs];by_cases h0:nv r.2=0
 .have h0':=h0;refine ah ((JY r h h0)) (by rfl) (by simp) ?_;simp (disch:=omega) only[wt,seval];rw[zbn h0]
  try rfl
 .have h0':=h0;refine ah ((qx r h h0)) (by rfl) (by simp) ?_;simp (disch:=omega) only[wt,seval];rw[zaW h0]
  try rfl
theorem not_any {l:List RQ}:(!l.any λr=>decide (nv r.2=0))=gd l:=by
 unfold gd
 induction l with
 |nil=>rfl
 |cons a l ih =>
  rw[List.any_cons,List.all_cons,Bool.not_or,ih]
  congr 1
  by_cases h:nv a.2=0<;>simp[h]
theorem a5O (l:List RQ)(h:BQ (2^40) (2^40) l):AC Tryz.prog 133 [cqw l] none [cb (gd l)]:=by
 have m:=b2h l 215 (λr=>decide (nv r.2=0)) (zad h.1 (by omega)) (λr hr=>a0W r ⟨zad (h.2 r hr).2.1 (by omega),(h.2 r hr).2.2⟩);refine AC.aj (rs:=[.tmp 2]) aV Tryz.func133 (by rfl) (by rfl) (by rfl) (by rfl) (by rfl) ?_;simp only[wt,seval];refine ah (m) (by rfl) (by simp) ?_;simp (disch:=omega) only[wt,seval];exact not_any
structure VB (p:List RQ) (x:RQ) (B:Nat):Prop where
 hp:GQ (2^30) B p
 hx:SzQ B x
 d:nv x.2≠0
 e:∀q:List Rat,q.length<=p.length->(∀c∈q,c∈qvs p)->qz (evq q (qv x))<=B
 w:∀i,i<=p.length->qz (qv x^i)<=B
 b:B<=2^34
 one:1<=B
theorem VB.drop {p:List RQ}{x:RQ}{B:Nat}(v:VB p x B)(i:Nat):qz (evq ((qvs p).drop i) (qv x))<=B :=
 v.e _ (by rw[zbV,rO];omega) λc hc=>zcE hc
theorem U8:AC Tryz.prog 9 [ci 1,ci 1] none [cqz 1]:=by
 have m:=Qi 1 1 (by omega) (by omega) (by omega) (by omega);rwa [show ((1:Int):Rat)/((1:Nat):Rat)=1 by decide +kernel]at m
section
variable {q:Rat}
def sgq (q:Rat):Int:=q.num.sign
theorem LM (h:0<q):sgq q=1:=by
 refine zcH ?_;have h1:0<=q.num:=Rat.num_nonneg.mpr (Rat.le_of_lt h);have h2:q.num≠0:=λe=>by rw[zcK.mp e]at h;exact Rat.lt_irrefl h
 omega
theorem SL (h:q<0):sgq q = -1:=by
 refine zbZ ?_;have h1:¬0<=q.num:=λe=>Rat.not_le.mpr h (Rat.num_nonneg.mp e)
 omega
theorem a5g:sgq 0=0:=rfl
theorem Gm (q:Rat):(0<q/\sgq q=1)\/(q=0/\sgq q=0)\/(q<0/\sgq q = -1):=by
 by_cases h:q<0
 .exact .inr (.inr ⟨h,SL h⟩)
 .by_cases h0:q=0
  .exact .inr (.inl ⟨h0,by rw[h0];rfl⟩)
  .have:0<q:=Rat.lt_of_le_of_ne (Rat.not_lt.mp h) (λe=>h0 e.symm);exact .inl ⟨this,LM this⟩
theorem b0e (p q:Rat):sgq (p*q)=sgq p*sgq q:=by
 have hn:∀{x:Rat},x<0->0 < -x:=λ{x} h=>by grind
 rcases Gm p with ⟨h1,e1⟩|⟨h1,e1⟩|⟨h1,e1⟩<;>rcases Gm q with ⟨h2,e2⟩|⟨h2,e2⟩|⟨h2,e2⟩<;>rw[e1,e2]
 .rw[LM (Rat.mul_pos h1 h2)];rfl
 .rw[h2,zfy];rfl
 .have:=Rat.mul_pos h1 (hn h2);rw[SL (by rw[Rat.mul_neg]at this;grind)];rfl
 .rw[h1,zbG];rfl
 .rw[h1,zbG];rfl
 .rw[h1,zbG];rfl
 .have:=Rat.mul_pos (hn h1) h2;rw[SL (by rw[Rat.neg_mul]at this;grind)];rfl
 .rw[h2,zfy];rfl
 .have:=Rat.mul_pos (hn h1) (hn h2);rw[LM (by rw[Rat.neg_mul,Rat.mul_neg,Rat.neg_neg]at this;exact this)];rfl
theorem b0f (z:Int):sgq (z:Rat)=z.sign:=by rw[sgq,Rat.num_intCast]
theorem SN:sgq q=0↔q=0:=by
 rcases Gm q with ⟨h1,e1⟩|⟨h1,e1⟩|⟨h1,e1⟩<;>rw[e1]
 .exact⟨λh=>by omega,λh=>by rw[h]at h1;exact(Rat.lt_irrefl h1).elim⟩
 .exact⟨λ_=>h1,λ_=>rfl⟩
 .exact⟨λh=>by omega,λh=>by rw[h]at h1;exact(Rat.lt_irrefl h1).elim⟩
theorem b3P {r:RQ}(h:nv r.2≠0):(iv r.1).sign=sgq (qv r):=by
 rw[Y1];have hp:(0:Rat)<(nv r.2:Rat):=Rat.natCast_pos.mpr (by omega);have e:(iv r.1:Rat)=(iv r.1:Rat)/(nv r.2:Rat)*(nv r.2:Rat):=(zbm (Rat.ne_of_gt hp)).symm;have e2:=zaO sgq e;rw[b0e,b0f,LM hp,Int.mul_one]at e2;exact e2
theorem tC {q:List Int}{i:Nat}(h:i<q.length):q.take (i+1)=q.take i++[cf q i]:=by
 rw[List.take_add_one]
 congr 1
 simp[cf,List.getD,h]
end
structure C12 where
 (P Q:List RI) (R S:List RQ) (A B:RI) (X Y:RQ) (N:Int)
structure c0V (x:C12):Prop where
 P:Raw x.P
 Q:Raw x.Q
 R:YS x.R
 S:YS x.S
 A:Sz 9223372036854775807 x.A
 B:Sz 9223372036854775807 x.B
 X:SzQ 9223372036854775807 x.X
 Y:SzQ 9223372036854775807 x.Y
 N : -9223372036854775808<=x.N/\x.N<=9223372036854775807
structure c0C (x:C12):Prop where
 P:RP 40 200 x.P
 Q:RP 40 200 x.Q
 R:BQ 40 200 x.R
 S:BQ 40 200 x.S
 A:Sz 200 x.A
 B:Sz 200 x.B
 X:SzQ 200 x.X
 Y:SzQ 200 x.Y
section
variable {D M N n E:Nat} {p c:Rat} {q:List Rat}
def CD (D M:Nat)(q:Rat):Prop:=∃z:Int,q=(z:Rat)/(D:Rat)/\zl z<=M
theorem CD.mono {q:Rat}(h:CD D M q)(hk:M<=N):CD D N q:=by
 obtain⟨z,e,hz⟩:=h;exact⟨z,e,zad hz hk⟩
theorem jh (h:n≠0):(n:Rat)≠0:=λe=>h (zcZ.mp e)
theorem CD.add {q:Rat}(h:CD D M p)(k:CD D N q):CD D (max M N+1) (p+q):=by
 obtain⟨z,e,hz⟩:=h;obtain⟨w,f,hw⟩:=k;refine⟨z+w,?_,?_⟩
 .rw[e,f,Rat.intCast_add,zeg,zeg,zeg,Rat.add_mul]
 .have:=qg z w;omega
theorem CD.neg (h:CD D M p):CD D M (-p):=by
 obtain⟨z,e,hz⟩:=h;exact⟨-z,by rw[e,zdr,zeg,zeg,Rat.neg_mul],by rw[sD];exact hz⟩
theorem CD.mul {q:Rat}(hD:D≠0)(hE:E≠0)(h:CD D M p)(k:CD E N q):CD (D*E) (M+N) (p*q):=by
 obtain⟨z,e,hz⟩:=h;obtain⟨w,f,hw⟩:=k;refine⟨z*w,?_,?_⟩
 .have h1:=jh hD;have h2:=jh hE;rw[e,f,zbw,zc9]
  grind
 .have:=fA z w;omega
theorem CD.up {V:Nat}{q:Rat}(hD:D≠0)(hE:E≠0)(hV:(wd E).length<=V)(h:CD D M q):CD (D*E) (M+V) q:=by
 obtain⟨z,e,hz⟩:=h;refine⟨z*E,?_,?_⟩
 .have h1:=jh hD;have h2:=jh hE;rw[e,zbw,zc9,zaP]
  grind
 .have:=fA z E;rw[wz]at this;omega
theorem CD.ofRat (q:Rat):CD q.den (zl q.num) q:=⟨q.num,by rw[<-zcj];exact(zcT q).symm,zab _⟩
theorem CD.size {q:Rat}(hD:D≠0)(hw:(wd D).length<=M)(h:CD D M q):qz q<=M:=by
 obtain⟨z,e,hz⟩:=h;rw[e,<-zcj];exact XY hD hz hw
theorem CD.zero (D M:Nat):CD D M 0:=⟨0,by rw[ze7,zeg,zbG],by rw[iC];omega⟩
structure CB (D n M:Nat) (q:List Rat):Prop where
 d:D≠0
 w:(wd D).length<=M
 l:q.length<=n
 c:∀c∈q,CD D M c
theorem CB.qb (h:CB D n M q):QB n M q:=⟨h.l,λc hc=>(h.c c hc).size h.d h.w⟩
theorem CB.mono {m:Nat}(h:CB D n M q)(hn:n<=m)(hM:M<=N):CB D m N q:=⟨h.d,zad h.w hM,zad h.l hn,λc hc=>(h.c c hc).mono hM⟩
theorem CB.sub {r:List Rat}(h:CB D n M q)(hl:r.length<=n)(hr:∀c∈r,c∈q):CB D n M r:=⟨h.d,h.w,hl,λc hc=>h.c c (hr c hc)⟩
theorem CB.trim (h:CB D n M q):CB D n M (au q):=h.sub (zad (by rw[jD];exact vP q) h.l) λc hc=>za0 hc
theorem jg (q:Rat):zl q.num<=qz q/\(wd q.den).length<=qz q:=⟨zdO _ _,zdz _ _⟩
theorem a8P:∀{k:Nat} (q:List Rat),(∀c∈q,qz c<=k)->∃D,D≠0/\(wd D).length<=q.length*k+1/\∀c∈q,CD D (q.length*k+k+1) c
 |k,[],_=>⟨1,by omega,by rw[show wd 1=[1] by decide +kernel];simp,λc hc=>nomatch hc⟩
 |k,a::q,h=>by
  obtain⟨D,hD,hw,hc⟩:=a8P q λc hc=>h c (zdH _ hc)
  have ha:=h a (by simp);have hp:=jg a;refine⟨a.den*D,zbN a.den_nz hD,?_,λc hc'=>?_⟩
  .have:=AL.fK a.den D;rw[zaL,zbS];omega
  .rw[zaL,zbS];rcases zaG.1 hc' with rfl|hc'
   .exact((CD.ofRat c).up c.den_nz hD hw).mono (by omega)
   .rw[zaA];exact((hc c hc').up hD a.den_nz hp.2).mono (by omega)
theorem QB.cb {k:Nat}(h:QB n k q):∃D,CB D n (n*k+k+1) q:=by
 obtain⟨D,hD,hw,hc⟩:=a8P q h.2;have:=zag k h.1;exact⟨D,hD,by omega,h.1,λc hc'=>(hc c hc').mono (by omega)⟩
def sqq (q:List Rat)(c:Rat):List Rat:=(List.range (q.length-1)).map λi=>evq (q.drop (i+1)) c
theorem b0c (q:List Rat)(c:Rat):(sqq q c).length=q.length-1:=by simp[sqq]
theorem a3p (q:List Rat)(c:Rat)(i:Nat):cfq (sqq q c) i=evq (q.drop (i+1)) c:=by
 by_cases h:i<q.length-1
 .rw[sqq,cfq,List.getD,zaD,zcN h];rfl
 .rw[ig (by rw[b0c];omega),zbD (by omega)];rfl
theorem dA (h:au q=q):tzq q=q.length:=by rw[<-jD,h]
theorem b3O (h:au q=q)(h0:q.length≠0)(he:evq q c=0):tzq (sqq q c)=q.length-1/\q.length-1≠0:=by
 have ht:=dA h;have h1:q.length≠1:=λe=>by
  match q,e with
  |[a],_ =>
   have:=jd (q:=[a]) (by rw[ht];simp);rw[ht]at this;rw[evq,evq]at he;exact this (by show a=0;rw[<-he];grind)
 have h2:cfq (sqq q c) (q.length-2)≠0:=by
  have:=jd (q:=q) (by rw[ht];exact h0);rw[ht]at this;rw[a3p,show q.length-2+1=q.length-1 by omega,zcl (by omega),evq,zbD (by omega),evq];rw[oN (by omega)]at this;intro e;exact this (by rw[<-e];grind)
 have:=EP h2 λk hk=>by rw[a3p,zbD (by omega)];rfl
 exact⟨by omega,by omega⟩
def qit (q:List Rat)(c:Rat):Nat->List Rat
 |0=>q
 |k+1=>au (sqq (qit q c k) c)
theorem a0V (h:au q=q)(h0:q.length≠0):∀k,(∀j,j<k->evq (qit q c j) c=0)->(qit q c k).length+k=q.length/\(qit q c k).length≠0/\au (qit q c k)=qit q c k
 |0,_=>⟨rfl,h0,h⟩
 |k+1,hk=>by
  obtain⟨h1,h2,h3⟩:=a0V h h0 k λj hj=>hk j (by omega)
  obtain⟨h4,h5⟩:=b3O h3 h2 (hk k (by omega));refine⟨?_,?_,aZ _⟩
  .rw[qit,jD];omega
  .rw[qit,jD];omega
theorem WT {P:Nat->Prop}(h:∃n,P n):∃n,P n/\∀j,j<n->¬P j:=by
 obtain⟨n,hn⟩:=h
 induction n using Nat.strongRecOn with
 |_ n ih =>
  by_cases hm:∃m,m<n/\P m
  .obtain⟨m,hm1,hm2⟩:=hm;exact ih m hm1 hm2
  .exact⟨n,hn,λj hj hp=>hm ⟨j,hj,hp⟩⟩
end
theorem OZ (r:RQ)(h:SzQ (2^38) r)(h0:nv r.2≠0):AC Tryz.prog 186 [cqq r] none [cb (decide (qv r=0))]:=by
 have s:=a5G r h h0;refine AC.aj (rs:=[.tmp 2]) aV Tryz.func186 (by rfl) (by rfl) (by rfl) (by rfl) (by rfl) ?_;simp (disch:=omega) only[wt,seval,rqs];refine ah (s) (by rfl) (by simp) ?_;simp (disch:=omega) only[wt,seval];rw[zbA,b0w h0];exact zbT
theorem a5E (p:List RQ)(h:GQ (2^40) (2^38) p):AC Tryz.prog 93 [cqw p] none [cqw (p.take (tzq (qvs p)))]:=by
 refine AC.aj (rs:=[.tmp 2]) aV Tryz.func93 (by rfl) (by rfl) (by rfl) (by rfl) (by rfl) ?_;have hl:=h.1;have htl:=vP (qvs p);rw[rO]at htl;simp (disch:=omega) only[wt,seval,rqs];refine aI (λf H=>∃k:Nat,k<=p.length/\f 0=.iv (.sl (dN p))/\f 3=.iv (.int .i64 k)/\tzq ((qvs p).take k)=tzq (qvs p)) (λf H=>(bC f 3).toNat) ?_ ?_
 .exact⟨p.length,zab _,by simp only[wt,seval],by simp only[wt,seval],by rw[<-rO p,zaM]⟩
 rintro f H ⟨k,hk,h0,h3,ht⟩;rw[aC h3];by_cases hc:0<(k:Int)
 .simp (disch:=omega) only[wt,seval,rqs,h0,h3,hc];have ek:((k:Int)-1).toNat=k-1:=by omega
  have ek':k=(k-1)+1:=by omega
  rw[ek];have hr:=h.get (i:=k-1) (by omega);refine ah ((OZ (p.getD (k-1) q0) hr (h.den (by omega)))) (by rfl) (by simp) ?_;simp (disch:=omega) only[wt,seval];by_cases hz:qv (p.getD (k-1) q0)=0
  .simp (disch:=omega) only[wt,seval,h0,h3,hz];rw[<-Dq]at hz;refine⟨⟨k-1,by omega,by omega,?_⟩,by omega⟩;rw[<-oU (k:=k-1) (by rw[rO];omega) hz,<-ek',ht]
  .simp (disch:=omega) only[wt,seval,rqs,h0,h3,hz];have hk:k=tzq (qvs p):=by
    rw[<-Dq]at hz;have:=zZ (q:=qvs p) (k:=k-1) (by rw[rO];omega) hz;rw[<-ek',ht]at this;exact this.symm
   rw[<-hk]
 .have hk:k=tzq (qvs p):=by
   obtain rfl:k=0:=by omega
   rw[<-ht];rfl
  simp (disch:=omega) only[wt,seval,rqs,h0,h3,hc];rw[<-hk]
theorem a4I {q:List Rat}:(q.map aN).take (tzq (qvs (q.map aN)))=cqs q:=by rw[dG,<-zcL];rfl
theorem OY (q:List Rat)(h:QB (2^40) (2^38) q):AC Tryz.prog 93 [cqw (q.map aN)] none [cqp q]:=by
 have m:=a5E (q.map aN) h.gq;rwa [a4I]at m
theorem dZ {q:List Rat}{i:Nat}(h:i<q.length):(q.map aN).getD i q0=aN (cfq q i):=by simp[cfq,List.getD,h]
structure SB (A:List Rat) (x:RQ) (B:Nat):Prop where
 l:A.length<=2^30
 c:∀i,i<A.length->qz (cfq A i)<=B
 e:∀i,qz (evq (A.drop i) (qv x))<=B
 hx:SzQ B x
 d:nv x.2≠0
 b:B<=2^34
 one:1<=B
structure TB (A:List Rat) (x:RQ) (n:Nat):Prop where
 t:au A=A
 l:A.length<=2^30
 n0:A.length≠0
 z:∀j,j<n->evq (qit A (qv x) j) (qv x)=0
 e:evq (qit A (qv x) n) (qv x)≠0
 v:∀k,k<=n->VB ((qit A (qv x) k).map aN) x (2^34)
theorem TB.le {A:List Rat}{x:RQ}{n:Nat}(h:TB A x n){k:Nat}(hk:k<=n):(qit A (qv x) k).length+k=A.length/\(qit A (qv x) k).length≠0/\au (qit A (qv x) k)=qit A (qv x) k :=
 a0V h.t h.n0 k λj hj=>h.z j (by omega)

def FW (F:Rat->Rat->Rat)(A B:List Rat):List Rat:=(List.range (max A.length B.length)).map λk=>F (cfq A k) (cfq B k)
theorem zS (F:Rat->Rat->Rat)(A B:List Rat):(FW F A B).length=max A.length B.length:=by simp[FW]
theorem jw {F:Rat->Rat->Rat}(hF:F 0 0=0)(A B:List Rat)(k:Nat):cfq (FW F A B) k=F (cfq A k) (cfq B k):=by
 by_cases h:k<max A.length B.length
 .simp only[FW,cfq,List.getD,zaD,zcN h,zbz,zaE]
 .rw[ig (by rw[zS];omega),ig (by omega),ig (by omega),hF]
def LH (A B:List Rat):List Rat:=FW (λa b=>a-b) A B
theorem pO (A B:List Rat)(k:Nat):cfq (LH A B) k=cfq A k-cfq B k:=jw (by decide +kernel) A B k
theorem a0I (q:Rat):qz (-q)=qz q:=by unfold qz;rw[Rat.neg_num,Rat.neg_den,sD]
theorem a8z (p q:Rat):qz (p-q)<=qz p+qz q+1:=by
 rw[zeJ];have:=a8B p (-q);rwa [a0I]at this
section
variable {a b k i n:Nat} {A:List Rat}
theorem WO (a:List Nat)(h:Nt (2^42) a):AC Tryz.prog 253 [cl a] none [cb (decide (nv a=0))]:=by
 have m:=Wn a h.2 h.1;refine AC.aj (rs:=[.tmp 2]) aV Tryz.func253 (by rfl) (by rfl) (by rfl) (by rfl) (by rfl) ?_;simp only[wt,seval];refine ah (m) (by rfl) (by simp) ?_;simp (disch:=omega) only[wt,seval];rw[zbA];constructor
 .intro e;exact NI.mp (by omega)
 .intro e;rw[NI.mpr e];rfl
theorem b1s (a b:Nat):a/Nat.gcd a b*b=Nat.lcm a b:=by
 unfold Nat.lcm;rcases za8 (Nat.gcd a b) with h|h
 .rw[h,Nat.div_zero,Nat.div_zero,zcP]
 .obtain⟨k,hk⟩:=zcz a b;have e:a/Nat.gcd a b=k:=Nat.div_eq_of_eq_mul_right h hk;rw[e];refine(Nat.div_eq_of_eq_mul_right h ?_).symm;rw[<-za1,<-hk]
theorem U2 {j:Nat}(ha:(wd a).length<=j)(hb:(wd b).length<=k):(wd (Nat.lcm a b)).length<=j+k :=
 zad (bF (zbO _ _)) (yV ha hb)
theorem b4t (ha:a≠0)(hb:b≠0):Nat.lcm a b≠0:=Nat.lcm_ne_zero ha hb
def Cm (l:List Nat):Nat:=l.foldl Nat.lcm 1
theorem xu {l:List Nat}(h:i<l.length):Cm (l.take (i+1))=Nat.lcm (Cm (l.take i)) (l.getD i 0):=by
 rw[zaS,zaf h,Cm,zfK];simp[Cm,List.getD,h]
theorem lI (l:List Nat)(K:Nat)(h0:∀x∈l,x≠0)(hK:∀x∈l,(wd x).length<=K):∀i,i<=l.length->Cm (l.take i)≠0/\(wd (Cm (l.take i))).length<=i*K+1/\∀j,j<i->l.getD j 0∣Cm (l.take i)
 |0,_=>⟨by simp[Cm],by rw[zaj];show (wd 1).length<=_;rw[show wd 1=[1] by decide +kernel];simp,λj hj=>by omega⟩
 |i+1,hi=>by
  obtain⟨a1,a2,a3⟩:=lI l K h0 hK i (by omega);have hm:l.getD i 0∈l:=by rw[List.getD,zaf (by omega),zaE];exact zaY _
  rw[xu (by omega)];refine⟨b4t a1 (h0 _ hm),?_,λj hj=>?_⟩
  .have:=U2 a2 (hK _ hm);rw[zbS];omega
  .rcases zbh j i with h|h
   .exact Nat.dvd_trans (a3 j h) (Nat.dvd_lcm_left _ _)
   .obtain rfl:j=i:=by omega
    exact Nat.dvd_lcm_right _ _
def uq (A:List Rat):List Nat:=A.map λc=>c.den
def lS (A:List Rat):Nat:=Cm (uq A)
def clr (A:List Rat):List Int:=A.map λc=>c.num*((lS A:Int)/(c.den:Int))
theorem vg (A:List Rat):(uq A).length=A.length:=zae _
theorem vF (A:List Rat):(clr A).length=A.length:=zae _
theorem FB (h:i<A.length):(uq A).getD i 0=(cfq A i).den:=by simp[uq,cfq,List.getD,h]
theorem Dn (h:i<A.length):cf (clr A) i=(cfq A i).num*((lS A:Int)/((cfq A i).den:Int)):=by simp[clr,cf,cfq,List.getD,h]
theorem IY:∀x∈uq A,x≠0:=λx hx=>by
 obtain⟨c,_,rfl⟩:=zaw.1 hx;exact c.den_nz
theorem QB.uq (h:QB n k A):∀x∈uq A,(wd x).length<=k:=λx hx=>by
 obtain⟨c,hc,rfl⟩:=zaw.1 hx;exact zad (jg c).2 (h.2 c hc)
theorem kG (A:List Rat):lS A≠0:=by
 have:=(lI (uq A) ((uq A).foldl (λm x=>max m (wd x).length) 0) IY (λx hx=>by
  have key:∀(l:List Nat) (m:Nat),m<=l.foldl (λm x=>max m (wd x).length) m/\∀x∈l,(wd x).length<=l.foldl (λm x=>max m (wd x).length) m:=by
   intro l
   induction l with
   |nil=>exact λm=>⟨zab _,λx hx=>nomatch hx⟩
   |cons a l ih =>
    intro m;have:=ih (max m (wd a).length);refine⟨zad (zdO _ _) this.1,λx hx=>?_⟩;rcases zaG.1 hx with rfl|hx
    .exact zad (zdz _ _) this.1
    .exact this.2 x hx
  exact(key (uq A) 0).2 x hx) (uq A).length (zab _)).1
 rwa [zac (zab _)]at this
theorem rJ (h:i<A.length):(cfq A i).den∣lS A:=by
 have:=(lI (uq A) (lS A+(uq A).foldl (λm x=>m+(wd x).length) 0) IY (λx hx=>by
  have key:∀(l:List Nat) (m:Nat),m<=l.foldl (λm x=>m+(wd x).length) m/\∀x∈l,(wd x).length<=l.foldl (λm x=>m+(wd x).length) m:=by
   intro l
   induction l with
   |nil=>exact λm=>⟨zab _,λx hx=>nomatch hx⟩
   |cons a l ih =>
    intro m;have:=ih (m+(wd a).length);refine⟨zad (by omega) this.1,λx hx=>?_⟩;rcases zaG.1 hx with rfl|hx
    .exact zad (by omega) this.1
    .exact this.2 x hx
  have:=(key (uq A) 0).2 x hx;omega) (uq A).length (zab _)).2.2 i (by rw[vg];exact h)
 rw[zac (zab _),FB h]at this;exact this
theorem og (h:QB n k A):(wd (lS A)).length<=n*k+1:=by
 have:=(lI (uq A) k IY h.uq (uq A).length (zab _)).2.1;rw[zac (zab _),vg]at this;have h2:=zag k h.1;show (wd (Cm (uq A))).length<=_;omega
theorem BK (A:List Rat)(i:Nat):(cf (clr A) i:Rat)=cfq A i*(lS A:Rat):=by
 by_cases h:i<A.length
 .rw[Dn h];obtain⟨m,hm⟩:=rJ h;have hd:((cfq A i).den:Int)≠0:=by have:=(cfq A i).den_nz;omega
  have e:(lS A:Int)/((cfq A i).den:Int)=(m:Int):=by
   rw[hm,zci,zbW _ hd]
  rw[e,zbw,zaP,hm,zc9];have h1:cfq A i=((cfq A i).num:Rat)/((cfq A i).den:Rat):=by rw[<-zcj,zcT]
  have h2:=jh (cfq A i).den_nz;generalize (cfq A i).num=u at *;generalize (cfq A i).den=v at *;rw[h1]
  grind
 .rw[kX (by rw[vF];omega),ig (by omega),ze7,zbG]
theorem a8f (h:QB n k A)(i:Nat):zl (cf (clr A) i)<=k+n*k+1:=by
 by_cases hi:i<A.length
 .rw[Dn hi];have h1:=fA (cfq A i).num ((lS A:Int)/((cfq A i).den:Int));have h2:=yH (a:=(lS A:Int)) (b:=((cfq A i).den:Int)) (zb4.mpr (rJ hi));have h3:=og h;have h4:=(jg (cfq A i)).1;have h5:qz (cfq A i)<=k:=by rw[oN hi];exact h.2 _ (zaY hi)
  rw[wz]at h2;omega
 .rw[kX (by rw[vF];omega),iC];omega
theorem QB.clr (h:QB n k A):PB n (k+n*k+1) (clr A):=.of (by rw[vF];exact h.1) (a8f h)
theorem a7r:cf (clr A) i=0↔cfq A i=0:=by
 have h:=BK A i;have hd:=jh (kG A);constructor
 .intro e;rw[e,ze7]at h;exact(zfr.mp h.symm).resolve_right hd
 .intro e;rw[e,zbG]at h;exact zcC.mp h
theorem Yl (A:List Rat){i:Nat}(h:i<A.length):((uq A).take (i+1)).map wd=((uq A).take i).map wd++[wd (cfq A i).den]:=by
 rw[zaS,zaf (by rw[vg];exact h),zav];have e:(uq A)[i]'(by rw[vg];exact h)=(cfq A i).den:=by
  have:=FB h;rw[List.getD,zaf (by rw[vg];exact h),zaE]at this;exact this
 simp only[Option.toList,zaC,zbv,e]
theorem b9B {n k:Nat}{A:List Rat}(h:QB n k A):CB (lS A) n (k+n*k+1) A where
 d:=kG A
 w:=Nat.le_trans (og h) (by omega)
 l:=h.1
 c:=λc hc=>by
  obtain⟨i,hi,rfl⟩:=List.getElem_of_mem hc;refine⟨cf (clr A) i,?_,a8f h i⟩;rw[BK,Rat.mul_div_cancel (jh (kG A)),cfq,List.getD_eq_getElem?_getD,List.getElem?_eq_getElem hi];rfl
end
section
variable {d M:Nat}
def Un (L:List Int)(D:Int):List Rat:=L.map λc:Int=>(c:Rat)/(D:Rat)
theorem X3 (L:List Int)(D:Int):(Un L D).length=L.length:=zae _
theorem Zh (x:Rat):(0:Rat)/x=0:=by rw[zeg,zbG]
theorem Ny (L:List Int)(D:Int)(k:Nat):cfq (Un L D) k=(cf L k:Rat)/(D:Rat):=by
 unfold Un cfq cf;rw[zax,zax,zaD];cases L[k]? with
 |none=>simp only[zdK,Option.getD_none];rw[ze7,Zh]
 |some x=>rfl
theorem b0u {c:Int}(hd:d≠0)(hc:zl c<=M)(hw:(wd d).length<=M):qz ((c:Rat)/(((d:Nat):Int):Rat))<=M:=by
 rw[zaP,<-zcj];exact XY hd hc hw
theorem QB.Un {n:Nat}{L:List Int}(h:PB n M L)(hd:d≠0)(hw:(wd d).length<=M):QB n M (Un L (d:Int)):=.of (by rw[X3];exact h.1) λi=>by
 rw[Ny];exact b0u hd (h.cf i) hw
theorem a3h (g:Nat->Int):∀(p:List Int) (k:Nat),((cv p g k:Int):Rat)=cvq (qp p) (λj=>(g j:Rat)) k
 |[],k=>by simp only[cv,qp,zbv,cvq];rfl
 |x::xs,0=>by
  have e:qp (x::xs)=(x:Rat)::qp xs:=rfl;rw[e];simp only[cv,cvq];rw[zcS,zbw,zdU]
 |x::xs,k+1=>by
  have e:qp (x::xs)=(x:Rat)::qp xs:=rfl;have ih:=a3h g xs k;rw[e];simp only[cv,cvq];rw[Rat.intCast_add,zbw,ih]
theorem qH (x y:List Int)(k:Nat):cfq (qp (fD x y)) k=cfq (gJ (qp x) (qp y)) k:=by
 rw[jm,gy,fE,a3h];exact xE _ _ λj=>(jm y j).symm
theorem a8H (A:List Rat):pq (qp (clr A))=PQ.C (lS A:Rat)*pq A:=PQ.ext λk=>by
 rw[PQ.gG,qZ,qZ,jm,BK,ze0]
theorem BJ (A B:List Rat)(k:Nat):cfq (Un (aO (fD (clr A) (clr B))) ((lS A*lS B:Nat):Int)) k=cfq (gJ A B) k:=by
 have h1:=jh (kG A);have h2:=jh (kG B);rw[Ny,bM,<-jm,qH];have e:pq (gJ (qp (clr A)) (qp (clr B)))=PQ.C ((lS A:Rat)*(lS B:Rat))*pq (gJ A B):=by
  rw[eG,a8H,a8H,PQ.qO,eG]
  ac_rfl
 have e2:=zaO (λf=>PQ.c f k) e;simp only[PQ.gG,qZ]at e2;rw[e2,zaP,zc9]
 grind
theorem Ws (A B:List Rat):gJ A B=(List.range (A.length+B.length)).map (cvq A (cfq B)):=rfl
theorem GZ (A B:List Rat)(k:Nat):cfq (gJ (au A) (au B)) k=cfq (gJ A B) k:=Yn (dQ A) (dQ B) k
theorem Fb {A B:List Rat}(h:au A=[]\/au B=[]):cqs (gJ A B)=[]:=by
 have hz:∀k,cfq (gJ A B) k=0:=λk=>by
  rw[<-GZ];rcases h with h|h
  .rw[h,fE];rfl
  .rw[h,fE,Np]
 have:tzq (gJ A B)=0:=dH.mpr hz;rw[cqs,show au (gJ A B)=[] by rw[au,this,zaj]];rfl
end

def uQ (c:Rat)(n:Nat):List Rat:=List.replicate n 0++[c]
theorem a1Q (c:Rat)(n:Nat):(uQ c n).length=n+1:=by simp[uQ]
theorem Yo (n:Nat)(c:Rat):(uQ c n).map aN=(List.replicate n 0).map aN++[aN c]:=by rw[uQ,zav];rfl
theorem a0q (n:Nat):(List.replicate (n+1) (0:Rat)).map aN=(List.replicate n (0:Rat)).map aN++[aN 0]:=by
 rw[zdJ,zav];rfl
theorem VA {c:Rat}{n k:Nat}(h:qz c<=k)(hk:1<=k):QB (n+1) k (uQ c n):=⟨by rw[a1Q];exact zab _,λx hx=>by
 rcases zap.1 hx with h1|h1
 .rw[zca h1,zy];exact hk
 .rw[zb0.1 h1];exact h⟩
end Go.Proofs.YtdpngipofekcfaaGreat
