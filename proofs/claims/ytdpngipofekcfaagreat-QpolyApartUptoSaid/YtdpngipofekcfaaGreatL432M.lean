/-
 Contracts of the functions that the law reaches.
-/
import Derived.Test.YtdpngipofekcfaaGreatL421M
import Derived.Test.YtdpngipofekcfaaGreatAbsZ9M
set_option maxHeartbeats 2000000
namespace Go.Proofs.YtdpngipofekcfaaGreat
open Go Go.Proofs Go.AL
set_option linter.unusedSimpArgs false
set_option linter.unusedVariables false
set_option linter.defProp false
def hsr (n b:Nat):List AV:=(List.range n).map fun k=>AV.hs (k+b) 1
theorem jw (n b:Nat):(hsr n b).length=n:=by simp[hsr]
theorem rY {n b i:Nat}(h:i<n):(hsr n b).getD i AV.undef=.hs (i+b) 1:=by simp[hsr,List.getD,h]
def AK (n:Nat)(X:Nat→List (List IV))(H:AL.Hp):Prop:=∃ a1 r,H 900000=.nst 1 41 (.hs 900001 a1::r)∧H 900001=.nst a1 27 (hsr n 1000000)∧∀ k<n,H (k+1000000)=.blk false 1 148 1 (X k)
def Oth (H H':AL.Hp):Prop:=∀ u,(1000≤u∧u<1000000∧u≠900001)∨3000000≤u→H' u=H u
def mkr (k:Nat):List IV:=[.int .u64 ((k:Int)+1000)]
def rU (k j:Nat)(l:List (List IV)):List (List IV):=List.replicate j (mkr k)++l.drop j
theorem FT (k:Nat)(l:List (List IV)):rU k 0 l=l:=by simp[rU]
theorem Lp {k j:Nat}{l:List (List IV)}(h:j≤l.length):(rU k j l).length=l.length:=by simp[rU];omega
theorem Lr {k j:Nat}{l:List (List IV)}:(rU k j l).getD j []=l.getD j []:=by
 rw[rU,List.getD,List.getElem?_append_right (by simp),List.length_replicate,Nat.sub_self,List.getElem?_drop,Nat.add_zero];rfl
theorem Lm {k j:Nat}{l:List (List IV)}(h:j<l.length):(rU k j l).set j (mkr k)=rU k (j+1) l:=by
 have e:l.drop j=l.getD j []::l.drop (j+1):=by rw[List.drop_eq_getElem_cons h];simp[List.getD,h]
 rw[rU,rU,List.set_append_right _ _ (by simp),List.length_replicate,Nat.sub_self,e,List.set_cons_zero,List.replicate_succ',List.append_assoc];rfl
theorem Xf {k:Nat}{l:List (List IV)}:rU k l.length l=List.replicate l.length (mkr k):=by simp[rU]
theorem Ig {H H':AL.Hp}(h:Oth H H'){u:Nat}(hu:u≠900000∧(u<1000∨u=900001∨1000000≤u)∧u<3000000)(c:HC):Oth H (bg H' u c):=fun v hv=>by
 rw[ak _ _ (by omega)];exact h v hv
theorem mQ {i:Nat}{c:Int}(h:i≤1000000)(h0:0≤c)(hc:c≤1000):IntKind.u64.wrap (IntKind.u64.wrap (i:Int)+c)=(i:Int)+c:=by rw[wrap_u64 (n:=(i:Int)) (by omega),wrap_u64 (by omega)]
theorem a9r {r:List IV}{y:IV}(h:r.length=1):splice r 0 [y]=[y]:=by
 match r,h with
 | [x],_=>rfl
def A1 (n:Nat)(X:Nat→List (List IV))(H0:AL.Hp)(f:AL.Fr)(H:AL.Hp):Prop:=f 0=.hp 900000 1 0 0∧AK n (fun k=>List.replicate (X k).length (mkr k)) H∧Oth H0 H
set_option maxRecDepth 8000 in
set_option maxHeartbeats 4000000 in
theorem a5w (n:Nat)(X:Nat→List (List IV))(hn:n≤100000)(hX:∀ k<n,(X k).length≤2^41∧∀ r∈X k,r.length=1)(H0:AL.Hp)(h0:AK n X H0) :
  ∃ c,Tryz.f119.body.bind (kQ 0)=some c∧@AWs zi0 Tryz.prog (A1 n X H0) 2 c (fun _ _ _=>False) (oZ [.hp 900000 1 0 0]) H0:=by
 refine⟨_,rfl,?_⟩;simp only[wt,seval,aV];refine aH (fun f H=>∃ i:Nat,i≤n∧f 0=.hp 900000 1 0 0∧f 3=.iv (.int .i64 i)∧AK n (fun k=>if k<i then List.replicate (X k).length (mkr k) else X k) H∧Oth H0 H) (fun f H=>(n-aY f 3).toNat) ?_ ?_
 ·exact⟨0,by omega,by simp only[wt,seval],by simp only[wt,seval];try rfl,by simpa using h0,fun u hu=>rfl⟩
 rintro f H ⟨i,hi,g0,g3,hP,hO⟩;rw[aB g3];obtain⟨a1,r,k0,k1,kx⟩:=id hP;simp (disch:=omega) only[wt,seval,g0,g3,k0,k1,jw];refine aQ (fun hlt=>?_) (fun hlt=>?_)
 ·have hin:i<n:=by omega
  have hXi:=hX i hin;simp (disch:=omega) only[wt,seval];refine aH (fun f H=>∃ j:Nat,j≤(X i).length∧f 0=.hp 900000 1 0 0∧f 3=.iv (.int .i64 i)∧f 4=.iv (.int .i64 j)∧AK n (fun k=>if k<i then List.replicate (X k).length (mkr k) else if k=i then rU i j (X i) else X k) H∧Oth H0 H) (fun f H=>((X i).length-aY f 4).toNat) ?_ ?_
  ·refine⟨0,by omega,by simp only[wt,seval,g0],by simp only[wt,seval,g3],by simp only[wt,seval];try rfl,⟨a1,r,k0,k1,fun k hk=>?_⟩,hO⟩;rw[kx k hk];simp only;by_cases h1:k<i
   ·rw[if_pos h1,if_pos h1]
   ·rw[if_neg h1,if_neg h1,FT];by_cases h2:k=i
    ·subst h2;rw[if_pos rfl]
    ·rw[if_neg h2]
  clear g0 g3 k0 k1 kx hP hO;clear f;rintro f H ⟨j,hj,g0,g3,g4,hP,hO⟩;rw[aB g4];obtain⟨a1,r,k0,k1,kx⟩:=id hP;have hx:H (i+1000000)=.blk false 1 148 1 (rU i j (X i)):=by simpa using kx i hin
  have hl:(rU i j (X i)).length=(X i).length:=Lp hj;simp (disch:=omega) only[wt,seval,g0,g3,g4,k0,k1,jw,rY hin,hx,hl,Nat.add_zero,EG];refine aQ (fun hlj=>?_) (fun hlj=>?_)
  ·have hjl:j<(X i).length:=by omega
   have hr1:((X i).getD j []).length=1:=by rw[List.getD,List.getElem?_eq_getElem hjl];exact hXi.2 _ (List.getElem_mem hjl)
   simp (disch:=omega) only[wt,seval,g0,g3,g4,k0,k1,jw,rY hin,hx,hl,Nat.add_zero,EG];rw[mQ (by omega) (by omega) (by omega),Lr,a9r hr1,show [IV.int IntKind.u64 ((i:Int)+1000)]=mkr i from rfl,Lm hjl];refine⟨⟨j+1,by omega,by omega,⟨a1,r,?_,?_,fun k hk=>?_⟩,Ig hO ⟨by omega,by omega,by omega⟩ _⟩,by omega⟩
   ·rw[ak _ _ (by omega)];exact k0
   ·rw[ak _ _ (by omega)];exact k1
   ·by_cases h2:k=i
    ·subst h2;rw[au];simp only[Nat.lt_irrefl,if_false,if_true]
    ·rw[ak _ _ (by omega),kx k hk];simp only;rw[if_neg h2,if_neg h2]
  ·simp (disch:=omega) only[wt,seval,g0,g3];obtain rfl:j=(X i).length:=by omega
   refine⟨⟨i+1,by omega,by omega,⟨a1,r,k0,k1,fun k hk=>?_⟩,hO⟩,by omega⟩;rw[kx k hk];simp only;by_cases h1:k<i
   ·rw[if_pos h1,if_pos (by omega)]
   ·by_cases h2:k=i
    ·subst h2;rw[if_neg h1,if_pos rfl,if_pos (by omega),Xf]
    ·rw[if_neg h1,if_neg h2,if_neg (by omega)]
 ·simp (disch:=omega) only[wt,seval,cZ];obtain rfl:i=n:=by omega
  refine⟨g0,⟨a1,r,k0,k1,fun k hk=>?_⟩,hO⟩;rw[kx k hk];simp only;rw[if_pos hk]
set_option linter.defProp false
theorem a1x {o:Option Code}{body c:Code}(ho:o=some body)(hc:o.bind (kQ 0)=some c):c=body:=by
 subst ho;exact(Option.some.inj hc).symm
structure P2 (n:Nat) (len:Nat→Nat) (vs:List Value) (H0:AL.Hp) (k:Nat) (gs:List Value) (H:AL.Hp) (β:Nat→Value):Prop where
 vl:vs.length=n
 gl:gs.length=2*k
 box:∃ a1 r,H 900000=.nst 1 41 (.hs 900001 a1::r)∧H 900001=.blk false a1 27 1 (dG vs)
 mkk:∀ j<n,Mk H β (j+1000000) 148 1 (mkr j) (len j) (vs.getD j Go.undef)
 gr:∀ j<2*k,∃ h m,(h=j/2+1000000∨h=j+2000000)∧m≤2^42∧Mk H β h 148 1 (mkr (j/2)) m (gs.getD j Go.undef)
 oth:Oth H0 H
def b0R (k:Nat):List (List IV):=List.replicate 40 (mkr k)
def z40:List (List IV):=List.replicate 40 [.int .u64 0]
theorem O1:z40.length=40:=by simp[z40]
theorem a3l {j:Nat}(h:j<40):(z40.getD j []).length=1:=by rw[z40,List.getD,List.getElem?_replicate,if_pos h];rfl
theorem wJ {vs:List Value}{i:Nat}(h:i<vs.length):(dG vs).getD i []=[.raw (vs.getD i Go.undef)]:=by simp[dG,List.getD,h]
theorem gU (vs:List Value):(dG vs).length=vs.length:=by simp[dG]
theorem P2.same {n:Nat}{len:Nat→Nat}{vs:List Value}{H0:AL.Hp}{k:Nat}{gs:List Value}{H H':AL.Hp}{β β':Nat→Value}(p:P2 n len vs H0 k gs H β)(s:qY H β H' β')(h:∀ u,1000≤u→H' u=H u):P2 n len vs H0 k gs H' β':=by
 refine⟨p.vl,p.gl,?_,fun j hj=>(p.mkk j hj).same s (h _ (by omega)),fun j hj=>?_,fun u hu=>(h u (by omega)).trans (p.oth u hu)⟩
 ·obtain⟨a1,r,k0,k1⟩:=p.box;exact⟨a1,r,(h _ (by omega)).trans k0,(h _ (by omega)).trans k1⟩
 ·obtain⟨h',m,e,hm,q⟩:=p.gr j hj;exact⟨h',m,e,hm,q.same s (h _ (by omega))⟩
theorem P2.step {n:Nat}{len:Nat→Nat}{vs:List Value}{H0:AL.Hp}{k:Nat}{gs:List Value}{H H':AL.Hp}{β β':Nat→Value}(p:P2 n len vs H0 k gs H β)(hkn:k<n)(hn:n≤100000){h:Nat}(hk:(h=k+1000000∧∀ n' v,Mk H β h 148 1 (mkr k) n' v→Mk H' β' h 148 1 (mkr k) n' v)∨h=2*k+2000000∨h=2*k+1+2000000)(hl:h<3000000)(e:∀ u,u≠h→H' u=H u∧β' u=β u):P2 n len vs H0 k gs H' β':=by
 have hh:1000000≤h:=by omega
 refine⟨p.vl,p.gl,?_,fun j hj=>?_,fun j hj=>?_,fun u hu=>?_⟩
 ·obtain⟨a1,r,k0,k1⟩:=p.box;exact⟨a1,r,(e _ (by omega)).1.trans k0,(e _ (by omega)).1.trans k1⟩
 ·by_cases ej:j+1000000=h
  ·rcases hk with ⟨rfl,hk⟩|hk|hk
   ·obtain rfl:j=k:=by omega
    exact hk _ _ (p.mkk j hj)
   ·omega
   ·omega
  ·exact(p.mkk j hj).congr (e _ ej).1 (e _ ej).2
 ·obtain⟨h',m,e',hm,q⟩:=p.gr j hj;have ne:h'≠h:=by omega
  exact⟨h',m,e',hm,q.congr (e _ ne).1 (e _ ne).2⟩
 ·exact(e u (by omega)).1.trans (p.oth u hu)
theorem P2.snoc {n:Nat}{len:Nat→Nat}{vs:List Value}{H0:AL.Hp}{k:Nat}{gs:List Value}{H:AL.Hp}{β:Nat→Value}(p:P2 n len vs H0 k gs H β){g v:Value}{hg hv m m':Nat}(h1:Mk H β hg 148 1 (mkr k) m g)(e1:hg=k+1000000∨hg=2*k+2000000)(b1:m≤2^42)(h2:Mk H β hv 148 1 (mkr k) m' v)(e2:hv=k+1000000∨hv=2*k+1+2000000)(b2:m'≤2^42):P2 n len vs H0 (k+1) (gs++[g,v]) H β:=by
 refine⟨p.vl,by simp[p.gl];omega,p.box,p.mkk,fun j hj=>?_,p.oth⟩;by_cases a:j<2*k
 ·obtain⟨h',m,e',hm,q⟩:=p.gr j a;refine⟨h',m,e',hm,?_⟩;rwa [List.getD,List.getElem?_append_left (by rw[p.gl];exact a)]
 ·by_cases b:j=2*k
  ·subst b;refine⟨hg,m,by omega,b1,?_⟩;rw[List.getD,List.getElem?_append_right (by rw[p.gl];exact Nat.le_refl _),p.gl,Nat.sub_self,show 2*k/2=k by omega];exact h1
  ·obtain rfl:j=2*k+1:=by omega
   refine⟨hv,m',by omega,b2,?_⟩;rw[List.getD,List.getElem?_append_right (by rw[p.gl];omega),p.gl,show 2*k+1-2*k=1 by omega,show (2*k+1)/2=k by omega];exact h2
set_option maxRecDepth 8000 in
set_option maxHeartbeats 4000000 in
theorem a1H (n:Nat)(X:Nat→List (List IV))(hn:n≤100000)(hX:∀ k<n,(X k).length≤2^41∧∀ r∈X k,r.length=1)(H0:AL.Hp)(h0:AK n X H0):ACI Tryz.prog 119 [.hp 900000 1 0 0] H0 (fun x H'=>x=.iv (.bool true)∧Oth H0 H'):=by
 refine ACI.a7q zi0 (rs:=[.tmp 2]) Tryz.func119 (by rfl) (by rfl) (by rfl) (by rfl) ⟨_,H0,rfl,fun _ _=>rfl⟩ fun β=>?_;obtain⟨c,hc,h1⟩:=a5w n X hn hX H0 h0;obtain rfl:=a1x rfl hc;refine SB.seg zi0 aX 2 (by rfl) (by rfl) h1 (by rfl) ?_;clear h1 hc h0;intro f H β' hA hs;clear hs β
 revert β'
 intro β;obtain⟨g0,⟨a1,r,k0,k1,kx⟩,hO⟩:=hA;refine SB.ent fun G M w0 D0 a w R=>?_;obtain⟨vs,hvl,hvv,R1⟩:=R.Rj k1;refine⟨_,_,_,?_,R1⟩;rw[jw]at hvl hvv;have p2:P2 n (fun k=>(X k).length) vs H0 0 [] (bg H 900001 (.blk false a1 27 1 (dG vs))) β:=by
  refine⟨hvl,rfl,⟨a1,r,by rw[ak _ _ (by omega)];exact k0,au _ _ _⟩,fun j hj=>?_,fun j hj=>by omega,Ig hO ⟨by omega,by omega,by omega⟩ _⟩;have:=hvv j hj;rw[rY hj]at this;simp only[aj]at this;rw[kx j hj]at this;have e:=this.2 rfl;have ho:=R.own _ _ _ _ _ (kx j hj);refine Mk.congr (H:=H) (β:=β) ?_ (ak _ _ (by omega)) rfl;rcases ho.2 with ⟨q1,q2⟩|⟨g,cap,cur,q1,_⟩
  ·refine⟨1,_,none,0,kx j hj,Nat.le_refl _,?_,?_⟩
   ·rw[q2];have:=congrArg List.length q1;simp at this;rw[this];rfl
   ·rw[e,q2];have:=congrArg List.length q1;simp at this;rw[this];rfl
  ·rw[List.length_replicate]at q1;exact⟨1,_,some ⟨g,0,none⟩,cap,kx j hj,Nat.le_refl _,q1,by rw[e,q1]⟩
 clear R R1 hvv hvl k0 k1 kx hO;generalize bg H 900001 (.blk false a1 27 1 (dG vs))=H1 at p2;refine SB.seg zi0 aX (S:=fun f H=>f 0=.hp 900000 1 0 0∧f 5=.jA∧H=H1) 1 (by rfl) (by rfl) ?_ (by rfl) ?_
 ·simp only[wt,seval,aV,cZ,g0]
 clear g0 f;rintro f H β1 ⟨g0,g5,rfl⟩ hs;replace p2:=p2.same hs fun u _=>rfl
 clear hs β;refine SB.weak (.nil 5 5 27 1 g5 (.refl _ _)) fun β hs=>?_;replace p2:=p2.same hs fun u hu=>ak _ _ (by omega)
 clear hs β1;have q0:fB f H 5 5 0=.hp 900000 1 0 0:=by rw[fB];exact g0
 have q5:∃ st,fB f H 5 5 5=.hs 5 st∧fM H 5 27 1 5=.blk false st 27 1 (dG []):=⟨_,rfl,au _ _ _⟩;generalize fB f H 5 5=f1 at q0 q5;generalize fM H 5 27 1=H2 at p2 q5;clear g0 g5 f H;refine SB.seq (S:=fun f H β=>∃ gs,f 0=.hp 900000 1 0 0∧P2 n (fun k=>(X k).length) vs H0 n gs H β∧∃ st,f 5=.hs 5 st∧H 5=.blk false st 27 1 (dG gs)) ?_ ?_
 ·obtain⟨st5,q5,q5H⟩:=q5;refine SB.seg zi0 aX (S:=fun f H=>f 0=.hp 900000 1 0 0∧f 6=.iv (.int .i64 0)∧f 5=.hs 5 st5∧H=H2) 1 (by rfl) (by rfl) ?_ (by rfl) ?_
  ·simp only[wt,seval,aV,cZ,q0,q5]
  clear q0 q5 f1;rintro f H β1 ⟨g0,g6,g5,rfl⟩ hs;replace p2:=p2.same hs fun u _=>rfl
  clear hs β;refine SB.block (SB.loop (fun f H β=>∃ k gs st,k≤n∧f 0=.hp 900000 1 0 0∧f 6=.iv (.int .i64 k)∧f 5=.hs 5 st∧H 5=.blk false st 27 1 (dG gs)∧P2 n (fun k=>(X k).length) vs H0 k gs H β) (fun f=>(n-aY f 6).toNat) ⟨0,[],st5,by omega,g0,g6,g5,q5H,p2⟩ ?_);clear g0 g5 g6 q5H p2 st5 H β1;clear f;rintro f H β ⟨k,gs,st,hk,g0,g6,g5,h5,p⟩;rw[aB g6];obtain⟨a1,r,k0,k1⟩:=p.box;refine SB.seq (S:=fun f H' β'=>f 0=.hp 900000 1 0 0∧f 6=.iv (.int .i64 k)∧f 5=.hs 5 st∧k<n∧H'=H∧qY H β H' β') (SB.aw zi0 aX (by rfl) (by rfl) (Qa:=fun e f H'=>f 0=.hp 900000 1 0 0∧f 6=.iv (.int .i64 k)∧f 5=.hs 5 st∧H'=H∧((e=.normal∧k<n)∨(e=.exit 4∧k=n))) ?_ ?_) ?_
  ·simp (disch:=omega) only[wt,seval,g0,g6,k0,k1,gU,p.vl];refine aQ (fun hlt=>?_) (fun hlt=>?_)
   ·simp only[wt,seval,g0,g6,g5];exact .inl (by omega)
   ·simp only[wt,seval,g0,g6,g5];exact .inr (by omega)
  ·rintro e f' H' β' ⟨h1,h2,h3,rfl,he⟩ hs;rcases he with ⟨rfl,he⟩|⟨rfl,rfl⟩
   ·exact⟨h1,h2,h3,he,rfl,hs⟩
   ·refine⟨gs,h1,p.same hs fun _ _=>rfl,st,h3,h5⟩
  clear g0 g6 g5 f;rintro f H' β' ⟨g0,g6,g5,hlt,rfl,hs⟩;replace p:=p.same hs fun _ _=>rfl
  clear hs β;refine SB.seq (S:=fun f H β=>∃ gs st,f 0=.hp 900000 1 0 0∧f 6=.iv (.int .i64 k)∧f 5=.hs 5 st∧H 5=.blk false st 27 1 (dG gs)∧P2 n (fun k=>(X k).length) vs H0 (k+1) gs H β) (SB.block ?_) ?_
  ·obtain⟨v,hv⟩:∃ v,vs.getD k Go.undef=v:=⟨_,rfl⟩;have hXk:=hX k hlt;refine SB.seg zi0 aX (S:=fun f H=>f 0=.hp 900000 1 0 0∧f 6=.iv (.int .i64 k)∧f 5=.hs 5 st∧f 7=.iv (.raw v)∧H=H') 1 (by rfl) (by rfl) ?_ (by rfl) ?_
   ·simp (disch:=omega) only[wt,seval,aV,cZ,g0,g6,g5,k0,k1,gU,p.vl,wJ (show k<vs.length by rw[p.vl];exact hlt),hv]
   clear g0 g6 g5 f;rintro f H β ⟨g0,g6,g5,g7,rfl⟩ hs;replace p:=p.same hs fun _ _=>rfl
   clear hs β';have hm0:=p.mkk k hlt;rw[hv]at hm0;refine SB.seq (S:=fun f H β=>f 0=.hp 900000 1 0 0∧f 6=.iv (.int .i64 k)∧f 5=.hs 5 st∧H 5=.blk false st 27 1 (dG gs)∧P2 n (fun k=>(X k).length) vs H0 k gs H β∧∃ g hg,f 7=.iv (.raw g)∧(hg=k+1000000∨hg=2*k+2000000)∧Mk H β hg 148 1 (mkr k) ((X k).length+5) g) ?_ ?_
   ·refine SB.seg zi0 aX (S:=fun f H'=>f 0=.hp 900000 1 0 0∧f 6=.iv (.int .i64 k)∧f 5=.hs 5 st∧f 7=.iv (.raw v)∧f 8=.iv (.int .i64 0)∧H'=H) 1 (by rfl) (by rfl) ?_ (by rfl) ?_
    ·simp only[wt,seval,aV,cZ,g0,g6,g5,g7]
    clear g0 g6 g5 g7 f;rintro f H' β' ⟨g0,g6,g5,g7,g8,rfl⟩ hs;replace p:=p.same hs fun _ _=>rfl
    replace hm0:=hm0.same hs rfl;clear hs β;refine SB.block (SB.loop (fun f H β=>∃ j g hg,j≤5∧f 0=.hp 900000 1 0 0∧f 6=.iv (.int .i64 k)∧f 5=.hs 5 st∧f 8=.iv (.int .i64 (j:Nat))∧H 5=.blk false st 27 1 (dG gs)∧P2 n (fun k=>(X k).length) vs H0 k gs H β∧f 7=.iv (.raw g)∧(hg=k+1000000∨hg=2*k+2000000)∧Mk H β hg 148 1 (mkr k) ((X k).length+j) g) (fun f=>(5-aY f 8).toNat) ⟨0,v,k+1000000,by omega,g0,g6,g5,g8,h5,p,g7,.inl rfl,hm0⟩ ?_);clear g0 g6 g5 g7 g8 h5 p hm0 k0 k1 f H' β';rintro f H β ⟨j,g,hg,hj,g0,g6,g5,g8,h5,p,g7,hg7,hm⟩;rw[aB g8];refine SB.seq (S:=fun f H' β'=>f 0=.hp 900000 1 0 0∧f 6=.iv (.int .i64 k)∧f 5=.hs 5 st∧f 8=.iv (.int .i64 j)∧f 7=.iv (.raw g)∧j<5∧H'=H∧qY H β H' β') (SB.aw zi0 aX (by rfl) (by rfl) (Qa:=fun e f H'=>f 0=.hp 900000 1 0 0∧f 6=.iv (.int .i64 k)∧f 5=.hs 5 st∧f 8=.iv (.int .i64 j)∧f 7=.iv (.raw g)∧H'=H∧((e=.normal∧j<5)∨(e=.exit 6∧j=5))) ?_ ?_) ?_
    ·simp (disch:=omega) only[wt,seval,g8];refine aQ (fun hlt=>?_) (fun hlt=>?_)
     ·simp only[wt,seval,g0,g6,g5,g7,g8];exact .inl (by omega)
     ·simp only[wt,seval,g0,g6,g5,g7,g8];exact .inr (by omega)
    ·rintro e f' H' β' ⟨h1,h2,h3,h4,h6,rfl,he⟩ hs;rcases he with ⟨rfl,he⟩|⟨rfl,rfl⟩
     ·exact⟨h1,h2,h3,h4,h6,he,rfl,hs⟩
     ·exact⟨h1,h2,h3,h5,p.same hs fun _ _=>rfl,g,hg,h6,hg7,hm.same hs rfl⟩
    clear g0 g6 g5 g7 g8 f;rintro f H' β' ⟨g0,g6,g5,g8,g7,hj5,rfl,hs⟩;replace p:=p.same hs fun _ _=>rfl
    replace hm:=hm.same hs rfl;clear hs β;refine SB.seq (S:=fun f H β=>∃ g hg,f 0=.hp 900000 1 0 0∧f 6=.iv (.int .i64 k)∧f 5=.hs 5 st∧f 8=.iv (.int .i64 j)∧H 5=.blk false st 27 1 (dG gs)∧P2 n (fun k=>(X k).length) vs H0 k gs H β∧f 7=.iv (.raw g)∧(hg=k+1000000∨hg=2*k+2000000)∧Mk H β hg 148 1 (mkr k) ((X k).length+(j+1)) g) (SB.block (SB.region ?_)) ?_
    ·refine LB.ops zi0 (l1:=[_,_,_,_,_]) (l2:=[_,_]) (K:=fun f H2 _=>f 0=.hp 900000 1 0 0∧f 6=.iv (.int .i64 k)∧f 5=.hs 5 st∧f 8=.iv (.int .i64 j)∧f 68=.iv (.raw g)∧∃ st',f 72=.hs 72 st'∧H2 72=.blk false st' 148 1 (List.replicate 1 (mkr k))∧∀ u,u≠72→H2 u=H' u) rfl (by decide) ?_ ?_
     ·simp (disch:=omega) only[wt,seval,g0,g6,g5,g7,g8];refine⟨_,rfl,?_,fun u hu=>ak _ _ hu⟩;rw[mQ (by omega) (by omega) (by omega)];rfl
     clear g0 g6 g5 g7 g8 f;rintro f H lg β ⟨g0,g6,g5,g8,g68,st',g72,h72,hu⟩ hs;replace p:=p.same hs fun u h=>hu u (by omega)
     replace hm:=hm.same hs (hu _ (by omega));have h5':H 5=.blk false st 27 1 (dG gs):=(hu 5 (by omega)).trans h5;clear hu hs h5 H' β';refine LB.app (zi:=zi0) (2*k+2000000) (k:=1) (c:=st'=st') (rd:=[72]) hm (x:=.tmp 68) (y:=.tmp 72) g68 (by show fO H (f 72)=_;rw[g72];simp only[fO,h72]) rfl rfl rfl rfl (by decide) (by rw[a6r]) (by rw[a6r]) (by rw[Oa]) (by rw[Oa]) rfl (by omega) (by rw[Oa];show _*8≤_;omega) (by simp only[maxLen];omega) ?_ ?_
     ·intro v' H1 β1 hu hm1 hkeep;have h51:H1 5=.blk false st 27 1 (dG gs):=(hu 5 (by omega)).1.trans h5';have p1:P2 n (fun k=>(X k).length) vs H0 k gs H1 β1:=by
       refine p.step hlt hn (h:=hg) ?_ (by omega) hu;rcases hg7 with rfl|rfl
       ·exact .inl ⟨rfl,hkeep⟩
       ·exact .inr (.inl rfl)
      refine LB.ops zi0 (l1:=[_]) (l2:=[]) (K:=fun f H2 _=>f 0=.hp 900000 1 0 0∧f 6=.iv (.int .i64 k)∧f 5=.hs 5 st∧f 8=.iv (.int .i64 j)∧f 7=.iv (.raw v')∧H2=H1) rfl (by decide) (by simp only[wt,seval,g0,g6,g5,g8]) ?_;rintro f' H2 lg' β2 ⟨g0,g6,g5,g8,g7,rfl⟩ hs;exact LB.nil ⟨v',hg,g0,g6,g5,g8,h51,p1.same hs fun _ _=>rfl,g7,hg7,hm1.same hs rfl⟩
     ·intro v' H1 β1 hu hm1;have h51:H1 5=.blk false st 27 1 (dG gs):=(hu 5 (by omega)).1.trans h5';have p1:P2 n (fun k=>(X k).length) vs H0 k gs H1 β1:=p.step hlt hn (h:=2*k+2000000) (.inr (.inl rfl)) (by omega) hu;refine LB.ops zi0 (l1:=[_]) (l2:=[]) (K:=fun f H2 _=>f 0=.hp 900000 1 0 0∧f 6=.iv (.int .i64 k)∧f 5=.hs 5 st∧f 8=.iv (.int .i64 j)∧f 7=.iv (.raw v')∧H2=H1) rfl (by decide) (by simp only[wt,seval,g0,g6,g5,g8]) ?_;rintro f' H2 lg' β2 ⟨g0,g6,g5,g8,g7,rfl⟩ hs;exact LB.nil ⟨v',2*k+2000000,g0,g6,g5,g8,h51,p1.same hs fun _ _=>rfl,g7,.inr rfl,hm1.same hs rfl⟩
    ·clear g0 g6 g5 g7 g8 h5 p hm f H' β';rintro f H β ⟨g,hg,g0,g6,g5,g8,h5,p,g7,hg7,hm⟩;refine SB.aw zi0 aX (by rfl) (by rfl) (Qa:=fun e f H'=>e=.normal∧f 0=.hp 900000 1 0 0∧f 6=.iv (.int .i64 k)∧f 5=.hs 5 st∧f 8=.iv (.int .i64 ((j+1:Nat):Int))∧f 7=.iv (.raw g)∧H'=H) ?_ ?_
     ·simp (disch:=omega) only[wt,seval,g0,g6,g5,g7,g8]
      try rfl
     ·rintro e f' H' β' ⟨rfl,h1,h2,h3,h4,h6,rfl⟩ hs;exact⟨⟨j+1,g,hg,by omega,h1,h2,h3,h4,h5,p.same hs fun _ _=>rfl,h6,hg7,hm.same hs rfl⟩,by show (5-aY f' 8).toNat<_;rw[aB h4];omega⟩
   ·clear g0 g6 g5 g7 h5 p hm0 k0 k1 f H β;rintro f H β ⟨g0,g6,g5,h5,p,g,hg,g7,hg7,hm⟩;refine SB.seg zi0 aX (S:=fun f H'=>f 0=.hp 900000 1 0 0∧f 6=.iv (.int .i64 k)∧f 5=.hs 5 st∧f 7=.iv (.raw g)∧∃ st',f 9=.hs 74 st'∧H' 74=.blk false st' 148 1 (b0R k)∧∀ u,u≠74→H' u=H u) 2 (by rfl) (by rfl) ?_ (by rfl) ?_
    ·simp (disch:=omega) only[wt,seval,aV];refine aH (fun f H'=>∃ (j st':Nat),j≤40∧f 0=.hp 900000 1 0 0∧f 6=.iv (.int .i64 k)∧f 5=.hs 5 st∧f 7=.iv (.raw g)∧f 9=.hs 74 st'∧f 10=.iv (.int .i64 j)∧H' 74=.blk false st' 148 1 (rU k j z40)∧∀ u,u≠74→H' u=H u) (fun f H=>(40-aY f 10).toNat) ?_ ?_
     ·exact⟨0,(H 74).stamp+1,by omega,by simp only[wt,seval,g0],by simp only[wt,seval,g6],by simp only[wt,seval,g5],by simp only[wt,seval,g7],by simp only[wt,seval],by simp only[wt,seval];try rfl,by rw[au,FT];rfl,fun u hu=>ak _ _ hu⟩
     clear g0 g6 g5 g7 f;rintro f H' ⟨j,st',hj,g0,g6,g5,g7,g9,g10,h74,hu⟩;rw[aB g10];have hl:(rU k j z40).length=40:=by rw[Lp (by rw[O1];exact hj),O1]
     simp (disch:=omega) only[wt,seval,g9,g10,h74,hl];refine aQ (fun hlt=>?_) (fun hlt=>?_)
     ·have hj':j<40:=by omega
      simp (disch:=omega) only[wt,seval,g0,g6,g5,g7,g9,g10,h74,hl];rw[mQ (by omega) (by omega) (by omega),Lr,a9r (a3l hj'),show [IV.int IntKind.u64 ((k:Int)+1000)]=mkr k from rfl,Lm (by rw[O1];exact hj')];exact⟨⟨j+1,st',by omega,rfl,by omega,rfl,fun u h=>(ak _ _ h).trans (hu u h)⟩,by omega⟩
     ·simp (disch:=omega) only[wt,seval,cZ,g0,g6,g5,g7,g9];obtain rfl:j=40:=by omega
      exact⟨st',rfl,h74,hu⟩
    clear g0 g6 g5 g7 f;rintro f H' β' ⟨g0,g6,g5,g7,st',g9,h74,hu⟩ hs;replace p:=p.same hs fun u h=>hu u (by omega)
    replace hm:=hm.same hs (hu _ (by omega));have h5':H' 5=.blk false st 27 1 (dG gs):=(hu 5 (by omega)).trans h5;clear hu hs h5 H β;obtain⟨a1,r,k0,k1⟩:=p.box;refine SB.region ?_;refine LB.ops zi0 (l1:=[_,_,_,_,_,_,_,_,_,_]) (l2:=[_,_,_,_]) (K:=fun f H2 _=>f 0=.hp 900000 1 0 0∧f 6=.iv (.int .i64 k)∧f 87=.hs 5 st∧f 88=.iv (.raw g)∧f 95=.iv (.raw v)∧f 96=.hs 74 st'∧H2=H') rfl (by decide) ?_ ?_
    ·simp (disch:=omega) only[wt,seval,g0,g6,g5,g7,g9,k0,k1,gU,p.vl,wJ (show k<vs.length by rw[p.vl];exact hlt),hv]
    clear g0 g6 g5 g7 g9 f;rintro f H lg β ⟨g0,g6,g87,g88,g95,g96,rfl⟩ hs;replace p:=p.same hs fun u h=>rfl
    replace hm:=hm.same hs rfl;clear hs β';have hm0:=p.mkk k hlt;rw[hv]at hm0;refine LB.app (zi:=zi0) (2*k+1+2000000) (k:=40) (c:=st'=st') (rd:=[74]) hm0 (x:=.tmp 95) (y:=.tmp 96) g95 (by show fO H (f 96)=_;rw[g96];simp only[fO,h74];rfl) rfl rfl rfl rfl (by decide) (by rw[a6r]) (by rw[a6r]) (by rw[Oa]) (by rw[Oa]) rfl (by omega) (by rw[Oa];show _*8≤_;omega) (by simp only[maxLen];omega) ?_ ?_
    ·intro v' H1 β1 hu hm1 hkeep;have h51:H1 5=.blk false st 27 1 (dG gs):=(hu 5 (by omega)).1.trans h5';have p1:P2 n (fun k=>(X k).length) vs H0 k gs H1 β1:=p.step hlt hn (h:=k+1000000) (.inl ⟨rfl,hkeep⟩) (by omega) hu;have hm2:Mk H1 β1 hg 148 1 (mkr k) ((X k).length+5) g:=by
      by_cases e:hg=k+1000000
      ·subst e;exact hkeep _ _ hm
      ·exact hm.congr (hu _ e).1 (hu _ e).2
     refine LB.ops zi0 (l1:=[_,_,_]) (l2:=[]) (K:=fun f H2 _=>f 0=.hp 900000 1 0 0∧f 6=.iv (.int .i64 k)∧∃ st,f 5=.hs 5 st∧H2 5=.blk false st 27 1 (dG gs++[[.raw g],[.raw v']])∧∀ u,1000≤u→H2 u=H1 u) rfl (by decide) ?_ ?_
     ·simp (disch:=omega) only[wt,seval,g0,g6,g87,g88,h51,gU,p.gl];exact⟨_,rfl,rfl,fun u hu=>by rw[if_neg (by omega),if_neg (by omega)]⟩
     rintro f' H2 lg' β2 ⟨g0,g6,st2,g5,h52,hu2⟩ hs;refine LB.nil ⟨gs++[g,v'],st2,g0,g6,g5,by rw[h52];simp[dG],(p1.same hs hu2).snoc (hm2.same hs (hu2 _ (by omega))) (by omega) (by omega) (hm1.same hs (hu2 _ (by omega))) (by omega) (by omega)⟩
    ·intro v' H1 β1 hu hm1;have h51:H1 5=.blk false st 27 1 (dG gs):=(hu 5 (by omega)).1.trans h5';have p1:P2 n (fun k=>(X k).length) vs H0 k gs H1 β1:=p.step hlt hn (h:=2*k+1+2000000) (.inr (.inr rfl)) (by omega) hu;have hm2:Mk H1 β1 hg 148 1 (mkr k) ((X k).length+5) g:=hm.congr (hu _ (by omega)).1 (hu _ (by omega)).2;refine LB.ops zi0 (l1:=[_,_,_]) (l2:=[]) (K:=fun f H2 _=>f 0=.hp 900000 1 0 0∧f 6=.iv (.int .i64 k)∧∃ st,f 5=.hs 5 st∧H2 5=.blk false st 27 1 (dG gs++[[.raw g],[.raw v']])∧∀ u,1000≤u→H2 u=H1 u) rfl (by decide) ?_ ?_
     ·simp (disch:=omega) only[wt,seval,g0,g6,g87,g88,h51,gU,p.gl];exact⟨_,rfl,rfl,fun u hu=>by rw[if_neg (by omega),if_neg (by omega)]⟩
     rintro f' H2 lg' β2 ⟨g0,g6,st2,g5,h52,hu2⟩ hs;refine LB.nil ⟨gs++[g,v'],st2,g0,g6,g5,by rw[h52];simp[dG],(p1.same hs hu2).snoc (hm2.same hs (hu2 _ (by omega))) (by omega) (by omega) (hm1.same hs (hu2 _ (by omega))) (by omega) (by omega)⟩
  ·clear g0 g6 g5 h5 k0 k1 p;clear f;rintro f H β ⟨gs,st,g0,g6,g5,h5,p⟩;refine SB.aw zi0 aX (by rfl) (by rfl) (Qa:=fun e f H'=>e=.normal∧f 0=.hp 900000 1 0 0∧f 6=.iv (.int .i64 ((k+1:Nat):Int))∧f 5=.hs 5 st∧H'=H) ?_ ?_
   ·simp (disch:=omega) only[wt,seval,g0,g6,g5]
    try rfl
   ·rintro e f' H' β' ⟨rfl,h1,h2,h3,rfl⟩ hs;exact⟨⟨k+1,gs,st,by omega,h1,h2,h3,h5,p.same hs fun _ _=>rfl⟩,by show (n-aY f' 6).toNat<_;rw[aB h2];omega⟩
 ·clear p2 q0 q5 f1 H2 β;rintro f H β ⟨gs,g0,p,st,g5,h5⟩;refine SB.ent fun G M w0 D0 a w R=>?_;obtain⟨ks,hks⟩:∃ ks,ks=(List.range n).map (· + 1000000)++(List.range (2*n)).map (· + 2000000):=⟨_,rfl⟩;have kin:∀ u,u∈ks↔(∃ j<n,u=j+1000000)∨∃ j<2*n,u=j+2000000:=fun u=>by
   rw[hks];simp only[List.mem_append,List.mem_map,List.mem_range];constructor
   ·rintro(⟨j,hj,rfl⟩|⟨j,hj,rfl⟩)
    ·exact .inl ⟨j,hj,rfl⟩
    ·exact .inr ⟨j,hj,rfl⟩
   ·rintro(⟨j,hj,rfl⟩|⟨j,hj,rfl⟩)
    ·exact .inl ⟨j,hj,rfl⟩
    ·exact .inr ⟨j,hj,rfl⟩
  have Ub:∀ u,u<1000000∨3000000≤u→u∉ks:=fun u hu h=>by
   rcases (kin u).1 h with ⟨j,hj,rfl⟩|⟨j,hj,rfl⟩<;>omega
  have R1:=R.aC ks;have d1:∀ j<n,Rep w (DD (aC ks H) β D0) (.sl (List.replicate (X j).length (mkr j))) (vs.getD j Go.undef):=fun j hj=>R1.mkData (p.mkk j hj) (pI _ _ _ ((kin _).2 (.inl ⟨j,hj,rfl⟩)))
  obtain⟨ms,hms⟩:=Classical.axiomOfChoice (r:=fun (j m:Nat)=>j<2*n→m≤2^42∧Rep w (DD (aC ks H) β D0) (.sl (List.replicate m (mkr (j/2)))) (gs.getD j Go.undef)) (fun j=>by
   by_cases hj:j<2*n
   ·obtain⟨h',m,e',hm,q⟩:=p.gr j hj;exact⟨m,fun _=>⟨hm,R1.mkData q (pI _ _ _ ((kin _).2 (by rcases e' with rfl|rfl;exact .inl ⟨j/2,by omega,rfl⟩;exact .inr ⟨j,hj,rfl⟩)))⟩⟩
   ·exact⟨0,fun h=>absurd h hj⟩)
  obtain⟨a1,r,k0,k1⟩:=p.box;have R2:=R1.yI (xs:=(List.range n).map fun j=>.sl (List.replicate (X j).length (mkr j))) ((mF ks H 900001 (Ub _ (by omega))).trans k1) (by simp[p.vl]) (fun j hj=>by
   rw[p.vl]at hj;have:=d1 j hj;simpa [List.getD,hj] using this)
  have dd:∀ b,DD (bg (aC ks H) 900001 (.blk false a1 27 1 (((List.range n).map fun j=>IV.sl (List.replicate (X j).length (mkr j))).map fun x=>[x]))) β D0 b→DD (aC ks H) β D0 b:=by
   rintro b (hb|⟨u,hm,hb⟩)
   ·exact .inl hb
   ·refine .inr ⟨u,?_,hb⟩;by_cases e:u=900001
    ·subst e;rw[mF ks H 900001 (Ub _ (by omega)),k1];trivial
    ·rwa [ak _ _ e]at hm
  have R3:=R2.yI (h:=5) (st:=st) (e:=27) (vs:=gs) (xs:=(List.range (2*n)).map fun j=>.sl (List.replicate (ms j) (mkr (j/2)))) (by rw[ak _ _ (by omega),mF ks H 5 (Ub _ (by omega))];exact h5) (by simp[p.gl]) (fun j hj=>by
   rw[p.gl]at hj;have:=((hms j hj).2).mono (bD.of_sub dd);simpa [List.getD,hj] using this)
  refine⟨_,_,_,?_,R3⟩;have z0:aC ks H 900000=H 900000:=mF ks H 900000 (Ub _ (by omega));have hO:Oth H0 (aC ks H):=fun u hu=>(mF ks H u (Ub _ (by omega))).trans (p.oth u hu)
  rw[k0]at z0;generalize aC ks H=H1 at z0 hO;have hmb:∀ j,j<2*n→ms j≤2^42:=fun j hj=>(hms j hj).1
  clear R R1 R2 R3 d1 dd hms k0 k1 p kin Ub hks ks h5 H;refine SB.aw zi0 aX (by rfl) (by rfl) (Qa:=@Jo zi0 Tryz.prog [.tmp 2] (fun x H'=>x=.iv (.bool true)∧Oth H0 H')) ?_ fun _ _ _ _ h _=>h;obtain⟨LR,hLR⟩:∃ LR,LR=((List.range n).map fun j=>IV.sl (List.replicate (X j).length (mkr j))).map fun x=>[x]:=⟨_,rfl⟩
  obtain⟨GR,hGR⟩:∃ GR,GR=((List.range (2*n)).map fun j=>IV.sl (List.replicate (ms j) (mkr (j/2)))).map fun x=>[x]:=⟨_,rfl⟩
  rw[← hLR,← hGR];have ll:LR.length=n:=by rw[hLR];simp
  have gl:GR.length=2*n:=by rw[hGR];simp
  have lg:∀ j,j<n→LR.getD j []=[IV.sl (List.replicate (X j).length (mkr j))]:=fun j hj=>by rw[hLR];simp[List.getD,hj]
  have gg:∀ j,j<2*n→GR.getD j []=[IV.sl (List.replicate (ms j) (mkr (j/2)))]:=fun j hj=>by rw[hGR];simp[List.getD,hj]
  have hO2:Oth H0 (bg (bg H1 900001 (.blk false a1 27 1 LR)) 5 (.blk false st 27 1 GR)):=Ig (Ig hO ⟨by omega,by omega,by omega⟩ _) ⟨by omega,by omega,by omega⟩ _;have k0:bg (bg H1 900001 (.blk false a1 27 1 LR)) 5 (.blk false st 27 1 GR) 900000=.nst 1 41 (.hs 900001 a1::r):=by rw[ak _ _ (by omega),ak _ _ (by omega)];exact z0
  have k1:bg (bg H1 900001 (.blk false a1 27 1 LR)) 5 (.blk false st 27 1 GR) 900001=.blk false a1 27 1 LR:=by rw[ak _ _ (by omega),au]
  have k5:bg (bg H1 900001 (.blk false a1 27 1 LR)) 5 (.blk false st 27 1 GR) 5=.blk false st 27 1 GR:=au _ _ _;generalize bg (bg H1 900001 (.blk false a1 27 1 LR)) 5 (.blk false st 27 1 GR)=H at hO2 k0 k1 k5;clear hO z0 hLR hGR;simp only[wt,seval];refine aH (fun f H'=>∃ i:Nat,i≤2*n∧f 0=.hp 900000 1 0 0∧f 5=.hs 5 st∧f 11=.iv (.int .i64 i)∧H'=H) (fun f H=>(2*n-aY f 11).toNat) ?_ ?_
  ·exact⟨0,by omega,by simp only[wt,seval,g0],by simp only[wt,seval,g5],by simp only[wt,seval];try rfl,rfl⟩
  clear g0 g5 f;rintro f H' ⟨i,hi,g0,g5,g11,rfl⟩;rw[aB g11];simp (disch:=omega) only[wt,seval,g5,g11,k5,gl];refine aQ (fun hlt=>?_) (fun hlt=>?_)
  ·have hlt':i<2*n:=by omega
   have hmi:=hmb i hlt';simp (disch:=omega) only[wt,seval];refine aH (fun f H2=>∃ j:Nat,j≤ms i∧f 0=.hp 900000 1 0 0∧f 5=.hs 5 st∧f 11=.iv (.int .i64 i)∧f 12=.iv (.int .i64 j)∧H2=H') (fun f H=>(ms i-aY f 12).toNat) ?_ ?_
   ·exact⟨0,by omega,by simp only[wt,seval,g0],by simp only[wt,seval,g5],by simp only[wt,seval,g11],by simp only[wt,seval];try rfl,rfl⟩
   clear g0 g5 g11 f;rintro f H2 ⟨j,hj,g0,g5,g11,g12,rfl⟩;rw[aB g12];simp (disch:=omega) only[wt,seval,g5,g11,g12,k5,gl,gg i hlt'];refine aQ (fun hlj=>?_) (fun hlj=>?_)
   ·have hjm:j<ms i:=by omega
    have hrow:(List.replicate (ms i) (mkr (i/2))).getD j []=[.int .u64 (((i/2:Nat):Int)+1000)]:=by rw[List.getD,List.getElem?_replicate,if_pos hjm];rfl
    have hd:IntKind.i64.wrap ((i:Int).tdiv 2)=((i/2:Nat):Int):=by
     rw[Int.tdiv_eq_ediv_of_nonneg (by omega),wrap_i64 _ (by omega) (by omega)];omega
    simp (disch:=omega) only[wt,seval,g0,g5,g11,g12,k5,gl,gg i hlt',hrow,hd,mQ (show i/2≤1000000 by omega) (show (0:Int)≤1000 by omega) (show (1000:Int)≤1000 by omega)];exact⟨⟨j+1,by omega,by omega⟩,by omega⟩
   ·simp (disch:=omega) only[wt,seval,g0,g5,g11];exact⟨⟨i+1,by omega,by omega⟩,by omega⟩
  ·simp (disch:=omega) only[wt,seval];refine aH (fun f H2=>∃ i:Nat,i≤n∧f 0=.hp 900000 1 0 0∧f 13=.iv (.int .i64 i)∧H2=H') (fun f H=>(n-aY f 13).toNat) ?_ ?_
   ·exact⟨0,by omega,by simp only[wt,seval,g0],by simp only[wt,seval];try rfl,rfl⟩
   clear g0 g5 g11 hi hlt f i;rintro f H ⟨i,hi,g0,g13,rfl⟩;rw[aB g13];simp (disch:=omega) only[wt,seval,g0,g13,k0,k1,ll];refine aQ (fun hlt=>?_) (fun hlt=>?_)
   ·have hlt':i<n:=by omega
    have hmi:=(hX i hlt').1;simp (disch:=omega) only[wt,seval];refine aH (fun f H2=>∃ j:Nat,j≤(X i).length∧f 0=.hp 900000 1 0 0∧f 13=.iv (.int .i64 i)∧f 14=.iv (.int .i64 j)∧H2=H) (fun f H=>((X i).length-aY f 14).toNat) ?_ ?_
    ·exact⟨0,by omega,by simp only[wt,seval,g0],by simp only[wt,seval,g13],by simp only[wt,seval];try rfl,rfl⟩
    clear g0 g13 f;rintro f H2 ⟨j,hj,g0,g13,g14,rfl⟩;rw[aB g14];simp (disch:=omega) only[wt,seval,g0,g13,g14,k0,k1,ll,lg i hlt'];refine aQ (fun hlj=>?_) (fun hlj=>?_)
    ·have hjm:j<(X i).length:=by omega
     have hrow:(List.replicate (X i).length (mkr i)).getD j []=[.int .u64 ((i:Int)+1000)]:=by rw[List.getD,List.getElem?_replicate,if_pos hjm];rfl
     simp (disch:=omega) only[wt,seval,g0,g13,g14,k0,k1,ll,lg i hlt',hrow,mQ (show i≤1000000 by omega) (show (0:Int)≤1000 by omega) (show (1000:Int)≤1000 by omega)];exact⟨⟨j+1,by omega,by omega⟩,by omega⟩
    ·simp (disch:=omega) only[wt,seval,g0,g13];exact⟨⟨i+1,by omega,by omega⟩,by omega⟩
   ·simp (disch:=omega) only[wt,seval];exact tV (by simp only[wt,seval];try rfl) ⟨rfl,hO2⟩
set_option linter.defProp false
def jm (row:List IV)(j:Nat)(l:List (List IV)):List (List IV):=List.replicate j row++l.drop j
theorem Dx (row:List IV)(l:List (List IV)):jm row 0 l=l:=by simp[jm]
theorem FY {row:List IV}{j:Nat}{l:List (List IV)}(h:j≤l.length):(jm row j l).length=l.length:=by simp[jm];omega
theorem FZ {row:List IV}{j:Nat}{l:List (List IV)}:(jm row j l).getD j []=l.getD j []:=by
 rw[jm,List.getD,List.getElem?_append_right (by simp),List.length_replicate,Nat.sub_self,List.getElem?_drop,Nat.add_zero];rfl
theorem FX {row:List IV}{j:Nat}{l:List (List IV)}(h:j<l.length):(jm row j l).set j row=jm row (j+1) l:=by
 have e:l.drop j=l.getD j []::l.drop (j+1):=by rw[List.drop_eq_getElem_cons h];simp[List.getD,h]
 rw[jm,jm,List.set_append_right _ _ (by simp),List.length_replicate,Nat.sub_self,e,List.set_cons_zero,List.replicate_succ',List.append_assoc];rfl
theorem G5 {row:List IV}{l:List (List IV)}:jm row l.length l=List.replicate l.length row:=by simp[jm]
def zrw (k:Nat):List IV:=[.bool false,.sl [[.int .u64 ((k:Int)+7)]]]
def qrw (k:Nat):List IV:=[.bool false,.sl [],.sl [[.int .u64 ((k:Int)+7)]]]
theorem a2H (x:IV):lay (fun i=>[(0,2),(2,1)][i]?) [IV.bool false,IV.sl [],IV.sl []] ([1].zip [[x]])=some ((1=1∧2+1≤3)∧True,[.bool false,.sl [],x]):=rfl
theorem b0H {r:List IV}{y z:IV}(h:r.length=2):splice r 0 [y,z]=[y,z]:=by
 match r,h with
 | [_,_],_=>rfl
theorem b0G {r:List IV}{x y z:IV}(h:r.length=3):splice r 0 [x,y,z]=[x,y,z]:=by
 match r,h with
 | [_,_,_],_=>rfl
def LS (n nz nq:Nat)(X Z Y:Nat→List (List IV))(H:AL.Hp):Prop:=∃ a1 a4 a5 x2 x3 x6 x7,H 900000=.nst 1 41 [.hs 900001 a1,x2,x3,.hs 900004 a4,.hs 900005 a5,x6,x7]∧H 900001=.nst a1 27 (hsr n 1000000)∧H 900004=.nst a4 49 (hsr nz 20000)∧H 900005=.nst a5 22 (hsr nq 30000) ∧
 (∀ k<n,H (k+1000000)=.blk false 1 148 1 (X k))∧(∀ k<nz,H (k+20000)=.blk false 1 30 2 (Z k))∧∀ k<nq,H (k+30000)=.blk false 1 32 3 (Y k)
def Big (Z:Nat→List (List IV))(n sz:Nat):Prop:=∀ k<n,(Z k).length≤2^41∧∀ r∈Z k,r.length=sz
def RB (b n T sz:Nat)(rows:Nat→List (List IV))(H:AL.Hp):Prop:=∀ k<n,H (k+b)=.blk false 1 T sz (rows k)
def FO (b:Nat)(H H':AL.Hp):Prop:=∀ u,1000≤u→(u<b∨b+10000≤u)→H' u=H u
theorem RB.upd {b n T sz i:Nat}{rows rows':Nat→List (List IV)}{H:AL.Hp}(h:RB b n T sz rows H)(hr:∀ k,k≠i→rows' k=rows k):RB b n T sz rows' (bg H (i+b) (.blk false 1 T sz (rows' i))):=fun k hk=>by
 by_cases e:k=i
 ·subst e;rw[au]
 ·rw[ak _ _ (by omega),h k hk,hr k e]
theorem RB.low {b n T sz u:Nat}{rows:Nat→List (List IV)}{H:AL.Hp}(h:RB b n T sz rows H)(hu:u<b)(c:HC):RB b n T sz rows (bg H u c):=fun k hk=>by rw[ak _ _ (by omega)];exact h k hk
theorem FO.upd {b u:Nat}{H H':AL.Hp}(h:FO b H H')(hu:u<1000∨(b≤u∧u<b+10000))(c:HC):FO b H (bg H' u c):=fun v h1 h2=>by rw[ak _ _ (by omega)];exact h v h1 h2
def LC (nz nq:Nat)(RZ RY:Nat→List (List IV))(f:AL.Fr)(H:AL.Hp):Prop:=f 0=.hp 900000 1 0 0∧f 3=.jA∧f 4=.jA∧∃ a1 a4 a5 x2 x3 x6 x7,H 900000=.nst 1 41 [.hs 900001 a1,x2,x3,.hs 900004 a4,.hs 900005 a5,x6,x7]∧H 900004=.nst a4 49 (hsr nz 20000)∧H 900005=.nst a5 22 (hsr nq 30000)∧RB 20000 nz 30 2 RZ H∧RB 30000 nq 32 3 RY H
set_option maxRecDepth 8000 in
set_option maxHeartbeats 30000 in
theorem a4M (n nz nq:Nat)(X Z Y:Nat→List (List IV))(hn:n≤100000)(hnz:nz≤10000)(hnq:nq≤10000)(hX:Big X n 1)(H0:AL.Hp)(h0:LS n nz nq X Z Y H0) :
  ∃ c,Tryz.f40.body.bind (kQ 0)=some c∧@AWs zi0 Tryz.prog (LC nz nq Z Y) 4 c (fun _ _ _=>False) (oZ [.hp 900000 1 0 0]) H0:=by
 refine⟨_,rfl,?_⟩;obtain⟨a1,a4,a5,x2,x3,x6,x7,k0,k1,k4,k5,kx,kz,ky⟩:=h0;simp (disch:=omega) only[wt,seval,aV,k0];refine Bz (a1H n X hn hX H0 ⟨a1,_,k0,k1,kx⟩) ?_;rintro _ H ⟨rfl,hO⟩;simp (disch:=omega) only[wt,seval,aV,cZ];exact⟨rfl,rfl,rfl,a1,a4,a5,x2,x3,x6,x7,(hO 900000 (by omega)).trans k0,(hO 900004 (by omega)).trans k4,(hO 900005 (by omega)).trans k5,fun k hk=>(hO _ (by omega)).trans (kz k hk),fun k hk=>(hO _ (by omega)).trans (ky k hk)⟩
set_option maxRecDepth 8000 in
set_option maxHeartbeats 30000 in
theorem a4L (nz nq:Nat)(Z Y:Nat→List (List IV))(hnz:nz≤10000)(hnq:nq≤10000)(hZ:Big Z nz 2)(f:AL.Fr)(H:AL.Hp)(h:LC nz nq Z Y f H) :
  ∃ c,Tryz.f40.body.bind (kQ 4)=some c∧@AWs zi0 Tryz.prog (LC nz nq (fun k=>List.replicate (Z k).length (zrw k)) Y) 1 c (fun _ _ _=>False) f H:=by
 refine⟨_,rfl,?_⟩;obtain⟨g0,g3,g4,a1,a4,a5,x2,x3,x6,x7,k0,k4,k5,kz,ky⟩:=h;simp only[wt,seval,aV];refine aH (fun f H'=>∃ i:Nat,i≤nz∧f 0=.hp 900000 1 0 0∧f 3=.jA∧f 4=.jA∧f 5=.iv (.int .i64 i)∧RB 20000 nz 30 2 (fun k=>if k<i then List.replicate (Z k).length (zrw k) else Z k) H'∧FO 20000 H H') (fun f H=>(nz-aY f 5).toNat) ?_ ?_
 ·exact⟨0,by omega,by simp only[wt,seval,g0],by simp only[wt,seval,g3],by simp only[wt,seval,g4],by simp only[wt,seval];try rfl,fun k hk=>by rw[kz k hk];simp,fun u _ _=>rfl⟩
 clear g0 g3 g4 f;rintro f H' ⟨i,hi,g0,g3,g4,gi,kz2,hF⟩;rw[aB gi];have k0':=(hF 900000 (by omega) (by omega)).trans k0;have k4':=(hF 900004 (by omega) (by omega)).trans k4;simp (disch:=omega) only[wt,seval,g0,gi,k0',k4',jw];refine aQ (fun hlt=>?_) (fun hlt=>?_)
 ·have hin:i<nz:=by omega
  have hXi:=hZ i hin;simp (disch:=omega) only[wt,seval];refine aH (fun f H2=>∃ j:Nat,j≤(Z i).length∧f 0=.hp 900000 1 0 0∧f 3=.jA∧f 4=.jA∧f 5=.iv (.int .i64 i)∧f 6=.iv (.int .i64 j)∧RB 20000 nz 30 2 (fun k=>if k<i then List.replicate (Z k).length (zrw k) else if k=i then jm (zrw i) j (Z i) else Z k) H2∧FO 20000 H H2) (fun f H=>((Z i).length-aY f 6).toNat) ?_ ?_
  ·refine⟨0,by omega,by simp only[wt,seval,g0],by simp only[wt,seval,g3],by simp only[wt,seval,g4],by simp only[wt,seval,gi],by simp only[wt,seval];try rfl,fun k hk=>?_,hF⟩;rw[kz2 k hk];simp only;by_cases h1:k<i
   ·rw[if_pos h1,if_pos h1]
   ·rw[if_neg h1,if_neg h1,Dx];by_cases h2:k=i
    ·subst h2;rw[if_pos rfl]
    ·rw[if_neg h2]
  clear g0 g3 g4 gi k0' k4' kz2 hF;clear f H';rintro f H' ⟨j,hj,g0,g3,g4,gi,gj,kz2,hF⟩;rw[aB gj];have k0':=(hF 900000 (by omega) (by omega)).trans k0;have k4':=(hF 900004 (by omega) (by omega)).trans k4;have hx:H' (i+20000)=.blk false 1 30 2 (jm (zrw i) j (Z i)):=by simpa using kz2 i hin
  have hl:(jm (zrw i) j (Z i)).length=(Z i).length:=FY hj;simp (disch:=omega) only[wt,seval,g0,gi,gj,k0',k4',jw,rY hin,hx,hl,Nat.add_zero,EG];refine aQ (fun hlj=>?_) (fun hlj=>?_)
  ·have hjl:j<(Z i).length:=by omega
   have hr1:((Z i).getD j []).length=2:=by rw[List.getD,List.getElem?_eq_getElem hjl];exact hXi.2 _ (List.getElem_mem hjl)
   simp (disch:=omega) only[wt,seval,g0,g3,g4,gi,gj,k0',k4',jw,rY hin,hx,hl,Nat.add_zero,EG];rw[mQ (by omega) (by omega) (by omega),FZ,b0H hr1,show [IV.bool false,IV.sl [[IV.int IntKind.u64 ((i:Int)+7)]]]=zrw i from rfl,FX hjl];have hr:∀ k,k≠i→(fun k=>if k<i then List.replicate (Z k).length (zrw k) else if k=i then jm (zrw i) (j+1) (Z i) else Z k) k=(fun k=>if k<i then List.replicate (Z k).length (zrw k) else if k=i then jm (zrw i) j (Z i) else Z k) k:=fun k hk=>by
    simp only;rw[if_neg hk,if_neg hk]
   have hb:=RB.upd ((kz2.low (u:=56) (by omega) (HC.blk false ((H' 56).stamp+1) 148 1 [[IV.int IntKind.u64 (↑i+7)]])).low (u:=56) (by omega) (HC.blk true ((H' 56).stamp+1) 148 1 [[IV.int IntKind.u64 (↑i+7)]])) (i:=i) hr;simp only[Nat.lt_irrefl,if_false,if_true]at hb;exact⟨⟨j+1,by omega,by omega,hb,((hF.upd (by omega) _).upd (by omega) _).upd (by omega) _⟩,by omega⟩
  ·simp (disch:=omega) only[wt,seval,g0,g3,g4,gi];obtain rfl:j=(Z i).length:=by omega
   refine⟨⟨i+1,by omega,by omega,fun k hk=>?_,hF⟩,by omega⟩;rw[kz2 k hk];simp only;by_cases h1:k<i
   ·rw[if_pos h1,if_pos (by omega)]
   ·by_cases h2:k=i
    ·subst h2;rw[if_neg h1,if_pos rfl,if_pos (by omega),G5]
    ·rw[if_neg h1,if_neg h2,if_neg (by omega)]
 ·simp (disch:=omega) only[wt,seval,cZ];obtain rfl:nz=i:=by omega
  exact⟨g0,g3,g4,a1,a4,a5,x2,x3,x6,x7,(hF _ (by omega) (by omega)).trans k0,(hF _ (by omega) (by omega)).trans k4,(hF _ (by omega) (by omega)).trans k5,fun k hk=>by rw[kz2 k hk];simp only;rw[if_pos hk],fun k hk=>(hF _ (by omega) (by omega)).trans (ky k hk)⟩
set_option maxRecDepth 8000 in
set_option maxHeartbeats 30000 in
theorem a4K (nz nq:Nat)(Z Y:Nat→List (List IV))(hnz:nz≤10000)(hnq:nq≤10000)(hY:Big Y nq 3)(f:AL.Fr)(H:AL.Hp)(h:LC nz nq Z Y f H) :
  ∃ c,Tryz.f40.body.bind (kQ 5)=some c∧@AWs zi0 Tryz.prog (LC nz nq Z (fun k=>List.replicate (Y k).length (qrw k))) 1 c (fun _ _ _=>False) f H:=by
 refine⟨_,rfl,?_⟩;obtain⟨g0,g3,g4,a1,a4,a5,x2,x3,x6,x7,k0,k4,k5,kz,ky⟩:=h;simp only[wt,seval,aV];refine aH (fun f H'=>∃ i:Nat,i≤nq∧f 0=.hp 900000 1 0 0∧f 3=.jA∧f 4=.jA∧f 7=.iv (.int .i64 i)∧RB 30000 nq 32 3 (fun k=>if k<i then List.replicate (Y k).length (qrw k) else Y k) H'∧FO 30000 H H') (fun f H=>(nq-aY f 7).toNat) ?_ ?_
 ·exact⟨0,by omega,by simp only[wt,seval,g0],by simp only[wt,seval,g3],by simp only[wt,seval,g4],by simp only[wt,seval];try rfl,fun k hk=>by rw[ky k hk];simp,fun u _ _=>rfl⟩
 clear g0 g3 g4 f;rintro f H' ⟨i,hi,g0,g3,g4,gi,ky2,hF⟩;rw[aB gi];have k0':=(hF 900000 (by omega) (by omega)).trans k0;have k4':=(hF 900005 (by omega) (by omega)).trans k5;simp (disch:=omega) only[wt,seval,g0,gi,k0',k4',jw];refine aQ (fun hlt=>?_) (fun hlt=>?_)
 ·have hin:i<nq:=by omega
  have hXi:=hY i hin;simp (disch:=omega) only[wt,seval];refine aH (fun f H2=>∃ j:Nat,j≤(Y i).length∧f 0=.hp 900000 1 0 0∧f 3=.jA∧f 4=.jA∧f 7=.iv (.int .i64 i)∧f 8=.iv (.int .i64 j)∧RB 30000 nq 32 3 (fun k=>if k<i then List.replicate (Y k).length (qrw k) else if k=i then jm (qrw i) j (Y i) else Y k) H2∧FO 30000 H H2) (fun f H=>((Y i).length-aY f 8).toNat) ?_ ?_
  ·refine⟨0,by omega,by simp only[wt,seval,g0],by simp only[wt,seval,g3],by simp only[wt,seval,g4],by simp only[wt,seval,gi],by simp only[wt,seval];try rfl,fun k hk=>?_,hF⟩;rw[ky2 k hk];simp only;by_cases h1:k<i
   ·rw[if_pos h1,if_pos h1]
   ·rw[if_neg h1,if_neg h1,Dx];by_cases h2:k=i
    ·subst h2;rw[if_pos rfl]
    ·rw[if_neg h2]
  clear g0 g3 g4 gi k0' k4' ky2 hF;clear f H';rintro f H' ⟨j,hj,g0,g3,g4,gi,gj,ky2,hF⟩;rw[aB gj];have k0':=(hF 900000 (by omega) (by omega)).trans k0;have k4':=(hF 900005 (by omega) (by omega)).trans k5;have hx:H' (i+30000)=.blk false 1 32 3 (jm (qrw i) j (Y i)):=by simpa using ky2 i hin
  have hl:(jm (qrw i) j (Y i)).length=(Y i).length:=FY hj;simp (disch:=omega) only[wt,seval,g0,gi,gj,k0',k4',jw,rY hin,hx,hl,Nat.add_zero,EG];refine aQ (fun hlj=>?_) (fun hlj=>?_)
  ·have hjl:j<(Y i).length:=by omega
   have hr1:((Y i).getD j []).length=3:=by rw[List.getD,List.getElem?_eq_getElem hjl];exact hXi.2 _ (List.getElem_mem hjl)
   simp (disch:=omega) only[wt,seval,a2H,g0,g3,g4,gi,gj,k0',k4',jw,rY hin,hx,hl,Nat.add_zero,EG];rw[mQ (by omega) (by omega) (by omega),FZ,b0G hr1,show [IV.bool false,IV.sl [],IV.sl [[IV.int IntKind.u64 ((i:Int)+7)]]]=qrw i from rfl,FX hjl];have hr:∀ k,k≠i→(fun k=>if k<i then List.replicate (Y k).length (qrw k) else if k=i then jm (qrw i) (j+1) (Y i) else Y k) k=(fun k=>if k<i then List.replicate (Y k).length (qrw k) else if k=i then jm (qrw i) j (Y i) else Y k) k:=fun k hk=>by
    simp only;rw[if_neg hk,if_neg hk]
   have hb:=RB.upd ((ky2.low (u:=91) (by omega) (HC.blk false ((H' 91).stamp+1) 148 1 [[IV.int IntKind.u64 (↑i+7)]])).low (u:=91) (by omega) (HC.blk true ((H' 91).stamp+1) 148 1 [[IV.int IntKind.u64 (↑i+7)]])) (i:=i) hr;simp only[Nat.lt_irrefl,if_false,if_true]at hb;exact⟨⟨j+1,by omega,by omega,hb,((hF.upd (by omega) _).upd (by omega) _).upd (by omega) _⟩,by omega⟩
  ·simp (disch:=omega) only[wt,seval,g0,g3,g4,gi];obtain rfl:j=(Y i).length:=by omega
   refine⟨⟨i+1,by omega,by omega,fun k hk=>?_,hF⟩,by omega⟩;rw[ky2 k hk];simp only;by_cases h1:k<i
   ·rw[if_pos h1,if_pos (by omega)]
   ·by_cases h2:k=i
    ·subst h2;rw[if_neg h1,if_pos rfl,if_pos (by omega),G5]
    ·rw[if_neg h1,if_neg h2,if_neg (by omega)]
 ·simp (disch:=omega) only[wt,seval,cZ];obtain rfl:nq=i:=by omega
  exact⟨g0,g3,g4,a1,a4,a5,x2,x3,x6,x7,(hF _ (by omega) (by omega)).trans k0,(hF _ (by omega) (by omega)).trans k4,(hF _ (by omega) (by omega)).trans k5,fun k hk=>(hF _ (by omega) (by omega)).trans (kz k hk),fun k hk=>by rw[ky2 k hk];simp only;rw[if_pos hk]⟩
set_option linter.defProp false
def OM:Nat→Code→Option Code
 | 0,.seq x _=>some x
 | n+1,.seq _ y=>OM n y
 | _,_=>none
theorem WS {o:Option Code}{body x X:Code}{n:Nat}(ho:o=some body)(hp:OM n body=some X)(hx:o.bind (OM n)=some x):x=X:=by
 subst ho;exact Option.some.inj (hx.symm.trans hp)
def a1R (S:AL.Fr→AL.Hp→(Nat→Value)→Prop):PostB:=fun e f H β=>e=.normal∧S f H β
theorem SB.a9t {P:Program}{N:Nat}{Q:PostB}{f:AL.Fr}{H:AL.Hp}{β:Nat→Value}{x y:Code}{S:AL.Fr→AL.Hp→(Nat→Value)→Prop}(hx:AL.SB P N x (a1R S) f H β)(hy:∀ f H β,S f H β→AL.SB P N y Q f H β):AL.SB P N (.seq x y) Q f H β :=
 SB.seq (SB.mono hx fun e f H β h=>by obtain⟨rfl,h⟩:=h;exact h) hy
structure PG (b1 b2 te sz:Nat) (row:Nat→List IV) (n:Nat) (len:Nat→Nat) (vs:List Value) (k:Nat) (gs:List Value) (H:AL.Hp) (β:Nat→Value):Prop where
 vl:vs.length=n
 gl:gs.length=k
 mkk:∀ j<n,Mk H β (j+b1) te sz (row j) (len j) (vs.getD j Go.undef)
 gr:∀ j<k,∃ h m,(h=j+b1∨h=j+b2)∧m≤2^42∧Mk H β h te sz (row j) m (gs.getD j Go.undef)
def FB (b1 b2:Nat)(Hc:AL.Hp)(βc:Nat→Value)(H:AL.Hp)(β:Nat→Value):Prop:=∀ u,1000≤u→(u<b1∨b1+10000≤u)→(u<b2∨b2+10000≤u)→H u=Hc u∧((Hc u).bV→β u=βc u)
section
variable {b1 b2 te sz:Nat} {row:Nat→List IV} {n:Nat} {len:Nat→Nat} {vs:List Value} {k:Nat} {gs:List Value} {H H' Hc:AL.Hp} {β β' βc:Nat→Value}
theorem PG.same (p:PG b1 b2 te sz row n len vs k gs H β)(s:qY H β H' β')(hb:1000≤b1∧1000≤b2)(h:∀ u,1000≤u→H' u=H u):PG b1 b2 te sz row n len vs k gs H' β' :=
 ⟨p.vl,p.gl,fun j hj=>(p.mkk j hj).same s (h _ (by omega)),fun j hj=>by
  obtain⟨h',m,e,hm,q⟩:=p.gr j hj;exact⟨h',m,e,hm,q.same s (h _ (by omega))⟩⟩
theorem FB.same (p:FB b1 b2 Hc βc H β)(s:qY H β H' β')(h:∀ u,1000≤u→H' u=H u):FB b1 b2 Hc βc H' β':=fun u h1 h2 h3=>by
 obtain⟨q1,q2⟩:=p u h1 h2 h3;exact⟨(h u h1).trans q1,fun hm=>(s u (by rw[q1];exact hm) (by rw[h u h1])).trans (q2 hm)⟩
theorem PG.step (p:PG b1 b2 te sz row n len vs k gs H β)(hkn:k<n)(hn:n≤10000)(hb:b1+10000≤b2){h:Nat}(hk:(h=k+b1∧∀ n' v,Mk H β h te sz (row k) n' v→Mk H' β' h te sz (row k) n' v)∨h=k+b2)(e:∀ u,u≠h→H' u=H u∧β' u=β u):PG b1 b2 te sz row n len vs k gs H' β':=by
 refine⟨p.vl,p.gl,fun j hj=>?_,fun j hj=>?_⟩
 ·by_cases ej:j+b1=h
  ·rcases hk with ⟨rfl,hk⟩|hk
   ·obtain rfl:j=k:=by omega
    exact hk _ _ (p.mkk j hj)
   ·omega
  ·exact(p.mkk j hj).congr (e _ ej).1 (e _ ej).2
 ·obtain⟨h',m,e',hm,q⟩:=p.gr j hj;have ne:h'≠h:=by omega
  exact⟨h',m,e',hm,q.congr (e _ ne).1 (e _ ne).2⟩
theorem FB.step (p:FB b1 b2 Hc βc H β){h:Nat}(hh:(b1≤h∧h<b1+10000)∨(b2≤h∧h<b2+10000))(e:∀ u,u≠h→H' u=H u∧β' u=β u):FB b1 b2 Hc βc H' β':=fun u h1 h2 h3=>by
 obtain⟨q1,q2⟩:=p u h1 h2 h3;have ne:u≠h:=by omega
 exact⟨(e u ne).1.trans q1,fun hm=>(e u ne).2.trans (q2 hm)⟩
theorem PG.snoc (p:PG b1 b2 te sz row n len vs k gs H β){g:Value}{hg m:Nat}(h1:Mk H β hg te sz (row k) m g)(e1:hg=k+b1∨hg=k+b2)(b1':m≤2^42):PG b1 b2 te sz row n len vs (k+1) (gs++[g]) H β:=by
 refine⟨p.vl,by simp[p.gl],p.mkk,fun j hj=>?_⟩;by_cases a:j<k
 ·obtain⟨h',m,e',hm,q⟩:=p.gr j a;refine⟨h',m,e',hm,?_⟩;rwa [List.getD,List.getElem?_append_left (by rw[p.gl];exact a)]
 ·obtain rfl:j=k:=by omega
  refine⟨hg,m,e1,b1',?_⟩;rw[List.getD,List.getElem?_append_right (by rw[p.gl];exact Nat.le_refl _),p.gl,Nat.sub_self];exact h1
def a1S (ks:List Nat)(H H':AL.Hp):Prop:=∀ u,u∉ks→H' u=H u
def a9v (r:List IV):List (List IV):=List.replicate 1 r
theorem PG.start {G:Gh}{M:Nat→Prop}{w0:World}{D0:Nat→Prop}{N:Nat}{f:AL.Fr}{a:Act}{w:World}(R:Rel G M w0 D0 N f H β a w)(hv:vs.length=n)(hr:∀ i,i<n→aj w (DD H β D0) H β ((hsr n b1).getD i .undef) (vs.getD i Go.undef))(hb:RB b1 n te sz (fun k=>List.replicate (len k) (row k)) H):PG b1 b2 te sz row n len vs 0 [] H β:=by
 refine⟨hv,rfl,fun j hj=>?_,fun j hj=>absurd hj (Nat.not_lt_zero _)⟩;have:=hr j hj;rw[rY hj]at this;simp only[aj]at this;have hH:=hb j hj;have e:=this.2 (by rw[hH];rfl);have ho:=R.own _ _ _ _ _ hH;rcases ho.2 with ⟨q1,q2⟩|⟨g,cap,cur,q1,_⟩
 ·have q3:=congrArg List.length q1;simp only[List.length_replicate,List.length_nil]at q3;exact⟨1,_,none,0,hH,Nat.le_refl _,by rw[q2,q3],by rw[e,q2,q3]⟩
 ·rw[List.length_replicate]at q1;exact⟨1,_,some ⟨g,0,none⟩,cap,hH,Nat.le_refl _,q1,by rw[e,q1]⟩
end
set_option maxRecDepth 8000 in
set_option maxHeartbeats 4000000 in
theorem a4J (n:Nat)(hn:n≤10000)(Z:Nat→List (List IV))(hZ:Big Z n 2)(vs:List Value)(Hc:AL.Hp)(βc:Nat→Value)(a1 a4 a5:Nat)(x2 x3 x6 x7:AV)(k0:Hc 900000=.nst 1 41 [.hs 900001 a1,x2,x3,.hs 900004 a4,.hs 900005 a5,x6,x7])(k1:Hc 900004=.blk false a4 49 1 (dG vs))(V:AV)(C:HC)(f:AL.Fr)(H:AL.Hp)(β:Nat→Value)(g0:f 0=.hp 900000 1 0 0)(qz:f 3=.jA)(gy:f 4=V)(hy:H 900000=C)
  (p:PG 20000 40000 30 2 zrw n (fun k=>(Z k).length) vs 0 [] H β) (F:FB 20000 40000 Hc βc H β) :
  ∃ x,Tryz.f40.body.bind (OM 6)=some x∧AL.SB Tryz.prog Tryz.f40.ntmps x (a1R fun f H β=>f 0=.hp 900000 1 0 0∧f 4=V∧H 900000=C∧∃ gs st,f 3=.hs 3 st∧H 3=.blk false st 49 1 (dG gs)∧PG 20000 40000 30 2 zrw n (fun k=>(Z k).length) vs n gs H β∧FB 20000 40000 Hc βc H β) f H β:=by
 refine⟨_,rfl,?_⟩;refine SB.weak (.nil 3 3 49 1 qz (.refl _ _)) fun β' hs=>?_;have q5:∃ st,fB f H 3 3 3=.hs 3 st∧fM H 3 49 1 3=.blk false st 49 1 (dG []):=⟨_,rfl,au _ _ _⟩;obtain⟨f1,hf1⟩:∃ f1,f1=fB f H 3 3:=⟨_,rfl⟩;obtain⟨H2,hH2⟩:∃ H2,H2=fM H 3 49 1:=⟨_,rfl⟩;have p2:PG 20000 40000 30 2 zrw n (fun k=>(Z k).length) vs 0 [] H2 β':=by rw[hH2];exact p.same hs (by decide) fun u hu=>ak _ _ (by omega)
 have F2:FB 20000 40000 Hc βc H2 β':=by rw[hH2];exact F.same hs fun u hu=>ak _ _ (by omega)
 have g02:f1 0=.hp 900000 1 0 0:=by rw[hf1,fB];exact g0
 have gy2:f1 4=V:=by rw[hf1,fB];exact gy
 have hy2:H2 900000=C:=by rw[hH2,fM,ak _ _ (by omega)];exact hy
 rw[← hf1,← hH2]at q5 ⊢;clear hf1 hH2 p F g0 gy hy hs qz f H β;obtain⟨st5,q5,q5H⟩:=q5;refine SB.seg zi0 aX (S:=fun f H=>f 0=.hp 900000 1 0 0∧f 9=.iv (.int .i64 0)∧f 3=.hs 3 st5∧f 4=V∧H=H2) 1 (by rfl) (by rfl) ?_ (by rfl) ?_
 ·simp only[wt,seval,aV,cZ,g02,q5,gy2]
 clear g02 q5 gy2 f1;rintro f H β ⟨g0,g6,g5,gy,rfl⟩ hs;have p:=p2.same hs (by decide) fun u _=>rfl
 have F:=F2.same hs fun u _=>rfl
 clear hs β' p2 F2;refine SB.block (SB.loop (fun f H β=>∃ k gs st,k≤n∧f 0=.hp 900000 1 0 0∧f 9=.iv (.int .i64 k)∧f 3=.hs 3 st∧f 4=V∧H 900000=C∧H 3=.blk false st 49 1 (dG gs)∧PG 20000 40000 30 2 zrw n (fun k=>(Z k).length) vs k gs H β∧FB 20000 40000 Hc βc H β) (fun f=>(n-aY f 9).toNat) ⟨0,[],st5,by omega,g0,g6,g5,gy,hy2,q5H,p,F⟩ ?_);clear g0 g5 g6 gy hy2 q5H p F st5 H β;clear f;rintro f H β ⟨k,gs,st,hk,g0,g6,g5,gy,hy,h5,p,F⟩;rw[aB g6];have k0':=(F 900000 (by omega) (by omega) (by omega)).1.trans k0;have k1':=(F 900004 (by omega) (by omega) (by omega)).1.trans k1;refine SB.seq (S:=fun f H' β'=>f 0=.hp 900000 1 0 0∧f 9=.iv (.int .i64 k)∧f 3=.hs 3 st∧f 4=V∧k<n∧H'=H∧qY H β H' β') (SB.aw zi0 aX (by rfl) (by rfl) (Qa:=fun e f H'=>f 0=.hp 900000 1 0 0∧f 9=.iv (.int .i64 k)∧f 3=.hs 3 st∧f 4=V∧H'=H∧((e=.normal∧k<n)∨(e=.exit 8∧k=n))) ?_ ?_) ?_
 ·simp (disch:=omega) only[wt,seval,g0,g6,k0',k1',gU,p.vl];refine aQ (fun hlt=>?_) (fun hlt=>?_)
  ·simp only[wt,seval,g0,g6,g5,gy];exact .inl (by omega)
  ·simp only[wt,seval,g0,g6,g5,gy];exact .inr (by omega)
 ·rintro e f' H' β' ⟨h1,h2,h3,h4,rfl,he⟩ hs;rcases he with ⟨rfl,he⟩|⟨rfl,rfl⟩
  ·exact⟨h1,h2,h3,h4,he,rfl,hs⟩
  ·exact⟨rfl,h1,h4,hy,gs,st,h3,h5,p.same hs (by decide) fun _ _=>rfl,F.same hs fun _ _=>rfl⟩
 clear g0 g6 g5 gy f;rintro f H' β' ⟨g0,g6,g5,gy,hlt,rfl,hs⟩;replace p:=p.same hs (by decide) fun _ _=>rfl
 replace F:=F.same hs fun _ _=>rfl
 clear hs β;obtain⟨v,hv⟩:∃ v,vs.getD k Go.undef=v:=⟨_,rfl⟩;have hXk:=(hZ k hlt).1;refine SB.seq (S:=fun f H β=>∃ gs st,f 0=.hp 900000 1 0 0∧f 9=.iv (.int .i64 k)∧f 3=.hs 3 st∧f 4=V∧H 900000=C∧H 3=.blk false st 49 1 (dG gs)∧PG 20000 40000 30 2 zrw n (fun k=>(Z k).length) vs (k+1) gs H β∧FB 20000 40000 Hc βc H β) (SB.block ?_) ?_
 ·refine SB.seg zi0 aX (S:=fun f H=>f 0=.hp 900000 1 0 0∧f 9=.iv (.int .i64 k)∧f 3=.hs 3 st∧f 4=V∧f 10=.iv (.raw v)∧H=H') 1 (by rfl) (by rfl) ?_ (by rfl) ?_
  ·simp (disch:=omega) only[wt,seval,aV,cZ,g0,g6,g5,gy,k0',k1',gU,p.vl,wJ (show k<vs.length by rw[p.vl];exact hlt),hv]
  clear g0 g6 g5 gy f;rintro f H β ⟨g0,g6,g5,gy,g7,rfl⟩ hs;replace p:=p.same hs (by decide) fun u _=>rfl
  replace F:=F.same hs fun _ _=>rfl
  clear hs β';have hm0:=p.mkk k hlt;rw[hv]at hm0;refine SB.seq (S:=fun f H β=>f 0=.hp 900000 1 0 0∧f 9=.iv (.int .i64 k)∧f 3=.hs 3 st∧f 4=V∧H 900000=C∧H 3=.blk false st 49 1 (dG gs)∧PG 20000 40000 30 2 zrw n (fun k=>(Z k).length) vs k gs H β∧FB 20000 40000 Hc βc H β∧∃ g hg,f 10=.iv (.raw g)∧(hg=k+20000∨hg=k+40000)∧Mk H β hg 30 2 (zrw k) ((Z k).length+5) g) ?_ ?_
  ·refine SB.seg zi0 aX (S:=fun f H'=>f 0=.hp 900000 1 0 0∧f 9=.iv (.int .i64 k)∧f 3=.hs 3 st∧f 4=V∧f 10=.iv (.raw v)∧f 11=.iv (.int .i64 0)∧H'=H) 1 (by rfl) (by rfl) ?_ (by rfl) ?_
   ·simp only[wt,seval,aV,cZ,g0,g6,g5,gy,g7]
   clear g0 g6 g5 gy g7 f;rintro f H' β' ⟨g0,g6,g5,gy,g7,g8,rfl⟩ hs;replace p:=p.same hs (by decide) fun _ _=>rfl
   replace F:=F.same hs fun _ _=>rfl
   replace hm0:=hm0.same hs rfl;clear hs β;refine SB.block (SB.loop (fun f H β=>∃ j g hg,j≤5∧f 0=.hp 900000 1 0 0∧f 9=.iv (.int .i64 k)∧f 3=.hs 3 st∧f 4=V∧H 900000=C∧f 11=.iv (.int .i64 (j:Nat))∧H 3=.blk false st 49 1 (dG gs)∧PG 20000 40000 30 2 zrw n (fun k=>(Z k).length) vs k gs H β∧FB 20000 40000 Hc βc H β∧f 10=.iv (.raw g)∧(hg=k+20000∨hg=k+40000)∧Mk H β hg 30 2 (zrw k) ((Z k).length+j) g) (fun f=>(5-aY f 11).toNat) ⟨0,v,k+20000,by omega,g0,g6,g5,gy,hy,g8,h5,p,F,g7,.inl rfl,hm0⟩ ?_);clear g0 g6 g5 gy g7 g8 h5 hy p F hm0 k0' k1' f H' β';rintro f H β ⟨j,g,hg,hj,g0,g6,g5,gy,hy,g8,h5,p,F,g7,hg7,hm⟩;rw[aB g8];refine SB.seq (S:=fun f H' β'=>f 0=.hp 900000 1 0 0∧f 9=.iv (.int .i64 k)∧f 3=.hs 3 st∧f 4=V∧f 11=.iv (.int .i64 j)∧f 10=.iv (.raw g)∧j<5∧H'=H∧qY H β H' β') (SB.aw zi0 aX (by rfl) (by rfl) (Qa:=fun e f H'=>f 0=.hp 900000 1 0 0∧f 9=.iv (.int .i64 k)∧f 3=.hs 3 st∧f 4=V∧f 11=.iv (.int .i64 j)∧f 10=.iv (.raw g)∧H'=H∧((e=.normal∧j<5)∨(e=.exit 10∧j=5))) ?_ ?_) ?_
   ·simp (disch:=omega) only[wt,seval,g8];refine aQ (fun hlt=>?_) (fun hlt=>?_)
    ·simp only[wt,seval,g0,g6,g5,gy,g7,g8];exact .inl (by omega)
    ·simp only[wt,seval,g0,g6,g5,gy,g7,g8];exact .inr (by omega)
   ·rintro e f' H' β' ⟨h1,h2,h3,h3y,h4,h6,rfl,he⟩ hs;rcases he with ⟨rfl,he⟩|⟨rfl,rfl⟩
    ·exact⟨h1,h2,h3,h3y,h4,h6,he,rfl,hs⟩
    ·exact⟨h1,h2,h3,h3y,hy,h5,p.same hs (by decide) fun _ _=>rfl,F.same hs fun _ _=>rfl,g,hg,h6,hg7,hm.same hs rfl⟩
   clear g0 g6 g5 gy g7 g8 f;rintro f H' β' ⟨g0,g6,g5,gy,g8,g7,hj5,rfl,hs⟩;replace p:=p.same hs (by decide) fun _ _=>rfl
   replace F:=F.same hs fun _ _=>rfl
   replace hm:=hm.same hs rfl;clear hs β;refine SB.seq (S:=fun f H β=>∃ g hg,f 0=.hp 900000 1 0 0∧f 9=.iv (.int .i64 k)∧f 3=.hs 3 st∧f 4=V∧H 900000=C∧f 11=.iv (.int .i64 j)∧H 3=.blk false st 49 1 (dG gs)∧PG 20000 40000 30 2 zrw n (fun k=>(Z k).length) vs k gs H β∧FB 20000 40000 Hc βc H β∧f 10=.iv (.raw g)∧(hg=k+20000∨hg=k+40000)∧Mk H β hg 30 2 (zrw k) ((Z k).length+(j+1)) g) (SB.block (SB.region ?_)) ?_
   ·refine LB.ops zi0 (l1:=[_,_,_,_,_,_,_]) (l2:=[_,_]) (K:=fun f H2 _=>f 0=.hp 900000 1 0 0∧f 9=.iv (.int .i64 k)∧f 3=.hs 3 st∧f 4=V∧f 11=.iv (.int .i64 j)∧f 114=.iv (.raw g)∧∃ st',f 120=.hs 120 st'∧H2 120=.blk false st' 30 2 (a9v (zrw k))∧a1S [120,118] H' H2) rfl (by decide) ?_ ?_
    ·simp (disch:=omega) only[wt,seval,g0,g6,g5,gy,g7,g8];refine⟨_,rfl,?_,fun u hu=>?_⟩
     ·rw[mQ (by omega) (by omega) (by omega)];rfl
     ·simp only[List.mem_cons,List.not_mem_nil,or_false,not_or]at hu;rw[ak _ _ hu.1,ak _ _ hu.2,ak _ _ hu.2]
    clear g0 g6 g5 gy g7 g8 f;rintro f H lg β ⟨g0,g6,g5,gy,g8,g68,st',g72,h72,hu⟩ hs;replace p:=p.same hs (by decide) fun u h=>hu u (by simp;omega)
    replace F:=F.same hs fun u h=>hu u (by simp;omega)
    replace hm:=hm.same hs (hu _ (by simp;omega));have h5':H 3=.blk false st 49 1 (dG gs):=(hu 3 (by decide)).trans h5;have hy':H 900000=C:=(hu 900000 (by decide)).trans hy;clear hu hs h5 hy H' β';refine LB.app (zi:=zi0) (k+40000) (k:=1) (c:=True) (rd:=[120]) hm (x:=.tmp 114) (y:=.tmp 120) g68 (by show fO H (f 120)=_;rw[g72];simp only[fO,h72];rfl) trivial rfl rfl rfl (by decide) (by rw[a8j]) (by rw[a8j]) (by rw[a7Q]) (by rw[a7Q]) rfl (by omega) (by rw[a7Q];show _*32≤_;omega) (by simp only[maxLen];omega) ?_ ?_
    ·intro v' H1 β1 hu hm1 hkeep;have h51:H1 3=.blk false st 49 1 (dG gs):=(hu 3 (by omega)).1.trans h5';have hy1:H1 900000=C:=(hu 900000 (by omega)).1.trans hy';have p1:PG 20000 40000 30 2 zrw n (fun k=>(Z k).length) vs k gs H1 β1:=by
      refine p.step hlt hn (by decide) (h:=hg) ?_ hu;rcases hg7 with rfl|rfl
      ·exact .inl ⟨rfl,hkeep⟩
      ·exact .inr rfl
     have F1:FB 20000 40000 Hc βc H1 β1:=F.step (h:=hg) (by omega) hu;refine LB.ops zi0 (l1:=[_]) (l2:=[]) (K:=fun f H2 _=>f 0=.hp 900000 1 0 0∧f 9=.iv (.int .i64 k)∧f 3=.hs 3 st∧f 4=V∧f 11=.iv (.int .i64 j)∧f 10=.iv (.raw v')∧H2=H1) rfl (by decide) (by simp only[wt,seval,g0,g6,g5,gy,g8]) ?_;rintro f' H2 lg' β2 ⟨g0,g6,g5,gy,g8,g7,rfl⟩ hs;exact LB.nil ⟨v',hg,g0,g6,g5,gy,hy1,g8,h51,p1.same hs (by decide) fun _ _=>rfl,F1.same hs fun _ _=>rfl,g7,hg7,hm1.same hs rfl⟩
    ·intro v' H1 β1 hu hm1;have h51:H1 3=.blk false st 49 1 (dG gs):=(hu 3 (by omega)).1.trans h5';have hy1:H1 900000=C:=(hu 900000 (by omega)).1.trans hy';have p1:PG 20000 40000 30 2 zrw n (fun k=>(Z k).length) vs k gs H1 β1:=p.step hlt hn (by decide) (h:=k+40000) (.inr rfl) hu;have F1:FB 20000 40000 Hc βc H1 β1:=F.step (h:=k+40000) (by omega) hu;refine LB.ops zi0 (l1:=[_]) (l2:=[]) (K:=fun f H2 _=>f 0=.hp 900000 1 0 0∧f 9=.iv (.int .i64 k)∧f 3=.hs 3 st∧f 4=V∧f 11=.iv (.int .i64 j)∧f 10=.iv (.raw v')∧H2=H1) rfl (by decide) (by simp only[wt,seval,g0,g6,g5,gy,g8]) ?_;rintro f' H2 lg' β2 ⟨g0,g6,g5,gy,g8,g7,rfl⟩ hs;exact LB.nil ⟨v',k+40000,g0,g6,g5,gy,hy1,g8,h51,p1.same hs (by decide) fun _ _=>rfl,F1.same hs fun _ _=>rfl,g7,.inr rfl,hm1.same hs rfl⟩
   ·clear g0 g6 g5 gy g7 g8 h5 hy p F hm f H' β';rintro f H β ⟨g,hg,g0,g6,g5,gy,hy,g8,h5,p,F,g7,hg7,hm⟩;refine SB.aw zi0 aX (by rfl) (by rfl) (Qa:=fun e f H'=>e=.normal∧f 0=.hp 900000 1 0 0∧f 9=.iv (.int .i64 k)∧f 3=.hs 3 st∧f 4=V∧f 11=.iv (.int .i64 ((j+1:Nat):Int))∧f 10=.iv (.raw g)∧H'=H) ?_ ?_
    ·simp (disch:=omega) only[wt,seval,g0,g6,g5,gy,g7,g8]
     try rfl
    ·rintro e f' H' β' ⟨rfl,h1,h2,h3,h3y,h4,h6,rfl⟩ hs;exact⟨⟨j+1,g,hg,by omega,h1,h2,h3,h3y,hy,h4,h5,p.same hs (by decide) fun _ _=>rfl,F.same hs fun _ _=>rfl,h6,hg7,hm.same hs rfl⟩,by show (5-aY f' 11).toNat<_;rw[aB h4];omega⟩
  ·clear g0 g6 g5 gy g7 h5 hy p F hm0 k0' k1' f H β;rintro f H β ⟨g0,g6,g5,gy,hy,h5,p,F,g,hg,g7,hg7,hm⟩;refine SB.aw zi0 aX (by rfl) (by rfl) (Qa:=fun e f H2=>e=.normal∧f 0=.hp 900000 1 0 0∧f 9=.iv (.int .i64 k)∧f 4=V∧∃ st,f 3=.hs 3 st∧H2 3=.blk false st 49 1 (dG gs++[[.raw g]])∧a1S [3,124] H H2) ?_ ?_
   ·simp (disch:=omega) only[wt,seval,g0,g6,g5,gy,g7,h5,gU,p.gl];refine⟨_,rfl,rfl,fun u hu=>?_⟩;simp only[List.mem_cons,List.not_mem_nil,or_false,not_or]at hu;rw[ak _ _ hu.1,ak _ _ hu.2]
   ·rintro e f' H2 β2 ⟨rfl,g0,g6,gy,st2,g5,h52,hu2⟩ hs;exact⟨gs++[g],st2,g0,g6,g5,gy,(hu2 _ (by decide)).trans hy,by rw[h52];simp[dG],(p.same hs (by decide) fun u h=>hu2 u (by simp;omega)).snoc (hm.same hs (hu2 _ (by simp;omega))) (by omega) (by omega),F.same hs fun u h=>hu2 u (by simp;omega)⟩
 ·clear g0 g6 g5 gy hy h5 k0' k1' p F;clear f;rintro f H β ⟨gs,st,g0,g6,g5,gy,hy,h5,p,F⟩;refine SB.aw zi0 aX (by rfl) (by rfl) (Qa:=fun e f H'=>e=.normal∧f 0=.hp 900000 1 0 0∧f 9=.iv (.int .i64 ((k+1:Nat):Int))∧f 3=.hs 3 st∧f 4=V∧H'=H) ?_ ?_
  ·simp (disch:=omega) only[wt,seval,g0,g6,g5,gy]
   try rfl
  ·rintro e f' H' β' ⟨rfl,h1,h2,h3,h4,rfl⟩ hs;exact⟨⟨k+1,gs,st,by omega,h1,h2,h3,h4,hy,h5,p.same hs (by decide) fun _ _=>rfl,F.same hs fun _ _=>rfl⟩,by show (n-aY f' 9).toNat<_;rw[aB h2];omega⟩
set_option maxRecDepth 8000 in
set_option maxHeartbeats 4000000 in
theorem a4I (n:Nat)(hn:n≤10000)(Z:Nat→List (List IV))(hZ:Big Z n 3)(vs:List Value)(Hc:AL.Hp)(βc:Nat→Value)(a1 a4 a5:Nat)(x2 x3 x6 x7:AV)(k0:Hc 900000=.nst 1 41 [.hs 900001 a1,x2,x3,.hs 900004 a4,.hs 900005 a5,x6,x7])(k1:Hc 900005=.blk false a5 22 1 (dG vs))(V:AV)(C:HC)(f:AL.Fr)(H:AL.Hp)(β:Nat→Value)(g0:f 0=.hp 900000 1 0 0)(qz:f 4=.jA)(gy:f 3=V)(hy:H 3=C)
  (p:PG 30000 50000 32 3 qrw n (fun k=>(Z k).length) vs 0 [] H β) (F:FB 30000 50000 Hc βc H β) :
  ∃ x,Tryz.f40.body.bind (OM 7)=some x∧AL.SB Tryz.prog Tryz.f40.ntmps x (a1R fun f H β=>f 0=.hp 900000 1 0 0∧f 3=V∧H 3=C∧∃ gs st,f 4=.hs 4 st∧H 4=.blk false st 22 1 (dG gs)∧PG 30000 50000 32 3 qrw n (fun k=>(Z k).length) vs n gs H β∧FB 30000 50000 Hc βc H β) f H β:=by
 refine⟨_,rfl,?_⟩;refine SB.weak (.nil 4 4 22 1 qz (.refl _ _)) fun β' hs=>?_;have q5:∃ st,fB f H 4 4 4=.hs 4 st∧fM H 4 22 1 4=.blk false st 22 1 (dG []):=⟨_,rfl,au _ _ _⟩;obtain⟨f1,hf1⟩:∃ f1,f1=fB f H 4 4:=⟨_,rfl⟩;obtain⟨H2,hH2⟩:∃ H2,H2=fM H 4 22 1:=⟨_,rfl⟩;have p2:PG 30000 50000 32 3 qrw n (fun k=>(Z k).length) vs 0 [] H2 β':=by rw[hH2];exact p.same hs (by decide) fun u hu=>ak _ _ (by omega)
 have F2:FB 30000 50000 Hc βc H2 β':=by rw[hH2];exact F.same hs fun u hu=>ak _ _ (by omega)
 have g02:f1 0=.hp 900000 1 0 0:=by rw[hf1,fB];exact g0
 have gy2:f1 3=V:=by rw[hf1,fB];exact gy
 have hy2:H2 3=C:=by rw[hH2,fM,ak _ _ (by omega)];exact hy
 rw[← hf1,← hH2]at q5 ⊢;clear hf1 hH2 p F g0 gy hy hs qz f H β;obtain⟨st5,q5,q5H⟩:=q5;refine SB.seg zi0 aX (S:=fun f H=>f 0=.hp 900000 1 0 0∧f 12=.iv (.int .i64 0)∧f 4=.hs 4 st5∧f 3=V∧H=H2) 1 (by rfl) (by rfl) ?_ (by rfl) ?_
 ·simp only[wt,seval,aV,cZ,g02,q5,gy2]
 clear g02 q5 gy2 f1;rintro f H β ⟨g0,g6,g5,gy,rfl⟩ hs;have p:=p2.same hs (by decide) fun u _=>rfl
 have F:=F2.same hs fun u _=>rfl
 clear hs β' p2 F2;refine SB.block (SB.loop (fun f H β=>∃ k gs st,k≤n∧f 0=.hp 900000 1 0 0∧f 12=.iv (.int .i64 k)∧f 4=.hs 4 st∧f 3=V∧H 3=C∧H 4=.blk false st 22 1 (dG gs)∧PG 30000 50000 32 3 qrw n (fun k=>(Z k).length) vs k gs H β∧FB 30000 50000 Hc βc H β) (fun f=>(n-aY f 12).toNat) ⟨0,[],st5,by omega,g0,g6,g5,gy,hy2,q5H,p,F⟩ ?_);clear g0 g5 g6 gy hy2 q5H p F st5 H β;clear f;rintro f H β ⟨k,gs,st,hk,g0,g6,g5,gy,hy,h5,p,F⟩;rw[aB g6];have k0':=(F 900000 (by omega) (by omega) (by omega)).1.trans k0;have k1':=(F 900005 (by omega) (by omega) (by omega)).1.trans k1;refine SB.seq (S:=fun f H' β'=>f 0=.hp 900000 1 0 0∧f 12=.iv (.int .i64 k)∧f 4=.hs 4 st∧f 3=V∧k<n∧H'=H∧qY H β H' β') (SB.aw zi0 aX (by rfl) (by rfl) (Qa:=fun e f H'=>f 0=.hp 900000 1 0 0∧f 12=.iv (.int .i64 k)∧f 4=.hs 4 st∧f 3=V∧H'=H∧((e=.normal∧k<n)∨(e=.exit 12∧k=n))) ?_ ?_) ?_
 ·simp (disch:=omega) only[wt,seval,g0,g6,k0',k1',gU,p.vl];refine aQ (fun hlt=>?_) (fun hlt=>?_)
  ·simp only[wt,seval,g0,g6,g5,gy];exact .inl (by omega)
  ·simp only[wt,seval,g0,g6,g5,gy];exact .inr (by omega)
 ·rintro e f' H' β' ⟨h1,h2,h3,h4,rfl,he⟩ hs;rcases he with ⟨rfl,he⟩|⟨rfl,rfl⟩
  ·exact⟨h1,h2,h3,h4,he,rfl,hs⟩
  ·exact⟨rfl,h1,h4,hy,gs,st,h3,h5,p.same hs (by decide) fun _ _=>rfl,F.same hs fun _ _=>rfl⟩
 clear g0 g6 g5 gy f;rintro f H' β' ⟨g0,g6,g5,gy,hlt,rfl,hs⟩;replace p:=p.same hs (by decide) fun _ _=>rfl
 replace F:=F.same hs fun _ _=>rfl
 clear hs β;obtain⟨v,hv⟩:∃ v,vs.getD k Go.undef=v:=⟨_,rfl⟩;have hXk:=(hZ k hlt).1;refine SB.seq (S:=fun f H β=>∃ gs st,f 0=.hp 900000 1 0 0∧f 12=.iv (.int .i64 k)∧f 4=.hs 4 st∧f 3=V∧H 3=C∧H 4=.blk false st 22 1 (dG gs)∧PG 30000 50000 32 3 qrw n (fun k=>(Z k).length) vs (k+1) gs H β∧FB 30000 50000 Hc βc H β) (SB.block ?_) ?_
 ·refine SB.seg zi0 aX (S:=fun f H=>f 0=.hp 900000 1 0 0∧f 12=.iv (.int .i64 k)∧f 4=.hs 4 st∧f 3=V∧f 13=.iv (.raw v)∧H=H') 1 (by rfl) (by rfl) ?_ (by rfl) ?_
  ·simp (disch:=omega) only[wt,seval,aV,cZ,g0,g6,g5,gy,k0',k1',gU,p.vl,wJ (show k<vs.length by rw[p.vl];exact hlt),hv]
  clear g0 g6 g5 gy f;rintro f H β ⟨g0,g6,g5,gy,g7,rfl⟩ hs;replace p:=p.same hs (by decide) fun u _=>rfl
  replace F:=F.same hs fun _ _=>rfl
  clear hs β';have hm0:=p.mkk k hlt;rw[hv]at hm0;refine SB.seq (S:=fun f H β=>f 0=.hp 900000 1 0 0∧f 12=.iv (.int .i64 k)∧f 4=.hs 4 st∧f 3=V∧H 3=C∧H 4=.blk false st 22 1 (dG gs)∧PG 30000 50000 32 3 qrw n (fun k=>(Z k).length) vs k gs H β∧FB 30000 50000 Hc βc H β∧∃ g hg,f 13=.iv (.raw g)∧(hg=k+30000∨hg=k+50000)∧Mk H β hg 32 3 (qrw k) ((Z k).length+5) g) ?_ ?_
  ·refine SB.seg zi0 aX (S:=fun f H'=>f 0=.hp 900000 1 0 0∧f 12=.iv (.int .i64 k)∧f 4=.hs 4 st∧f 3=V∧f 13=.iv (.raw v)∧f 14=.iv (.int .i64 0)∧H'=H) 1 (by rfl) (by rfl) ?_ (by rfl) ?_
   ·simp only[wt,seval,aV,cZ,g0,g6,g5,gy,g7]
   clear g0 g6 g5 gy g7 f;rintro f H' β' ⟨g0,g6,g5,gy,g7,g8,rfl⟩ hs;replace p:=p.same hs (by decide) fun _ _=>rfl
   replace F:=F.same hs fun _ _=>rfl
   replace hm0:=hm0.same hs rfl;clear hs β;refine SB.block (SB.loop (fun f H β=>∃ j g hg,j≤5∧f 0=.hp 900000 1 0 0∧f 12=.iv (.int .i64 k)∧f 4=.hs 4 st∧f 3=V∧H 3=C∧f 14=.iv (.int .i64 (j:Nat))∧H 4=.blk false st 22 1 (dG gs)∧PG 30000 50000 32 3 qrw n (fun k=>(Z k).length) vs k gs H β∧FB 30000 50000 Hc βc H β∧f 13=.iv (.raw g)∧(hg=k+30000∨hg=k+50000)∧Mk H β hg 32 3 (qrw k) ((Z k).length+j) g) (fun f=>(5-aY f 14).toNat) ⟨0,v,k+30000,by omega,g0,g6,g5,gy,hy,g8,h5,p,F,g7,.inl rfl,hm0⟩ ?_);clear g0 g6 g5 gy g7 g8 h5 hy p F hm0 k0' k1' f H' β';rintro f H β ⟨j,g,hg,hj,g0,g6,g5,gy,hy,g8,h5,p,F,g7,hg7,hm⟩;rw[aB g8];refine SB.seq (S:=fun f H' β'=>f 0=.hp 900000 1 0 0∧f 12=.iv (.int .i64 k)∧f 4=.hs 4 st∧f 3=V∧f 14=.iv (.int .i64 j)∧f 13=.iv (.raw g)∧j<5∧H'=H∧qY H β H' β') (SB.aw zi0 aX (by rfl) (by rfl) (Qa:=fun e f H'=>f 0=.hp 900000 1 0 0∧f 12=.iv (.int .i64 k)∧f 4=.hs 4 st∧f 3=V∧f 14=.iv (.int .i64 j)∧f 13=.iv (.raw g)∧H'=H∧((e=.normal∧j<5)∨(e=.exit 14∧j=5))) ?_ ?_) ?_
   ·simp (disch:=omega) only[wt,seval,g8];refine aQ (fun hlt=>?_) (fun hlt=>?_)
    ·simp only[wt,seval,g0,g6,g5,gy,g7,g8];exact .inl (by omega)
    ·simp only[wt,seval,g0,g6,g5,gy,g7,g8];exact .inr (by omega)
   ·rintro e f' H' β' ⟨h1,h2,h3,h3y,h4,h6,rfl,he⟩ hs;rcases he with ⟨rfl,he⟩|⟨rfl,rfl⟩
    ·exact⟨h1,h2,h3,h3y,h4,h6,he,rfl,hs⟩
    ·exact⟨h1,h2,h3,h3y,hy,h5,p.same hs (by decide) fun _ _=>rfl,F.same hs fun _ _=>rfl,g,hg,h6,hg7,hm.same hs rfl⟩
   clear g0 g6 g5 gy g7 g8 f;rintro f H' β' ⟨g0,g6,g5,gy,g8,g7,hj5,rfl,hs⟩;replace p:=p.same hs (by decide) fun _ _=>rfl
   replace F:=F.same hs fun _ _=>rfl
   replace hm:=hm.same hs rfl;clear hs β;refine SB.seq (S:=fun f H β=>∃ g hg,f 0=.hp 900000 1 0 0∧f 12=.iv (.int .i64 k)∧f 4=.hs 4 st∧f 3=V∧H 3=C∧f 14=.iv (.int .i64 j)∧H 4=.blk false st 22 1 (dG gs)∧PG 30000 50000 32 3 qrw n (fun k=>(Z k).length) vs k gs H β∧FB 30000 50000 Hc βc H β∧f 13=.iv (.raw g)∧(hg=k+30000∨hg=k+50000)∧Mk H β hg 32 3 (qrw k) ((Z k).length+(j+1)) g) (SB.block (SB.region ?_)) ?_
   ·refine LB.ops zi0 (l1:=[_,_,_,_,_,_,_]) (l2:=[_,_]) (K:=fun f H2 _=>f 0=.hp 900000 1 0 0∧f 12=.iv (.int .i64 k)∧f 4=.hs 4 st∧f 3=V∧f 14=.iv (.int .i64 j)∧f 146=.iv (.raw g)∧∃ st',f 152=.hs 152 st'∧H2 152=.blk false st' 32 3 (a9v (qrw k))∧a1S [152,150] H' H2) rfl (by decide) ?_ ?_
    ·simp (disch:=omega) only[wt,seval,a2H,g0,g6,g5,gy,g7,g8];refine⟨_,rfl,?_,fun u hu=>?_⟩
     ·rw[mQ (by omega) (by omega) (by omega)];rfl
     ·simp only[List.mem_cons,List.not_mem_nil,or_false,not_or]at hu;rw[ak _ _ hu.1,ak _ _ hu.2,ak _ _ hu.2]
    clear g0 g6 g5 gy g7 g8 f;rintro f H lg β ⟨g0,g6,g5,gy,g8,g68,st',g72,h72,hu⟩ hs;replace p:=p.same hs (by decide) fun u h=>hu u (by simp;omega)
    replace F:=F.same hs fun u h=>hu u (by simp;omega)
    replace hm:=hm.same hs (hu _ (by simp;omega));have h5':H 4=.blk false st 22 1 (dG gs):=(hu 4 (by decide)).trans h5;have hy':H 3=C:=(hu 3 (by decide)).trans hy;clear hu hs h5 hy H' β';refine LB.app (zi:=zi0) (k+50000) (k:=1) (c:=True) (rd:=[152]) hm (x:=.tmp 146) (y:=.tmp 152) g68 (by show fO H (f 152)=_;rw[g72];simp only[fO,h72];rfl) trivial rfl rfl rfl (by decide) (by rw[a8p]) (by rw[a8p]) (by rw[a7P]) (by rw[a7P]) rfl (by omega) (by rw[a7P];show _*56≤_;omega) (by simp only[maxLen];omega) ?_ ?_
    ·intro v' H1 β1 hu hm1 hkeep;have h51:H1 4=.blk false st 22 1 (dG gs):=(hu 4 (by omega)).1.trans h5';have hy1:H1 3=C:=(hu 3 (by omega)).1.trans hy';have p1:PG 30000 50000 32 3 qrw n (fun k=>(Z k).length) vs k gs H1 β1:=by
      refine p.step hlt hn (by decide) (h:=hg) ?_ hu;rcases hg7 with rfl|rfl
      ·exact .inl ⟨rfl,hkeep⟩
      ·exact .inr rfl
     have F1:FB 30000 50000 Hc βc H1 β1:=F.step (h:=hg) (by omega) hu;refine LB.ops zi0 (l1:=[_]) (l2:=[]) (K:=fun f H2 _=>f 0=.hp 900000 1 0 0∧f 12=.iv (.int .i64 k)∧f 4=.hs 4 st∧f 3=V∧f 14=.iv (.int .i64 j)∧f 13=.iv (.raw v')∧H2=H1) rfl (by decide) (by simp only[wt,seval,g0,g6,g5,gy,g8]) ?_;rintro f' H2 lg' β2 ⟨g0,g6,g5,gy,g8,g7,rfl⟩ hs;exact LB.nil ⟨v',hg,g0,g6,g5,gy,hy1,g8,h51,p1.same hs (by decide) fun _ _=>rfl,F1.same hs fun _ _=>rfl,g7,hg7,hm1.same hs rfl⟩
    ·intro v' H1 β1 hu hm1;have h51:H1 4=.blk false st 22 1 (dG gs):=(hu 4 (by omega)).1.trans h5';have hy1:H1 3=C:=(hu 3 (by omega)).1.trans hy';have p1:PG 30000 50000 32 3 qrw n (fun k=>(Z k).length) vs k gs H1 β1:=p.step hlt hn (by decide) (h:=k+50000) (.inr rfl) hu;have F1:FB 30000 50000 Hc βc H1 β1:=F.step (h:=k+50000) (by omega) hu;refine LB.ops zi0 (l1:=[_]) (l2:=[]) (K:=fun f H2 _=>f 0=.hp 900000 1 0 0∧f 12=.iv (.int .i64 k)∧f 4=.hs 4 st∧f 3=V∧f 14=.iv (.int .i64 j)∧f 13=.iv (.raw v')∧H2=H1) rfl (by decide) (by simp only[wt,seval,g0,g6,g5,gy,g8]) ?_;rintro f' H2 lg' β2 ⟨g0,g6,g5,gy,g8,g7,rfl⟩ hs;exact LB.nil ⟨v',k+50000,g0,g6,g5,gy,hy1,g8,h51,p1.same hs (by decide) fun _ _=>rfl,F1.same hs fun _ _=>rfl,g7,.inr rfl,hm1.same hs rfl⟩
   ·clear g0 g6 g5 gy g7 g8 h5 hy p F hm f H' β';rintro f H β ⟨g,hg,g0,g6,g5,gy,hy,g8,h5,p,F,g7,hg7,hm⟩;refine SB.aw zi0 aX (by rfl) (by rfl) (Qa:=fun e f H'=>e=.normal∧f 0=.hp 900000 1 0 0∧f 12=.iv (.int .i64 k)∧f 4=.hs 4 st∧f 3=V∧f 14=.iv (.int .i64 ((j+1:Nat):Int))∧f 13=.iv (.raw g)∧H'=H) ?_ ?_
    ·simp (disch:=omega) only[wt,seval,g0,g6,g5,gy,g7,g8]
     try rfl
    ·rintro e f' H' β' ⟨rfl,h1,h2,h3,h3y,h4,h6,rfl⟩ hs;exact⟨⟨j+1,g,hg,by omega,h1,h2,h3,h3y,hy,h4,h5,p.same hs (by decide) fun _ _=>rfl,F.same hs fun _ _=>rfl,h6,hg7,hm.same hs rfl⟩,by show (5-aY f' 14).toNat<_;rw[aB h4];omega⟩
  ·clear g0 g6 g5 gy g7 h5 hy p F hm0 k0' k1' f H β;rintro f H β ⟨g0,g6,g5,gy,hy,h5,p,F,g,hg,g7,hg7,hm⟩;refine SB.aw zi0 aX (by rfl) (by rfl) (Qa:=fun e f H2=>e=.normal∧f 0=.hp 900000 1 0 0∧f 12=.iv (.int .i64 k)∧f 3=V∧∃ st,f 4=.hs 4 st∧H2 4=.blk false st 22 1 (dG gs++[[.raw g]])∧a1S [4,156] H H2) ?_ ?_
   ·simp (disch:=omega) only[wt,seval,g0,g6,g5,gy,g7,h5,gU,p.gl];refine⟨_,rfl,rfl,fun u hu=>?_⟩;simp only[List.mem_cons,List.not_mem_nil,or_false,not_or]at hu;rw[ak _ _ hu.1,ak _ _ hu.2]
   ·rintro e f' H2 β2 ⟨rfl,g0,g6,gy,st2,g5,h52,hu2⟩ hs;exact⟨gs++[g],st2,g0,g6,g5,gy,(hu2 _ (by decide)).trans hy,by rw[h52];simp[dG],(p.same hs (by decide) fun u h=>hu2 u (by simp;omega)).snoc (hm.same hs (hu2 _ (by simp;omega))) (by omega) (by omega),F.same hs fun u h=>hu2 u (by simp;omega)⟩
 ·clear g0 g6 g5 gy hy h5 k0' k1' p F;clear f;rintro f H β ⟨gs,st,g0,g6,g5,gy,hy,h5,p,F⟩;refine SB.aw zi0 aX (by rfl) (by rfl) (Qa:=fun e f H'=>e=.normal∧f 0=.hp 900000 1 0 0∧f 12=.iv (.int .i64 ((k+1:Nat):Int))∧f 4=.hs 4 st∧f 3=V∧H'=H) ?_ ?_
  ·simp (disch:=omega) only[wt,seval,g0,g6,g5,gy]
   try rfl
  ·rintro e f' H' β' ⟨rfl,h1,h2,h3,h4,rfl⟩ hs;exact⟨⟨k+1,gs,st,by omega,h1,h2,h3,h4,hy,h5,p.same hs (by decide) fun _ _=>rfl,F.same hs fun _ _=>rfl⟩,by show (n-aY f' 12).toNat<_;rw[aB h2];omega⟩
set_option linter.defProp false
theorem jF {o:Option Code}{body c d:Code}{n:Nat}(ho:o=some body)(hd:kQ n body=some d)(hc:o.bind (kQ n)=some c):c=d:=by
 subst ho;exact Option.some.inj (hc.symm.trans hd)
section
variable {b1 b2 te sz:Nat} {row:Nat→List IV} {n:Nat} {len:Nat→Nat} {vs:List Value} {k:Nat} {gs:List Value} {H H' Hc:AL.Hp} {β β' βc:Nat→Value}
theorem PG.move (p:PG b1 b2 te sz row n len vs k gs Hc βc)(hk:k≤n)(h:∀ u,(b1≤u∧u<b1+n)∨(b2≤u∧u<b2+n)→H u=Hc u∧((Hc u).bV→β u=βc u)):PG b1 b2 te sz row n len vs k gs H β :=
 ⟨p.vl,p.gl,fun j hj=>(p.mkk j hj).congr (h _ (by omega)).1 ((h _ (by omega)).2 (p.mkk j hj).mut),fun j hj=>by
  obtain⟨h',m,e,hm,q⟩:=p.gr j hj;exact⟨h',m,e,hm,q.congr (h _ (by omega)).1 ((h _ (by omega)).2 q.mut)⟩⟩
theorem PG.data {G:Gh}{M:Nat→Prop}{w0:World}{D0:Nat→Prop}{N:Nat}{f:AL.Fr}{a:Act}{w:World}(p:PG b1 b2 te sz row n len vs n gs H β)(R:Rel G M w0 D0 N f H' β a w)(hf:∀ j<n,H' (j+b1)=(H (j+b1)).frz∧H' (j+b2)=(H (j+b2)).frz) :
  (∀ j<n,Rep w (DD H' β D0) (.sl (List.replicate (len j) (row j))) (vs.getD j Go.undef))∧∃ ms:Nat→Nat,∀ j<n,ms j≤2^42∧Rep w (DD H' β D0) (.sl (List.replicate (ms j) (row j))) (gs.getD j Go.undef):=by
 refine⟨fun j hj=>R.mkData (p.mkk j hj) (hf j hj).1,?_⟩;obtain⟨ms,hms⟩:=Classical.axiomOfChoice (r:=fun (j m:Nat)=>j<n→m≤2^42∧Rep w (DD H' β D0) (.sl (List.replicate m (row j))) (gs.getD j Go.undef)) (fun j=>by
  by_cases hj:j<n
  ·obtain⟨h',m,e',hm,q⟩:=p.gr j hj;refine⟨m,fun _=>⟨hm,R.mkData q ?_⟩⟩;rcases e' with rfl|rfl
   ·exact(hf j hj).1
   ·exact(hf j hj).2
  ·exact⟨0,fun h=>absurd h hj⟩)
 exact⟨ms,hms⟩
end
theorem um {H:AL.Hp}{β:Nat→Value}{D0:Nat→Prop}{h st e sz:Nat}{rows:List (List IV)}(hm:(H h).bV){b:Nat}(hb:DD (bg H h (.blk false st e sz rows)) β D0 b):DD H β D0 b:=by
 rcases hb with hb|⟨u,hu,hb⟩
 ·exact .inl hb
 ·refine .inr ⟨u,?_,hb⟩;by_cases e:u=h
  ·subst e;exact hm
  ·rwa [ak _ _ e]at hu
def dat (n:Nat)(len:Nat→Nat)(row:Nat→List IV):List IV:=(List.range n).map fun j=>.sl (List.replicate (len j) (row j))
theorem DY (n:Nat)(len:Nat→Nat)(row:Nat→List IV):(dat n len row).length=n:=by simp[dat]
def UY (n:Nat)(len:Nat→Nat)(row:Nat→List IV):List (List IV):=(dat n len row).map fun x=>[x]
theorem oh (n:Nat)(len:Nat→Nat)(row:Nat→List IV):(UY n len row).length=n:=by simp[UY,DY]
theorem uo {n:Nat}{len:Nat→Nat}{row:Nat→List IV}{i:Nat}(h:i<n):(UY n len row).getD i []=[.sl (List.replicate (len i) (row i))]:=by simp[UY,dat,List.getD,h]
theorem IL {w:World}{D D':Nat→Prop}{n:Nat}{len:Nat→Nat}{row:Nat→List IV}{vs:List Value}(hv:vs.length=n)(h:∀ j<n,Rep w D (.sl (List.replicate (len j) (row j))) (vs.getD j Go.undef))(hd:∀ b,D' b→D b):∀ i,i<vs.length→Rep w D' ((dat n len row).getD i default) (vs.getD i Go.undef):=fun i hi=>by
 have:=(h i (by omega)).mono (bD.of_sub hd);rw[hv]at hi;simpa [dat,List.getD,hi] using this
theorem zd1 (a b:IV):List.drop 1 [a,b]=[b]:=rfl
theorem qd2 (a b c:IV):List.drop 2 [a,b,c]=[c]:=rfl
set_option maxRecDepth 8000 in
set_option maxHeartbeats 4000000 in
theorem a4H (n:Nat)(hn:n≤10000)(len ms:Nat→Nat)(hl:∀ j<n,len j≤2^42)(hm:∀ j<n,ms j≤2^42)(f:AL.Fr)(H:AL.Hp)(a1 a4 a5:Nat)(x2 x3 x6 x7:AV)(k0:H 900000=.nst 1 41 [.hs 900001 a1,x2,x3,.hs 900004 a4,.hs 900005 a5,x6,x7])(k1:H 900004=.blk false a4 49 1 (UY n len zrw))(st:Nat)(h5:H 3=.blk false st 49 1 (UY n ms zrw))(V:AV)(g0:f 0=.hp 900000 1 0 0)(g5:f 3=.hs 3 st)(gy:f 4=V) :
  ∃ c,Tryz.f40.body.bind (kQ 8)=some c∧@AWs zi0 Tryz.prog (fun f H'=>f 0=.hp 900000 1 0 0∧f 4=V∧H'=H) 1 c (fun _ _ _=>False) f H:=by
 refine⟨_,rfl,?_⟩;simp only[wt,seval,aV];refine aH (fun f H'=>∃ i:Nat,i≤n∧f 0=.hp 900000 1 0 0∧f 3=.hs 3 st∧f 4=V∧f 15=.iv (.int .i64 i)∧H'=H) (fun f H=>(n-aY f 15).toNat) ?_ ?_
 ·exact⟨0,by omega,by simp only[wt,seval,g0],by simp only[wt,seval,g5],by simp only[wt,seval,gy],by simp only[wt,seval];try rfl,rfl⟩
 clear g0 g5 gy f;rintro f H' ⟨i,hi,g0,g5,gy,gi,rfl⟩;rw[aB gi];simp (disch:=omega) only[wt,seval,g5,gi,h5,oh];refine aQ (fun hlt=>?_) (fun hlt=>?_)
 ·have hin:i<n:=by omega
  have hmi:=hm i hin;have hli:=hl i hin;simp (disch:=omega) only[wt,seval];refine aH (fun f H2=>∃ j:Nat,j≤ms i∧f 0=.hp 900000 1 0 0∧f 3=.hs 3 st∧f 4=V∧f 15=.iv (.int .i64 i)∧f 16=.iv (.int .i64 j)∧H2=H') (fun f H=>(ms i-aY f 16).toNat) ?_ ?_
  ·exact⟨0,by omega,by simp only[wt,seval,g0],by simp only[wt,seval,g5],by simp only[wt,seval,gy],by simp only[wt,seval,gi],by simp only[wt,seval];try rfl,rfl⟩
  clear g0 g5 gy gi f;rintro f H2 ⟨j,hj,g0,g5,gy,gi,gj,rfl⟩;rw[aB gj];simp (disch:=omega) only[wt,seval,g5,gi,gj,h5,oh,uo hin];refine aQ (fun hlj=>?_) (fun hlj=>?_)
  ·have hjm:j<ms i:=by omega
   have hrow:(List.replicate (ms i) (zrw i)).getD j []=[IV.bool false,IV.sl [[IV.int IntKind.u64 ((i:Int)+7)]]]:=by rw[List.getD,List.getElem?_replicate,if_pos hjm];rfl
   have hw:=mQ (show i≤1000000 by omega) (show (0:Int)≤7 by omega) (show (7:Int)≤1000 by omega);by_cases hjl:(j:Int)<(len i:Int)
   ·have a4Z:j<len i:=by omega
    have hrow2:(List.replicate (len i) (zrw i)).getD j []=[IV.bool false,IV.sl [[IV.int IntKind.u64 ((i:Int)+7)]]]:=by rw[List.getD,List.getElem?_replicate,if_pos a4Z];rfl
    simp (disch:=omega) only[wt,seval,g0,g5,gi,gy,gj,h5,k0,k1,oh,uo hin,hrow,hrow2,hw,hjl,zd1];exact⟨⟨j+1,by omega,by omega⟩,by omega⟩
   ·simp (disch:=omega) only[wt,seval,g0,g5,gi,gy,gj,h5,k0,k1,oh,uo hin,hrow,hw,hjl,zd1];exact⟨⟨j+1,by omega,by omega⟩,by omega⟩
  ·simp (disch:=omega) only[wt,seval,g0,g5,gi,gy];exact⟨⟨i+1,by omega,by omega⟩,by omega⟩
 ·simp (disch:=omega) only[wt,seval,cZ,g0,gy]
set_option maxRecDepth 8000 in
set_option maxHeartbeats 4000000 in
theorem a4G (n:Nat)(hn:n≤10000)(len ms:Nat→Nat)(hl:∀ j<n,len j≤2^42)(hm:∀ j<n,ms j≤2^42)(f:AL.Fr)(H:AL.Hp)(a1 a4 a5:Nat)(x2 x3 x6 x7:AV)(k0:H 900000=.nst 1 41 [.hs 900001 a1,x2,x3,.hs 900004 a4,.hs 900005 a5,x6,x7])(k1:H 900005=.blk false a5 22 1 (UY n len qrw))(st:Nat)(h5:H 4=.blk false st 22 1 (UY n ms qrw))(V:AV)(g0:f 0=.hp 900000 1 0 0)(g5:f 4=.hs 4 st)(gy:f 3=V) :
  ∃ c,Tryz.f40.body.bind (kQ 9)=some c∧@AWs zi0 Tryz.prog (fun f H'=>f 0=.hp 900000 1 0 0∧f 3=V∧H'=H) 1 c (fun _ _ _=>False) f H:=by
 refine⟨_,rfl,?_⟩;simp only[wt,seval,aV];refine aH (fun f H'=>∃ i:Nat,i≤n∧f 0=.hp 900000 1 0 0∧f 4=.hs 4 st∧f 3=V∧f 17=.iv (.int .i64 i)∧H'=H) (fun f H=>(n-aY f 17).toNat) ?_ ?_
 ·exact⟨0,by omega,by simp only[wt,seval,g0],by simp only[wt,seval,g5],by simp only[wt,seval,gy],by simp only[wt,seval];try rfl,rfl⟩
 clear g0 g5 gy f;rintro f H' ⟨i,hi,g0,g5,gy,gi,rfl⟩;rw[aB gi];simp (disch:=omega) only[wt,seval,g5,gi,h5,oh];refine aQ (fun hlt=>?_) (fun hlt=>?_)
 ·have hin:i<n:=by omega
  have hmi:=hm i hin;have hli:=hl i hin;simp (disch:=omega) only[wt,seval];refine aH (fun f H2=>∃ j:Nat,j≤ms i∧f 0=.hp 900000 1 0 0∧f 4=.hs 4 st∧f 3=V∧f 17=.iv (.int .i64 i)∧f 18=.iv (.int .i64 j)∧H2=H') (fun f H=>(ms i-aY f 18).toNat) ?_ ?_
  ·exact⟨0,by omega,by simp only[wt,seval,g0],by simp only[wt,seval,g5],by simp only[wt,seval,gy],by simp only[wt,seval,gi],by simp only[wt,seval];try rfl,rfl⟩
  clear g0 g5 gy gi f;rintro f H2 ⟨j,hj,g0,g5,gy,gi,gj,rfl⟩;rw[aB gj];simp (disch:=omega) only[wt,seval,g5,gi,gj,h5,oh,uo hin];refine aQ (fun hlj=>?_) (fun hlj=>?_)
  ·have hjm:j<ms i:=by omega
   have hrow:(List.replicate (ms i) (qrw i)).getD j []=[IV.bool false,IV.sl [],IV.sl [[IV.int IntKind.u64 ((i:Int)+7)]]]:=by rw[List.getD,List.getElem?_replicate,if_pos hjm];rfl
   have hw:=mQ (show i≤1000000 by omega) (show (0:Int)≤7 by omega) (show (7:Int)≤1000 by omega);by_cases hjl:(j:Int)<(len i:Int)
   ·have a4Z:j<len i:=by omega
    have hrow2:(List.replicate (len i) (qrw i)).getD j []=[IV.bool false,IV.sl [],IV.sl [[IV.int IntKind.u64 ((i:Int)+7)]]]:=by rw[List.getD,List.getElem?_replicate,if_pos a4Z];rfl
    simp (disch:=omega) only[wt,seval,g0,g5,gi,gy,gj,h5,k0,k1,oh,uo hin,hrow,hrow2,hw,hjl,qd2];exact⟨⟨j+1,by omega,by omega⟩,by omega⟩
   ·simp (disch:=omega) only[wt,seval,g0,g5,gi,gy,gj,h5,k0,k1,oh,uo hin,hrow,hw,hjl,qd2];exact⟨⟨j+1,by omega,by omega⟩,by omega⟩
  ·simp (disch:=omega) only[wt,seval,g0,g5,gi,gy];exact⟨⟨i+1,by omega,by omega⟩,by omega⟩
 ·simp (disch:=omega) only[wt,seval,cZ,g0,gy]
set_option linter.defProp false
theorem RB.congr {b n T sz:Nat}{rows:Nat→List (List IV)}{H H':AL.Hp}(h:RB b n T sz rows H)(e:∀ k<n,H' (k+b)=H (k+b)):RB b n T sz rows H':=fun k hk=>(e k hk).trans (h k hk)
set_option maxRecDepth 8000 in
set_option maxHeartbeats 4000000 in
theorem a0P (n nz nq:Nat)(X Z Y:Nat→List (List IV))(hn:n≤100000)(hnz:nz≤10000)(hnq:nq≤10000)(hX:Big X n 1)(hZ:Big Z nz 2)(hY:Big Y nq 3)(H0:AL.Hp)(h0:LS n nz nq X Z Y H0):ACI Tryz.prog 40 [.hp 900000 1 0 0] H0 (fun x H'=>x=.iv (.bool true)):=by
 refine ACI.a7q zi0 (rs:=[.tmp 2]) Tryz.func40 (by rfl) (by rfl) (by rfl) (by rfl) ⟨_,H0,rfl⟩ fun β=>?_;obtain⟨c,hc,h1⟩:=a4M n nz nq X Z Y hn hnz hnq hX H0 h0;obtain rfl:=jF rfl rfl hc;refine SB.seg zi0 aX 4 (by rfl) (by rfl) h1 (by rfl) ?_;clear h1 hc h0;intro f H β1 hL hs;clear hs β;obtain⟨c,hc,h1⟩:=a4L nz nq Z Y hnz hnq hZ f H hL;obtain rfl:=jF rfl rfl hc;refine SB.seg zi0 aX 1 (by rfl) (by rfl) h1 (by rfl) ?_;clear h1 hc hL f;intro f H' β2 hL hs;clear hs H β1;obtain⟨c,hc,h1⟩:=a4K nz nq (fun k=>List.replicate (Z k).length (zrw k)) Y hnz hnq hY f H' hL;obtain rfl:=jF rfl rfl hc;refine SB.seg zi0 aX 1 (by rfl) (by rfl) h1 (by rfl) ?_;clear h1 hc hL f;intro f H β hL hs;clear hs H' β2;obtain⟨g0,g3,g4,a1,a4,a5,x2,x3,x6,x7,k0,k4,k5,kz,ky⟩:=hL;refine SB.ent fun G M w0 D0 a w R=>?_;obtain⟨vz,hz1,hz2,R1⟩:=R.Rj k4;rw[jw]at hz1 hz2;have pz:PG 20000 40000 30 2 zrw nz (fun k=>(Z k).length) vz 0 [] H β:=PG.start R hz1 hz2 kz;obtain⟨vq,hq1,hq2,R2⟩:=R1.Rj (h:=900005) (by rw[ak _ _ (by omega)];exact k5);rw[jw]at hq1 hq2;have pq:PG 30000 50000 32 3 qrw nq (fun k=>(Y k).length) vq 0 [] _ β:=PG.start R1 hq1 hq2 (ky.congr fun k hk=>ak _ _ (by omega));refine⟨_,_,_,?_,R2⟩;obtain⟨H2,hH2⟩:∃ H2,H2=bg (bg H 900004 (.blk false a4 49 1 (dG vz))) 900005 (.blk false a5 22 1 (dG vq)):=⟨_,rfl⟩;have pz2:PG 20000 40000 30 2 zrw nz (fun k=>(Z k).length) vz 0 [] H2 β:=pz.move (by omega) fun u hu=>⟨by rw[hH2,ak _ _ (by omega),ak _ _ (by omega)],fun _=>rfl⟩
 have pq2:PG 30000 50000 32 3 qrw nq (fun k=>(Y k).length) vq 0 [] H2 β:=pq.move (by omega) fun u hu=>⟨by rw[hH2,ak _ _ (by omega)],fun _=>rfl⟩
 have k02:H2 900000=.nst 1 41 [.hs 900001 a1,x2,x3,.hs 900004 a4,.hs 900005 a5,x6,x7]:=by rw[hH2,ak _ _ (by omega),ak _ _ (by omega)];exact k0
 have k42:H2 900004=.blk false a4 49 1 (dG vz):=by rw[hH2,ak _ _ (by omega),au]
 have k52:H2 900005=.blk false a5 22 1 (dG vq):=by rw[hH2,au]
 rw[← hH2];clear R R1 R2 hH2 pz pq k0 k4 k5 kz ky hz1 hz2 hq1 hq2 H a w D0 w0 M G;obtain⟨x,hx,h1⟩:=a4J nz hnz Z hZ vz H2 β a1 a4 a5 x2 x3 x6 x7 k02 k42 .jA _ f H2 β g0 g3 g4 k02 pz2 fun u _ _ _=>⟨rfl,fun _=>rfl⟩
 obtain rfl:=WS rfl rfl hx;refine SB.a9t h1 ?_;clear h1 hx g0 g3 g4 f;rintro f Hc βc ⟨g0,g4,-,gz,st3,g3,h3c,pz,FC⟩;have k0c:=(FC 900000 (by omega) (by omega) (by omega)).1.trans k02;have k4c:=(FC 900004 (by omega) (by omega) (by omega)).1.trans k42;have k5c:=(FC 900005 (by omega) (by omega) (by omega)).1.trans k52;have pqc:PG 30000 50000 32 3 qrw nq (fun k=>(Y k).length) vq 0 [] Hc βc:=pq2.move (by omega) fun u hu=>FC u (by omega) (by omega) (by omega)
 clear FC pz2 pq2 k02 k42 k52 H2 β;obtain⟨x,hx,h1⟩:=a4I nq hnq Y hY vq Hc βc a1 a4 a5 x2 x3 x6 x7 k0c k5c _ _ f Hc βc g0 g4 g3 h3c pqc fun u _ _ _=>⟨rfl,fun _=>rfl⟩
 obtain rfl:=WS rfl rfl hx;refine SB.a9t h1 ?_;clear h1 hx g0 g3 g4 f;rintro f H β ⟨g0,g3,h3,gq,st4,g4,h4,pq,FC⟩;have k0:=(FC 900000 (by omega) (by omega) (by omega)).1.trans k0c;have k4:=(FC 900004 (by omega) (by omega) (by omega)).1.trans k4c;have k5:=(FC 900005 (by omega) (by omega) (by omega)).1.trans k5c;replace pz:PG 20000 40000 30 2 zrw nz (fun k=>(Z k).length) vz nz gz H β:=pz.move (by omega) fun u hu=>FC u (by omega) (by omega) (by omega)
 clear FC pqc k0c k4c k5c h3c Hc βc;refine SB.ent fun G M w0 D0 a w R=>?_;obtain⟨ks,hks⟩:∃ ks,ks=(List.range nz).map (· + 20000)++((List.range nz).map (· + 40000)++((List.range nq).map (· + 30000)++(List.range nq).map (· + 50000))):=⟨_,rfl⟩;have kin:∀ u,u∈ks↔(∃ j<nz,u=j+20000)∨(∃ j<nz,u=j+40000)∨(∃ j<nq,u=j+30000)∨∃ j<nq,u=j+50000:=fun u=>by
  rw[hks];simp only[List.mem_append,List.mem_map,List.mem_range];constructor
  ·rintro(⟨j,hj,rfl⟩|⟨j,hj,rfl⟩|⟨j,hj,rfl⟩|⟨j,hj,rfl⟩)
   ·exact .inl ⟨j,hj,rfl⟩
   ·exact .inr (.inl ⟨j,hj,rfl⟩)
   ·exact .inr (.inr (.inl ⟨j,hj,rfl⟩))
   ·exact .inr (.inr (.inr ⟨j,hj,rfl⟩))
  ·rintro(⟨j,hj,rfl⟩|⟨j,hj,rfl⟩|⟨j,hj,rfl⟩|⟨j,hj,rfl⟩)
   ·exact .inl ⟨j,hj,rfl⟩
   ·exact .inr (.inl ⟨j,hj,rfl⟩)
   ·exact .inr (.inr (.inl ⟨j,hj,rfl⟩))
   ·exact .inr (.inr (.inr ⟨j,hj,rfl⟩))
 have Ub:∀ u,u<20000∨60000≤u→aC ks H u=H u:=fun u hu=>mF ks H u fun h=>by
  rcases (kin u).1 h with ⟨j,hj,rfl⟩|⟨j,hj,rfl⟩|⟨j,hj,rfl⟩|⟨j,hj,rfl⟩<;>omega
 have R1:=R.aC ks;obtain⟨dz,mz,hmz⟩:=pz.data R1 fun j hj=>⟨pI _ _ _ ((kin _).2 (.inl ⟨j,hj,rfl⟩)),pI _ _ _ ((kin _).2 (.inr (.inl ⟨j,hj,rfl⟩)))⟩
 obtain⟨dq,mq,hmq⟩:=pq.data R1 fun j hj=>⟨pI _ _ _ ((kin _).2 (.inr (.inr (.inl ⟨j,hj,rfl⟩)))),pI _ _ _ ((kin _).2 (.inr (.inr (.inr ⟨j,hj,rfl⟩))))⟩
 have f0:=(Ub 900000 (by omega)).trans k0;have f4:=(Ub 900004 (by omega)).trans k4;have f5:=(Ub 900005 (by omega)).trans k5;have f3':=(Ub 3 (by omega)).trans h3;have f4':=(Ub 4 (by omega)).trans h4;clear kin Ub hks R k0 k4 k5 h3 h4;generalize aC ks H=H1 at R1 dz hmz dq hmq f0 f4 f5 f3' f4';have R2:=R1.yI (xs:=dat nz (fun k=>(Z k).length) zrw) f4 (by rw[DY,pz.vl]) (IL pz.vl dz fun b hb=>hb);have m2:(H1 900004).bV:=by rw[f4];trivial
 have e5:bg H1 900004 (.blk false a4 49 1 ((dat nz (fun k=>(Z k).length) zrw).map fun x=>[x])) 900005=.blk false a5 22 1 (dG vq):=by rw[ak _ _ (by omega)];exact f5
 have R3:=R2.yI (xs:=dat nq (fun k=>(Y k).length) qrw) e5 (by rw[DY,pq.vl]) (IL pq.vl dq fun b hb=>um m2 hb);have m3:(bg H1 900004 (.blk false a4 49 1 ((dat nz (fun k=>(Z k).length) zrw).map fun x=>[x])) 900005).bV:=by rw[e5];trivial
 have e3:bg (bg H1 900004 (.blk false a4 49 1 ((dat nz (fun k=>(Z k).length) zrw).map fun x=>[x]))) 900005 (.blk false a5 22 1 ((dat nq (fun k=>(Y k).length) qrw).map fun x=>[x])) 3=.blk false st3 49 1 (dG gz):=by rw[ak _ _ (by omega),ak _ _ (by omega)];exact f3'
 have R4:=R3.yI (xs:=dat nz mz zrw) e3 (by rw[DY,pz.gl]) (IL pz.gl (fun j hj=>(hmz j hj).2) fun b hb=>um m2 (um m3 hb));generalize hH3:bg (bg H1 900004 (.blk false a4 49 1 ((dat nz (fun k=>(Z k).length) zrw).map fun x=>[x]))) 900005 (.blk false a5 22 1 ((dat nq (fun k=>(Y k).length) qrw).map fun x=>[x]))=H3 at R3 e3 R4;have m4:(H3 3).bV:=by rw[e3];trivial
 have dd3:∀ b,DD H3 β D0 b→DD H1 β D0 b:=fun b hb=>by rw[← hH3]at hb;exact um m2 (um m3 hb)
 have e4:bg H3 3 (.blk false st3 49 1 ((dat nz mz zrw).map fun x=>[x])) 4=.blk false st4 22 1 (dG gq):=by rw[ak _ _ (by omega),← hH3,ak _ _ (by omega),ak _ _ (by omega)];exact f4'
 have R5:=R4.yI (xs:=dat nq mq qrw) e4 (by rw[DY,pq.gl]) (IL pq.gl (fun j hj=>(hmq j hj).2) fun b hb=>dd3 b (um m4 hb));refine⟨_,_,_,?_,R5⟩;obtain⟨H5,hH5⟩:∃ H5,H5=bg (bg H3 3 (.blk false st3 49 1 ((dat nz mz zrw).map fun x=>[x]))) 4 (.blk false st4 22 1 ((dat nq mq qrw).map fun x=>[x])):=⟨_,rfl⟩;have u0:H5 900000=.nst 1 41 [.hs 900001 a1,x2,x3,.hs 900004 a4,.hs 900005 a5,x6,x7]:=by rw[hH5,ak _ _ (by omega),ak _ _ (by omega),← hH3,ak _ _ (by omega),ak _ _ (by omega)];exact f0
 have u4:H5 900004=.blk false a4 49 1 (UY nz (fun k=>(Z k).length) zrw):=by rw[hH5,ak _ _ (by omega),ak _ _ (by omega),← hH3,ak _ _ (by omega),au];rfl
 have u5:H5 900005=.blk false a5 22 1 (UY nq (fun k=>(Y k).length) qrw):=by rw[hH5,ak _ _ (by omega),ak _ _ (by omega),← hH3,au];rfl
 have u3':H5 3=.blk false st3 49 1 (UY nz mz zrw):=by rw[hH5,ak _ _ (by omega),au];rfl
 have u4':H5 4=.blk false st4 22 1 (UY nq mq qrw):=by rw[hH5,au];rfl
 have bz:∀ j<nz,mz j≤2^42:=fun j hj=>(hmz j hj).1
 have bq:∀ j<nq,mq j≤2^42:=fun j hj=>(hmq j hj).1
 rw[← hH5];clear hH5 hH3 R1 R2 R3 R4 R5 e3 e4 e5 m2 m3 m4 dd3 f0 f4 f5 f3' f4' dz dq hmz hmq pz pq H3 H1 H;obtain⟨c,hc,h1⟩:=a4H nz hnz (fun k=>(Z k).length) mz (fun j hj=>Nat.le_trans (hZ j hj).1 (by decide)) bz f H5 a1 a4 a5 x2 x3 x6 x7 u0 u4 st3 u3' _ g0 g3 g4;obtain rfl:=jF rfl rfl hc;refine SB.seg zi0 aX 1 (by rfl) (by rfl) h1 (by rfl) ?_;clear h1 hc g0 g3 g4 f;rintro f H β1 ⟨g0,g4,rfl⟩ -;obtain⟨c,hc,h1⟩:=a4G nq hnq (fun k=>(Y k).length) mq (fun j hj=>Nat.le_trans (hY j hj).1 (by decide)) bq f H a1 a4 a5 x2 x3 x6 x7 u0 u5 st4 u4' (f 3) g0 g4 rfl;obtain rfl:=jF rfl rfl hc;refine SB.seg zi0 aX 1 (by rfl) (by rfl) h1 (by rfl) ?_;clear h1 hc g0 g4;rintro f2 H' β2 ⟨g0,g3,rfl⟩ -;refine SB.aw zi0 aX (by rfl) (by rfl) (Qa:=@Jo zi0 Tryz.prog [.tmp 2] (fun x H'=>x=.iv (.bool true))) ?_ fun _ _ _ _ h _=>h;simp only[wt,seval];exact tV (by simp only[wt,seval];try rfl) rfl
end Go.Proofs.YtdpngipofekcfaaGreat
