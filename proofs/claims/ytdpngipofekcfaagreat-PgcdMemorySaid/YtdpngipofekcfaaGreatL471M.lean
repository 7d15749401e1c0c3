/-
 Contracts of the functions that the law reaches.
-/
import Derived.Test.YtdpngipofekcfaaGreatL470
import Derived.Test.YtdpngipofekcfaaGreatAbsZ3M
set_option maxHeartbeats 2000000
set_option maxRecDepth 100000
set_option linter.defProp false
namespace Go.Proofs.YtdpngipofekcfaaGreat
open Go Go.Proofs Go.AL
set_option linter.unusedSimpArgs false
set_option linter.unusedVariables false

section
variable {p:List RI}
def WY {o:Option Code}{body c d:Code}{n:Nat}(ho:o=some body)(hd:oG n body=some d)(hc:o.bind (oG n)=some c):c=d:=by
 subst ho;exact Option.some.inj (hc.symm.trans hd)
@[reducible] def zM:Zi:=⟨some (148,1),(· == 3),λ_=>false,.no⟩
theorem a8d : @Zi.st zM=.no:=rfl
theorem b8G (e:Nat) : @Zi.bx zM e=(e == 3):=rfl
theorem b5G (e:Nat) : @Zi.bs zM e=false:=rfl
theorem a8e : @zsl zM=.own none 148 1 []:=rfl
def WH (x y:IV)(a:Bool)(l:List (List IV)):lay (λi=>[(0,1),(1,1)][i]?) [x,y] ([0,1].zip [[.bool a],[.sl l]])=some (True,[.bool a,.sl l]):=by
 simp[lay,splice]
def m4:RI:=canon (-4)
def b7d (c:RI):List IV:=[.sl (dh c.2++[[IV.int .u64 77]])]
def jl (p:List RI):List (List IV):=p.map b7d
def PX (p:List RI):(jl p).length=p.length:=by simp[jl]
theorem a6w {i:Nat}(h:i<p.length):(jl p).getD i []=[.sl (dh (p.getD i (false,[])).2++[[IV.int .u64 77]])]:=by simp[jl,List.getD,h,b7d]
theorem Aw (p:List RI):(bZ p).length=p.length:=by simp[bZ]
theorem Ia (l:List Nat):(dh l++[[IV.int .u64 77]]).take l.length=dh l:=by rw[show ([[IV.int .u64 77]]:List (List IV))=dh [77] from rfl,Wv,xk,zd5]
theorem b3L (p:List RI){i:Nat}(h:i<p.length):p.take (i+1)=p.take i++[p.getD i (false,[])]:=by
 rw[zaS,List.getD,zaf h];rfl
def Yp (p:List RI)(c:RI):jl p++[[.sl (dh c.2++[[IV.int .u64 77]])]]=jl (p++[c]):=by simp[jl,b7d]
theorem XU (p:List RI)(c:RI):bZ p++[[.bool c.1,.sl (dh c.2)]]=bZ (p++[c]):=by simp[bZ,jy]
def SRm (c:Nat)(p:List RI)(B:Nat)(f:AL.Fr)(H:AL.Hp):Prop :=
 f 3=.hp 3 1 0 0/\f 2=.hp 2 1 0 0/\H 2=.blk false 1 116 3 [[.own none 148 1 [],.own none 148 1 [],.own none 148 1 []]]/\H 999=.mrk B/\H (c+1500)=.none/\H (c+1501)=.none/\H (c+1502)=.none /\
 ∃s1,H 9=.blk false s1 30 2 (bZ (p++[m4]))/\((p=[]/\H 3=.nst 1 116 [.hv 9 s1 0 p.length,.hs 9 s1,.vY])\/∃s2,H 3=.nst 1 116 [.hv 9 s1 0 p.length,.hs 9 s1,.hs 37 s2]/\H 37=.blk false s2 27 1 (jl p))
set_option maxHeartbeats 2000000 in
theorem b0j (c:Nat)(p:List RI)(h:RP 100 (2^40) p)(H0:AL.Hp)(B:Nat)(hB:H0 999=.mrk B)(hN:∀k,k≠999->H0 k=.none) :
  ∃y,Tryz.f68.body.bind (oG 0)=some y/\@AWs zM Tryz.prog (SRm c p B) 6 y (λ_ _ _=>False) (Ec [.iv (.sl (bZ p))]) H0:=by
 refine⟨_,rfl,?_⟩;have zm:=MF (-4) (by omega) (by omega);have hl:=h.1;have n2:=hN 2 (by omega);have n3:=hN 3 (by omega);have n9:=hN 9 (by omega);have k0:=hN (c+1500) (by omega);have k1:=hN (c+1501) (by omega);have k2:=hN (c+1502) (by omega);simp (disch:=omega) only[wt,seval,zbe,Nat.reduceBEq,a8d,b8G,a8e,kU,n2,n3,n9];refine aI (λf H=>∃(i s1:Nat),i<=p.length/\f 4=.iv (.int .i64 i)/\f 0=.iv (.sl (bZ p))/\f 3=.hp 3 1 0 0/\f 2=.hp 2 1 0 0/\H 2=.blk false 1 116 3 [[.own none 148 1 [],.own none 148 1 [],.own none 148 1 []]]/\H 999=.mrk B/\H (c+1500)=.none/\H (c+1501)=.none/\H (c+1502)=.none/\H 9=.blk false s1 30 2 (bZ (p.take i)) /\
  ((i=0/\H 3=.nst 1 116 [.vY,.hs 9 s1,.vY])\/(0<i/\∃s2,H 3=.nst 1 116 [.vY,.hs 9 s1,.hs 37 s2]/\H 37=.blk false s2 27 1 (jl (p.take i))))) (λf H=>(p.length-bC f 4).toNat) ?_ ?_
 .refine⟨0,1,by omega,?_⟩;simp only[wt,seval,zaj,hB,k0,k1,k2];exact .inl zar
 rintro f H ⟨i,s1,hi,hF⟩;rw[aC hF.1];obtain⟨h4,h0,h3,h2,hH2,h9,k0,k1,k2,hH9,hF⟩:=hF;simp (disch:=omega) only[wt,seval,a8d,a8e,h4,h0];have tl:(p.take i).length=i:=by rw[zah];omega
 refine bf (λhlt=>?_) (λhlt=>?_)
 .have hlt':i<p.length:=by omega
  have hg:=h.get i;have hg1:=hg.1;have et:=b3L p hlt';have rl:(bZ (p.take i)).length=i:=by rw[Aw,tl]
  have ll:(jl (p.take i)).length=i:=by rw[PX,tl]
  have l77:=Ia (p.getD i (false,[])).2;rcases hF with ⟨hi0,hH3⟩|⟨hi0,s2,hH3,b7x⟩
  .subst hi0;simp (disch:=omega) only[wt,seval,zaj,zbe,a8d,b5G,a8e,WH,h4,h0,h3,h2,hH2,h9,hH9,hH3,l77];refine .inl ⟨aP (by kernel_rfl),?_⟩;refine⟨aX (by kernel_rfl),?_⟩;refine .inl ⟨aP (by kernel_rfl),?_⟩;refine⟨aX (by kernel_rfl),?_⟩;refine⟨⟨1,s1+1,by omega,by omega,k0,k1,k2,?_,.inr ⟨by omega,_,rfl,?_⟩⟩,by omega⟩
   .rw[show List.take 1 p=List.take 0 p++[p.getD 0 (false,[])] from et];rfl
   .rw[show List.take 1 p=List.take 0 p++[p.getD 0 (false,[])] from et];rfl
  .simp (disch:=omega) only[wt,seval,zbe,a8d,b5G,a8e,WH,h4,h0,h3,h2,hH2,h9,hH9,hH3,b7x,ll,rl,l77];refine .inl ⟨aP (by kernel_rfl),?_⟩;refine⟨aX (by kernel_rfl),?_⟩;refine .inl ⟨aP (by kernel_rfl),?_⟩;refine⟨aX (by kernel_rfl),?_⟩;refine⟨⟨i+1,s1+1,by omega,by omega,k0,k1,k2,?_,.inr ⟨by omega,_,rfl,?_⟩⟩,by omega⟩
   .rw[et,<-XU]
   .rw[et,<-Yp]
 .obtain rfl:i=p.length:=by omega
  rw[zaM]at hH9 hF;have rl:(bZ p).length=p.length:=Aw p;have rl2:(bZ p++[[IV.bool (canon (-4)).1,IV.sl (dh (canon (-4)).2)]]).length=p.length+1:=by rw[zaB,rl];rfl
  rcases hF with ⟨hi0,hH3⟩|⟨hi0,s2,hH3,b7x⟩
  .simp (disch:=omega) only[wt,seval,a8d,a8e,kU,h3,hH3];refine .inl ⟨aP (by kernel_rfl),?_⟩;refine ah (zm) (by rfl) (by simp) ?_;simp (disch:=omega) only[wt,seval,zbe,a8d,b5G,a8e,kU,Ci,h0,h3,hH9,hH3,rl];refine⟨aX (by kernel_rfl),?_⟩;have e0:p=[]:=zaz.1 hi0;exact⟨by simp only[wt,seval,h3],by simp only[wt,seval,h2],by simp only[wt,seval,hH2],by simp only[wt,seval,h9],by simp only[wt,seval,k0],by simp only[wt,seval,k1],by simp only[wt,seval,k2],s1+1,by simp only[wt,seval];try rfl,.inl ⟨e0,by simp only[wt,seval]⟩⟩
  .simp (disch:=omega) only[wt,seval,a8d,a8e,kU,h3,hH3];refine .inl ⟨aP (by kernel_rfl),?_⟩;refine ah (zm) (by rfl) (by simp) ?_;simp (disch:=omega) only[wt,seval,zbe,a8d,b5G,a8e,kU,Ci,h0,h3,hH9,hH3,rl];refine⟨aX (by kernel_rfl),?_⟩;exact⟨by simp only[wt,seval,h3],by simp only[wt,seval,h2],by simp only[wt,seval,hH2],by simp only[wt,seval,h9],by simp only[wt,seval,k0],by simp only[wt,seval,k1],by simp only[wt,seval,k2],s1+1,by simp only[wt,seval];try rfl,.inr ⟨s2,by simp only[wt,seval],by simp only[wt,seval,b7x]⟩⟩
def kJ (c:Nat)(p:List RI)(v1 v2:Value)(H:AL.Hp):Prop:=H (c+1500)=.blk false 1 30 2 (bZ (p++[m4]))/\H (c+1501)=.tie (.hv (c+1500) 1 0 p.length) v1/\H (c+1502)=.tie (.hs (c+1500) 1) v2
def SRe (c:Nat)(p:List RI)(B:Nat)(v1 v2:Value)(f:AL.Fr)(H:AL.Hp):Prop :=
 f 3=.hp 3 1 0 0/\f 2=.hp 2 1 0 0/\H 2=.blk false 1 116 3 [[.own none 148 1 [],.own none 148 1 [],.own none 148 1 []]]/\H 3=.nst 1 116 [.iv (.raw v1),.iv (.raw v2),.iv (.sl (jl p))]/\H 999=.mrk B/\kJ c p v1 v2 H
theorem a0j {G:Gh}{M:Nat->Prop}{w0:World}{D0:Nat->Prop}{N:Nat}{f:AL.Fr}{H:AL.Hp}{β:Nat->Value}{a:Act}{w:World}{c:Nat}{p:List RI}{B:Nat}(R:Rel G M w0 D0 N f H β a w)(h:SRm c p B f H) :
  ∃f' H' β' v1 v2,SRe c p B v1 v2 f' H'/\Rel G M w0 D0 N f' H' β' a w:=by
 obtain⟨h3,h2,hH2,h9,k0,k1,k2,s1,hH9,hL⟩:=h;obtain⟨rn,hH3,hrn⟩:∃rn,H 3=.nst 1 116 [.hv 9 s1 0 p.length,.hs 9 s1,rn]/\∀v,ak w (DD H β D0) H β rn v->Rep w (λb=>D0 b\/∃h,h≠37/\(H h).bI/\aF (β h)=some b) (.sl (jl p)) v:=by
  rcases hL with ⟨rfl,e⟩|⟨s2,e,e37⟩
  .refine⟨_,e,λv hv=>?_⟩;simp only[ak]at hv;rw[hv];exact .nil none 0 (Nat.zero_le _)
  .refine⟨_,e,λv hv=>?_⟩;simp only[ak,e37,HC.stamp]at hv;rw[hv.2 trivial];refine(R.own _ _ _ _ _ e37).rep (D':=λb=>D0 b\/∃h,h≠37/\(H h).bI/\aF (β h)=some b) (λb hb=>?_) λg hg hb=>?_
   .rcases hb with hb|⟨k,_,hm,hk⟩
    .exact .inl hb
    .exact .inr ⟨k,hm,hk⟩
   .have m37:(H 37).bI:=by rw[e37];trivial
    rcases hb with hb|⟨k,hk',hm,hk⟩
    .rcases (R.iG m37 hg).2 with h|h
     .have:=(R.old _ hb).1;omega
     .exact(R.old _ hb).2 h
    .exact R.dis k 37 hk' hm m37 g hk hg
 have m3:(H 3).bI:=by rw[hH3];trivial
 have m9:(H 9).bI:=by rw[hH9];trivial
 rcases R.nst _ _ _ _ hH3 with ⟨q,_⟩|⟨g3,cap,cur,b3,q1,q2,q3,q4,q5,q6,q7⟩
 .cases q
 simp only[List.length_cons,List.length_nil]at q6 q7 b3 q3;generalize hcs:List.take (0+1+1+1) cur.toList=cs at q6 q7
 match cs,q6,hcs with
 |[v1,v2,v3],q6,hcs =>
 simp only[aG]at q6;obtain⟨r1,r2,r3,-⟩:=q6;have r3:=hrn v3 r3;obtain⟨H',hH'⟩:∃H':AL.Hp,H'=λu=>if u=3 then .nst 1 116 [.iv (.raw v1),.iv (.raw v2),.iv (.sl (jl p))] else if u=9 then .gone (s1+1) 2 else if u=37 then .gone ((H 37).stamp+1) 1 else if u=c+1500 then .blk false 1 30 2 (bZ (p++[m4])) else if u=c+1501 then .tie (.hv (c+1500) 1 0 p.length) v1 else if u=c+1502 then .tie (.hs (c+1500) 1) v2 else H u:=⟨_,rfl⟩
 obtain⟨β',b2Y⟩:∃β':Nat->Value,β'=λu=>if u=c+1500 then β 9 else β u:=⟨_,rfl⟩
 have a3:H' 3=.nst 1 116 [.iv (.raw v1),.iv (.raw v2),.iv (.sl (jl p))]:=by rw[hH'];rfl
 have a9:H' 9=.gone (s1+1) 2:=by rw[hH'];rfl
 have a37:H' 37=.gone ((H 37).stamp+1) 1:=by rw[hH'];rfl
 have aK:H' (c+1500)=.blk false 1 30 2 (bZ (p++[m4])):=by rw[hH'];simp
 have aK1:H' (c+1501)=.tie (.hv (c+1500) 1 0 p.length) v1:=by rw[hH'];simp
 have aK2:H' (c+1502)=.tie (.hs (c+1500) 1) v2:=by rw[hH'];simp
 have bK:β' (c+1500)=β 9:=by rw[b2Y];simp
 have bo:∀u,u≠c+1500->β' u=β u:=λu hu=>by rw[b2Y];simp only;rw[if_neg hu]
 have cls:∀u,u=3\/u=9\/u=37\/u=c+1500\/u=c+1501\/u=c+1502\/((u≠3/\u≠9/\u≠37/\u≠c+1500)/\H' u=H u):=λu=>by
  by_cases c1:u=3
  .exact .inl c1
  by_cases c2:u=9
  .exact .inr (.inl c2)
  by_cases c3:u=37
  .exact .inr (.inr (.inl c3))
  by_cases c4:u=c+1500
  .exact .inr (.inr (.inr (.inl c4)))
  by_cases c5:u=c+1501
  .exact .inr (.inr (.inr (.inr (.inl c5))))
  by_cases c6:u=c+1502
  .exact .inr (.inr (.inr (.inr (.inr (.inl c6)))))
  .exact .inr (.inr (.inr (.inr (.inr (.inr ⟨⟨c1,c2,c3,c4⟩,by rw[hH'];simp only;rw[if_neg c1,if_neg c2,if_neg c3,if_neg c4,if_neg c5,if_neg c6]⟩)))))
 clear hH' b2Y
 -- whose head it was
 have src:∀u,(H' u).bI->∃k,(H k).bI/\β' u=β k/\k≠37/\((u=c+1500/\k=9)\/(u≠c+1500/\k=u/\k≠9)):=λu hm=>by
  rcases cls u with rfl|rfl|rfl|rfl|rfl|rfl|⟨⟨d1,d2,d3,d4⟩,e⟩
  .exact⟨3,m3,bo _ (by omega),by omega,.inr ⟨by omega,rfl,by omega⟩⟩
  .rw[a9]at hm;exact hm.elim
  .rw[a37]at hm;exact hm.elim
  .exact⟨9,m9,bK,by omega,.inl ⟨rfl,rfl⟩⟩
  .rw[aK1]at hm;exact hm.elim
  .rw[aK2]at hm;exact hm.elim
  .rw[e]at hm;exact⟨u,hm,bo u d4,d3,.inr ⟨d4,rfl,d2⟩⟩
 have dd:∀b,DD H' β' D0 b->D0 b\/∃h,h≠37/\(H h).bI/\aF (β h)=some b:=by
  rintro b (hb|⟨u,hm,hb⟩)
  .exact .inl hb
  .obtain⟨k,e1,e2,e3,_⟩:=src u hm;rw[e2]at hb;exact .inr ⟨k,e3,e1,hb⟩
 have dd2:∀b,DD H' β' D0 b->DD H β D0 b:=λb hb=>(dd b hb).imp id λ⟨k,_,e⟩=>⟨k,e⟩
 have g:bD w (DD H β D0) w (DD H' β' D0):=bD.of_sub dd2;have hs:iR H β H' β':=λu=>by
  rcases cls u with rfl|rfl|rfl|rfl|rfl|rfl|⟨⟨d1,d2,d3,d4⟩,e⟩
  .rw[a3,hH3];exact .inl ⟨rfl,rfl,bo _ (by omega)⟩
  .rw[a9,hH9];exact .inr (Nat.lt_succ_self _)
  .rw[a37];exact .inr (Nat.lt_succ_self _)
  .rw[aK,k0];exact .inr (Nat.lt_succ_self _)
  .rw[aK1,k1];exact .inl ⟨rfl,rfl,bo _ (by omega)⟩
  .rw[aK2,k2];exact .inl ⟨rfl,rfl,bo _ (by omega)⟩
  .rw[e];exact .inl ⟨rfl,rfl,bo u d4⟩
 have a2:H' 2=H 2:=by
  rcases cls 2 with e|e|e|e|e|e|⟨_,e⟩
  all_goals first|exact e|omega
 have c0z:H' 999=H 999:=by
  rcases cls 999 with e|e|e|e|e|e|⟨_,e⟩
  all_goals first|exact e|omega
 refine⟨λt=>if t=3 then .hp 3 1 0 0 else if t=2 then .hp 2 1 0 0 else .dead,H',β',v1,v2,⟨rfl,rfl,a2.trans hH2,a3,c0z.trans h9,aK,aK1,aK2⟩,R.view hs dd2 (λt=>?_) (λu st e sz rows hu=>?_) (λu st e sz rows hu=>?_) (λu u' hne hm hm' b hb hb'=>?_) (λu st e rows hu=>?_) (λu B hu=>?_) (λu x v hu=>?_)⟩
 .show ak _ _ _ _ (if t=3 then .hp 3 1 0 0 else if t=2 then .hp 2 1 0 0 else .dead) _;by_cases e3:t=3
  .subst e3;have hx:=R.tmps 3;rw[h3]at hx;exact hx.mono g hs
  .rw[if_neg e3];by_cases e2:t=2
   .subst e2;have hx:=R.tmps 2;rw[h2]at hx;exact hx.mono g hs
   .rw[if_neg e2];simp[ak]
 .rcases cls u with rfl|rfl|rfl|rfl|rfl|rfl|⟨⟨d1,d2,d3,d4⟩,e'⟩
  .rw[a3]at hu;cases hu
  .rw[a9]at hu;cases hu
  .rw[a37]at hu;cases hu
  .rw[aK]at hu;cases hu;rw[bK];exact(R.own _ _ _ _ _ hH9).mono g λ_ _=>rfl
  .rw[aK1]at hu;cases hu
  .rw[aK2]at hu;cases hu
  .rw[e']at hu;rw[bo u d4];exact(R.own _ _ _ _ _ hu).mono g λ_ _=>rfl
 .rcases cls u with rfl|rfl|rfl|rfl|rfl|rfl|⟨⟨d1,d2,d3,d4⟩,e'⟩
  .rw[a3]at hu;cases hu
  .rw[a9]at hu;cases hu
  .rw[a37]at hu;cases hu
  .rw[aK]at hu;cases hu
  .rw[aK1]at hu;cases hu
  .rw[aK2]at hu;cases hu
  .rw[e']at hu;rw[bo u d4];have:=R.frz _ _ _ _ _ hu;exact⟨this.1,this.2.1.mono g,this.2.2⟩
 .obtain⟨k,e1,e2,_,e4⟩:=src u hm;obtain⟨k',e1',e2',_,e4'⟩:=src u' hm';rw[e2]at hb;rw[e2']at hb';refine R.dis k k' (λe=>hne ?_) e1 e1' b hb hb';omega
 .rcases cls u with rfl|rfl|rfl|rfl|rfl|rfl|⟨⟨d1,d2,d3,d4⟩,e'⟩
  .rw[a3]at hu;cases hu;rw[bo 3 (by omega)];refine .inr ⟨g3,cap,cur,b3,q1,q2,q3,q4,q5,?_,?_⟩
   .show aG _ _ _ _ _ (List.take (0+1+1+1) cur.toList);rw[hcs];simp only[aG,ak,and_true];exact⟨.raw _ (q7 v1 (by simp)),.raw _ (q7 v2 (by simp)),r3.mono (bD.of_sub dd)⟩
   .show ∀u∈List.take (0+1+1+1) cur.toList,_;rw[hcs];exact q7
  .rw[a9]at hu;cases hu
  .rw[a37]at hu;cases hu
  .rw[aK]at hu;cases hu
  .rw[aK1]at hu;cases hu
  .rw[aK2]at hu;cases hu
  .rw[e']at hu;rw[bo u d4];exact(R.nst _ _ _ _ hu).mono g hs λ_ _=>rfl
 .rcases cls u with rfl|rfl|rfl|rfl|rfl|rfl|⟨⟨d1,d2,d3,d4⟩,e'⟩
  .rw[a3]at hu;cases hu
  .rw[a9]at hu;cases hu
  .rw[a37]at hu;cases hu
  .rw[aK]at hu;cases hu
  .rw[aK1]at hu;cases hu
  .rw[aK2]at hu;cases hu
  .rw[e']at hu;exact R.mrk _ _ hu
 .rcases cls u with rfl|rfl|rfl|rfl|rfl|rfl|⟨⟨d1,d2,d3,d4⟩,e'⟩
  .rw[a3]at hu;cases hu
  .rw[a9]at hu;cases hu
  .rw[a37]at hu;cases hu
  .rw[aK]at hu;cases hu
  .rw[aK1]at hu;cases hu;simp only[ak,hH9,aK,bK,HC.stamp,HC.esz]at r1 ⊢;exact⟨Nat.le_refl _,λ_=>r1.2 trivial⟩
  .rw[aK2]at hu;cases hu;simp only[ak,hH9,aK,bK,HC.stamp]at r2 ⊢;exact⟨Nat.le_refl _,λ_=>r2.2 trivial⟩
  .rw[e']at hu;exact(R.tie _ _ _ hu).mono g hs
theorem b0i (c:Nat)(p:List RI)(B:Nat)(v1 v2:Value)(f:AL.Fr)(H:AL.Hp)(h:SRe c p B v1 v2 f H) :
  ∃y,Tryz.f68.body.bind (oG 6)=some y/\@AW zi0 Tryz.prog y (@UY zi0 Tryz.prog [.cell 2 116] λx H'=>∃v1 v2,x=.agg [.raw v1,.raw v2,.sl (jl p)]/\kJ c p v1 v2 H'/\H' 999=.mrk B) f H:=by
 refine⟨_,rfl,?_⟩;obtain⟨h3,h2,hH2,hH3,h9,k0,k1,k2⟩:=h;simp (disch:=omega) only[wt,seval,zaJ,zaj,h3,h2,hH2,hH3];refine⟨_,_,(by simp only[SQ];simp only[wt,seval,h2];rfl),(by simp only[seval];try rfl),v1,v2,rfl,⟨?_,?_,?_⟩,?_⟩
 .rw[aB _ _ (by omega)];exact k0
 .rw[aB _ _ (by omega)];exact k1
 .rw[aB _ _ (by omega)];exact k2
 .rw[aB _ _ (by omega)];exact h9
theorem a0k (c:Nat)(p:List RI)(h:RP 100 (2^40) p)(H0:AL.Hp)(B:Nat)(hB:H0 999=.mrk B)(hN:∀k,k≠999->H0 k=.none) :
  ACI Tryz.prog 68 [.iv (.sl (bZ p))] H0 (λx H'=>∃v1 v2,x=.agg [.raw v1,.raw v2,.sl (jl p)]/\kJ c p v1 v2 H'/\H' 999=.mrk B):=by
 refine ACI.b7D zi0 (rs:=[.cell 2 116]) Tryz.func68 (by rfl) (by rfl) (by rfl) (by rfl) ?_ λβ=>?_
 .exact⟨_,λu=>if u=c+1500 then .blk false 1 30 2 (bZ (p++[m4])) else if u=c+1501 then .tie (.hv (c+1500) 1 0 p.length) default else if u=c+1502 then .tie (.hs (c+1500) 1) default else .mrk B,default,default,rfl,⟨by simp,by simp,by simp⟩,by simp only;rw[zam (by omega),zam (by omega),zam (by omega)]⟩
 obtain⟨y,hy,h1⟩:=b0j c p h H0 B hB hN;obtain rfl:=WY rfl rfl hy;refine SB.seg zM aV 6 (by rfl) (by rfl) h1 (by rfl) ?_;clear h1 hy hB hN;intro f H β1 hL hs;refine SB.ent λG M w0 D0 a w R=>?_;obtain⟨f',H',β',v1,v2,hS,R'⟩:=a0j R hL;refine⟨f',H',β',?_,R'⟩;obtain⟨y,hy,h1⟩:=b0i c p B v1 v2 f' H' hS;obtain rfl:=WY rfl rfl hy;exact SB.aw zi0 aV (by rfl) (by rfl) h1 λe f' H' β' h _=>h
end
section
variable {p:List RI} {c:Nat} {v1 v2:Value}
@[reducible] def alK (c:Nat):Nat->Nat->Nat->Option Nat:=λh i off=>if h=2/\off=1 then some (c+1502) else none
@[reducible] def zK4 (c:Nat):Zi:=⟨none,λ_=>false,λ_=>false,.al (alK c)⟩
theorem Zf (c:Nat) : @Zi.st (zK4 c)=.al (alK c):=rfl
theorem b6l (c e:Nat) : @Zi.bx (zK4 c) e=false:=rfl
theorem b8w (c i:Nat):alK c 2 i 1=some (c+1502):=rfl
theorem b8v (c i:Nat):alK c 2 i 2=none:=rfl
theorem b8u (c k i off:Nat):alK c (k+1500) i off=none:=zam (by omega)
def b0o {i:Nat}(h:i<p.length):(bZ (p++[m4])).getD i []=jy (p.getD i (false,[])):=by
 simp[bZ,List.getD,h,zbB]
theorem a5u (p:List RI):(bZ (p++[m4])).getD p.length []=jy m4:=by
 simp[bZ,List.getD]
theorem Au (p:List RI):(bZ (p++[m4])).length=p.length+1:=by simp[bZ]
theorem b6N (l:List Nat):(dh l++[[IV.int .u64 77]]).getD l.length []=[IV.int .u64 77]:=by
 rw[List.getD,za2 (by rw[uT];exact zab _),uT,zdS];rfl
def b7f (l:List Nat):(dh l++[[IV.int .u64 77]]).length=l.length+1:=by rw[zaB,uT];rfl
def b3T (l:List Nat):(∀r∈dh l++[[IV.int .u64 77]],r.length=1)=True:=by
 apply eq_true;intro r hr;rcases zap.1 hr with hr|hr
 .exact(Q5 l).2 zar r hr
 .simp at hr;subst hr;rfl
def XP (a:List Nat)(h:a.length<=2^43):AC Tryz.prog 31 [cl a,cl a] none [cb true]:=by
 have:=EW a a h h;rwa [zbn rfl]at this
def Ap (a:RI)(h:a.2.length<=2^43):AC Tryz.prog 47 [cr a,cr a] none [cb true]:=by
 have:=zu a a h h;rwa [zbn rfl]at this
set_option maxHeartbeats 4000000 in
theorem a6J (c:Nat)(p:List RI)(v1 v2:Value)(h:RP 100 (2^40) p)(H0:AL.Hp)(B:Nat)(hK:kJ c p v1 v2 H0)(hB:H0 999=.mrk B)(hN:∀k,k<999->H0 k=.none) :
  ACI Tryz.prog 76 [.agg [.raw v1,.raw v2,.sl (jl p)],.iv (.sl (bZ p))] H0 (λx H'=>x=.iv (.bool true)/\kJ c p v1 v2 H'/\H' 999=.mrk B):=by
 refine ACI.aj (zK4 c) (rs:=[.tmp 4]) aV Tryz.func76 (by rfl) (by rfl) (by rfl) (by rfl) (by rfl) (by rfl) ⟨_,H0,rfl,hK,hB⟩ ?_;have hl:=h.1;have zm:=MF (-4) (by omega) (by omega);have n2:=hN 2 (by omega);have ll:=PX p;have rl:=Au p;have rl0:=Aw p;simp (disch:=omega) only[wt,seval,b6l,n2];refine aI (λf H=>∃i:Nat,i<=p.length/\f 5=.iv (.int .i64 i)/\f 1=.iv (.sl (bZ p))/\f 2=.hp 2 1 0 0/\H 2=.blk false 1 116 3 [[.raw v1,.raw v2,.sl (jl p)]]/\kJ c p v1 v2 H/\H 999=.mrk B) (λf H=>(p.length-bC f 5).toNat) ?_ ?_
 .refine⟨0,by omega,?_⟩;simp only[wt,seval];exact⟨⟨by rw[aB _ _ (by omega)];exact hK.1,by rw[aB _ _ (by omega)];exact hK.2.1,by rw[aB _ _ (by omega)];exact hK.2.2⟩,hB⟩
 clear hK hB hN n2;rintro f H ⟨i,hi,h5,h1,h2,hH2,hK,hB⟩;rw[aC h5];obtain⟨k0,k1,k2⟩:=id hK;simp (disch:=omega) only[wt,seval,Zf,h5,h1];refine bf (λhlt=>?_) (λhlt=>?_)
 .have hlt':i<p.length:=by omega
  have la:=a6w hlt';have hg:=h.get i;have hg1:=hg.1;have s1:=XP (p.getD i (false,[])).2 (by omega);have s2:=Ap (p.getD i (false,[])) (by omega);have r4:=b0o hlt';have l77:=Ia (p.getD i (false,[])).2;have r77:=b6N (p.getD i (false,[])).2;have n77:=b7f (p.getD i (false,[])).2;have w77:=b3T (p.getD i (false,[])).2;simp (disch:=omega) only[wt,seval,dS,I9,Zf,b8v,h5,h1,h2,hH2,ll,rl0,la,l77,n77,w77];refine .inl ⟨aP (by kernel_rfl),?_⟩;refine ah (s1) (by rfl) (by simp) ?_;simp (disch:=omega) only[wt,seval,dS,I9,Zf,b8w,b8v,b8u,h5,h1,h2,hH2,k0,k2,ll,rl,la,n77,r77,r4,rl0];refine ah (s2) (by rfl) (by simp) ?_;simp (disch:=omega) only[wt,seval,Zf,h5,h1,h2,hH2];refine⟨N7 (by kernel_rfl) (by repeat (first|exact zar|refine zaa rfl ?_)),⟨i+1,by omega,by omega,hK,hB⟩,by omega⟩
 .obtain rfl:i=p.length:=by omega
  have s3:=Ap m4 (zad (show (wd 4).length<=1 from bH.mpr (by rw[zes];simp only[W];omega)) (by omega));have r4:=a5u p;simp (disch:=omega) only[wt,seval,dS,Zf,b8w,b8u,h1,h2,hH2,k0,k2,rl,rl0,r4];refine .inl ⟨aP (by kernel_rfl),?_⟩;refine ah (zm) (by rfl) (by simp) ?_;simp only[wt,seval];refine ah (s3) (by rfl) (by simp) ?_;simp only[wt,seval];refine⟨N7 (by kernel_rfl) (by repeat (first|exact zar|refine zaa rfl ?_)),LX (by simp only[wt,seval]) ⟨rfl,hK,hB⟩⟩
def rks (c:Nat):List Nat:=[999,c+1500,c+1501,c+1502]
theorem kJ.hcin {H:AL.Hp}{B:Nat}(h:kJ c p v1 v2 H)(h9:H 999=.mrk B):∀k∈rks c,a3X (·∈rks c) (H k)/\(H k).esz=if k=c+1500 then 2 else 0:=by
 intro k hk;simp only[rks,zaG,zaT,zco]at hk;rcases hk with rfl|rfl|rfl|rfl
 .rw[h9];exact⟨zar,by rw[zam (by omega)];rfl⟩
 .rw[h.1];exact⟨zar,by rw[zas rfl];rfl⟩
 .rw[h.2.1];exact⟨by simp[a3X,Jl,rks],by rw[zam (by omega)];rfl⟩
 .rw[h.2.2];exact⟨by simp[a3X,Jl,rks],by rw[zam (by omega)];rfl⟩
theorem kJ.congr {H H':AL.Hp}(h:kJ c p v1 v2 H)(e:∀k∈rks c,H' k=H k):kJ c p v1 v2 H' :=
 ⟨(e _ (by simp[rks])).trans h.1,(e _ (by simp[rks])).trans h.2.1,(e _ (by simp[rks])).trans h.2.2⟩
theorem a0o (c:Nat)(H1:AL.Hp):((rks c).map λk=>(k,H1 k)).map (·.1)=rks c:=rfl
theorem KZ {c:Nat}{p:List RI}(h:RP 100 (2^40) p){d:Nat}{K:AL.Fr->AL.Hp->Log->Prop}{f:AL.Fr}{H:AL.Hp}{lg:Log}{B:Nat}(hB:H 999=.mrk B)(h0:H (c+1500)=.none)(h1:H (c+1501)=.none)(h2:H (c+1502)=.none)
  (hk:∀v1 v2 H',kJ c p v1 v2 H'->H' 999=.mrk B->(∀k,k∉rks c->H' k=H k)->K (upd f d (.agg [.raw v1,.raw v2,.sl (jl p)])) H' ((rks c,rks c)::lg)):jQ Tryz.prog 68 [.iv (.sl (bZ p))] d K f H lg:=by
 have hh:∀k∈rks c,H k=.none\/H k=.mrk B:=λk hk=>by
  simp only[rks,List.mem_cons,List.not_mem_nil,or_false]at hk;rcases hk with rfl|rfl|rfl|rfl
  .exact .inr hB
  .exact .inl h0
  .exact .inl h1
  .exact .inl h2
 refine FH (ACI.a2K (ks:=rks c) (by simp[Jl]) (λk hk=>?_) (a0k c p h (yG (rks c) H) B (by rw[gU (by simp[rks])];exact hB) λk hk=>?_) ?_) ?_
 .rcases hh k hk with e|e<;>rw[e]<;>trivial
 .by_cases e:k∈rks c
  .rw[gU e];simp only[rks,List.mem_cons,List.not_mem_nil,or_false]at e;rcases e with e|rfl|rfl|rfl
   .exact absurd e hk
   .exact h0
   .exact h1
   .exact h2
  .exact kK e
 .rintro x H1 ⟨v1,v2,rfl,hr,h9⟩;refine⟨trivial,λk hk=>⟨(hr.hcin h9 k hk).1,λhst=>?_⟩⟩;rw[(hr.hcin h9 k hk).2];split
  .rename_i e;subst e;rw[hr.1,h0]at hst;simp[HC.stamp]at hst
  .rcases hh k hk with e|e<;>rw[e]<;>rfl
 .rintro x _ ⟨H1,⟨v1,v2,rfl,hr,h9⟩,rfl⟩;rw[a0o];refine⟨λ_ h=>h,by simp[rks],hk v1 v2 _ (hr.congr λk hk=>?_) ?_ λk hk=>?_⟩
  .rw[fO,if_pos hk]
  .rw[fO,if_pos (by simp[rks])];exact h9
  .rw[fO,if_neg hk]
theorem QH (h:RP 100 (2^40) p){d:Nat}{K:AL.Fr->AL.Hp->Log->Prop}{f:AL.Fr}{H:AL.Hp}{lg:Log}{B:Nat}(hB:H 999=.mrk B)(hr:kJ c p v1 v2 H)
  (hk:∀H',kJ c p v1 v2 H'->H' 999=.mrk B->(∀k,k∉rks c->H' k=H k)->K (upd f d (.iv (.bool true))) H' ((rks c,rks c)::lg)):jQ Tryz.prog 76 [.agg [.raw v1,.raw v2,.sl (jl p)],.iv (.sl (bZ p))] d K f H lg:=by
 refine FH (ACI.frame (ks:=rks c) (by simp[Jl]) (λk hk=>(hr.hcin hB k hk).1) (a6J c p v1 v2 h (yG (rks c) H) B (hr.congr λk hk=>gU hk) (by rw[gU (by simp[rks])];exact hB) λk hk=>kK (by simp only[rks,zaG,zaT,zco];omega)) ?_) ?_
 .rintro x H1 ⟨rfl,h1,h9⟩;exact⟨zar,λk hk=>⟨(h1.hcin h9 k hk).1,((h1.hcin h9 k hk).2).trans (hr.hcin hB k hk).2.symm⟩⟩
 .rintro x _ ⟨H1,⟨rfl,h1,h9⟩,rfl⟩;rw[a0o];refine⟨λ_ h=>h,by simp[rks],hk _ (h1.congr λk hk=>?_) ?_ λk hk=>?_⟩
  .rw[fO,zas hk]
  .rw[fO,zas (by simp[rks])];exact h9
  .rw[fO,zam hk]
end
section
variable {c n i k:Nat}
@[reducible] def alW (c:Nat):Nat->Nat->Nat->Option Nat:=λh i off=>if h=1 then (if off=0 then some (c+2002) else if off=1 then some (c+2003) else none) else none
@[reducible] def zWd (c:Nat):Zi:=⟨some (148,1),λ_=>false,λ_=>false,.al (alW c)⟩
theorem FQ (c:Nat) : @Zi.st (zWd c)=.al (alW c):=rfl
theorem b6k (c e:Nat) : @Zi.bx (zWd c) e=false:=rfl
theorem a9H (c e:Nat) : @Zi.bs (zWd c) e=false:=rfl
theorem b6e (c i:Nat):alW c 1 i 0=some (c+2002):=rfl
theorem b7G (c i:Nat):alW c 1 i 1=some (c+2003):=rfl
theorem b5h (c k i off:Nat):alW c (k+2000) i off=none:=zam (by omega)
abbrev ZX:=Value×Value
abbrev QX:=Value×Value×Value
def zrw (x:ZX):List IV:=[.raw x.1,.raw x.2]
def qrw (x:QX):List IV:=[.raw x.1,.raw x.2.1,.raw x.2.2]
def hzw (c n:Nat):List AV:=(List.range n).map λi=>AV.hw (c+i+100+2000) 1
def hqw (c n:Nat):List AV:=(List.range n).map λi=>AV.hw (c+i+200+2000) 1
def Ik (c n:Nat):(hzw c n).length=n:=by simp[hzw]
theorem Nb (c n:Nat):(hqw c n).length=n:=by simp[hqw]
theorem b4A (h:i<n):(hzw c n).getD i .undef=.hw (c+i+100+2000) 1:=by simp[hzw,List.getD,h]
theorem b4E (h:i<n):(hqw c n).getD i .undef=.hw (c+i+200+2000) 1:=by simp[hqw,List.getD,h]
def zws (Z:List (List ZX)):List Value:=Z.flatMap λq=>q.map (·.2)
def qw2 (q:List QX):List Value:=q.flatMap λx=>[x.2.1,x.2.2]
def qws (Q:List (List QX)):List Value:=Q.flatMap qw2
def RV {Z:List (List ZX)}(h:∀q∈Z,q.length<=k):(zws Z).length<=Z.length*k:=by
 induction Z with
 |nil=>simp[zws]
 |cons q Z ih =>
  have h1:=h q (by simp);have h2:=ih λy hy=>h y (by simp[hy])
  simp only[zws,zbu,zaB,zae,zaL,zaN]at h2 ⊢;omega
def a0L (q:List QX):(qw2 q).length=2*q.length:=by
 induction q with
 |nil=>rfl
 |cons x q ih=>simp only[qw2,zbu,zaB,zaL,zb9]at ih ⊢;omega
def a0K {Q:List (List QX)}(h:∀q∈Q,q.length<=k):(qws Q).length<=Q.length*(2*k):=by
 induction Q with
 |nil=>simp[qws]
 |cons q Z ih =>
  have h1:=h q (by simp);have h2:=ih λy hy=>h y (by simp[hy])
  have h3:=a0L q;simp only[qws,zbu,zaB,zaL,zaN]at h2 ⊢;omega
def take_at {α:Type}{l:List α}{x:α}(h:l[i]?=some x):l.take (i+1)=l.take i++[x]:=by rw[zaS,h];rfl
def a4s {Z:List (List ZX)}{q:List ZX}(h:Z[i]?=some q):zws (Z.take (i+1))=zws (Z.take i)++q.map (·.2):=by rw[take_at h,zws,zbc];simp[zws]
theorem a5C {Z:List (List QX)}{q:List QX}(h:Z[i]?=some q):qws (Z.take (i+1))=qws (Z.take i)++qw2 q:=by rw[take_at h,qws,zbc];simp[qws]
theorem a5D {q:List QX}{x:QX}(h:q[i]?=some x):qw2 (q.take (i+1))=qw2 (q.take i)++[x.2.1,x.2.2]:=by rw[take_at h,qw2,zbc];simp[qw2]
theorem qw (vs:List Value):(jG vs).length=vs.length:=by simp[jG]
theorem Az (vs us:List Value):jG vs++jG us=jG (vs++us):=by simp[jG]
theorem a8y {α:Type}{l:List α}{g:α->List IV}{x:α}(h:l[i]?=some x):(l.map g).getD i []=g x:=by simp[List.getD,h]
def WK (c:Nat)(Z:List (List ZX))(Q:List (List QX))(vZ vQ:Value)(H:AL.Hp):Prop :=
 H (c+2000)=.nst 1 50 (hzw c Z.length)/\H (c+1+2000)=.nst 1 23 (hqw c Q.length)/\(∀i q,Z[i]?=some q->H (c+i+100+2000)=.blk false 1 30 2 (q.map zrw))/\(∀i q,Q[i]?=some q->H (c+i+200+2000)=.blk false 1 32 3 (q.map qrw)) /\
 H (c+2002)=.tie (.hs (c+2000) 1) vZ/\H (c+2003)=.tie (.hs (c+1+2000) 1) vQ
structure WOk (Z:List (List ZX)) (Q:List (List QX)):Prop where
 z:Z.length<=50
 q:Q.length<=50
 zl:∀q∈Z,q.length<=100
 ql:∀q∈Q,q.length<=100
def WK.congr {Z:List (List ZX)}{Q:List (List QX)}{vZ vQ:Value}{H H':AL.Hp}(h:WK c Z Q vZ vQ H)(ok:WOk Z Q)(e:∀k,(c+2000<=k/\k<=c+2003)\/(c+2100<=k/\k<c+2300)->H' k=H k):WK c Z Q vZ vQ H':=by
 obtain⟨h1,h2,h3,h4,h5,h6⟩:=h;refine⟨(e _ (by omega)).trans h1,(e _ (by omega)).trans h2,λi q hi=>?_,λi q hi=>?_,(e _ (by omega)).trans h5,(e _ (by omega)).trans h6⟩
 .have:=(zao.1 hi).1;have:=ok.z;exact(e _ (by omega)).trans (h3 i q hi)
 .have:=(zao.1 hi).1;have:=ok.q;exact(e _ (by omega)).trans (h4 i q hi)
set_option maxHeartbeats 4000000 in
theorem Zm (c:Nat)(Z:List (List ZX))(Q:List (List QX))(vZ vQ vN:Value)(ok:WOk Z Q)(H0:AL.Hp)(B:Nat)(hK:WK c Z Q vZ vQ H0)(hB:H0 999=.mrk B)(hN:∀k,k<999->H0 k=.none)(hT:H0 (c+50+2000)=.none) :
  ACI Tryz.prog 75 [.agg [.raw vZ,.raw vQ,.raw vN]] H0 (λx H'=>∃st,0<st/\x=.hs (c+50+2000) st/\H' (c+50+2000)=.blk false st 28 1 (jG (zws Z++qws Q))/\WK c Z Q vZ vQ H'/\H' 999=.mrk B):=by
 refine ACI.aj (zWd c) (rs:=[.tmp 2]) aV Tryz.func75 (by rfl) (by rfl) (by rfl) (by rfl) (by rfl) (by rfl) ?_ ?_
 .exact⟨_,bW H0 (c+50+2000) (.blk false 1 28 1 (jG (zws Z++qws Q))),1,by omega,rfl,aA _ _ _,hK.congr ok λk hk=>aB _ _ (by omega),by rw[aB _ _ (by omega)];exact hB⟩
 have z5:=MF 5 (by omega) (by omega);have z6:=MF 6 (by omega) (by omega);have n1:=hN 1 (by omega);have okz:=ok.z;have okq:=ok.q;simp (disch:=omega) only[wt,seval,b6k,n1];refine bU 3 (c+50+2000) 28 1 (by simp only[wt,seval]) (λf H=>∃i st:Nat,0<st/\i<=Z.length/\f 4=.iv (.int .i64 i)/\f 1=.hp 1 1 0 0/\f 3=.hs (c+50+2000) st/\H 1=.blk false 1 120 3 [[.raw vZ,.raw vQ,.raw vN]]/\H (c+50+2000)=.blk false st 28 1 (jG (zws (Z.take i)))/\WK c Z Q vZ vQ H/\H 999=.mrk B) (λf H=>(Z.length-bC f 4).toNat) ?_ ?_
 .refine⟨0,1,by omega,by omega,?_⟩;simp only[wt,seval,fJ,fH,hT];exact⟨by rw[zaj];rfl,hK.congr ok λk hk=>by rw[aB _ _ (by omega),aB _ _ (by omega)],hB⟩
 clear hK hB hN n1 hT;rintro f H ⟨i,st,hst,hi,h4,h1,h3,hH1,hL,hK,hB⟩;rw[aC h4];obtain⟨k0,k1,kz,kq,k2,k3⟩:=id hK;simp (disch:=omega) only[wt,seval,zaV,zX,dS,FQ,b6e,h4,h1,hH1,k0,k2,Ik];refine bf (λhlt=>?_) (λhlt=>?_)
 .have hlt':i<Z.length:=by omega
  obtain⟨q,hq⟩:∃q,Z[i]?=some q:=⟨_,zaf hlt'⟩;have hql:=ok.zl q (zat hq);have hz:=kz i q hq;have hza:=b4A (c:=c) hlt';have hzt:=a4s hq;have hbl:=RV (Z:=Z.take i) (k:=100) (λy hy=>ok.zl y (za0 hy));have c0i:(zws (Z.take i)).length<=5000:=by
   rw[zah]at hbl;have:min i Z.length*100<=50*100:=zag _ (by omega);omega
  simp (disch:=omega) only[wt,seval];refine aI (λf H=>∃j st:Nat,0<st/\j<=q.length/\f 5=.iv (.int .i64 j)/\f 4=.iv (.int .i64 i)/\f 1=.hp 1 1 0 0/\f 3=.hs (c+50+2000) st/\H 1=.blk false 1 120 3 [[.raw vZ,.raw vQ,.raw vN]]/\H (c+50+2000)=.blk false st 28 1 (jG (zws (Z.take i)++(q.take j).map (·.2)))/\WK c Z Q vZ vQ H/\H 999=.mrk B) (λf H=>(q.length-bC f 5).toNat) ?_ ?_
  .refine⟨0,st,hst,by omega,?_⟩;simp only[wt,seval,h4,h1,h3,hH1];exact⟨by rw[hL,zaj];simp,hK,hB⟩
  clear h4 h1 h3 hH1 hL hK hB k0 k1 kz kq k2 k3 hz hst st;clear f;rintro f H ⟨j,st,hst,hj,h5,h4,h1,h3,hH1,hL,hK,hB⟩;rw[aC h5];obtain⟨k0,k1,kz,kq,k2,k3⟩:=id hK;have hz:=kz i q hq;have hl1:(q.map zrw).length=q.length:=by simp
  simp (disch:=omega) only[wt,seval,zaV,zX,dS,FQ,b6e,b5h,h5,h4,h1,hH1,k0,k2,Ik,hza,zX,hz,hl1];refine bf (λhlj=>?_) (λhlj=>?_)
  .have a6V:j<q.length:=by omega
   obtain⟨x,hx⟩:∃x,q[j]?=some x:=⟨_,zaf a6V⟩;have rx:(q.map zrw).getD j []=[.raw x.1,.raw x.2]:=a8y hx;have tx:=take_at hx;have hl2:(jG (zws (Z.take i)++(q.take j).map (·.2))).length<=6000:=by
    rw[qw,zaB,zae,zah];omega
   simp (disch:=omega) only[wt,seval,zaV,zX,dS,FQ,a9H,b6e,b5h,h5,h4,h1,h3,hH1,k0,k2,Ik,hza,zX,hz,hl1,rx,hL];refine⟨⟨j+1,st+1,by omega,by omega,by omega,rfl,?_,?_,hB⟩,by omega⟩
   .rw[tx,zav,<-zaR];exact zaO _ (Az _ [x.2])
   .exact hK.congr ok λk hk=>by rw[aB _ _ (by omega),aB _ _ (by omega)]
  .simp (disch:=omega) only[wt,seval,zaV,dS,FQ,b6e,h1,hH1];obtain rfl:j=q.length:=by omega
   rw[zaM,<-hzt]at hL;simp (disch:=omega) only[wt,seval,zaV,zX,dS,FQ,b5h,h4,k0,k2,Ik,hza];refine .inl ⟨aP (by kernel_rfl),?_⟩;refine ah (z5) (by rfl) (by simp) ?_;simp (disch:=omega) only[wt,seval];refine ah (z6) (by rfl) (by simp) ?_;simp (disch:=omega) only[wt,seval,FQ,a9H,h4,h1,h3,hH1,hz,hl1];refine⟨b1q (by simp (disch:=omega) only[a3u,a7u,zaC,zbv,Du,ND];rfl) (by kernel_rfl),?_⟩;refine⟨⟨i+1,st,hst,by omega,by omega,rfl,?_,?_,hB⟩,by omega⟩
   .rw[zam (by omega)];exact hL
   .refine hK.congr ok λk hk=>?_;by_cases e:k=c+i+100+2000
    .rw[e,aA,hz]
    .rw[aB _ _ e,aB _ _ (by omega)]
 .obtain rfl:i=Z.length:=by omega
  rw[zaM]at hL;have hzl:(zws Z).length<=5000:=by
   have:=RV (k:=100) ok.zl;have:Z.length*100<=50*100:=zag _ (by omega);omega
  simp (disch:=omega) only[wt,seval];refine aI (λf H=>∃i st:Nat,0<st/\i<=Q.length/\f 6=.iv (.int .i64 i)/\f 1=.hp 1 1 0 0/\f 3=.hs (c+50+2000) st/\H 1=.blk false 1 120 3 [[.raw vZ,.raw vQ,.raw vN]]/\H (c+50+2000)=.blk false st 28 1 (jG (zws Z++qws (Q.take i)))/\WK c Z Q vZ vQ H/\H 999=.mrk B) (λf H=>(Q.length-bC f 6).toNat) ?_ ?_
  .refine⟨0,st,hst,by omega,?_⟩;simp only[wt,seval,h1,h3,hH1];exact⟨by rw[hL,zaj];simp[qws],hK,hB⟩
  clear h4 h1 h3 hH1 hL hK hB k0 k1 kz kq k2 k3 hst st hi hlt;clear f;rintro f H ⟨i,st,hst,hi,h4,h1,h3,hH1,hL,hK,hB⟩;rw[aC h4];obtain⟨k0,k1,kz,kq,k2,k3⟩:=id hK;simp (disch:=omega) only[wt,seval,zX,dS,FQ,b7G,h4,h1,hH1,k1,k3,Nb];refine bf (λhlt=>?_) (λhlt=>?_)
  .have hlt':i<Q.length:=by omega
   obtain⟨q,hq⟩:∃q,Q[i]?=some q:=⟨_,zaf hlt'⟩;have hql:=ok.ql q (zat hq);have hz:=kq i q hq;have hza:=b4E (c:=c) hlt';have hzt:=a5C hq;have hbl:=a0K (Q:=Q.take i) (k:=100) (λy hy=>ok.ql y (za0 hy));have c0i:(qws (Q.take i)).length<=10000:=by
    rw[zah]at hbl;have:min i Q.length*(2*100)<=50*(2*100):=zag _ (by omega);omega
   simp (disch:=omega) only[wt,seval];refine aI (λf H=>∃j st:Nat,0<st/\j<=q.length/\f 7=.iv (.int .i64 j)/\f 6=.iv (.int .i64 i)/\f 1=.hp 1 1 0 0/\f 3=.hs (c+50+2000) st/\H 1=.blk false 1 120 3 [[.raw vZ,.raw vQ,.raw vN]]/\H (c+50+2000)=.blk false st 28 1 (jG (zws Z++qws (Q.take i)++qw2 (q.take j)))/\WK c Z Q vZ vQ H/\H 999=.mrk B) (λf H=>(q.length-bC f 7).toNat) ?_ ?_
   .refine⟨0,st,hst,by omega,?_⟩;simp only[wt,seval,h4,h1,h3,hH1];exact⟨by rw[hL,zaj];simp[qw2],hK,hB⟩
   clear h4 h1 h3 hH1 hL hK hB k0 k1 kz kq k2 k3 hz hst st;clear f;rintro f H ⟨j,st,hst,hj,h5,h4,h1,h3,hH1,hL,hK,hB⟩;rw[aC h5];obtain⟨k0,k1,kz,kq,k2,k3⟩:=id hK;have hz:=kq i q hq;have hl1:(q.map qrw).length=q.length:=by simp
   simp (disch:=omega) only[wt,seval,zaV,zX,dS,FQ,b7G,b5h,h5,h4,h1,hH1,k1,k3,Nb,hza,hz,hl1];refine bf (λhlj=>?_) (λhlj=>?_)
   .have a6V:j<q.length:=by omega
    obtain⟨x,hx⟩:∃x,q[j]?=some x:=⟨_,zaf a6V⟩;have rx:(q.map qrw).getD j []=[.raw x.1,.raw x.2.1,.raw x.2.2]:=a8y hx;have tx:=a5D hx;have hl2:(jG (zws Z++qws (Q.take i)++qw2 (q.take j))).length<=20000:=by
     rw[qw,zaB,zaB,a0L,zah];omega
    simp (disch:=omega) only[wt,seval,zaV,zX,dS,FQ,a9H,b7G,b5h,h5,h4,h1,h3,hH1,k1,k3,Nb,hza,hz,hl1,rx,hL];refine .inl ⟨aP (by kernel_rfl),?_⟩;refine⟨N7 (by kernel_rfl) (by repeat (first|exact zar|refine zaa (by first|rfl|simp) ?_)),⟨j+1,st+1,by omega,by omega,by omega,rfl,?_,?_,hB⟩,by omega⟩
    .rw[tx,<-zaR];exact zaO _ (Az _ [x.2.1,x.2.2])
    .exact hK.congr ok λk hk=>by rw[aB _ _ (by omega),aB _ _ (by omega)]
   .simp (disch:=omega) only[wt,seval,FQ,h4,h1,h3,hH1];obtain rfl:j=q.length:=by omega
    rw[zaM,zaR,<-hzt]at hL;exact⟨⟨i+1,st,hst,by omega,by omega,rfl,hL,hK,hB⟩,by omega⟩
  .obtain rfl:i=Q.length:=by omega
   rw[zaM]at hL;simp (disch:=omega) only[wt,seval,FQ,h3];exact LX (by simp only[wt,seval]) ⟨st,hst,rfl,hL,hK,hB⟩
end
section
variable {c nz nq:Nat}
def wks (c nz nq:Nat):List Nat:=999::(c+2000)::(c+1+2000)::(c+2002)::(c+2003)::(c+50+2000)::((List.range nz).map (λi=>c+i+100+2000)++(List.range nq).map λi=>c+i+200+2000)
def mF {k:Nat}:k∈wks c nz nq↔k=999\/k=c+2000\/k=c+1+2000\/k=c+2002\/k=c+2003\/k=c+50+2000\/(∃i<nz,k=c+i+100+2000)\/∃i<nq,k=c+i+200+2000:=by
 simp only[wks,zaG,zap,zaw,zaK,eq_comm]
theorem a3t:∀k∈wks c nz nq,zN k∈[999,1000]:=λk hk=>by
 rcases mF.1 hk with rfl|rfl|rfl|rfl|rfl|rfl|⟨i,_,rfl⟩|⟨i,_,rfl⟩
 .rw[Du (by omega)];simp
 all_goals (rw[ND (by omega)];simp)
theorem a9K (c nz nq:Nat):xO (wks c nz nq,wks c nz nq) ([999,1000],[999,1000]):=⟨a3t,a3t⟩
def a0p (c:Nat):xO (rks c,rks c) ([999,1000],[999,1000]):=by
 have:∀k∈rks c,zN k∈[999,1000]:=λk hk=>by
  simp only[rks,zaG,zaT,zco]at hk;rcases hk with rfl|rfl|rfl|rfl
  .rw[Du (by omega)];simp
  all_goals (rw[ND (by omega)];simp)
 exact⟨this,this⟩
section
variable {c:Nat} {Z:List (List ZX)} {Q:List (List QX)} {vZ vQ vN:Value} {H H':AL.Hp} {B:Nat}
def WK.move (h:WK c Z Q vZ vQ H)(e:∀k∈wks c Z.length Q.length,H' k=H k):WK c Z Q vZ vQ H':=by
 obtain⟨h1,h2,h3,h4,h5,h6⟩:=h;refine⟨(e _ (mF.2 (by omega))).trans h1,(e _ (mF.2 (by omega))).trans h2,λi q hi=>?_,λi q hi=>?_,(e _ (mF.2 (by omega))).trans h5,(e _ (mF.2 (by omega))).trans h6⟩
 .have:=(zao.1 hi).1;exact(e _ (mF.2 (.inr (.inr (.inr (.inr (.inr (.inr (.inl ⟨i,this,rfl⟩))))))))).trans (h3 i q hi)
 .have:=(zao.1 hi).1;exact(e _ (mF.2 (.inr (.inr (.inr (.inr (.inr (.inr (.inr ⟨i,this,rfl⟩))))))))).trans (h4 i q hi)
def WK.cases (h:WK c Z Q vZ vQ H)(h9:H 999=.mrk B){k:Nat}(hk:k∈wks c Z.length Q.length)(hT:k≠c+50+2000):a3X (·∈wks c Z.length Q.length) (H k)/\∀H',WK c Z Q vZ vQ H'->H' 999=.mrk B->H' k=H k:=by
 obtain⟨h1,h2,h3,h4,h5,h6⟩:=h;rcases mF.1 hk with rfl|rfl|rfl|rfl|rfl|rfl|⟨i,hi,rfl⟩|⟨i,hi,rfl⟩
 .rw[h9];exact⟨zar,λH' _ e=>e⟩
 .rw[h1];refine⟨λx hx=>?_,λH' h _=>h.1⟩;obtain⟨i,hi,rfl⟩:=zaw.1 hx;exact mF.2 (.inr (.inr (.inr (.inr (.inr (.inr (.inl ⟨i,zaK.1 hi,rfl⟩)))))))
 .rw[h2];refine⟨λx hx=>?_,λH' h _=>h.2.1⟩;obtain⟨i,hi,rfl⟩:=zaw.1 hx;exact mF.2 (.inr (.inr (.inr (.inr (.inr (.inr (.inr ⟨i,zaK.1 hi,rfl⟩)))))))
 .rw[h5];exact⟨mF.2 (.inr (.inl rfl)),λH' h _=>h.2.2.2.2.1⟩
 .rw[h6];exact⟨mF.2 (.inr (.inr (.inl rfl))),λH' h _=>h.2.2.2.2.2⟩
 .exact absurd rfl hT
 .have e:=h3 i _ (zaf hi);rw[e];exact⟨zar,λH' h _=>h.2.2.1 i _ (zaf hi)⟩
 .have e:=h4 i _ (zaf hi);rw[e];exact⟨zar,λH' h _=>h.2.2.2.1 i _ (zaf hi)⟩
def a9J (c nz nq:Nat)(H1:AL.Hp):((wks c nz nq).map λk=>(k,H1 k)).map (·.1)=wks c nz nq:=by rw[zb2];exact zeP _
theorem Dx (ok:WOk Z Q){d:Nat}{K:AL.Fr->AL.Hp->Log->Prop}{f:AL.Fr}{lg:Log}(hB:H 999=.mrk B)(hW:WK c Z Q vZ vQ H)(hT:H (c+50+2000)=.none)
  (hk:∀st H',WK c Z Q vZ vQ H'->H' (c+50+2000)=.blk false st 28 1 (jG (zws Z++qws Q))->H' 999=.mrk B->(∀k,k∉wks c Z.length Q.length->H' k=H k)->K (upd f d (.hs (c+50+2000) st)) H' ((wks c Z.length Q.length,wks c Z.length Q.length)::lg)):jQ Tryz.prog 75 [.agg [.raw vZ,.raw vQ,.raw vN]] d K f H lg:=by
 have w9:999∈wks c Z.length Q.length:=by simp[wks]
 have wT:c+50+2000∈wks c Z.length Q.length:=by simp[wks]
 refine FH (ACI.a2K (ks:=wks c Z.length Q.length) (by simp[Jl]) (λk hk=>?_) (Zm c Z Q vZ vQ vN ok (yG (wks c Z.length Q.length) H) B (hW.move λk hk=>gU hk) ((gU w9).trans hB) (λk hk=>kK λh=>?_) ((gU wT).trans hT)) ?_) ?_
 .by_cases e:k=c+50+2000
  .rw[e,hT];trivial
  .exact(hW.cases hB hk e).1
 .rcases mF.1 h with e|e|e|e|e|e|⟨i,_,e⟩|⟨i,_,e⟩<;>omega
 .rintro x H1 ⟨st,hst,rfl,hL,hW1,h9⟩;refine⟨wT,λk hk=>?_⟩;by_cases e:k=c+50+2000
  .rw[e,hL,hT];exact⟨trivial,λh=>by simp only[HC.stamp]at h;omega⟩
  .refine⟨(hW1.cases h9 hk e).1,λ_=>?_⟩;rw[(hW.cases hB hk e).2 H1 hW1 h9]
 .rintro x _ ⟨H1,⟨st,hst,rfl,hL,hW1,h9⟩,rfl⟩;rw[a9J];refine⟨λ_ h=>h,w9,hk st _ (hW1.move λk hk=>?_) ?_ ?_ λk hk=>?_⟩
  .rw[fO,if_pos hk]
  .rw[fO,if_pos wT];exact hL
  .rw[fO,if_pos w9];exact h9
  .rw[fO,if_neg hk]
end
end
section
variable {ln:Nat->Nat} {X X':Nat->List (List IV)} {k j n i st B:Nat} {vs:List Value}
@[reducible] def alA:Nat->Nat->Nat->Option Nat:=λh i off=>if h=2050 then some (i+20000) else none
@[reducible] def zAp:Zi:=⟨some (148,1),λ_=>false,λ_=>false,.al alA⟩
theorem FT : @Zi.st zAp=.al alA:=rfl
theorem b3r (e:Nat) : @Zi.bs zAp e=false:=rfl
theorem b5j (i off:Nat):alA 2050 i off=some (i+20000):=rfl
theorem c0y (k i off:Nat):alA (k+10000) i off=none:=zam (by omega)
theorem c0x (i off:Nat):alA 4 i off=none:=rfl
def RS (ln:Nat->Nat):Nat->Nat
 |0=>0
 |k+1=>RS ln k+ln k
theorem ZN {b:Nat}:∀(n:Nat),(∀k<n,ln k<=b)->RS ln n<=n*b
 |0,_=>by simp[RS]
 |n+1,h=>by
  have:=ZN n λk hk=>h k (by omega)
  have:=h n (by omega);rw[RS,zaN];omega
def mkw (ln:Nat->Nat)(k j:Nat):List IV:=[.int .u64 ((900+RS ln k+j:Nat):Int)]
def prt (ln:Nat->Nat)(X:Nat->List (List IV))(k j:Nat):List (List IV):=(List.range j).map (mkw ln k)++(X k).drop j
def a5U:prt ln X k 0=X k:=by simp[prt]
theorem a1a (h:j<=(X k).length):(prt ln X k j).length=(X k).length:=by simp[prt];omega
def b0H (h:j<(X k).length):(prt ln X k j).set j (mkw ln k j)=prt ln X k (j+1):=by
 have e:(X k).drop j=(X k).getD j []::(X k).drop (j+1):=by rw[zcl h];simp[List.getD,h]
 rw[prt,prt,zeY _ _ (by simp),zae,zck,zdS,e,zd7,zec,zav,zaR];rfl
def a5V:((prt ln X k j).getD j [])=(X k).getD j []:=by
 rw[prt,List.getD,za2 (by simp),zae,zck,zdS,zbf,zaV];rfl
def b0I (h:j<(X k).length):(prt ln X k (X k).length).getD j []=mkw ln k j:=by
 rw[prt,List.getD,zbB (by simpa using h)];simp[h]
def Ze (ln:Nat->Nat)(i:Nat):List (List IV):=(List.range i).map λk=>[.int .u64 ((900+RS ln k:Nat):Int)]
theorem WR (ln:Nat->Nat)(i:Nat):(Ze ln i).length=i:=by simp[Ze]
theorem a2H (ln:Nat->Nat)(i:Nat):Ze ln i++[[.int .u64 ((900+RS ln i:Nat):Int)]]=Ze ln (i+1):=by simp[Ze,zec]
theorem b1L (h:i<n):(Ze ln n).getD i []=[.int .u64 ((900+RS ln i:Nat):Int)]:=by simp[Ze,List.getD,h]
theorem Me (h:i<vs.length):(jG vs).getD i []=[.raw (vs.getD i Go.undef)]:=by simp[jG,List.getD,h]
def AKK (st n:Nat)(vs:List Value)(X:Nat->List (List IV))(H:AL.Hp):Prop:=H 2050=.blk false st 28 1 (jG vs)/\∀k<n,H (k+10000)=.blk false 1 148 1 (X k)/\H (k+20000)=.tie (.hw (k+10000) 1) (vs.getD k Go.undef)
theorem AKK.upd {H:AL.Hp}(h:AKK st n vs X H){k:Nat}(hk:k<2050)(c:HC):AKK st n vs X (bW H k c) :=
 ⟨by rw[aB _ _ (by omega)];exact h.1,λj hj=>by rw[aB _ _ (by omega),aB _ _ (by omega)];exact h.2 j hj⟩
theorem AKK.ext {H:AL.Hp}(h:AKK st n vs X H)(e:∀k<n,X' k=X k):AKK st n vs X' H :=
 ⟨h.1,λj hj=>by rw[e j hj];exact h.2 j hj⟩
theorem AKK.set {H:AL.Hp}(h:AKK st n vs X H){i:Nat}(hn:n<=10000)(hi:i<n)(rows:List (List IV)):AKK st n vs (λk=>if k=i then rows else X k) (bW H (i+10000) (.blk false 1 148 1 rows)) :=
 ⟨by rw[aB _ _ (by omega)];exact h.1,λj hj=>by
  refine⟨?_,by rw[aB _ _ (by omega)];exact(h.2 j hj).2⟩;by_cases e:j=i
  .subst e;simp only[zcm];rw[aA]
  .simp only[zam e];rw[aB _ _ (by omega)];exact(h.2 j hj).1⟩
set_option maxHeartbeats 4000000 in
theorem a3G (st n:Nat)(vs:List Value)(X:Nat->List (List IV))(hv:vs.length=n)(hn:n<=10000)(hX:∀k<n,(X k).length<=1099511627776/\∀r∈X k,r.length=1)(H0:AL.Hp)(B:Nat)(hK:AKK st n vs X H0)(hB:H0 999=.mrk B)(hN:∀k,k<999->H0 k=.none) :
  ACI Tryz.prog 74 [.hs 2050 st] H0 (λx H'=>x=.iv (.bool true)/\(∃X',AKK st n vs X' H')/\H' 999=.mrk B):=by
 refine ACI.aj zAp (rs:=[.tmp 2]) aV Tryz.func74 (by rfl) (by rfl) (by rfl) (by rfl) (by rfl) (by rfl) ⟨_,H0,rfl,⟨X,hK⟩,hB⟩ ?_;obtain⟨ln,hln⟩:∃ln:Nat->Nat,ln=λk=>(X k).length:=⟨_,rfl⟩
 have hlk:∀k,(X k).length=ln k:=λk=>by rw[hln]
 have hS:∀i≤n,RS ln i<=10995116277760000:=λi hi=>by
  have h1:=ZN (ln:=ln) (b:=1099511627776) i λk hk=>by rw[<-hlk];exact(hX k (by omega)).1
  exact zad h1 (zbR (zad hi hn) (zab 1099511627776))
 have rl:(jG vs).length=n:=by rw[qw,hv]
 have n4:=hN 4 (by omega);simp only[wt,seval];refine bU 4 4 148 1 (by simp only[wt,seval]) (λf H=>∃i s4:Nat,i<=n/\f 5=.iv (.int .i64 i)/\f 0=.hs 2050 st/\f 3=.iv (.int .u64 ((900+RS ln i:Nat):Int))/\f 4=.hs 4 s4/\H 4=.blk false s4 148 1 (Ze ln i)/\AKK st n vs (λk=>if k<i then prt ln X k (X k).length else X k) H/\H 999=.mrk B) (λf H=>(n-bC f 5).toNat) ?_ ?_
 .refine⟨0,1,by omega,?_⟩;simp only[wt,seval,n4,fJ,fH];exact⟨rfl,rfl,(hK.ext λk _=>zam (by omega)).upd (by omega) _,hB⟩
 clear hK hB n4;rintro f H ⟨i,s4,hi,h5,h0,h3,h4,hH4,hK,hB⟩;rw[aC h5];obtain⟨k0,kk⟩:=id hK;simp (disch:=omega) only[wt,seval,zX,FT,h5,h0,k0,rl];refine bf (λhlt=>?_) (λhlt=>?_)
 .have hlt':i<n:=by omega
  have fl:=WR ln i;have ra:=Me (vs:=vs) (i:=i) (by omega);have hXi:=hX i hlt';have hSi:=hS i (by omega);simp (disch:=omega) only[wt,seval,FT,b3r,h3,h4,hH4,fl];refine aI (λf H=>∃j:Nat,j<=(X i).length/\f 6=.iv (.int .i64 j)/\f 5=.iv (.int .i64 i)/\f 0=.hs 2050 st/\f 3=.iv (.int .u64 ((900+RS ln i+j:Nat):Int))/\f 4=.hs 4 (s4+1)/\H 4=.blk false (s4+1) 148 1 (Ze ln (i+1))/\AKK st n vs (λk=>if k=i then prt ln X i j else if k<i then prt ln X k (X k).length else X k) H/\H 999=.mrk B) (λf H=>((X i).length-bC f 6).toNat) ?_ ?_
  .refine⟨0,by omega,?_⟩;simp only[wt,seval,zaV,h5,h0,h3];refine⟨by rw[<-a2H],?_,hB⟩;refine((hK.upd (by omega) _).upd (by omega) _).ext λk hk=>?_;by_cases e:k=i
   .subst e;rw[zas rfl,zam (by omega),a5U]
   .rw[zam e]
  clear h5 h0 h3 h4 hH4 hK hB k0 kk;clear f;rintro f H ⟨j,hj,h6,h5,h0,h3,h4,hH4,hK,hB⟩;rw[aC h6];obtain⟨k0,kk⟩:=id hK;obtain⟨kx,kt⟩:=kk i hlt';simp only[zcm]at kx;have pl:=a1a (ln:=ln) hj;simp (disch:=omega) only[wt,seval,zX,dS,FT,b5j,h6,h5,h0,k0,rl,ra,kx,kt,pl];refine bf (λhlj=>?_) (λhlj=>?_)
  .have a6V:j<(X i).length:=by omega
   have pg:=a5V (ln:=ln) (X:=X) (k:=i) (j:=j);have hr1:((X i).getD j []).length=1:=by rw[List.getD,zaf a6V];exact hXi.2 _ (zaY a6V)
   obtain⟨y,hy⟩:=List.length_eq_one_iff.1 hr1;rw[hy]at pg;have e1:IntKind.u64.wrap (((900+RS ln i+j:Nat):Int)+1)=((900+RS ln i+(j+1):Nat):Int):=by rw[wrap_u64 (by omega)];omega
   have ps:=b0H (ln:=ln) (k:=i) a6V;rw[mkw]at ps;simp (disch:=omega) only[wt,seval,zX,dS,FT,b5j,h6,h5,h0,h3,h4,hH4,k0,rl,ra,kx,kt,pl,pg,e1,ps];refine⟨⟨j+1,by omega,by omega,rfl,?_,hB⟩,by omega⟩;refine(hK.set hn hlt' _).ext λk hk=>?_;by_cases e:k=i
   .subst e;rw[zas rfl,zas rfl]
   .rw[zam e,zam e,zam e]
  .simp (disch:=omega) only[wt,seval,FT,h5,h0,h3,h4,hH4];obtain rfl:j=(X i).length:=by omega
   refine⟨⟨i+1,s4+1,by omega,by omega,by rw[RS,<-hlk];omega,rfl,rfl,hK.ext λk hk=>?_,hB⟩,by omega⟩;by_cases e:k=i
   .subst e;rw[zas rfl,zas (by omega)]
   .rw[zam e];by_cases e2:k<i
    .rw[zas e2,zas (by omega)]
    .rw[zam e2,zam (by omega)]
 .obtain rfl:i=n:=by omega
  have hK:=hK.ext (X':=λk=>prt ln X k (X k).length) λk hk=>(zas hk).symm
  have pln:∀k,(prt ln X k (X k).length).length=(X k).length:=λk=>a1a (zab _)
  clear hlt k0 kk;simp (disch:=omega) only[wt,seval];refine aI (λf H=>∃k:Nat,k<=i/\f 7=.iv (.int .i64 k)/\f 0=.hs 2050 st/\f 4=.hs 4 s4/\H 4=.blk false s4 148 1 (Ze ln i)/\AKK st i vs (λk=>prt ln X k (X k).length) H/\H 999=.mrk B) (λf H=>(i-bC f 7).toNat) ?_ ?_
  .refine⟨0,by omega,?_⟩;simp only[wt,seval,h0,h4,hH4];exact⟨hK,hB⟩
  clear h5 h0 h3 h4 hH4 hK hB;clear f;rintro f H ⟨k,hk,h7,h0,h4,hH4,hK,hB⟩;rw[aC h7];obtain⟨k0,kk⟩:=id hK;simp (disch:=omega) only[wt,seval,zX,FT,h7,h0,k0,rl];refine bf (λhlt=>?_) (λhlt=>?_)
  .have hlt':k<i:=by omega
   have ra:=Me (vs:=vs) (i:=k) (by omega);obtain⟨kx,kt⟩:=kk k hlt';have pk:=pln k;have hXk:=hX k hlt';simp (disch:=omega) only[wt,seval,zX,dS,FT,b3r,b5j,h7,h0,h4,hH4,k0,rl,ra,kx,kt,pk];refine⟨⟨k+1,by omega,by omega,((hK.upd (by omega) _).set hn hlt' _).ext λu hu=>?_,hB⟩,by omega⟩;by_cases e:u=k
   .subst e;rw[zas rfl]
   .rw[zam e]
  .obtain rfl:k=i:=by omega
   clear hlt k0 kk;simp (disch:=omega) only[wt,seval];refine aI (λf H=>∃i:Nat,i<=k/\f 8=.iv (.int .i64 i)/\f 0=.hs 2050 st/\f 4=.hs 4 s4/\H 4=.blk false s4 148 1 (Ze ln k)/\AKK st k vs (λk=>prt ln X k (X k).length) H/\H 999=.mrk B) (λf H=>(k-bC f 8).toNat) ?_ ?_
   .refine⟨0,by omega,?_⟩;simp only[wt,seval,h0,h4,hH4];exact⟨hK,hB⟩
   clear h7 h0 h4 hH4 hK hB;clear f;rintro f H ⟨i,hi,h8,h0,h4,hH4,hK,hB⟩;rw[aC h8];obtain⟨k0,kk⟩:=id hK;simp (disch:=omega) only[wt,seval,zX,FT,h8,h0,k0,rl];refine bf (λhlt=>?_) (λhlt=>?_)
   .have hlt':i<k:=by omega
    have ra:=Me (vs:=vs) (i:=i) (by omega);have fl:=WR ln k;have fa:=b1L (ln:=ln) hlt';have hXi:=hX i hlt';have hSi:=hS i (by omega);simp (disch:=omega) only[wt,seval];refine aI (λf H=>∃j:Nat,j<=(X i).length/\f 9=.iv (.int .i64 j)/\f 8=.iv (.int .i64 i)/\f 0=.hs 2050 st/\f 4=.hs 4 s4/\H 4=.blk false s4 148 1 (Ze ln k)/\AKK st k vs (λk=>prt ln X k (X k).length) H/\H 999=.mrk B) (λf H=>((X i).length-bC f 9).toNat) ?_ ?_
    .refine⟨0,by omega,?_⟩;simp only[wt,seval,h8,h0,h4,hH4];exact⟨hK,hB⟩
    clear h8 h0 h4 hH4 hK hB k0 kk;clear f;rintro f H ⟨j,hj,h9,h8,h0,h4,hH4,hK,hB⟩;rw[aC h9];obtain⟨k0,kk⟩:=id hK;obtain⟨kx,kt⟩:=kk i hlt';have pk:=pln i;simp (disch:=omega) only[wt,seval,zX,dS,FT,b5j,h9,h8,h0,k0,rl,ra,kx,kt,pk];refine bf (λhlj=>?_) (λhlj=>?_)
    .have a6V:j<(X i).length:=by omega
     have pa:=b0I (ln:=ln) a6V;rw[mkw]at pa;have e1:IntKind.u64.wrap (((900+RS ln i:Nat):Int)+IntKind.u64.wrap (j:Int))=((900+RS ln i+j:Nat):Int):=by
      rw[wrap_u64 (n:=(j:Int)) (by omega),wrap_u64 (by omega)];omega
     simp (disch:=omega) only[wt,seval,zX,dS,FT,b5j,c0y,c0x,h9,h8,h0,h4,hH4,k0,rl,ra,kx,kt,pk,pa,fl,fa,e1];refine .inl ⟨aP (by kernel_rfl),?_⟩;refine⟨N7 (by kernel_rfl) (by repeat (first|exact zar|refine zaa rfl ?_)),⟨j+1,by omega,by omega,hK,hB⟩,by omega⟩
    .simp (disch:=omega) only[wt,seval,FT,h8,h0,h4,hH4];exact⟨⟨i+1,by omega,by omega,hK,hB⟩,by omega⟩
   .simp (disch:=omega) only[wt,seval];exact LX (by simp only[wt,seval]) ⟨rfl,⟨_,hK⟩,hB⟩
def aks (n:Nat):List Nat:=999::2050::((List.range n).map (· + 10000)++(List.range n).map (· + 20000))
def uS:k∈aks n↔k=999\/k=2050\/(∃i<n,k=i+10000)\/∃i<n,k=i+20000:=by
 simp only[aks,zaG,zap,zaw,zaK,eq_comm]
theorem b2u (n:Nat):xO (aks n,aks n) ([999,1000],[999,1000]):=by
 have:∀k∈aks n,zN k∈[999,1000]:=λk hk=>by
  rcases uS.1 hk with rfl|rfl|⟨i,_,rfl⟩|⟨i,_,rfl⟩
  .rw[Du (by omega)];simp
  all_goals (rw[ND (by omega)];simp)
 exact⟨this,this⟩
theorem AKK.move {H H':AL.Hp}(h:AKK st n vs X H)(e:∀k∈aks n,H' k=H k):AKK st n vs X H' :=
 ⟨(e _ (uS.2 (by omega))).trans h.1,λk hk=>⟨(e _ (uS.2 (.inr (.inr (.inl ⟨k,hk,rfl⟩))))).trans (h.2 k hk).1,(e _ (uS.2 (.inr (.inr (.inr ⟨k,hk,rfl⟩))))).trans (h.2 k hk).2⟩⟩
theorem AKK.hcin {H:AL.Hp}(h:AKK st n vs X H)(h9:H 999=.mrk B):∀k∈aks n,a3X (·∈aks n) (H k):=λk hk=>by
 rcases uS.1 hk with rfl|rfl|⟨i,hi,rfl⟩|⟨i,hi,rfl⟩
 .rw[h9];exact zar
 .rw[h.1];exact zar
 .rw[(h.2 i hi).1];exact zar
 .rw[(h.2 i hi).2];exact uS.2 (.inr (.inr (.inl ⟨i,hi,rfl⟩)))
theorem AKK.esz {H H':AL.Hp}{B':Nat}(h:AKK st n vs X H)(h9:H 999=.mrk B)(h':AKK st n vs X' H')(h9':H' 999=.mrk B'):∀k∈aks n,(H' k).esz=(H k).esz:=λk hk=>by
 rcases uS.1 hk with rfl|rfl|⟨i,hi,rfl⟩|⟨i,hi,rfl⟩
 .rw[h9,h9'];rfl
 .rw[h.1,h'.1]
 .rw[(h.2 i hi).1,(h'.2 i hi).1];rfl
 .rw[(h.2 i hi).2,(h'.2 i hi).2]
theorem b2t (n:Nat)(H1:AL.Hp):((aks n).map λk=>(k,H1 k)).map (·.1)=aks n:=by rw[zb2];exact zeP _
theorem YD (hv:vs.length=n)(hn:n<=10000)(hX:∀k<n,(X k).length<=1099511627776/\∀r∈X k,r.length=1){d:Nat}{K:AL.Fr->AL.Hp->Log->Prop}{f:AL.Fr}{H:AL.Hp}{lg:Log}{B:Nat}(hB:H 999=.mrk B)(hA:AKK st n vs X H)
  (hk:∀H',H' 999=.mrk B->(∀k,k∉aks n->H' k=H k)->K (upd f d (.iv (.bool true))) H' ((aks n,aks n)::lg)):jQ Tryz.prog 74 [.hs 2050 st] d K f H lg:=by
 have w9:999∈aks n:=by simp[aks]
 refine FH (ACI.frame (ks:=aks n) (by simp[Jl,aks]) (λk hk=>hA.hcin hB k hk) (a3G st n vs X hv hn hX (yG (aks n) H) B (hA.move λk hk=>gU hk) ((gU w9).trans hB) λk hk=>kK λh=>?_) ?_) ?_
 .rcases uS.1 h with e|e|⟨i,_,e⟩|⟨i,_,e⟩<;>omega
 .rintro x H1 ⟨rfl,⟨X',h1⟩,h9⟩;exact⟨zar,λk hk=>⟨h1.hcin h9 k hk,hA.esz hB h1 h9 k hk⟩⟩
 .rintro x _ ⟨H1,⟨rfl,⟨X',h1⟩,h9⟩,rfl⟩;rw[b2t];refine⟨λ_ h=>h,w9,hk _ ?_ λk hk=>?_⟩
  .rw[fO,zas w9];exact h9
  .rw[fO,zam hk]
end
end Go.Proofs.YtdpngipofekcfaaGreat
