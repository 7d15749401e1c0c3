/-
 Contracts of the functions that the law reaches.
-/
import Derived.Test.YtbnincgnfiaemaaGreatL59M
import Derived.Test.YtbnincgnfiaemaaGreatTyA
import Derived.Test.YtbnincgnfiaemaaGreatAbsYM
import Derived.MapKept
import Derived.Maps.RangeRun
import Derived.Test.YtbnincgnfiaemaaGreatL1M
import Derived.Test.YtbnincgnfiaemaaGreatL298M
import Derived.Test.YtbnincgnfiaemaaGreatL31M
set_option maxHeartbeats 2000000
namespace Go.Proofs.YtbnincgnfiaemaaGreat
open Go Go.Proofs Go.AL
set_option linter.unusedSimpArgs false
set_option linter.unusedVariables false
def KC (k E l:Nat):Nat:=k+(E-l)*(2*k+1)
theorem KC_step (k E l:Nat)(h:l+1<=E):KC k E l=KC k E (l+1)+(2*k+1):=by
 unfold KC;rw[show E-l=(E-(l+1))+1 by omega,Nat.succ_mul];omega
theorem KC_ge (k E l:Nat):k<=KC k E l:=by unfold KC;omega
theorem KC_le (k E l:Nat):KC k E l<=KC k E 0:=by
 unfold KC;have:=Nat.mul_le_mul_right (2*k+1) (show E-l<=E-0 by omega);omega
theorem kc_fin {K k j:Nat}(h:K=j+(2*k+1)):max (j+k) (j+k+k)+1<=K:=by omega
theorem kc_fin1 {K k j:Nat}(h:K=j+(2*k+1)):max (j+k) (j+k)+1<=K:=by omega
theorem kc_fin2 {K k j:Nat}(h:K=j+(2*k+1)):j+k<=K:=by omega
set_option maxHeartbeats 1000000 in
theorem divb_ok (p q:List RI)(fa:RI)(k E:Nat)(hp:RP 40 k p)(hq:RP 40 k q)(hf:Sz k fa)(hE:tz (pv p)+1-tz (pv q)<=E)(hE1:E<=100)(hK:KC k E 0<=32212254720)(hB:tz (pv q)≠0)(hd:lc (pv q)∣iv fa) :
  AC Tryz.prog 169 [cw p,cw q,cr fa] none [cp (dres (iv fa) (lc (pv q)) (pv q) (tz (pv p)+1-tz (pv q)) ([],pv p)).1,cp (dres (iv fa) (lc (pv q)) (pv q) (tz (pv p)+1-tz (pv q)) ([],pv p)).2,ci (tz (pv p)+1-tz (pv q):Nat)]:=by
 have hkk:k<=32212254720:=Nat.le_trans (KC_ge k E 0) hK;have hkb0:∀l,l+1<=E->KC k E (l+1)+2*k+1<=32212254720:=λl h=>by have:=KC_step k E l h;have:=KC_le k E l;omega
 refine AC.by_walk (rs:=[.tmp 6,.tmp 7,.tmp 8]) ords Tryz.func169 (by rfl) (by rfl) (by rfl) (by rfl) (by rfl) ?_;have qp:=hp.pv;have qq:=hq.pv;have tp:tz (pv p)<=40:=Nat.le_trans (tz_le _) qp.1;have tq:tz (pv q)<=40:=Nat.le_trans (tz_le _) qq.1;generalize hee:tz (pv p)+1-tz (pv q)=e at *;have he:max ((tz (pv p):Int)-tz (pv q)+1) 0=(e:Int):=by omega
 have ht1:((tz (pv q):Int)-1).toNat=tz (pv q)-1:=by omega
 have hat:=cpoly_at (q:=pv q) (i:=tz (pv q)-1) (by omega);have hL:cf (pv q) (tz (pv q)-1)=lc (pv q):=rfl;rw[hL]at hat;simp (disch:=omega) only[wt,seval,reduceCtorEq,Nat.reduceEqDiff,cpoly_len,cpoly_nil];refine call_by ((pnorm_ok p (hp.mono (by omega) (by omega)))) (by rfl) (by simp) ?_;simp (disch:=omega) only[wt,seval,reduceCtorEq,Nat.reduceEqDiff,cpoly_len,cpoly_nil];refine call_by ((pnorm_ok q (hq.mono (by omega) (by omega)))) (by rfl) (by simp) ?_;simp (disch:=omega) only[wt,seval,reduceCtorEq,Nat.reduceEqDiff,cpoly_len,cpoly_nil];simp (disch:=omega) only[wt,seval,reduceCtorEq,Nat.reduceEqDiff,cpoly_len,cpoly_nil,he,ht1,hat];generalize hc:iv fa=c at *;generalize hPe:pv p=P at *;generalize hBe:pv q=B at *;generalize hLe:lc B=L at *;have bd_P:Bd (KC k E e) P:=⟨tp,λi=>Nat.le_trans (qp.cf i) (KC_ge k E e)⟩;refine aloop_w (.nilv 13 (by simp (disch:=omega) only[wt,seval,reduceCtorEq,Nat.reduceEqDiff,cpoly_len,cpoly_nil]) (.refl _ _)) (λf H=>∃(left st5 st12:Nat) (Q R:List Int),dres c L B left (Q,R)=dres c L B e ([],P)/\tz R<tz B+left/\left<=E/\Bd (KC k E left) Q/\Bd (KC k E left) R/\f 14=.iv (.int .i64 left)/\f 9=.iv (.sl (cpoly R))/\f 10=.iv (.sl (cpoly B))/\f 13=.iv (.sl (cpoly Q))/\f 11=.iv (.int .i64 e)/\f 5=.hp 5 st5 0 0/\f 12=.hp 12 st12 0 0/\H 5=.blk false st5 44 2 [prow fa]/\H 12=.blk false st12 44 2 [prow (canon L)]) (λf H=>(intAt f 14).toNat) ?_ ?_
 .refine⟨e,1,1,[],P,rfl,by omega,by omega,bd_nil _,bd_P,?_⟩;simp (disch:=omega) only[wt,seval,reduceCtorEq,Nat.reduceEqDiff,cpoly_len,cpoly_nil]
 rintro f H ⟨left,st5,st12,Q,R,hD,hT,hle,hQ,hR,hF⟩;rw[intAt_of hF.1];simp (disch:=omega) only[wt,seval,reduceCtorEq,Nat.reduceEqDiff,cpoly_len,cpoly_nil,hF];have hkb:=Nat.le_trans (KC_le k E left) hK;have hkR:=hR.rp (by omega);have hkQ:=hQ.rp (by omega);refine if_by (λhge=>?_) (λhge=>?_)
 .obtain⟨l,rfl⟩:∃l,left=l+1:=⟨left-1,by omega⟩;have hm:((tz R:Int)-tz B)=((tz R-tz B:Nat):Int):=by omega
  have ht2:((tz R:Int)-1).toNat=tz R-1:=by omega
  have hat2:=cpoly_at (q:=R) (i:=tz R-1) (by omega);have hLR:cf R (tz R-1)=lc R:=rfl;rw[hLR]at hat2;have hzR:=hR.2 (tz R-1);rw[hLR]at hzR;have hzc:zl c<=k:=by rw[<-hc];exact zl_iv hf
  have hzL:zl L<=k:=by rw[<-hLe];exact qq.cf _
  have hL0:L≠0:=by rw[<-hLe];exact cf_tz_pred hB
  have hzm:=zl_mul c (lc R);have hdv:L∣c*lc R:=Int.dvd_trans hd (Int.dvd_mul_right _ _);have hzt:=zl_div hdv;have hlt0:=hR.1;have hk0:=hkb0 l hle;have m1:=zmul_ok fa (canon (lc R)) (hf.mono (by omega)) ((sz_canon _).mono (by omega));rw[hc,iv_canon]at m1;have m2:=zexact_ok (canon (c*lc R)) (canon L) ((sz_canon _).mono (by omega)) ((sz_canon _).mono (by omega)) (by rw[iv_canon];exact hL0) (by rw[iv_canon,iv_canon];exact hdv);rw[iv_canon,iv_canon]at m2;have m3:=prsmono_ok (canon (c*lc R/L)) (tz R-tz B) (by omega) ((sz_canon _).mono (by omega));rw[iv_canon]at m3;simp (disch:=omega) only[wt,seval,reduceCtorEq,Nat.reduceEqDiff,cpoly_len,cpoly_nil,hF,hm,ht2,hat2];refine .inl ⟨tmps_by (by kernel_rfl),?_⟩;refine call_by (m1) (by first|rfl|(simp only[tocvs,tocv,toboxes,tobox,updH_at,Nat.reduceEqDiff,↓reduceIte,hF,hm,ht2,hat2];rfl)) (by simp) ?_;simp (disch:=omega) only[wt,seval,reduceCtorEq,Nat.reduceEqDiff,cpoly_len,cpoly_nil,hF,hm,ht2,hat2];refine call_by (m2) (by first|rfl|(simp only[tocvs,tocv,toboxes,tobox,updH_at,Nat.reduceEqDiff,↓reduceIte,hF,hm,ht2,hat2];rfl)) (by simp) ?_;simp (disch:=omega) only[wt,seval,reduceCtorEq,Nat.reduceEqDiff,cpoly_len,cpoly_nil,hF,hm,ht2,hat2]
  first|exact log_by (by kernel_rfl)|refine⟨log_by (by kernel_rfl),?_⟩
  refine call_by (m3) (by first|rfl|(simp only[tocvs,tocv,toboxes,tobox,updH_at,Nat.reduceEqDiff,↓reduceIte,hF,hm,ht2,hat2];rfl)) (by simp) ?_;simp (disch:=omega) only[wt,seval,reduceCtorEq,Nat.reduceEqDiff,cpoly_len,cpoly_nil,hF,hm,ht2,hat2];have hBB:Bd k B:=⟨tq,λi=>qq.cf i⟩;have hlt:=hR.1;have hK2:=KC_step k E l hle;have hge':tz B<=tz R:=by omega
  generalize KC k E (l+1)=K at *;have b1:=bd_scale hQ hzc;have b2:=bd_mono (n:=tz R-tz B) (c:=c*lc R/L) (K:=K+k) (by omega) (by omega);have b3:=bd_scale hR hzc;have b4:=bd_mmul (m:=0) (n:=tz R-tz B) (c:=c*lc R/L) (K:=K+k) hBB (by omega) (by omega);have b5:=bd_add b1 b2;have b6:=bd_add b3 (bd_neg b4);have hBr:=hBB.rp (by omega);have s1:=pscale_g (q:=Q) (c:=fa) hkQ (hf.mono (by omega)) (ps_cn _);have s2:=pscale_g (q:=R) (c:=fa) hkR (hf.mono (by omega)) (ps_cn _);rw[hc]at s1 s2;have hstep:dres c L B (l+1) (Q,R)=dres c L B l (dstep c L B (Q,R)):=by
   rw[dres,if_pos (show tz B<=tz (Q,R).2 from hge')]
  have htz:=dstep_tz (c:=c) (s:=(Q,R)) hLe.symm hB hd (show tz B<=tz (Q,R).2 from hge');refine call_by (s1) (by first|rfl|(simp only[tocvs,tocv,toboxes,tobox,updH_at,Nat.reduceEqDiff,↓reduceIte,hF,hm,ht2,hat2];rfl)) (by simp) ?_;simp (disch:=omega) only[wt,seval,reduceCtorEq,Nat.reduceEqDiff,cpoly_len,cpoly_nil,hF,hm,ht2,hat2];refine call_by ((padd_g (b1.rp (by omega)) (b2.rp (by omega)) (ps_cn _) (ps_cn _))) (by first|rfl|(simp only[tocvs,tocv,toboxes,tobox,updH_at,Nat.reduceEqDiff,↓reduceIte,hF,hm,ht2,hat2];rfl)) (by simp) ?_;simp (disch:=omega) only[wt,seval,reduceCtorEq,Nat.reduceEqDiff,cpoly_len,cpoly_nil,hF,hm,ht2,hat2];refine call_by (s2) (by first|rfl|(simp only[tocvs,tocv,toboxes,tobox,updH_at,Nat.reduceEqDiff,↓reduceIte,hF,hm,ht2,hat2];rfl)) (by simp) ?_;simp (disch:=omega) only[wt,seval,reduceCtorEq,Nat.reduceEqDiff,cpoly_len,cpoly_nil,hF,hm,ht2,hat2];refine call_by ((pmul_g (b2.rp (by omega)) hBr (ps_cn _) (ps_cn _))) (by first|rfl|(simp only[tocvs,tocv,toboxes,tobox,updH_at,Nat.reduceEqDiff,↓reduceIte,hF,hm,ht2,hat2];rfl)) (by simp) ?_;simp (disch:=omega) only[wt,seval,reduceCtorEq,Nat.reduceEqDiff,cpoly_len,cpoly_nil,hF,hm,ht2,hat2];refine call_by ((psub_g (b3.rp (by omega)) (b4.rp (by omega)) (ps_cn _) (ps_cn _))) (by first|rfl|(simp only[tocvs,tocv,toboxes,tobox,updH_at,Nat.reduceEqDiff,↓reduceIte,hF,hm,ht2,hat2];rfl)) (by simp) ?_;simp (disch:=omega) only[wt,seval,reduceCtorEq,Nat.reduceEqDiff,cpoly_len,cpoly_nil,hF,hm,ht2,hat2];refine⟨⟨l,st5,st12,_,_,by rw[<-hD,hstep];rfl,?_,by omega,b5.mono (kc_fin1 hK2),b6.mono (kc_fin hK2),by omega,rfl,rfl,rfl,rfl,rfl,rfl⟩,by omega⟩;have h1:tz R≠0:=by omega
  have h2:tz (padd (pscale c R) (pscale (-1) (pmul (mono (tz R-tz B) (c*lc R/L)) B)))<=tz R-1:=htz;omega
 .have hout:tz R<tz B:=by omega
  simp (disch:=omega) only[wt,seval,reduceCtorEq,Nat.reduceEqDiff,cpoly_len,cpoly_nil,hF];refine aloop_by (λf H=>∃(lft sf:Nat) (S T:List Int),dres c L B lft (S,T)=dres c L B e ([],P)/\tz T<tz B/\lft<=E/\Bd (KC k E lft) S/\Bd (KC k E lft) T/\f 14=.iv (.int .i64 lft)/\f 9=.iv (.sl (cpoly T))/\f 13=.iv (.sl (cpoly S))/\f 11=.iv (.int .i64 e)/\f 5=.hp 5 sf 0 0/\H 5=.blk false sf 44 2 [prow fa]) (λf H=>(intAt f 14).toNat) ?_ ?_
  .refine⟨left,st5,Q,R,hD,hout,hle,hQ,hR,?_⟩;simp (disch:=omega) only[wt,seval,reduceCtorEq,Nat.reduceEqDiff,cpoly_len,cpoly_nil,hF]
  rintro f H ⟨lft,sf,S,T,hD,hT,hle,hQ,hR,hF⟩;rw[intAt_of hF.1];simp (disch:=omega) only[wt,seval,reduceCtorEq,Nat.reduceEqDiff,cpoly_len,cpoly_nil,hF];refine if_by (λhgt=>?_) (λhgt=>?_)
  .obtain⟨l,rfl⟩:∃l,lft=l+1:=⟨lft-1,by omega⟩;have hkb:=Nat.le_trans (KC_le k E (l+1)) hK;have hzc:zl c<=k:=by rw[<-hc];exact zl_iv hf
   have hK2:=KC_step k E l hle;have s1:=pscale_g (q:=S) (c:=fa) (hQ.rp (by omega)) (hf.mono (by omega)) (ps_cn _);have s2:=pscale_g (q:=T) (c:=fa) (hR.rp (by omega)) (hf.mono (by omega)) (ps_cn _);rw[hc]at s1 s2;have hstep:dres c L B (l+1) (S,T)=dres c L B l (pscale c S,pscale c T):=by
    rw[dres,if_neg (show ¬tz B<=tz (S,T).2 from Nat.not_le.2 hT)]
   have hts:=tz_scale_le c T;have b1:=(bd_scale hQ hzc).mono (kc_fin2 hK2);have b2:=(bd_scale hR hzc).mono (kc_fin2 hK2);clear hK2;simp (disch:=omega) only[wt,seval,reduceCtorEq,Nat.reduceEqDiff,cpoly_len,cpoly_nil,hF];refine .inl ⟨tmps_by (by kernel_rfl),?_⟩;refine call_by (s1) (by first|rfl|(simp only[tocvs,tocv,toboxes,tobox,updH_at,Nat.reduceEqDiff,↓reduceIte,hF];rfl)) (by simp) ?_;simp (disch:=omega) only[wt,seval,reduceCtorEq,Nat.reduceEqDiff,cpoly_len,cpoly_nil,hF];refine call_by (s2) (by first|rfl|(simp only[tocvs,tocv,toboxes,tobox,updH_at,Nat.reduceEqDiff,↓reduceIte,hF];rfl)) (by simp) ?_;simp (disch:=omega) only[wt,seval,reduceCtorEq,Nat.reduceEqDiff,cpoly_len,cpoly_nil,hF]
   first|exact log_by (by kernel_rfl)|refine⟨log_by (by kernel_rfl),?_⟩
   refine⟨⟨l,sf,_,_,by rw[<-hD,hstep],by omega,by omega,b1,b2,by omega,rfl,rfl,rfl,rfl⟩,by omega⟩
  .obtain rfl:lft=0:=by omega
   simp (disch:=omega) only[wt,seval,reduceCtorEq,Nat.reduceEqDiff,cpoly_len,cpoly_nil,hF];rw[<-hD];exact⟨rfl,rfl⟩
theorem pdivb_ok (p q:List RI)(k E:Nat)(hp:RP 40 k p)(hq:RP 40 k q)(h0:¬tz (pv q)=0)(hE:tz (pv p)+1-tz (pv q)<=E)(hE1:E<=100)(hK:KC k E 0<=32212254720):AC Tryz.prog 110 [cw p,cw q] none [cp (dq (pv p) (pv q)),cp (dr (pv p) (pv q)),ci (dxp (pv p) (pv q)),ci 0]:=by
 have hkk:k<=32212254720:=Nat.le_trans (KC_ge k E 0) hK;refine AC.by_walk (rs:=[.tmp 4,.tmp 5,.tmp 6,.tmp 7]) ords Tryz.func110 (by rfl) (by rfl) (by rfl) (by rfl) (by rfl) ?_;have hl:Sz k (canon (lc (pv q))):=(sz_canon _).mono (hq.pv.cf _);have m:=divb_ok p q (canon (lc (pv q))) k E hp hq hl hE hE1 hK h0 (by rw[iv_canon];exact Int.dvd_refl _);rw[iv_canon]at m;simp (disch:=omega) only[wt,seval,reduceCtorEq,Nat.reduceEqDiff,cpoly_len,cpoly_nil];refine call_by ((pnone_ok q (hq.mono (by omega) (by omega)))) (by first|rfl|(simp only[tocvs,tocv,toboxes,tobox,updH_at,Nat.reduceEqDiff,↓reduceIte,h0];rfl)) (by simp) ?_;simp (disch:=omega) only[wt,seval,reduceCtorEq,Nat.reduceEqDiff,cpoly_len,cpoly_nil,h0];refine call_by ((plead_g (hq.mono (by omega) (by omega)) rfl)) (by first|rfl|(simp only[tocvs,tocv,toboxes,tobox,updH_at,Nat.reduceEqDiff,↓reduceIte,h0];rfl)) (by simp) ?_;simp (disch:=omega) only[wt,seval,reduceCtorEq,Nat.reduceEqDiff,cpoly_len,cpoly_nil,h0];refine call_by (m) (by first|rfl|(simp only[tocvs,tocv,toboxes,tobox,updH_at,Nat.reduceEqDiff,↓reduceIte,h0];rfl)) (by simp) ?_;simp (disch:=omega) only[wt,seval,reduceCtorEq,Nat.reduceEqDiff,cpoly_len,cpoly_nil,h0];exact⟨rfl,rfl,rfl⟩
theorem premb_ok (p q:List RI)(k E:Nat)(hp:RP 40 k p)(hq:RP 40 k q)(h0:¬tz (pv q)=0)(hE:tz (pv p)+1-tz (pv q)<=E)(hE1:E<=100)(hK:KC k E 0<=32212254720):AC Tryz.prog 167 [cw p,cw q] none [cp (dr (pv p) (pv q)),ci 0]:=by
 refine AC.by_walk (rs:=[.tmp 4,.tmp 5]) ords Tryz.func167 (by rfl) (by rfl) (by rfl) (by rfl) (by rfl) ?_;simp (disch:=omega) only[wt,seval,reduceCtorEq,Nat.reduceEqDiff,cpoly_len,cpoly_nil];refine call_by ((pdivb_ok p q k E hp hq h0 hE hE1 hK)) (by rfl) (by simp) ?_;simp (disch:=omega) only[wt,seval,reduceCtorEq,Nat.reduceEqDiff,cpoly_len,cpoly_nil]
def EB (K T:Nat):Nat->List Int->List Int->Prop
 |0,X,Y=>(SBd K X/\tz X<=T/\SBd K Y/\tz Y<=T)/\True
 |n+1,X,Y=>(SBd K X/\tz X<=T/\SBd K Y/\tz Y<=T)/\(tz Y≠0->EB K T n Y (npr (dr X Y)))
theorem EB.b {K T n:Nat}{X Y:List Int}(h:EB K T n X Y):SBd K X/\tz X<=T/\SBd K Y/\tz Y<=T:=by
 cases n with
 |zero=>exact h.1
 |succ n=>exact h.1
set_option maxRecDepth 100000 in
theorem prims_e (p q:List RI)(K T:Nat)(hp:RP 40 K p)(hq:RP 40 K q)(hT:T<=40)(hK:KC K (T+1) 0<=32212254720)(ei0:EB K T (tz (pv q)) (npr (pv p)) (npr (pv q)))(h1:tz (pv p)≠0)(h2:tz (pv q)≠0) :
  AC Tryz.prog 108 [cw p,cw q] none [.iv (.sl (polys ((prl (tz (pv q)) (npr (pv p)) (npr (pv q))).map cn))),ci 0]:=by
 have hS:K<=32212254720:=Nat.le_trans (KC_ge K (T+1) 0) hK;have tp:=ei0.b.2.1;have tq:=ei0.b.2.2.2;rw[tz_npr]at tp tq;have n1:=pnone_ok p (hp.mono (by omega) (by omega));have n2:=pnone_ok q (hq.mono (by omega) (by omega));rw[decide_eq_false h1]at n1;rw[decide_eq_false h2]at n2;have pp:=pprim_n (a:=p) (hp.mono (by omega) (by omega)) rfl;have pq:=pprim_n (a:=q) (hq.mono (by omega) (by omega)) rfl;have t0:=npr_trim (pv p);have t0':=npr_trim (pv q);have ht:=tz_npr (pv q);generalize npr (pv p)=X0 at *;generalize npr (pv q)=Y0 at *;rw[<-ht]at ei0;rw[<-ht];refine AC.by_walk (rs:=[.tmp 4,.tmp 5]) ords Tryz.func108 (by rfl) (by rfl) (by rfl) (by rfl) (by rfl) ?_;simp (disch:=omega) only[wt,seval,reduceCtorEq,Nat.reduceEqDiff,cpoly_len,polys_len];refine call_by (n1) (by rfl) (by simp) ?_;simp (disch:=omega) only[wt,seval,reduceCtorEq,Nat.reduceEqDiff,cpoly_len,polys_len];refine call_by (n2) (by rfl) (by simp) ?_;simp (disch:=omega) only[wt,seval,reduceCtorEq,Nat.reduceEqDiff,cpoly_len,polys_len];refine call_by (pp) (by rfl) (by simp) ?_;simp (disch:=omega) only[wt,seval,reduceCtorEq,Nat.reduceEqDiff,cpoly_len,polys_len];refine call_by (pq) (by rfl) (by simp) ?_;simp (disch:=omega) only[wt,seval,reduceCtorEq,Nat.reduceEqDiff,cpoly_len,polys_len];refine aloop_by (λf H=>∃(n st:Nat) (L:List (List Int)) (X Y:List Int),L++prl n X Y=prl (tz Y0) X0 Y0/\tz Y<=n/\trimz X=X/\trimz Y=Y/\EB K T n X Y/\L.length+n<=40/\f 7=.iv (.sl (cpoly Y))/\f 6=.hs 18 st/\H 18=.blk false st 23 1 (polys ((L++[X]).map cn))) (λf H=>match f 7 with | .iv (.sl l)=>l.length|_=>0) ?_ ?_
 .refine⟨tz Y0,1,[],X0,Y0,rfl,by omega,t0,t0',ei0,by simp only[List.length_nil];omega,?_⟩;simp (disch:=omega) only[wt,seval,reduceCtorEq,Nat.reduceEqDiff,cpoly_len,polys_len]
  try rfl
 rintro f H ⟨n,st,L,X,Y,hL,hn,tX,tY,ei,hl,g7,g6,h6⟩;have hmu:(match f 7 with | .iv (.sl l)=>l.length|_=>0)=tz Y:=by rw[g7];simp only[];rw[cpoly_len]
 rw[hmu];obtain⟨sX,tX1,sY,tY1⟩:=ei.b;have rX:=rp_sb tX1 sX;have rY:=rp_sb tY1 sY;have nn:=pnone_ok (cn Y) (rY.mono (by omega) (by omega));rw[pv_cnt tY]at nn;by_cases h0:tz Y=0
 .rw[decide_eq_true h0]at nn;have e:prl n X Y=[X]:=by
   cases n with
   |zero=>rfl
   |succ n=>rw[prl,if_pos h0]
  rw[e]at hL;rw[hL]at h6;simp (disch:=omega) only[wt,seval,reduceCtorEq,Nat.reduceEqDiff,cpoly_len,polys_len,g7,g6,h6];refine call_by (nn) (by first|rfl|(simp only[tocvs,tocv,toboxes,tobox,updH_at,Nat.reduceEqDiff,↓reduceIte,g7,g6,h6];rfl)) (by simp) ?_;simp (disch:=omega) only[wt,seval,reduceCtorEq,Nat.reduceEqDiff,cpoly_len,polys_len,g7,g6,h6]
  try rfl
 .rw[decide_eq_false h0]at nn;obtain⟨m,rfl⟩:∃m,n=m+1:=⟨n-1,by omega⟩;have rm:=premb_ok (cn X) (cn Y) K (T+1) (rX.mono (by omega) (by omega)) (rY.mono (by omega) (by omega)) (by rw[pv_cnt tY];exact h0) (by rw[pv_cnt tX,pv_cnt tY];omega) (by omega) hK;rw[pv_cnt tX,pv_cnt tY]at rm;have ei':=ei.2 h0;have dsz:=(div_sz h0 sX sY).2;have hdx:dxp X Y<=T+1:=by unfold dxp;omega
  have hdm:dxp X Y*(K+1)<=(T+1)*(2*K+1):=Nat.mul_le_mul hdx (by omega);have hdk:K+(T+1)*(2*K+1)<=32212254720:=hK;have dtz:=drem_tz (A:=X) h0;have pr:=pprim_n (a:=cn (dr X Y)) (q:=dr X Y) ((rp_sb (D:=40) (k:=2^35) (by omega) (dsz.mono (by omega))).mono (by omega) (by omega)) (ps_cn _);have hsn:polys ((L++[X]).map cn)++[[.sl (cpoly Y)]]=polys ((L++[X]++[Y]).map cn):=by
   rw[List.map_append (l₁:=L++[X])];exact polys_snoc _ _
  have hln:((L++[X]).map cn).length=L.length+1:=by simp
  have hln2:((L++[X]++[Y]).map cn).length=L.length+2:=by simp
  have hgt:(polys ((L++[X]++[Y]).map cn)).getD L.length []=[.sl (cpoly X)]:=by
   rw[polys_at (by rw[hln2];omega)];simp[List.getD];rfl
  have e2:((L.length+2:Nat):Int)-2=(L.length:Int):=by omega
  have htz:=tz_npr (dr X Y);simp (disch:=omega) only[wt,seval,reduceCtorEq,Nat.reduceEqDiff,cpoly_len,polys_len,g7,g6,h6,hln,hsn,hln2];refine call_by (nn) (by first|rfl|(simp only[tocvs,tocv,toboxes,tobox,updH_at,Nat.reduceEqDiff,↓reduceIte,g7,g6,h6,hln,hsn,hln2,e2,hgt];rfl)) (by simp) ?_;simp (disch:=omega) only[wt,seval,reduceCtorEq,Nat.reduceEqDiff,cpoly_len,polys_len,g7,g6,h6,hln,hsn,hln2,e2,hgt];refine call_by (rm) (by first|rfl|(simp only[tocvs,tocv,toboxes,tobox,updH_at,Nat.reduceEqDiff,↓reduceIte,g7,g6,h6,hln,hsn,hln2,e2,hgt];rfl)) (by simp) ?_;simp (disch:=omega) only[wt,seval,reduceCtorEq,Nat.reduceEqDiff,cpoly_len,polys_len,g7,g6,h6,hln,hsn,hln2,e2,hgt];refine call_by (pr) (by first|rfl|(simp only[tocvs,tocv,toboxes,tobox,updH_at,Nat.reduceEqDiff,↓reduceIte,g7,g6,h6,hln,hsn,hln2,e2,hgt];rfl)) (by simp) ?_;simp (disch:=omega) only[wt,seval,reduceCtorEq,Nat.reduceEqDiff,cpoly_len,polys_len,g7,g6,h6,hln,hsn,hln2,e2,hgt];refine⟨⟨m,st+1,L++[X],Y,npr (dr X Y),?_,by omega,tY,npr_trim _,ei',by simp only[List.length_append,List.length_singleton];omega,?_⟩,?_⟩
  .rw[<-hL,prl,if_neg h0];simp
  .try (repeat' apply And.intro)<;>first|rfl|omega
  .omega
theorem pgcd_e (p q:List RI)(K T:Nat)(hp:RP 40 K p)(hq:RP 40 K q)(hT:T<=40)(hK:KC K (T+1) 0<=32212254720)(ei0:EB K T (tz (pv q)) (npr (pv p)) (npr (pv q))) :
  AC Tryz.prog 42 [cw p,cw q] none [cp (gcdp (pv p) (pv q))]:=by
 have hS:K<=32212254720:=Nat.le_trans (KC_ge K (T+1) 0) hK;have tp:=ei0.b.2.1;have tq:=ei0.b.2.2.2;rw[tz_npr]at tp tq;have d1:=pdeg_ok p (hp.mono (by omega) (by omega));have d2:=pdeg_ok q (hq.mono (by omega) (by omega));by_cases h1:tz (pv p)=0
 .have pr:=pprim_n (a:=q) (q:=pv q) (hq.mono (by omega) (by omega)) rfl;rw[cp_ps (gcdp_l0 h1)]at pr;rw[h1]at d1;refine AC.by_walk (rs:=[.tmp 4]) ords Tryz.func42 (by rfl) (by rfl) (by rfl) (by rfl) (by rfl) ?_;simp (disch:=omega) only[wt,seval,reduceCtorEq,Nat.reduceEqDiff,cpoly_len,polys_len];refine call_by (d1) (by rfl) (by simp) ?_;simp (disch:=omega) only[wt,seval,reduceCtorEq,Nat.reduceEqDiff,cpoly_len,polys_len];refine call_by (pr) (by rfl) (by simp) ?_;simp (disch:=omega) only[wt,seval,reduceCtorEq,Nat.reduceEqDiff,cpoly_len,polys_len]
  try rfl
 have h1':¬(tz (pv p):Int)-1<0:=by omega
 by_cases h2:tz (pv q)=0
 .have pr:=pprim_n (a:=p) (q:=pv p) (hp.mono (by omega) (by omega)) rfl;rw[cp_ps (gcdp_r0 h2)]at pr;rw[h2]at d2;refine AC.by_walk (rs:=[.tmp 4]) ords Tryz.func42 (by rfl) (by rfl) (by rfl) (by rfl) (by rfl) ?_;simp (disch:=omega) only[wt,seval,reduceCtorEq,Nat.reduceEqDiff,cpoly_len,polys_len];refine call_by (d1) (by first|rfl|(simp only[tocvs,tocv,toboxes,tobox,updH_at,Nat.reduceEqDiff,↓reduceIte,h1'];rfl)) (by simp) ?_;simp (disch:=omega) only[wt,seval,reduceCtorEq,Nat.reduceEqDiff,cpoly_len,polys_len,h1'];refine call_by (d2) (by first|rfl|(simp only[tocvs,tocv,toboxes,tobox,updH_at,Nat.reduceEqDiff,↓reduceIte,h1'];rfl)) (by simp) ?_;simp (disch:=omega) only[wt,seval,reduceCtorEq,Nat.reduceEqDiff,cpoly_len,polys_len,h1'];refine call_by (pr) (by rfl) (by simp) ?_;simp (disch:=omega) only[wt,seval,reduceCtorEq,Nat.reduceEqDiff,cpoly_len,polys_len]
  try rfl
 have h2':¬(tz (pv q):Int)-1<0:=by omega
 have pl:=prims_e p q K T hp hq hT hK ei0 h1 h2;obtain⟨L,hL⟩:=prl_last (tz (pv q)) (npr (pv p)) (npr (pv q));have hll:=prl_len (tz (pv q)) (npr (pv p)) (npr (pv q));rw[hL]at pl hll;rw[show eu (tz (pv q)) (npr (pv p)) (npr (pv q))=gcdp (pv p) (pv q) from rfl]at pl;simp only[List.length_append,List.length_singleton]at hll;have hln:((L++[gcdp (pv p) (pv q)]).map cn).length=L.length+1:=by simp
 have hgt:(polys ((L++[gcdp (pv p) (pv q)]).map cn)).getD L.length []=[.sl (cpoly (gcdp (pv p) (pv q)))]:=by
  rw[polys_at (by rw[hln];omega)];simp[List.getD];rfl
 have e2:((L.length+1:Nat):Int)-1=(L.length:Int):=by omega
 refine AC.by_walk (rs:=[.tmp 4]) ords Tryz.func42 (by rfl) (by rfl) (by rfl) (by rfl) (by rfl) ?_;simp (disch:=omega) only[wt,seval,reduceCtorEq,Nat.reduceEqDiff,cpoly_len,polys_len];refine call_by (d1) (by first|rfl|(simp only[tocvs,tocv,toboxes,tobox,updH_at,Nat.reduceEqDiff,↓reduceIte,h1'];rfl)) (by simp) ?_;simp (disch:=omega) only[wt,seval,reduceCtorEq,Nat.reduceEqDiff,cpoly_len,polys_len,h1'];refine call_by (d2) (by first|rfl|(simp only[tocvs,tocv,toboxes,tobox,updH_at,Nat.reduceEqDiff,↓reduceIte,h2'];rfl)) (by simp) ?_;simp (disch:=omega) only[wt,seval,reduceCtorEq,Nat.reduceEqDiff,cpoly_len,polys_len,h2'];refine call_by (pl) (by first|rfl|(simp only[tocvs,tocv,toboxes,tobox,updH_at,Nat.reduceEqDiff,↓reduceIte,hln,e2,hgt];rfl)) (by simp) ?_;simp (disch:=omega) only[wt,seval,reduceCtorEq,Nat.reduceEqDiff,cpoly_len,polys_len,hln,e2,hgt]
 try rfl
theorem nf_const {A:List Int}(h:Nf A)(ht:tz A=1):SBd 1 A:=λi=>by
 have hp:Prm A:=h.resolve_left (by omega);by_cases hi:i=0
 .subst hi;have hd:((cf A 0).natAbs:Nat)∣gz A:=gz_greatest A _ λk=>by
   by_cases hk:k=0
   .subst hk;exact Int.natAbs_dvd.mpr (Int.dvd_refl _)
   .have:=cf_ge_tz A (show tz A<=k by omega);rw[this];exact Int.dvd_zero _
  rw[hp.1]at hd;have h1:=Nat.dvd_one.mp hd;exact zl_le.mpr (by rw[h1];decide)
 .rw[cf_ge_tz A (by omega),zl_zero];omega
theorem ei_small {D S:Nat}{X Y:List Int}(h:EI D S X Y)(nx:Nf X)(ny:Nf Y)(hS:1<=S)(hD:2<=D):SBd (EZ S (D-2)) X/\SBd (EZ S (D-2)) Y:=by
 have s0:S<=EZ S (D-2):=EZ.mono S (i:=0) (by omega);have z0:∀{A:List Int},tz A=0->SBd (EZ S (D-2)) A:=λ{A} h i=>by rw[tz_zero_iff.mp h i,zl_zero];omega
 have hx:=h.x;rcases h.s with ⟨a,b⟩|⟨l,a,b⟩
 .exact⟨a.mono s0,b.mono s0⟩
 constructor
 .by_cases h2:2<=tz X
  .exact a.mono (EZ.mono S (by omega))
  .exact(nf_const nx (by omega)).mono (by omega)
 .by_cases h3:3<=tz X
  .exact b.mono (EZ.mono S (by omega))
  .by_cases h0:tz Y=0
   .exact z0 h0
   .exact(nf_const ny (by omega)).mono (by omega)
theorem eb_of_ei {D S:Nat}(hS:1<=S)(hD:2<=D):∀(n:Nat) (X Y:List Int),EI D S X Y->Nf X->Nf Y->EB (EZ S (D-2)) D n X Y
 |0,X,Y,h,nx,ny=>⟨⟨(ei_small h nx ny hS hD).1,h.x,(ei_small h nx ny hS hD).2,h.y⟩,trivial⟩
 |n+1,X,Y,h,nx,ny=>⟨⟨(ei_small h nx ny hS hD).1,h.x,(ei_small h nx ny hS hD).2,h.y⟩,λh0=>eb_of_ei hS hD n _ _ (h.step h0) ny (nf_npr _)⟩
theorem EB.mono {K T K' T':Nat}(hK:K<=K')(hT:T<=T'):∀(n:Nat) (X Y:List Int),EB K T n X Y->EB K' T' n X Y
 |0,X,Y,h=>⟨⟨h.1.1.mono hK,Nat.le_trans h.1.2.1 hT,h.1.2.2.1.mono hK,Nat.le_trans h.1.2.2.2 hT⟩,trivial⟩
 |n+1,X,Y,h=>⟨⟨h.1.1.mono hK,Nat.le_trans h.1.2.1 hT,h.1.2.2.1.mono hK,Nat.le_trans h.1.2.2.2 hT⟩,λh0=>EB.mono hK hT n _ _ (h.2 h0)⟩
theorem gcd_few (a b:List RI)(ha:RP 40 1048700 a)(hb:RP 40 1048700 b)(ta:tz (pv a)<=10)(tb:tz (pv b)<=10):AC Tryz.prog 42 [cw a,cw b] none [cp (gcdp (pv a) (pv b))]:=by
 have e:EB 1073741824 10 (tz (pv b)) (npr (pv a)) (npr (pv b)):=EB.mono (by show EZ 1048700 8<=1073741824;decide) (Nat.le_refl _) _ _ _ (eb_of_ei (D:=10) (by omega) (by omega) _ _ _ (EI.start ta tb (sb_rp ha) (sb_rp hb)) (nf_npr _) (nf_npr _));exact pgcd_e a b 1073741824 10 (ha.mono (by omega) (by omega)) (hb.mono (by omega) (by omega)) (by omega) (by decide) e
theorem gcd_kn (a b:List RI)(ha:RP 40 1000 a)(hb:RP 40 1000 b)(ta:tz (pv a)<=11)(tb:tz (pv b)<=30):AC Tryz.prog 42 [cw a,cw b] none [cp (gcdp (pv a) (pv b))]:=by
 have hmono:EZ 31030 9<=268435456:=by decide
 have sa:=sb_npr (sb_rp ha);have sb:=sb_npr (sb_rp hb);have na:=nf_npr (pv a);have nb:=nf_npr (pv b);rw[<-tz_npr]at ta tb;have e:EB 268435456 30 (tz (npr (pv b))) (npr (pv a)) (npr (pv b)):=by
  generalize npr (pv a)=X at *;generalize npr (pv b)=Y at *;by_cases hy:tz Y<=11
  .exact EB.mono hmono (by omega) _ _ _ (eb_of_ei (D:=11) (S:=31030) (by omega) (by omega) _ _ _ ⟨by omega,by omega,.inl ⟨sa.mono (by omega),sb.mono (by omega)⟩⟩ na nb)
  obtain⟨n,hn⟩:∃n,tz Y=n+1+1:=⟨tz Y-2,by omega⟩;rw[hn];have hr:dr X Y=X:=by
   unfold dr dxp;rw[show tz X+1-tz Y=0 by omega,dres]
  have s1:SBd 1000 (npr X):=sb_npr sa;have t1:tz (npr X)<=11:=by rw[tz_npr];exact ta
  refine⟨⟨sa.mono (by omega),by omega,sb.mono (by omega),tb⟩,λ_=>?_⟩;rw[hr];refine⟨⟨sb.mono (by omega),tb,s1.mono (by omega),by omega⟩,λh0=>?_⟩;have dz:=(div_sz h0 sb s1).2;have hx:dxp Y (npr X)<=30:=by unfold dxp;omega
  have hm:=Nat.mul_le_mul_right (1000+1) hx;have tr:=drem_tz (A:=Y) h0;exact EB.mono hmono (by omega) _ _ _ (eb_of_ei (D:=11) (S:=31030) (by omega) (by omega) _ _ _ ⟨t1,by rw[tz_npr];omega,.inl ⟨s1.mono (by omega),sb_npr (dz.mono (by omega))⟩⟩ (nf_npr _) (nf_npr _))
 rw[tz_npr]at e;exact pgcd_e a b 268435456 30 (ha.mono (by omega) (by omega)) (hb.mono (by omega) (by omega)) (by omega) (by decide) e
theorem dv_l (A B:List Int):Dv A (pmul A B):=.mul (S:=B) (by rw[ps_pmul,PS.mul_comm])
theorem dv_r (A B:List Int):Dv B (pmul A B):=.mul (S:=A) (ps_pmul A B)
theorem Dv.pm {A A' B B':List Int}(h:Dv A A')(h2:Dv B B'):Dv (pmul A B) (pmul A' B'):=by
 obtain⟨c,S,hc,e⟩:=h;obtain⟨d,T,hd,e2⟩:=h2;refine⟨c*d,pmul S T,Int.mul_ne_zero hc hd,?_⟩;rw[ps_pmul,ps_pmul,ps_pmul,PS.C_mul,show ps S*ps T*(ps A*ps B)=(ps S*ps A)*(ps T*ps B) by ac_rfl,e,e2]
 ac_rfl
theorem As.pm {A A' B B':List Int}(h:As A A')(h2:As B B'):As (pmul A B) (pmul A' B'):=(h.dv.pm h2.dv).anti (h.symm.dv.pm h2.symm.dv)
theorem Dv.cancel {D A B:List Int}(hD:tz D≠0)(h:Dv (pmul D A) (pmul D B)):Dv A B:=by
 obtain⟨c,S,hc,e⟩:=h;refine⟨c,S,hc,?_⟩;have:ps (pmul S A)=ps (pscale c B):=ps_cancel (B:=D) (by
  rw[ps_pmul,ps_pscale];rw[ps_pmul,ps_pmul]at e;rw[show ps S*ps A*ps D=ps S*(ps D*ps A) by ac_rfl,e];ac_rfl) hD
 rwa [ps_pmul,ps_pscale]at this
theorem As.cancel {D A B:List Int}(hD:tz D≠0)(h:As (pmul D A) (pmul D B)):As A B:=(Dv.cancel hD h.dv).anti (Dv.cancel hD h.symm.dv)
theorem as_assoc (A B C:List Int):As (pmul (pmul A B) C) (pmul A (pmul B C)):=.of_ps (by simp only[ps_pmul];ac_rfl)
theorem tz1_C {A:List Int}(h:tz A=1):ps A=PS.C (cf A 0)/\cf A 0≠0:=by
 refine⟨PS.ext λk=>?_,?_⟩
 .rw[ps_c,PS.c_C];split
  .rename_i h;rw[h]
  .exact cf_ge_tz A (by omega)
 .have:=cf_tz_pred (q:=A) (by omega);rwa [h]at this
theorem const_dv {A:List Int}(h:tz A=1)(B:List Int):Dv A B:=by
 obtain⟨e,h0⟩:=tz1_C h;exact⟨cf A 0,B,h0,by rw[<-e];exact PS.mul_comm _ _⟩
theorem as_const {A B:List Int}(hA:tz A=1)(hB:tz B=1):As A B:=(const_dv hA B).anti (const_dv hB A)
theorem as_cmul {A B:List Int}(hA:tz A=1):As (pmul A B) B:=(((const_dv hA [1]).pm (.refl B)).trans (As.of_ps (by rw[ps_pmul,ps_one,PS.one_mul])).dv).anti (dv_r A B)
theorem tz_pm {A B:List Int}(hA:tz A≠0)(hB:tz B≠0):tz (pmul A B)+1=tz A+tz B/\tz (pmul A B)≠0:=by
 have:=tz_pmul hA hB;omega
theorem dv_as {A B:List Int}(h:Dv A B)(hB:tz B≠0)(e:tz A=tz B):As A B:=by
 obtain⟨c,S,hc,e1⟩:=h;have ht:tz (pmul S A)=tz B:=by
  rw[<-tz_pscale hc B];exact tz_of_ps (by rw[ps_pmul,ps_pscale,e1])
 have hS:tz S≠0:=λh0=>hB (by rw[<-ht];exact tz_pmul_zero (.inl h0))
 have hA:tz A≠0:=by omega
 have:=(tz_pm hS hA).1;obtain⟨e2,h0⟩:=tz1_C (A:=S) (by omega);exact⟨cf S 0,c,h0,hc,by rw[<-e2,e1]⟩
theorem dv_split {A B:List Int}(h:Dv B A):∃S,As A (pmul B S):=by
 obtain⟨c,S,hc,e⟩:=h;exact⟨S,c,1,hc,by decide,by rw[<-e,ps_pmul,PS.C_one,PS.one_mul,PS.mul_comm]⟩
theorem D_Cmul (a:Int)(f:PS):PS.D (PS.C a*f)=PS.C a*PS.D f:=by rw[PS.D_mul,PS.D_C,PS.zero_mul,PS.zero_add]
theorem As.deriv {A B:List Int}(h:As A B):As (pderiv A) (pderiv B):=by
 obtain⟨a,b,ha,hb,e⟩:=h;exact⟨a,b,ha,hb,by rw[ps_pderiv,ps_pderiv,<-D_Cmul,<-D_Cmul,e]⟩
theorem ps_dmul (A B:List Int):ps (pderiv (pmul A B))=ps (pderiv A)*ps B+ps A*ps (pderiv B):=by rw[ps_pderiv,ps_pmul,ps_pderiv,ps_pderiv];exact PS.D_mul _ _
theorem tz_deriv {d:List Int}(h:2<=tz d):tz (pderiv d)≠0/\tz (pderiv d)<tz d:=by
 constructor
 .intro h0;have h1:=tz_zero_iff.mp h0 (tz d-2);rw[cf_pderiv,show tz d-2+1=tz d-1 by omega]at h1;have h2:=cf_tz_pred (q:=d) (by omega);rcases Int.mul_eq_zero.mp h1 with h|h
  .exact h2 h
  .omega
 .have:tz (pderiv d)<=tz d-1:=tz_le_of λk hk=>by rw[cf_pderiv,cf_ge_tz d (by omega),Int.zero_mul]
  omega
def Irr (d:List Int):Prop:=2<=tz d/\∀e,Dv e d->tz e=1\/tz e=tz d
theorem irr_ex:∀(n:Nat) (r:List Int),tz r<=n->2<=tz r->∃d,Irr d/\Dv d r
 |0,r,h,h2=>by omega
 |n+1,r,h,h2=>by
  by_cases hI:∀e,Dv e r->tz e=1\/tz e=tz r
  .exact⟨r,⟨h2,hI⟩,.refl r⟩
  .obtain⟨e,he⟩:=Classical.not_forall.mp hI;obtain⟨hd,hne⟩:=Classical.not_imp.mp he;have ht:=dv_tz hd (by omega);have h1:tz e≠1:=λh=>hne (.inl h)
   have h3:tz e≠tz r:=λh=>hne (.inr h)
   obtain⟨d,hI,hde⟩:=irr_ex n e (by omega) (by omega);exact⟨d,hI,hde.trans hd⟩
theorem irr_of_lin {d:List Int}(h:tz d=2):Irr d:=⟨by omega,λe he=>by
 have:=dv_tz he (by omega);omega⟩
theorem Irr.ne {d:List Int}(h:Irr d):tz d≠0:=by have:=h.1;omega
theorem Irr.prime {d a b:List Int}(h:Irr d)(hd:Dv d (pmul a b)):Dv d a\/Dv d b:=by
 have g:=gcdp_gg d a;rcases h.2 _ g.a with h1|h1
 .right
  obtain⟨e,h0⟩:=tz1_C h1;obtain⟨c,U,V,hc,ez⟩:=g.z;refine Dv.lin (U:=pmul U b) (V:=V) (k:=c*cf (gcdp d a) 0) (.refl d) hd (Int.mul_ne_zero hc h0) ?_;rw[ps_pmul,ps_pmul,PS.C_mul,<-e,<-ez,PS.add_mul]
  congr 1<;>ac_rfl
 .left
  exact(dv_as g.a h.ne h1).symm.dv.trans g.b
theorem Irr.not_const {d c:List Int}(h:Irr d)(hc:tz c=1):¬Dv d c:=λhd=>by
 have:=(dv_tz hd (by omega)).2;have:=h.1;omega
theorem Irr.pow {d a:List Int}(h:Irr d):∀n,Dv d (ppow a n)->Dv d a
 |0,hd=>(h.not_const (c:=[1]) (by decide) hd).elim
 |n+1,hd=>by
  have:ps (ppow a (n+1))=ps (pmul (ppow a n) a):=by rw[ps_ppow,ps_pmul,ps_ppow];rfl
  rcases h.prime (hd.trans (As.of_ps this).dv) with h1|h1
  .exact h.pow n h1
  .exact h1
theorem tz_ppow {a:List Int}(h:tz a≠0):∀n,tz (ppow a n)≠0
 |0=>by show tz [1]≠0;decide
 |n+1=>by
  rw[show tz (ppow a (n+1))=tz (pmul (ppow a n) a) from tz_of_ps (by rw[ps_ppow,ps_pmul,ps_ppow];rfl)];exact(tz_pm (tz_ppow h n) h).2
theorem val_ex {d:List Int}(hd:Irr d):∀(n:Nat) (P:List Int),tz P<=n->tz P≠0->∃e h,As P (pmul (ppow d e) h)/\¬Dv d h
 |0,P,h,h0=>by omega
 |n+1,P,hn,h0=>by
  by_cases hdv:Dv d P
  .obtain⟨S,hS⟩:=dv_split hdv;have ht:=as_tz hS;have hS0:tz S≠0:=λh=>h0 (by rw[ht];exact tz_pmul_zero (.inr h))
   have:=(tz_pm hd.ne hS0).1;have:=hd.1;obtain⟨e,h,e1,e2⟩:=val_ex hd n S (by omega) hS0;refine⟨e+1,h,hS.trans (((As.refl d).pm e1).trans (.of_ps ?_)),e2⟩;rw[ps_pmul,ps_pmul,ps_pmul,ps_ppow,ps_ppow,PS.pw]
   ac_rfl
  .exact⟨0,P,.of_ps (by rw[ps_pmul,ps_ppow,PS.pw,PS.one_mul]),hdv⟩
theorem ps_dpow (d h:List Int)(k:Nat):ps (pderiv (pmul (ppow d (k+1)) h))=ps (pmul (ppow d k) (padd (pscale ((k+1:Nat):Int) (pmul (pderiv d) h)) (pmul d (pderiv h)))):=by
 rw[ps_dmul,ps_pderiv (ppow d (k+1)),ps_ppow,PS.D_pw,ps_pmul,ps_ppow,ps_padd,ps_pscale,ps_pmul,ps_pmul,PS.mul_add,ps_pderiv d,PS.pw]
 congr 1<;>ac_rfl
theorem irr_key {d P G W:List Int}(hd:Irr d)(hP:tz P≠0)(hG:GG G P (pderiv P))(hW:As (pmul W G) P):¬Dv (pmul d d) W/\(Dv d P->Dv d W):=by
 obtain⟨e,h,eP,nh⟩:=val_ex hd _ P (Nat.le_refl _) hP;have hWP:Dv W P:=(dv_l W G).trans hW.dv;cases e with
 |zero =>
  have e1:As P h:=eP.trans (.of_ps (by rw[ps_pmul,ps_ppow,PS.pw,PS.one_mul]));have nP:¬Dv d P:=λx=>nh (x.trans e1.dv)
  exact⟨λx=>nP (((dv_l d d).trans x).trans hWP),λx=>(nP x).elim⟩
 |succ k =>
  have hT:=tz_ppow hd.ne k;have e1:As P (pmul (ppow d k) (pmul d h)):=eP.trans (.of_ps (by
   rw[ps_pmul,ps_pmul,ps_pmul,ps_ppow,ps_ppow,PS.pw];ac_rfl))
  have e2:=eP.deriv.trans (.of_ps (ps_dpow d h k));have nQ:¬Dv d (padd (pscale ((k+1:Nat):Int) (pmul (pderiv d) h)) (pmul d (pderiv h))):=λx=>by
   have y:Dv d (pmul (pderiv d) h):=x.lin (U:=[1]) (V:=[-1]) (k:=((k+1:Nat):Int)) (dv_l d (pderiv h)) (by omega) (by
    rw[ps_padd,ps_pscale,ps_one,PS.one_mul,ps_const,PS.neg_one_C,PS.add_assoc,PS.add_neg,PS.add_zero])
   rcases hd.prime y with z|z
   .have t:=tz_deriv hd.1;have:=(dv_tz z t.1).2;omega
   .exact nh z
  generalize padd (pscale ((k+1:Nat):Int) (pmul (pderiv d) h)) (pmul d (pderiv h))=Q at e2 nQ;generalize ppow d k=T at hT e1 e2;have dG:Dv T G:=hG.dv ((dv_l T _).trans e1.symm.dv) ((dv_l T _).trans e2.symm.dv);obtain⟨G1,eG⟩:=dv_split dG;have e3:As (pmul W G1) (pmul d h):=As.cancel hT ((As.of_ps (by simp only[ps_pmul];ac_rfl)).trans ((((As.refl W).pm eG).symm.trans hW).trans e1):As (pmul T (pmul W G1)) (pmul T (pmul d h)));have n1:¬Dv d G1:=λx=>nQ (Dv.cancel hT ((((Dv.refl T).pm x).trans eG.symm.dv).trans (hG.b.trans e2.dv)))
  refine⟨λx=>nh (Dv.cancel hd.ne ((x.trans (dv_l W G1)).trans e3.dv)),λ_=>?_⟩;rcases hd.prime ((dv_l d h).trans e3.symm.dv) with x|x
  .exact x
  .exact(n1 x).elim
def Sqf (W:List Int):Prop:=∀d,Irr d->¬Dv (pmul d d) W
def Rad (A B:List Int):Prop:=∀d,Irr d->Dv d A->Dv d B
theorem Sqf.mono {A W:List Int}(h:Sqf W)(hd:Dv A W):Sqf A:=λd hI hx=>h d hI (hx.trans hd)
theorem tz1_of {A:List Int}(h0:tz A≠0)(h:∀d,Irr d->¬Dv d A):tz A=1:=by
 by_cases h1:tz A=1
 .exact h1
 .obtain⟨d,hd,hx⟩:=irr_ex _ A (Nat.le_refl _) (by omega);exact(h d hd hx).elim
theorem gcdp_ne0 {A B:List Int}(h:tz A≠0):tz (gcdp A B)≠0:=λh0=>h (gg_tz0 (gcdp_gg A B) h0).1
theorem Sqf.gcd {A:List Int}(h:Sqf A)(h0:tz A≠0):tz (gcdp A (pderiv A))=1:=by
 refine tz1_of (gcdp_ne0 h0) λd hd hx=>?_;have g:=gcdp_gg A (pderiv A);obtain⟨u,eu⟩:=dv_split (hx.trans g.a);have e2:=eu.deriv;have h1:Dv d (pderiv (pmul d u)):=(hx.trans g.b).trans e2.dv;have h2:Dv d (pmul (pderiv d) u):=h1.lin (U:=[1]) (V:=[-1]) (k:=1) (dv_l d (pderiv u)) (by decide) (by
  rw[ps_dmul,ps_one,PS.one_mul,ps_const,PS.neg_one_C,ps_pmul,ps_pmul,PS.add_assoc,PS.add_neg,PS.add_zero,PS.C_one,PS.one_mul])
 rcases hd.prime h2 with z|z
 .have t:=tz_deriv hd.1;have:=(dv_tz z t.1).2;omega
 .exact h d hd (((Dv.refl d).pm z).trans eu.symm.dv)
theorem Sqf.coprime {A B W:List Int}(h:Sqf W)(h0:tz A≠0)(hd:Dv (pmul A B) W):tz (gcdp A B)=1:=by
 refine tz1_of (gcdp_ne0 h0) λd hI hx=>?_;have g:=gcdp_gg A B;exact h d hI (((hx.trans g.a).pm (hx.trans g.b)).trans hd)
theorem ps_psucc (a:List Int)(n:Nat):ps (ppow a (n+1))=ps (pmul (ppow a n) a):=by rw[ps_ppow,ps_pmul,ps_ppow];rfl
theorem As.ppow {A B:List Int}(h:As A B):∀n,As (ppow A n) (ppow B n)
 |0=>.refl _
 |n+1=>((As.of_ps (ps_psucc A n)).trans ((h.ppow n).pm h)).trans (As.of_ps (ps_psucc B n)).symm
theorem tz_pow1 {a:List Int}(h:tz a=1):∀n,tz (ppow a n)=1
 |0=>by show tz [1]=1;decide
 |n+1=>by
  have h1:=tz_pow1 h n;have:=(tz_pm (A:=ppow a n) (B:=a) (by omega) (by omega)).1;rw[tz_of_ps (ps_psucc a n)];omega
theorem prm_npr {B:List Int}(hb:tz B≠0):Prm (npr B):=prm_cf (λk=>cf_trimz _ k) (prm_prim λe=>hb (cont_zero_iff.1 e))
def ovr (A B:List Int):List Int:=npr (exv (npr A) (npr B))
theorem ovr_as {A B:List Int}(hB:tz B≠0)(h:Dv B A):As A (pmul (ovr A B) B):=by
 have e:=exv_prm (prm_npr hB) (h.as (as_npr B).symm (as_npr A));exact((as_npr A).trans (.of_ps (by rw[ps_pmul,e]))).trans ((as_npr _).pm (as_npr B).symm)
theorem ovr_ne {A B:List Int}(hA:tz A≠0)(hB:tz B≠0)(h:Dv B A):tz (ovr A B)≠0/\tz (ovr A B)+tz B=tz A+1:=by
 have e:=as_tz (ovr_as hB h);have h0:tz (ovr A B)≠0:=λh0=>hA (by rw[e];exact tz_pmul_zero (.inl h0))
 have:=(tz_pm h0 hB).1;exact⟨h0,by omega⟩
def bmL:Nat->Nat->List Int->List Int->List (Nat×List Int)
 |0,_,_,_=>[]
 |n+1,m,R,N=>if tz N<=1 then [] else
  (if tz (ovr N (gcdp N (ovr R N)))<=1 then [] else [(m,ovr N (gcdp N (ovr R N)))])++bmL n (m+1) (ovr R N) (gcdp N (ovr R N))
structure BI (P W R N:List Int):Prop where
 r:Dv R P
 r0:tz R≠0
 n:Dv N W
 n0:tz N≠0
 d:Dv N R
 rad:Rad R N
structure BS (P W R N r g f:List Int):Prop where
 bi:BI P W r g
 er:As R (pmul r N)
 en:As N (pmul f g)
 f0:tz f≠0
 fn:tz f+tz g=tz N+1
 lt:tz r+tz N=tz R+1
theorem BI.step {P W R N:List Int}(h:BI P W R N):BS P W R N (ovr R N) (gcdp N (ovr R N)) (ovr N (gcdp N (ovr R N))):=by
 have er:=ovr_as h.n0 h.d;have e0:=ovr_ne h.r0 h.n0 h.d;have g:=gcdp_gg N (ovr R N);have g0:=gcdp_ne0 (B:=ovr R N) h.n0;have en:=ovr_as g0 g.a;have e1:=ovr_ne h.n0 g0 g.a;have dr:Dv (ovr R N) R:=(dv_l _ N).trans er.symm.dv;exact⟨⟨dr.trans h.r,e0.1,g.a.trans h.n,g0,g.b,λd hd hx=>g.dv (h.rad d hd (hx.trans dr)) hx⟩,er,en,e1.1,e1.2,e0.2⟩
def prodP (L:List (Nat×List Int)):List Int:=L.foldr (λx p=>pmul (ppow x.2 x.1) p) [1]
def prodF (L:List (Nat×List Int)):List Int:=L.foldr (λx p=>pmul x.2 p) [1]
theorem prodP_cons (x:Nat×List Int)(L:List (Nat×List Int)):prodP (x::L)=pmul (ppow x.2 x.1) (prodP L):=rfl
theorem prodF_cons (x:Nat×List Int)(L:List (Nat×List Int)):prodF (x::L)=pmul x.2 (prodF L):=rfl
theorem prodP_app:∀(L M:List (Nat×List Int)),As (prodP (L++M)) (pmul (prodP L) (prodP M))
 |[],M=>.of_ps (by rw[ps_pmul,show prodP []=[1] from rfl,ps_one,PS.one_mul];rfl)
 |x::L,M=>((As.refl (ppow x.2 x.1)).pm (prodP_app L M)).trans (as_assoc _ _ _).symm
theorem prodF_app:∀(L M:List (Nat×List Int)),As (prodF (L++M)) (pmul (prodF L) (prodF M))
 |[],M=>.of_ps (by rw[ps_pmul,show prodF []=[1] from rfl,ps_one,PS.one_mul];rfl)
 |x::L,M=>((As.refl x.2).pm (prodF_app L M)).trans (as_assoc _ _ _).symm
theorem bm_prod {P W:List Int}:∀(n k:Nat) (R N:List Int),BI P W R N->tz R<=n->As (pmul (ppow N k) R) (prodP (bmL n (k+1) R N))/\As N (prodF (bmL n (k+1) R N))
 |0,k,R,N,h,hn=>absurd (Nat.le_zero.mp hn) h.r0
 |n+1,k,R,N,h,hn=>by
  rw[bmL];by_cases h1:tz N<=1
  .have n0:=h.n0;have hN:tz N=1:=by omega
   have hR:tz R=1:=tz1_of h.r0 λd hd hx=>hd.not_const hN (h.rad d hd hx)
   rw[if_pos h1];exact⟨(as_cmul (tz_pow1 hN k)).trans (as_const hR (by decide)),as_const hN (by decide)⟩
  rw[if_neg h1];have s:=h.step;have hlt:=s.lt;generalize ovr N (gcdp N (ovr R N))=f at *;generalize gcdp N (ovr R N)=g at *;generalize ovr R N=r at *;obtain⟨i1,i2⟩:=bm_prod n (k+1) r g s.bi (by omega);have e:As (pmul (ppow N k) R) (pmul (ppow f (k+1)) (prodP (bmL n (k+1+1) r g))):=by
   refine(((As.refl (ppow N k)).pm s.er).trans (As.of_ps (B:=pmul (ppow N (k+1)) r) ?_ )).trans ((((s.en.ppow (k+1)).pm (.refl r)).trans (As.of_ps (B:=pmul (ppow f (k+1)) (pmul (ppow g (k+1)) r)) ?_)).trans ((As.refl _).pm i1))
   .rw[ps_pmul,ps_pmul,ps_pmul,ps_psucc,ps_pmul];ac_rfl
   .rw[ps_pmul,ps_ppow,ps_pmul,PS.pw_mul,ps_pmul,ps_pmul,ps_ppow,ps_ppow];ac_rfl
  have e2:As N (pmul f (prodF (bmL n (k+1+1) r g))):=s.en.trans ((As.refl f).pm i2);by_cases hf:tz f<=1
  .have f0:=s.f0;have f1:tz f=1:=by omega
   rw[if_pos hf];exact⟨e.trans (as_cmul (tz_pow1 f1 _)),e2.trans (as_cmul f1)⟩
  .rw[if_neg hf];exact⟨e,e2⟩
theorem bm_mem:∀(n m:Nat) (R N:List Int),(∀x∈bmL n m R N,m<=x.1/\2<=tz x.2/\Nf x.2/\trimz x.2=x.2)/\(bmL n m R N).Pairwise λa b=>a.1<b.1
 |0,m,R,N=>⟨λx h=>(by cases h),.nil⟩
 |n+1,m,R,N=>by
  obtain⟨i1,i2⟩:=bm_mem n (m+1) (ovr R N) (gcdp N (ovr R N));rw[bmL];have nf:Nf (ovr N (gcdp N (ovr R N))):=nf_npr _;have tr:trimz (ovr N (gcdp N (ovr R N)))=ovr N (gcdp N (ovr R N)):=npr_trim _;generalize ovr N (gcdp N (ovr R N))=f at *;generalize bmL n (m+1) (ovr R N) (gcdp N (ovr R N))=L at *;by_cases h1:tz N<=1
  .rw[if_pos h1];exact⟨λx h=>(by cases h),.nil⟩
  rw[if_neg h1];by_cases hf:tz f<=1
  .rw[if_pos hf];exact⟨λx h=>⟨Nat.le_of_succ_le (i1 x h).1,(i1 x h).2⟩,i2⟩
  .rw[if_neg hf];refine⟨λx h=>?_,List.Pairwise.cons (λy hy=>(i1 y hy).1) i2⟩;rcases List.mem_cons.mp h with rfl|h'
   .exact⟨Nat.le_refl _,Nat.lt_of_not_le hf,nf,tr⟩
   .exact⟨Nat.le_of_succ_le (i1 x h').1,(i1 x h').2⟩
structure Pts (P W:List Int) (L:List (Nat×List Int)):Prop where
 p:As P (prodP L)
 w:As W (prodF L)
 p0:tz P≠0
 w0:tz W≠0
 sq:Sqf W
 rad:Rad P W
 inc:L.Pairwise λa b=>a.1<b.1
 mem:∀x∈L,1<=x.1/\2<=tz x.2/\Nf x.2/\trimz x.2=x.2
theorem tz_prodF:∀(L:List (Nat×List Int)),(∀x∈L,2<=tz x.2)->L.length+1<=tz (prodF L)
 |[],_=>by show 1<=tz [1];decide
 |x::L,h=>by
  have h1:=h x (by simp);have ih:=tz_prodF L λy hy=>h y (by simp[hy])
  have:=(tz_pm (A:=x.2) (B:=prodF L) (by omega) (by omega)).1;rw[prodF_cons,List.length_cons];omega
theorem tz_pow2 {a:List Int}(h:2<=tz a):∀n,n+1<=tz (ppow a n)
 |0=>by show 1<=tz [1];decide
 |n+1=>by
  have ih:=tz_pow2 h n;have:=(tz_pm (A:=ppow a n) (B:=a) (by omega) (by omega)).1;rw[tz_of_ps (ps_psucc a n)];omega
theorem tz_prodP:∀(L:List (Nat×List Int)),(∀x∈L,2<=tz x.2)->1<=tz (prodP L)/\∀x∈L,x.1+1<=tz (prodP L)
 |[],_=>⟨by show 1<=tz [1];decide,λx h=>(by cases h)⟩
 |x::L,h=>by
  have h1:=h x (by simp);obtain⟨i1,i2⟩:=tz_prodP L λy hy=>h y (by simp[hy])
  have h2:=tz_pow2 h1 x.1;have:=(tz_pm (A:=ppow x.2 x.1) (B:=prodP L) (by omega) (by omega)).1;rw[prodP_cons];refine⟨by omega,λy hy=>?_⟩;rcases List.mem_cons.mp hy with rfl|hy
  .omega
  .have:=i2 y hy;omega
theorem Pts.len {P W:List Int}{L:List (Nat×List Int)}(h:Pts P W L):L.length+1<=tz W:=by
 rw[as_tz h.w];exact tz_prodF L λx hx=>(h.mem x hx).2.1
theorem Pts.le {P W:List Int}{L:List (Nat×List Int)}(h:Pts P W L){x:Nat×List Int}(hx:x∈L):x.1+1<=tz P:=by
 rw[as_tz h.p];exact(tz_prodP L λx hx=>(h.mem x hx).2.1).2 x hx
theorem bm_pts {P G W R:List Int}(hP:tz P≠0)(hG:GG G P (pderiv P))(hW:As (pmul W G) P)(hR:As R P){n:Nat}(hn:tz P<=n):BI P W R W/\Pts P W (bmL n 1 R W):=by
 have hWP:Dv W P:=(dv_l W G).trans hW.dv;have w0:=(dv_tz hWP hP).1;have hr:=as_tz hR;have rad:Rad P W:=λd hd=>(irr_key hd hP hG hW).2
 have bi:BI P W R W:=⟨hR.dv,by omega,.refl W,w0,hWP.trans hR.symm.dv,λd hd hx=>rad d hd (hx.trans hR.dv)⟩;obtain⟨e1,e2⟩:=bm_prod n 0 R W bi (by omega);obtain⟨m1,m2⟩:=bm_mem n 1 R W;exact⟨bi,(hR.symm.trans (as_cmul (A:=ppow W 0) (B:=R) (by show tz [1]=1;decide)).symm).trans e1,e2,hP,w0,λd hd=>(irr_key hd hP hG hW).1,rad,m2,m1⟩
theorem irr_prodP {d:List Int}(hd:Irr d):∀L:List (Nat×List Int),Dv d (prodP L)->∃x∈L,Dv d x.2
 |[],h=>(hd.not_const (c:=[1]) (by decide) h).elim
 |x::L,h=>by
  rcases hd.prime h with h|h
  .exact⟨x,by simp,hd.pow _ h⟩
  .obtain⟨y,hy,hx⟩:=irr_prodP hd L h;exact⟨y,by simp[hy],hx⟩
theorem dv_prodF:∀(L:List (Nat×List Int)) (x:Nat×List Int),x∈L->Dv x.2 (prodF L)
 |y::L,x,h=>by
  rcases List.mem_cons.mp h with rfl|h
  .exact dv_l _ _
  .exact(dv_prodF L x h).trans (dv_r _ _)
theorem val_uniq {d P h k:List Int}{e t:Nat}(hd:Irr d)(e1:As P (pmul (ppow d e) h))(n1:¬Dv d h)(e2:As P (pmul (ppow d t) k))(n2:¬Dv d k):e=t:=by
 have key:∀{e t:Nat} {h k:List Int},As (pmul (ppow d e) h) (pmul (ppow d t) k)->¬Dv d h->¬e<t:=λ{e t h k} q n hlt=>by
  obtain⟨j,rfl⟩:∃j,t=e+1+j:=⟨t-(e+1),by omega⟩;have:As (pmul (ppow d (e+1+j)) k) (pmul (ppow d e) (pmul d (pmul (ppow d j) k))):=.of_ps (by
   simp only[ps_pmul,ps_ppow];rw[PS.pw_add,PS.pw_add,PS.pw_one];ac_rfl)
  exact n ((dv_l d _).trans (As.cancel (tz_ppow hd.ne e) (q.trans this)).symm.dv)
 have q:=e1.symm.trans e2;have h1:=key q n1;have h2:=key q.symm n2;omega
theorem pair_inc:∀(L:List (Nat×List Int)),(L.Pairwise λa b=>a.1<b.1)->∀x∈L,∀y∈L,x.1=y.1->x=y
 |z::L,h,x,hx,y,hy,e=>by
  obtain⟨h1,h2⟩:=List.pairwise_cons.mp h;rcases List.mem_cons.mp hx with e1|hx'<;>rcases List.mem_cons.mp hy with e2|hy'
  .rw[e1,e2]
  .have:=h1 y hy';rw[<-e1]at this;omega
  .have:=h1 x hx';rw[<-e2]at this;omega
  .exact pair_inc L h2 x hx' y hy' e
theorem Pts.val {P W d:List Int}{L:List (Nat×List Int)}(h:Pts P W L)(hd:Irr d){x:Nat×List Int}(hx:x∈L)(hdx:Dv d x.2):∃k,As P (pmul (ppow d x.1) k)/\¬Dv d k:=by
 obtain⟨L1,L2,rfl⟩:=List.append_of_mem hx;have eW:As W (pmul x.2 (pmul (prodF L1) (prodF L2))):=(h.w.trans (prodF_app L1 (x::L2))).trans (.of_ps (by rw[prodF_cons];simp only[ps_pmul];ac_rfl));have eP:As P (pmul (ppow x.2 x.1) (pmul (prodP L1) (prodP L2))):=(h.p.trans (prodP_app L1 (x::L2))).trans (.of_ps (by rw[prodP_cons];simp only[ps_pmul];ac_rfl));obtain⟨u,eu⟩:=dv_split hdx;have nu:¬Dv d u:=λy=>h.sq d hd ((((Dv.refl d).pm y).trans eu.symm.dv).trans ((dv_l _ _).trans eW.symm.dv))
 have no:∀M:List (Nat×List Int),Dv (prodF M) (pmul (prodF L1) (prodF L2))->¬Dv d (prodP M):=λM hM y=>by
  obtain⟨z,hz,hdz⟩:=irr_prodP hd M y;exact h.sq d hd ((hdx.pm ((hdz.trans (dv_prodF M z hz)).trans hM)).trans eW.symm.dv)
 refine⟨pmul (ppow u x.1) (pmul (prodP L1) (prodP L2)),eP.trans ((((eu.ppow x.1).pm (.refl _))).trans (.of_ps (by
  rw[ps_pmul,ps_ppow,ps_pmul d u,PS.pw_mul];simp only[ps_pmul,ps_ppow];ac_rfl))),λy=>?_⟩
 rcases hd.prime y with y|y
 .exact nu (hd.pow _ y)
 rcases hd.prime y with y|y
 .exact no L1 (dv_l _ _) y
 .exact no L2 (dv_r _ _) y
theorem Pts.mult {P W d k:List Int}{L:List (Nat×List Int)}{t:Nat}(h:Pts P W L)(hd:Irr d)(e:As P (pmul (ppow d (t+1)) k))(hk:¬Dv d k){x:Nat×List Int}(hx:x∈L):Dv d x.2↔x.1=t+1:=by
 constructor
 .intro hdx;obtain⟨k',e',n'⟩:=h.val hd hx hdx;exact val_uniq hd e' n' e hk
 .intro ht;have hdP:Dv d P:=((dv_r (ppow d t) d).trans ((As.of_ps (ps_psucc d t)).symm.dv.trans (dv_l _ k))).trans e.symm.dv;obtain⟨y,hy,hdy⟩:=irr_prodP hd L (hdP.trans h.p.dv);obtain⟨k',e',n'⟩:=h.val hd hy hdy;have:=val_uniq hd e' n' e hk;rw[pair_inc L h.inc x hx y hy (by omega)];exact hdy
section
theorem npr_as {A B:List Int}(h:As A B):npr A=npr B:=by
 rw[<-npr_trim A,<-npr_trim B];exact trimz_ext (ps_eq ((((as_npr A).symm.trans h).trans (as_npr B)).uniq (nf_npr A) (nf_npr B)))
theorem ovr_eq {A A' B B':List Int}(h:As A A')(h2:As B B'):ovr A B=ovr A' B':=by rw[ovr,ovr,npr_as h,npr_as h2]
theorem cp_ovr {A B:List Int}(hB:tz B≠0)(h:Dv B A):cp (prim (exv (prim A) (prim B)))=cp (ovr A B):=by
 have pB:Prm (prim B):=prm_prim λe=>hB (cont_zero_iff.1 e)
 have e1:=exv_prm (prm_npr hB) (h.as (as_npr B).symm (as_npr A));have e2:=exv_prm pB (h.as (as_prim B).symm (as_prim A));have ee:ps (exv (prim A) (prim B))=ps (exv (npr A) (npr B)):=ps_cancel (B:=npr B) (by
  rw[e1,show ps (npr B)=ps (prim B) from ps_trimz _,e2];exact(ps_trimz _).symm) (prm_tz (prm_npr hB))
 rw[cp_npr,npr_eq ee];rfl
theorem const_g {a:List RI}{q:List Int}(ha:RP (2^40) (2^40) a)(e:ps (pv a)=ps q):AC Tryz.prog 157 [cw a] none [cb (decide ((tz q:Int)-1<1))]:=by
 have h:=pdeg_n ha e;refine AC.by_walk (rs:=[.tmp 2]) ords Tryz.func157 (by rfl) (by rfl) (by rfl) (by rfl) (by rfl) ?_;simp (disch:=omega) only[wt,seval,reduceCtorEq,Nat.reduceEqDiff];refine call_by (h) (by rfl) (by simp) ?_;simp (disch:=omega) only[wt,seval,reduceCtorEq,Nat.reduceEqDiff]
theorem over_n {A B:List Int}{S:Nat}(tA:tz A<=40)(tB:tz B<=40)(sA:SBd S A)(sB:SBd S B)(hS:S<=2^21)(hA:tz A≠0)(hB:tz B≠0)(hd:Dv B A):AC Tryz.prog 158 [cp A,cp B] none [cp (ovr A B)]:=by
 have h:=over_g (cn A) (cn B) A B (ps_cn _) (ps_cn _) (rp_sb tA (sA.mono hS)) (rp_sb tB (sB.mono hS)) hB hd hA S sA hS;rwa [cp_ovr hB hd]at h
theorem sb_deriv {n k:Nat}{p:List RI}(h:RP n k p)(hn:n<=2^30):PB n (k+1) (pderiv (pv p)):=PB.pderiv h.pv (Nat.lt_of_le_of_lt hn (by decide))
structure Env (P:List Int) (S T U:Nat):Prop where
 p0:tz P≠0
 t:tz P<=T
 t30:T<=30
 s:SBd S P
 hS:S+10*T<=1048690
 w:tz (ovr P (gcdp P (pderiv P)))<=U
 u:U<=11
 free:∀a,RP 40 (S+10*T) a->As (pv a) P->AC Tryz.prog 42 [cw a,cp (pderiv (pv a))] none [cp (gcdp (pv a) (pderiv (pv a)))]
 gcd:∀a b,RP 40 (S+10*T+1) a->RP 40 (S+10*T+1) b->tz (pv a)<=U->tz (pv b)<=T->AC Tryz.prog 42 [cw a,cw b] none [cp (gcdp (pv a) (pv b))]
section
variable {P:List Int} {S T U:Nat}
def wof (P:List Int):List Int:=ovr P (gcdp P (pderiv P))
theorem Env.sz (h:Env P S T U){A:List Int}(hd:Dv A P)(hn:Nf A):SBd (S+10*T) A/\tz A<=T/\tz A≠0:=by
 have t:=dv_tz hd h.p0;have:=h.t;have:=h.t30;exact⟨dv_sz h.p0 h.t (by omega) h.s hn hd,by omega,t.1⟩
theorem wof_as {A B:List Int}(h:As A B):wof A=wof B:=ovr_eq h (.of_ps (gcdp_as h h.deriv))
theorem Env.wg (h:Env P S T U):As (pmul (wof P) (gcdp P (pderiv P))) P:=(ovr_as (gcdp_ne0 h.p0) (gcdp_gg P (pderiv P)).a).symm
theorem Env.pts (h:Env P S T U){n:Nat}(hn:tz P<=n):BI P (wof P) (npr P) (wof P)/\Pts P (wof P) (bmL n 1 (npr P) (wof P)):=bm_pts h.p0 (gcdp_gg P (pderiv P)) h.wg (as_npr P).symm hn
theorem Env.free_ok (h:Env P S T U)(a:List RI)(ha:RP 40 (S+10*T) a)(e:As (pv a) P):AC Tryz.prog 105 [cw a] none [cp (wof P)]:=by
 have hS:=h.hS;have h30:=h.t30;have hT:=h.t;have tp:=as_tz e;have p0:=h.p0;have d1:=pdeg_ok a (ha.mono (by omega) (by omega));have d2:=pderiv_ok a (ha.mono (by omega) (by omega));have d3:=h.free a ha e;have gg:=gcdp_gg (pv a) (pderiv (pv a));have g0:=gcdp_ne0 (A:=pv a) (B:=pderiv (pv a)) (by omega);have gs:=dv_sz (n:=40) (by omega) (by omega) (by omega) (sb_rp ha) (gcdp_nf _ _) gg.a;have gt:=(dv_tz gg.a (by omega)).2;have d4:=over_g a (cn (gcdp (pv a) (pderiv (pv a)))) (pv a) (gcdp (pv a) (pderiv (pv a))) rfl (ps_cn _) (ha.mono (by omega) (by omega)) (rp_sb (by omega) (gs.mono (by omega))) g0 gg.a (by omega) (S+10*T) (sb_rp ha) (by omega);rw[cp_ovr g0 gg.a]at d4
 change AC Tryz.prog 158 _ none [cp (wof (pv a))]at d4
 rw[wof_as e]at d4;have n1:¬(tz (pv a):Int)-1<0:=by omega
 refine AC.by_walk (rs:=[.tmp 2]) ords Tryz.func105 (by rfl) (by rfl) (by rfl) (by rfl) (by rfl) ?_;simp (disch:=omega) only[wt,seval,reduceCtorEq,Nat.reduceEqDiff];refine call_by (d1) (by first|rfl|(simp only[tocvs,tocv,toboxes,tobox,updH_at,Nat.reduceEqDiff,↓reduceIte,n1];rfl)) (by simp) ?_;simp (disch:=omega) only[wt,seval,reduceCtorEq,Nat.reduceEqDiff,n1];refine call_by (d2) (by rfl) (by simp) ?_;simp (disch:=omega) only[wt,seval,reduceCtorEq,Nat.reduceEqDiff];refine call_by (d3) (by rfl) (by simp) ?_;simp (disch:=omega) only[wt,seval,reduceCtorEq,Nat.reduceEqDiff];refine call_by (d4) (by rfl) (by simp) ?_;simp (disch:=omega) only[wt,seval,reduceCtorEq,Nat.reduceEqDiff]
 try rfl
end
theorem env_few {P:List Int}(p0:tz P≠0)(t:tz P<=10)(s:SBd 1048576 P):Env P 1048576 10 10:=by
 have hw:Dv (ovr P (gcdp P (pderiv P))) P:=(dv_l _ _).trans (ovr_as (gcdp_ne0 p0) (gcdp_gg P (pderiv P)).a).symm.dv;refine⟨p0,t,by omega,s,by omega,Nat.le_trans (dv_tz hw p0).2 t,by omega,λa ha e=>?_,λa b ha hb ta tb=>gcd_few a b (ha.mono (by omega) (by omega)) (hb.mono (by omega) (by omega)) ta tb⟩;have d:=sb_deriv ha (by omega);have td:=tz_deriv (d:=pv a);have ta:=as_tz e;have hp:PB 40 (1048576+10*10+1) (pderiv (pv a)):=d;have tt:tz (pderiv (pv a))<=10:=tz_le_of λk hk=>by rw[cf_pderiv,cf_ge_tz _ (by omega),Int.zero_mul]
 have g:=gcd_few a (cn (pderiv (pv a))) (ha.mono (by omega) (by omega)) (rp_sb (by omega) (SBd.mono (λi=>hp.cf i) (by omega))) (by omega) (by rw[tz_of_ps (ps_cn _)];exact tt);rwa [cp_ps (gcdp_as (.refl _) (.of_ps (ps_cn (pderiv (pv a)))))]at g
theorem env_kn {P D0:List Int}{S:Nat}(c:Com P D0 10)(t:tz P<=30)(s:SBd S P)(s':SBd S (pderiv P))(hS:S<=600):Env P S 30 11:=by
 have p0:tz P≠0:=by
  obtain⟨hD,E,G,e1,e2,e3,e4⟩:=c;rw[tz_of_ps (q:=pmul D0 E) (by rw[ps_pmul,e1]),tz_pmul hD e4];omega
 have hw:As P (pmul (ovr P (gcdp P (pderiv P))) (gcdp P (pderiv P))):=ovr_as (gcdp_ne0 p0) (gcdp_gg P (pderiv P)).a;have w0:=ovr_ne p0 (gcdp_ne0 p0) (gcdp_gg P (pderiv P)).a;have f:=frd_tz c p0;have tw:tz (ovr P (gcdp P (pderiv P)))=tz (frd P):=by
  have:=as_tz ((ovr_as (gcdp_ne0 p0) (gcdp_gg P (pderiv P)).a).symm.trans (.refl P));have e:=cp_ovr (gcdp_ne0 p0) (gcdp_gg P (pderiv P)).a;obtain⟨-,-,-,a,b,ha,hb,e2⟩:=frd_as p0;have hk:As (pmul (frd P) (gcdp P (pderiv P))) P:=⟨a,b,ha,hb,by rw[ps_pmul];exact e2⟩;have h1:=as_tz hk;have h2:=(tz_pm f.1 (gcdp_ne0 (B:=pderiv P) p0)).1;omega
 refine⟨p0,t,by omega,s,by omega,by rw[tw];exact f.2.1,by omega,λa ha e=>?_,λa b ha hb ta tb=>gcd_kn a b (ha.mono (by omega) (by omega)) (hb.mono (by omega) (by omega)) ta tb⟩;have d:=sb_deriv ha (by omega);have ta:=as_tz e;have tt:tz (pderiv (pv a))<=30:=tz_le_of λk hk=>by rw[cf_pderiv,cf_ge_tz _ (by omega),Int.zero_mul]
 have c0:=CN.start (S:=1000) c (s.mono (by omega)) (s'.mono (by omega));have g:=pgcd_c a (cn (pderiv (pv a))) (tz P) 1000 10 D0 (ha.mono (by omega) (by omega)) (rp_sb (by omega) (SBd.mono (λi=>d.cf i) (by omega))) (by omega) (by decide) (by
  rw[npr_as e,npr_eq (ps_cn (pderiv (pv a))),npr_as e.deriv];exact c0)
 rwa [cp_ps (gcdp_as (.refl _) (.of_ps (ps_cn (pderiv (pv a)))))]at g
end
end Go.Proofs.YtbnincgnfiaemaaGreat

namespace Go.Proofs.YtbnincgnfiaemaaGreat
open Go Go.Proofs Go.AL Go.RowKit
set_option linter.unusedSimpArgs false
set_option linter.unusedVariables false
section
variable {P:Program} {G:Gh} {M:Nat->Prop} {w0:World} {D0:Nat->Prop} {N:Nat} {f:Fr} {H:Hp} {β:Nat->Value} {a:Act} {w:World}
theorem op_value {o:Oper}{z:Value}{w2:World}{ro:Option Nat}{K:Act->World->Prop}{Q:Exit->Act->World->Prop}(h:(execOp a.eval o).run P w=.ok (.value z) w2)(hnd:∀c,o.op≠.defer c)(hK:K (a.put o.dst z) w2):o.wpIn (Wd ro) 0 P a w K Q:=by
 refine⟨λ_ _=>trivial,?_⟩;show o.uponIn (Wd ro) 0 P a K Q ((o.semAt ro a.eval).run P w);rw[semAt_of hnd,h];exact hK
theorem op_skip {o:Oper}{w2:World}{ro:Option Nat}{K:Act->World->Prop}{Q:Exit->Act->World->Prop}(h:(execOp a.eval o).run P w=.ok .skip w2)(hnd:∀c,o.op≠.defer c)(hK:K (a.put o.dst Go.undef) w2):o.wpIn (Wd ro) 0 P a w K Q:=by
 refine⟨λ_ _=>trivial,?_⟩;show o.uponIn (Wd ro) 0 P a K Q ((o.semAt ro a.eval).run P w);rw[semAt_of hnd,h];exact hK
def Heads (H:Hp)(β:Nat->Value)(g:Nat):Prop:=∃h,(H h).isMut/\headOf (β h)=some g
theorem _root_.Go.AL.Rel.heads (R:Rel G M w0 D0 N f H β a w){g:Nat}(h:Heads H β g):g<w.heap.size/\¬D0 g:=by
 obtain⟨k,hm,hk⟩:=h;obtain⟨h1,h2⟩:=R.mut_lt hm hk;refine⟨h1,λhd=>?_⟩;have h3:=R.old g hd;rcases h2 with h2|h2
 .omega
 .exact h3.2 h2
theorem _root_.Go.AL.Rel.rebase (R:Rel G M w0 D0 N f H β a w)(hr:G.rnd=true){w2:World}{D1:Nat->Prop}{d:Option Nat}{x:AV}{val:Value}(hsz:w.heap.size<=w2.heap.size)(hk:∀k,k<w.heap.size->¬D0 k->w2.heap[k]?=w.heap[k]?)
  (h01:∀b,D0 b->D1 b) (h1:∀b,D1 b->b<w2.heap.size/\(D0 b\/w.heap.size<=b)) (hx:AVRep w2 (DD H β D1) H β x val) (hd:∀k,d=some k->k<N):Rel G (Heads H β) w2 D1 N (updo f d x) H β (a.put d val) w2:=by
 have hdef:=R.rnd hr;have g:Grows w (DD H β D0) w2 (DD H β D1):=by
  refine⟨hsz,λb hb hD=>?_,λb hb hD _=>hk b hb λh=>hD (.inl h)⟩;rcases hD with hD|hD
  .rcases (h1 b hD).2 with h|h
   .exact .inl h
   .omega
  .exact .inr hD
 have same:∀h,(H h).isMut->∀k,headOf (β h)=some k->w2.heap[k]?=w.heap[k]?:=λh hm k hh=>by
  have:=R.heads ⟨h,hm,hh⟩;exact hk k this.1 this.2
 have ht:∀t,AVRep w2 (DD H β D1) H β (f t) (a.tmps.getD t Go.undef):=λt=>AVRep.mono g (HStep.refl _ _) _ _ (R.tmps t)
 refine⟨rfl,rfl,rfl,Nat.le_refl _,λ_ _ _=>rfl,λb hb=>⟨(h1 b hb).1,λhh=>?_⟩,?_,?_,λ_=>?_,?_,λx v hp=>AVRep.mono g (HStep.refl _ _) _ _ (R.gh x v hp),?_,?_,?_,R.dis,?_,λh B hh=>Nat.le_trans (R.mrk h B hh) hsz,λh x v hh=>AVRep.mono g (HStep.refl _ _) _ _ (R.tie h x v hh)⟩
 .have:=R.heads hh;rcases (h1 b hb).2 with h|h
  .exact this.2 h
  .omega
 .cases d<;>simp[Act.put,R.tsize]
 .rw[show (a.put d val).defers=a.defers by cases d<;>rfl,hdef];exact λd hd=>nomatch hd
 .rw[show (a.put d val).defers=a.defers by cases d<;>rfl,hdef]
 .rw[show (a.put d val).defers=a.defers by cases d<;>rfl];exact R.ndup
 .intro t;cases d with
  |none=>exact ht t
  |some d =>
   have hdN:=hd d rfl;by_cases e:t=d
   .subst e;have:(a.put (some t) val).tmps.getD t Go.undef=val:=by simp[Act.put,R.tsize,hdN]
    rw[this];simpa [updo,upd] using hx
   .have:(a.put (some d) val).tmps.getD t Go.undef=a.tmps.getD t Go.undef:=by simp[Act.put,Array.getElem?_setIfInBounds_ne (Ne.symm e)]
    rw[this];simpa [updo,upd,e] using ht t
 .intro h st e sz rows hh;have hm:(H h).isMut:=by rw[hh];trivial
  have ho:=(R.own h st e sz rows hh).mono g (same h hm);refine⟨ho.1,?_⟩;rcases ho.2 with hn|⟨k,cap,cur,hv,hB,hr⟩
  .exact .inl hn
  .exact .inr ⟨k,cap,cur,hv,.inr ⟨h,hm,by rw[hv];rfl⟩,hr⟩
 .intro h st e sz rows hh;exact⟨(R.frz h st e sz rows hh).1,(R.frz h st e sz rows hh).2.1.mono g,(R.frz h st e sz rows hh).2.2⟩
 .intro h st e rows hh;have hm:(H h).isMut:=by rw[hh];trivial
  rcases (R.nst h st e rows hh).mono g (HStep.refl _ _) (same h hm) with hn|⟨k,cap,cur,hv,hB,hr⟩
  .exact .inl hn
  .exact .inr ⟨k,cap,cur,hv,.inr ⟨h,hm,by rw[hv];rfl⟩,hr⟩
def OnlyQ (J:Fr->Hp->Prop):Post
 |.normal,f,H=>J f H
 |_,_,_=>False
theorem seq_aw (hm:P.follows .mixedOrders=true){x y:Code}{J:Fr->Hp->Prop}{Q:Exit->Act->World->Prop}(hd:codeOk N x=true)(nx:noRange x=true)(R:Rel G M w0 D0 N f H β a w)(h:AW P x (OnlyQ J) f H)
  (k:∀f H β a w,J f H->Rel G M w0 D0 N f H β a w->y.wpIn (Wd none) 0 P Q a w):(Code.seq x y).wpIn (Wd none) 0 P Q a w:=by
 refine wpIn_seq (wpIn_mono (aw_sound hm x none G M w0 _ f H β a w (.inl nx) hd h R) λe a w hq=>?_);cases e with
 |normal=>obtain⟨f,H,β,hk,R⟩:=hq;exact k f H β a w hk R
 |panic _=>exact hq.elim
 |outgrown=>exact hq.elim
 |exit _=>obtain⟨f,H,β,hk,R⟩:=hq;exact hk.elim
 |ret=>obtain⟨f,H,β,hk,R⟩:=hq;exact hk.elim
 |goto _=>obtain⟨f,H,β,hk,R⟩:=hq;exact hk.elim
theorem last_aw (hm:P.follows .mixedOrders=true){x:Code}{J:Fr->Hp->Prop}{Q:Exit->Act->World->Prop}(hd:codeOk N x=true)(nx:noRange x=true)(R:Rel G M w0 D0 N f H β a w)(h:AW P x (OnlyQ J) f H)
  (k:∀f H β a w,J f H->Rel G M w0 D0 N f H β a w->Q .normal a w):x.wpIn (Wd none) 0 P Q a w:=by
 refine wpIn_mono (aw_sound hm x none G M w0 _ f H β a w (.inl nx) hd h R) λe a w hq=>?_;cases e with
 |normal=>obtain⟨f,H,β,hk,R⟩:=hq;exact k f H β a w hk R
 |panic _=>exact hq.elim
 |outgrown=>exact hq.elim
 |exit _=>obtain⟨f,H,β,hk,R⟩:=hq;exact hk.elim
 |ret=>obtain⟨f,H,β,hk,R⟩:=hq;exact hk.elim
 |goto _=>obtain⟨f,H,β,hk,R⟩:=hq;exact hk.elim
theorem calls_of_body {g : Nat} {vs : List Value} {R : Value → World → Prop} {fn : Func} {body : Code} (hf : P.funcs[g]? = some fn) (hb : fn.body = some body) (hn : (fn.name == "runtime.NumGoroutine") = false)
  (h:body.wpIn (Wd none) 0 P (λe a w'=>(e=.normal\/e=.ret)/\a.defers=[]/\∃us,(fn.results.toList.mapM (rvS a.tmps)).run P w'=.ok us w'/\R (packV us) w') { tmps:=vs.toArray++Array.replicate (fn.ntmps-vs.toArray.size) Go.undef,defers:=[] } w):CallsR P g vs w R:=by
 refine .inl ⟨fn,hf,hn,by rw[hb];rfl,callsIn_wide.1 (callsIn_of_wp_marks (n:=0) (F:=Fence.wide) hf hb trivial ?_)⟩;refine wpIn_mono h λe a w' hq=>?_;obtain⟨he,hd,us,hr,hR⟩:=hq;have fin:LeavesInM Fence.wide 0 P fn a.tmps (λe w'=>∃v,e=.returned v/\R v w') a.defers .returning w':=by
  rw[hd];exact⟨_,results_run (a:=a) hr,_,rfl,hR⟩
 rcases he with rfl|rfl
 .exact fin
 .exact fin
theorem rel_start {D:Nat->Prop}{vs:List Value}{args:List CV}{n:Nat}(hD:∀b,D b->b<w.heap.size)(hvs:CVReps w D args vs)(hn:args.length<=n):Rel ⟨λ_ _=>False,true⟩ (λ_=>False) w D n (initF args) initH (λ_=>default) { tmps:=vs.toArray++Array.replicate (n-vs.toArray.size) Go.undef,defers:=[] } w:=by
 have hlen:=hvs.length;have hcv:∀(cvs:List CV) (us:List Value),CVReps w D cvs us->∀t,AVRep w (DD initH (λ_=>default) D) initH (λ_=>default) (initF cvs t) ((us[t]?).getD Go.undef):=by
  intro cvs us hu t;have hDD:∀b,DD initH (λ_=>default) D b->D b:=by
   intro b hb;rcases hb with hb|⟨k,hm,_⟩
   .exact hb
   .exact hm.elim
  induction cvs generalizing us t with
  |nil =>
   match us,hu with
   |[],_=>simp[initF,AVRep]
  |cons c cs ih =>
   match us,hu with
   |u::us,hu =>
    cases t with
    |zero=>simp only[initF,List.map_cons,List.getElem?_cons_zero,Option.getD_some];exact(hu.1.mono (Grows.of_sub hDD)).av
    |succ t=>simpa only[initF,List.map_cons,List.getElem?_cons_succ] using ih us hu.2 t
 refine⟨rfl,rfl,rfl,Nat.le_refl _,λ_ _ _=>rfl,λb hb=>⟨hD b hb,λh=>h⟩,by simp;omega,λd hd=>(by cases hd),λ_=>rfl,List.nodup_nil,λ_ _ h=>h.elim,λt=>?_,λh st e sz rows hh=>(by cases hh),λh st e sz rows hh=>(by cases hh),λh h' _ hm=>hm.elim,λh st e rows hh=>(by cases hh),λh B hh=>(by cases hh),λh x v hh=>(by cases hh)⟩;have e:(vs.toArray++Array.replicate (n-vs.toArray.size) Go.undef).getD t Go.undef=(vs[t]?).getD Go.undef:=by
  rw[Array.getD_eq_getD_getElem?,Array.getElem?_append];split
  .simp
  .rename_i ht;simp only[List.size_toArray,Nat.not_lt]at ht;rw[List.getElem?_eq_none ht];simp only[Array.getElem?_replicate];split<;>rfl
 rw[e];exact hcv args vs hvs t
def Pin (wA:World)(D:Nat->Prop)(N:Nat)(pins:List (Nat×Obj))(gs:List (AV×Value))(f:Fr)(H:Hp)(β:Nat->Value)(a:Act)(w:World):Prop :=
 ∃(G:Gh) (M:Nat->Prop) (w0:World) (D0:Nat->Prop),G.rnd=true/\Rel G M w0 D0 N f H β a w/\(∀k,D k->D0 k)/\Below wA.heap.size wA w0/\(∀k,M k->wA.heap.size<=k)/\(∀p∈pins,D0 p.1/\w0.heap[p.1]?=some p.2/\wA.heap.size<=p.1)/\∀g∈gs,G.vals g.1 g.2
section
variable {wA:World} {D:Nat->Prop} {pins:List (Nat×Obj)} {gs:List (AV×Value)}
theorem Pin.start {vs:List Value}{args:List CV}{n:Nat}(hD:∀b,D b->b<wA.heap.size)(hvs:CVReps wA D args vs)(hn:args.length<=n):Pin wA D n [] [] (initF args) initH (λ_=>default) { tmps:=vs.toArray++Array.replicate (n-vs.toArray.size) Go.undef,defers:=[] } wA :=
 ⟨_,_,_,_,rfl,rel_start hD hvs hn,λ_ h=>h,Below.refl _ _,λ_ h=>h.elim,λ_ h=>(by cases h),λ_ h=>(by cases h)⟩
theorem Pin.obj (p:Pin wA D N pins gs f H β a w){b:Nat}{o:Obj}(hb:(b,o)∈pins):w.heap[b]?=some o:=by
 obtain⟨G,M,w0,D0,hr,R,hD,hB,hM,hp,hg⟩:=p;obtain⟨h1,h2,_⟩:=hp _ hb;have h3:=R.old _ h1;exact(R.keep _ h3.1 h3.2).trans h2
theorem Pin.seq (hm:P.follows .mixedOrders=true){x y:Code}{J:Fr->Hp->Prop}{Q:Exit->Act->World->Prop}(hd:codeOk N x=true)(nx:noRange x=true)(p:Pin wA D N pins gs f H β a w)(h:AW P x (OnlyQ J) f H)
  (k:∀f H β a w,J f H->Pin wA D N pins gs f H β a w->y.wpIn (Wd none) 0 P Q a w):(Code.seq x y).wpIn (Wd none) 0 P Q a w:=by
 obtain⟨G,M,w0,D0,hr,R,hD,hB,hM,hp,hg⟩:=p;exact seq_aw hm hd nx R h λf H β a w hk R=>k f H β a w hk ⟨G,M,w0,D0,hr,R,hD,hB,hM,hp,hg⟩
theorem Pin.last (hm:P.follows .mixedOrders=true){x:Code}{J:Fr->Hp->Prop}{Q:Exit->Act->World->Prop}(hd:codeOk N x=true)(nx:noRange x=true)(p:Pin wA D N pins gs f H β a w)(h:AW P x (OnlyQ J) f H)
  (k:∀f H β a w,J f H->Pin wA D N pins gs f H β a w->Q .normal a w):x.wpIn (Wd none) 0 P Q a w:=by
 obtain⟨G,M,w0,D0,hr,R,hD,hB,hM,hp,hg⟩:=p;exact last_aw hm hd nx R h λf H β a w hk R=>k f H β a w hk ⟨G,M,w0,D0,hr,R,hD,hB,hM,hp,hg⟩
theorem Pin.ops {ro:Option Nat}{ops:Array Oper}{rest2:List Oper}{K:Fr->Hp->Log->Prop}{Q:Exit->Act->World->Prop}(rest:List Oper)(hd:∀o∈rest,∀d,o.dst=some d->d<N)(p:Pin wA D N pins gs f H β a w)(h:AOps P (dsts ops) rest K f H [])
  (k:∀f H lg β a w,K f H lg->Pin wA D N pins gs f H β a w->wpListIn (Wd ro) 0 P ops Q rest2 a w):wpListIn (Wd ro) 0 P ops Q (rest++rest2) a w:=by
 obtain⟨G,M,w0,D0,hr,R,hD,hB,hM,hp,hg⟩:=p;exact aops_pre (λf H lg β a w hk R=>k f H lg β a w hk ⟨G,M,w0,D0,hr,R,hD,hB,hM,hp,hg⟩) rest f H [] β a w hd h R
theorem pin_turn {G:Gh}{M:Nat->Prop}{w0:World}{D0:Nat->Prop}(hr:G.rnd=true)(R:Rel G M w0 D0 N f H β a w)(hD:∀k,D k->D0 k)(hB:Below wA.heap.size wA w0)(hM:∀k,M k->wA.heap.size<=k)(hp:∀p∈pins,D0 p.1/\w0.heap[p.1]?=some p.2/\wA.heap.size<=p.1)
  {w2:World} {pins2:List (Nat×Obj)} {gs2:List (AV×Value)} {d:Option Nat} {x:AV} {val:Value} (ho:w2.os=w.os) (ht:w2.tape=w.tape) (hu:w2.output=w.output) (hsz:w.heap.size<=w2.heap.size)
  (hk:∀k,k<w.heap.size->(∀o,(k,o)∉pins)->w2.heap[k]?=w.heap[k]?) (h2:∀q∈pins2,w2.heap[q.1]?=some q.2/\((∃o,(q.1,o)∈pins)\/w.heap.size<=q.1))
  (hv:∀(D':Nat->Prop),(∀k,D' k->DD H β D0 k\/∃o,(k,o)∈pins2)->Grows w (DD H β D0) w2 D'->AVRep w2 D' H β x val/\∀g∈gs2,AVRep w2 D' H β g.1 g.2)
  (hd:∀k,d=some k->k<N):Pin wA D N pins2 gs2 (updo f d x) H β (a.put d val) w2:=by
 have hD1:∀b,(D0 b\/(w.heap.size<=b/\∃o,(b,o)∈pins2))->b<w2.heap.size/\(D0 b\/w.heap.size<=b):=by
  rintro b (hb|⟨hb,o,ho⟩)
  .have:=(R.old b hb).1;have:=R.size;exact⟨by omega,.inl hb⟩
  .obtain⟨h3,_⟩:=h2 _ ho;exact⟨(Array.getElem?_eq_some_iff.1 h3).1,.inr hb⟩
 have hk':∀k,k<w.heap.size->¬D0 k->w2.heap[k]?=w.heap[k]?:=λk hk1 hk2=>hk k hk1 λo ho=>hk2 (hp _ ho).1
 have g:Grows w (DD H β D0) w2 (DD H β λb=>D0 b\/(w.heap.size<=b/\∃o,(b,o)∈pins2)):=by
  refine⟨hsz,λb hb hD=>?_,λb hb hD _=>hk' b hb λh=>hD (.inl h)⟩;rcases hD with hD|hD
  .rcases (hD1 b hD).2 with h|h
   .exact .inl h
   .omega
  .exact .inr hD
 obtain⟨hx,hgs⟩:=hv _ (λk hk=>by
  rcases hk with (hk|⟨_,hk⟩)|hk
  .exact .inl (.inl hk)
  .exact .inr hk
  .exact .inl (.inr hk)) g
 have R2:=R.rebase hr hsz hk' (λb h=>.inl h) hD1 hx hd;have hs0:=hB.size;refine⟨⟨λx v=>(x,v)∈gs2,true⟩,Heads H β,w2,_,rfl,⟨R2.os,R2.tape,R2.output,R2.size,R2.keep,R2.old,R2.tsize,R2.defers,λ_=>R2.rnd hr,R2.ndup,λx v hxv=>hgs _ hxv,R2.tmps,R2.own,R2.frz,R2.dis,R2.nst,R2.mrk,R2.tie⟩,λk h=>.inl (hD k h),⟨ho.trans (R.os.trans hB.os),ht.trans (R.tape.trans hB.tape),hu.trans (R.output.trans hB.output),Nat.le_trans hs0 (Nat.le_trans R.size hsz),λk hkk=>?_⟩,λk hh=>?_,λq hq=>?_,λg hg=>hg⟩
 .have hk0:k<w0.heap.size:=by omega
  have hkw:k<w.heap.size:=Nat.lt_of_lt_of_le hk0 R.size;rw[hk k hkw λo ho'=>by have:=(hp _ ho').2.2;simp only at this;omega,R.keep k hk0 λh=>by have:=hM k h;omega];exact hB.block k hkk
 .obtain⟨h1,hm,hk1⟩:=hh;rcases (R.mut_lt hm hk1).2 with h|h
  .omega
  .exact hM k h
 .obtain⟨h3,h4⟩:=h2 q hq;refine⟨?_,h3,?_⟩
  .rcases h4 with ⟨o,h4⟩|h4
   .exact .inl (hp _ h4).1
   .exact .inr ⟨h4,q.2,hq⟩
  .rcases h4 with ⟨o,h4⟩|h4
   .exact(hp _ h4).2.2
   .have:=R.size;omega
theorem Pin.turn (p:Pin wA D N pins gs f H β a w){w2:World}{pins2:List (Nat×Obj)}{gs2:List (AV×Value)}{d:Option Nat}{x:AV}{val:Value}(ho:w2.os=w.os)(ht:w2.tape=w.tape)(hu:w2.output=w.output)(hsz:w.heap.size<=w2.heap.size)
  (hk:∀k,k<w.heap.size->(∀o,(k,o)∉pins)->w2.heap[k]?=w.heap[k]?) (h2:∀q∈pins2,w2.heap[q.1]?=some q.2/\((∃o,(q.1,o)∈pins)\/w.heap.size<=q.1))
  (hv:∀(D':Nat->Prop),(∀g∈gs,AVRep w2 D' H β g.1 g.2)->(∀x,AVRep w2 D' H β (AL.ev f x) (a.eval x))->AVRep w2 D' H β x val/\∀g∈gs2,AVRep w2 D' H β g.1 g.2)
  (hd:∀k,d=some k->k<N):Pin wA D N pins2 gs2 (updo f d x) H β (a.put d val) w2:=by
 obtain⟨G,M,w0,D0,hr,R,hD,hB,hM,hp,hg⟩:=p;exact pin_turn hr R hD hB hM hp ho ht hu hsz hk h2 (λD' _ g=>hv D' (λq hq=>AVRep.mono g (HStep.refl _ _) _ _ (R.gh q.1 q.2 (hg q hq))) (λy=>AVRep.mono g (HStep.refl _ _) _ _ (R.ev y))) hd
end
end
end Go.Proofs.YtbnincgnfiaemaaGreat

namespace Go.Proofs.YtbnincgnfiaemaaGreat
open Go Go.Proofs Go.AL Go.RowKit
open Go.ChangeMaps (setBlock)
set_option linter.unusedSimpArgs false
set_option linter.unusedVariables false
section
variable {P:Program} {ρ:Operand->Value} {o:Oper} {w:World}
theorem exec_makeMap {t:TypeId}(ho:o.op=.makeMap t none):(execOp ρ o).run P w=.ok (.value (.map (some w.heap.size))) (w.alloc (.map #[] 0)):=by
 simp[execOp,ho,Instr.makeMap,Result.andThen]
theorem exec_update {t kt et:TypeId}{m k x:Operand}{b clock:Nat}{es:Array MapEntry}{n:Int}{v:Value}(ho:o.op=.mapUpdate t m k x)(hm:ρ m=.map (some b))(hk:ρ k=.int .i64 n)(hx:ρ x=v)(hb:w.heap[b]?=some (.map es clock))(ht:P.underlying t=some (.map kt et))(hkt:P.underlying kt=some (.int .i64))(hnew:∀e∈es.toList,∃m,e.key=.int .i64 m/\m≠n) :
  (execOp ρ o).run P w=.ok .skip (setBlock w b (.map (es.push ⟨.int .i64 n,v,clock⟩) (clock+1))):=by
 have h1:MapKept.IsKey (.int .i64) (.int .i64 n):=by simp[MapKept.IsKey]
 have h2:Instr.findNow (.int .i64) (.int .i64 n) es.toList 0=some none:=by
  rcases MapKept.findNow_spec h1 es.toList 0 (λe he=>by obtain⟨m,hm,_⟩:=hnew e he;rw[hm];simp[MapKept.IsKey]) with h|⟨j,e,_,h,hk⟩
  .exact h.1
  .obtain⟨m,hm,hne⟩:=hnew e (List.mem_of_getElem? h);rw[hm]at hk;cases hk;exact(hne rfl).elim
 simp[execOp,ho,hm,hk,hx,Instr.mapUpdate,run_underlying ht,MapKept.run_getObj_map hb,MapKept.run_checkKey hkt h1,MapKept.run_findKey hkt h2,MapKept.run_setObj_map _ hb,Result.andThen,setBlock]
theorem exec_range {t kt et:TypeId}{x:Operand}{b clock:Nat}{es:Array MapEntry}(ho:o.op=.range t x)(hm:ρ x=.map (some b))(hb:w.heap[b]?=some (.map es clock))(ht:P.underlying t=some (.map kt et)) :
  (execOp ρ o).run P w=.ok (.value (.pointer (some ⟨w.heap.size,0,none⟩))) (w.alloc (.mapIter (some b) clock #[] clock)):=by
 simp[execOp,ho,hm,Instr.range,run_underlying ht,MapKept.run_getObj_map hb,Result.andThen]
theorem exec_next {x:Operand}{r bm since c0 clock:Nat}{seen:Array Nat}{es:Array MapEntry}(ho:o.op=.next x false)(hx:ρ x=.pointer (some ⟨r,0,none⟩))
  (hr:w.heap[r]?=some (.mapIter (some bm) since seen c0)) (hb:w.heap[bm]?=some (.map es clock)) (hold:∀x∈es.toList,x.born<since) (hsc:since<=c0) :
  ((leftOf es seen).size=0/\(execOp ρ o).run P w=.ok (.value (.tuple #[.bool false])) w) \/
  ∃e∈(leftOf es seen).toList,∃w1:World,(w1=w\/w1=w.drew)/\(execOp ρ o).run P w=.ok (.value (.tuple #[.bool true,e.key,e.val])) (setBlock w1 r (.mapIter (some bm) since (seen.push e.born) clock)):=by
 rcases run_next_at (P:=P) w o.type r bm since c0 seen es clock hr hb hold hsc with ⟨h1,h2⟩|⟨e,he,w1,hw,h2⟩
 .exact .inl ⟨h1,by simp[execOp,ho,hx,h2,Result.andThen]⟩
 .exact .inr ⟨e,he,w1,hw,by simp[execOp,ho,hx,h2,Result.andThen]⟩
theorem exec_entry {x:Operand}{r bm since clock:Nat}{seen:Array Nat}{es:Array MapEntry}{e:MapEntry}(ho:o.op=.entry x)(hx:ρ x=.pointer (some ⟨r,0,none⟩))
  (hr:w.heap[r]?=some (.mapIter (some bm) since (seen.push e.born) clock)) (hb:w.heap[bm]?=some (.map es clock)) (he:e∈es.toList) (hn:(es.toList.map (·.born)).Nodup) :
  (execOp ρ o).run P w=.ok (.value (.tuple #[e.key,e.val])) w:=by
 simp[execOp,ho,hx,run_entry_at (P:=P) w r bm since seen es clock e hr hb he hn,Result.andThen]
end
end Go.Proofs.YtbnincgnfiaemaaGreat

namespace Go.Proofs.YtbnincgnfiaemaaGreat
open Go Go.Proofs Go.AL Go.RowKit
open Go.ChangeMaps (setBlock)
set_option linter.unusedSimpArgs false
set_option linter.unusedVariables false
section
variable {P:Program} {wA:World} {D:Nat->Prop} {N:Nat} {f:Fr} {H:Hp} {β:Nat->Value} {a:Act} {w:World} {ro:Option Nat} {ops:Array Oper} {rest:List Oper} {Q:Exit->Act->World->Prop} {gs:List (AV×Value)} {o:Oper}
theorem raw_rep {D':Nat->Prop}{v:Value}(h:v.oneCell'=true):AVRep w D' H β (.iv (.raw v)) v:=by
 simp only[AVRep];exact .raw v h
theorem sb_at {b:Nat}{x y:Obj}(h:w.heap[b]?=some x):(setBlock w b y).heap[b]?=some y:=by
 have:=(Array.getElem?_eq_some_iff.1 h).1;simp[setBlock,this]
theorem sb_ne {b k:Nat}{y:Obj}(h:k≠b):(setBlock w b y).heap[k]?=w.heap[k]?:=by
 simp[setBlock,Ne.symm h]
theorem sb_size {b:Nat}{y:Obj}:(setBlock w b y).heap.size=w.heap.size:=by simp[setBlock]
theorem al_size {y:Obj}:(w.alloc y).heap.size=w.heap.size+1:=Array.size_push _
theorem al_at {y:Obj}:(w.alloc y).heap[w.heap.size]?=some y:=(MapKept.heap_alloc w y).1
theorem al_lt {y:Obj}{k:Nat}(h:k<w.heap.size):(w.alloc y).heap[k]?=w.heap[k]?:=(MapKept.heap_alloc w y).2 k h
theorem Pin.makeMap {t d:Nat}(p:Pin wA D N [] gs f H β a w)(hg:o.guard=none)(ho:o.op=.makeMap t none)(hd:o.dst=some d)(hN:d<N)
  (k:∀b a w,Pin wA D N [(b,.map #[] 0)] gs (upd f d (.iv (.raw (.map (some b))))) H β a w->wpListIn (Wd ro) 0 P ops Q rest a w):wpListIn (Wd ro) 0 P ops Q (o::rest) a w:=by
 refine list_one hg (op_value (exec_makeMap ho) (by rw[ho];intro c h;cases h) ?_);rw[hd];refine k w.heap.size _ _ (Pin.turn (d:=some d) p rfl rfl rfl (by rw[al_size];omega) (λk hk _=>al_lt hk) (λq hq=>?_) (λD' hgs _=>⟨raw_rep rfl,hgs⟩) (λk hk=>by cases hk;exact hN));cases List.mem_singleton.1 hq;exact⟨al_at,.inr (Nat.le_refl _)⟩
theorem Pin.update {t kt et:TypeId}{m k x:Operand}{b clock:Nat}{es:Array MapEntry}{n:Int}{X:AV}(p:Pin wA D N [(b,.map es clock)] gs f H β a w)(hg:o.guard=none)(ho:o.op=.mapUpdate t m k x)(hd:o.dst=none)
  (hm:AL.ev f m=.iv (.raw (.map (some b)))) (hk:AL.ev f k=.iv (.int .i64 n)) (hx:AL.ev f x=X) (ht:P.underlying t=some (.map kt et)) (hkt:P.underlying kt=some (.int .i64)) (hnew:∀e∈es.toList,∃m,e.key=.int .i64 m/\m≠n)
  (kk:∀v a w,Pin wA D N [(b,.map (es.push ⟨.int .i64 n,v,clock⟩) (clock+1))] ((X,v)::gs) f H β a w->wpListIn (Wd ro) 0 P ops Q rest a w):wpListIn (Wd ro) 0 P ops Q (o::rest) a w:=by
 have hb:=p.obj (List.mem_singleton.2 rfl);have hev:∀y,∃D',AVRep w D' H β (AL.ev f y) (a.eval y):=λy=>by
  obtain⟨G,M,w0,D0,hr,R,_⟩:=p;exact⟨_,R.ev y⟩
 have em:a.eval m=.map (some b):=by
  obtain⟨D',h⟩:=hev m;rw[hm]at h;simp only[AVRep]at h;generalize hv:a.eval m=v at h;cases h;rfl
 have ek:a.eval k=.int .i64 n:=by
  obtain⟨D',h⟩:=hev k;rw[hk]at h;simp only[AVRep]at h;generalize hv:a.eval k=v at h;cases h;rfl
 refine list_one hg (op_skip (exec_update ho em ek rfl hb ht hkt hnew) (by rw[ho];intro c h;cases h) ?_);rw[hd];refine kk (a.eval x) _ _ (Pin.turn (d:=none) (x:=.undef) (val:=Go.undef) p rfl rfl rfl (by rw[sb_size];exact Nat.le_refl _) (λk _ h=>sb_ne λe=>h (.map es clock) (by simp[e])) (λq hq=>?_) (λD' hgs hev'=>⟨by simp[AVRep],λg hg=>?_⟩) (λk hk=>nomatch hk))
 .cases List.mem_singleton.1 hq;exact⟨sb_at hb,.inl ⟨_,List.mem_singleton.2 rfl⟩⟩
 .rcases List.mem_cons.1 hg with rfl|hg
  .have:=hev' x;rwa [hx]at this
  .exact hgs g hg
theorem Pin.range {t kt et:TypeId}{x:Operand}{b d clock:Nat}{es:Array MapEntry}(p:Pin wA D N [(b,.map es clock)] gs f H β a w)(hg:o.guard=none)(ho:o.op=.range t x)(hd:o.dst=some d)(hN:d<N)
  (hm:AL.ev f x=.iv (.raw (.map (some b)))) (ht:P.underlying t=some (.map kt et))
  (kk:∀r a w,r≠b->Pin wA D N [(b,.map es clock),(r,.mapIter (some b) clock #[] clock)] gs (upd f d (.iv (.raw (.pointer (some ⟨r,0,none⟩))))) H β a w->wpListIn (Wd ro) 0 P ops Q rest a w):wpListIn (Wd ro) 0 P ops Q (o::rest) a w:=by
 have hb:=p.obj (List.mem_singleton.2 rfl);have hlt:=(Array.getElem?_eq_some_iff.1 hb).1;have em:a.eval x=.map (some b):=by
  obtain⟨G,M,w0,D0,hr,R,_⟩:=p;have h:=R.ev x;rw[hm]at h;simp only[AVRep]at h;generalize hv:a.eval x=v at h;cases h;rfl
 refine list_one hg (op_value (exec_range ho em hb ht) (by rw[ho];intro c h;cases h) ?_);rw[hd];refine kk w.heap.size _ _ (by omega) (Pin.turn (d:=some d) p rfl rfl rfl (by rw[al_size];omega) (λk hk _=>al_lt hk) (λq hq=>?_) (λD' hgs _=>⟨raw_rep rfl,hgs⟩) (λk hk=>by cases hk;exact hN));simp only[List.mem_cons,List.mem_singleton,List.not_mem_nil,or_false]at hq;rcases hq with rfl|rfl
 .exact⟨(al_lt hlt).trans hb,.inl ⟨_,List.mem_singleton.2 rfl⟩⟩
 .exact⟨al_at,.inr (Nat.le_refl _)⟩
theorem Pin.next {x:Operand}{b r d since c0 clock:Nat}{seen:Array Nat}{es:Array MapEntry}(p:Pin wA D N [(b,.map es clock),(r,.mapIter (some b) since seen c0)] gs f H β a w)(hrb:r≠b)(hg:o.guard=none)(ho:o.op=.next x false)(hd:o.dst=some d)(hN:d<N)
  (hx:AL.ev f x=.iv (.raw (.pointer (some ⟨r,0,none⟩)))) (hold:∀x∈es.toList,x.born<since) (hsc:since<=c0)
  (k0:∀a w,(leftOf es seen).size=0->Pin wA D N [(b,.map es clock),(r,.mapIter (some b) since seen c0)] gs (upd f d (.tup [.iv (.bool false)])) H β a w->wpListIn (Wd ro) 0 P ops Q rest a w)
  (k1:∀e a w,e∈(leftOf es seen).toList->Pin wA D N [(b,.map es clock),(r,.mapIter (some b) since (seen.push e.born) clock)] gs (upd f d (.tup [.iv (.bool true),.dead,.dead])) H β a w->wpListIn (Wd ro) 0 P ops Q rest a w):wpListIn (Wd ro) 0 P ops Q (o::rest) a w:=by
 have hb:w.heap[b]?=some (.map es clock):=p.obj (by simp);have hr:w.heap[r]?=some (.mapIter (some b) since seen c0):=p.obj (by simp);have em:a.eval x=.pointer (some ⟨r,0,none⟩):=by
  obtain⟨G,M,w0,D0,hr,R,_⟩:=p;have h:=R.ev x;rw[hx]at h;simp only[AVRep]at h;generalize hv:a.eval x=v at h;cases h;rfl
 rcases exec_next (P:=P) ho em hr hb hold hsc with ⟨h1,h2⟩|⟨e,he,w1,hw,h2⟩
 .refine list_one hg (op_value h2 (by rw[ho];intro c h;cases h) ?_);rw[hd];refine k0 _ _ h1 (Pin.turn (d:=some d) p rfl rfl rfl (Nat.le_refl _) (λ_ _ _=>rfl) (λq hq=>⟨p.obj hq,.inl ⟨_,hq⟩⟩) (λD' hgs _=>⟨?_,hgs⟩) (λk hk=>by cases hk;exact hN));simp only[AVRep];exact⟨_,rfl,.bool _,trivial⟩
 .refine list_one hg (op_value h2 (by rw[ho];intro c h;cases h) ?_);rw[hd];have hh:w1.heap=w.heap/\w1.os=w.os/\w1.tape=w.tape/\w1.output=w.output:=by
   rcases hw with rfl|rfl
   .exact⟨rfl,rfl,rfl,rfl⟩
   .exact⟨rfl,rfl,rfl,rfl⟩
  obtain⟨hh,ho',ht',hu'⟩:=hh;have hr1:w1.heap[r]?=some (.mapIter (some b) since seen c0):=by rw[hh];exact hr
  refine k1 e _ _ he (Pin.turn (d:=some d) p ho' ht' hu' (by rw[sb_size,hh];exact Nat.le_refl _) (λk _ h=>?_) (λq hq=>?_) (λD' hgs _=>⟨?_,hgs⟩) (λk hk=>by cases hk;exact hN))
  .rw[sb_ne λe=>h (.mapIter (some b) since seen c0) (by simp[e]),hh]
  .simp only[List.mem_cons,List.mem_singleton,List.not_mem_nil,or_false]at hq;rcases hq with rfl|rfl
   .exact⟨by rw[sb_ne (Ne.symm hrb),hh];exact hb,.inl ⟨.map es clock,by simp⟩⟩
   .exact⟨sb_at hr1,.inl ⟨.mapIter (some b) since seen c0,by simp⟩⟩
  .simp only[AVRep];exact⟨_,rfl,.bool _,by simp[AVRep],by simp[AVRep],trivial⟩
theorem Pin.entry {x:Operand}{b r d since clock:Nat}{seen:Array Nat}{es:Array MapEntry}{e:MapEntry}{n:Int}{X:AV}(p:Pin wA D N [(b,.map es clock),(r,.mapIter (some b) since (seen.push e.born) clock)] gs f H β a w)(hg:o.guard=none)(ho:o.op=.entry x)(hd:o.dst=some d)(hN:d<N)
  (hx:AL.ev f x=.iv (.raw (.pointer (some ⟨r,0,none⟩)))) (he:e∈es.toList) (hn:(es.toList.map (·.born)).Nodup) (hkey:e.key=.int .i64 n) (hval:(X,e.val)∈gs)
  (k:∀a w,Pin wA D N [(b,.map es clock),(r,.mapIter (some b) since (seen.push e.born) clock)] gs (upd f d (.tup [.iv (.int .i64 n),X])) H β a w->wpListIn (Wd ro) 0 P ops Q rest a w):wpListIn (Wd ro) 0 P ops Q (o::rest) a w:=by
 have hb:w.heap[b]?=some (.map es clock):=p.obj (by simp);have hr:w.heap[r]?=some (.mapIter (some b) since (seen.push e.born) clock):=p.obj (by simp);have em:a.eval x=.pointer (some ⟨r,0,none⟩):=by
  obtain⟨G,M,w0,D0,hr,R,_⟩:=p;have h:=R.ev x;rw[hx]at h;simp only[AVRep]at h;generalize hv:a.eval x=v at h;cases h;rfl
 refine list_one hg (op_value (exec_entry ho em hr hb he hn) (by rw[ho];intro c h;cases h) ?_);rw[hd,hkey];refine k _ _ (Pin.turn (d:=some d) p rfl rfl rfl (Nat.le_refl _) (λ_ _ _=>rfl) (λq hq=>⟨p.obj hq,.inl ⟨_,hq⟩⟩) (λD' hgs _=>⟨?_,hgs⟩) (λk hk=>by cases hk;exact hN));have:=hgs _ hval;simp only[AVRep];exact⟨_,rfl,.int _ _,this,trivial⟩
theorem Pin.opsAll {pins:List (Nat×Obj)}{l:List Oper}{K:Fr->Hp->Log->Prop}(hd:∀o∈rest,∀d,o.dst=some d->d<N)(p:Pin wA D N pins gs f H β a w)(h:AOps P (l.map (·.dst)) rest K f H [])
  (k:∀f H lg β a w,K f H lg->Pin wA D N pins gs f H β a w->Q .normal a w):wpListIn (Wd ro) 0 P l.toArray Q rest a w:=by
 have:=Pin.ops (ro:=ro) (ops:=l.toArray) (rest2:=[]) (Q:=Q) rest hd p h k;rwa [List.append_nil]at this
theorem Pin.opsN {pins:List (Nat×Obj)}{l l1 l2:List Oper}{K:Fr->Hp->Log->Prop}(hl:rest=l1++l2)(hd:∀o∈l1,∀d,o.dst=some d->d<N)(p:Pin wA D N pins gs f H β a w)(h:AOps P (l.map (·.dst)) l1 K f H [])
  (k:∀f H lg β a w,K f H lg->Pin wA D N pins gs f H β a w->wpListIn (Wd ro) 0 P l.toArray Q l2 a w):wpListIn (Wd ro) 0 P l.toArray Q rest a w:=by
 subst hl;exact Pin.ops (ro:=ro) (ops:=l.toArray) (rest2:=l2) (Q:=Q) l1 hd p h k
def OnlyE (id:Nat)(J:Fr->Hp->Prop):Post
 |.exit i,f,H=>i=id/\J f H
 |_,_,_=>False
theorem Pin.seqE {pins:List (Nat×Obj)}{id:Nat}(hm:P.follows .mixedOrders=true){x y:Code}{J:Fr->Hp->Prop}(hd:codeOk N x=true)(nx:noRange x=true)(p:Pin wA D N pins gs f H β a w)(h:AW P x (OnlyE id J) f H)
  (k:∀f H β a w,J f H->Pin wA D N pins gs f H β a w->Q (.exit id) a w):(Code.seq x y).wpIn (Wd none) 0 P Q a w:=by
 obtain⟨G,M,w0,D0,hr,R,hD,hB,hM,hp,hg⟩:=p;refine wpIn_seq (wpIn_mono (aw_sound hm x none G M w0 _ f H β a w (.inl nx) hd h R) λe a w hq=>?_);cases e with
 |normal=>obtain⟨f,H,β,hk,R⟩:=hq;exact hk.elim
 |panic _=>exact hq.elim
 |outgrown=>exact hq.elim
 |exit i =>
  obtain⟨f,H,β,hk,R⟩:=hq;obtain⟨rfl,hk⟩:=hk;exact k f H β a w hk ⟨G,M,w0,D0,hr,R,hD,hB,hM,hp,hg⟩
 |ret=>obtain⟨f,H,β,hk,R⟩:=hq;exact hk.elim
 |goto _=>obtain⟨f,H,β,hk,R⟩:=hq;exact hk.elim
theorem Pin.cond_true {pins:List (Nat×Obj)}{c:Operand}{x y:Code}(p:Pin wA D N pins gs f H β a w)(hc:AL.ev f c=.iv (.bool true))(h:x.wpIn (Wd ro) 0 P Q a w):(Code.cond c x y).wpIn (Wd ro) 0 P Q a w:=by
 have hv:a.eval c=.bool true:=by
  obtain⟨G,M,w0,D0,hr,R,_⟩:=p;have h:=R.ev c;rw[hc]at h;simp only[AVRep]at h;generalize hv:a.eval c=v at h;cases h;rfl
 exact wpIn_cond_split hv (λ_=>h) (λh=>nomatch h)
theorem Pin.weak {pins:List (Nat×Obj)}{f':Fr}{H':Hp}(p:Pin wA D N pins gs f H β a w)(k:Weak f H f' H'):∃β',Pin wA D N pins gs f' H' β' a w:=by
 obtain⟨G,M,w0,D0,hr,R,hD,hB,hM,hp,hg⟩:=p;obtain⟨β',R'⟩:=R.weak k;exact⟨β',G,M,w0,D0,hr,R',hD,hB,hM,hp,hg⟩
theorem Pin.below {pins:List (Nat×Obj)}(p:Pin wA D N pins gs f H β a w):Below wA.heap.size wA w:=by
 obtain⟨G,M,w0,D0,hr,R,hD,hB,hM,hp,hgs⟩:=p;have hs0:=hB.size;refine⟨R.os.trans hB.os,R.tape.trans hB.tape,R.output.trans hB.output,Nat.le_trans hs0 R.size,λk hk=>?_⟩;rw[R.keep k (by omega) λh=>by have:=hM k h;omega];exact hB.block k hk
theorem rets_none {G:Gh}{M:Nat->Prop}{w0:World}{D0:Nat->Prop}(R:Rel G M w0 D0 N f H β a w):∀(rs:List ResultVar) (j:Nat) (cs:List CV),rets P f H none j rs cs ->
  ∃us:List Value,(rs.mapM (rvS a.tmps)).run P w=.ok us w/\us.length=cs.length/\∀(k:Nat) c v,cs[k]?=some c->us[k]?=some v->∃ms,CVRep w (DD (frzAll ms H) β D0) c v
 |[],j,[],_=>⟨[],by simp,rfl,by simp⟩
 |r::rs,j,c::cs,h=>by
  simp only[rets]at h;obtain⟨us,a1,a2,a3⟩:=rets_none R rs (j+1) cs h.2;have hv:=h.1;unfold RetVal at hv;split at hv
  .rename_i p c' ms hr;obtain⟨hp,rfl,_⟩:=hv;obtain⟨v,hv1,hv2⟩:=retv_sound R hr hp;refine⟨v::us,by simp[List.mapM_cons,hv1,a1],by simp[a2],λk c v hc hv=>?_⟩;cases k with
   |zero=>cases hc;cases hv;exact⟨ms,hv2⟩
   |succ k=>exact a3 k c v hc hv
  .exact hv.elim
 |[],_,_::_,h=>by simp[rets]at h
 |_::_,_,[],h=>by simp[rets]at h
theorem Pin.ret {pins:List (Nat×Obj)}{rs:List ResultVar}{res:List CV}(p:Pin wA D N pins gs f H β a w)(h:rets P f H none 0 rs res) :
  a.defers=[]/\∃us,(rs.mapM (rvS a.tmps)).run P w=.ok us w/\(Below wA.heap.size wA w/\∃us',packV us=packV us'/\ResOk wA w D none res us'):=by
 have hbl:=p.below;obtain⟨G,M,w0,D0,hr,R,hD,hB,hM,hp,hgs⟩:=p;obtain⟨us,h1,h2,h3⟩:=rets_none R _ _ _ h;refine⟨R.rnd hr,us,h1,hbl,us,rfl,h2,λj c v hj hc hv=>?_,λi e sz rows ho=>nomatch ho⟩;obtain⟨ms,hrep⟩:=h3 j c v hc hv;refine hrep.mono (Grows.of_sub λb hb=>?_);rcases hb with hb|hb
 .exact .inl (hD b hb)
 .exact hb.elim
end
end Go.Proofs.YtbnincgnfiaemaaGreat

namespace Go.Proofs.YtbnincgnfiaemaaGreat
open Go Go.Proofs Go.AL Go.RowKit
set_option linter.unusedSimpArgs false
set_option linter.unusedVariables false
abbrev TE:=Int×IV×Value
def mes (T:List TE):Array MapEntry:=(T.zipIdx.map λt=>(⟨.int .i64 t.1.1,t.1.2.2,t.2⟩:MapEntry)).toArray
def mgs (T:List TE):List (AV×Value):=(T.map λt=>(AV.iv t.2.1,t.2.2)).reverse
def mxs (T:List TE):List (Int×IV):=T.map λt=>(t.1,t.2.1)
theorem mes_push (T:List TE)(n:Int)(X:IV)(v:Value):(mes T).push ⟨.int .i64 n,v,T.length⟩=mes (T++[(n,X,v)]):=by simp[mes,List.zipIdx_append]
theorem mgs_push (T:List TE)(n:Int)(X:IV)(v:Value):mgs (T++[(n,X,v)])=(.iv X,v)::mgs T:=by simp[mgs]
theorem mxs_push (T:List TE)(n:Int)(X:IV)(v:Value):mxs (T++[(n,X,v)])=mxs T++[(n,X)]:=by simp[mxs]
theorem mes_mem {T:List TE}{e:MapEntry}(h:e∈(mes T).toList):∃t i,(t,i)∈T.zipIdx/\e=⟨.int .i64 t.1,t.2.2,i⟩:=by
 simp only[mes,List.mem_map]at h;obtain⟨⟨t,i⟩,h1,h2⟩:=h;exact⟨t,i,h1,h2.symm⟩
theorem mes_new {T:List TE}{n:Int}(h:∀t∈T,t.1<n):∀e∈(mes T).toList,∃m,e.key=.int .i64 m/\m≠n:=λe he=>by
 obtain⟨t,i,h1,rfl⟩:=mes_mem he;have:=h t (List.fst_mem_of_mem_zipIdx h1);exact⟨t.1,rfl,by omega⟩
def MapCL (P:Program)(g:Nat)(args:List CV)(X:List (Int×IV)):Prop :=
 ∀(w:World) (D:Nat->Prop) (vs:List Value),(∀b,D b->b<w.heap.size)->CVReps w D args vs ->
  CallsR P g vs w λv w'=>Below w.heap.size w w'/\∃b T,v=.map (some b)/\mxs T=X/\w.heap.size<=b/\w'.heap[b]?=some (.map (mes T) T.length)/\∀t∈T,Rep w' (λk=>D k\/k=b) t.2.1 t.2.2
section
variable {P:Program} {wA:World} {D:Nat->Prop} {N:Nat} {f:Fr} {H:Hp} {β:Nat->Value} {a:Act} {w:World} {ro:Option Nat} {ops:Array Oper} {rest:List Oper} {Q:Exit->Act->World->Prop} {gs:List (AV×Value)} {o:Oper}
theorem Pin.callMapL {g d:Nat}{args:Array Operand}{ats:Array TypeId}{cv:List CV}{c:Prop}{X:List (Int×IV)}(p:Pin wA D N [] gs f H β a w)(hg:o.guard=none)(ho:o.op=.call ⟨.value (.func g),args,ats⟩)(hd:o.dst=some d)(hN:d<N)
  (ht:tocvs H (args.toList.map (AL.ev f))=some (c,cv,[])) (hc:c) (hac:MapCL P g cv X)
  (k:∀b T a w,mxs T=X->Pin wA D N [(b,.map (mes T) T.length)] (mgs T++gs) (upd f d (.iv (.raw (.map (some b))))) H β a w->wpListIn (Wd ro) 0 P ops Q rest a w):wpListIn (Wd ro) 0 P ops Q (o::rest) a w:=by
 obtain⟨G,M,w0,D0,hr,R,hD,hB,hM,hp,hgs⟩:=p;have hcv:CVReps w (DD H β D0) cv (args.toList.map a.eval):=tocvs_sound R (avall_map R args.toList) ht hc;have hlt:∀b,DD H β D0 b->b<w.heap.size:=by
  rintro b (hb|⟨h,hm,hk⟩)
  .have:=(R.old b hb).1;have:=R.size;omega
  .exact(R.mut_lt hm hk).1
 refine list_one hg (callsR_wp (us:=#[]) ho rfl (by rw[show (#[]:Array Value).toList=[] from rfl,List.append_nil];exact hac w (DD H β D0) _ hlt hcv) ?_);rintro v w' ⟨hb,b,T,rfl,hT,hbs,hob,r⟩;rw[hd];refine k b T _ _ hT (pin_turn (d:=some d) hr R hD hB hM hp hb.os hb.tape hb.output hb.size (λk hk _=>hb.block k hk) (λq hq=>?_) (λD' h1 g=>⟨raw_rep rfl,λq hq=>?_⟩) (λk hk=>by cases hk;exact hN))
 .cases List.mem_singleton.1 hq;exact⟨hob,.inr hbs⟩
 .have sub:Grows w' (λk=>DD H β D0 k\/k=b) w' D':=Grows.of_sub λk hk=>by
   rcases h1 k hk with h|⟨o,h⟩
   .exact .inl h
   .cases List.mem_singleton.1 h;exact .inr rfl
  rcases List.mem_append.1 hq with hq|hq
  .simp only[mgs,List.mem_reverse,List.mem_map]at hq;obtain⟨t,ht,rfl⟩:=hq;simp only[AVRep];exact(r t ht).mono sub
  .exact AVRep.mono g (HStep.refl _ _) _ _ (R.gh q.1 q.2 (hgs q hq))
theorem Pin.ret_mapL {b t:Nat}{T:List TE}{X:List (Int×IV)}(p:Pin wA D N [(b,.map (mes T) T.length)] (mgs T) f H β a w)(h:f t=.iv (.raw (.map (some b))))(hT:mxs T=X) :
  a.defers=[]/\∃us,(([.tmp t]:List ResultVar).mapM (rvS a.tmps)).run P w=.ok us w/\(Below wA.heap.size wA w/\∃b T,packV us=.map (some b)/\mxs T=X/\wA.heap.size<=b/\w.heap[b]?=some (.map (mes T) T.length)/\∀t∈T,Rep w (λk=>D k\/k=b) t.2.1 t.2.2):=by
 have hbl:=p.below;have hob:=p.obj (List.mem_singleton.2 rfl);obtain⟨G,M,w0,D0,hr,R,hD,hB,hM,hp,hgs⟩:=p;obtain⟨hb0,_,hbs⟩:=hp _ (List.mem_singleton.2 rfl);have ht:a.tmps.getD t Go.undef=.map (some b):=by
  have h1:=R.tmps t;rw[h]at h1;simp only[AVRep]at h1;generalize hv:a.tmps.getD t Go.undef=v at h1;cases h1;rfl
 have sub:Grows w (DD H β D0) w (λk=>D k\/k=b):=Grows.of_sub λk hk=>by
  rcases hk with h|rfl
  .exact .inl (hD k h)
  .exact .inl hb0
 refine⟨R.rnd hr,[.map (some b)],?_,hbl,b,T,rfl,hT,hbs,hob,λt ht=>?_⟩
 .simp[List.mapM_cons,rvS,ht,Result.andThen]
 .have:=R.gh (.iv t.2.1) t.2.2 (hgs (.iv t.2.1,t.2.2) (by simp only[mgs,List.mem_reverse,List.mem_map];exact⟨t,ht,rfl⟩));simp only[AVRep]at this;exact this.mono sub
theorem Pin.cond_false {pins:List (Nat×Obj)}{c:Operand}{x y:Code}(p:Pin wA D N pins gs f H β a w)(hc:AL.ev f c=.iv (.bool false))(h:y.wpIn (Wd ro) 0 P Q a w):(Code.cond c x y).wpIn (Wd ro) 0 P Q a w:=by
 have hv:a.eval c=.bool false:=by
  obtain⟨G,M,w0,D0,hr,R,_⟩:=p;have h:=R.ev c;rw[hc]at h;simp only[AVRep]at h;generalize hv:a.eval c=v at h;cases h;rfl
 exact wpIn_cond_split hv (λh=>nomatch h) (λ_=>h)
end
def xof (L:List (Nat×List Int)):List (Int×IV):=L.map λx=>((x.1:Int),IV.sl (cpoly x.2))
theorem und_map:Tryz.prog.underlying 115=some (.map 3 23):=by kernel_rfl
theorem und_int:Tryz.prog.underlying 3=some (.int .i64):=by kernel_rfl
theorem bymultL_ok {P:List Int}{S T U:Nat}(E:Env P S T U)(q:List RI)(hq:RP 40 (S+10*T) q)(e:As (pv q) P)(n0:Nat)(hn0:n0=30):MapCL Tryz.prog 91 [cw q] (xof (bmL n0 1 (npr P) (wof P))):=by
 have hS:=E.hS;have h30:=E.t30;have hT:=E.t;have hu:=E.u;obtain⟨bi0,pt⟩:=E.pts (n:=n0) (by omega);have p1:=pprim_n (a:=q) (q:=pv q) (hq.mono (by omega) (by omega)) rfl;rw[npr_as e]at p1;have zP:=E.sz bi0.r (nf_npr P);have rP:=rp_sb (D:=40) (q:=npr P) (by omega) zP.1;have p2:=E.free_ok (cn (npr P)) rP (by rw[pv_cnt (npr_trim P)];exact(as_npr P).symm);have hWP:Dv (wof P) P:=(dv_l _ _).trans E.wg.dv;generalize hX:xof (bmL n0 1 (npr P) (wof P))=X;intro wA D vs hD hvs;refine calls_of_body Tryz.func91 (by rfl) (by rfl) ?_;have p:=Pin.start (n:=36) hD hvs (by simp);refine p.seq ords (J:=λf H=>f 0=.iv (.sl (raws q))) (by rfl) (by rfl) ?_ ?_
 .simp (disch:=omega) only[wt,seval,reduceCtorEq,Nat.reduceEqDiff,OnlyQ,OnlyE]
 intro f H β a w g0 p;refine wpIn_seq (wpIn_region_list ?_);refine p.makeMap (d:=9) rfl rfl rfl (by decide) λb a w p=>?_;refine p.opsAll (K:=λf H _=>f 0=.iv (.sl (raws q))/\f 3=.iv (.raw (.map (some b)))) (by decide) ?_ ?_
 .simp (disch:=omega) only[wt,seval,reduceCtorEq,Nat.reduceEqDiff,OnlyQ,OnlyE,g0]
 intro f H _ β a w ⟨g0,g3⟩ p;refine p.seq ords (J:=λf H=>f 3=.iv (.raw (.map (some b)))/\f 4=.iv (.sl (cpoly (npr P)))) (by rfl) (by rfl) ?_ ?_
 .simp (disch:=omega) only[wt,seval,reduceCtorEq,Nat.reduceEqDiff,OnlyQ,OnlyE,g0,g3];refine call_by (p1) (by first|rfl|(simp only[tocvs,tocv,toboxes,tobox,updH_at,Nat.reduceEqDiff,↓reduceIte,g3];rfl)) (by simp) ?_;simp (disch:=omega) only[wt,seval,reduceCtorEq,Nat.reduceEqDiff,OnlyQ,OnlyE,g3]
 intro f H β a w ⟨g3,g4⟩ p;refine p.seq ords (J:=λf H=>f 3=.iv (.raw (.map (some b)))/\f 4=.iv (.sl (cpoly (npr P)))/\f 5=.iv (.sl (cpoly (wof P)))) (by rfl) (by rfl) ?_ ?_
 .simp (disch:=omega) only[wt,seval,reduceCtorEq,Nat.reduceEqDiff,OnlyQ,OnlyE,g3,g4];refine call_by (p2) (by first|rfl|(simp only[tocvs,tocv,toboxes,tobox,updH_at,Nat.reduceEqDiff,↓reduceIte,g3,g4];rfl)) (by simp) ?_;simp (disch:=omega) only[wt,seval,reduceCtorEq,Nat.reduceEqDiff,OnlyQ,OnlyE,g3,g4]
 intro f H β a w ⟨g3,g4,g5⟩ p;refine wpIn_seq ?_;refine p.seq ords (J:=λf H=>f 3=.iv (.raw (.map (some b)))/\f 4=.iv (.sl (cpoly (npr P)))/\f 5=.iv (.sl (cpoly (wof P)))/\f 6=.iv (.int .i64 1)) (by rfl) (by rfl) ?_ ?_
 .simp (disch:=omega) only[wt,seval,reduceCtorEq,Nat.reduceEqDiff,OnlyQ,OnlyE,g3,g4,g5]
 intro f H β a w ⟨g3,g4,g5,g6⟩ p;refine wpIn_block (wpIn_loop_rel (λn a w=>∃(f:Fr) (H:Hp) (β:Nat->Value) (T1:List TE) (m:Nat) (R N:List Int),f 3=.iv (.raw (.map (some b)))/\f 4=.iv (.sl (cpoly R))/\f 5=.iv (.sl (cpoly N))/\f 6=.iv (.int .i64 m)/\BI P (wof P) R N/\Nf R/\Nf N/\tz R<=n/\m+n<=40/\mxs T1++xof (bmL n m R N)=X/\(∀t∈T1,t.1<m)/\Pin wA D 36 [(b,.map (mes T1) T1.length)] (mgs T1) f H β a w) ?_ (m:=n0) ⟨f,H,β,[],1,npr P,wof P,g3,g4,g5,g6,bi0,nf_npr _,nf_npr _,by omega,by omega,hX,λt h=>(by cases h),p⟩);clear p g3 g4 g5 g6 f H β a w;rintro n a w ⟨f,H,β,T1,m,R,N,g3,g4,g5,g6,bi,nR,nN,tR,hm,hX,hk,p⟩;have zR:=E.sz bi.r nR;have zN:=E.sz (bi.n.trans hWP) nN;have rN:=rp_sb (D:=40) (q:=N) (by omega) zN.1;have c1:=const_g (a:=cn N) (q:=N) (rN.mono (by omega) (by omega)) (ps_cn _);by_cases h1:tz N<=1
 .rw[decide_eq_true (show (tz N:Int)-1<1 by omega)]at c1;have e0:bmL n m R N=[]:=by
   cases n with
   |zero=>rfl
   |succ n=>rw[bmL,if_pos h1]
  rw[e0]at hX;refine p.seqE ords (id:=0) (J:=λf H=>f 3=.iv (.raw (.map (some b)))) (by rfl) (by rfl) ?_ ?_
  .simp (disch:=omega) only[wt,seval,reduceCtorEq,Nat.reduceEqDiff,OnlyQ,OnlyE,g3,g5];refine call_by (c1) (by first|rfl|(simp only[tocvs,tocv,toboxes,tobox,updH_at,Nat.reduceEqDiff,↓reduceIte,g3,g5];rfl)) (by simp) ?_;simp (disch:=omega) only[wt,seval,reduceCtorEq,Nat.reduceEqDiff,OnlyQ,OnlyE,g3,g5]
  intro f H β a w g3 p;refine p.seq ords (J:=λf H=>f 2=.iv (.raw (.map (some b)))) (by rfl) (by rfl) ?_ ?_
  .simp (disch:=omega) only[wt,seval,reduceCtorEq,Nat.reduceEqDiff,OnlyQ,OnlyE,g3]
  intro f H β a w g2 p;refine wpIn_ret ?_;obtain⟨h1,h2⟩:=p.ret_mapL (P:=Tryz.prog) (X:=X) g2 (by rw[<-hX];simp[xof]);exact⟨.inr rfl,h1,h2⟩
 rw[decide_eq_false (show ¬(tz N:Int)-1<1 by omega)]at c1;obtain⟨n,rfl⟩:∃k,n=k+1:=⟨n-1,by omega⟩;have s:=bi.step;have er:bmL (n+1) m R N=(if tz (ovr N (gcdp N (ovr R N)))<=1 then [] else [(m,ovr N (gcdp N (ovr R N)))])++bmL n (m+1) (ovr R N) (gcdp N (ovr R N)):=by rw[bmL,if_neg h1]
 have c2:=over_n (A:=R) (B:=N) (S:=S+10*T) (by omega) (by omega) zR.1 zN.1 (by omega) bi.r0 bi.n0 bi.d;have nr:Nf (ovr R N):=nf_npr _;have zr:=E.sz s.bi.r nr;have rr:=rp_sb (D:=40) (q:=ovr R N) (by omega) zr.1;have tN:tz N<=U:=Nat.le_trans (dv_tz bi.n (dv_tz hWP E.p0).1).2 E.w;have tr0:trimz (ovr R N)=ovr R N:=npr_trim _;have c3:=E.gcd (cn N) (cn (ovr R N)) (rN.mono (by omega) (by omega)) (rr.mono (by omega) (by omega)) (by rw[tz_of_ps (ps_cn N)];exact tN) (by rw[pv_cnt tr0];exact zr.2.1);rw[cp_ps (gcdp_as (.of_ps (ps_cn N)) (.of_ps (ps_cn (ovr R N))))]at c3;have ng:Nf (gcdp N (ovr R N)):=gcdp_nf _ _;have zg:=E.sz (s.bi.n.trans hWP) ng;have c4:=over_n (A:=N) (B:=gcdp N (ovr R N)) (S:=S+10*T) (by omega) (by omega) zN.1 zg.1 (by omega) bi.n0 s.bi.n0 (gcdp_gg N (ovr R N)).a;have nf:Nf (ovr N (gcdp N (ovr R N))):=nf_npr _;have df:Dv (ovr N (gcdp N (ovr R N))) P:=((dv_l _ _).trans s.en.symm.dv).trans (bi.n.trans hWP);have zf:=E.sz df nf;rw[er]at hX;have bi':=s.bi;have lt:=s.lt;clear s er df;generalize ovr N (gcdp N (ovr R N))=F at *;generalize gcdp N (ovr R N)=G at *;generalize ovr R N=R1 at *;have rF:=rp_sb (D:=40) (q:=F) (by omega) zf.1;have c5:=const_g (a:=cn F) (q:=F) (rF.mono (by omega) (by omega)) (ps_cn _);refine p.seq ords (J:=λf H=>f 3=.iv (.raw (.map (some b)))/\f 4=.iv (.sl (cpoly R))/\f 5=.iv (.sl (cpoly N))/\f 6=.iv (.int .i64 m)) (by rfl) (by rfl) ?_ ?_
 .simp (disch:=omega) only[wt,seval,reduceCtorEq,Nat.reduceEqDiff,OnlyQ,OnlyE,g3,g4,g5,g6];refine call_by (c1) (by first|rfl|(simp only[tocvs,tocv,toboxes,tobox,updH_at,Nat.reduceEqDiff,↓reduceIte,g3,g4,g5,g6];rfl)) (by simp) ?_;simp (disch:=omega) only[wt,seval,reduceCtorEq,Nat.reduceEqDiff,OnlyQ,OnlyE,g3,g4,g5,g6]
 clear g3 g4 g5 g6 p;intro f H β a w ⟨g3,g4,g5,g6⟩ p;refine wpIn_seq (wpIn_block ?_);refine p.seq ords (J:=λf H=>f 3=.iv (.raw (.map (some b)))/\f 4=.iv (.sl (cpoly R1))/\f 5=.iv (.sl (cpoly N))/\f 6=.iv (.int .i64 m)) (by rfl) (by rfl) ?_ ?_
 .simp (disch:=omega) only[wt,seval,reduceCtorEq,Nat.reduceEqDiff,OnlyQ,OnlyE,g3,g4,g5,g6];refine call_by (c2) (by first|rfl|(simp only[tocvs,tocv,toboxes,tobox,updH_at,Nat.reduceEqDiff,↓reduceIte,g3,g4,g5,g6];rfl)) (by simp) ?_;simp (disch:=omega) only[wt,seval,reduceCtorEq,Nat.reduceEqDiff,OnlyQ,OnlyE,g3,g4,g5,g6]
 clear g3 g4 g5 g6 p;intro f H β a w ⟨g3,g4,g5,g6⟩ p;refine p.seq ords (J:=λf H=>f 3=.iv (.raw (.map (some b)))/\f 4=.iv (.sl (cpoly R1))/\f 5=.iv (.sl (cpoly N))/\f 6=.iv (.int .i64 m)/\f 7=.iv (.sl (cpoly G))) (by rfl) (by rfl) ?_ ?_
 .simp (disch:=omega) only[wt,seval,reduceCtorEq,Nat.reduceEqDiff,OnlyQ,OnlyE,g3,g4,g5,g6];refine call_by (c3) (by first|rfl|(simp only[tocvs,tocv,toboxes,tobox,updH_at,Nat.reduceEqDiff,↓reduceIte,g3,g4,g5,g6];rfl)) (by simp) ?_;simp (disch:=omega) only[wt,seval,reduceCtorEq,Nat.reduceEqDiff,OnlyQ,OnlyE,g3,g4,g5,g6]
 clear g3 g4 g5 g6 p;intro f H β a w ⟨g3,g4,g5,g6,g7⟩ p;refine wpIn_seq ?_;refine p.seq ords (J:=λf H=>f 3=.iv (.raw (.map (some b)))/\f 4=.iv (.sl (cpoly R1))/\f 6=.iv (.int .i64 m)/\f 7=.iv (.sl (cpoly G))/\f 8=.iv (.sl (cpoly F))) (by rfl) (by rfl) ?_ ?_
 .simp (disch:=omega) only[wt,seval,reduceCtorEq,Nat.reduceEqDiff,OnlyQ,OnlyE,g3,g4,g5,g6,g7];refine call_by (c4) (by first|rfl|(simp only[tocvs,tocv,toboxes,tobox,updH_at,Nat.reduceEqDiff,↓reduceIte,g3,g4,g5,g6,g7];rfl)) (by simp) ?_;simp (disch:=omega) only[wt,seval,reduceCtorEq,Nat.reduceEqDiff,OnlyQ,OnlyE,g3,g4,g5,g6,g7]
 clear g3 g4 g5 g6 g7 p;intro f H β a w ⟨g3,g4,g6,g7,g8⟩ p;by_cases hf:tz F<=1
 .rw[decide_eq_true (show (tz F:Int)-1<1 by omega)]at c5;rw[if_pos hf,List.nil_append]at hX;refine p.seq ords (J:=λf H=>f 3=.iv (.raw (.map (some b)))/\f 4=.iv (.sl (cpoly R1))/\f 6=.iv (.int .i64 m)/\f 7=.iv (.sl (cpoly G))/\f 30=.iv (.bool false)) (by rfl) (by rfl) ?_ ?_
  .simp (disch:=omega) only[wt,seval,reduceCtorEq,Nat.reduceEqDiff,OnlyQ,OnlyE,g3,g4,g6,g7,g8];refine call_by (c5) (by first|rfl|(simp only[tocvs,tocv,toboxes,tobox,updH_at,Nat.reduceEqDiff,↓reduceIte,g3,g4,g6,g7,g8];rfl)) (by simp) ?_;simp (disch:=omega) only[wt,seval,reduceCtorEq,Nat.reduceEqDiff,OnlyQ,OnlyE,g3,g4,g6,g7,g8]
  clear g3 g4 g6 g7 g8 p;intro f H β a w ⟨g3,g4,g6,g7,g30⟩ p;refine p.cond_false (by simp (disch:=omega) only[wt,seval,reduceCtorEq,Nat.reduceEqDiff,OnlyQ,OnlyE,g30]) ?_;refine p.last ords (J:=λf H=>f 3=.iv (.raw (.map (some b)))/\f 4=.iv (.sl (cpoly R1))/\f 6=.iv (.int .i64 m)/\f 7=.iv (.sl (cpoly G))) (by rfl) (by rfl) ?_ ?_
  .simp (disch:=omega) only[wt,seval,reduceCtorEq,Nat.reduceEqDiff,OnlyQ,OnlyE,g3,g4,g6,g7]
  clear g3 g4 g6 g7 g30 p;intro f H β a w ⟨g3,g4,g6,g7⟩ p;have hk2:∀t∈T1,t.1<((m+1:Nat):Int):=λt ht=>by have:=hk t ht;omega
  refine p.last ords (J:=λf H=>f 3=.iv (.raw (.map (some b)))/\f 4=.iv (.sl (cpoly R1))/\f 5=.iv (.sl (cpoly G))/\f 6=.iv (.int .i64 m)) (by rfl) (by rfl) ?_ ?_
  .simp (disch:=omega) only[wt,seval,reduceCtorEq,Nat.reduceEqDiff,OnlyQ,OnlyE,g3,g4,g6,g7]
  clear g3 g4 g6 g7 p;intro f H β a w ⟨g3,g4,g5,g6⟩ p;refine p.last ords (J:=λf H=>f 3=.iv (.raw (.map (some b)))/\f 4=.iv (.sl (cpoly R1))/\f 5=.iv (.sl (cpoly G))/\f 6=.iv (.int .i64 ((m:Int)+1))) (by rfl) (by rfl) ?_ ?_
  .simp (disch:=omega) only[wt,seval,reduceCtorEq,Nat.reduceEqDiff,OnlyQ,OnlyE,g3,g4,g5,g6]
  clear g3 g4 g5 g6 p;intro f H β a w ⟨g3,g4,g5,g6⟩ p;exact⟨n,by omega,f,H,β,T1,m+1,R1,G,g3,g4,g5,by rw[g6];rfl,bi',nr,ng,by omega,by omega,hX,hk2,p⟩
 .rw[decide_eq_false (show ¬(tz F:Int)-1<1 by omega)]at c5;rw[if_neg hf]at hX;refine p.seq ords (J:=λf H=>f 3=.iv (.raw (.map (some b)))/\f 4=.iv (.sl (cpoly R1))/\f 6=.iv (.int .i64 m)/\f 7=.iv (.sl (cpoly G))/\f 8=.iv (.sl (cpoly F))/\f 30=.iv (.bool true)) (by rfl) (by rfl) ?_ ?_
  .simp (disch:=omega) only[wt,seval,reduceCtorEq,Nat.reduceEqDiff,OnlyQ,OnlyE,g3,g4,g6,g7,g8];refine call_by (c5) (by first|rfl|(simp only[tocvs,tocv,toboxes,tobox,updH_at,Nat.reduceEqDiff,↓reduceIte,g3,g4,g6,g7,g8];rfl)) (by simp) ?_;simp (disch:=omega) only[wt,seval,reduceCtorEq,Nat.reduceEqDiff,OnlyQ,OnlyE,g3,g4,g6,g7,g8]
  clear g3 g4 g6 g7 g8 p;intro f H β a w ⟨g3,g4,g6,g7,g8,g30⟩ p;refine p.cond_true (by simp (disch:=omega) only[wt,seval,reduceCtorEq,Nat.reduceEqDiff,OnlyQ,OnlyE,g30]) (wpIn_region_list ?_);refine p.opsN (l1:=[_,_,_]) (l2:=[_]) (K:=λf H _=>f 3=.iv (.raw (.map (some b)))/\f 4=.iv (.sl (cpoly R1))/\f 6=.iv (.int .i64 m)/\f 7=.iv (.sl (cpoly G))/\f 31=.iv (.raw (.map (some b)))/\f 32=.iv (.int .i64 m)/\f 33=.iv (.sl (cpoly F))) rfl (by decide) ?_ ?_
  .simp (disch:=omega) only[wt,seval,reduceCtorEq,Nat.reduceEqDiff,OnlyQ,OnlyE,g3,g4,g6,g7,g8]
  clear g3 g4 g6 g7 g8 g30 p;intro f H _ β a w ⟨g3,g4,g6,g7,g31,g32,g33⟩ p;refine p.update rfl rfl rfl g31 g32 g33 und_map und_int (mes_new hk) ?_;clear g31 g32 g33 p;intro v a w p;rw[mes_push,show (AV.iv (.sl (cpoly F)),v)::mgs T1=mgs (T1++[((m:Int),.sl (cpoly F),v)]) from (mgs_push _ _ _ _).symm,show T1.length+1=(T1++[((m:Int),IV.sl (cpoly F),v)]).length by simp]at p;have hX2:mxs (T1++[((m:Int),IV.sl (cpoly F),v)])++xof (bmL n (m+1) R1 G)=X:=by
   rw[<-hX,mxs_push];simp[xof]
  have hk2:∀t∈T1++[((m:Int),IV.sl (cpoly F),v)],t.1<((m+1:Nat):Int):=λt ht=>by
   rcases List.mem_append.1 ht with h|h
   .have:=hk t h;omega
   .rw[List.mem_singleton.1 h];show (m:Int)<_;omega
  generalize T1++[((m:Int),IV.sl (cpoly F),v)]=T2 at *;refine p.last ords (J:=λf H=>f 3=.iv (.raw (.map (some b)))/\f 4=.iv (.sl (cpoly R1))/\f 5=.iv (.sl (cpoly G))/\f 6=.iv (.int .i64 m)) (by rfl) (by rfl) ?_ ?_
  .simp (disch:=omega) only[wt,seval,reduceCtorEq,Nat.reduceEqDiff,OnlyQ,OnlyE,g3,g4,g6,g7]
  clear g3 g4 g6 g7 p;intro f H β a w ⟨g3,g4,g5,g6⟩ p;refine p.last ords (J:=λf H=>f 3=.iv (.raw (.map (some b)))/\f 4=.iv (.sl (cpoly R1))/\f 5=.iv (.sl (cpoly G))/\f 6=.iv (.int .i64 ((m:Int)+1))) (by rfl) (by rfl) ?_ ?_
  .simp (disch:=omega) only[wt,seval,reduceCtorEq,Nat.reduceEqDiff,OnlyQ,OnlyE,g3,g4,g5,g6]
  clear g3 g4 g5 g6 p;intro f H β a w ⟨g3,g4,g5,g6⟩ p;exact⟨n,by omega,f,H,β,T2,m+1,R1,G,g3,g4,g5,by rw[g6];rfl,bi',nr,ng,by omega,by omega,hX2,hk2,p⟩
end Go.Proofs.YtbnincgnfiaemaaGreat

namespace Go.Proofs.YtbnincgnfiaemaaGreat
open Go Go.Proofs Go.AL
set_option linter.unusedSimpArgs false
set_option linter.unusedVariables false
def rowF (x:List (List IV))(m:Int):List IV:=[.sl x,.int .i64 m]
abbrev KP:=Int×List (List IV)
def rowK (x:KP):List IV:=rowF x.2 x.1
def kd:KP:=(0,[])
theorem spl2 (a b c d:IV):splice [a,b] 0 [c,d]=[c,d]:=rfl
theorem tak2 (a b:IV):List.take 2 [a,b]=[a,b]:=rfl
theorem lay_fac (x:List (List IV))(m:IV):lay (λi=>[(0,1),(1,1)][i]?) [.sl [],.int .i64 0] ([0,1].zip [[.sl x],[m]])=some ((1=1/\0+1<=2)/\(1=1/\1+1<=2)/\True,[.sl x,m]):=rfl
theorem fcmp_ok (x y:List (List IV))(m n:Int)(hm : -1000<=m/\m<=1000)(hn : -1000<=n/\n<=1000):AC Tryz.prog 93 [.agg (rowF x m),.agg (rowF y n)] none [ci (m-n)]:=by
 refine AC.by_walk (rs:=[.tmp 4]) ords Tryz.func93 (by rfl) (by rfl) (by rfl) (by rfl) (by rfl) ?_;simp (disch:=omega) only[wt,seval,reduceCtorEq,Nat.reduceEqDiff,rowF,spl2,tak2]
theorem blen_ok (x:Nat)(hx:x<W):AC Tryz.prog 160 [cu x] none [ci (bl x)]:=by
 have h:=len64_ok x hx;refine AC.by_walk (rs:=[.tmp 2]) ords Tryz.func160 (by rfl) (by rfl) (by rfl) (by rfl) (by rfl) ?_;simp (disch:=omega) only[wt,seval,reduceCtorEq,Nat.reduceEqDiff,rowF,spl2,tak2];refine call_by (h) (by rfl) (by simp) ?_;simp (disch:=omega) only[wt,seval,reduceCtorEq,Nat.reduceEqDiff,rowF,spl2,tak2]
def Sr (l:List KP)(i j:Nat):Prop:=∀p q,p<q->q<=i->q<l.length->q≠j->(l.getD p kd).1<=(l.getD q kd).1
def swp2 (l:List KP)(k:Nat):List KP:=(l.set (k+1) (l.getD k kd)).set k (l.getD (k+1) kd)
theorem swp2_len (l:List KP)(k:Nat):(swp2 l k).length=l.length:=by simp[swp2]
theorem swp2_get {l:List KP}{k:Nat}(h:k+1<l.length)(p:Nat):(swp2 l k).getD p kd=if p=k then l.getD (k+1) kd else if p=k+1 then l.getD k kd else l.getD p kd:=by
 unfold swp2;rw[List.getD,List.getElem?_set];by_cases h1:k=p
 .subst h1;rw[if_pos rfl,if_pos (by rw[List.length_set];omega),if_pos rfl];rfl
 .rw[if_neg h1,if_neg (λe=>h1 e.symm),List.getElem?_set];by_cases h2:k+1=p
  .subst h2;rw[if_pos rfl,if_pos h,if_pos rfl];rfl
  .rw[if_neg h2,if_neg (λe=>h2 e.symm)];rfl
theorem swp2_perm {l:List KP}{k:Nat}(h:k+1<l.length):(swp2 l k).Perm l:=by
 have e1:l=l.take k++l[k]::l[k+1]::l.drop (k+2):=by
  rw[<-List.drop_eq_getElem_cons h,<-List.drop_eq_getElem_cons (show k<l.length by omega),List.take_append_drop]
 have lk:(l.take k).length=k:=by rw[List.length_take];omega
 have g1:l.getD k kd=l[k]:=by simp[List.getD,show k<l.length by omega]
 have g2:l.getD (k+1) kd=l[k+1]:=by simp[List.getD,h]
 have e2:swp2 l k=l.take k++l[k+1]::l[k]::l.drop (k+2):=by
  unfold swp2;rw[g1,g2];generalize l[k]=x at *;generalize l[k+1]=y at *
  conv=>lhs;rw[e1]
  rw[List.set_append_right _ _ (by omega),List.set_append_right _ _ (by omega),lk];simp
 rw[e2]
 conv=>rhs;rw[e1]
 exact(List.Perm.swap _ _ _).append_left _
theorem sr_step {l:List KP}{i k:Nat}(h:Sr l i (k+1))(hk:k+1<l.length)(hki:k+1<=i)(hlt:(l.getD (k+1) kd).1<(l.getD k kd).1):Sr (swp2 l k) i k:=by
 intro p q hpq hqi hq hne;rw[swp2_len]at hq;rw[swp2_get hk,swp2_get hk,if_neg hne];by_cases q1:q=k+1
 .rw[if_pos q1];by_cases p1:p=k
  .rw[if_pos p1];omega
  .rw[if_neg p1,if_neg (by omega)];exact h p k (by omega) (by omega) (by omega) (by omega)
 .rw[if_neg q1];by_cases p1:p=k
  .rw[if_pos p1];exact h (k+1) q (by omega) hqi hq q1
  .rw[if_neg p1];by_cases p2:p=k+1
   .rw[if_pos p2];exact h k q (by omega) hqi hq q1
   .rw[if_neg p2];exact h p q hpq hqi hq q1
theorem sr_stop {l:List KP}{i k:Nat}(h:Sr l i (k+1))(hk:k+1<l.length)(hki:k+1<=i)(hge:(l.getD k kd).1<=(l.getD (k+1) kd).1):Sr l i (i+1):=by
 intro p q hpq hqi hq hne;by_cases q1:q=k+1
 .subst q1;by_cases p1:p=k
  .rw[p1];exact hge
  .exact Int.le_trans (h p k (by omega) (by omega) (by omega) (by omega)) hge
 .exact h p q hpq hqi hq q1
theorem sorted_eq:∀(L l:List KP),(L.Pairwise λa b=>a.1<b.1)->l.Perm L->(∀p q,p<q->q<l.length->(l.getD p kd).1<=(l.getD q kd).1)->l=L
 |[],l,_,hp,_=>List.Perm.eq_nil hp
 |x::L,[],_,hp,_=>by have:=hp.length_eq;simp at this
 |x::L,y::l,hs,hp,h=>by
  obtain⟨h1,h2⟩:=List.pairwise_cons.mp hs;have hy:y∈x::L:=hp.mem_iff.mp (by simp);have hx:x∈y::l:=hp.mem_iff.mpr (by simp);have e:y=x:=by
   rcases List.mem_cons.mp hy with e|hy'
   .exact e
   rcases List.mem_cons.mp hx with e|hx'
   .exact e.symm
   obtain⟨j,hj,ej⟩:=List.getElem_of_mem hx';have a:=h1 y hy';have b:=h 0 (j+1) (by omega) (by simpa using hj);simp only[List.getD_cons_zero,List.getD_cons_succ,List.getD,List.getElem?_cons_zero,List.getElem?_cons_succ,List.getElem?_eq_getElem hj,Option.getD_some,ej]at b;omega
  subst e;rw[sorted_eq L l h2 ((List.perm_cons y).mp hp) λp q hpq hq=>by
   have:=h (p+1) (q+1) (by omega) (by simpa using hq);simpa [List.getD] using this]
theorem kd_mem {l:List KP}{j:Nat}(h:j<l.length):l.getD j kd∈l:=by
 rw[List.getD,List.getElem?_eq_getElem h];exact List.getElem_mem h
theorem rowK_at {l:List KP}{j:Nat}(h:j<l.length):(l.map rowK).getD j []=rowF (l.getD j kd).2 (l.getD j kd).1:=by
 simp[List.getD,h];rfl
theorem rowK_swp {l:List KP}{k:Nat}:((l.map rowK).set (k+1) (rowF (l.getD k kd).2 (l.getD k kd).1)).set k (rowF (l.getD (k+1) kd).2 (l.getD (k+1) kd).1)=(swp2 l k).map rowK:=by
 unfold swp2;rw[List.map_set,List.map_set];rfl
theorem ins_ok (L l:List KP)(hs:L.Pairwise λa b=>a.1<b.1)(hp0:l.Perm L)(hk:∀x∈L,0<=x.1/\x.1<=1000)(hn:L.length<=100):ACW Tryz.prog 206 [.any,ci 0,ci L.length,.fn 93 []] 0 72 2 (l.map rowK) (L.map rowK) []:=by
 have hl0:=hp0.length_eq;refine ACW.by_walk (rs:=[]) ords Tryz.func206 (by rfl) (by rfl) (by rfl) (by rfl) (by rfl) ?_;simp (disch:=omega) only[wt,seval,reduceCtorEq,Nat.reduceEqDiff,rowF,spl2,tak2];refine aloop_by (λf H=>∃(i:Nat) (l:List KP),1<=i/\i<=L.length+1/\l.Perm L/\(∀p q,p<q->q<i->q<l.length->(l.getD p kd).1<=(l.getD q kd).1)/\f 8=.iv (.int .i64 i)/\f 0=.hs 0 1/\f 1=.iv (.int .i64 0)/\f 2=.iv (.int .i64 L.length)/\f 3=.fn 93 []/\H 0=.blk false 1 72 2 (l.map rowK)) (λf H=>(L.length+1-intAt f 8).toNat) ?_ ?_
 .refine⟨1,l,by omega,by omega,hp0,λp q h1 h2=>by omega,?_⟩;simp (disch:=omega) only[wt,seval,reduceCtorEq,Nat.reduceEqDiff,rowF,spl2,tak2]
 rintro f H ⟨i,l,hi1,hi2,hp,hso,g8,g0,g1,g2,g3,h0⟩;rw[intAt_of g8];have hl:=hp.length_eq;have hkl:∀x∈l,0<=x.1/\x.1<=1000:=λx hx=>hk x (hp.mem_iff.mp hx)
 have hln:(l.map rowK).length=L.length:=by rw[List.length_map,hl]
 by_cases hlt:¬i<L.length
 .have hlt':¬(i:Int)<(L.length:Int):=by omega
  have e:l=L:=sorted_eq L l hs hp λp q a b=>hso p q a (by omega) b
  rw[e]at h0;simp (disch:=omega) only[wt,seval,reduceCtorEq,Nat.reduceEqDiff,rowF,spl2,tak2,g8,g0,g1,g2,g3,h0,hlt']
 have hlt:i<L.length:=Classical.not_not.mp hlt;have hlt':(i:Int)<(L.length:Int):=by omega
 simp (disch:=omega) only[wt,seval,reduceCtorEq,Nat.reduceEqDiff,rowF,spl2,tak2,g8,g0,g1,g2,g3,h0,hlt'];refine aloop_by (λf H=>∃(j:Nat) (l:List KP),j<=i/\l.Perm L/\Sr l i j/\f 9=.iv (.int .i64 j)/\f 8=.iv (.int .i64 i)/\f 0=.hs 0 1/\f 1=.iv (.int .i64 0)/\f 2=.iv (.int .i64 L.length)/\f 3=.fn 93 []/\H 0=.blk false 1 72 2 (l.map rowK)) (λf H=>(intAt f 9).toNat) ?_ ?_
 .refine⟨i,l,by omega,hp,λp q a b c d=>hso p q a (by omega) c,?_⟩;simp (disch:=omega) only[wt,seval,reduceCtorEq,Nat.reduceEqDiff,rowF,spl2,tak2,g8,g0,g1,g2,g3,h0]
 clear hp hso h0 g8 g0 g1 g2 g3 hl hkl hln;rintro f H ⟨j,l,hj,hp,hso,g9,g8,g0,g1,g2,g3,h0⟩;rw[intAt_of g9];have hl:=hp.length_eq;have hkl:∀x∈l,0<=x.1/\x.1<=1000:=λx hx=>hk x (hp.mem_iff.mp hx)
 have hln:(l.map rowK).length=L.length:=by rw[List.length_map,hl]
 by_cases h00:j=0
 .subst h00;simp (disch:=omega) only[wt,seval,reduceCtorEq,Nat.reduceEqDiff,rowF,spl2,tak2,g9,g8,g0,g1,g2,g3,h0];refine .inl ⟨tmps_by (by kernel_rfl),?_⟩
  first|exact log_by (by kernel_rfl)|refine⟨log_by (by kernel_rfl),?_⟩
  exact⟨⟨i+1,l,by omega,by omega,hp,λp q a b c=>hso p q a (by omega) c (by omega),by omega,rfl⟩,by omega⟩
 obtain⟨k,rfl⟩:∃k,j=k+1:=⟨j-1,by omega⟩;have e1:((k+1:Nat):Int)-1=(k:Int):=by omega
 have e0:(0:Int)<((k+1:Nat):Int):=by omega
 have ga:=rowK_at (l:=l) (j:=k+1) (by omega);have gb:=rowK_at (l:=l) (j:=k) (by omega);have ha:=hkl (l.getD (k+1) kd) (kd_mem (by omega));have hb:=hkl (l.getD k kd) (kd_mem (by omega));have gs2:∀r,((l.map rowK).set (k+1) r).getD k []=rowF (l.getD k kd).2 (l.getD k kd).1:=λr=>by
  rw[<-gb,List.getD,List.getD,List.getElem?_set_ne (by omega)]
 have hgx:=rowK_swp (l:=l) (k:=k);have hswl:=swp2_perm (l:=l) (k:=k) (by omega);have hst:=sr_step (l:=l) (i:=i) (k:=k) hso (by omega) hj;have hsp:=sr_stop (l:=l) (i:=i) (k:=k) hso (by omega) hj;generalize l.getD (k+1) kd=x at *;generalize l.getD k kd=y at *;have c1:=fcmp_ok x.2 y.2 x.1 y.1 (by omega) (by omega);by_cases hc:x.1<y.1
 .have hc':x.1-y.1<0:=by omega
  simp (disch:=omega) only[wt,seval,reduceCtorEq,Nat.reduceEqDiff,rowF,spl2,tak2,g9,g8,g0,g1,g2,g3,h0,e0];refine .inl ⟨tmps_by (by kernel_rfl),?_⟩;refine call_by (c1) (by first|rfl|(simp only[tocvs,tocv,toboxes,tobox,updH_at,Nat.reduceEqDiff,↓reduceIte,g9,g8,g0,g1,g2,g3,h0,e0,e1,Int.toNat_natCast,ga,gb,hln,hc'];rfl)) (by simp) ?_;simp (disch:=omega) only[wt,seval,reduceCtorEq,Nat.reduceEqDiff,rowF,spl2,tak2,g9,g8,g0,g1,g2,g3,h0,e0,e1,Int.toNat_natCast,ga,gb,hln,hc']
  first|exact log_by (by kernel_rfl)|refine⟨log_by (by kernel_rfl),?_⟩
  refine .inl ⟨tmps_by (by kernel_rfl),?_⟩
  first|exact log_by (by kernel_rfl)|refine⟨log_by (by kernel_rfl),?_⟩
  refine⟨k,swp2 l k,by omega,hswl.trans hp,hst hc,rfl,?_⟩;rw[<-hgx,gs2];rfl
 .have hc':¬x.1-y.1<0:=by omega
  simp (disch:=omega) only[wt,seval,reduceCtorEq,Nat.reduceEqDiff,rowF,spl2,tak2,g9,g8,g0,g1,g2,g3,h0,e0];refine .inl ⟨tmps_by (by kernel_rfl),?_⟩;refine call_by (c1) (by first|rfl|(simp only[tocvs,tocv,toboxes,tobox,updH_at,Nat.reduceEqDiff,↓reduceIte,g9,g8,g0,g1,g2,g3,h0,e0,e1,Int.toNat_natCast,ga,gb,hln,hc'];rfl)) (by simp) ?_;simp (disch:=omega) only[wt,seval,reduceCtorEq,Nat.reduceEqDiff,rowF,spl2,tak2,g9,g8,g0,g1,g2,g3,h0,e0,e1,Int.toNat_natCast,ga,gb,hln,hc']
  first|exact log_by (by kernel_rfl)|refine⟨log_by (by kernel_rfl),?_⟩
  exact⟨⟨i+1,l,by omega,by omega,hp,λp q a b c=>hsp (by omega) p q a (by omega) c (by omega),by omega,rfl⟩,by omega⟩
theorem pdq_ok (L l:List KP)(hs:L.Pairwise λa b=>a.1<b.1)(hp0:l.Perm L)(hk:∀x∈L,0<=x.1/\x.1<=1000)(hn:L.length<=12)(t:Int):ACW Tryz.prog 159 [.any,ci 0,ci L.length,ci t,.fn 93 []] 0 72 2 (l.map rowK) (L.map rowK) []:=by
 have h:=ins_ok L l hs hp0 hk (by omega);have hl0:=hp0.length_eq;refine ACW.by_walk (rs:=[]) ords Tryz.func159 (by rfl) (by rfl) (by rfl) (by rfl) (by rfl) ?_;simp (disch:=omega) only[wt,seval,reduceCtorEq,Nat.reduceEqDiff,rowF,spl2,tak2];refine aloop_by (λf H=>f 0=.hs 0 1/\f 1=.iv (.int .i64 0)/\f 2=.iv (.int .i64 L.length)/\f 3=.iv (.int .i64 t)/\f 4=.fn 93 []/\H 0=.blk false 1 72 2 (l.map rowK)) (λf H=>0) ?_ ?_
 .simp (disch:=omega) only[wt,seval,reduceCtorEq,Nat.reduceEqDiff,rowF,spl2,tak2]
 rintro f H ⟨g0,g1,g2,g3,g4,h0⟩;have hle:(L.length:Int)<=12:=by omega
 have hle2:(L.length:Int)-0<=12:=by omega
 simp (disch:=omega) only[wt,seval,reduceCtorEq,Nat.reduceEqDiff,rowF,spl2,tak2,g0,g1,g2,g3,g4,h0,hle,hle2];refine callw_by (h) (by first|rfl|(simp (disch:=omega) only[wt,seval,reduceCtorEq,Nat.reduceEqDiff,rowF,spl2,tak2,g0,g1,g2,g3,g4,h0];done)) (by first|rfl|(simp (disch:=omega) only[wt,seval,reduceCtorEq,Nat.reduceEqDiff,rowF,spl2,tak2,g0,g1,g2,g3,g4,h0];done)) (by first|rfl|(simp only[tocvs,tocv,List.set_cons_zero,List.set_cons_succ,g0,g1,g2,g3,g4,h0];rfl)) (by simp) (by simp) ?_;simp (disch:=omega) only[wt,seval,reduceCtorEq,Nat.reduceEqDiff,rowF,spl2,tak2,g0,g1,g2,g3,g4,h0]
theorem sort_ok (L l:List KP)(hs:L.Pairwise λa b=>a.1<b.1)(hp0:l.Perm L)(hk:∀x∈L,0<=x.1/\x.1<=1000)(hn:L.length<=12):ACW Tryz.prog 92 [.any,.fn 93 []] 0 72 2 (l.map rowK) (L.map rowK) []:=by
 have hl0:=hp0.length_eq;have hln:(l.map rowK).length=L.length:=by rw[List.length_map,hl0]
 have c:=blen_ok L.length (by simp only[W];omega);have p:=pdq_ok L l hs hp0 hk hn (bl L.length);have hw:IntKind.u64.wrap (L.length:Int)=(L.length:Int):=(by decide:∀n:Nat,n<13->IntKind.u64.wrap (n:Int)=(n:Int)) _ (by omega);refine ACW.by_walk (rs:=[]) ords Tryz.func92 (by rfl) (by rfl) (by rfl) (by rfl) (by rfl) ?_;simp (disch:=omega) only[wt,seval,reduceCtorEq,Nat.reduceEqDiff,rowF,spl2,tak2,hln,hw];refine call_by (c) (by first|rfl|(simp only[tocvs,tocv,toboxes,tobox,updH_at,Nat.reduceEqDiff,↓reduceIte,hln,hw];rfl)) (by simp) ?_;simp (disch:=omega) only[wt,seval,reduceCtorEq,Nat.reduceEqDiff,rowF,spl2,tak2,hln,hw];refine callw_by (p) (by first|rfl|(simp (disch:=omega) only[wt,seval,reduceCtorEq,Nat.reduceEqDiff,rowF,spl2,tak2,hln,hw];done)) (by first|rfl|(simp (disch:=omega) only[wt,seval,reduceCtorEq,Nat.reduceEqDiff,rowF,spl2,tak2,hln,hw];done)) (by first|rfl|(simp only[tocvs,tocv,List.set_cons_zero,List.set_cons_succ,hln,hw];rfl)) (by simp) (by simp) ?_;simp (disch:=omega) only[wt,seval,reduceCtorEq,Nat.reduceEqDiff,rowF,spl2,tak2,hln,hw]
end Go.Proofs.YtbnincgnfiaemaaGreat

namespace Go.Proofs.YtbnincgnfiaemaaGreat
open Go Go.Proofs Go.AL Go.RowKit
set_option linter.unusedSimpArgs false
set_option linter.unusedVariables false
def kof (L:List (Nat×List Int)):List KP:=L.map λx=>((x.1:Int),cpoly x.2)
theorem kof_len (L:List (Nat×List Int)):(kof L).length=L.length:=by simp[kof]
theorem mxs_len {T:List TE}{L:List (Nat×List Int)}(h:mxs T=xof L):T.length=L.length:=by
 have:=congrArg List.length h;simpa [mxs,xof] using this
theorem mxs_at {T:List TE}{L:List (Nat×List Int)}(h:mxs T=xof L){t:TE}{i:Nat}(hi:(t,i)∈T.zipIdx):i<L.length/\t.1=((kof L).getD i kd).1/\t.2.1=.sl ((kof L).getD i kd).2:=by
 obtain⟨h1,h2,h3⟩:=List.mem_zipIdx hi;have hl:=mxs_len h;have e:(mxs T)[i]?=(xof L)[i]?:=by rw[h]
 simp only[Nat.zero_add,Nat.sub_zero]at h2 h3;have hL:i<L.length:=by omega
 simp only[mxs,xof,List.getElem?_map,List.getElem?_eq_getElem h2,List.getElem?_eq_getElem hL,Option.map_some,Option.some.injEq,Prod.mk.injEq]at e;rw[<-h3]at e;refine⟨hL,?_,?_⟩
 .rw[e.1];simp[kof,List.getD,hL]
 .rw[e.2];simp[kof,List.getD,hL]
theorem left_mem {T:List TE}{L:List (Nat×List Int)}(h:mxs T=xof L){seen:Array Nat}{e:MapEntry}(he:e∈(leftOf (mes T) seen).toList) :
  ∃i,i<L.length/\i∉seen.toList/\e.born=i/\e.key=.int .i64 ((kof L).getD i kd).1/\(AV.iv (.sl ((kof L).getD i kd).2),e.val)∈mgs T/\e∈(mes T).toList:=by
 simp only[leftOf,Array.toList_filter,List.mem_filter]at he;obtain⟨h1,h2⟩:=he;obtain⟨t,i,hi,rfl⟩:=mes_mem h1;obtain⟨a1,a2,a3⟩:=mxs_at h hi;refine⟨i,a1,?_,rfl,by rw[<-a2],?_,h1⟩
 .intro hm;simp only[Bool.not_eq_true',Array.contains_eq_mem,decide_eq_false_iff_not]at h2;exact h2 (Array.mem_toList_iff.mp hm)
 .rw[<-a3];simp only[mgs,List.mem_reverse,List.mem_map];exact⟨t,List.fst_mem_of_mem_zipIdx hi,rfl⟩
theorem left_stop {T:List TE}{L:List (Nat×List Int)}(h:mxs T=xof L){seen:Array Nat}(he:(leftOf (mes T) seen).size=0)(i:Nat)(hi:i<L.length):i∈seen.toList:=by
 have hl:=mxs_len h;refine Classical.byContradiction λhn=>?_;have hm:((T[i]'(by omega)),i)∈T.zipIdx:=by
  rw[List.mem_zipIdx_iff_getElem?];exact List.getElem?_eq_getElem (by omega)
 have:(⟨.int .i64 (T[i]'(by omega)).1,(T[i]'(by omega)).2.2,i⟩:MapEntry)∈(leftOf (mes T) seen).toList:=by
  simp only[leftOf,Array.toList_filter,List.mem_filter];refine⟨?_,?_⟩
  .simp only[mes,List.mem_map];exact⟨_,hm,rfl⟩
  .simp only[Bool.not_eq_true',Array.contains_eq_mem,decide_eq_false_iff_not];exact λhx=>hn (Array.mem_toList_iff.mpr hx)
 rw[<-Array.length_toList,List.length_eq_zero_iff]at he;rw[he]at this;cases this
theorem mes_nodup (T:List TE):((mes T).toList.map (·.born)).Nodup:=by
 have:(mes T).toList.map (·.born)=List.range T.length:=by
  simp only[mes,List.map_map];rw[show ((λx:MapEntry=>x.born) ∘ λt:TE×Nat=>(⟨.int .i64 t.1.1,t.1.2.2,t.2⟩:MapEntry))=Prod.snd from rfl,List.zipIdx_map_snd,List.range_eq_range']
 rw[this];exact List.nodup_range
theorem mes_born {T:List TE}:∀x∈(mes T).toList,x.born<T.length:=λx hx=>by
 obtain⟨t,i,hi,rfl⟩:=mes_mem hx;obtain⟨h1,h2,h3⟩:=List.mem_zipIdx hi;simpa using h2
structure Sn (L:List (Nat×List Int)) (seen:Array Nat) (l:List KP):Prop where
 nd:seen.toList.Nodup
 lt:∀i∈seen.toList,i<L.length
 eq:l=seen.toList.map λi=>(kof L).getD i kd
theorem Sn.push {L:List (Nat×List Int)}{seen:Array Nat}{l:List KP}(h:Sn L seen l){i:Nat}(hi:i<L.length)(hn:i∉seen.toList):Sn L (seen.push i) (l++[(kof L).getD i kd]):=by
 refine⟨?_,?_,?_⟩
 .rw[Array.toList_push,List.nodup_append];exact⟨h.nd,by simp,λa ha b hb=>by rw[List.mem_singleton.1 hb];rintro rfl;exact hn ha⟩
 .intro j hj;rw[Array.toList_push]at hj;rcases List.mem_append.1 hj with hj|hj
  .exact h.lt j hj
  .rw[List.mem_singleton.1 hj];exact hi
 .rw[Array.toList_push,List.map_append,h.eq];rfl
theorem nodup_lt:∀(n:Nat) (l:List Nat),l.Nodup->(∀i∈l,i<n)->l.length<=n
 |0,l,_,h=>by
  cases l with
  |nil=>simp
  |cons x l=>have:=h x (by simp);omega
 |n+1,l,nd,h=>by
  have ih:=nodup_lt n (l.erase n) (nd.erase n) λi hi=>by
   have h1:=h i (List.mem_of_mem_erase hi);have h2:i≠n:=λe=>by rw[e]at hi;exact nd.not_mem_erase hi
   omega
  have:=List.length_erase (a:=n) (l:=l);split at this<;>omega
theorem Sn.len {L:List (Nat×List Int)}{seen:Array Nat}{l:List KP}(h:Sn L seen l):l.length=seen.size/\seen.size<=L.length:=by
 refine⟨by rw[h.eq,List.length_map,Array.length_toList],?_⟩;have:=nodup_lt _ _ h.nd h.lt;simpa using this
theorem Sn.perm {L:List (Nat×List Int)}{seen:Array Nat}{l:List KP}(h:Sn L seen l)(hs:∀i,i<L.length->i∈seen.toList):l.Perm (kof L):=by
 have hp:seen.toList.Perm (List.range L.length):=(List.perm_ext_iff_of_nodup h.nd List.nodup_range).2 λi=>⟨λhi=>List.mem_range.2 (h.lt i hi),λhi=>hs i (List.mem_range.1 hi)⟩
 have e:(List.range L.length).map (λi=>(kof L).getD i kd)=kof L:=by
  refine List.ext_getElem (by simp[kof]) λi h1 h2=>?_;rw[List.getElem_map,List.getElem_range,List.getD,List.getElem?_eq_getElem h2];rfl
 rw[h.eq];have h2:=hp.map (λi=>(kof L).getD i kd);rwa [e]at h2
def rowsK (L:List (Nat×List Int)):List (List IV):=(kof L).map rowK
theorem parts_zero (q:List RI)(hq:RP (2^40) (2^40) q)(h0:tz (pv q)=0):AC Tryz.prog 36 [cw q] none [.iv (.sl []),ci 1]:=by
 have d:=pdeg_ok q hq;rw[h0]at d;refine AC.by_walk (rs:=[.tmp 2,.tmp 3]) ords Tryz.func36 (by rfl) (by rfl) (by rfl) (by rfl) (by rfl) ?_;simp (disch:=omega) only[wt,seval,reduceCtorEq,Nat.reduceEqDiff,OnlyQ,OnlyE,rowF,lay_fac];refine call_by (d) (by rfl) (by simp) ?_;simp (disch:=omega) only[wt,seval,reduceCtorEq,Nat.reduceEqDiff,OnlyQ,OnlyE,rowF,lay_fac]
theorem partsL_ok {P:List Int}{S T U:Nat}(E:Env P S T U)(q:List RI)(hq:RP 40 (S+10*T) q)(e:As (pv q) P)(n0:Nat)(hn0:n0=30):AC Tryz.prog 36 [cw q] none [.iv (.sl (rowsK (bmL n0 1 (npr P) (wof P)))),ci 0]:=by
 have hS:=E.hS;have h30:=E.t30;have hT:=E.t;have hu:=E.u;have hw:=E.w;obtain⟨bi0,pt⟩:=E.pts (n:=n0) (by omega);have bm:=bymultL_ok E q hq e n0 hn0;have d:=pdeg_ok q (hq.mono (by omega) (by omega));rw[as_tz e]at d;have p0:=E.p0;have hd:¬(tz P:Int)-1<0:=by omega
 have hlen:=pt.len;have hle:=λx hx=>pt.le (x:=x) hx
 have hinc:(kof (bmL n0 1 (npr P) (wof P))).Pairwise λa b=>a.1<b.1:=by
  unfold kof;rw[List.pairwise_map];exact pt.inc.imp λh=>by simpa using h
 have hkk:∀x∈kof (bmL n0 1 (npr P) (wof P)),0<=x.1/\x.1<=1000:=λx hx=>by
  simp only[kof,List.mem_map]at hx;obtain⟨y,hy,rfl⟩:=hx;have:=hle y hy;simp only;omega
 have hkl:=kof_len (bmL n0 1 (npr P) (wof P));have hwof:tz (wof P)<=11:=Nat.le_trans hw hu;clear pt bi0 hle;generalize bmL n0 1 (npr P) (wof P)=L at *;intro wA D vs hD hvs;refine calls_of_body Tryz.func36 (by rfl) (by rfl) ?_;have p:=Pin.start (n:=27) hD hvs (by simp);refine p.seq ords (J:=λf H=>f 0=.iv (.sl (raws q))) (by rfl) (by rfl) ?_ ?_
 .simp (disch:=omega) only[wt,seval,reduceCtorEq,Nat.reduceEqDiff,OnlyQ,OnlyE,rowF,lay_fac]
 intro f H β a w g0 p;refine p.seq ords (J:=λf H=>f 0=.iv (.sl (raws q))) (by rfl) (by rfl) ?_ ?_
 .simp (disch:=omega) only[wt,seval,reduceCtorEq,Nat.reduceEqDiff,OnlyQ,OnlyE,rowF,lay_fac,g0];refine call_by (d) (by first|rfl|(simp only[tocvs,tocv,toboxes,tobox,updH_at,Nat.reduceEqDiff,↓reduceIte,g0,hd];rfl)) (by simp) ?_;simp (disch:=omega) only[wt,seval,reduceCtorEq,Nat.reduceEqDiff,OnlyQ,OnlyE,rowF,lay_fac,g0,hd]
 intro f H β a w g0 p;refine p.seq ords (J:=λf H=>f 0=.iv (.sl (raws q))/\f 4=.nils) (by rfl) (by rfl) ?_ ?_
 .simp (disch:=omega) only[wt,seval,reduceCtorEq,Nat.reduceEqDiff,OnlyQ,OnlyE,rowF,lay_fac,g0]
 intro f H β a w ⟨g0,g4⟩ p;refine wpIn_seq (wpIn_seq (wpIn_region_list ?_));refine p.opsN (l1:=[_]) (l2:=[_,_]) (K:=λf H _=>f 10=.iv (.sl (raws q))/\f 4=.nils) rfl (by decide) ?_ ?_
 .simp (disch:=omega) only[wt,seval,reduceCtorEq,Nat.reduceEqDiff,OnlyQ,OnlyE,rowF,lay_fac,g0,g4]
 intro f H _ β a w ⟨g10,g4⟩ p;refine p.callMapL (d:=11) rfl rfl rfl (by decide) (c:=True/\True) (cv:=[cw q]) ?_ ⟨trivial,trivial⟩ bm ?_
 .simp only[List.map_cons,List.map_nil,ev_tmp,g10];rfl
 intro b T1 a w hT1 p;have hTl:=mxs_len hT1;rw[List.append_nil]at p;refine p.range (d:=12) rfl rfl rfl (by decide) rfl und_map ?_;intro r a w hrb p;obtain⟨β,p⟩:=p.weak (.nil 4 4 72 2 (by simp (disch:=omega) only[wt,seval,reduceCtorEq,Nat.reduceEqDiff,OnlyQ,OnlyE,rowF,lay_fac,g4]) (.refl _ _));refine wpIn_block (wpIn_loop_rel (λn a w=>∃f H β seen l st c0,n+seen.size=L.length/\T1.length<=c0/\Sn L seen l/\f 4=.hs 4 st/\H 4=.blk false st 72 2 (l.map rowK)/\f 12=.iv (.raw (.pointer (some ⟨r,0,none⟩)))/\Pin wA D 27 [(b,.map (mes T1) T1.length),(r,.mapIter (some b) T1.length seen c0)] (mgs T1) f H β a w) ?_ (m:=L.length) ⟨_,_,β,#[],[],_,_,by simp,Nat.le_refl _,⟨by simp,by simp,rfl⟩,rfl,rfl,rfl,p⟩);rintro n a w ⟨f,H,β,seen,l,st,c0,hn,hc0,hS',g4,h4,g12,p⟩;have hlen2:=hS'.len;have hl12:(l.map rowK).length<=30:=by rw[List.length_map];omega
 refine wpIn_seq (wpIn_region_list ?_);refine p.next (d:=13) hrb rfl rfl rfl (by decide) g12 mes_born hc0 ?_ ?_
 .intro a w hz p;have hpm:=hS'.perm (left_stop hT1 hz);refine p.opsAll (K:=λf H _=>f 14=.iv (.bool false)/\f 4=.hs 4 st/\H 4=.blk false st 72 2 (l.map rowK)) (by decide) ?_ ?_
  .simp (disch:=omega) only[wt,seval,reduceCtorEq,Nat.reduceEqDiff,OnlyQ,OnlyE,rowF,lay_fac,g4,h4]
  intro f H _ β a w ⟨g14,g4,h4⟩ p;refine p.seqE ords (id:=0) (J:=λf H=>f 4=.hs 4 st/\H 4=.blk false st 72 2 (l.map rowK)) (by rfl) (by rfl) ?_ ?_
  .simp (disch:=omega) only[wt,seval,reduceCtorEq,Nat.reduceEqDiff,OnlyQ,OnlyE,rowF,lay_fac,g14,g4,h4]
  intro f H β a w ⟨g4,h4⟩ p;have hs:=sort_ok (kof L) l hinc hpm hkk (by omega);refine p.seq ords (J:=λf H=>f 4=.hs 4 st/\H 4=.blk false st 72 2 ((kof L).map rowK)) (by rfl) (by rfl) ?_ ?_
  .simp (disch:=omega) only[wt,seval,reduceCtorEq,Nat.reduceEqDiff,OnlyQ,OnlyE,rowF,lay_fac,g4,h4];refine callw_by (hs) (by first|rfl|(simp (disch:=omega) only[wt,seval,reduceCtorEq,Nat.reduceEqDiff,OnlyQ,OnlyE,rowF,lay_fac,g4,h4];done)) (by first|rfl|(simp (disch:=omega) only[wt,seval,reduceCtorEq,Nat.reduceEqDiff,OnlyQ,OnlyE,rowF,lay_fac,g4,h4];done)) (by first|rfl|(simp only[tocvs,tocv,List.set_cons_zero,List.set_cons_succ,g4,h4];rfl)) (by simp) (by simp) ?_;simp (disch:=omega) only[wt,seval,reduceCtorEq,Nat.reduceEqDiff,OnlyQ,OnlyE,rowF,lay_fac,g4,h4]
  intro f H β a w ⟨g4,h4⟩ p;refine p.seq ords (J:=λf H=>f 2=.hs 4 st/\f 3=.iv (.int .i64 0)/\H 4=.blk false st 72 2 ((kof L).map rowK)) (by rfl) (by rfl) ?_ ?_
  .simp (disch:=omega) only[wt,seval,reduceCtorEq,Nat.reduceEqDiff,OnlyQ,OnlyE,rowF,lay_fac,g4,h4]
  intro f H β a w ⟨g2,g3,h4⟩ p;refine wpIn_ret ?_;obtain⟨h1,h2⟩:=p.ret (P:=Tryz.prog) (rs:=[.tmp 2,.tmp 3]) (res:=[.iv (.sl (rowsK L)),ci 0]) (by simp (disch:=omega) only[wt,seval,reduceCtorEq,Nat.reduceEqDiff,OnlyQ,OnlyE,rowF,lay_fac,g2,g3,h4];rfl);exact⟨.inr rfl,h1,h2⟩
 .intro e a w he p;obtain⟨i,hi,hni,hb,hkey,hval,hmem⟩:=left_mem hT1 he;have hS2:=hS'.push hi hni;have hl2:=hS2.len;rw[Array.size_push]at hl2;refine p.opsAll (K:=λf H _=>f 14=.iv (.bool true)/\f 12=.iv (.raw (.pointer (some ⟨r,0,none⟩)))/\f 4=.hs 4 st/\H 4=.blk false st 72 2 (l.map rowK)) (by decide) ?_ ?_
  .simp (disch:=omega) only[wt,seval,reduceCtorEq,Nat.reduceEqDiff,OnlyQ,OnlyE,rowF,lay_fac,g4,h4,g12]
  intro f H _ β a w ⟨g14,g12,g4,h4⟩ p;refine p.seq ords (J:=λf H=>f 12=.iv (.raw (.pointer (some ⟨r,0,none⟩)))/\f 4=.hs 4 st/\H 4=.blk false st 72 2 (l.map rowK)) (by rfl) (by rfl) ?_ ?_
  .simp (disch:=omega) only[wt,seval,reduceCtorEq,Nat.reduceEqDiff,OnlyQ,OnlyE,rowF,lay_fac,g14,g12,g4,h4]
  intro f H β a w ⟨g12,g4,h4⟩ p;refine wpIn_block (wpIn_seq (wpIn_region_list ?_));refine p.entry (d:=15) (X:=.iv (.sl ((kof L).getD i kd).2)) rfl rfl rfl (by decide) g12 hmem (mes_nodup T1) hkey hval ?_;intro a w p;rw[hb]at p;obtain⟨x,hx⟩:∃x,x=(kof L).getD i kd:=⟨_,rfl⟩;rw[<-hx]at p hS2;refine p.opsAll (K:=λf H _=>f 5=.iv (.int .i64 x.1)/\f 6=.iv (.sl x.2)/\f 12=.iv (.raw (.pointer (some ⟨r,0,none⟩)))/\f 4=.hs 4 st/\H 4=.blk false st 72 2 (l.map rowK)) (by decide) ?_ ?_
  .simp (disch:=omega) only[wt,seval,reduceCtorEq,Nat.reduceEqDiff,OnlyQ,OnlyE,rowF,lay_fac,g4,h4,g12]
  intro f H _ β a w ⟨g5,g6,g12,g4,h4⟩ p;refine p.last ords (J:=λf H=>∃st,f 12=.iv (.raw (.pointer (some ⟨r,0,none⟩)))/\f 4=.hs 4 st/\H 4=.blk false st 72 2 ((l++[x]).map rowK)) (by rfl) (by rfl) ?_ ?_
  .simp (disch:=omega) only[wt,seval,reduceCtorEq,Nat.reduceEqDiff,OnlyQ,OnlyE,rowF,lay_fac,g5,g6,g12,g4,h4];exact⟨_,rfl,by rw[List.map_append];rfl⟩
  intro f H β a w ⟨st,g12,g4,h4⟩ p;exact⟨n-1,by omega,f,H,β,seen.push i,l++[x],st,T1.length,by rw[Array.size_push];omega,Nat.le_refl _,hS2,g4,h4,g12,p⟩
end Go.Proofs.YtbnincgnfiaemaaGreat

namespace Go.Proofs.YtbnincgnfiaemaaGreat
open Go Go.Proofs Go.AL
set_option linter.unusedSimpArgs false
set_option linter.unusedVariables false
theorem ilims_snoc (l:List Int)(x:Int):ilims (l++[x])=ilims l++[[.int .i64 x]]:=by simp[ilims]
theorem getD_mem {α:Type}{L:List α}{i:Nat}(h:i<L.length)(d:α):L.getD i d∈L:=by
 rw[List.getD,List.getElem?_eq_getElem h,Option.getD_some];exact List.getElem_mem h

theorem cmp_sg {x y:Int}{d e:Nat}(hd:d≠0)(he:e≠0):cmpZ (x*e) (y*d)=sgq ((x:Rat)/(d:Rat)-(y:Rat)/(e:Rat)):=by
 have hd':(0:Rat)<d:=by have:0<d:=by omega
                        exact_mod_cast this
 have he':(0:Rat)<e:=by have:0<e:=by omega
                        exact_mod_cast this
 have h1:(x:Rat)/(d:Rat)*(d:Rat)=x:=Rat.div_mul_cancel (by grind);have h2:(y:Rat)/(e:Rat)*(e:Rat)=y:=Rat.div_mul_cancel (by grind);generalize (x:Rat)/(d:Rat)=u at *;generalize (y:Rat)/(e:Rat)=v at *;have key:((x*e-y*d:Int):Rat)=(d:Rat)*(e:Rat)*(u-v):=by
  rw[Rat.intCast_sub,Rat.intCast_mul,Rat.intCast_mul,Rat.intCast_natCast,Rat.intCast_natCast,<-h1,<-h2]
  grind
 have hp:=Rat.mul_pos hd' he';have s:=congrArg sgq key;rw[sgq_int,sgq_mul,sgq_pos hp,Int.one_mul]at s;rw[<-s];unfold cmpZ;generalize x*(e:Int)=p;generalize y*(d:Int)=q;split
 .rw[Int.sign_eq_neg_one_of_neg (by omega)]
 .split
  .rw[Int.sign_eq_one_of_pos (by omega)]
  .rw[show p-q=0 by omega];rfl
theorem qcmpr_ok (a b:RQ)(ha:SzQ (2^34) a)(hb:SzQ (2^34) b)(h0:nv a.2≠0)(h1:nv b.2≠0):AC Tryz.prog 163 [cqq a,cqq b] none [ci (sgq (qv a-qv b)),ci 0]:=by
 rw[qv_eq,qv_eq,<-cmp_sg h0 h1];have c:=qchecks_two a b (ha.mono (by omega)) (hb.mono (by omega)) h0 h1;have t1:=qtimes_ok a.1 b.2 (ha.1.mono (by omega)) ⟨Nat.le_trans hb.2.1 (by omega),hb.2.2⟩;have t2:=qtimes_ok b.1 a.2 (hb.1.mono (by omega)) ⟨Nat.le_trans ha.2.1 (by omega),ha.2.2⟩;have y1:=zl_iv ha.1;have y2:=zl_iv hb.1;have y3:=nt_zl ha.2;have y4:=nt_zl hb.2;have z1:=zl_mul (iv a.1) (nv b.2:Nat);have z2:=zl_mul (iv b.1) (nv a.2:Nat);have m:=zcmp_ok (canon (iv a.1*(nv b.2:Nat))) (canon (iv b.1*(nv a.2:Nat))) ((sz_canon _).mono (by omega)) ((sz_canon _).mono (by omega));rw[iv_canon,iv_canon]at m;refine AC.by_walk (rs:=[.tmp 4,.tmp 5]) ords Tryz.func163 (by rfl) (by rfl) (by rfl) (by rfl) (by rfl) ?_;simp (disch:=omega) only[wt,seval,reduceCtorEq,Nat.reduceEqDiff,rqs,cpoly_len,polys_len,rats_two];refine call_by (c) (by first|rfl|(simp only[tocvs,tocv,toboxes,tobox,updH_at,Nat.reduceEqDiff,↓reduceIte,rats_two];rfl)) (by simp) ?_;simp (disch:=omega) only[wt,seval,reduceCtorEq,Nat.reduceEqDiff,rqs,cpoly_len,polys_len,rats_two];refine .inl ⟨tmps_by (by kernel_rfl),?_⟩;refine call_by (t1) (by rfl) (by simp) ?_;simp (disch:=omega) only[wt,seval,reduceCtorEq,Nat.reduceEqDiff,rqs,cpoly_len,polys_len];refine call_by (t2) (by rfl) (by simp) ?_;simp (disch:=omega) only[wt,seval,reduceCtorEq,Nat.reduceEqDiff,rqs,cpoly_len,polys_len];refine call_by (m) (by rfl) (by simp) ?_;simp (disch:=omega) only[wt,seval,reduceCtorEq,Nat.reduceEqDiff,rqs,cpoly_len,polys_len]
 first|exact log_by (by kernel_rfl)|refine⟨log_by (by kernel_rfl),?_⟩
 try rfl
theorem CI.all {D S K:Nat}{D0:List Int}:∀(n:Nat) {X Y:List Int},CI D S K D0 X Y->∀Z∈srl n X Y,trimz Z=Z/\tz Z<=D/\tz Z≠0/\SBd (EZ S (K+1)) Z
 |0,X,Y,h,Z,hZ=>by
  rw[srl,List.mem_singleton]at hZ;subst hZ;exact⟨h.tx,h.ei.x,h.x0,h.bd.1⟩
 |n+1,X,Y,h,Z,hZ=>by
  rw[srl]at hZ;split at hZ
  .rw[List.mem_singleton]at hZ;subst hZ;exact⟨h.tx,h.ei.x,h.x0,h.bd.1⟩
  .rename_i h0;rcases List.mem_cons.1 hZ with e|e
   .subst e;exact⟨h.tx,h.ei.x,h.x0,h.bd.1⟩
   .exact CI.all n (h.step h0) Z e
abbrev scn (P:List Int):List (List Int):=srl (tz (pderiv P)) (spos P) (spos (pderiv P))
theorem Kn.all {P D0:List Int}{n S:Nat}(hk:Kn P D0 n S):∀Z∈scn P,trimz Z=Z/\tz Z<=30/\tz Z≠0/\SBd (EZ S (n+1)) Z:=λZ hZ=>by
 obtain⟨a,b,c,d⟩:=CI.all _ (CI.start hk.com hk.s hk.s') Z hZ;exact⟨a,Nat.le_trans b hk.t,c,d⟩
def frp (P:List Int):List Int:=spos (dq P (sla (tz (pderiv P)) (spos P) (spos (pderiv P))))
theorem frp_div {P D0:List Int}{n S:Nat}(hk:Kn P D0 n S):ps (dq P (sla (tz (pderiv P)) (spos P) (spos (pderiv P))))*ps (sla (tz (pderiv P)) (spos P) (spos (pderiv P)))=PS.C (lc (sla (tz (pderiv P)) (spos P) (spos (pderiv P)))^dxp P (sla (tz (pderiv P)) (spos P) (spos (pderiv P))))*ps P/\tz (sla (tz (pderiv P)) (spos P) (spos (pderiv P)))≠0/\tz (dq P (sla (tz (pderiv P)) (spos P) (spos (pderiv P))))≠0:=by
 have g:=sla_pgg (P:=P) (Nat.le_refl _) hk.ne;generalize sla (tz (pderiv P)) (spos P) (spos (pderiv P))=G at *;have h0:tz G≠0:=λh0=>hk.ne (gg_tz0 g h0).1
 have e:=dres_div P G;rw[ps_zero_of ((dv_dr h0).mp g.a),PS.add_zero]at e;refine⟨e,h0,λhz=>?_⟩;rw[ps_zero_of hz,PS.zero_mul]at e;have hP:tz (pscale (lc G^dxp P G) P)=0:=tz_zero_iff.mpr λk=>by
  have:=ps_eq (p:=pscale (lc G^dxp P G) P) (q:=[]) (by rw[ps_pscale,<-e,ps_nil]) k;rw[this,cf_nil]
 rw[tz_pscale (lcp_ne h0 _)]at hP;exact hk.ne hP
theorem sb_pderiv {P:List Int}{S n:Nat}(h:SBd S P)(ht:tz P<=n)(hn:n<W):SBd (S+1) (pderiv P):=λk=>by
 rw[cf_pderiv];by_cases hk:tz P<=k+1
 .rw[cf_ge_tz P hk,Int.zero_mul,zl_zero];omega
 .have h1:=zl_mul (cf P (k+1)) ((k+1:Nat):Int);have h2:=h (k+1);have h3:zl ((k+1:Nat):Int)<=1:=zl_le.mpr (by rw[Nat.pow_one];omega);omega
theorem EZ.monoS {S T:Nat}(h:S<=T):∀i,EZ S i<=EZ T i
 |0=>h
 |1=>by show 2*S+1<=2*T+1;omega
 |i+2=>by
  have:=EZ.monoS h i;have:=EZ.monoS h (i+1);show 2*EZ S (i+1)+EZ S i+2<=2*EZ T (i+1)+EZ T i+2;omega
theorem ez_top {S n:Nat}(hS:S<=350)(hn:n<=10):EZ S (n+1)<=2^23:=by
 have h1:=EZ.monoS hS (n+1);have h2:=EZ.mono 350 (show n+1<=11 by omega);have h3:EZ 350 11<=2^23:=by decide +kernel
 omega
structure Kw (p:List RI) (D0:List Int) (n S:Nat) (rs:List Rat):Prop where
 kn:Kn (pv p) D0 n S
 rp:RP 40 S p
 n10:n<=10
 s40:S<=45
 root:Root2 (pv p) rs
theorem Kw.mem {p:List RI}{D0:List Int}{n S:Nat}{rs:List Rat}(h:Kw p D0 n S rs):∀X∈scn (pv p),RP 40 (2^24) (cn X):=λX hX=>by
 obtain⟨a,b,c,d⟩:=h.kn.all X hX;have e:=ez_top (S:=S) (n:=n) (by have:=h.s40;omega) h.n10;exact rp_sb (by omega) (d.mono (by omega))
theorem Kw.simp {p:List RI}{D0:List Int}{n S:Nat}{rs:List Rat}(h:Kw p D0 n S rs):Simp1 (frp (pv p)) rs:=by
 obtain⟨e,g0,q0⟩:=frp_div h.kn;exact freed_of h.root h.kn.ne (Nat.le_refl _) (lcp_ne g0 _) e




def clz (n lo hi:Int):Int:=if n<lo then lo else if hi<n then hi else n
theorem clz_bd {n lo hi:Int}(h:lo<=hi):lo<=clz n lo hi/\clz n lo hi<=hi:=by unfold clz;split<;>(try split)<;>omega
theorem clamp_ok (n lo hi:Int):AC Tryz.prog 96 [ci n,ci lo,ci hi] none [ci (clz n lo hi)]:=by
 unfold clz;by_cases h1:n<lo
 .rw[if_pos h1];refine AC.by_walk (rs:=[.tmp 6]) ords Tryz.func96 (by rfl) (by rfl) (by rfl) (by rfl) (by rfl) ?_;simp (disch:=omega) only[wt,seval,reduceCtorEq,Nat.reduceEqDiff,rqs,h1]
  try rfl
 .by_cases h2:hi<n
  .rw[if_neg h1,if_pos h2];refine AC.by_walk (rs:=[.tmp 6]) ords Tryz.func96 (by rfl) (by rfl) (by rfl) (by rfl) (by rfl) ?_;simp (disch:=omega) only[wt,seval,reduceCtorEq,Nat.reduceEqDiff,rqs,h1,h2]
   try rfl
  .rw[if_neg h1,if_neg h2];refine AC.by_walk (rs:=[.tmp 6]) ords Tryz.func96 (by rfl) (by rfl) (by rfl) (by rfl) (by rfl) ?_;simp (disch:=omega) only[wt,seval,reduceCtorEq,Nat.reduceEqDiff,rqs,h1,h2]
   try rfl
theorem copynat_ok (l:List Nat)(h:l.length<=2^40):AC Tryz.prog 106 [cl l] none [cl l]:=by
 refine AC.by_walk (rs:=[.tmp 2]) ords Tryz.func106 (by rfl) (by rfl) (by rfl) (by rfl) (by rfl) ?_;simp (disch:=omega) only[wt,seval,reduceCtorEq,Nat.reduceEqDiff,rqs]
 try rfl
theorem copyint_ok (c:RI)(h:c.2.length<=2^40):AC Tryz.prog 165 [cr c] none [cr c]:=by
 have n:=copynat_ok c.2 h;refine AC.by_walk (rs:=[.cell 2 44]) ords Tryz.func165 (by rfl) (by rfl) (by rfl) (by rfl) (by rfl) ?_;simp (disch:=omega) only[wt,seval,reduceCtorEq,Nat.reduceEqDiff,rqs];refine .inl ⟨tmps_by (by kernel_rfl),?_⟩;refine call_by (n) (by rfl) (by simp) ?_;simp (disch:=omega) only[wt,seval,reduceCtorEq,Nat.reduceEqDiff,rqs]
 first|exact log_by (by kernel_rfl)|refine⟨log_by (by kernel_rfl),?_⟩
 try rfl
theorem copyrat_ok (r:RQ)(h:r.1.2.length<=2^40)(h2:r.2.length<=2^40):AC Tryz.prog 164 [cqq r] none [cqq r]:=by
 have n:=copynat_ok r.2 h2;have m:=copyint_ok r.1 h;refine AC.by_walk (rs:=[.cell 2 46]) ords Tryz.func164 (by rfl) (by rfl) (by rfl) (by rfl) (by rfl) ?_;simp (disch:=omega) only[wt,seval,reduceCtorEq,Nat.reduceEqDiff,rqs];refine .inl ⟨tmps_by (by kernel_rfl),?_⟩;refine call_by (m) (by rfl) (by simp) ?_;simp (disch:=omega) only[wt,seval,reduceCtorEq,Nat.reduceEqDiff,rqs];refine call_by (n) (by rfl) (by simp) ?_;simp (disch:=omega) only[wt,seval,reduceCtorEq,Nat.reduceEqDiff,rqs]
 first|exact log_by (by kernel_rfl)|refine⟨log_by (by kernel_rfl),?_⟩
 try rfl
theorem wd_word {n:Nat}(h0:n≠0)(h:n<W):wd n=[n]:=by
 have h1:zl (n:Int)<=1:=zl_le.mpr (by rw[Nat.pow_one,Int.natAbs_natCast];exact h);have h2:zl (n:Int)=(wd n).length:=by unfold zl;rw[Int.natAbs_natCast]
 have h3:=nv_wd n
 match hw:wd n with
 |[]=>rw[hw]at h3;exact absurd h3.symm h0
 |[a] =>
  rw[hw]at h3;have:nv [a]=a:=by simp[nv,vl]
  rw[<-h3,this]
 |a::b::l=>rw[hw]at h2;simp only[List.length_cons]at h2;omega
theorem whole_ok (n:Int)(h : -9223372036854775808<n)(h':n<9223372036854775808):AC Tryz.prog 94 [ci n] none [cz n]:=by
 by_cases h0:n=0
 .subst h0;show AC Tryz.prog 94 [ci 0] none [cr (canon 0)];rw[canon_zero];refine AC.by_walk (rs:=[.cell 2 44]) ords Tryz.func94 (by rfl) (by rfl) (by rfl) (by rfl) (by rfl) ?_;simp (disch:=omega) only[wt,seval,reduceCtorEq,Nat.reduceEqDiff,rqs]
  try rfl
 .by_cases hn:n<0
  .have e:canon n=(true,[n.natAbs]):=by rw[canon,decide_eq_true hn,wd_word (by omega) (by simp only[W];omega)]
   have e1:IntKind.u64.wrap (0-n)=(n.natAbs:Int):=by
    rw[show (0:Int)-n=(n.natAbs:Int) by omega];exact wrap_nat (by simp only[W];omega)
   show AC Tryz.prog 94 [ci n] none [cr (canon n)];rw[e];refine AC.by_walk (rs:=[.cell 2 44]) ords Tryz.func94 (by rfl) (by rfl) (by rfl) (by rfl) (by rfl) ?_;simp (disch:=omega) only[wt,seval,reduceCtorEq,Nat.reduceEqDiff,rqs,h0,hn,e1]
   try rfl
  .have e:canon n=(false,[n.natAbs]):=by rw[canon,decide_eq_false hn,wd_word (by omega) (by simp only[W];omega)]
   have e1:IntKind.u64.wrap n=(n.natAbs:Int):=by
    have:n=(n.natAbs:Int):=by omega
    rw[this];exact wrap_nat (by simp only[W];omega)
   show AC Tryz.prog 94 [ci n] none [cr (canon n)];rw[e];refine AC.by_walk (rs:=[.cell 2 44]) ords Tryz.func94 (by rfl) (by rfl) (by rfl) (by rfl) (by rfl) ?_;simp (disch:=omega) only[wt,seval,reduceCtorEq,Nat.reduceEqDiff,rqs,h0,hn,e1]
   try rfl
theorem tpoly_ok (l:List Int)(hl:l.length<=1000)(h:∀z∈l,-9223372036854775808<z/\z<9223372036854775808):AC Tryz.prog 37 [cis l] none [cw (l.map canon)]:=by
 refine AC.by_walk (rs:=[.tmp 2]) ords Tryz.func37 (by rfl) (by rfl) (by rfl) (by rfl) (by rfl) ?_;simp (disch:=omega) only[wt,seval,reduceCtorEq,Nat.reduceEqDiff,rqs];refine aloop_by (λf H=>∃(i st:Nat),i<=l.length/\f 9=.iv (.int .i64 i)/\f 7=.iv (.sl (ilims l))/\f 8=.iv (.int .i64 l.length)/\f 3=.hs 6 st/\H 6=.blk false st 44 2 (raws ((l.take i).map canon))) (λf H=>(l.length-intAt f 9).toNat) ?_ ?_
 .refine⟨0,1,by omega,?_⟩;simp (disch:=omega) only[wt,seval,reduceCtorEq,Nat.reduceEqDiff,rqs,List.take_zero,List.map_nil]
 rintro f H ⟨i,st,hi,hF⟩;rw[intAt_of hF.1];simp (disch:=omega) only[wt,seval,reduceCtorEq,Nat.reduceEqDiff,rqs,hF];refine if_by (λhlt=>?_) (λhlt=>?_)
 .have hlt':i<l.length:=by omega
  have hq:((l.take i).map canon).length=i:=by rw[List.length_map,List.length_take];omega
  have hm:=h _ (getD_mem hlt' 0);have w:=whole_ok (l.getD i 0) hm.1 hm.2;simp (disch:=omega) only[wt,seval,reduceCtorEq,Nat.reduceEqDiff,rqs,hF,hq];refine call_by (w) (by first|rfl|(simp only[tocvs,tocv,toboxes,tobox,updH_at,Nat.reduceEqDiff,↓reduceIte,hF,hq];rfl)) (by simp) ?_;simp (disch:=omega) only[wt,seval,reduceCtorEq,Nat.reduceEqDiff,rqs,hF,hq];refine⟨⟨i+1,st+1,by omega,?_⟩,by omega⟩;rw[show l.take (i+1)=l.take i++[l.getD i 0] by rw[List.take_add_one];simp[List.getD,hlt']]
  (repeat' apply And.intro)<;>first|rfl|omega
 .obtain rfl:i=l.length:=by omega
  rw[List.take_length]at hF;simp (disch:=omega) only[wt,seval,reduceCtorEq,Nat.reduceEqDiff,rqs,hF]
  try rfl
theorem copyz_ok (p:List RI)(hl:p.length<=1000)(h:∀c∈p,c.2.length<=2^40):AC Tryz.prog 101 [cw p] none [cw p]:=by
 refine AC.by_walk (rs:=[.tmp 2]) ords Tryz.func101 (by rfl) (by rfl) (by rfl) (by rfl) (by rfl) ?_;simp (disch:=omega) only[wt,seval,reduceCtorEq,Nat.reduceEqDiff,rqs];refine aloop_by (λf H=>∃(i st:Nat),i<=p.length/\f 9=.iv (.int .i64 i)/\f 7=.iv (.sl (raws p))/\f 8=.iv (.int .i64 p.length)/\f 3=.hs 6 st/\H 6=.blk false st 44 2 (raws (p.take i))) (λf H=>(p.length-intAt f 9).toNat) ?_ ?_
 .refine⟨0,1,by omega,?_⟩;simp (disch:=omega) only[wt,seval,reduceCtorEq,Nat.reduceEqDiff,rqs,List.take_zero]
 rintro f H ⟨i,st,hi,hF⟩;rw[intAt_of hF.1];simp (disch:=omega) only[wt,seval,reduceCtorEq,Nat.reduceEqDiff,rqs,hF];refine if_by (λhlt=>?_) (λhlt=>?_)
 .have hlt':i<p.length:=by omega
  have hq:(p.take i).length=i:=by rw[List.length_take];omega
  have w:=copyint_ok (p.getD i (false,[])) (h _ (getD_mem hlt' _));simp (disch:=omega) only[wt,seval,reduceCtorEq,Nat.reduceEqDiff,rqs,hF,hq];refine call_by (w) (by first|rfl|(simp only[tocvs,tocv,toboxes,tobox,updH_at,Nat.reduceEqDiff,↓reduceIte,hF,hq];rfl)) (by simp) ?_;simp (disch:=omega) only[wt,seval,reduceCtorEq,Nat.reduceEqDiff,rqs,hF,hq];refine⟨⟨i+1,st+1,by omega,?_⟩,by omega⟩;rw[show p.take (i+1)=p.take i++[p.getD i (false,[])] by rw[List.take_add_one];simp[List.getD,hlt']]
  (repeat' apply And.intro)<;>first|rfl|omega
 .obtain rfl:i=p.length:=by omega
  rw[List.take_length]at hF;simp (disch:=omega) only[wt,seval,reduceCtorEq,Nat.reduceEqDiff,rqs,hF]
  try rfl
end Go.Proofs.YtbnincgnfiaemaaGreat
