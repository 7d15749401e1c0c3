/-
 Contracts of the functions that the law reaches.
-/
import Derived.Test.YtmoiodckaadchaaGreatL106M
import Derived.Test.YtmoiodckaadchaaGreatAbsT
import Derived.Test.YtmoiodckaadchaaGreatL298M
set_option maxHeartbeats 2000000
namespace Go.Proofs.YtmoiodckaadchaaGreat
open Go Go.Proofs Go.AL
set_option linter.unusedSimpArgs false
set_option linter.unusedVariables false
theorem pq_cqs (X:List Rat):pq (qvs (cqs X))=pq X:=by rw[qvs_cqs,pq_trimq]
theorem cqs_pq {X Y:List Rat}(h:pq X=pq Y):cqs X=cqs Y:=cqs_ext (pq_eq h)
theorem qpmul_g {p q:List RQ}{n k:Nat}{X Y:List Rat}(hp:GQ n k p)(hq:GQ n k q)(hn:n<=2^28)(hM:n*k+k+2<=2^34)(hk:1<=k)(ex:pq (qvs p)=pq X)(ey:pq (qvs q)=pq Y):AC Tryz.prog 89 [cqw p,cqw q] none [cqp (mulq X Y),ci 0]:=by
 have h:=qpmul_ok p q n k hp hq hn hM hk;rwa [show cqp (mulq (qvs p) (qvs q))=cqp (mulq X Y) from congrArg cqw (cqs_pq (by rw[pq_mulq,pq_mulq,ex,ey]))]at h
theorem qpadd_g {p q:List RQ}{K:Nat}{X Y:List Rat}(hp:GQ (2^30) K p)(hq:GQ (2^30) K q)(hK:K<=2^35)(hK1:1<=K)(ex:pq (qvs p)=pq X)(ey:pq (qvs q)=pq Y):AC Tryz.prog 88 [cqw p,cqw q] none [cqp (addq X Y),ci 0]:=by
 have h:=qpadd_ok p q K hp hq hK hK1;rwa [show cqp (addq (qvs p) (qvs q))=cqp (addq X Y) from congrArg cqw (cqs_pq (by rw[pq_addq,pq_addq,ex,ey]))]at h
def fma (c:Rat)(a b:Rat):Rat:=a+c*b

def upq (c:Rat)(n:Nat):List Rat:=List.replicate n 0++[c]
def dc (A B:List Rat):Rat:=cfq A (A.length-1)/cfq B (B.length-1)
def dn1 (A B:List Rat):List Rat:=trimq (zipq (fma (-1)) A (mulq (upq (dc A B) (A.length-B.length)) B))
theorem tzq_low {q:List Rat}{n:Nat}(h:∀k,n<=k->cfq q k=0):tzq q<=n:=by
 rcases Nat.lt_or_ge n (tzq q) with h1|h1
 .exact absurd (h (tzq q-1) (by omega)) (cfq_tzq_pred (by omega))
 .exact h1
def dit (A B:List Rat):Nat->List Rat
 |0=>A
 |k+1=>dn1 (dit A B k) B
theorem CD.cf {D n M:Nat}{q:List Rat}(h:CB D n M q)(k:Nat):CD D M (cfq q k):=by
 by_cases hk:k<q.length
 .rw[cfq_lt hk];exact h.c _ (List.getElem_mem hk)
 .rw[cfq_ge (by omega)];exact CD.zero _ _
theorem qz_inv (q:Rat):qz (1/q)<=qz q:=by
 by_cases h:q.num=0
 .have:q=0:=Rat.num_eq_zero.mp h;rw[this,show (1:Rat)/0=0 by decide +kernel];exact Nat.le_refl _
 .have h1:(q.num:Rat)≠0:=λe=>h (Rat.intCast_eq_zero_iff.mp e)
  have h2:=natr_ne q.den_nz;have e:(1:Rat)/q=((q.den:Int):Rat)/(q.num:Rat):=by
   have h3:q=(q.num:Rat)/(q.den:Rat):=by rw[<-Rat.mkRat_eq_div];exact(Rat.mkRat_self q).symm
   rw[Rat.intCast_natCast]
   conv=>lhs;rw[h3]
   grind
  have hp:=qz_parts q;rw[e,<-mk_div h];refine qz_mk (by omega) ?_ ?_
  .split
   .rw[zl_neg,zl_nat];exact hp.2
   .rw[zl_nat];exact hp.2
  .exact hp.1
theorem qz_div (p q:Rat):qz (p/q)<=qz p+qz q:=by
 have h1:=qz_mul p (1/q);have h2:=qz_inv q;rw[show p*(1/q)=p/q by rw[Rat.div_def,Rat.div_def,Rat.one_mul]]at h1;omega
theorem CD.den_dvd {D M:Nat}{q:Rat}(hD:D≠0)(h:CD D M q):q.den∣D:=by
 obtain⟨z,e,hz⟩:=h;have h1:=natr_ne hD;have h2:=natr_ne q.den_nz;have h3:(q.num:Rat)/(q.den:Rat)=(z:Rat)/(D:Rat):=by
  rw[<-e,<-Rat.mkRat_eq_div];exact Rat.mkRat_self q
 have h4:(q.num:Rat)*(D:Rat)=(z:Rat)*(q.den:Rat):=by grind
 have h5:q.num*(D:Int)=z*(q.den:Int):=by
  rw[<-Rat.intCast_natCast,<-Rat.intCast_natCast,<-Rat.intCast_mul,<-Rat.intCast_mul]at h4;exact Rat.intCast_inj.mp h4
 have h6:q.den∣q.num.natAbs*D:=⟨z.natAbs,by
  have:=congrArg Int.natAbs h5;rw[Int.natAbs_mul,Int.natAbs_mul,Int.natAbs_natCast,Int.natAbs_natCast]at this;rw[this,Nat.mul_comm]⟩
 exact(q.reduced.symm).dvd_of_dvd_mul_left h6
theorem qsum_cd {D M n:Nat}{f:Nat->Rat}(h:∀i,i<n->CD D M (f i)):CD D (M+n) (qsum n f):=by
 induction n with
 |zero=>exact CD.zero _ _
 |succ n ih =>
  have h1:=ih λi hi=>h i (by omega)
  have h2:=h n (by omega);exact(h1.add h2).mono (by omega)
theorem lcmL_dvd {D:Nat}:∀(l:List Nat) (i:Nat),(∀x∈l,x∣D)->lcmL (l.take i)∣D
 |l,0,_=>by rw[List.take_zero];exact Nat.one_dvd _
 |l,i+1,h=>by
  by_cases hi:i<l.length
  .rw[lcmL_take hi];refine Nat.lcm_dvd (lcmL_dvd l i h) (h _ ?_);rw[List.getD,List.getElem?_eq_getElem hi,Option.getD_some];exact List.getElem_mem hi
  .rw[List.take_of_length_le (by omega),<-List.take_of_length_le (l:=l) (i:=i) (by omega)];exact lcmL_dvd l i h
theorem CB.dens_dvd {D n M:Nat}{A:List Rat}(h:CB D n M A):∀x∈dens A,x∣D:=λx hx=>by
 obtain⟨c,hc,rfl⟩:=List.mem_map.1 hx;exact(h.c c hc).den_dvd h.d
theorem CB.lcm_len {D n M:Nat}{A:List Rat}(h:CB D n M A)(i:Nat):(wd (lcmL ((dens A).take i))).length<=M :=
 Nat.le_trans (wd_len_mono (Nat.le_of_dvd (Nat.pos_of_ne_zero h.d) (lcmL_dvd _ i h.dens_dvd))) h.w
theorem CB.cden_dvd {D n M:Nat}{A:List Rat}(h:CB D n M A):cden A∣D:=by
 have:=lcmL_dvd (dens A) (dens A).length h.dens_dvd;rwa [List.take_length]at this
theorem CB.cden_len {D n M:Nat}{A:List Rat}(h:CB D n M A):(wd (cden A)).length<=M :=
 Nat.le_trans (wd_len_mono (Nat.le_of_dvd (Nat.pos_of_ne_zero h.d) h.cden_dvd)) h.w
theorem CB.mulq {D E n m M N:Nat}{A B:List Rat}(hA:CB D n M A)(hB:CB E m N B):CB (D*E) (n+m) (M+N+(n+m)) (mulq A B) where
 d:=Nat.mul_ne_zero hA.d hB.d
 w:=by
  have h1:=AL.wd_mul_len D E;have h2:=hA.w;have h3:=hB.w;omega
 l:=by
  simp only[mulq_def,List.length_map,List.length_range];have:=hA.l;have:=hB.l;omega
 c:=λc hc=>by
  obtain⟨k,hk,rfl⟩:=List.getElem_of_mem hc;have hl:k<n+m:=by
   simp only[mulq_def,List.length_map,List.length_range]at hk;have:=hA.l;have:=hB.l;omega
  rw[<-cfq_lt hk,cfq_mulq,PQ.cvq_conv];exact(qsum_cd (n:=k+1) (f:=λi=>cfq A i*cfq B (k-i)) λi _=>CD.mul hA.d hB.d (CD.cf hA _) (CD.cf hB _)).mono (by omega)

theorem set_crat {X Y:List Rat}{i:Nat}{c:Rat}(hl:X.length=Y.length)(hc:cfq Y i=c)(ho:∀j,j<Y.length->j≠i->cfq Y j=cfq X j):(X.map crat).set i (crat c)=Y.map crat:=by
 rw[<-List.map_set]
 congr 1
 refine List.ext_getElem (by rw[List.length_set,hl]) λj h1 h2=>?_;rw[List.getElem_set];split
 .rename_i e;subst e;rw[<-hc,cfq_lt h2]
 .rename_i e;have:=ho j h2 (λh=>e h.symm);rw[cfq_lt h2,cfq_lt (by rw[List.length_set]at h1;exact h1)]at this;exact this.symm
structure DV (A B:List Rat) (n K:Nat):Prop where
 la:A.length<=2^28
 lb:B.length<=2^28
 h0:B.length≠0
 hb:cfq B (B.length-1)≠0
 ta:trimq A=A
 tb:trimq B=B
 en:(dit A B n).length<B.length
 hj:∀j,j<n->B.length<=(dit A B j).length
 za:∀k,k<=n->∀i,qz (cfq (dit A B k) i)<=K
 zb:∀i,qz (cfq B i)<=K
 k1:1<=K
 k2:K<=2^32
def hrows:HC->Nat
 |.blk _ _ _ _ rows=>rows.length
 |_=>0


theorem CB.one_list:CB 1 1 1 [1] where
 d:=by omega
 w:=by decide +kernel
 l:=Nat.le_refl _
 c:=λc hc=>by
  rcases List.mem_singleton.1 hc with rfl;exact⟨1,by decide +kernel,by decide +kernel⟩
def PWH (A:List Rat)(m N K:Nat):Prop:=∀k,k<=m->∃D,CB D N K (powq A k)
structure PWK (A:List Rat) (m N K:Nat):Prop where
 h:∀k,k<=m->∃D,CB D N K (trimq (powq A k))
theorem PWH.k {A:List Rat}{m N K:Nat}(h:PWH A m N K):PWK A m N K:=⟨λk hk=>by
 obtain⟨D,hD⟩:=h k hk;exact⟨D,hD.trim⟩⟩
theorem PWK.mono {A:List Rat}{m N K N' K':Nat}(h:PWK A m N K)(hN:N<=N')(hK:K<=K'):PWK A m N' K':=⟨λk hk=>by
 obtain⟨D,hD⟩:=h.h k hk;exact⟨D,hD.mono hN hK⟩⟩
theorem CB.part {D E n m M N:Nat}{A B:List Rat}(hA:CB D n M A)(hB:CB E m N B)(h1:1<=M+N+(n+m))(i k:Nat):qz (cvq (A.take i) (cfq B) k)<=M+N+(n+m):=by
 have h:=((hA.sub (r:=A.take i) (by rw[List.length_take];have:=hA.l;omega) λc hc=>List.mem_of_mem_take hc).mulq hB).qb.cz h1 k;rwa [cfq_mulq]at h
theorem evq_addq:∀(p q:List Rat) (x:Rat),evq (addq p q) x=evq p x+evq q x
 |[],q,x=>by
  rw[evq_ext x (q:=q) λk=>by rw[cfq_addq,cfq_nil,Rat.zero_add],evq,Rat.zero_add]
 |c::p,[],x=>by
  rw[evq_ext x (q:=c::p) λk=>by rw[cfq_addq,cfq_nil,Rat.add_zero],evq_nil,Rat.add_zero]
 |c::p,d::q,x=>by
  have e:∀k,cfq (addq (c::p) (d::q)) k=cfq ((c+d)::addq p q) k:=λk=>by
   rw[cfq_addq];cases k with
   |zero=>rfl
   |succ k=>rw[cfq_cons_succ,cfq_cons_succ,cfq_cons_succ,cfq_addq]
  rw[evq_ext x e,evq,evq,evq,evq_addq p q x]
  grind
theorem evq_sclq (c:Rat)(p:List Rat)(x:Rat):evq (sclq c p) x=c*evq p x:=by
 induction p with
 |nil=>rw[show sclq c []=[] from rfl,evq];grind
 |cons d p ih =>
  rw[show sclq c (d::p)=(d*c)::sclq c p from rfl,evq,evq,ih]
  grind
theorem evq_mulq:∀(p q:List Rat) (x:Rat),evq (mulq p q) x=evq p x*evq q x
 |[],q,x=>by
  rw[evq_ext x (q:=[]) λk=>by rw[cfq_mulq];rfl,evq]
  grind
 |c::p,q,x=>by
  have e:∀k,cfq (mulq (c::p) q) k=cfq (addq (sclq c q) (0::mulq p q)) k:=λk=>by
   rw[cfq_mulq_cons,cfq_addq,cfq_sclq,Rat.mul_comm c]
   congr 1
   cases k with
   |zero=>rfl
   |succ k=>rfl
  rw[evq_ext x e,evq_addq,evq_sclq,evq,evq,evq_mulq p q x]
  grind
theorem sqq_cons (c d:Rat)(p:List Rat)(a:Rat):sqq (c::d::p) a=evq (d::p) a::sqq (d::p) a:=by
 simp only[sqq,List.length_cons,Nat.add_sub_cancel,List.range_succ_eq_map,List.map_cons,List.map_map,List.drop_succ_cons,List.drop_zero];rfl
theorem evq_cons (c:Rat)(p:List Rat)(x:Rat):evq (c::p) x=c+x*evq p x:=rfl
theorem evq_split (p:List Rat)(a x:Rat):evq p x=evq p a+(x-a)*evq (sqq p a) x:=by
 induction p with
 |nil=>rw[sqq_nil,evq_nil,evq_nil];grind
 |cons c p ih =>
  cases p with
  |nil=>rw[show sqq [c] a=[] from rfl];simp only[evq_cons,evq_nil];grind
  |cons d p =>
   rw[sqq_cons,evq_cons c,evq_cons c,evq_cons (evq (d::p) a),ih];generalize evq (d::p) a=u;generalize evq (sqq (d::p) a) x=v
   grind
theorem sqq_all_zero {p:List Rat}{a:Rat}(h:∀k,cfq (sqq p a) k=0)(h0:evq p a=0):∀k,cfq p k=0:=λk=>by
 by_cases hk:k<p.length
 .have e:=evq_drop p a hk;have e1:evq (p.drop (k+1)) a=0:=by rw[<-cfq_sqq];exact h k
  have e2:evq (p.drop k) a=0:=by
   cases k with
   |zero=>rwa [List.drop_zero]
   |succ j=>rw[<-cfq_sqq];exact h j
  rw[e1,e2]at e;show p.getD k 0=0
  grind
 .exact cfq_ge (by omega)
theorem roots_zero:∀(X p:List Rat),p.length<=X.length->X.Nodup->(∀x∈X,evq p x=0)->∀k,cfq p k=0
 |[],p,hl,_,_=>by
  rw[List.length_eq_zero_iff.mp (Nat.le_zero.mp hl)];exact cfq_nil
 |a::X,p,hl,hd,hz=>by
  have hd':=List.nodup_cons.mp hd;refine sqq_all_zero (roots_zero X (sqq p a) (by rw[sqq_len];rw[List.length_cons]at hl;omega) hd'.2 λx hx=>?_) (hz a (by simp));have e:=evq_split p a x;rw[hz x (by simp[hx]),hz a (by simp)]at e;have hne:x≠a:=λe=>hd'.1 (e▸hx)
  have hne':x-a≠0:=λh=>hne (by grind)
  grind
theorem roots_low {X p:List Rat}(hl:∀k,X.length<=k->cfq p k=0)(hd:X.Nodup)(hz:∀x∈X,evq p x=0)(k:Nat):cfq p k=0:=by
 rw[<-cfq_trimq];refine roots_zero X (trimq p) ?_ hd (λx hx=>by rw[evq_trim];exact hz x hx) k;rw[trimq_len];exact tzq_low hl
theorem interp_unique {X p q:List Rat}(hp:∀k,X.length<=k->cfq p k=0)(hq:∀k,X.length<=k->cfq q k=0)(hd:X.Nodup)(hz:∀x∈X,evq p x=evq q x)(k:Nat):cfq p k=cfq q k:=by
 have h:=roots_low (X:=X) (p:=addq p (sclq (-1) q)) (λk hk=>by rw[cfq_addq,cfq_sclq,hp k hk,hq k hk];grind) hd (λx hx=>by rw[evq_addq,evq_sclq,hz x hx];grind) k;rw[cfq_addq,cfq_sclq]at h
 grind
theorem nodup_of {X:List Rat}(h:∀i j,j<i->i<X.length->cfq X i≠cfq X j):X.Nodup:=by
 rw[List.Nodup,List.pairwise_iff_getElem];intro i j hi hj hij e;have:=h j i hij hj;rw[cfq_lt hj,cfq_lt hi]at this;exact this e.symm
theorem nodup_cf {X:List Rat}(h:X.Nodup){i j:Nat}(hi:i<X.length)(hj:j<X.length)(hij:i≠j):cfq X i≠cfq X j:=by
 rw[cfq_lt hi,cfq_lt hj];rw[List.Nodup,List.pairwise_iff_getElem]at h;rcases Nat.lt_or_gt_of_ne hij with hl|hl
 .exact h i j hi hj hl
 .exact λe=>h j i hj hi hl e.symm
def lineq (c:Rat):List Rat:=[-c,1]
theorem evq_line (c x:Rat):evq (lineq c) x=x-c:=by
 rw[lineq,evq,evq,evq_nil];grind
theorem cfq_line (c:Rat)(k:Nat)(h:1<k):cfq (lineq c) k=0:=cfq_ge (by simp[lineq];omega)
def froot (X:List Rat)(b:Nat):Nat->List Rat
 |0=>[1]
 |k+1=>if k=b then froot X b k else mulq (froot X b k) (lineq (cfq X k))
theorem froot_zero (X:List Rat)(b k i:Nat)(hi:i<k)(hb:i≠b):evq (froot X b k) (cfq X i)=0:=by
 induction k with
 |zero=>omega
 |succ k ih =>
  rw[froot];by_cases hk:i=k
  .subst hk;rw[if_neg hb,evq_mulq,evq_line];grind
  .have h:=ih (by omega);split
   .exact h
   .rw[evq_mulq,h,Rat.zero_mul]
theorem froot_ne (X:List Rat)(b k:Nat)(x:Rat)(h:∀i,i<k->i≠b->x≠cfq X i):evq (froot X b k) x≠0:=by
 induction k with
 |zero=>rw[froot,evq,evq_nil];grind
 |succ k ih =>
  have h1:=ih λi hi=>h i (by omega)
  rw[froot];split
  .exact h1
  .rename_i hk;have h2:=h k (by omega) hk;rw[evq_mulq,evq_line];have h3:x-cfq X k≠0:=λe=>h2 (by grind)
   exact λe=>by rcases Rat.mul_eq_zero.mp e with e|e<;>contradiction
def fdeg (b k:Nat):Nat:=if b<k then k-1 else k
theorem froot_deg (X:List Rat)(b k:Nat):cfq (froot X b k) (fdeg b k)=1/\∀j,fdeg b k<j->cfq (froot X b k) j=0:=by
 induction k with
 |zero =>
  refine⟨rfl,λj hj=>cfq_ge ?_⟩;rw[froot,List.length_singleton];omega
 |succ k ih =>
  rw[froot];by_cases hk:k=b
  .rw[if_pos hk,show fdeg b (k+1)=fdeg b k by unfold fdeg;rw[if_pos (by omega),if_neg (by omega)];omega];exact ih
  .rw[if_neg hk,show fdeg b (k+1)=fdeg b k+1 by unfold fdeg;split<;>split<;>omega];obtain⟨h1,h2⟩:=cvq_top (g:=cfq (lineq (cfq X k))) (n:=1) (λj hj=>cfq_line _ j hj) (froot X b k) (fdeg b k) ih.2;refine⟨?_,λj hj=>by rw[cfq_mulq];exact h2 j hj⟩;rw[cfq_mulq,h1,ih.1,show cfq (lineq (cfq X k)) 1=1 from rfl,Rat.mul_one]
theorem CB.line {c:Rat}{K:Nat}(h:qz c<=K):CB c.den 2 K (lineq c) where
 d:=c.den_nz
 w:=Nat.le_trans (qz_parts c).2 h
 l:=Nat.le_refl _
 c:=λx hx=>by
  rcases List.mem_cons.1 hx with rfl|hx
  .exact((CD.ofRat c).neg).mono (Nat.le_trans (qz_parts c).1 h)
  .rcases List.mem_singleton.1 hx with rfl;refine⟨(c.den:Int),?_,?_⟩
   .rw[Rat.intCast_natCast,Rat.div_def,Rat.mul_inv_cancel _ (natr_ne c.den_nz)]
   .rw[zl_nat];exact Nat.le_trans (qz_parts c).2 h
theorem froot_cb {X:List Rat}{K N:Nat}(h:∀i,qz (cfq X i)<=K)(b:Nat):∀k,k<=N->∃E,CB E (1+2*k) (1+k*(K+2*N+3)) (froot X b k)
 |0,_=>⟨1,by rw[Nat.mul_zero,Nat.zero_mul];exact CB.one_list⟩
 |k+1,hk=>by
  obtain⟨E,hE⟩:=froot_cb (N:=N) h b k (by omega);have e2:(k+1)*(K+2*N+3)=k*(K+2*N+3)+(K+2*N+3):=Nat.succ_mul k _;rw[froot];split
  .exact⟨E,hE.mono (by omega) (by omega)⟩
  .exact⟨_,(hE.mulq (CB.line (h k))).mono (by omega) (by omega)⟩
theorem CB.addq {D E n m M N:Nat}{A B:List Rat}(hA:CB D n M A)(hB:CB E m N B):CB (D*E) (max n m) (M+N+1) (addq A B) where
 d:=Nat.mul_ne_zero hA.d hB.d
 w:=by
  have h1:=AL.wd_mul_len D E;have h2:=hA.w;have h3:=hB.w;omega
 l:=by
  simp only[Go.Proofs.YtmoiodckaadchaaGreat.addq,List.length_map,List.length_range];have:=hA.l;have:=hB.l;omega
 c:=λc hc=>by
  obtain⟨k,hk,rfl⟩:=List.getElem_of_mem hc;rw[<-cfq_lt hk,cfq_addq];have h1:=CD.up hA.d hB.d hB.w (CD.cf hA k);have h2:=CD.up hB.d hA.d hA.w (CD.cf hB k);rw[Nat.mul_comm]at h2;exact(h1.add h2).mono (by omega)
theorem CB.const {c:Rat}{K:Nat}(h:qz c<=K):CB c.den 1 K [c] where
 d:=c.den_nz
 w:=Nat.le_trans (qz_parts c).2 h
 l:=Nat.le_refl _
 c:=λx hx=>by
  rcases List.mem_singleton.1 hx with rfl;exact(CD.ofRat x).mono (Nat.le_trans (qz_parts x).1 h)
def lagk (X Y:List Rat)(i:Nat):Rat:=cfq Y i/evq (froot X i X.length) (cfq X i)
def lags (X Y:List Rat):Nat->List Rat
 |0=>[]
 |i+1=>addq (lags X Y i) (mulq (froot X i X.length) [lagk X Y i])
theorem evq_const (c x:Rat):evq [c] x=c:=by rw[evq,evq_nil];grind
theorem lag_ne {X:List Rat}(hd:X.Nodup){i:Nat}(hi:i<X.length):evq (froot X i X.length) (cfq X i)≠0 :=
 froot_ne X i X.length _ λj hj hji=>nodup_cf hd hi hj (Ne.symm hji)
theorem lags_at {X Y:List Rat}(hd:X.Nodup){j:Nat}(hj:j<X.length):∀k,k<=X.length->evq (lags X Y k) (cfq X j)=if j<k then cfq Y j else 0
 |0,_=>by rw[lags,evq_nil,if_neg (by omega)]
 |k+1,hk=>by
  rw[lags,evq_addq,evq_mulq,evq_const,lags_at hd hj k (by omega)];by_cases e:j=k
  .subst e;rw[if_neg (by omega),if_pos (by omega),lagk];have:=lag_ne hd hj
   grind
  .rw[froot_zero X k X.length j hj e,Rat.zero_mul,Rat.add_zero];by_cases h:j<k
   .rw[if_pos h,if_pos (by omega)]
   .rw[if_neg h,if_neg (by omega)]
theorem lags_deg (X Y:List Rat):∀k,k<=X.length->∀j,X.length<=j->cfq (lags X Y k) j=0
 |0,_,j,_=>by rw[lags];rfl
 |k+1,hk,j,hj=>by
  rw[lags,cfq_addq,lags_deg X Y k (by omega) j hj,Rat.zero_add];have hf:=(froot_deg X k X.length).2;have e:fdeg k X.length=X.length-1:=by unfold fdeg;rw[if_pos (by omega)]
  rw[e]at hf;obtain⟨_,h2⟩:=cvq_top (g:=cfq [lagk X Y k]) (n:=0) (λi hi=>cfq_ge (by simp;omega)) (froot X k X.length) (X.length-1) hf;rw[cfq_mulq];exact h2 j (by omega)
def newc (X Y S:List Rat)(k:Nat):Rat:=(cfq Y k-evq S (cfq X k))/evq (froot X X.length k) (cfq X k)
def news (X Y:List Rat):Nat->List Rat
 |0=>[]
 |k+1=>addq (news X Y k) (sclq (newc X Y (news X Y k) k) (froot X X.length k))
theorem news_at {X Y:List Rat}:∀k,k<=X.length->(∀i j,j<i->i<k->cfq X i≠cfq X j)->∀j,j<k->evq (news X Y k) (cfq X j)=cfq Y j
 |0,_,_,j,hj=>by omega
 |k+1,hk,hd,j,hj=>by
  rw[news,evq_addq,evq_sclq];by_cases e:j=k
  .subst e;have hne:evq (froot X X.length j) (cfq X j)≠0:=froot_ne X X.length j _ λi hi _=>hd j i hi (by omega)
   unfold newc
   grind
  .rw[froot_zero X X.length k j (by omega) (by omega),Rat.mul_zero,Rat.add_zero];exact news_at k (by omega) (λi j h1 h2=>hd i j h1 (by omega)) j (by omega)
theorem news_deg (X Y:List Rat):∀k,k<=X.length->∀j,k<=j->cfq (news X Y k) j=0
 |0,_,j,_=>by rw[news];rfl
 |k+1,hk,j,hj=>by
  have hf:=(froot_deg X X.length k).2 j (by unfold fdeg;rw[if_neg (by omega)];omega);rw[news,cfq_addq,cfq_sclq,hf,Rat.zero_mul,Rat.add_zero];exact news_deg X Y k (by omega) j (by omega)
theorem cfq_take {q:List Rat}{n i:Nat}(h:i<n):cfq (q.take n) i=cfq q i:=by
 simp[cfq,List.getD,List.getElem?_take,h]
theorem news_lags {X Y:List Rat}{k:Nat}(hk:k<=X.length)(hd:∀i j,j<i->i<k->cfq X i≠cfq X j)(j:Nat):cfq (news X Y k) j=cfq (lags (X.take k) (Y.take k) k) j:=by
 have hl:(X.take k).length=k:=by rw[List.length_take];omega
 have hn:(X.take k).Nodup:=nodup_of λi j h1 h2=>by
  rw[hl]at h2;rw[cfq_take h2,cfq_take (by omega)];exact hd i j h1 h2
 refine interp_unique (X:=X.take k) (λi hi=>news_deg X Y k hk i (by omega)) (λi hi=>lags_deg (X.take k) (Y.take k) k (by omega) i hi) hn (λx hx=>?_) j;obtain⟨i,hi,rfl⟩:=List.getElem_of_mem hx;rw[<-cfq_lt hi];rw[lags_at hn hi k (by omega),if_pos (by omega),cfq_take (by omega),cfq_take (by omega)];exact news_at k hk hd i (by omega)
theorem qz_take {q:List Rat}{K:Nat}(hK:1<=K)(h:∀i,qz (cfq q i)<=K)(n i:Nat):qz (cfq (q.take n) i)<=K:=by
 by_cases hi:i<n
 .rw[cfq_take hi];exact h i
 .rw[cfq_ge (by rw[List.length_take];omega),qz_zero];exact hK
def tabl (P:List Rat)(x s:Rat)(n:Nat):List Rat:=(List.range n).map λi:Nat=>evq P (x+(i:Rat)*s)
theorem tabl_len (P:List Rat)(x s:Rat)(n:Nat):(tabl P x s n).length=n:=by simp[tabl]
theorem tabl_zero (P:List Rat)(x s:Rat):tabl P x s 0=[]:=by simp[tabl]
theorem tabl_succ (P:List Rat)(x s:Rat)(n:Nat):tabl P x s (n+1)=tabl P x s n++[evq P (x+(n:Rat)*s)]:=by
 simp[tabl,List.range_succ]
structure TPl (x s y:RQ) (i:Nat):Prop where
 v:qv y=qv x+(i:Rat)*qv s
 z:SzQ (200+i*201) y
 d:nv y.2≠0
theorem tpl_zero {x s:RQ}(hx:SzQ 200 x)(dx:nv x.2≠0):TPl x s x 0:=⟨by rw[show ((0:Nat):Rat)=0 from rfl,Rat.zero_mul,Rat.add_zero],hx,dx⟩
theorem tpl_next {x s y:RQ}{i:Nat}(h:TPl x s y i)(hs:SzQ 200 s)(ds:nv s.2≠0):TPl x s (crat (qv y+qv s)) (i+1):=⟨by
 have:((1:Nat):Rat)=1:=rfl;rw[qv_crat,h.v,Rat.natCast_add,this]
 grind,by
 have h1:=qz_add (qv y) (qv s);have h2:=qz_raw h.z h.d;have h3:=qz_raw hs ds;exact szq_crat (by omega),nv_crat0 _⟩
theorem tpl_vb {p:List RQ}{x s y:RQ}{i:Nat}(h:TPl x s y i)(hp:GQ 40 200 p)(hi:i<=12):VB p y (2^34) :=
 VB.of (K:=200) (X:=4096) (n:=40) hp (h.z.mono (by omega)) h.d (by omega) (by omega) (by omega)
theorem egood_ok (l:List RQ)(h:BQ (2^40) (2^38) l):AC Tryz.prog 79 [cqw l] none [cb (gd l)]:=by
 have g:=qgood_ok l (h.mono (by omega) (by omega));refine AC.by_walk (rs:=[.tmp 2]) ords Tryz.func79 (by rfl) (by rfl) (by rfl) (by rfl) (by rfl) ?_;simp (disch:=omega) only[wt,seval,reduceCtorEq,Nat.reduceEqDiff,rqs,case12_A,case12_B,case12_X,case12_Y,ints_two];refine call_by (g) (by rfl) (by simp) ?_;simp (disch:=omega) only[wt,seval,reduceCtorEq,Nat.reduceEqDiff,rqs,case12_A,case12_B,case12_X,case12_Y,ints_two]
 try rfl
theorem etable_ok (p:List RQ)(x s:RQ)(n:Nat)(hn:n<=12)(hp:GQ 40 200 p)(hx:SzQ 200 x)(hs:SzQ 200 s)(dx:nv x.2≠0)(ds:nv s.2≠0):AC Tryz.prog 32 [cqw p,cqq x,cqq s,ci n] none [cqw ((tabl (qvs p) (qv x) (qv s) n).map crat),ci 0]:=by
 have g:=qgood_ok p (hp.bq.mono (by omega) (by omega));rw[hp.gd]at g;have g2:=egood_ok [x,s] (BQ.mono (n:=2) (k:=200) ⟨by simp,λr hr=>by
  simp only[List.mem_cons,List.not_mem_nil,or_false]at hr;rcases hr with rfl|rfl<;>assumption⟩ (by omega) (by omega))
 rw[show gd [x,s]=true from gd_iff.mpr λr hr=>by
  simp only[List.mem_cons,List.not_mem_nil,or_false]at hr;rcases hr with rfl|rfl<;>assumption]at g2
 have p3:=rats_two x s;have hn1:¬(n:Int)<0:=by omega
 have hn2:¬(10000:Int)<(n:Int):=by omega
 have t0:=tpl_zero (s:=s) hx dx;refine AC.by_walk (rs:=[.tmp 8,.tmp 9]) ords Tryz.func32 (by rfl) (by rfl) (by rfl) (by rfl) (by rfl) ?_;simp (disch:=omega) only[wt,seval,reduceCtorEq,Nat.reduceEqDiff,rqs,case12_A,case12_B,case12_X,case12_Y,ints_two];refine call_by (g) (by first|rfl|(simp only[tocvs,tocv,toboxes,tobox,updH_at,Nat.reduceEqDiff,↓reduceIte,p3];rfl)) (by simp) ?_;simp (disch:=omega) only[wt,seval,reduceCtorEq,Nat.reduceEqDiff,rqs,case12_A,case12_B,case12_X,case12_Y,ints_two,p3];refine call_by (g2) (by first|rfl|(simp only[tocvs,tocv,toboxes,tobox,updH_at,Nat.reduceEqDiff,↓reduceIte,p3,hn1,hn2];rfl)) (by simp) ?_;simp (disch:=omega) only[wt,seval,reduceCtorEq,Nat.reduceEqDiff,rqs,case12_A,case12_B,case12_X,case12_Y,ints_two,p3,hn1,hn2];refine aloop_nil 10 10 33 3 (by simp (disch:=omega) only[wt,seval,reduceCtorEq,Nat.reduceEqDiff,rqs,case12_A,case12_B,case12_X,case12_Y,ints_two]) (λf H=>∃(i st s11:Nat) (y:RQ),i<=n/\TPl x s y i/\f 33=.iv (.int .i64 i)/\f 32=.iv (.int .i64 n)/\f 0=.iv (.sl (rats p))/\f 11=.hp 11 s11 0 0/\H 11=.blk false s11 33 3 [qrow y]/\f 6=.hp 6 1 0 0/\H 6=.blk false 1 33 3 [qrow s]/\f 10=.hs 10 st/\H 10=.blk false st 33 3 (rats ((tabl (qvs p) (qv x) (qv s) i).map crat))) (λf H=>(n-intAt f 33).toNat) ?_ ?_
 .refine⟨0,1,1,x,by omega,t0,?_⟩;simp (disch:=omega) only[wt,seval,reduceCtorEq,Nat.reduceEqDiff,rqs,case12_A,case12_B,case12_X,case12_Y,ints_two,ghostF,ghostH,tabl_zero,List.map_nil]
 rintro f H ⟨i,st,s11,y,hi,hy,hF⟩;rw[intAt_of hF.1];simp (disch:=omega) only[wt,seval,reduceCtorEq,Nat.reduceEqDiff,rqs,case12_A,case12_B,case12_X,case12_Y,ints_two,hF];refine if_by (λhlt=>?_) (λhlt=>?_)
 .have hlt':i<n:=by omega
  have v:=tpl_vb hy hp (by omega);have hlen:((tabl (qvs p) (qv x) (qv s) i).map crat).length=i:=by rw[List.length_map,tabl_len]
  have a:=eAt_ok p y _ v;have hy':=tpl_next hy hs ds;have w:=qadd_ok y s (hy.z.mono (by omega)) (hs.mono (by omega)) hy.d ds;simp (disch:=omega) only[wt,seval,reduceCtorEq,Nat.reduceEqDiff,rqs,case12_A,case12_B,case12_X,case12_Y,ints_two,hF,hlen];refine call_by (a) (by first|rfl|(simp only[tocvs,tocv,toboxes,tobox,updH_at,Nat.reduceEqDiff,↓reduceIte,hF,hlen];rfl)) (by simp) ?_;simp (disch:=omega) only[wt,seval,reduceCtorEq,Nat.reduceEqDiff,rqs,case12_A,case12_B,case12_X,case12_Y,ints_two,hF,hlen];refine call_by (w) (by first|rfl|(simp only[tocvs,tocv,toboxes,tobox,updH_at,Nat.reduceEqDiff,↓reduceIte,hF,hlen];rfl)) (by simp) ?_;simp (disch:=omega) only[wt,seval,reduceCtorEq,Nat.reduceEqDiff,rqs,case12_A,case12_B,case12_X,case12_Y,ints_two,hF,hlen];refine⟨⟨i+1,st+1,s11,_,by omega,hy',?_⟩,by omega⟩;rw[tabl_succ,List.map_append,<-hy.v]
  (repeat' apply And.intro)<;>first|rfl|omega
 .obtain rfl:i=n:=by omega
  simp (disch:=omega) only[wt,seval,reduceCtorEq,Nat.reduceEqDiff,rqs,case12_A,case12_B,case12_X,case12_Y,ints_two,hF]
  try rfl
def mrow (A B:List Rat)(i j:Nat):List Rat:=(List.range (A.length+B.length-1)).map λk=>cvq (A.take i) (cfq B) k+if i<=k/\k<i+j then cfq A i*cfq B (k-i) else 0
theorem mrow_len (A B:List Rat)(i j:Nat):(mrow A B i j).length=A.length+B.length-1:=by simp[mrow]
theorem cfq_mrow {A B:List Rat}{i j k:Nat}(h:k<A.length+B.length-1):cfq (mrow A B i j) k=cvq (A.take i) (cfq B) k+if i<=k/\k<i+j then cfq A i*cfq B (k-i) else 0:=by
 rw[mrow,cfq,List.getD,List.getElem?_map,List.getElem?_range h];rfl
theorem mrow_zero (A B:List Rat):(mrow A B 0 0).map crat=List.replicate (A.length+B.length-1) (crat 0):=by
 have e:mrow A B 0 0=List.replicate (A.length+B.length-1) 0:=by
  apply List.ext_getElem
  .simp[mrow]
  .intro k h1 h2;simp only[mrow,List.getElem_map,List.getElem_range,List.getElem_replicate,List.take_zero];rw[if_neg (by omega),Rat.add_zero];exact rfl
 rw[e,List.map_replicate]
theorem mrow_set {A B:List Rat}{i j:Nat}(hi:i<A.length)(hj:j<B.length):((mrow A B i j).map crat).set (i+j) (crat (cfq (mrow A B i j) (i+j)+cfq A i*cfq B j))=(mrow A B i (j+1)).map crat:=by
 refine set_crat (by rw[mrow_len,mrow_len]) ?_ λk hk hne=>?_
 .rw[cfq_mrow (by omega),cfq_mrow (by omega),if_pos (by omega),if_neg (by omega),Nat.add_sub_cancel_left,Rat.add_zero]
 .rw[mrow_len]at hk;rw[cfq_mrow hk,cfq_mrow hk]
  congr 1
  by_cases h:i<=k/\k<i+j
  .rw[if_pos h,if_pos (by omega)]
  .rw[if_neg h,if_neg (by omega)]
theorem mrow_next {A B:List Rat}(i:Nat):mrow A B i B.length=mrow A B (i+1) 0:=by
 unfold mrow;refine List.map_congr_left λk hk=>?_;rw[cvq_take_succ,if_neg (show ¬(i+1<=k/\k<i+1+0) by omega),Rat.add_zero]
 congr 1
 by_cases h:i<=k
 .by_cases h2:k<i+B.length
  .rw[if_pos ⟨h,h2⟩,if_pos h]
  .rw[if_neg (by omega),if_pos h,cfq_ge (q:=B) (by omega),Rat.mul_zero]
 .rw[if_neg (by omega),if_neg h]
theorem mrow_end (A B:List Rat)(k:Nat):cfq (mrow A B A.length 0) k=cfq (mulq A B) k:=by
 by_cases h:k<A.length+B.length-1
 .rw[cfq_mrow h,if_neg (by omega),Rat.add_zero,List.take_length,cfq_mulq]
 .rw[cfq_ge (by rw[mrow_len];omega),cfq_mulq,cvq_zero (n:=B.length) A (λj hj=>cfq_ge hj) (by omega)]
theorem mrow_z {A B:List Rat}{Z:Nat}(h1:1<=Z)(hz:∀i k,qz (cvq (A.take i) (cfq B) k)<=Z)(i j k:Nat):qz (cfq (mrow A B i j) k)<=Z:=by
 by_cases h:k<A.length+B.length-1
 .rw[cfq_mrow h];by_cases h2:i<=k/\k<i+j
  .rw[if_pos h2];have:=cvq_take_succ (g:=cfq B) A i k;rw[if_pos h2.1]at this;rw[<-this];exact hz _ _
  .rw[if_neg h2,Rat.add_zero];exact hz _ _
 .rw[cfq_ge (by rw[mrow_len];omega),qz_zero];exact h1
theorem repq_set {N i:Nat}(h:i<N):(List.replicate i (crat 0)++List.replicate (N-i) q0).set i (crat 0)=List.replicate (i+1) (crat 0)++List.replicate (N-(i+1)) q0:=by
 rw[List.set_append_right _ _ (by simp),List.length_replicate,Nat.sub_self,show N-i=(N-(i+1))+1 by omega,List.replicate_succ,List.set_cons_zero,List.replicate_succ',List.append_assoc];rfl
set_option maxRecDepth 100000 in
theorem hmulq_ok (A B:List Rat)(hA:QB (2^30) (2^33) A)(hB:QB (2^30) (2^33) B)(hz:∀i k,qz (cvq (A.take i) (cfq B) k)<=2^34):AC Tryz.prog 28 [cqw (A.map crat),cqw (B.map crat)] none [cqp (mulq A B)]:=by
 have hAl:=hA.1;have hBl:=hB.1;have hqa:(A.map crat).length=A.length:=List.length_map _;have hqb:(B.map crat).length=B.length:=List.length_map _;refine AC.by_walk (rs:=[.tmp 4]) ords Tryz.func28 (by rfl) (by rfl) (by rfl) (by rfl) (by rfl) ?_;simp (disch:=omega) only[wt,seval,reduceCtorEq,Nat.reduceEqDiff,rqs];by_cases ha:A.length=0
 .have ha':(A.length:Int)=0:=by omega
  have e:=List.length_eq_zero_iff.mp ha;rw[show cqp (mulq A B)=cqw [] from congrArg cqw (mulq_nil (.inl (by rw[e];rfl)))];simp (disch:=omega) only[wt,seval,reduceCtorEq,Nat.reduceEqDiff,rqs,hqa,ha']
  try rfl
 by_cases hb:B.length=0
 .have ha':¬(A.length:Int)=0:=by omega
  have hb':(B.length:Int)=0:=by omega
  have e:=List.length_eq_zero_iff.mp hb;rw[show cqp (mulq A B)=cqw [] from congrArg cqw (mulq_nil (.inr (by rw[e];rfl)))];simp (disch:=omega) only[wt,seval,reduceCtorEq,Nat.reduceEqDiff,rqs,hqa,ha',hqb,hb']
  try rfl
 have ha':¬(A.length:Int)=0:=by omega
 have hb':¬(B.length:Int)=0:=by omega
 obtain⟨N,hN⟩:∃N,N=A.length+B.length-1:=⟨_,rfl⟩;have hNI:(A.length:Int)+(B.length:Int)-1=(N:Int):=by omega
 simp (disch:=omega) only[wt,seval,reduceCtorEq,Nat.reduceEqDiff,rqs,hqa,ha',hqb,hb',hNI];refine aloop_by (λf H=>∃(i st:Nat),i<=N/\f 6=.iv (.int .i64 i)/\f 0=.iv (.sl (rats (A.map crat)))/\f 1=.iv (.sl (rats (B.map crat)))/\f 5=.hs 23 st/\H 23=.blk false st 33 3 (rats (List.replicate i (crat 0)++List.replicate (N-i) q0))) (λf H=>(N-intAt f 6).toNat) ?_ ?_
 .refine⟨0,1,by omega,?_⟩;simp (disch:=omega) only[wt,seval,reduceCtorEq,Nat.reduceEqDiff,rqs,List.replicate_zero,List.nil_append,Int.toNat_natCast,Nat.sub_zero]
 rintro f H ⟨i,st,hi,hF⟩;rw[intAt_of hF.1];simp (disch:=omega) only[wt,seval,reduceCtorEq,Nat.reduceEqDiff,rqs,hF];have hl1:(List.replicate i (crat 0)++List.replicate (N-i) q0).length=N:=by
  rw[List.length_append,List.length_replicate,List.length_replicate];omega
 refine if_by (λhlt=>?_) (λhlt=>?_)
 .have hset:=repq_set (N:=N) (i:=i) (by omega);simp (disch:=omega) only[wt,seval,reduceCtorEq,Nat.reduceEqDiff,rqs,hF,hl1];refine call_by (hzero_ok) (by first|rfl|(simp only[tocvs,tocv,toboxes,tobox,updH_at,Nat.reduceEqDiff,↓reduceIte,hF,hl1,hset];rfl)) (by simp) ?_;simp (disch:=omega) only[wt,seval,reduceCtorEq,Nat.reduceEqDiff,rqs,hF,hl1,hset];refine⟨⟨i+1,st,by omega,?_⟩,by omega⟩
  (repeat' apply And.intro)<;>first|rfl|omega
 obtain rfl:i=N:=by omega
 rw[Nat.sub_self,List.replicate_zero,List.append_nil,hN,<-mrow_zero]at hF;simp (disch:=omega) only[wt,seval,reduceCtorEq,Nat.reduceEqDiff,rqs,hF];refine aloop_by (λf H=>∃(i2 st:Nat),i2<=A.length/\f 7=.iv (.int .i64 i2)/\f 0=.iv (.sl (rats (A.map crat)))/\f 1=.iv (.sl (rats (B.map crat)))/\f 5=.hs 23 st/\H 23=.blk false st 33 3 (rats ((mrow A B i2 0).map crat))) (λf H=>(A.length-intAt f 7).toNat) ?_ ?_
 .refine⟨0,st,by omega,?_⟩;simp (disch:=omega) only[wt,seval,reduceCtorEq,Nat.reduceEqDiff,rqs,hF]
 rintro f H ⟨i2,st,hi2,hF⟩;rw[intAt_of hF.1];simp (disch:=omega) only[wt,seval,reduceCtorEq,Nat.reduceEqDiff,rqs,hF];simp (disch:=omega) only[wt,seval,reduceCtorEq,Nat.reduceEqDiff,rqs,hF,hqa];refine if_by (λhlt=>?_) (λhlt=>?_)
 .have hlt':i2<A.length:=by omega
  simp (disch:=omega) only[wt,seval,reduceCtorEq,Nat.reduceEqDiff,rqs,hF,hqa];refine aloop_by (λf H=>∃(j st:Nat),j<=B.length/\f 8=.iv (.int .i64 j)/\f 7=.iv (.int .i64 i2)/\f 0=.iv (.sl (rats (A.map crat)))/\f 1=.iv (.sl (rats (B.map crat)))/\f 5=.hs 23 st/\H 23=.blk false st 33 3 (rats ((mrow A B i2 j).map crat))) (λf H=>(B.length-intAt f 8).toNat) ?_ ?_
  .refine⟨0,st,by omega,?_⟩;simp (disch:=omega) only[wt,seval,reduceCtorEq,Nat.reduceEqDiff,rqs,hF]
  rintro f H ⟨j,st,hj,hF⟩;rw[intAt_of hF.1];simp (disch:=omega) only[wt,seval,reduceCtorEq,Nat.reduceEqDiff,rqs,hF];simp (disch:=omega) only[wt,seval,reduceCtorEq,Nat.reduceEqDiff,rqs,hF,hqb];refine if_by (λhlj=>?_) (λhlj=>?_)
  .have hlj':j<B.length:=by omega
   have g1:=cratq_get hlt';have g2:=cratq_get hlj';have g3:=cratq_get (q:=mrow A B i2 j) (i:=i2+j) (by rw[mrow_len];omega);have hml:((mrow A B i2 j).map crat).length=i:=by rw[List.length_map,mrow_len,hN]
   have eij:(i2:Int)+(j:Int)=((i2+j:Nat):Int):=by omega
   have hset:=mrow_set hlt' hlj';have y1:=hA.cz (by omega) i2;have y2:=hB.cz (by omega) j;have y3:=mrow_z (A:=A) (B:=B) (by omega) hz i2 j (i2+j);have y4:=qz_mul (cfq A i2) (cfq B j);have x:=htimes_ok (crat (cfq A i2)) (crat (cfq B j)) (szq_crat (by omega)) (szq_crat (by omega)) (nv_crat0 _) (nv_crat0 _);have y:=hplus_ok (crat (cfq (mrow A B i2 j) (i2+j))) (crat (cfq A i2*cfq B j)) (szq_crat (by omega)) (szq_crat (by omega)) (nv_crat0 _) (nv_crat0 _);rw[qv_crat,qv_crat]at x y;simp (disch:=omega) only[wt,seval,reduceCtorEq,Nat.reduceEqDiff,rqs,hF,hqa,hqb,hml,eij,g1,g2,g3];refine .inl ⟨tmps_by (by kernel_rfl),?_⟩;refine call_by (x) (by first|rfl|(simp only[tocvs,tocv,toboxes,tobox,updH_at,Nat.reduceEqDiff,↓reduceIte,hF,hqa,hqb,hml,eij,g1,g2,g3];rfl)) (by simp) ?_;simp (disch:=omega) only[wt,seval,reduceCtorEq,Nat.reduceEqDiff,rqs,hF,hqa,hqb,hml,eij,g1,g2,g3];refine call_by (y) (by first|rfl|(simp only[tocvs,tocv,toboxes,tobox,updH_at,Nat.reduceEqDiff,↓reduceIte,hF,hqa,hqb,hml,eij,g1,g2,g3,hset];rfl)) (by simp) ?_;simp (disch:=omega) only[wt,seval,reduceCtorEq,Nat.reduceEqDiff,rqs,hF,hqa,hqb,hml,eij,g1,g2,g3,hset]
   first|exact log_by (by kernel_rfl)|refine⟨log_by (by kernel_rfl),?_⟩
   refine⟨⟨j+1,st,by omega,?_⟩,by omega⟩
   (repeat' apply And.intro)<;>first|rfl|omega
  .obtain rfl:j=B.length:=by omega
   rw[mrow_next]at hF;simp (disch:=omega) only[wt,seval,reduceCtorEq,Nat.reduceEqDiff,rqs,hF];refine⟨⟨i2+1,st,by omega,?_⟩,by omega⟩
   (repeat' apply And.intro)<;>first|rfl|omega
 .obtain rfl:i2=A.length:=by omega
  have hR:QB (2^40) (2^38) (mrow A B A.length 0):=.of (by rw[mrow_len];omega) λk=>by
   have:=mrow_z (A:=A) (B:=B) (by omega) hz A.length 0 k;omega
  have t:=hnormq_ok ((mrow A B A.length 0).map crat) hR.gq;rw[qvs_map,show cqp (mrow A B A.length 0)=cqp (mulq A B) from congrArg cqw (cqs_ext (mrow_end A B))]at t;simp (disch:=omega) only[wt,seval,reduceCtorEq,Nat.reduceEqDiff,rqs,hF];refine call_by (t) (by first|rfl|(simp only[tocvs,tocv,toboxes,tobox,updH_at,Nat.reduceEqDiff,↓reduceIte,hF];rfl)) (by simp) ?_;simp (disch:=omega) only[wt,seval,reduceCtorEq,Nat.reduceEqDiff,rqs,hF]
  try rfl
theorem haddq_ok (A B:List Rat)(hA:QB (2^30) (2^33) A)(hB:QB (2^30) (2^33) B):AC Tryz.prog 27 [cqw (A.map crat),cqw (B.map crat)] none [cqp (addq A B)]:=by
 have hAl:=hA.1;have hBl:=hB.1;have hqa:(A.map crat).length=A.length:=List.length_map _;have hqb:(B.map crat).length=B.length:=List.length_map _;have hal:(addq A B).length=max A.length B.length:=by simp[addq]
 have hR:QB (2^40) (2^38) (addq A B):=.of (by rw[hal];omega) λk=>by
  rw[cfq_addq];have h1:=qz_add (cfq A k) (cfq B k);have h2:=hA.cz (by omega) k;have h3:=hB.cz (by omega) k;omega
 have t:=hnormq_ok ((addq A B).map crat) hR.gq;rw[qvs_map]at t;refine AC.by_walk (rs:=[.tmp 4]) ords Tryz.func27 (by rfl) (by rfl) (by rfl) (by rfl) (by rfl) ?_;simp (disch:=omega) only[wt,seval,reduceCtorEq,Nat.reduceEqDiff,rqs];refine aloop_nil 5 5 33 3 (by simp (disch:=omega) only[wt,seval,reduceCtorEq,Nat.reduceEqDiff,rqs]) (λf H=>∃(i st:Nat),i<=max A.length B.length/\f 6=.iv (.int .i64 i)/\f 0=.iv (.sl (rats (A.map crat)))/\f 1=.iv (.sl (rats (B.map crat)))/\f 5=.hs 5 st/\H 5=.blk false st 33 3 (rats (((addq A B).take i).map crat))) (λf H=>(A.length+B.length-intAt f 6).toNat) ?_ ?_
 .refine⟨0,1,by omega,?_⟩;simp (disch:=omega) only[wt,seval,reduceCtorEq,Nat.reduceEqDiff,rqs,ghostF,ghostH,List.take_zero,List.map_nil]
 rintro f H ⟨i,st,hi,hF⟩;rw[intAt_of hF.1];simp (disch:=omega) only[wt,seval,reduceCtorEq,Nat.reduceEqDiff,rqs,hF];have hrq:(((addq A B).take i).map crat).length=i:=by rw[List.length_map,List.length_take,hal];omega
 have y1:=hA.cz (by omega) i;have y2:=hB.cz (by omega) i;by_cases hm:i<max A.length B.length
 .have et:=takeq_snoc (q:=addq A B) (i:=i) (by rw[hal];exact hm);rw[cfq_addq]at et;by_cases h1:i<A.length
  .have h1':(i:Int)<(A.length:Int):=by omega
   have g1:=cratq_get h1;have x:=hplus_ok (crat 0) (crat (cfq A i)) (szq_crat (by rw[qz_zero];omega)) (szq_crat (by omega)) (nv_crat0 _) (nv_crat0 _);rw[qv_crat,qv_crat,Rat.zero_add]at x;simp (disch:=omega) only[wt,seval,reduceCtorEq,Nat.reduceEqDiff,rqs,hF,hqa,h1'];refine call_by (hzero_ok) (by first|rfl|(simp only[tocvs,tocv,toboxes,tobox,updH_at,Nat.reduceEqDiff,↓reduceIte,hF,hqa,hqb,h1',g1];rfl)) (by simp) ?_;simp (disch:=omega) only[wt,seval,reduceCtorEq,Nat.reduceEqDiff,rqs,hF,hqa,hqb,h1',g1];refine .inl ⟨tmps_by (by kernel_rfl),?_⟩;refine call_by (x) (by first|rfl|(simp only[tocvs,tocv,toboxes,tobox,updH_at,Nat.reduceEqDiff,↓reduceIte,hF,hqa,hqb,h1',g1];rfl)) (by simp) ?_;simp (disch:=omega) only[wt,seval,reduceCtorEq,Nat.reduceEqDiff,rqs,hF,hqa,hqb,h1',g1]
   first|exact log_by (by kernel_rfl)|refine⟨log_by (by kernel_rfl),?_⟩
   by_cases h2:i<B.length
   .have h2':(i:Int)<(B.length:Int):=by omega
    have g2:=cratq_get h2;have y:=hplus_ok (crat (cfq A i)) (crat (cfq B i)) (szq_crat (by omega)) (szq_crat (by omega)) (nv_crat0 _) (nv_crat0 _);rw[qv_crat,qv_crat]at y;simp (disch:=omega) only[wt,seval,reduceCtorEq,Nat.reduceEqDiff,rqs,hF,hqa,hqb,h2',g2];refine .inl ⟨tmps_by (by kernel_rfl),?_⟩;refine call_by (y) (by first|rfl|(simp only[tocvs,tocv,toboxes,tobox,updH_at,Nat.reduceEqDiff,↓reduceIte,hF,hqa,hqb,h2',g2];rfl)) (by simp) ?_;simp (disch:=omega) only[wt,seval,reduceCtorEq,Nat.reduceEqDiff,rqs,hF,hqa,hqb,h2',g2]
    first|exact log_by (by kernel_rfl)|refine⟨log_by (by kernel_rfl),?_⟩
    refine⟨⟨i+1,st+1,by omega,?_⟩,by omega⟩;rw[et,List.map_append]
    (repeat' apply And.intro)<;>first|rfl|omega
   .have h2':¬(i:Int)<(B.length:Int):=by omega
    rw[cfq_ge (q:=B) (by omega),Rat.add_zero]at et;simp (disch:=omega) only[wt,seval,reduceCtorEq,Nat.reduceEqDiff,rqs,hF,hqa,hqb,h2',hrq];refine⟨⟨i+1,st+1,by omega,?_⟩,by omega⟩;rw[et,List.map_append]
    (repeat' apply And.intro)<;>first|rfl|omega
  .have h1':¬(i:Int)<(A.length:Int):=by omega
   have h2:i<B.length:=by omega
   have h2':(i:Int)<(B.length:Int):=by omega
   have g2:=cratq_get h2;have y:=hplus_ok (crat 0) (crat (cfq B i)) (szq_crat (by rw[qz_zero];omega)) (szq_crat (by omega)) (nv_crat0 _) (nv_crat0 _);rw[qv_crat,qv_crat,Rat.zero_add]at y;rw[cfq_ge (q:=A) (by omega),Rat.zero_add]at et;simp (disch:=omega) only[wt,seval,reduceCtorEq,Nat.reduceEqDiff,rqs,hF,hqa,hqb,h1',h2'];refine call_by (hzero_ok) (by first|rfl|(simp only[tocvs,tocv,toboxes,tobox,updH_at,Nat.reduceEqDiff,↓reduceIte,hF,hqa,hqb,h1',h2',g2];rfl)) (by simp) ?_;simp (disch:=omega) only[wt,seval,reduceCtorEq,Nat.reduceEqDiff,rqs,hF,hqa,hqb,h1',h2',g2];refine .inl ⟨tmps_by (by kernel_rfl),?_⟩;refine call_by (y) (by first|rfl|(simp only[tocvs,tocv,toboxes,tobox,updH_at,Nat.reduceEqDiff,↓reduceIte,hF,hqa,hqb,h1',h2',g2];rfl)) (by simp) ?_;simp (disch:=omega) only[wt,seval,reduceCtorEq,Nat.reduceEqDiff,rqs,hF,hqa,hqb,h1',h2',g2]
   first|exact log_by (by kernel_rfl)|refine⟨log_by (by kernel_rfl),?_⟩
   refine⟨⟨i+1,st+1,by omega,?_⟩,by omega⟩;rw[et,List.map_append]
   (repeat' apply And.intro)<;>first|rfl|omega
 .have h1':¬(i:Int)<(A.length:Int):=by omega
  have h2':¬(i:Int)<(B.length:Int):=by omega
  rw[List.take_of_length_le (by rw[hal];omega)]at hF;simp (disch:=omega) only[wt,seval,reduceCtorEq,Nat.reduceEqDiff,rqs,hF,hqa,hqb,h1',h2'];refine call_by (t) (by first|rfl|(simp only[tocvs,tocv,toboxes,tobox,updH_at,Nat.reduceEqDiff,↓reduceIte,hF];rfl)) (by simp) ?_;simp (disch:=omega) only[wt,seval,reduceCtorEq,Nat.reduceEqDiff,rqs,hF]
  try rfl
theorem fldRat0:fldA Tryz.prog 33 0=some (0,2,true):=by kernel_rfl
theorem qsc1_ok (a b:Rat)(c:RQ)(K:Nat)(ha:qz a<=K)(hc:SzQ K c)(h0:nv c.2≠0)(hK:K<=2^35):AC Tryz.prog 135 [cqz a,cqz b,.box (qrow c)] none [cqz (a*qv c),ci 0]:=by
 have m:=qmul_ok (crat a) c (szq_crat (by omega)) (hc.mono hK) (nv_crat0 _) h0;rw[qv_crat]at m;refine AC.by_walk (rs:=[.cell 5 33,.tmp 6]) ords Tryz.func135 (by rfl) (by rfl) (by rfl) (by rfl) (by rfl) ?_;simp (disch:=omega) only[wt,seval,reduceCtorEq,Nat.reduceEqDiff,rqs,List.map_cons,List.map_nil];refine call_by (m) (by first|rfl|(simp only[tocvs,tocv,toboxes,tobox,updH_at,Nat.reduceEqDiff,↓reduceIte,List.map_cons,List.map_nil];rfl)) (by simp) ?_;simp (disch:=omega) only[wt,seval,reduceCtorEq,Nat.reduceEqDiff,rqs,List.map_cons,List.map_nil]
 try rfl
theorem qeach1_ok (p q:List RQ)(g:Nat)(row:List IV)(F:Rat->Rat->Rat)(K:Nat)(hp:GQ (2^30) K p)(hq:GQ (2^30) K q)(hK:K<=2^35)(hK1:1<=K)(hF0:F 0 0=0)(hs:∀a b,qz a<=K->qz b<=K->qz (F a b)<=2^38)
  (hop:∀a b,qz a<=K->qz b<=K->AC Tryz.prog g [cqz a,cqz b,.box row] none [cqz (F a b),ci 0]):AC Tryz.prog 134 [cqw p,cqw q,.fn g [row]] none [cqp (zipq F (qvs p) (qvs q)),ci 0]:=by
 have m:=qboth_ok p q (hp.mono (by omega) (by omega)) (hq.mono (by omega) (by omega));have hA:=hp.qb.trimq;have hB:=hq.qb.trimq;have e:cqp (zipq F (qvs p) (qvs q))=cqp (zipq F (trimq (qvs p)) (trimq (qvs q))):=congrArg cqw (cqs_ext λk=>by rw[cfq_zipq hF0,cfq_zipq hF0,cfq_trimq,cfq_trimq]);rw[e];refine AC.by_walk (rs:=[.tmp 6,.tmp 7]) ords Tryz.func134 (by rfl) (by rfl) (by rfl) (by rfl) (by rfl) ?_;simp (disch:=omega) only[wt,seval,reduceCtorEq,Nat.reduceEqDiff,rqs,List.map_cons,List.map_nil];refine call_by (m) (by first|rfl|(simp only[tocvs,tocv,toboxes,tobox,updH_at,Nat.reduceEqDiff,↓reduceIte,List.map_cons,List.map_nil];rfl)) (by simp) ?_;simp (disch:=omega) only[wt,seval,reduceCtorEq,Nat.reduceEqDiff,rqs,List.map_cons,List.map_nil];unfold cqs;generalize trimq (qvs p)=A at *;generalize trimq (qvs q)=B at *;have hAl:=hA.1;have hBl:=hB.1;have hqa:(A.map crat).length=A.length:=List.length_map _;have hqb:(B.map crat).length=B.length:=List.length_map _;have hRl:=zipq_len F A B;have hR:QB (2^40) (2^38) (zipq F A B):=.of (by omega) λi=>by rw[cfq_zipq hF0];exact hs _ _ (hA.cz hK1 i) (hB.cz hK1 i)
 obtain⟨n,hn⟩:∃n,n=max A.length B.length:=⟨_,rfl⟩;have hnI:max (A.length:Int) (B.length:Int)=(n:Int):=by omega
 rw[<-hn]at hRl;simp (disch:=omega) only[wt,seval,reduceCtorEq,Nat.reduceEqDiff,rqs,hqa,hqb,hnI];refine aloop_nil 11 11 33 3 (by simp (disch:=omega) only[wt,seval,reduceCtorEq,Nat.reduceEqDiff,rqs]) (λf H=>∃(i st:Nat),i<=n/\f 30=.iv (.int .i64 i)/\f 29=.iv (.int .i64 n)/\f 8=.iv (.sl (rats (A.map crat)))/\f 9=.iv (.sl (rats (B.map crat)))/\f 2=.fn g [.ip row]/\f 11=.hs 11 st/\H 11=.blk false st 33 3 (rats (((zipq F A B).take i).map crat))) (λf H=>(n-intAt f 30).toNat) ?_ ?_
 .refine⟨0,1,by omega,?_⟩;simp (disch:=omega) only[wt,seval,reduceCtorEq,Nat.reduceEqDiff,rqs,ghostF,ghostH,List.take_zero,List.map_nil,List.map_cons,hqa,hqb,hnI]
 rintro f H ⟨i,st,hi,hF⟩;rw[intAt_of hF.1];simp (disch:=omega) only[wt,seval,reduceCtorEq,Nat.reduceEqDiff,rqs,hF];refine if_by (λhlt=>?_) (λhlt=>?_)
 .have hq:(((zipq F A B).take i).map crat).length=i:=by rw[List.length_map,List.length_take];omega
  have c1:=qcoef_nat A i (hA.mono (by omega) (by omega));have c2:=qcoef_nat B i (hB.mono (by omega) (by omega));have o:=hop (cfq A i) (cfq B i) (hA.cz hK1 i) (hB.cz hK1 i);simp (disch:=omega) only[wt,seval,reduceCtorEq,Nat.reduceEqDiff,rqs,hF,hq];refine call_by (c1) (by first|rfl|(simp only[tocvs,tocv,toboxes,tobox,updH_at,Nat.reduceEqDiff,↓reduceIte,hF,hq];rfl)) (by simp) ?_;simp (disch:=omega) only[wt,seval,reduceCtorEq,Nat.reduceEqDiff,rqs,hF,hq];refine call_by (c2) (by first|rfl|(simp only[tocvs,tocv,toboxes,tobox,updH_at,Nat.reduceEqDiff,↓reduceIte,hF,hq];rfl)) (by simp) ?_;simp (disch:=omega) only[wt,seval,reduceCtorEq,Nat.reduceEqDiff,rqs,hF,hq];refine call_by (o) (by first|rfl|(simp only[tocvs,tocv,toboxes,tobox,updH_at,Nat.reduceEqDiff,↓reduceIte,hF,hq];rfl)) (by simp) ?_;simp (disch:=omega) only[wt,seval,reduceCtorEq,Nat.reduceEqDiff,rqs,hF,hq];have e:=takeq_snoc (q:=zipq F A B) (i:=i) (by omega);rw[cfq_zipq hF0]at e;refine⟨⟨i+1,st+1,by omega,?_⟩,by omega⟩;rw[e,List.map_append]
  (repeat' apply And.intro)<;>first|rfl|omega
 .simp (disch:=omega) only[wt,seval,reduceCtorEq,Nat.reduceEqDiff,rqs,hF];rw[List.take_of_length_le (by omega)]at hF;have m:=qtrim_own (zipq F A B) hR;refine call_by (m) (by first|rfl|(simp only[tocvs,tocv,toboxes,tobox,updH_at,Nat.reduceEqDiff,↓reduceIte,hF];rfl)) (by simp) ?_;simp (disch:=omega) only[wt,seval,reduceCtorEq,Nat.reduceEqDiff,rqs,hF]
theorem qscale_ok (p:List RQ)(c:RQ)(K:Nat)(hp:GQ (2^30) K p)(hc:SzQ K c)(h0:nv c.2≠0)(hK:K<=2^35)(hK1:1<=K):AC Tryz.prog 87 [cqw p,cqq c] none [cqp (sclq (qv c) (qvs p)),ci 0]:=by
 have k:=qcheck_good c ⟨Nat.le_trans hc.2.1 (by omega),hc.2.2⟩ h0;have zc:=qz_raw hc h0;have m:=qeach1_ok p [] 135 (qrow c) (λa _=>a*qv c) K hp ⟨Nat.zero_le _,λr hr=>nomatch hr⟩ hK hK1 (Rat.zero_mul _) (λa b ha hb=>by have:=qz_mul a (qv c);omega) (λa b ha hb=>qsc1_ok a b c K ha hc h0 hK);rw[show cqp (zipq (λa _=>a*qv c) (qvs p) (qvs []))=cqp (sclq (qv c) (qvs p)) from congrArg cqw (cqs_ext λj=>by rw[cfq_zipq (F:=λa _=>a*qv c) (Rat.zero_mul _),cfq_sclq])]at m;refine AC.by_walk (rs:=[.tmp 4,.tmp 5]) ords Tryz.func87 (by rfl) (by rfl) (by rfl) (by rfl) (by rfl) ?_;simp (disch:=omega) only[wt,seval,reduceCtorEq,Nat.reduceEqDiff,rqs];refine call_by (k) (by rfl) (by simp) ?_;simp (disch:=omega) only[wt,seval,reduceCtorEq,Nat.reduceEqDiff,rqs];refine call_by (m) (by first|rfl|(simp only[tocvs,tocv,toboxes,tobox,updH_at,Nat.reduceEqDiff,↓reduceIte,List.map_nil];rfl)) (by simp) ?_;simp (disch:=omega) only[wt,seval,reduceCtorEq,Nat.reduceEqDiff,rqs,List.map_nil]
 try rfl
theorem qneg_ok (a:RQ)(ha:SzQ (2^38) a)(h0:nv a.2≠0):AC Tryz.prog 139 [cqq a] none [cqz (-qv a),ci 0]:=by
 have n:=zneg_ok a.1 (ha.1.mono (by omega));have y1:=zl_iv ha.1;have m:=qnorm_ok (canon (-iv a.1),a.2) ⟨(sz_canon _).mono (by rw[zl_neg];exact y1),ha.2⟩ h0;rw[show qv (canon (-iv a.1),a.2) = -qv a by rw[qv,qv,iv_canon,Rat.neg_mkRat]]at m;refine AC.by_walk (rs:=[.cell 2 33,.tmp 3]) ords Tryz.func139 (by rfl) (by rfl) (by rfl) (by rfl) (by rfl) ?_;simp (disch:=omega) only[wt,seval,reduceCtorEq,Nat.reduceEqDiff,rqs,fldRat0];refine call_by (n) (by rfl) (by simp) ?_;simp (disch:=omega) only[wt,seval,reduceCtorEq,Nat.reduceEqDiff,rqs,fldRat0];refine call_by (m) (by rfl) (by simp) ?_;simp (disch:=omega) only[wt,seval,reduceCtorEq,Nat.reduceEqDiff,rqs,fldRat0]
 try rfl
theorem eline_ok (x:RQ)(hx:SzQ (2^34) x)(h0:nv x.2≠0):AC Tryz.prog 90 [cqq x] none [cqw ((lineq (qv x)).map crat)]:=by
 have n:=qneg_ok x (hx.mono (by omega)) h0;have w:=ewhole_ok 1 (by omega) (by omega);rw[show ((1:Int):Rat)=1 from rfl]at w;refine AC.by_walk (rs:=[.tmp 2]) ords Tryz.func90 (by rfl) (by rfl) (by rfl) (by rfl) (by rfl) ?_;simp (disch:=omega) only[wt,seval,reduceCtorEq,Nat.reduceEqDiff,rqs,fldRat0];refine call_by (n) (by rfl) (by simp) ?_;simp (disch:=omega) only[wt,seval,reduceCtorEq,Nat.reduceEqDiff,rqs,fldRat0];refine .inl ⟨tmps_by (by kernel_rfl),?_⟩;refine call_by (w) (by rfl) (by simp) ?_;simp (disch:=omega) only[wt,seval,reduceCtorEq,Nat.reduceEqDiff,rqs,fldRat0]
 first|exact log_by (by kernel_rfl)|refine⟨log_by (by kernel_rfl),?_⟩
 try rfl
theorem ewhole1:AC Tryz.prog 70 [ci 1] none [cqz 1]:=by
 have w:=ewhole_ok 1 (by omega) (by omega);rwa [show ((1:Int):Rat)=1 from rfl]at w
theorem cfM {xs:List RQ}{n K:Nat}(h1:1<=K)(hx:GQ n K xs)(i:Nat):qz (cfq (qvs xs) i)<=K:=hx.qb.cz (by omega) i
theorem froot_qm {xs:List RQ}(hx:GQ 10 4096 xs)(b k:Nat)(hk:k<=10):QB 21 65536 (froot (qvs xs) b k):=by
 obtain⟨E,hE⟩:=froot_cb (N:=10) (cfM (by omega) hx) b k hk;exact(hE.mono (m:=21) (N:=65536) (by omega) (by
  have:k*(4096+2*10+3)<=10*(4096+2*10+3):=Nat.mul_le_mul_right _ hk;omega)).qb
theorem lagk_m {X Y:List Rat}(hX:∀i,qz (cfq X i)<=4096)(hY:∀i,qz (cfq Y i)<=32768)(hl:X.length<=10)(i:Nat):qz (lagk X Y i)<=1000000:=by
 obtain⟨E,hE⟩:=froot_cb (N:=10) hX i X.length hl;have hE':=hE.mono (n:=1+2*X.length) (m:=21) (N:=41191) (by omega) (by
  have:X.length*(4096+2*10+3)<=10*(4096+2*10+3):=Nat.mul_le_mul_right _ hl;omega)
 have hq:=hE'.qb;have h1:=qz_evq (K:=41191) (hX i) hq.2;have h2:=Nat.mul_le_mul_right (41191+4096+1) hq.1;have h3:=qz_div (cfq Y i) (evq (froot X i X.length) (cfq X i));have h4:=hY i;unfold lagk;omega
theorem lags_m {X Y:List Rat}(hX:∀i,qz (cfq X i)<=4096)(hY:∀i,qz (cfq Y i)<=32768)(hl:X.length<=10):∀k,∃E,CB E 22 (1+k*1200000) (lags X Y k)
 |0=>⟨1,by omega,by rw[Nat.zero_mul];decide +kernel,Nat.zero_le _,λc hc=>nomatch hc⟩
 |k+1=>by
  obtain⟨E,hE⟩:=lags_m hX hY hl k;obtain⟨F,hF⟩:=froot_cb (N:=10) hX k X.length hl;have hF':=hF.mono (n:=1+2*X.length) (m:=21) (N:=41191) (by omega) (by
   have:X.length*(4096+2*10+3)<=10*(4096+2*10+3):=Nat.mul_le_mul_right _ hl;omega)
  have hm:=hF'.mulq (CB.const (lagk_m hX hY hl k));exact⟨_,(hE.addq hm).mono (by omega) (by omega)⟩
theorem news_m {X Y:List Rat}{k:Nat}(hX:∀i,qz (cfq X i)<=4096)(hY:∀i,qz (cfq Y i)<=32768)(hl:X.length<=10)(hk:k<=X.length)(hd:∀i j,j<i->i<k->cfq X i≠cfq X j)(j:Nat):qz (cfq (news X Y k) j)<=2^24:=by
 rw[news_lags hk hd];obtain⟨E,hE⟩:=lags_m (X:=X.take k) (Y:=Y.take k) (qz_take (by omega) hX k) (qz_take (by omega) hY k) (by rw[List.length_take];omega) k;have h1:=hE.qb.cz (by omega) j;omega
theorem news_qm {xs ys:List RQ}(hx:GQ 10 4096 xs)(hy:GQ 10 32768 ys){k:Nat}(hk:k<=xs.length)(hd:∀i j,j<i->i<k->cfq (qvs xs) i≠cfq (qvs xs) j):QB 10 (2^26) (trimq (news (qvs xs) (qvs ys) k)):=.of (by
  rw[trimq_len];have:=tzq_low (q:=news (qvs xs) (qvs ys) k) (n:=k) λj hj=>news_deg (qvs xs) (qvs ys) k (by rw[qvs_len];exact hk) j hj
  have:=hx.1;omega) λi=>by
 rw[cfq_trimq];have h:=news_m (X:=qvs xs) (Y:=qvs ys) (cfM (by omega) hx) (cfM (by omega) hy) (by rw[qvs_len];exact hx.1) (by rw[qvs_len];exact hk) hd i;omega
theorem eFroots_m (xs:List RQ)(hx:GQ 10 4096 xs):AC Tryz.prog 35 [cqw xs] none [cqp (froot (qvs xs) xs.length xs.length),ci 0]:=by
 have g:=egood_ok xs (hx.bq.mono (by omega) (by omega));rw[hx.gd]at g;have hl:=hx.1;have e0:rats (cqs (froot (qvs xs) xs.length 0))=[qrow (crat 1)]:=rfl;refine AC.by_walk (rs:=[.tmp 2,.tmp 3]) ords Tryz.func35 (by rfl) (by rfl) (by rfl) (by rfl) (by rfl) ?_;simp (disch:=omega) only[wt,seval,reduceCtorEq,Nat.reduceEqDiff,rqs,fldRat0];refine call_by (g) (by rfl) (by simp) ?_;simp (disch:=omega) only[wt,seval,reduceCtorEq,Nat.reduceEqDiff,rqs,fldRat0];refine call_by (ewhole1) (by rfl) (by simp) ?_;simp (disch:=omega) only[wt,seval,reduceCtorEq,Nat.reduceEqDiff,rqs,fldRat0];refine aloop_w (.iv 4 11 1 false 33 3 [qrow (crat 1)] (by simp (disch:=omega) only[wt,seval,reduceCtorEq,Nat.reduceEqDiff,rqs,fldRat0]) (by simp (disch:=omega) only[wt,seval,reduceCtorEq,Nat.reduceEqDiff,rqs,fldRat0]) (.refl _ _)) (λf H=>∃(k:Nat),k<=xs.length/\f 14=.iv (.int .i64 k)/\f 13=.iv (.int .i64 xs.length)/\f 12=.iv (.sl (rats xs))/\f 4=.iv (.sl (rats (cqs (froot (qvs xs) xs.length k))))) (λf H=>(xs.length-intAt f 14).toNat) ?_ ?_
 .refine⟨0,by omega,?_⟩;simp (disch:=omega) only[wt,seval,reduceCtorEq,Nat.reduceEqDiff,rqs,fldRat0,e0]
 rintro f H ⟨k,hk,hF⟩;rw[intAt_of hF.1];simp (disch:=omega) only[wt,seval,reduceCtorEq,Nat.reduceEqDiff,rqs,fldRat0,hF];refine if_by (λhlt=>?_) (λhlt=>?_)
 .have hlt':k<xs.length:=by omega
  have es:froot (qvs xs) xs.length (k+1)=mulq (froot (qvs xs) xs.length k) (lineq (cfq (qvs xs) k)):=by rw[froot,if_neg (by omega)]
  have n:=eline_ok (xs.getD k q0) ((hx.get hlt').mono (by omega)) (hx.den hlt');rw[<-cfq_qvs]at n;have hq:=froot_qm hx xs.length k (by omega);have hcl:=(CB.line (cfM (by omega) hx k)).qb;have m:=qpmul_g (p:=cqs (froot (qvs xs) xs.length k)) (q:=(lineq (cfq (qvs xs) k)).map crat) (n:=21) (k:=65536) (X:=froot (qvs xs) xs.length k) (Y:=lineq (cfq (qvs xs) k)) hq.gqs ((hcl.mono (by omega) (by omega)).gq) (by omega) (by omega) (by omega) (pq_cqs _) (by rw[qvs_map]);rw[<-es]at m;simp (disch:=omega) only[wt,seval,reduceCtorEq,Nat.reduceEqDiff,rqs,fldRat0,hF];refine call_by (n) (by first|rfl|(simp only[tocvs,tocv,toboxes,tobox,updH_at,Nat.reduceEqDiff,↓reduceIte,hF];rfl)) (by simp) ?_;simp (disch:=omega) only[wt,seval,reduceCtorEq,Nat.reduceEqDiff,rqs,fldRat0,hF];refine call_by (m) (by first|rfl|(simp only[tocvs,tocv,toboxes,tobox,updH_at,Nat.reduceEqDiff,↓reduceIte,hF];rfl)) (by simp) ?_;simp (disch:=omega) only[wt,seval,reduceCtorEq,Nat.reduceEqDiff,rqs,fldRat0,hF];refine⟨⟨k+1,by omega,?_⟩,by omega⟩
  (repeat' apply And.intro)<;>first|rfl|omega
 .obtain rfl:k=xs.length:=by omega
  simp (disch:=omega) only[wt,seval,reduceCtorEq,Nat.reduceEqDiff,rqs,fldRat0,hF]
  try rfl
set_option maxRecDepth 100000 in
theorem ethrough_m (xs ys:List RQ)(l:List RQ)(e:Int)(hx:GQ 10 4096 xs)(hy:GQ 10 32768 ys)(hxy:xs.length=ys.length)(h1:(qvs xs).Nodup->l=cqs (news (qvs xs) (qvs ys) xs.length)/\e=0)(h2:¬(qvs xs).Nodup->l=[]/\e=3):AC Tryz.prog 34 [cqw xs,cqw ys] none [cqw l,ci e]:=by
 have g1:=egood_ok xs (hx.bq.mono (by omega) (by omega));have g2:=egood_ok ys (hy.bq.mono (by omega) (by omega));rw[hx.gd]at g1;rw[hy.gd]at g2;have hl:=hx.1;have hl2:=hy.1;have hql:=qvs_len xs;have hxyi:(xs.length:Int)=(ys.length:Int):=by omega
 have e0:rats (cqs (froot (qvs xs) xs.length 0))=[qrow (crat 1)]:=rfl;have e1:rats (cqs (news (qvs xs) (qvs ys) 0))=[]:=rfl;refine AC.by_walk (rs:=[.tmp 4,.tmp 5]) ords Tryz.func34 (by rfl) (by rfl) (by rfl) (by rfl) (by rfl) ?_;simp (disch:=omega) only[wt,seval,reduceCtorEq,Nat.reduceEqDiff,rqs,fldRat0];refine call_by (g1) (by rfl) (by simp) ?_;simp (disch:=omega) only[wt,seval,reduceCtorEq,Nat.reduceEqDiff,rqs,fldRat0];refine call_by (g2) (by first|rfl|(simp only[tocvs,tocv,toboxes,tobox,updH_at,Nat.reduceEqDiff,↓reduceIte,hxyi];rfl)) (by simp) ?_;simp (disch:=omega) only[wt,seval,reduceCtorEq,Nat.reduceEqDiff,rqs,fldRat0,hxyi];refine call_by (ewhole1) (by rfl) (by simp) ?_;simp (disch:=omega) only[wt,seval,reduceCtorEq,Nat.reduceEqDiff,rqs,fldRat0];refine aloop_w (.nilv 6 (by simp (disch:=omega) only[wt,seval,reduceCtorEq,Nat.reduceEqDiff,rqs,fldRat0]) (.iv 7 36 1 false 33 3 [qrow (crat 1)] (by simp (disch:=omega) only[wt,seval,reduceCtorEq,Nat.reduceEqDiff,rqs,fldRat0]) (by simp (disch:=omega) only[wt,seval,reduceCtorEq,Nat.reduceEqDiff,rqs,fldRat0]) (.refl _ _))) (λf H=>∃(i:Nat),i<=xs.length/\(∀a b,b<a->a<i->cfq (qvs xs) a≠cfq (qvs xs) b)/\f 39=.iv (.int .i64 i)/\f 38=.iv (.int .i64 xs.length)/\f 37=.iv (.sl (rats xs))/\f 1=.iv (.sl (rats ys))/\f 6=.iv (.sl (rats (cqs (news (qvs xs) (qvs ys) i))))/\f 7=.iv (.sl (rats (cqs (froot (qvs xs) xs.length i))))) (λf H=>(xs.length-intAt f 39).toNat) ?_ ?_
 .refine⟨0,by omega,λa b _ h=>by omega,?_⟩;simp (disch:=omega) only[wt,seval,reduceCtorEq,Nat.reduceEqDiff,rqs,fldRat0,e0,e1,hxyi]
 rintro f H ⟨i,hi,hdist,hF⟩;rw[intAt_of hF.1];simp (disch:=omega) only[wt,seval,reduceCtorEq,Nat.reduceEqDiff,rqs,fldRat0,hF];refine if_by (λhlt=>?_) (λhlt=>?_)
 .have hlt':i<xs.length:=by omega
  have hx':=hx.get hlt';have hdx:=hx.den hlt';have hy':=hy.get (i:=i) (by omega);have hdy:=hy.den (i:=i) (by omega);have hfq:=froot_qm hx xs.length i (by omega);have v1:=VB.of (B:=2^24) hfq.trimq.gq hx' hdx (by omega) (by omega) (by omega);have a1:=eAt_ok ((trimq (froot (qvs xs) xs.length i)).map crat) (xs.getD i q0) _ v1;rw[qvs_map,evq_trim,<-cfq_qvs]at a1;have z1:qz (evq (froot (qvs xs) xs.length i) (cfq (qvs xs) i))<=2^24:=by
   have:=v1.e (trimq (froot (qvs xs) xs.length i)) (by rw[List.length_map];exact Nat.le_refl _) (λc hc=>by rw[qvs_map];exact hc);rwa [evq_trim,<-cfq_qvs]at this
  have s1:=qsign_ok (crat (evq (froot (qvs xs) xs.length i) (cfq (qvs xs) i))) (szq_crat (by omega)) (nv_crat0 _);rw[sgq_qv (nv_crat0 _),qv_crat]at s1;by_cases h0:evq (froot (qvs xs) xs.length i) (cfq (qvs xs) i)=0
  .have hnd:¬(qvs xs).Nodup:=λhn=>froot_ne (qvs xs) xs.length i (cfq (qvs xs) i) (λj hj _=>nodup_cf hn (by omega) (by omega) (by omega)) h0
   obtain⟨rfl,rfl⟩:=h2 hnd;rw[h0]at a1 s1;rw[sgq_zero]at s1;simp (disch:=omega) only[wt,seval,reduceCtorEq,Nat.reduceEqDiff,rqs,fldRat0,hF];refine call_by (a1) (by first|rfl|(simp only[tocvs,tocv,toboxes,tobox,updH_at,Nat.reduceEqDiff,↓reduceIte,hF];rfl)) (by simp) ?_;simp (disch:=omega) only[wt,seval,reduceCtorEq,Nat.reduceEqDiff,rqs,fldRat0,hF];refine call_by (s1) (by first|rfl|(simp only[tocvs,tocv,toboxes,tobox,updH_at,Nat.reduceEqDiff,↓reduceIte,hF];rfl)) (by simp) ?_;simp (disch:=omega) only[wt,seval,reduceCtorEq,Nat.reduceEqDiff,rqs,fldRat0,hF]
  .have hs:¬sgq (evq (froot (qvs xs) xs.length i) (cfq (qvs xs) i))=0:=λh=>h0 (sgq_eq_zero.mp h)
   have hdn:∀j,j<i->cfq (qvs xs) i≠cfq (qvs xs) j:=λj hj he=>h0 (by rw[he];exact froot_zero (qvs xs) xs.length i j hj (by omega))
   have hnq:=news_qm hx hy hi (λa b hb ha=>hdist a b hb ha);have v2:=VB.of (B:=2^32) hnq.gq hx' hdx (by omega) (by omega) (by omega);have a2:=eAt_ok ((trimq (news (qvs xs) (qvs ys) i)).map crat) (xs.getD i q0) _ v2;rw[qvs_map,evq_trim,<-cfq_qvs]at a2;have z2:qz (evq (news (qvs xs) (qvs ys) i) (cfq (qvs xs) i))<=2^32:=by
    have:=v2.e (trimq (news (qvs xs) (qvs ys) i)) (by rw[List.length_map];exact Nat.le_refl _) (λc hc=>by rw[qvs_map];exact hc);rwa [evq_trim,<-cfq_qvs]at this
   have b1:=qsub_ok (ys.getD i q0) (crat (evq (news (qvs xs) (qvs ys) i) (cfq (qvs xs) i))) (hy'.mono (by omega)) (szq_crat (by omega)) hdy (nv_crat0 _);rw[qv_crat,<-cfq_qvs]at b1;have z3:qz (cfq (qvs ys) i-evq (news (qvs xs) (qvs ys) i) (cfq (qvs xs) i))<=2^33:=by
    have h1:=cfM (by omega) hy i;have zn:qz (-evq (news (qvs xs) (qvs ys) i) (cfq (qvs xs) i))<=2^32:=((CD.ofRat _).neg.mono (Nat.le_trans (qz_parts _).1 z2)).size (Rat.den_nz _) (Nat.le_trans (qz_parts _).2 z2);have:=qz_add (cfq (qvs ys) i) (-evq (news (qvs xs) (qvs ys) i) (cfq (qvs xs) i));rw[Rat.sub_eq_add_neg];omega
   have b2:=qquo_ok (crat (cfq (qvs ys) i-evq (news (qvs xs) (qvs ys) i) (cfq (qvs xs) i))) (crat (evq (froot (qvs xs) xs.length i) (cfq (qvs xs) i))) (szq_crat (by omega)) (szq_crat (by omega)) (nv_crat0 _) (nv_crat0 _) (by rw[iv_crat];exact λe=>h0 (Rat.num_eq_zero.mp e));have z4:=qz_div (cfq (qvs ys) i-evq (news (qvs xs) (qvs ys) i) (cfq (qvs xs) i)) (evq (froot (qvs xs) xs.length i) (cfq (qvs xs) i));have ec:(cfq (qvs ys) i-evq (news (qvs xs) (qvs ys) i) (cfq (qvs xs) i))/evq (froot (qvs xs) xs.length i) (cfq (qvs xs) i)=newc (qvs xs) (qvs ys) (news (qvs xs) (qvs ys) i) i:=by rw[newc,hql]
   rw[qv_crat,qv_crat,ec]at b2;rw[ec]at z4;have es:news (qvs xs) (qvs ys) (i+1)=addq (news (qvs xs) (qvs ys) i) (sclq (newc (qvs xs) (qvs ys) (news (qvs xs) (qvs ys) i) i) (froot (qvs xs) xs.length i)):=by rw[news,hql]
   generalize newc (qvs xs) (qvs ys) (news (qvs xs) (qvs ys) i) i=c at *;have b3:=qscale_ok (cqs (froot (qvs xs) xs.length i)) (crat c) (2^34) (hfq.gqs.mono (by omega) (by omega)) (szq_crat (by omega)) (nv_crat0 _) (by omega) (by omega);rw[qv_crat,show cqp (sclq c (qvs (cqs (froot (qvs xs) xs.length i))))=cqp (sclq c (froot (qvs xs) xs.length i)) from congrArg cqw (cqs_ext λj=>sclq_congr c (λj=>by rw[qvs_cqs,cfq_trimq]) j)]at b3;have hsq:QB 21 (2^34) (sclq c (froot (qvs xs) xs.length i)):=.of (by simp[sclq];exact hfq.1) λj=>by
    rw[cfq_sclq];have h1:=qz_mul (cfq (froot (qvs xs) xs.length i) j) c;have h2:=hfq.cz (by omega) j;omega
   have b4:=qpadd_g (p:=cqs (news (qvs xs) (qvs ys) i)) (q:=cqs (sclq c (froot (qvs xs) xs.length i))) (K:=2^34) (X:=news (qvs xs) (qvs ys) i) (Y:=sclq c (froot (qvs xs) xs.length i)) (hnq.gq.mono (by omega) (by omega)) (hsq.gqs.mono (by omega) (by omega)) (by omega) (by omega) (pq_cqs _) (pq_cqs _);rw[<-es]at b4;have el:froot (qvs xs) xs.length (i+1)=mulq (froot (qvs xs) xs.length i) (lineq (cfq (qvs xs) i)):=by rw[froot,if_neg (by omega)]
   have n:=eline_ok (xs.getD i q0) (hx'.mono (by omega)) hdx;rw[<-cfq_qvs]at n;have hcl:=(CB.line (cfM (by omega) hx i)).qb;have m:=qpmul_g (p:=cqs (froot (qvs xs) xs.length i)) (q:=(lineq (cfq (qvs xs) i)).map crat) (n:=21) (k:=65536) (X:=froot (qvs xs) xs.length i) (Y:=lineq (cfq (qvs xs) i)) hfq.gqs ((hcl.mono (by omega) (by omega)).gq) (by omega) (by omega) (by omega) (pq_cqs _) (by rw[qvs_map]);rw[<-el]at m;simp (disch:=omega) only[wt,seval,reduceCtorEq,Nat.reduceEqDiff,rqs,fldRat0,hF];refine call_by (a1) (by first|rfl|(simp only[tocvs,tocv,toboxes,tobox,updH_at,Nat.reduceEqDiff,↓reduceIte,hF];rfl)) (by simp) ?_;simp (disch:=omega) only[wt,seval,reduceCtorEq,Nat.reduceEqDiff,rqs,fldRat0,hF];refine call_by (s1) (by first|rfl|(simp only[tocvs,tocv,toboxes,tobox,updH_at,Nat.reduceEqDiff,↓reduceIte,hF,hs];rfl)) (by simp) ?_;simp (disch:=omega) only[wt,seval,reduceCtorEq,Nat.reduceEqDiff,rqs,fldRat0,hF,hs];refine call_by (a2) (by first|rfl|(simp only[tocvs,tocv,toboxes,tobox,updH_at,Nat.reduceEqDiff,↓reduceIte,hF];rfl)) (by simp) ?_;simp (disch:=omega) only[wt,seval,reduceCtorEq,Nat.reduceEqDiff,rqs,fldRat0,hF];refine .inl ⟨tmps_by (by kernel_rfl),?_⟩;refine call_by (b1) (by first|rfl|(simp only[tocvs,tocv,toboxes,tobox,updH_at,Nat.reduceEqDiff,↓reduceIte,hF];rfl)) (by simp) ?_;simp (disch:=omega) only[wt,seval,reduceCtorEq,Nat.reduceEqDiff,rqs,fldRat0,hF]
   first|exact log_by (by kernel_rfl)|refine⟨log_by (by kernel_rfl),?_⟩
   refine call_by (b2) (by first|rfl|(simp only[tocvs,tocv,toboxes,tobox,updH_at,Nat.reduceEqDiff,↓reduceIte,hF];rfl)) (by simp) ?_;simp (disch:=omega) only[wt,seval,reduceCtorEq,Nat.reduceEqDiff,rqs,fldRat0,hF];refine call_by (b3) (by first|rfl|(simp only[tocvs,tocv,toboxes,tobox,updH_at,Nat.reduceEqDiff,↓reduceIte,hF];rfl)) (by simp) ?_;simp (disch:=omega) only[wt,seval,reduceCtorEq,Nat.reduceEqDiff,rqs,fldRat0,hF];refine call_by (b4) (by first|rfl|(simp only[tocvs,tocv,toboxes,tobox,updH_at,Nat.reduceEqDiff,↓reduceIte,hF];rfl)) (by simp) ?_;simp (disch:=omega) only[wt,seval,reduceCtorEq,Nat.reduceEqDiff,rqs,fldRat0,hF];refine call_by (n) (by first|rfl|(simp only[tocvs,tocv,toboxes,tobox,updH_at,Nat.reduceEqDiff,↓reduceIte,hF];rfl)) (by simp) ?_;simp (disch:=omega) only[wt,seval,reduceCtorEq,Nat.reduceEqDiff,rqs,fldRat0,hF];refine call_by (m) (by first|rfl|(simp only[tocvs,tocv,toboxes,tobox,updH_at,Nat.reduceEqDiff,↓reduceIte,hF];rfl)) (by simp) ?_;simp (disch:=omega) only[wt,seval,reduceCtorEq,Nat.reduceEqDiff,rqs,fldRat0,hF];refine⟨⟨i+1,by omega,λa b hb ha=>?_,?_⟩,by omega⟩
   .by_cases e:a=i
    .rw[e]at hb ⊢;exact hdn b hb
    .exact hdist a b hb (by omega)
   ·(repeat' apply And.intro)<;>first|rfl|omega
 .obtain rfl:i=xs.length:=by omega
  have hn:(qvs xs).Nodup:=nodup_of λa b hb ha=>hdist a b hb (by omega)
  obtain⟨rfl,rfl⟩:=h1 hn;simp (disch:=omega) only[wt,seval,reduceCtorEq,Nat.reduceEqDiff,rqs,fldRat0,hF]
  try rfl
theorem ev_down (A:List Rat)(c:Rat)(i:Nat):evq (A.drop i) c=evq (A.drop (i+1)) c*c+cfq A i:=by
 by_cases h:i<A.length
 .exact evq_drop A c h
 .rw[List.drop_of_length_le (by omega),List.drop_of_length_le (by omega),evq_nil,cfq_ge (by omega)]
  grind
theorem line_mul (S:List Rat)(c:Rat)(k:Nat):cfq (mulq S (lineq c)) k = -c*cfq S k+qshift (cfq S) k:=by
 have e:pq (mulq S (lineq c))=pq (mulq (lineq c) S):=by rw[pq_mulq,pq_mulq,PQ.mul_comm]
 have e1:cfq (mulq S (lineq c)) k=cfq (mulq (lineq c) S) k:=congrArg (λf:PQ=>f.c k) e;have e2:∀j,cfq (mulq [1] S) j=cfq S j:=λj=>by
  rw[cfq_mulq_cons];cases j with
  |zero=>show 1*cfq S 0+0=_;grind
  |succ j=>show 1*cfq S (j+1)+cfq (mulq [] S) j=_;rw[cfq_mulq];show 1*cfq S (j+1)+0=_;grind
 rw[e1,lineq,cfq_mulq_cons,qshift_congr e2]
theorem back_known (A:List Rat)(c:Rat)(k:Nat):cfq (addq (trimq (mulq (trimq (sqq A c)) (lineq c))) (trimq [evq A c])) k=cfq A k:=by
 rw[cfq_addq,cfq_trimq,cfq_trimq,line_mul,cfq_trimq,cfq_sqq];have h:=ev_down A c k;cases k with
 |zero =>
  show -c*evq (A.drop 1) c+0+evq A c=_;rw[List.drop_zero]at h
  grind
 |succ k =>
  show -c*evq (A.drop (k+1+1)) c+cfq (trimq (sqq A c)) k+0=_;rw[cfq_trimq,cfq_sqq]
  grind
theorem interp_known {P X Y:List Rat}{n:Nat}(hX:X.length=n)(hd:X.Nodup)(hY:∀j,j<n->cfq Y j=evq P (cfq X j))(hP:tzq P<=n):cqs (news X Y n)=cqs P:=by
 subst hX;refine cqs_ext λk=>interp_unique (X:=X) (λj hj=>news_deg X Y X.length (Nat.le_refl _) j hj) (λj hj=>?_) hd (λx hx=>?_) k
 .rw[<-cfq_trimq];exact cfq_ge (by rw[trimq_len];omega)
 .obtain⟨i,hi,rfl⟩:=List.getElem_of_mem hx;rw[<-cfq_lt hi,news_at X.length (Nat.le_refl _) (λi j h1 h2=>nodup_cf hd h2 (by omega) (by omega)) i hi,hY i hi]
theorem froot_tz (X:List Rat)(n:Nat):tzq (froot X n n)=n+1:=by
 have h:=froot_deg X n n;rw[fdeg,if_neg (Nat.lt_irrefl n)]at h;exact tzq_spec (by rw[h.1];decide +kernel) h.2
theorem once_root {X:List Rat}{n i:Nat}(hn:X.length=n)(hd:X.Nodup)(hi:i<n):evq (trimq (froot X n n)) (cfq X i)=0/\evq (sqq (trimq (froot X n n)) (cfq X i)) (cfq X i)≠0:=by
 have h0:∀j,j<n->evq (trimq (froot X n n)) (cfq X j)=0:=λj hj=>by rw[evq_trim];exact froot_zero X n n j hj (by omega)
 refine⟨h0 i hi,λhz=>?_⟩;have hlen:(trimq (froot X n n)).length=n+1:=by rw[trimq_len,froot_tz]
 have htop:cfq (trimq (froot X n n)) n=1:=by
  have h:=(froot_deg X n n).1;rw[fdeg,if_neg (Nat.lt_irrefl n)]at h;rw[cfq_trimq];exact h
 generalize trimq (froot X n n)=A at *;have hall:=roots_low (X:=X) (p:=sqq A (cfq X i)) (λk hk=>cfq_ge (by rw[sqq_len];omega)) hd (λx hx=>by
  obtain⟨j,hj,rfl⟩:=List.getElem_of_mem hx;rw[<-cfq_lt hj];by_cases e:j=i
  .rw[e];exact hz
  .have es:=evq_split A (cfq X i) (cfq X j);rw[h0 i hi,h0 j (by omega)]at es;have hne:=nodup_cf hd hj (show i<X.length by omega) e;have hne':cfq X j-cfq X i≠0:=λh=>hne (by grind)
   have es2:(cfq X j-cfq X i)*evq (sqq A (cfq X i)) (cfq X j)=0:=by grind
   exact(Rat.mul_eq_zero.mp es2).resolve_left hne') (n-1)
 have hd2:=ev_down A (cfq X i) n;rw[cfq_sqq,show n-1+1=n by omega,hd2,htop,List.drop_of_length_le (by omega),evq_nil]at hall
 grind
structure XL (x s:RQ) (L:List RQ) (i:Nat):Prop where
 l:L.length=i
 p:∀j,j<i->TPl x s (L.getD j q0) j
theorem XL.nil (x s:RQ):XL x s [] 0:=⟨rfl,λj hj=>by omega⟩
theorem XL.snoc {x s y:RQ}{l:List RQ}{i:Nat}(h:XL x s l i)(t:TPl x s y i):XL x s (l++[y]) (i+1):=⟨by rw[List.length_append,h.l];rfl,λj hj=>by
 have hl:=h.l;rcases Nat.eq_or_lt_of_le (Nat.le_of_lt_succ hj) with e|e
 .subst e;have:(l++[y]).getD j q0=y:=by simp[List.getD,hl]
  rw[this];exact t
 .have:(l++[y]).getD j q0=l.getD j q0:=by simp[List.getD,List.getElem?_append_left (show j<l.length by omega)]
  rw[this];exact h.p j e⟩
theorem XL.gq {x s:RQ}{l:List RQ}{i:Nat}(h:XL x s l i)(hi:i<=10):GQ 10 4096 l:=⟨by rw[h.l];exact hi,λr hr=>by
 obtain⟨j,hj,rfl⟩:=List.getElem_of_mem hr;have t:=h.p j (by rw[<-h.l];exact hj);have e:l.getD j q0=l[j]:=by simp[List.getD,hj]
 rw[e]at t;have:=h.l;exact⟨t.z.mono (by omega),t.d⟩⟩
theorem XL.val {x s:RQ}{l:List RQ}{i:Nat}(h:XL x s l i){j:Nat}(hj:j<i):cfq (qvs l) j=qv x+(j:Rat)*qv s:=by rw[cfq_qvs,(h.p j hj).v]
theorem XL.nodup {x s:RQ}{l:List RQ}{i:Nat}(h:XL x s l i)(hs:qv s≠0):(qvs l).Nodup:=nodup_of λa b hb ha e=>by
 rw[qvs_len,h.l]at ha;rw[h.val ha,h.val (by omega)]at e;have e2:((a:Rat)-(b:Rat))*qv s=0:=by grind
 rcases Rat.mul_eq_zero.mp e2 with e3|e3
 .have e4:(a:Rat)=(b:Rat):=by grind
  have:=Rat.natCast_inj.mp e4;omega
 .exact hs e3
end Go.Proofs.YtmoiodckaadchaaGreat

set_option linter.unusedSimpArgs false
set_option linter.unusedVariables false
namespace Go.Proofs.YtmoiodckaadchaaGreat
open Go Go.Proofs Go.AL
theorem cf4096 {l:List RQ}(h:GQ 10 4096 l)(i:Nat):qz (cfq (qvs l) i)<=4096:=cfM (by omega) h i
theorem tb_once {x s:RQ}{l:List RQ}{n:Nat}(h:XL x s l n)(hn:n<=10)(hs:qv s≠0){i:Nat}(hi:i<n):TB (trimq (qvs (cqs (froot (qvs l) n n)))) (l.getD i q0) 1:=by
 have hg:=h.gq hn;have hl:=h.l;have hx:=hg.get (i:=i) (by omega);have h0:=hg.den (i:=i) (by omega);have hon:=once_root (X:=qvs l) (n:=n) (i:=i) (by rw[qvs_len,hl]) (h.nodup hs) hi;rw[cfq_qvs]at hon;have hq:=froot_qm hg n n hn;obtain⟨E,hE⟩:=froot_cb (N:=10) (cf4096 hg) n n hn;have hE2:=(hE.mono (m:=21) (N:=65536) (by omega) (by
  have:n*(4096+2*10+3)<=10*(4096+2*10+3):=Nat.mul_le_mul_right _ hn;omega)).trim
 have hE3:=(hE2.sqq h0 (qv_cd hx).2 (qv_cd hx).1).trim.qb;have hlen:(trimq (froot (qvs l) n n)).length=n+1:=by rw[trimq_len,froot_tz]
 rw[qvs_cqs,trimq_trimq];have hqt:=hq.trimq;have htt:=trimq_trimq (froot (qvs l) n n);generalize trimq (froot (qvs l) n n)=A at *;refine⟨htt,by omega,by omega,λj hj=>?_,?_,λk hk=>?_⟩
 .obtain rfl:j=0:=by omega
  exact hon.1
 .show evq (trimq (sqq A (qv (l.getD i q0)))) (qv (l.getD i q0))≠0;rw[evq_trim];exact hon.2
 .rcases Nat.eq_zero_or_pos k with e|e
  .subst e;exact VB.of (K:=65536) (X:=4096) (n:=21) hqt.gq hx h0 (by omega) (by omega) (by omega)
  .obtain rfl:k=1:=by omega
   exact VB.of (K:=2^20) (X:=4096) (n:=21) ((hE3.mono (Nat.le_refl _) (by omega)).gq) hx h0 (by omega) (by omega) (by omega)
theorem one_cut (e:Rat):trimq (qvs [crat e])=trimq [e]:=by rw[show qvs [crat e]=[e] by rw[qvs,List.map_cons,List.map_nil,qv_crat]]
theorem known_law (p:List RQ)(x s:RQ)(hp:RawQ p)(hx:SzQ 9223372036854775807 x)(hs:SzQ 9223372036854775807 s):AC Tryz.prog 4 [cqw p,cqq x,cqq s] none [cb true]:=by
 have g1:=sgrats_ok p hp.1 (λr hr=>rawq_len (hp.2 r hr));have hxs:∀r∈[x,s],SzQ 9223372036854775807 r:=λr hr=>by
  simp only[List.mem_cons,List.not_mem_nil,or_false]at hr;rcases hr with rfl|rfl
  .exact hx
  .exact hs
 have g2:=sgrats_ok [x,s] (by simp) (λr hr=>rawq_len (hxs r hr));have p1:[qrow x,qrow s]=rats [x,s]:=rfl;refine AC.by_walk (rs:=[.tmp 6]) ords Tryz.func4 (by rfl) (by rfl) (by rfl) (by rfl) (by rfl) ?_;simp (disch:=omega) only[wt,seval,reduceCtorEq,Nat.reduceEqDiff,rqs,fldRat0];refine call_by (awake12_ok) (by rfl) (by simp) ?_;simp (disch:=omega) only[wt,seval,reduceCtorEq,Nat.reduceEqDiff,rqs,fldRat0];cases hg1:gqr p with
 |true =>
  rw[hg1]at g1;refine call_by (g1) (by rfl) (by simp) ?_;simp (disch:=omega) only[wt,seval,reduceCtorEq,Nat.reduceEqDiff,rqs,fldRat0]
  try rfl
 |false =>
 rw[hg1]at g1;refine call_by (g1) (by rfl) (by simp) ?_;simp (disch:=omega) only[wt,seval,reduceCtorEq,Nat.reduceEqDiff,rqs,fldRat0];cases hg2:gqr [x,s] with
 |true =>
  rw[hg2]at g2;refine call_by (g2) (by rfl) (by simp) ?_;simp (disch:=omega) only[wt,seval,reduceCtorEq,Nat.reduceEqDiff,rqs,fldRat0]
  try rfl
 |false =>
 rw[hg2]at g2;have hpb:=gqr_bq hg1 hp.2;have hxsb:=gqr_bq hg2 hxs;have hxb:SzQ 200 x:=hxsb.2 _ (by simp);have hsb:SzQ 200 s:=hxsb.2 _ (by simp);refine call_by (g2) (by rfl) (by simp) ?_;simp (disch:=omega) only[wt,seval,reduceCtorEq,Nat.reduceEqDiff,rqs,fldRat0];have gg:=qgood_ok p (hpb.mono (by omega) (by omega));have gx:=hok_ok x ⟨Nat.le_trans hxb.2.1 (by omega),hxb.2.2⟩;have gs:=hok_ok s ⟨Nat.le_trans hsb.2.1 (by omega),hsb.2.2⟩;have hpl:=hpb.1;cases hgd:gd p with
 |false =>
  rw[hgd]at gg;refine call_by (gg) (by rfl) (by simp) ?_;simp (disch:=omega) only[wt,seval,reduceCtorEq,Nat.reduceEqDiff,rqs,fldRat0]
  try rfl
 |true =>
 rw[hgd]at gg;by_cases dx:nv x.2=0
 .rw[decide_eq_false (λh=>h dx)]at gx;refine call_by (gg) (by rfl) (by simp) ?_;simp (disch:=omega) only[wt,seval,reduceCtorEq,Nat.reduceEqDiff,rqs,fldRat0];refine call_by (gx) (by rfl) (by simp) ?_;simp (disch:=omega) only[wt,seval,reduceCtorEq,Nat.reduceEqDiff,rqs,fldRat0]
  try rfl
 rw[decide_eq_true dx]at gx;by_cases ds:nv s.2=0
 .rw[decide_eq_false (λh=>h ds)]at gs;refine call_by (gg) (by rfl) (by simp) ?_;simp (disch:=omega) only[wt,seval,reduceCtorEq,Nat.reduceEqDiff,rqs,fldRat0];refine call_by (gx) (by rfl) (by simp) ?_;simp (disch:=omega) only[wt,seval,reduceCtorEq,Nat.reduceEqDiff,rqs,fldRat0];refine call_by (gs) (by rfl) (by simp) ?_;simp (disch:=omega) only[wt,seval,reduceCtorEq,Nat.reduceEqDiff,rqs,fldRat0]
  try rfl
 rw[decide_eq_true ds]at gs;by_cases h9:9<(p.length:Int)
 .have h9':=eq_true h9;refine call_by (gg) (by rfl) (by simp) ?_;simp (disch:=omega) only[wt,seval,reduceCtorEq,Nat.reduceEqDiff,rqs,fldRat0];refine call_by (gx) (by rfl) (by simp) ?_;simp (disch:=omega) only[wt,seval,reduceCtorEq,Nat.reduceEqDiff,rqs,fldRat0];refine call_by (gs) (by first|rfl|(simp only[tocvs,tocv,toboxes,tobox,updH_at,Nat.reduceEqDiff,↓reduceIte,h9'];rfl)) (by simp) ?_;simp (disch:=omega) only[wt,seval,reduceCtorEq,Nat.reduceEqDiff,rqs,fldRat0,h9']
  try rfl
 have h9':=eq_false h9;refine call_by (gg) (by rfl) (by simp) ?_;simp (disch:=omega) only[wt,seval,reduceCtorEq,Nat.reduceEqDiff,rqs,fldRat0];refine call_by (gx) (by rfl) (by simp) ?_;simp (disch:=omega) only[wt,seval,reduceCtorEq,Nat.reduceEqDiff,rqs,fldRat0];refine call_by (gs) (by first|rfl|(simp only[tocvs,tocv,toboxes,tobox,updH_at,Nat.reduceEqDiff,↓reduceIte,h9'];rfl)) (by simp) ?_;simp (disch:=omega) only[wt,seval,reduceCtorEq,Nat.reduceEqDiff,rqs,fldRat0,h9'];have hp40:=hpb.gq hgd;have hp9:GQ 9 200 p:=⟨by omega,hp40.2⟩;have nm:=hnormq_ok p (hp40.mono (by omega) (by omega));have v:=VB.of (B:=2^20) hp40 hxb dx (by omega) (by omega) (by omega);have sp:=esplit_ok p x _ v;have ea:=eAt_ok p x _ v;have ze:=v.e (qvs p) (by rw[qvs_len];omega) (λc hc=>hc);obtain⟨D,hD⟩:=hp40.qb.trimq.cb;have cs:=(hD.sqq dx (qv_cd hxb).2 (qv_cd hxb).1).trim;have cl:=CB.line (c:=qv x) (K:=200) (qz_raw hxb dx);have cm:=cs.mulq cl;have hz:=cs.part cl (by omega);have mu:=hmulq_ok (trimq (sqq (trimq (qvs p)) (qv x))) (lineq (qv x)) (cs.qb.mono (by omega) (by omega)) (cl.qb.mono (by omega) (by omega)) (λi k=>Nat.le_trans (hz i k) (by omega));have cq:=cm.trim.qb;have bk:=back_known (trimq (qvs p)) (qv x);rw[evq_trim]at bk;have hP:tzq (qvs p)<=9:=by
  have h1:=tzq_le (qvs p);rw[qvs_len]at h1;have:=hp9.1;omega
 have hown:=cqs_len (qvs p);generalize hS:trimq (sqq (trimq (qvs p)) (qv x))=S at *;generalize hM:mulq S (lineq (qv x))=M at *;generalize hev:evq (qvs p) (qv x)=e at *;have hz1:SzQ (2^21) (crat e):=szq_crat (by omega);have nr:=hnormq_ok [crat e] ⟨by simp,λr hr=>by rw[List.mem_singleton.mp hr];exact⟨hz1.mono (by omega),nv_crat0 _⟩⟩;have ad:=haddq_ok (trimq M) (trimq [e]) (cq.mono (by omega) (by omega)) (QB.trimq ⟨by simp,λc hc=>by rw[List.mem_singleton.mp hc];omega⟩);have nr2:AC Tryz.prog 22 [cqw [crat e]] none [cqw ((trimq [e]).map crat)]:=by
  rw[<-one_cut];exact nr
 rw[show cqp (sqq (trimq (qvs p)) (qv x))=cqw (S.map crat) by rw[<-hS];rfl]at sp;have eb:cqs (addq (trimq M) (trimq [e]))=cqs (qvs p):=cqs_ext λk=>by rw[bk,cfq_trimq]
 rw[show cqp (addq (trimq M) (trimq [e]))=cqp (qvs p) from congrArg cqw eb]at ad;have same1:=same_self (v:=crat e) (hz1.mono (by omega));have same2:=sameq_self (p:=cqs (qvs p)) (hp40.qb.gqs.bq.mono (by omega) (by omega));have nt:=hnot_ok x (hxb.mono (by omega)) dx;have sg:=hS_ok s (hsb.1.mono (by omega));refine call_by (nm) (by rfl) (by simp) ?_;simp (disch:=omega) only[wt,seval,reduceCtorEq,Nat.reduceEqDiff,rqs,fldRat0];refine call_by (sp) (by rfl) (by simp) ?_;simp (disch:=omega) only[wt,seval,reduceCtorEq,Nat.reduceEqDiff,rqs,fldRat0];refine call_by (ea) (by rfl) (by simp) ?_;simp (disch:=omega) only[wt,seval,reduceCtorEq,Nat.reduceEqDiff,rqs,fldRat0];refine call_by (same1) (by rfl) (by simp) ?_;simp (disch:=omega) only[wt,seval,reduceCtorEq,Nat.reduceEqDiff,rqs,fldRat0];refine call_by (hone_ok) (by rfl) (by simp) ?_;simp (disch:=omega) only[wt,seval,reduceCtorEq,Nat.reduceEqDiff,rqs,fldRat0];refine .inl ⟨tmps_by (by kernel_rfl),?_⟩;refine call_by (nt) (by rfl) (by simp) ?_;simp (disch:=omega) only[wt,seval,reduceCtorEq,Nat.reduceEqDiff,rqs,fldRat0];refine call_by (mu) (by rfl) (by simp) ?_;simp (disch:=omega) only[wt,seval,reduceCtorEq,Nat.reduceEqDiff,rqs,fldRat0];refine call_by (nr2) (by rfl) (by simp) ?_;simp (disch:=omega) only[wt,seval,reduceCtorEq,Nat.reduceEqDiff,rqs,fldRat0];refine call_by (ad) (by rfl) (by simp) ?_;simp (disch:=omega) only[wt,seval,reduceCtorEq,Nat.reduceEqDiff,rqs,fldRat0]
 first|exact log_by (by kernel_rfl)|refine⟨log_by (by kernel_rfl),?_⟩
 refine call_by (same2) (by rfl) (by simp) ?_;simp (disch:=omega) only[wt,seval,reduceCtorEq,Nat.reduceEqDiff,rqs,fldRat0];by_cases hs0:qv s=0
 .have hi0:(iv s.1).sign=0:=Int.sign_eq_zero_iff_zero.mpr ((qv_zero ds).mp hs0);rw[hi0]at sg;refine call_by (sg) (by rfl) (by simp) ?_;simp (disch:=omega) only[wt,seval,reduceCtorEq,Nat.reduceEqDiff,rqs,fldRat0]
  try rfl
 have hi0:((iv s.1).sign=0)=False:=eq_false λh=>hs0 ((qv_zero ds).mpr (Int.sign_eq_zero_iff_zero.mp h))
 obtain⟨n,hn⟩:∃n,tzq (qvs p)+1=n:=⟨_,rfl⟩;have hn10:n<=10:=by omega
 have en:(tzq (qvs p):Int)+1=(n:Int):=by omega
 have tb:=etable_ok p x s n (by omega) hp40 hxb hsb dx ds;have htl:((tabl (qvs p) (qv x) (qv s) n).map crat).length=n:=by rw[List.length_map,tabl_len]
 refine call_by (sg) (by first|rfl|(simp only[tocvs,tocv,toboxes,tobox,updH_at,Nat.reduceEqDiff,↓reduceIte,hi0,hown,en];rfl)) (by simp) ?_;simp (disch:=omega) only[wt,seval,reduceCtorEq,Nat.reduceEqDiff,rqs,fldRat0,hi0,hown,en];refine call_by (tb) (by first|rfl|(simp only[tocvs,tocv,toboxes,tobox,updH_at,Nat.reduceEqDiff,↓reduceIte,hown,en,htl];rfl)) (by simp) ?_;simp (disch:=omega) only[wt,seval,reduceCtorEq,Nat.reduceEqDiff,rqs,fldRat0,hown,en,htl];refine aloop_nil 16 123 33 3 (by simp (disch:=omega) only[wt,seval,reduceCtorEq,Nat.reduceEqDiff,rqs,fldRat0]) (λf H=>∃(i st s17 s5:Nat) (l:List RQ) (y:RQ),i<=n/\XL x s l i/\TPl x s y i/\f 18=.iv (.int .i64 i)/\f 14=.iv (.int .i64 n)/\f 16=.hs 123 st/\H 123=.blk false st 33 3 (rats l)/\f 17=.hp 17 s17 0 0/\H 17=.blk false s17 33 3 [qrow y]/\f 5=.hp 5 s5 0 0/\H 5=.blk false s5 33 3 [qrow s]/\f 15=.iv (.sl (rats ((tabl (qvs p) (qv x) (qv s) n).map crat)))/\f 7=.iv (.sl (rats (cqs (qvs p))))) (λf H=>(n-intAt f 18).toNat) ?_ ?_
 .refine⟨0,1,1,1,[],x,by omega,.nil x s,tpl_zero hxb dx,?_⟩;simp (disch:=omega) only[wt,seval,reduceCtorEq,Nat.reduceEqDiff,rqs,fldRat0,ghostF,ghostH,show rats []=[] from rfl]
 rintro f H ⟨i,st,s17,s5,l,y,hi,hX,hy,hF⟩;rw[intAt_of hF.1];simp (disch:=omega) only[wt,seval,reduceCtorEq,Nat.reduceEqDiff,rqs,fldRat0,hF];refine if_by (λhlt=>?_) (λhlt=>?_)
 .have hln:=hX.l;have pl:=hplus_ok y s (hy.z.mono (by omega)) (hsb.mono (by omega)) hy.d ds;simp (disch:=omega) only[wt,seval,reduceCtorEq,Nat.reduceEqDiff,rqs,fldRat0,hF];refine call_by (pl) (by first|rfl|(simp only[tocvs,tocv,toboxes,tobox,updH_at,Nat.reduceEqDiff,↓reduceIte,hF];rfl)) (by simp) ?_;simp (disch:=omega) only[wt,seval,reduceCtorEq,Nat.reduceEqDiff,rqs,fldRat0,hF];refine⟨⟨i+1,st+1,s17,s5,l++[y],crat (qv y+qv s),by omega,hX.snoc hy,tpl_next hy hsb ds,?_⟩,by omega⟩
  (repeat' apply And.intro)<;>first|rfl|omega
 .obtain rfl:i=n:=by omega
  have hl:=hX.l;have hgl:=hX.gq hn10;have hnd:=hX.nodup hs0;have hcv:∀j,j<i->cfq (tabl (qvs p) (qv x) (qv s) i) j=evq (qvs p) (cfq (qvs l) j):=λj hj=>by
   rw[hX.val hj,cfq_lt (by rw[tabl_len];exact hj)];simp[tabl]
  have hyq:QB 10 32768 (tabl (qvs p) (qv x) (qv s) i):=.of (by rw[tabl_len];exact hn10) λj=>by
   by_cases hj:j<i
   .have t:=hX.p j hj;have vb:=VB.of (K:=200) (X:=2009) (n:=9) (B:=32768) hp9 (t.z.mono (by omega)) t.d (by omega) (by omega) (by omega);have h:=vb.e (qvs p) (by rw[qvs_len];exact Nat.le_refl _) (λc hc=>hc);rw[hcv j hj,cfq_qvs];exact h
   .rw[cfq_ge (by rw[tabl_len];omega)]
    decide +kernel
  have hyg:=hyq.gq;have tm:=ethrough_m l _ (cqs (news (qvs l) (tabl (qvs p) (qv x) (qv s) i) i)) 0 hgl hyg (by rw[hl,htl]) (λ_=>⟨by rw[qvs_map,hl],rfl⟩) (λh=>absurd hnd h);rw[interp_known (by rw[qvs_len,hl]) hnd hcv (by omega)]at tm;have fr:=eFroots_m l hgl;rw[hl]at fr;have hfl:(cqs (froot (qvs l) i i)).length=i+1:=by rw[cqs_len,froot_tz]
  have hfq:=(froot_qm hgl i i hn10).gqs;have ho:∀j,j<i->AC Tryz.prog 36 [cqw (cqs (froot (qvs l) i i)),cqq (l.getD j q0)] none [ci 1,ci 0]:=λj hj=>etimes_ok _ _ 1 (hfq.mono (by omega) (by omega)) ((hgl.get (by omega)).mono (by omega)) (hgl.den (by omega)) (tb_once hX hn10 hs0 hj)
  have hfl2:((cqs (froot (qvs l) i i)).length:Int)=(i:Int)+1:=by omega
  simp (disch:=omega) only[wt,seval,reduceCtorEq,Nat.reduceEqDiff,rqs,fldRat0,hF];refine call_by (tm) (by first|rfl|(simp only[tocvs,tocv,toboxes,tobox,updH_at,Nat.reduceEqDiff,↓reduceIte,hF];rfl)) (by simp) ?_;simp (disch:=omega) only[wt,seval,reduceCtorEq,Nat.reduceEqDiff,rqs,fldRat0,hF];refine call_by (same2) (by first|rfl|(simp only[tocvs,tocv,toboxes,tobox,updH_at,Nat.reduceEqDiff,↓reduceIte,hF];rfl)) (by simp) ?_;simp (disch:=omega) only[wt,seval,reduceCtorEq,Nat.reduceEqDiff,rqs,fldRat0,hF];refine call_by (fr) (by first|rfl|(simp only[tocvs,tocv,toboxes,tobox,updH_at,Nat.reduceEqDiff,↓reduceIte,hF,hfl2];rfl)) (by simp) ?_;simp (disch:=omega) only[wt,seval,reduceCtorEq,Nat.reduceEqDiff,rqs,fldRat0,hF,hfl2];refine aloop_w (.iv 16 123 st true 33 3 (rats l) (by simp (disch:=omega) only[wt,seval,reduceCtorEq,Nat.reduceEqDiff,rqs,fldRat0,hF]) (by simp (disch:=omega) only[wt,seval,reduceCtorEq,Nat.reduceEqDiff,rqs,fldRat0,hF]) (.refl _ _)) (λf H=>∃(j:Nat),j<=i/\f 157=.iv (.int .i64 j)/\f 156=.iv (.int .i64 i)/\f 16=.iv (.sl (rats l))/\f 20=.iv (.sl (rats (cqs (froot (qvs l) i i))))) (λf H=>(i-intAt f 157).toNat) ?_ ?_
  .refine⟨0,by omega,?_⟩;simp (disch:=omega) only[wt,seval,reduceCtorEq,Nat.reduceEqDiff,rqs,fldRat0,hF,hl]
  rintro f H ⟨j,hj,hF⟩;rw[intAt_of hF.1];simp (disch:=omega) only[wt,seval,reduceCtorEq,Nat.reduceEqDiff,rqs,fldRat0,hF];refine if_by (λhlt=>?_) (λhlt=>?_)
  .have hjl:j<l.length:=by omega
   have t:=ho j (by omega);simp (disch:=omega) only[wt,seval,reduceCtorEq,Nat.reduceEqDiff,rqs,fldRat0,hF];refine call_by (t) (by first|rfl|(simp only[tocvs,tocv,toboxes,tobox,updH_at,Nat.reduceEqDiff,↓reduceIte,hF];rfl)) (by simp) ?_;simp (disch:=omega) only[wt,seval,reduceCtorEq,Nat.reduceEqDiff,rqs,fldRat0,hF];refine⟨⟨j+1,by omega,?_⟩,by omega⟩
   (repeat' apply And.intro)<;>first|rfl|omega
  .simp (disch:=omega) only[wt,seval,reduceCtorEq,Nat.reduceEqDiff,rqs,fldRat0,hF]
   try rfl
end Go.Proofs.YtmoiodckaadchaaGreat
