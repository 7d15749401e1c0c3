/-
 Contracts of the functions that the law reaches.
-/
import Derived.Test.YtnhghmibjddlkaaGreatDoorL66M
import Derived.Test.YtnhghmibjddlkaaGreatDoorL117M
set_option maxHeartbeats 2000000
namespace Go.Proofs.YtnhghmibjddlkaaGreatDoor
open Go Go.Proofs Go.AL
set_option linter.unusedSimpArgs false
set_option linter.unusedVariables false
theorem Oe {K ka kb:Nat}{a b:Int}(ha:zl a<=ka)(hb:zl b<=kb):∀(p:List Int),(∀i,zl (cf p i)<=K)->zl (pG p a b)<=K+p.length*(ka+kb+3)
 |[],_=>by show zl 0<=_;rw[fA];omega
 |c::p,h=>by
  have ih:=Oe ha hb p λi=>h (i+1)
  have h0:zl c<=K:=h 0;have h2:=Jh hb p.length;have h3:=gI c (b^p.length);have h4:=gI a (pG p a b);have h5:=nT (c*b^p.length) (a*pG p a b);show zl (c*b^p.length+a*pG p a b)<=_;rw[List.length_cons,Nat.add_mul,Nat.one_mul];have h6:p.length*kb<=p.length*(ka+kb+3):=Nat.mul_le_mul_left _ (by omega);omega
theorem Oc (a:Int):∀p:List Int,pG p a 1=ev p a
 |[]=>rfl
 |c::p=>by
  show c*1^p.length+a*pG p a 1=c+a*ev p a;rw[Oc a p,Int.one_pow,Int.mul_one]
theorem Jp (F:List Int)(s:Sp)(h:RP 12 (2^10) (cn F))(ha:zl s.a<=2^15)(he : -2^17<=s.e)(he2:s.e<=2^17):AC Tryz.prog 72 [cp F,csp s] none [cb (decide (er F (s.a*p2 (-s.e))=0))]:=by
 have hl:(aV F).length<=12:=by have:=h.1;simpa [cn] using this
 have epv:pv (cn F)=aV F:=gW _;have hb:∀i,zl (cf (aV F) i)<=2^10:=λi=>by
  have:=JG h i;rwa [epv]at this
 have key:∀(a b:Int) (n:Nat),b=2^n->((pG (aV F) a b).sign=0↔er F ((a:Rat)/(b:Rat))=0):=λa b n hbn=>by
  have:=KQ (p:=F) (a:=a) (b:=2^n) (Nat.ne_of_gt (Nat.pow_pos (by omega)));have e1:((2^n:Nat):Int)=b:=by rw[hbn];push_cast;rfl
  have e2:((2^n:Nat):Rat)=(b:Rat):=by rw[<-e1,Rat.intCast_natCast]
  rw[e1,e2]at this;rw[this,qw,YL]
 obtain⟨a,e,pt,L⟩:=s;simp only at ha he he2 ⊢;by_cases hn:e<0
 .obtain⟨n,rfl⟩:∃n:Nat,e = -(n:Int):=⟨(-e).toNat,by omega⟩;have en : -(-(n:Int))=n:=by omega
  have ew:0 - -(n:Int)=n:=by omega
  have t:=FY n (by omega);have m:=jM (canon a) (canon (2^n)) ((aW _).mono (by omega)) ((aW _).mono (by have:=MZ n;omega));rw[aU,aU]at m;have zm:zl (a*2^n)<=2^15+2^12:=by have:=gI a (2^n);have:=MZ n;omega
  have hat:=YM (cn F) (canon (a*2^n)) (h.mono (by omega) (by omega)) ((aW _).mono (by omega));rw[aU,epv]at hat;have zi:=Oe (K:=2^10) (kb:=1) zm (dR.mpr (by decide):zl 1<=1) (aV F) hb;rw[Oc]at zi;have zi2:(aV F).length*(2^15+2^12+1+3)<=12*(2^15+2^12+1+3):=Nat.mul_le_mul_right _ hl;have sg:=fM (canon (ev (aV F) (a*2^n))) ((aW _).mono (by omega));rw[aU]at sg;have k:=key (a*2^n) 1 0 rfl;rw[Oc]at k;have e3:((a*2^n:Int):Rat)/((1:Int):Rat)=(a:Rat)*p2 (-(-(n:Int))):=by
   rw[en,Kv,show ((1:Int):Rat)=1 from rfl,Rat.intCast_mul,Rat.div_def];have:(1:Rat)⁻¹=1:=by decide +kernel
   rw[this]
   push_cast
   grind
  rw[e3]at k;rw[show decide (er F ((a:Rat)*p2 (-(-(n:Int))))=0)=decide ((ev (aV F) (a*2^n)).sign=0) from decide_eq_decide.mpr k.symm];clear k key e3 zi zi2;generalize (ev (aV F) (a*2^n)).sign=x at *;generalize ev (aV F) (a*2^n)=y at *;generalize a*2^n=y2 at *;refine AC.aF (rs:=[.tmp 4]) bM Tryz.func72 (by rfl) (by rfl) (by rfl) (by rfl) (by rfl) ?_;simp (disch:=omega) only[wt,seval,reduceCtorEq,Nat.reduceEqDiff,aj,rqs,ws,hn];refine .inl ⟨aZ (by kernel_rfl),?_⟩;refine au (t) (by first|rfl|(simp only[aH,bn,aB,aI,aA,Nat.reduceEqDiff,↓reduceIte,ws,hn,en,ew];rfl)) (by simp) ?_;simp (disch:=omega) only[wt,seval,reduceCtorEq,Nat.reduceEqDiff,aj,rqs,ws,hn,en,ew];refine au (m) (by first|rfl|(simp only[aH,bn,aB,aI,aA,Nat.reduceEqDiff,↓reduceIte,ws,hn];rfl)) (by simp) ?_;simp (disch:=omega) only[wt,seval,reduceCtorEq,Nat.reduceEqDiff,aj,rqs,ws,hn];refine au (hat) (by first|rfl|(simp only[aH,bn,aB,aI,aA,Nat.reduceEqDiff,↓reduceIte,ws,hn];rfl)) (by simp) ?_;simp (disch:=omega) only[wt,seval,reduceCtorEq,Nat.reduceEqDiff,aj,rqs,ws,hn];refine au (sg) (by first|rfl|(simp only[aH,bn,aB,aI,aA,Nat.reduceEqDiff,↓reduceIte,ws,hn];rfl)) (by simp) ?_;simp (disch:=omega) only[wt,seval,reduceCtorEq,Nat.reduceEqDiff,aj,rqs,ws,hn]
  first|exact aN (by kernel_rfl)|refine⟨aN (by kernel_rfl),?_⟩
  try rfl
 .obtain⟨n,rfl⟩:∃n:Nat,e=(n:Int):=⟨e.toNat,by omega⟩;have t:=FY n (by omega);have zt:zl (2^n)<=2^12:=by have:=MZ n;omega
  have hg:=Fb (cn F) (canon a) (canon (2^n)) (h.mono (by omega) (by omega)) ((aW _).mono (by omega)) ((aW _).mono (by omega));rw[aU,aU,epv,kD]at hg;have zi:=Oe (K:=2^10) ha zt (aV F) hb;have zi2:(aV F).length*(2^15+2^12+3)<=12*(2^15+2^12+3):=Nat.mul_le_mul_right _ hl;have sg:=fM (canon (pG (aV F) a (2^n))) ((aW _).mono (by omega));rw[aU]at sg;have k:=key a (2^n) n rfl;have e3:(a:Rat)/((2^n:Int):Rat)=(a:Rat)*p2 (-(n:Int)):=by
   have h1:=a4z n;have h2:p2 (n:Int)=((2^n:Int):Rat):=by rw[Kv];push_cast;rfl
   rw[h2]at h1;have h3:((2^n:Int):Rat)≠0:=λe=>by rw[e]at h1;grind
   refine vH h3 ?_;rw[Rat.div_mul_cancel h3];generalize ((2^n:Int):Rat)=z at *;generalize p2 (-(n:Int))=z2 at *
   grind
  rw[e3]at k;rw[show decide (er F ((a:Rat)*p2 (-(n:Int)))=0)=decide ((pG (aV F) a (2^n)).sign=0) from decide_eq_decide.mpr k.symm];clear k key e3 zi zi2;generalize (pG (aV F) a (2^n)).sign=x at *;generalize pG (aV F) a (2^n)=y at *;generalize (2:Int)^n=y2 at *;refine AC.aF (rs:=[.tmp 4]) bM Tryz.func72 (by rfl) (by rfl) (by rfl) (by rfl) (by rfl) ?_;simp (disch:=omega) only[wt,seval,reduceCtorEq,Nat.reduceEqDiff,aj,rqs,ws,hn];refine .inl ⟨aZ (by kernel_rfl),?_⟩;refine au (t) (by first|rfl|(simp only[aH,bn,aB,aI,aA,Nat.reduceEqDiff,↓reduceIte,ws,hn];rfl)) (by simp) ?_;simp (disch:=omega) only[wt,seval,reduceCtorEq,Nat.reduceEqDiff,aj,rqs,ws,hn];refine au (hg) (by first|rfl|(simp only[aH,bn,aB,aI,aA,Nat.reduceEqDiff,↓reduceIte,ws,hn];rfl)) (by simp) ?_;simp (disch:=omega) only[wt,seval,reduceCtorEq,Nat.reduceEqDiff,aj,rqs,ws,hn];refine au (sg) (by first|rfl|(simp only[aH,bn,aB,aI,aA,Nat.reduceEqDiff,↓reduceIte,ws,hn];rfl)) (by simp) ?_;simp (disch:=omega) only[wt,seval,reduceCtorEq,Nat.reduceEqDiff,aj,rqs,ws,hn]
  first|exact aN (by kernel_rfl)|refine⟨aN (by kernel_rfl),?_⟩
  try rfl
theorem Yn (P:List Int):ps (kS P [1,1] [1])=ps (tyi P):=qC λx _=>by rw[tJ,Fa,Rat.add_comm]
theorem b1w:∀(c:Int) (l:List Int) (k:Nat),cf (Mi (c::l)) k=cf (c::l) k+cf l k
 |c,[],k=>by
  show cf [c] k=cf [c] k+cf [] k;rw[gu,Int.add_zero]
 |c,y::l,0=>rfl
 |c,y::l,k+1=>by
  show cf (Mi (y::l)) k=cf (y::l) k+cf l k;exact b1w y l k
theorem VO {M:Nat}:∀(l:List Int),(∀k,(cf l k).natAbs<=M)->∀k,(cf (tyi l) k).natAbs<=M*2^l.length
 |[],_,k=>by rw[tyi,gu];omega
 |c::q,h,k=>by
  have ih:=VO q λk=>h (k+1)
  have hp:0<2^q.length:=Nat.pow_pos (by omega);have h1:M<=M*2^q.length:=Nat.le_mul_of_pos_right _ hp;have e:M*2^(q.length+1)=M*2^q.length+M*2^q.length:=by rw[Nat.pow_succ,<-Nat.mul_assoc,Nat.mul_two]
  rw[tyi,b1w,List.length_cons,e];have h2:=ih k;cases k with
  |zero =>
   have h0:c.natAbs<=M:=h 0;show (c+cf (tyi q) 0).natAbs<=_;omega
  |succ k =>
   have h3:=ih k;show (cf (tyi q) k+cf (tyi q) (k+1)).natAbs<=_;omega
theorem a5i {m:Nat}{L:List Int}(h:Bm m L):Bm (m+11) (wtm 2 (aV L)):=by
 have hl:(aV L).length<=12:=by rw[bI];exact h.1
 refine⟨Nat.le_trans (oI _) (by rw[Jl];exact hl),λk=>?_⟩;rw[OJ,bH,Int.natAbs_mul,Int.natAbs_pow,Nat.pow_add];have h1:=h.2 k;have h2:(2:Int).natAbs^((aV L).length-1-k)<=2^11:=Nat.pow_le_pow_right (by decide) (by omega)
 calc (cf L k).natAbs*(2:Int).natAbs^((aV L).length-1-k)<=(cf L k).natAbs*2^11:=Nat.mul_le_mul_left _ h2
  _<2^m*2^11:=Nat.mul_lt_mul_of_pos_right h1 (by decide)
theorem a3p {m:Nat}{P:List Int}(hl:P.length<=12)(h:∀k,(cf P k).natAbs<2^m):Bm (m+12) (kS P [1,1] [1]):=by
 refine⟨?_,λk=>?_⟩
 .rw[dX (Yn P)];exact Nat.le_trans (oI _) (by rw[BD];exact hl)
 .rw[jc (Yn P)];have hp:0<2^m:=Nat.pow_pos (by omega);have h1:=VO (M:=2^m-1) P (λk=>by have:=h k;omega) k;have h2:(2^m-1)*2^P.length<=(2^m-1)*2^12:=Nat.mul_le_mul_left _ (Nat.pow_le_pow_right (by omega) hl);have h3:(2^m-1)*2^12<2^m*2^12:=Nat.mul_lt_mul_of_pos_right (by omega) (by decide);rw[Nat.pow_add];omega
theorem VH {L:List Int}:tz (wtm 2 (aV L))=tz L:=by
 by_cases h:tz L=0
 .rw[h];refine bf.mpr λk=>?_;rw[OJ,bH,bf.mp h k,Int.zero_mul]
 .have h1:=dS h;have e:tz L=(tz L-1)+1:=by omega
  rw[e];refine vF ?_ λk hk=>?_
  .rw[OJ,bH];exact Int.mul_ne_zero h1 (Int.pow_ne_zero (by decide))
  .rw[OJ,bH,bW L (by omega),Int.zero_mul]
theorem a5S {P:List Int}(h:tz P≠0):tz (kS P [1,1] [1])≠0:=λe=>h (by
 have hz:∀x,er (kS P [1,1] [1]) x=0:=λx=>kH λk=>bf.mp e k
 rw[dX (q:=[]) (qC λx _=>by
  have:=hz (x-1);rw[tJ,show 1+(x-1)=x by grind]at this;rw[this];rfl)]
 rfl)
theorem BX {a:Rat}(h:a≠0):∀n:Nat,a^n≠0
 |0=>by rw[Rat.pow_zero];decide
 |n+1=>by rw[Rat.pow_succ];exact jB (BX h n) h
theorem G8 {L:List Int}(h:tz L≠0):tz (AB L)≠0:=λe=>h (by
 obtain⟨N,hN⟩:∃N,tz L=N+1:=⟨tz L-1,by omega⟩;have hz:∀x,er (AB L) x=0:=λx=>kH λk=>bf.mp e k
 rw[dX (q:=[]) (qC λy hy=>by
  have hy0:y≠0:=by grind
  have d:=Rat.div_mul_cancel (a:=1) hy0;have hi:1/y≠0:=λe=>by rw[e]at d;grind
  have e1:1+(1/y-1)=1/y:=by grind
  have:=hz (1/y-1);rw[AB,yV hN (by rw[e1];exact hi),e1]at this;have e2:1/(1/y)=y:=vH hi (by rw[Rat.div_mul_cancel hi];rw[Rat.mul_comm];exact d.symm);rw[e2]at this;rcases Rat.mul_eq_zero.mp this with h|h
  .exact((BX hi N) h).elim
  .rw[h];rfl)]
 rfl)
set_option linter.defProp false
structure SpF (B E:Nat) (s:Sp):Prop where
 e0 : -(E:Int)<=s.e
 a:s.a.natAbs<2^((s.e+E).toNat+1)
 L:s.pt=false->Bm (B+23*(s.e+E).toNat) s.L/\tz s.L≠0
theorem SpF.low {B E:Nat}{s:Sp}(h:SpF B E s)(hp:s.pt=false):SpF B E s.low/\SpF B E s.mid/\SpF B E s.high:=by
 have h0:=h.e0;have ha:=h.a;obtain⟨hb,ht⟩:=h.L hp;have e1:(s.e+1+E).toNat=(s.e+E).toNat+1:=by omega
 have b1:=a5i hb;have b2:=a3p (P:=wtm 2 (aV s.L)) (by rw[Jl,bI];exact hb.1) b1.2;have pw:2^((s.e+E).toNat+1+1)=2^((s.e+E).toNat+1)*2:=Nat.pow_succ ..;have wk:∀{m n:Nat} {L:List Int},m<=n->Bm m L->Bm n L:=λhmn hB=>⟨hB.1,λk=>Nat.lt_of_lt_of_le (hB.2 k) (Nat.pow_le_pow_right (by omega) hmn)⟩
 refine⟨⟨?_,?_,λ_=>⟨?_,?_⟩⟩,⟨?_,?_,λh=>by cases h⟩,⟨?_,?_,λ_=>⟨?_,?_⟩⟩⟩
 .show -(E:Int)<=s.e+1;omega
 .show (s.a+s.a).natAbs<2^((s.e+1+E).toNat+1);rw[e1,pw];omega
 .show Bm (B+23*(s.e+1+E).toNat) (wtm 2 (aV s.L));rw[e1];exact wk (by omega) b1
 .show tz (wtm 2 (aV s.L))≠0;rw[VH];exact ht
 .show -(E:Int)<=s.e+1;omega
 .show (s.a+s.a+1).natAbs<2^((s.e+1+E).toNat+1);rw[e1,pw];omega
 .show -(E:Int)<=s.e+1;omega
 .show (s.a+s.a+1).natAbs<2^((s.e+1+E).toNat+1);rw[e1,pw];omega
 .show Bm (B+23*(s.e+1+E).toNat) (kS (wtm 2 (aV s.L)) [1,1] [1]);rw[e1];exact wk (by omega) b2
 .exact a5S (by rw[VH];exact ht)
theorem SpF.nx {B E:Nat}{s:Sp}(h:SpF B E s)(hp:s.pt=false):SpF B E s.nx:=by
 obtain⟨a,b,c⟩:=h.low hp;unfold Sp.nx;split
 .exact b
 .split
  .exact a
  .exact c
theorem SpF.oD {B E:Nat}:∀(n:Nat) {s:Sp},SpF B E s->SpF B E (oD n s)
 |0,_,h=>h
 |n+1,s,h=>by
  rw[nC];have ih:=SpF.oD n h;cases hp:(Go.Proofs.YtnhghmibjddlkaaGreatDoor.oD n s).pt with
  |true=>exact ih
  |false=>exact ih.nx hp
theorem SpF.za {B E:Nat}{s:Sp}(h:SpF B E s){K:Nat}(hK:(s.e+E).toNat<=64*K):zl s.a<=K+1:=dR.mpr (by
 rw[Ea];exact Nat.lt_of_lt_of_le h.a (Nat.pow_le_pow_right (by omega) (by omega)))
theorem SpF.ok {B E:Nat}{s:Sp}(h:SpF B E s)(hp:s.pt=false)(hB:B<=2^20)(hE:E<=2^16)(he:s.e<1048576):b1L s:=by
 obtain⟨hb,ht⟩:=h.L hp;have h0:=h.e0;have b1:=a5i hb;have za:=h.za (K:=2^15) (by omega);have wk:∀{m n:Nat} {L:List Int},m<=n->Bm m L->Bm n L:=λhmn hB=>⟨hB.1,λk=>Nat.lt_of_lt_of_le (hB.2 k) (Nat.pow_le_pow_right (by omega) hmn)⟩
 exact⟨⟨33554000,Nat.le_refl _,wk (by omega) hb,wk (by omega) b1⟩,G8 (L:=wtm 2 (aV s.L)) (by rw[VH];exact ht),by omega,by omega,by omega⟩
theorem Vu {B E:Nat}{s:Sp}(h:SpF B E s)(hB:B<=2^20)(hE:E<=2^16)(k:Int)(hk:k<=1048576):AC Tryz.prog 41 [csp s,ci k] none [csp (s.ref k)] :=
 N8 s k λn hn hp=>(h.oD n).ok hp hB hE (by have:=Qk n s hp;omega)
def b1I (B E:Nat):List Sp->Prop
 |[]=>True
 |s::st=>(SpF B E s/\s.e<=21/\st.length<=2+2*(s.e+E).toNat)/\b1I B E st
@[reducible] def a9v:Zi:=⟨none,λ_=>false,(· == 54),.no⟩
theorem b4i (e:Nat) : @Zi.bx a9v e=false:=rfl
theorem b4m (e:Nat) : @Zi.bs a9v e=(e == 54):=rfl
theorem b4a : @Zi.st a9v=.no:=rfl
theorem b4e : @zsl a9v=.sl []:=rfl
def wzP:=And.intro b4i (And.intro b4m (And.intro b4a b4e))
theorem AC.b2o (zx : Zi) {P : Program} {g : Nat} {args : List CV} {own : iy} {res : List CV} (hm : P.follows .mixedOrders = true) {fn : Func} {body : Code} {rs : List ResultVar} (hf : P.funcs[g]? = some fn) (hb : fn.body = some body) (hr : fn.results.toList = rs) (hn : (fn.name == "runtime.NumGoroutine") = false)
  (hd:codeOk fn.ntmps body=true) (hargs:Nat.ble args.length fn.ntmps=true) (h : @AW zx P body (@a8I zx P rs own res) (kU args) xJ):AC P g args own res:=by
 subst hr;exact AC.vK (zi:=zx) hm hf hb hn hd (Nat.le_of_ble_eq_true hargs) h
theorem a2E (J:Nat->Fr->AL.Hp->Prop):∃μ:Fr->AL.Hp->Nat,∀f H n,J n f H->J (μ f H) f H/\μ f H<=n:=by
 have key:∀f H,∃m,∀n,J n f H->J m f H/\m<=n:=λf H=>by
  by_cases h:∃n,J n f H
  .obtain⟨n,hn⟩:=h;have:∀b n,n<=b->J n f H->∃m,∀n,J n f H->J m f H/\m<=n:=λb=>by
    induction b with
    |zero =>
     intro n hb hn;have e:n=0:=by omega
     exact⟨0,λk hk=>⟨e▸hn,Nat.zero_le _⟩⟩
    |succ b ih =>
     intro n hb hn;by_cases h:∃k,k<n/\J k f H
     .obtain⟨k,hk,hJ⟩:=h;exact ih k (by omega) hJ
     .exact⟨n,λk hk=>⟨hn,Nat.le_of_not_lt λhlt=>h ⟨k,hlt,hk⟩⟩⟩
   exact this n n (Nat.le_refl _) hn
  .exact⟨0,λn hn=>(h ⟨n,hn⟩).elim⟩
 obtain⟨g,hg⟩:=Classical.skolem.1 λf=>Classical.skolem.1 (key f)
 exact⟨g,hg⟩
theorem dO (R:List (List IV))(x:List IV):(R++[x]).length=R.length+1:=by simp
theorem dP (R:List (List IV))(x:List IV):(R++[x]).getD R.length []=x:=by simp[List.getD]
theorem dB (R:List (List IV))(x:List IV):(R++[x]).take R.length=R:=by simp
def yK (st:List Sp):List (List IV):=st.reverse.map spr
theorem jH (s:Sp)(st:List Sp):yK (s::st)=yK st++[spr s]:=by simp[yK]
theorem oO (st:List Sp):(yK st).length=st.length:=by simp[yK]
theorem oN (st:List Sp):∀r∈yK st,r.length=5:=λr hr=>by obtain⟨s,_,rfl⟩:=List.mem_map.1 hr;rfl
def oz (l:List Sp):List (List IV):=l.map spr
theorem kW (l:List Sp):(oz l).length=l.length:=by simp[oz]
theorem F5 (l:List Sp)(s:Sp):oz (l++[s])=oz l++[spr s]:=by simp[oz]
def IJ (F:List Int)(B E:Nat)(res:List Sp)(n:Nat)(f:Fr)(H:AL.Hp):Prop:=∃(st r found:List Sp) (s1 s2:Nat),MW F n st r/\b1I B E st/\found++r=res /\
 f 0=.iv (.sl (dY F))/\f 6=.hs 40 s1/\H 40=.blk false s1 89 5 (yK st)/\f 7=.hs 63 s2/\H 63=.blk false s2 89 5 (oz found)
theorem pJ {J:Nat->Fr->AL.Hp->Prop}{μ:Fr->AL.Hp->Nat}(hμ:∀f H n,J n f H->J (μ f H) f H/\μ f H<=n){k m:Nat}(hk:k<m){f:Fr}{H:AL.Hp}(h:J k f H):(∃n,J n f H)/\μ f H<m :=
 ⟨⟨k,h⟩,Nat.lt_of_le_of_lt (hμ f H k h).2 hk⟩
theorem bmupx {m n:Nat}{L:List Int}(h:Bm m L)(hn:m<=n):Bm n L:=⟨h.1,λk=>Nat.lt_of_lt_of_le (h.2 k) (Nat.pow_le_pow_right (by omega) hn)⟩
theorem Vy (F:List Int)(E B n:Nat)(res:List Sp)(hF:RP 12 (2^9) (cn F))(ht:2<=tz F)(hE:(E:Int)=max (rst (aV F) ((aV F).length-1)).1 0)(hE2:E<=2^16)(hB:B<=2^20)
  (hI:MW F n [⟨-1,-(E:Int),false,kS (sc (2^E) (aV F)) [-1,1] [1]⟩,⟨0,0,true,[]⟩,⟨0,-(E:Int),false,sc (2^E) (aV F)⟩] res)
  (hS:b1I B E [⟨-1,-(E:Int),false,kS (sc (2^E) (aV F)) [-1,1] [1]⟩,⟨0,0,true,[]⟩,⟨0,-(E:Int),false,sc (2^E) (aV F)⟩]) (hr:res.length<=1000) :
  AC Tryz.prog 40 [cp F] (some (0,89,5,oz res)) [.iv (.sl (oz res))]:=by
 have epv:pv (cn F)=aV F:=gW _;have dg:=qE (cn F) (hF.mono (by omega) (by omega));rw[epv,G7]at dg;have by_:=Uw (cn F) (hF.mono (by omega) (by omega)) (by rw[epv,G7];omega);rw[epv,kD]at by_;have t:=FY E (by omega);have sc_:=XR (cn F) (canon (2^E)) (hF.mono (by omega) (by omega)) ((aW _).mono (by have:=MZ E;omega));rw[epv,kD,aU]at sc_;have o0:=iJ 0 (by omega) (by omega);have om:=iJ (-1) (by omega) (by omega);obtain⟨S0,hS0⟩:∃S0,S0=sc (2^E) (aV F):=⟨_,rfl⟩;rw[<-hS0]at sc_ hI hS;obtain⟨S1,hS1⟩:∃S1,S1=kS S0 [-1,1] [1]:=⟨_,rfl⟩;rw[<-hS1]at hI hS;have bm0:Bm B S0:=by
  have:=(hS.2.2.1.1.L rfl).1;rw[show ((-(E:Int))+(E:Int)).toNat=0 by omega,Nat.mul_zero,Nat.add_zero]at this;exact this
 have sh:=QK (p:=cn S0) (a:=canon (-1)) (P:=S0) (out:=S1) ((a3s bm0 (by omega)).mono (by omega) (by omega)) ((aW _).mono (by have:zl (-1)<=1:=dR.mpr (by decide);omega)) (jf _) (by
  rw[hS1,vJ,aU,kR];rfl)
 have eE:max (rst (aV F) ((aV F).length-1)).1 0=(E:Int):=hE.symm;generalize (rst (aV F) ((aV F).length-1)).1=e1 at *;have d1:¬(tz F:Int)-1<1:=by omega
 have nE:(0:Int)-(E:Int) = -(E:Int):=by omega
 refine AC.b2o a9v (rs:=[.tmp 2]) bM Tryz.func40 (by rfl) (by rfl) (by rfl) (by rfl) (by rfl) ?_;simp (disch:=omega) only[wt,seval,reduceCtorEq,Nat.reduceEqDiff,aj,rqs,wzP];refine au (dg) (by first|rfl|(simp only[aH,bn,aB,aI,aA,Nat.reduceEqDiff,↓reduceIte,d1];rfl)) (by simp) ?_;simp (disch:=omega) only[wt,seval,reduceCtorEq,Nat.reduceEqDiff,aj,rqs,wzP,d1];refine au (by_) (by first|rfl|(simp only[aH,bn,aB,aI,aA,Nat.reduceEqDiff,↓reduceIte,d1,eE];rfl)) (by simp) ?_;simp (disch:=omega) only[wt,seval,reduceCtorEq,Nat.reduceEqDiff,aj,rqs,wzP,d1,eE];refine au (t) (by first|rfl|(simp only[aH,bn,aB,aI,aA,Nat.reduceEqDiff,↓reduceIte,d1,eE];rfl)) (by simp) ?_;simp (disch:=omega) only[wt,seval,reduceCtorEq,Nat.reduceEqDiff,aj,rqs,wzP,d1,eE];refine au (sc_) (by first|rfl|(simp only[aH,bn,aB,aI,aA,Nat.reduceEqDiff,↓reduceIte,d1,eE];rfl)) (by simp) ?_;simp (disch:=omega) only[wt,seval,reduceCtorEq,Nat.reduceEqDiff,aj,rqs,wzP,d1,eE];refine au (o0) (by first|rfl|(simp only[aH,bn,aB,aI,aA,Nat.reduceEqDiff,↓reduceIte,d1,eE,nE,jy,ou];rfl)) (by simp) ?_;simp (disch:=omega) only[wt,seval,reduceCtorEq,Nat.reduceEqDiff,aj,rqs,wzP,d1,eE,nE,jy,ou];refine au (o0) (by first|rfl|(simp only[aH,bn,aB,aI,aA,Nat.reduceEqDiff,↓reduceIte,d1,eE,nE,jy,ou];rfl)) (by simp) ?_;simp (disch:=omega) only[wt,seval,reduceCtorEq,Nat.reduceEqDiff,aj,rqs,wzP,d1,eE,nE,jy,ou];refine au (om) (by first|rfl|(simp only[aH,bn,aB,aI,aA,Nat.reduceEqDiff,↓reduceIte,d1,eE,nE,jy,ou];rfl)) (by simp) ?_;simp (disch:=omega) only[wt,seval,reduceCtorEq,Nat.reduceEqDiff,aj,rqs,wzP,d1,eE,nE,jy,ou];refine au (om) (by first|rfl|(simp only[aH,bn,aB,aI,aA,Nat.reduceEqDiff,↓reduceIte,d1,eE,nE,jy,ou];rfl)) (by simp) ?_;simp (disch:=omega) only[wt,seval,reduceCtorEq,Nat.reduceEqDiff,aj,rqs,wzP,d1,eE,nE,jy,ou];refine au (sh) (by first|rfl|(simp only[aH,bn,aB,aI,aA,Nat.reduceEqDiff,↓reduceIte,d1,eE,nE,jy,ou];rfl)) (by simp) ?_;simp (disch:=omega) only[wt,seval,reduceCtorEq,Nat.reduceEqDiff,aj,rqs,wzP,d1,eE,nE,jy,ou];obtain⟨μ,hμ⟩:=a2E (IJ F B E res);refine uo 7 63 89 5 (by simp (disch:=omega) only[wt,seval,reduceCtorEq,Nat.reduceEqDiff,aj,rqs,wzP]) (λf H=>∃n,IJ F B E res n f H) μ ?_ ?_
 .refine⟨n,_,res,[],1,1,hI,hS,rfl,?_⟩;simp (disch:=omega) only[wt,seval,reduceCtorEq,Nat.reduceEqDiff,aj,rqs,wzP,nH,nG];exact⟨rfl,rfl⟩
 rintro f H ⟨n',hJ⟩;obtain⟨hJ',-⟩:=hμ f H n' hJ;generalize μ f H=m at *;clear hJ n' hI hS;have hF1:=hF;clear hF;obtain⟨st,r,found,s1,s2,hI,hS,hfr,hF⟩:=hJ';cases hI with
 |nil =>
  rw[List.append_nil]at hfr;subst hfr;have l0:¬(0:Int)<((yK []).length:Int):=by rw[oO];decide
  simp (disch:=omega) only[wt,seval,reduceCtorEq,Nat.reduceEqDiff,aj,rqs,wzP,hF,l0]
  try rfl
 | @yes k s st' r' hp hz k1 =>
  obtain⟨⟨hs,he,hl⟩,hS'⟩:=hS;rw[jH]at hF;have hRl:=oO st';have hRr:=oN st';have hFl:=kW found;have hfl:found.length<=1000:=by rw[<-hfr,List.length_append]at hr;omega
  generalize hR:yK st'=R at *;have r1:((R.length+1:Nat):Int)-1=(R.length:Int):=by omega
  have r2:(0:Int)<((R.length+1:Nat):Int):=by omega
  have hho:=Jp F s (hF1.mono (by omega) (by omega)) (by have:=hs.za (K:=2^14) (by omega);omega) (by have:=hs.e0;omega) (by omega);rw[show decide (er F (s.a*p2 (-s.e))=0)=true from decide_eq_true hz]at hho;simp (disch:=omega) only[wt,seval,reduceCtorEq,Nat.reduceEqDiff,aj,rqs,wzP,hF,dO,dP,dB,r1,r2,ws,spz,hp,y8.eq_def,vU];refine au (hho) (by first|rfl|(simp only[aH,bn,aB,aI,aA,Nat.reduceEqDiff,↓reduceIte,hF,dO,dP,dB,r1,r2,ws,spz,hp,y8.eq_def,vU,hFl];rfl)) (by simp) ?_;simp (disch:=omega) only[wt,seval,reduceCtorEq,Nat.reduceEqDiff,aj,rqs,wzP,hF,dO,dP,dB,r1,r2,ws,spz,hp,y8.eq_def,vU,hFl];refine pJ hμ (Nat.lt_succ_self k) ⟨st',r',found++[s],s1+1,s2+1,k1,hS',by rw[<-hfr];simp,?_⟩;rw[hR,F5];simp (disch:=omega) only[wt,seval,reduceCtorEq,Nat.reduceEqDiff,aj,rqs,wzP,hF,dO,dP,dB,r1,r2,ws,spz,hp,y8.eq_def,vU]
  try (repeat' apply And.intro)<;>first|rfl|omega
 | @no k s st' r' hp hz k1 =>
  obtain⟨⟨hs,he,hl⟩,hS'⟩:=hS;rw[jH]at hF;have hRl:=oO st';have hRr:=oN st';have hFl:=kW found;have hfl:found.length<=1000:=by rw[<-hfr,List.length_append]at hr;omega
  generalize hR:yK st'=R at *;have r1:((R.length+1:Nat):Int)-1=(R.length:Int):=by omega
  have r2:(0:Int)<((R.length+1:Nat):Int):=by omega
  have hho:=Jp F s (hF1.mono (by omega) (by omega)) (by have:=hs.za (K:=2^14) (by omega);omega) (by have:=hs.e0;omega) (by omega);rw[show decide (er F (s.a*p2 (-s.e))=0)=false from decide_eq_false hz]at hho;simp (disch:=omega) only[wt,seval,reduceCtorEq,Nat.reduceEqDiff,aj,rqs,wzP,hF,dO,dP,dB,r1,r2,ws,spz,hp,y8.eq_def,vU];refine au (hho) (by first|rfl|(simp only[aH,bn,aB,aI,aA,Nat.reduceEqDiff,↓reduceIte,hF,dO,dP,dB,r1,r2,ws,spz,hp,y8.eq_def,vU];rfl)) (by simp) ?_;simp (disch:=omega) only[wt,seval,reduceCtorEq,Nat.reduceEqDiff,aj,rqs,wzP,hF,dO,dP,dB,r1,r2,ws,spz,hp,y8.eq_def,vU];refine pJ hμ (Nat.lt_succ_self k) ⟨st',r,found,s1+1,s2,k1,hS',hfr,?_⟩;rw[hR];simp (disch:=omega) only[wt,seval,reduceCtorEq,Nat.reduceEqDiff,aj,rqs,wzP,hF,dO,dP,dB,r1,r2,ws,spz,hp,y8.eq_def,vU]
  try (repeat' apply And.intro)<;>first|rfl|omega
 | @zero k s st' r' hp hz k1 =>
  obtain⟨⟨hs,he,hl⟩,hS'⟩:=hS;rw[jH]at hF;have hRl:=oO st';have hRr:=oN st';have hFl:=kW found;have hfl:found.length<=1000:=by rw[<-hfr,List.length_append]at hr;omega
  generalize hR:yK st'=R at *;have r1:((R.length+1:Nat):Int)-1=(R.length:Int):=by omega
  have r2:(0:Int)<((R.length+1:Nat):Int):=by omega
  obtain⟨bmL,tL⟩:=hs.L hp;have cc:=qg s (m:=33554000) (bmupx bmL (by omega)) (by omega) (G8 tL);rw[hz]at cc;simp (disch:=omega) only[wt,seval,reduceCtorEq,Nat.reduceEqDiff,aj,rqs,wzP,hF,dO,dP,dB,r1,r2,ws,spz,hp,y8.eq_def,vU];refine au (cc) (by first|rfl|(simp only[aH,bn,aB,aI,aA,Nat.reduceEqDiff,↓reduceIte,hF,dO,dP,dB,r1,r2,ws,spz,hp,y8.eq_def,vU];rfl)) (by simp) ?_;simp (disch:=omega) only[wt,seval,reduceCtorEq,Nat.reduceEqDiff,aj,rqs,wzP,hF,dO,dP,dB,r1,r2,ws,spz,hp,y8.eq_def,vU];refine pJ hμ (Nat.lt_succ_self k) ⟨st',r,found,s1+1,s2,k1,hS',hfr,?_⟩;rw[hR];simp (disch:=omega) only[wt,seval,reduceCtorEq,Nat.reduceEqDiff,aj,rqs,wzP,hF,dO,dP,dB,r1,r2,ws,spz,hp,y8.eq_def,vU]
  try (repeat' apply And.intro)<;>first|rfl|omega
 | @one k s st' r' hp hz k1 =>
  obtain⟨⟨hs,he,hl⟩,hS'⟩:=hS;rw[jH]at hF;have hRl:=oO st';have hRr:=oN st';have hFl:=kW found;have hfl:found.length<=1000:=by rw[<-hfr,List.length_append]at hr;omega
  generalize hR:yK st'=R at *;have r1:((R.length+1:Nat):Int)-1=(R.length:Int):=by omega
  have r2:(0:Int)<((R.length+1:Nat):Int):=by omega
  obtain⟨bmL,tL⟩:=hs.L hp;have cc:=qg s (m:=33554000) (bmupx bmL (by omega)) (by omega) (G8 tL);rw[hz]at cc;simp (disch:=omega) only[wt,seval,reduceCtorEq,Nat.reduceEqDiff,aj,rqs,wzP,hF,dO,dP,dB,r1,r2,ws,spz,hp,y8.eq_def,vU];refine au (cc) (by first|rfl|(simp only[aH,bn,aB,aI,aA,Nat.reduceEqDiff,↓reduceIte,hF,dO,dP,dB,r1,r2,ws,spz,hp,y8.eq_def,vU,hFl];rfl)) (by simp) ?_;simp (disch:=omega) only[wt,seval,reduceCtorEq,Nat.reduceEqDiff,aj,rqs,wzP,hF,dO,dP,dB,r1,r2,ws,spz,hp,y8.eq_def,vU,hFl];refine pJ hμ (Nat.lt_succ_self k) ⟨st',r',found++[s],s1+1,s2+1,k1,hS',by rw[<-hfr];simp,?_⟩;rw[hR,F5];simp (disch:=omega) only[wt,seval,reduceCtorEq,Nat.reduceEqDiff,aj,rqs,wzP,hF,dO,dP,dB,r1,r2,ws,spz,hp,y8.eq_def,vU]
  try (repeat' apply And.intro)<;>first|rfl|omega
 | @split k s st' r' hp hz0 hz1 hle k1 =>
  obtain⟨⟨hs,he,hl⟩,hS'⟩:=hS;rw[jH]at hF;have hRl:=oO st';have hRr:=oN st';have hFl:=kW found;have hfl:found.length<=1000:=by rw[<-hfr,List.length_append]at hr;omega
  generalize hR:yK st'=R at *;have r1:((R.length+1:Nat):Int)-1=(R.length:Int):=by omega
  have r2:(0:Int)<((R.length+1:Nat):Int):=by omega
  obtain⟨bmL,tL⟩:=hs.L hp;have cc:=qg s (m:=33554000) (bmupx bmL (by omega)) (by omega) (G8 tL);have hz0':¬(s.ch:Int)=0:=by omega
  have hz1':¬(s.ch:Int)=1:=by omega
  have hv:=Ey s (m:=33554000) (bmupx bmL (by omega)) (by omega) (by have:=hs.za (K:=2^14) (by omega);omega) (by have:=hs.e0;omega) (by omega);obtain⟨q1,q2,q3⟩:=hs.low hp;have q0:=hs.e0;simp (disch:=omega) only[wt,seval,reduceCtorEq,Nat.reduceEqDiff,aj,rqs,wzP,hF,dO,dP,dB,r1,r2,ws,spz,hp,y8.eq_def,vU];refine au (cc) (by first|rfl|(simp only[aH,bn,aB,aI,aA,Nat.reduceEqDiff,↓reduceIte,hF,dO,dP,dB,r1,r2,ws,spz,hp,y8.eq_def,vU,hz0',hz1'];rfl)) (by simp) ?_;simp (disch:=omega) only[wt,seval,reduceCtorEq,Nat.reduceEqDiff,aj,rqs,wzP,hF,dO,dP,dB,r1,r2,ws,spz,hp,y8.eq_def,vU,hz0',hz1'];refine au (hv) (by first|rfl|(simp only[aH,bn,aB,aI,aA,Nat.reduceEqDiff,↓reduceIte,hF,dO,dP,dB,r1,r2,ws,spz,hp,y8.eq_def,vU];rfl)) (by simp) ?_;simp (disch:=omega) only[wt,seval,reduceCtorEq,Nat.reduceEqDiff,aj,rqs,wzP,hF,dO,dP,dB,r1,r2,ws,spz,hp,y8.eq_def,vU];refine pJ hμ (Nat.lt_succ_self k) ⟨s.low::s.mid::s.high::st',r,found,s1+1+1,s2,k1,⟨⟨q1,?_,?_⟩,⟨q2,?_,?_⟩,⟨q3,?_,?_⟩,hS'⟩,hfr,?_⟩
  .show s.e+1<=21;omega
  .show st'.length+1+1<=2+2*(s.e+1+E).toNat;omega
  .show s.e+1<=21;omega
  .show st'.length+1<=2+2*(s.e+1+E).toNat;omega
  .show s.e+1<=21;omega
  .show st'.length<=2+2*(s.e+1+E).toNat;omega
  .rw[jH,jH,jH,hR,show R++[spr s.high]++[spr s.mid]++[spr s.low]=R++[spr s.high,spr s.mid,spr s.low] by simp];simp (disch:=omega) only[wt,seval,reduceCtorEq,Nat.reduceEqDiff,aj,rqs,wzP,hF,dO,dP,dB,r1,r2,ws,spz,hp,y8.eq_def,vU]
   try (repeat' apply And.intro)<;>first|rfl|omega
def pcr (r:Sp)(k:Int):Int×Bool:=if r.e<=k then (r.a*2^(k-r.e).toNat,r.pt) else (r.a/2^(r.e-k).toNat,r.pt && decide (r.a%2^(r.e-k).toNat=0))
def pc (s:Sp)(k:Int):Int×Bool:=pcr (s.ref k) k
theorem SpF.ref {B E:Nat}{s:Sp}(h:SpF B E s)(k:Int):SpF B E (s.ref k):=h.oD _
theorem a4r (s:Sp)(k:Int):(s.ref k).e<=max s.e k:=by
 unfold Sp.ref;generalize hn:(k-s.e).toNat=n;have key:∀(n:Nat) (s:Sp),(oD n s).e<=s.e+n:=λn=>by
  induction n with
  |zero=>intro s;show s.e<=s.e+((0:Nat):Int);omega
  |succ n ih =>
   intro s;rw[oD];split
   .omega
   .have:=ih s.nx;rw[b1Z]at this;omega
 have:=key n s;omega
theorem a7S {a:Int}{u:Nat}:a%2^u=0↔2^u∣a.natAbs:=by
 rw[<-Int.dvd_iff_emod_eq_zero,<-Int.natAbs_dvd_natAbs,Int.natAbs_pow];rfl
theorem Vw {B E:Nat}{s:Sp}(h:SpF B E s)(hB:B<=2^20)(hE:E<=2^16)(k:Nat)(hk:k<=1048576)(he:s.e<=1048576):ACG Tryz.prog yH 76 [csp s,ci k] [ccl k (pc s k)]:=by
 have rf:=Vu h hB hE k (by omega);have hr:=h.ref k;have hi:=a4r s k;have h0:=hr.e0;have za:=hr.za (K:=2^15) (by omega);unfold pc;generalize s.ref k=r at *;clear h;have sg:=fM (canon r.a) ((aW _).mono (by omega));rw[aU]at sg;obtain⟨a,e,pt,L⟩:=r;simp only at *;by_cases hle:e<=k
 .obtain⟨n,hn⟩:∃n:Nat,(k:Int)-e=n:=⟨((k:Int)-e).toNat,by omega⟩;have t:=FY n (by omega);have m:=jM (canon a) (canon (2^n)) ((aW _).mono (by omega)) ((aW _).mono (by have:=MZ n;omega));rw[aU,aU]at m;have ep:pcr ⟨a,e,pt,L⟩ k=(a*2^n,pt):=by
   unfold pcr;simp only;rw[if_pos hle,hn];rfl
  rw[ep];simp only[ccl,Fq];generalize a*2^n=y at *;generalize (2:Int)^n=y2 at *;refine ACG.aF zi0 (rs:=[.cell 4 62]) bM Tryz.func76 (by rfl) (by rfl) (by rfl) (by rfl) (by rfl) ?_;simp (disch:=omega) only[wt,seval,reduceCtorEq,Nat.reduceEqDiff,aj,rqs,ws];refine au (rf) (by first|rfl|(simp only[aH,bn,aB,aI,aA,Nat.reduceEqDiff,↓reduceIte,ws,spz,hle,hn];rfl)) (by simp) ?_;simp (disch:=omega) only[wt,seval,reduceCtorEq,Nat.reduceEqDiff,aj,rqs,ws,spz,hle,hn];refine .inl ⟨aZ (by kernel_rfl),?_⟩;refine au (t) (by first|rfl|(simp only[aH,bn,aB,aI,aA,Nat.reduceEqDiff,↓reduceIte,ws,hn];rfl)) (by simp) ?_;simp (disch:=omega) only[wt,seval,reduceCtorEq,Nat.reduceEqDiff,aj,rqs,ws,hn];refine au (m) (by first|rfl|(simp only[aH,bn,aB,aI,aA,Nat.reduceEqDiff,↓reduceIte,ws,hn,kT];rfl)) (by simp) ?_;simp (disch:=omega) only[wt,seval,reduceCtorEq,Nat.reduceEqDiff,aj,rqs,ws,hn,kT]
  first|exact aN (by kernel_rfl)|refine⟨aN (by kernel_rfl),?_⟩
  try rfl
 .obtain⟨u,hu⟩:∃u:Nat,e-(k:Int)=u:=⟨(e-(k:Int)).toNat,by omega⟩;have sh:=a5G a u (by omega) (by omega);have ep:pcr ⟨a,e,pt,L⟩ k=(a/2^u,pt && decide (a%2^u=0)):=by
   unfold pcr;simp only;rw[if_neg hle,hu];rfl
  rw[ep];by_cases ha0:a=0
  .subst ha0;have e1:(0:Int)/2^u=0:=Int.zero_ediv _;have e2:(0:Int)%2^u=0:=Int.zero_emod _;rw[e1]at sh ⊢;rw[e2];rw[show (0:Int).sign=0 from rfl]at sg;simp only[ccl,Fq,decide_true,Bool.and_true];cases pt
   all_goals
    refine ACG.aF zi0 (rs:=[.cell 4 62]) bM Tryz.func76 (by rfl) (by rfl) (by rfl) (by rfl) (by rfl) ?_;simp (disch:=omega) only[wt,seval,reduceCtorEq,Nat.reduceEqDiff,aj,rqs,ws];refine au (rf) (by first|rfl|(simp only[aH,bn,aB,aI,aA,Nat.reduceEqDiff,↓reduceIte,ws,spz,hle,hu];rfl)) (by simp) ?_;simp (disch:=omega) only[wt,seval,reduceCtorEq,Nat.reduceEqDiff,aj,rqs,ws,spz,hle,hu];refine lZ (sh) (k:=777) (by first|rfl|(simp only[aA,aj,Nat.reduceEqDiff,reduceIte,ws,hu])) (by first|rfl|(simp only[List.map_cons,List.map_nil,CV.av,ws,hu])) (by simp[gK]) ?_;simp (disch:=omega) only[wt,seval,reduceCtorEq,Nat.reduceEqDiff,aj,rqs,ws,hu];refine au (sg) (by first|rfl|(simp only[aH,bn,aB,aI,aA,Nat.reduceEqDiff,↓reduceIte,ws,hu,kT];rfl)) (by simp) ?_;simp (disch:=omega) only[wt,seval,reduceCtorEq,Nat.reduceEqDiff,aj,rqs,ws,hu,kT]
    try rfl
  .have hsn:¬a.sign=0:=λh=>ha0 (Int.sign_eq_zero_iff_zero.mp h)
   have tw:=VP (canon a).2 (bY _) (by show (wd a.natAbs).length<=_;have:zl a=(wd a.natAbs).length:=rfl;omega);have hz:=a4a (l:=(canon a).2) (bY _) (by show nv (wd a.natAbs)≠0;rw[dU];omega) u;rw[show nv (canon a).2=a.natAbs from dU _,<-a7S]at hz;have eb:decide (a%2^u=0)=decide ((u:Int)<=(zr (canon a).2:Int)):=decide_eq_decide.mpr (hz.trans (by omega));rw[eb];clear eb hz;generalize a.sign=sn at *;generalize zr (canon a).2=tz' at *;generalize a/2^u=y at *;simp only[ccl,Fq];cases pt
   all_goals
    refine ACG.aF zi0 (rs:=[.cell 4 62]) bM Tryz.func76 (by rfl) (by rfl) (by rfl) (by rfl) (by rfl) ?_;simp (disch:=omega) only[wt,seval,reduceCtorEq,Nat.reduceEqDiff,aj,rqs,ws];refine au (rf) (by first|rfl|(simp only[aH,bn,aB,aI,aA,Nat.reduceEqDiff,↓reduceIte,ws,spz,hle,hu];rfl)) (by simp) ?_;simp (disch:=omega) only[wt,seval,reduceCtorEq,Nat.reduceEqDiff,aj,rqs,ws,spz,hle,hu];refine lZ (sh) (k:=777) (by first|rfl|(simp only[aA,aj,Nat.reduceEqDiff,reduceIte,ws,hu])) (by first|rfl|(simp only[List.map_cons,List.map_nil,CV.av,ws,hu])) (by simp[gK]) ?_;simp (disch:=omega) only[wt,seval,reduceCtorEq,Nat.reduceEqDiff,aj,rqs,ws,hu];refine au (sg) (by first|rfl|(simp only[aH,bn,aB,aI,aA,Nat.reduceEqDiff,↓reduceIte,ws,hu,hsn];rfl)) (by simp) ?_;simp (disch:=omega) only[wt,seval,reduceCtorEq,Nat.reduceEqDiff,aj,rqs,ws,hu,hsn];refine lZ (tw) (k:=777) (by first|rfl|(simp only[aA,aj,Nat.reduceEqDiff,reduceIte,ws,hu,kT])) (by first|rfl|(simp only[List.map_cons,List.map_nil,CV.av,ws,hu,kT])) (by simp[gK]) ?_;simp (disch:=omega) only[wt,seval,reduceCtorEq,Nat.reduceEqDiff,aj,rqs,ws,hu,kT]
    try rfl
def sp0:Sp:=⟨0,0,true,[]⟩
theorem KT {l:List Sp}{i:Nat}(h:i<l.length):(oz l).getD i []=spr (l.getD i sp0):=by simp[oz,List.getD,h]
theorem uN {α:Type}{l:List α}{i:Nat}(h:i<l.length)(d:α):l.getD i d∈l:=by
 rw[show l.getD i d=l[i] by simp[List.getD,h]];exact List.getElem_mem _
theorem Fp (k:Int)(l:List (Int×Bool))(x:Int×Bool):jg k (l++[x])=jg k l++[Fq k x]:=by simp[jg]
theorem ql {α β:Type}(g:α->β){l:List α}{i:Nat}(h:i<l.length)(d:α):(l.map g).take (i+1)=(l.map g).take i++[g (l.getD i d)]:=by
 rw[List.take_add_one];simp[List.getD,h]
set_option maxRecDepth 100000 in
theorem Tc {B E:Nat}(hB:B<=2^20)(hE:E<=2^16)(l:List Sp)(hs:∀s∈l,SpF B E s/\s.e<=1048576)(hl:l.length<=1000)(k:Nat)(hk:k<=1048576)(H:AL.Hp){st:Nat}(hH:H 33=.blk false st 89 5 (oz l))(hT:H 777=.tie (.ip yH) Jz) :
  ACI Tryz.prog 42 [.hs 33 st,.iv (.int .i64 k)] H (λx H'=>∃s',x=.hs 19 s'/\H' 19=.blk false s' 62 4 (jg k (l.map λs=>pc s k))/\∀u,u≠7->u≠18->u≠19->H' u=H u):=by
 refine ACI.aF zi0 (rs:=[.tmp 4]) bM Tryz.func42 (by rfl) (by rfl) (by rfl) (by rfl) (by rfl) (by rfl) ?_ ?_
 .exact⟨_,dF H 19 (.blk false 0 62 4 (jg k (l.map λs=>pc s k))),0,rfl,aO _ _ _,λu h1 h2 h3=>aJ _ _ h3⟩
 have hfl:=kW l;simp (disch:=omega) only[wt,seval,reduceCtorEq,Nat.reduceEqDiff,aj,rqs,hH];refine uo 5 19 62 4 (by simp (disch:=omega) only[wt,seval,reduceCtorEq,Nat.reduceEqDiff,aj,rqs]) (λf H'=>∃(i s':Nat),i<=l.length/\(f 10=.iv (.int .i64 i)/\f 9=.iv (.int .i64 l.length)/\f 8=.hs 33 st/\f 1=.iv (.int .i64 k)/\f 5=.hs 19 s')/\H' 19=.blk false s' 62 4 (jg k ((l.map λs=>pc s k).take i))/\H' 33=.blk false st 89 5 (oz l)/\H' 777=.tie (.ip yH) Jz/\∀u,u≠7->u≠18->u≠19->H' u=H u) (λf H'=>l.length-(dQ f 10).toNat) ?_ ?_
 .refine⟨0,(H 19).stamp+1,by omega,⟨by simp (disch:=omega) only[wt,seval,reduceCtorEq,Nat.reduceEqDiff,aj,rqs,nH,nG];try rfl,by simp (disch:=omega) only[wt,seval,reduceCtorEq,Nat.reduceEqDiff,aj,rqs,nH,nG,hfl,hH],by simp (disch:=omega) only[wt,seval,reduceCtorEq,Nat.reduceEqDiff,aj,rqs,nH,nG],by simp (disch:=omega) only[wt,seval,reduceCtorEq,Nat.reduceEqDiff,aj,rqs,nH,nG],by simp (disch:=omega) only[wt,seval,reduceCtorEq,Nat.reduceEqDiff,aj,rqs,nH,nG]⟩,by simp (disch:=omega) only[wt,seval,reduceCtorEq,Nat.reduceEqDiff,aj,rqs,nH,nG];try rfl,by simp (disch:=omega) only[wt,seval,reduceCtorEq,Nat.reduceEqDiff,aj,rqs,nH,nG,hH],by simp (disch:=omega) only[wt,seval,reduceCtorEq,Nat.reduceEqDiff,aj,rqs,nH,nG,hT],λu h1 h2 h3=>aJ _ _ h3⟩
 rintro f H' ⟨i,s',hi,⟨f10,f9,f8,f1,f5⟩,g19,g33,a2K,kp⟩;rw[bC f10,Int.toNat_natCast];simp (disch:=omega) only[wt,seval,reduceCtorEq,Nat.reduceEqDiff,aj,rqs,f10,f9,f8,f1,f5,g19,g33,a2K];refine bU (λhlt=>?_) (λhlt=>?_)
 .have hlt':i<l.length:=by omega
  obtain⟨h1,h2⟩:=hs _ (uN hlt' sp0);have p:=Vw h1 hB hE k hk h2;have hg:=KT hlt';have hsn:=ql (λs=>pc s k) hlt' sp0;simp only[ccl]at p;generalize l.getD i sp0=s at *;have hcl:(jg k ((l.map λs=>pc s k).take i)).length=i:=by rw[tZ,List.length_take,List.length_map];omega
  simp (disch:=omega) only[wt,seval,reduceCtorEq,Nat.reduceEqDiff,aj,rqs,f10,f9,f8,f1,f5,g19,g33,a2K,hfl,hg,ws,spz];refine lZ (p) (k:=777) (by first|rfl|(simp only[aA,aj,Nat.reduceEqDiff,reduceIte,f10,f9,f8,f1,f5,g19,g33,a2K,hfl,hg,ws,spz,hcl,fQ])) (by first|rfl|(simp only[List.map_cons,List.map_nil,CV.av,f10,f9,f8,f1,f5,g19,g33,a2K,hfl,hg,ws,spz,hcl,fQ])) (by simp[gK]) ?_;simp (disch:=omega) only[wt,seval,reduceCtorEq,Nat.reduceEqDiff,aj,rqs,f10,f9,f8,f1,f5,g19,g33,a2K,hfl,hg,ws,spz,hcl,fQ];refine⟨⟨i+1,s'+1,by omega,⟨by omega,rfl⟩,by rw[hsn,Fp],λu h1 h2 h3=>?_⟩,by omega⟩;simp only[if_neg h1,if_neg h2,if_neg h3];exact kp u h1 h2 h3
 .obtain rfl:i=l.length:=by omega
  rw[List.take_of_length_le (by rw[List.length_map];omega)]at g19;simp (disch:=omega) only[wt,seval,reduceCtorEq,Nat.reduceEqDiff,aj,rqs,f10,f9,f8,f1,f5,g19,g33,a2K];exact a1f (x:=.hs 19 s') (by simp (disch:=omega) only[wt,seval,reduceCtorEq,Nat.reduceEqDiff,aj,rqs]) ⟨s',rfl,g19,kp⟩
theorem Ql (a:Nat):∀(b:Nat) (s:Sp),oD (a+b) s=oD b (oD a s)
 |0,s=>rfl
 |b+1,s=>by rw[<-Nat.add_assoc,nC,nC,Ql a b s]
theorem WM {s:Sp}(h:s.pt=true):∀n,oD n s=s
 |0=>rfl
 |n+1=>by rw[oD,h];rfl
theorem WL (s:Sp){j k:Int}(h:j<=k):(s.ref j).ref k=s.ref k:=by
 unfold Sp.ref;obtain⟨c,hc⟩:∃c,(k-s.e).toNat=(j-s.e).toNat+c:=⟨(k-s.e).toNat-(j-s.e).toNat,by omega⟩;rw[hc,Ql];cases hp:(oD (j-s.e).toNat s).pt with
 |true=>rw[WM hp,WM hp]
 |false =>
  have:=Qk _ _ hp
  congr 1
  omega
theorem a1g {s:Sp}{k:Int}(h:k<=s.e):s.ref k=s:=by
 unfold Sp.ref;rw[show (k-s.e).toNat=0 by omega];rfl
theorem b0h (s:Sp)(k:Int):pc (s.ref k) k=pc s k:=by
 unfold pc;rw[WL s (Int.le_refl k)]
theorem PU (p:List RI){P D0:List Int}{n S:Nat}(e:ps (pv p)=ps P)(hp:RP 40 S p)(h:Kn P D0 n S):AC Tryz.prog 38 [cw p] none [cp (frd P),ci 0]:=by
 have f:=a7E p e hp h;have h0:=h.ne;have hS:=h.hS;have d:=qE p (hp.mono (by omega) (by omega));rw[dX e]at d;have n0:¬(tz P:Int)-1<0:=by omega
 refine AC.aF (rs:=[.tmp 2,.tmp 3]) bM Tryz.func38 (by rfl) (by rfl) (by rfl) (by rfl) (by rfl) ?_;simp (disch:=omega) only[wt,seval,reduceCtorEq,Nat.reduceEqDiff,aj,rqs];refine au (d) (by first|rfl|(simp only[aH,bn,aB,aI,aA,Nat.reduceEqDiff,↓reduceIte,n0];rfl)) (by simp) ?_;simp (disch:=omega) only[wt,seval,reduceCtorEq,Nat.reduceEqDiff,aj,rqs,n0];refine au (f) (by first|rfl|(simp only[aH,bn,aB,aI,aA,Nat.reduceEqDiff,↓reduceIte,n0];rfl)) (by simp) ?_;simp (disch:=omega) only[wt,seval,reduceCtorEq,Nat.reduceEqDiff,aj,rqs,n0]
 try rfl
structure b1N (p:List RI) (F:List Int) (B E:Nat) (res:List Sp):Prop where
 free:AC Tryz.prog 38 [cw p] none [cp F,ci 0]
 iso:AC Tryz.prog 40 [cp F] (some (0,89,5,oz res)) [.iv (.sl (oz res))]
 sp:∀s∈res,SpF B E s/\s.e<=21
 B:B<=2^20
 E:E<=2^16
 len:res.length<=1000
theorem ZJ {p:List RI}{F:List Int}{B E:Nat}{res:List Sp}(h:b1N p F B E res)(w:RQ)(e:Int)(he:e≠0)(hf:AC Tryz.prog 39 [cqq w] none [ci 0,ci e]):ACG Tryz.prog yH 18 [cw p,cqq w] [.iv (.sl []),ci 0,ci e]:=by
 have fr:=h.free;refine ACG.aF zi0 (rs:=[.tmp 4,.tmp 5,.tmp 6]) bM Tryz.func18 (by rfl) (by rfl) (by rfl) (by rfl) (by rfl) ?_;simp (disch:=omega) only[wt,seval,reduceCtorEq,Nat.reduceEqDiff,aj,rqs];refine au (fr) (by rfl) (by simp) ?_;simp (disch:=omega) only[wt,seval,reduceCtorEq,Nat.reduceEqDiff,aj,rqs];refine au (hf) (by first|rfl|(simp only[aH,bn,aB,aI,aA,Nat.reduceEqDiff,↓reduceIte,he];rfl)) (by simp) ?_;simp (disch:=omega) only[wt,seval,reduceCtorEq,Nat.reduceEqDiff,aj,rqs,he]
 try rfl
theorem a8u {p:List RI}{F:List Int}{B E:Nat}{res:List Sp}(h:b1N p F B E res)(w:RQ)(k:Nat)(hk:1048576<k)(hf:AC Tryz.prog 39 [cqq w] none [ci k,ci 0]):ACG Tryz.prog yH 18 [cw p,cqq w] [.iv (.sl []),ci 0,ci 13]:=by
 have fr:=h.free;have is:=h.iso;have n0:¬(k:Int)<=1048576:=by omega
 refine ACG.aF zi0 (rs:=[.tmp 4,.tmp 5,.tmp 6]) bM Tryz.func18 (by rfl) (by rfl) (by rfl) (by rfl) (by rfl) ?_;simp (disch:=omega) only[wt,seval,reduceCtorEq,Nat.reduceEqDiff,aj,rqs];refine au (fr) (by rfl) (by simp) ?_;simp (disch:=omega) only[wt,seval,reduceCtorEq,Nat.reduceEqDiff,aj,rqs];refine au (hf) (by rfl) (by simp) ?_;simp (disch:=omega) only[wt,seval,reduceCtorEq,Nat.reduceEqDiff,aj,rqs];refine au (is) (by rfl) (by simp) ?_;simp (disch:=omega) only[wt,seval,reduceCtorEq,Nat.reduceEqDiff,aj,rqs];refine bF (λf H=>f 9=.iv (.int .i64 k)) (λf H=>0) ?_ ?_
 .simp (disch:=omega) only[wt,seval,reduceCtorEq,Nat.reduceEqDiff,aj,rqs]
 rintro f H g9;simp (disch:=omega) only[wt,seval,reduceCtorEq,Nat.reduceEqDiff,aj,rqs,g9,n0]
 try rfl
def NZ (cur:List Sp)(k:Int)(i:Nat):List Sp:=(cur.take i).map (λs=>s.ref k)++cur.drop i
theorem XV (cur:List Sp)(k:Int):NZ cur k 0=cur:=by simp[NZ]
theorem a2b {cur:List Sp}{k:Int}{i:Nat}(h:i<=cur.length):(NZ cur k i).length=cur.length:=by simp[NZ];omega
theorem a2d (cur:List Sp)(k:Int):NZ cur k cur.length=cur.map λs=>s.ref k:=by simp[NZ]
theorem a2c {cur:List Sp}{k:Int}{i:Nat}(h:i<cur.length):(NZ cur k i).getD i sp0=cur.getD i sp0:=by
 simp only[NZ,List.getD];rw[List.getElem?_append_right (by simp;omega)];simp[Nat.min_eq_left (Nat.le_of_lt h)]
theorem a2a {cur:List Sp}{k:Int}{i:Nat}(h:i<cur.length):(NZ cur k i).set i ((cur.getD i sp0).ref k)=NZ cur k (i+1):=by
 have hd:cur.drop i=cur.getD i sp0::cur.drop (i+1):=by
  rw[List.drop_eq_getElem_cons h];simp[List.getD,h]
 have ht:=ql (λs:Sp=>s.ref k) h sp0;unfold NZ;rw[List.map_take,List.map_take,ht,hd,List.append_assoc];rw[List.set_append_right _ _ (by simp;omega)];simp[Nat.min_eq_left (Nat.le_of_lt h)]
theorem Yw (l:List Sp)(i:Nat)(s:Sp):(oz l).set i (spr s)=oz (l.set i s):=by simp[oz,List.map_set]
def refs (res:List Sp)(j:Int):List Sp:=res.map λs=>s.ref j
theorem Qj (res:List Sp)(j:Int):(refs res j).length=res.length:=by simp[refs]
theorem WJ (res:List Sp){j k:Int}(h:j<=k):(refs res j).map (λs=>s.ref k)=refs res k:=by
 simp only[refs,List.map_map];exact List.map_congr_left λs _=>WL s h
theorem a6o (res:List Sp)(k:Int):(refs res k).map (λs=>pc s k)=res.map λs=>pc s k:=by
 simp only[refs,List.map_map];exact List.map_congr_left λs _=>b0h s k
set_option maxRecDepth 100000 in
theorem a5k {p:List RI}{F:List Int}{B E:Nat}{res:List Sp}(h:b1N p F B E res)(w:RQ)(k0 K:Nat)(hk:k0<=K)(hK:K<=1048576)(hf:AC Tryz.prog 39 [cqq w] none [ci k0,ci 0])
  (b:Nat->Bool) (hb:∀k:Nat,k0<=k->k<=K->AC Tryz.prog 32 [.iv (.sl (jg k (res.map λs=>pc s k)))] none [cb (b k),ci 0]) (hbK:b K=true) (hbl:∀k,k0<=k->k<K->b k=false) :
  ACG Tryz.prog yH 18 [cw p,cqq w] [.iv (.sl (jg K (res.map λs=>pc s K))),ci K,ci 0]:=by
 have fr:=h.free;have is:=h.iso;have hl:=h.len;refine ACG.aF zi0 (rs:=[.tmp 4,.tmp 5,.tmp 6]) bM Tryz.func18 (by rfl) (by rfl) (by rfl) (by rfl) (by rfl) ?_;simp (disch:=omega) only[wt,seval,reduceCtorEq,Nat.reduceEqDiff,aj,rqs];refine au (fr) (by rfl) (by simp) ?_;simp (disch:=omega) only[wt,seval,reduceCtorEq,Nat.reduceEqDiff,aj,rqs];refine au (hf) (by rfl) (by simp) ?_;simp (disch:=omega) only[wt,seval,reduceCtorEq,Nat.reduceEqDiff,aj,rqs];refine au (is) (by rfl) (by simp) ?_;simp (disch:=omega) only[wt,seval,reduceCtorEq,Nat.reduceEqDiff,aj,rqs];refine bF (λf H=>∃(k:Nat) (j:Int) (st:Nat),k0<=k/\k<=K/\j<=k/\j<=22+k/\f 9=.iv (.int .i64 k)/\f 10=.hs 33 st/\H 33=.blk false st 89 5 (oz (refs res j))/\H 777=.tie (.ip yH) Jz) (λf H=>K+1-(dQ f 9).toNat) ?_ ?_
 .refine⟨k0,-(E:Int),1,by omega,hk,by omega,by omega,?_⟩;have e:refs res (-(E:Int))=res:=by
   unfold refs
   conv=>rhs;rw[<-List.map_id res]
   exact List.map_congr_left λs hs=>a1g (h.sp s hs).1.e0
  rw[e];simp (disch:=omega) only[wt,seval,reduceCtorEq,Nat.reduceEqDiff,aj,rqs]
  try rfl
 rintro f H ⟨k,j,st,hk1,hk2,hj,-,g9,g10,g33,a2K⟩;rw[bC g9,Int.toNat_natCast];have n0:(k:Int)<=1048576:=by omega
 have hrl:=Qj res j;have hsp:∀s∈refs res j,∃t∈res,s=t.ref j:=λs hs=>by obtain⟨t,h1,h2⟩:=List.mem_map.1 hs;exact⟨t,h1,h2.symm⟩
 have hfl:=kW (refs res j);simp (disch:=omega) only[wt,seval,reduceCtorEq,Nat.reduceEqDiff,aj,rqs,g9,g10,g33,a2K,n0];refine bF (λf H=>∃(i:Nat),i<=res.length/\f 40=.iv (.int .i64 i)/\f 39=.iv (.int .i64 res.length)/\f 38=.hs 33 st/\f 9=.iv (.int .i64 k)/\f 10=.hs 33 st/\H 33=.blk false st 89 5 (oz (NZ (refs res j) k i))/\H 777=.tie (.ip yH) Jz) (λf H=>res.length-(dQ f 40).toNat) ?_ ?_
 .refine⟨0,by omega,?_⟩;rw[XV];simp (disch:=omega) only[wt,seval,reduceCtorEq,Nat.reduceEqDiff,aj,rqs,g9,g10,g33,a2K,hfl,hrl]
 rintro f H ⟨i,hi,hF⟩;rw[bC hF.1,Int.toNat_natCast];have hml:=a2b (cur:=refs res j) (k:=k) (i:=i) (by omega);have hfm:=kW (NZ (refs res j) k i);simp (disch:=omega) only[wt,seval,reduceCtorEq,Nat.reduceEqDiff,aj,rqs,hF];refine bU (λhlt=>?_) (λhlt=>?_)
 .have hlt':i<res.length:=by omega
  have hg:=KT (l:=NZ (refs res j) k i) (i:=i) (by omega);rw[a2c (by omega)]at hg;obtain⟨t,t1,t2⟩:=hsp _ (uN (l:=refs res j) (i:=i) (by omega) sp0);have rf:=Vu ((h.sp t t1).1.ref j) h.B h.E k (by omega);have hset:=a2a (cur:=refs res j) (k:=k) (i:=i) (by omega);rw[t2]at hg hset;generalize t.ref j=s at *;simp (disch:=omega) only[wt,seval,reduceCtorEq,Nat.reduceEqDiff,aj,rqs,hF,hg,hfm,hml,hrl,ws,spz,hlt];refine au (rf) (by first|rfl|(simp only[aH,bn,aB,aI,aA,Nat.reduceEqDiff,↓reduceIte,hF,hg,hfm,hml,hrl,ws,spz,hlt];rfl)) (by simp) ?_;simp (disch:=omega) only[wt,seval,reduceCtorEq,Nat.reduceEqDiff,aj,rqs,hF,hg,hfm,hml,hrl,ws,spz,hlt];refine⟨⟨i+1,by omega,by omega,by rw[Yw,hset]⟩,by omega⟩
 .obtain rfl:i=res.length:=by omega
  have e:NZ (refs res j) k res.length=refs res k:=by rw[<-hrl,a2d,WJ res hj]
  rw[e]at hF;obtain⟨-,-,-,f9,f10,f33,f777⟩:=hF;simp (disch:=omega) only[wt,seval,reduceCtorEq,Nat.reduceEqDiff,aj,rqs,f9,f10,f33,f777];refine IQ (Tc h.B h.E (refs res k) (λs hs=>?_) (by rw[Qj];exact hl) k (by omega) _ f33 f777) ?_
  .obtain⟨t,t1,rfl⟩:=List.mem_map.1 hs;have t2:=h.sp t t1;have:=a4r t k;exact⟨t2.1.ref k,by have:=t2.2;omega⟩
  rintro x H2 ⟨s',rfl,h19,kp⟩;rw[a6o]at h19;have q33:=(kp 33 (by omega) (by omega) (by omega)).trans f33;have b0b:=(kp 777 (by omega) (by omega) (by omega)).trans f777;clear kp f33 f777;have ap:=hb k hk1 hk2;simp (disch:=omega) only[wt,seval,reduceCtorEq,Nat.reduceEqDiff,aj,rqs,f9,f10,h19,q33,b0b];refine au (ap) (by first|rfl|(simp only[aH,bn,aB,aI,aA,Nat.reduceEqDiff,↓reduceIte,f9,f10,h19,q33,b0b];rfl)) (by simp) ?_;simp (disch:=omega) only[wt,seval,reduceCtorEq,Nat.reduceEqDiff,aj,rqs,f9,f10,h19,q33,b0b];by_cases hkK:k=K
  .subst hkK;rw[hbK];simp (disch:=omega) only[wt,seval,reduceCtorEq,Nat.reduceEqDiff,aj,rqs,f9,f10,h19,q33,b0b]
   try rfl
  .have hbk:=hbl k hk1 (by omega);rw[hbk];simp (disch:=omega) only[wt,seval,reduceCtorEq,Nat.reduceEqDiff,aj,rqs,f9,f10,h19,q33,b0b];exact⟨⟨k+1,k,st,by omega,by omega,by omega,by omega,by omega,rfl,rfl⟩,by omega⟩
theorem Bv {p:List RI}{w:RQ}{rows:List (List IV)}{k e:Int}(h:ACG Tryz.prog yH 18 [cw p,cqq w] [.iv (.sl rows),ci k,ci e]):ACG Tryz.prog yH 5 [cw p,cqq w] [.iv (.sl rows),ci e]:=by
 refine ACG.aF zi0 (rs:=[.tmp 4,.tmp 5]) bM Tryz.func5 (by rfl) (by rfl) (by rfl) (by rfl) (by rfl) ?_;simp (disch:=omega) only[wt,seval,reduceCtorEq,Nat.reduceEqDiff,aj,rqs];refine lZ (h) (k:=777) (by first|rfl|(simp only[aA,aj,Nat.reduceEqDiff,reduceIte])) (by first|rfl|(simp only[List.map_cons,List.map_nil,CV.av])) (by simp[gK]) ?_;simp (disch:=omega) only[wt,seval,reduceCtorEq,Nat.reduceEqDiff,aj,rqs]
 try rfl
theorem a6c (l:List Nat)(h:l.length<=2^40):AC Tryz.prog 43 [cl l,cl l] none [cb true]:=by
 refine AC.aF (rs:=[.tmp 4]) bM Tryz.func43 (by rfl) (by rfl) (by rfl) (by rfl) (by rfl) ?_;simp (disch:=omega) only[wt,seval,reduceCtorEq,Nat.reduceEqDiff,aj,rqs];refine bF (λf H=>∃(i:Nat),i<=l.length/\f 13=.iv (.int .i64 i)/\f 0=.iv (.sl (dJ l))/\f 1=.iv (.sl (dJ l))/\f 12=.iv (.int .i64 l.length)) (λf H=>(l.length-dQ f 13).toNat) ?_ ?_
 .refine⟨0,by omega,?_⟩;simp (disch:=omega) only[wt,seval,reduceCtorEq,Nat.reduceEqDiff,aj,rqs]
 rintro f H ⟨i,hi,hF⟩;rw[bC hF.1];simp (disch:=omega) only[wt,seval,reduceCtorEq,Nat.reduceEqDiff,aj,rqs,hF];refine bU (λhlt=>?_) (λhlt=>?_)
 .simp (disch:=omega) only[wt,seval,reduceCtorEq,Nat.reduceEqDiff,aj,rqs,hF];refine .inl ⟨aZ (by kernel_rfl),?_⟩
  first|exact aN (by kernel_rfl)|refine⟨aN (by kernel_rfl),?_⟩
  refine⟨⟨i+1,by omega,by omega⟩,by omega⟩
 .simp (disch:=omega) only[wt,seval,reduceCtorEq,Nat.reduceEqDiff,aj,rqs,hF]
  try rfl
theorem a6d (c:RI)(h:c.2.length<=2^40):AC Tryz.prog 20 [cr c,cr c] none [cb true]:=by
 have s:=a6c c.2 h;have e:(c.1 == c.1)=true:=by simp
 refine AC.aF (rs:=[.tmp 4]) bM Tryz.func20 (by rfl) (by rfl) (by rfl) (by rfl) (by rfl) ?_;simp (disch:=omega) only[wt,seval,reduceCtorEq,Nat.reduceEqDiff,aj,rqs,e];refine au (s) (by first|rfl|(simp only[aH,bn,aB,aI,aA,Nat.reduceEqDiff,↓reduceIte,e];rfl)) (by simp) ?_;simp (disch:=omega) only[wt,seval,reduceCtorEq,Nat.reduceEqDiff,aj,rqs,e]
theorem OG (k:Int)(c:Int×Bool):(Fq k c).take 2=je (canon c.1):=rfl
theorem Iu (k:Int)(c:Int×Bool):(Fq k c).drop 2=[.int .i64 k,.bool c.2]:=rfl
theorem Ir (k:Int)(c:Int×Bool):(Fq k c).drop 3=[.bool c.2]:=rfl
theorem JF (k:Int)(l:List (Int×Bool))(hl:l.length<=2^30)(hz:∀c∈l,a8Q c):AC Tryz.prog 7 [.iv (.sl (jg k l)),.iv (.sl (jg k l))] none [cb true]:=by
 have hcl:=tZ k l;have ek:(k == k)=true:=by simp
 refine AC.aF (rs:=[.tmp 4]) bM Tryz.func7 (by rfl) (by rfl) (by rfl) (by rfl) (by rfl) ?_;simp (disch:=omega) only[wt,seval,reduceCtorEq,Nat.reduceEqDiff,aj,rqs,hcl];refine bF (λf H=>∃(i:Nat),i<=l.length/\f 13=.iv (.int .i64 i)/\f 0=.iv (.sl (jg k l))/\f 1=.iv (.sl (jg k l))/\f 12=.iv (.int .i64 l.length)) (λf H=>(l.length-dQ f 13).toNat) ?_ ?_
 .refine⟨0,by omega,?_⟩;simp (disch:=omega) only[wt,seval,reduceCtorEq,Nat.reduceEqDiff,aj,rqs,hcl]
 rintro f H ⟨i,hi,hF⟩;rw[bC hF.1];simp (disch:=omega) only[wt,seval,reduceCtorEq,Nat.reduceEqDiff,aj,rqs,hF];refine bU (λhlt=>?_) (λhlt=>?_)
 .have hlt':i<l.length:=by omega
  have hg:=xU (k:=k) hlt';have hm:=hz _ (uN hlt' (0,false));have s:=a6d (canon (l.getD i (0,false)).1) (by
   have:zl (l.getD i (0,false)).1=(canon (l.getD i (0,false)).1).2.length:=rfl;have:=hm.1;omega)
  generalize l.getD i (0,false)=c at *;obtain⟨z,b⟩:=c;cases b
  all_goals
   simp (disch:=omega) only[wt,seval,reduceCtorEq,Nat.reduceEqDiff,aj,rqs,hF,hcl,hg,fQ,OG,Iu,Ir,a8c,a8b,fH,fD,ek,beq_self_eq_true,Bool.not_true,Bool.false_eq_true];refine .inl ⟨aZ (by kernel_rfl),?_⟩;refine au (s) (by first|rfl|(simp only[aH,bn,aB,aI,aA,Nat.reduceEqDiff,↓reduceIte,hF,hcl,hg,fQ,OG,Iu,Ir,a8c,a8b,fH,fD,ek,beq_self_eq_true,Bool.not_true,Bool.false_eq_true];rfl)) (by simp) ?_;simp (disch:=omega) only[wt,seval,reduceCtorEq,Nat.reduceEqDiff,aj,rqs,hF,hcl,hg,fQ,OG,Iu,Ir,a8c,a8b,fH,fD,ek,beq_self_eq_true,Bool.not_true,Bool.false_eq_true]
   first|exact aN (by kernel_rfl)|refine⟨aN (by kernel_rfl),?_⟩
   refine⟨⟨i+1,by omega,by omega⟩,by omega⟩
 .simp (disch:=omega) only[wt,seval,reduceCtorEq,Nat.reduceEqDiff,aj,rqs,hF]
  try rfl
theorem I7 (r:RI)(x a b c d:IV):lay (λi=>[(0,2),(2,1),(3,1)][i]?) [a,b,c,d] ([0,1].zip [je r,[x]])=some ((2=2/\0+2<=4)/\(1=1/\2+1<=4)/\True,[.bool r.1,.sl (dJ r.2),x,d]):=rfl
theorem a0P:AC Tryz.prog 8 [] none [.iv (.sl (jg 1 [(-3,false),(2,false)]))]:=by
 have w1:=wB (-3) (by omega) (by omega);have w2:=wB 2 (by omega) (by omega);refine AC.aF (rs:=[.tmp 0]) bM Tryz.func8 (by rfl) (by rfl) (by rfl) (by rfl) (by rfl) ?_;simp (disch:=omega) only[wt,seval,reduceCtorEq,Nat.reduceEqDiff,aj,rqs];refine au (w1) (by first|rfl|(simp only[aH,bn,aB,aI,aA,Nat.reduceEqDiff,↓reduceIte,I7];rfl)) (by simp) ?_;simp (disch:=omega) only[wt,seval,reduceCtorEq,Nat.reduceEqDiff,aj,rqs,I7];refine au (w2) (by first|rfl|(simp only[aH,bn,aB,aI,aA,Nat.reduceEqDiff,↓reduceIte,I7];rfl)) (by simp) ?_;simp (disch:=omega) only[wt,seval,reduceCtorEq,Nat.reduceEqDiff,aj,rqs,I7]
 try rfl
theorem a6w {l:List Rat}{i:Nat}(h:i<l.length):(lD (l.map uf)).getD i []=oh (uf (l.getD i 0)):=by simp[lD,List.getD,h]
theorem a7H (l:List Rat)(k:Nat)(hl:l.length<=1000)(hk:k<=1048576)(hq:∀x∈l,qz x<=2^20)(b:Bool)(hap:AC Tryz.prog 32 [.iv (.sl (jg k (l.map λx=>(cfl x k,cpt x k))))] none [cb b,ci 0]) :
  AC Tryz.prog 15 [.iv (.sl (lD (l.map uf))),ci k] none [.iv (.sl (jg k (l.map λx=>(cfl x k,cpt x k)))),cb b,cb true]:=by
 have hrl:(lD (l.map uf)).length=l.length:=by simp[lD]
 refine AC.aF (rs:=[.tmp 4,.tmp 5,.tmp 6]) bM Tryz.func15 (by rfl) (by rfl) (by rfl) (by rfl) (by rfl) ?_;simp (disch:=omega) only[wt,seval,reduceCtorEq,Nat.reduceEqDiff,aj,rqs,hrl];refine bF (λf H=>∃(i st:Nat),i<=l.length/\f 17=.iv (.int .i64 i)/\f 16=.iv (.int .i64 l.length)/\f 15=.iv (.sl (lD (l.map uf)))/\f 1=.iv (.int .i64 k)/\f 7=.hs 14 st/\H 14=.blk false st 62 4 (jg k ((l.map λx=>(cfl x k,cpt x k)).take i))) (λf H=>(l.length-dQ f 17).toNat) ?_ ?_
 .refine⟨0,1,by omega,?_⟩;simp (disch:=omega) only[wt,seval,reduceCtorEq,Nat.reduceEqDiff,aj,rqs,hrl,List.take_zero,show jg k []=[] from rfl]
 rintro f H ⟨i,st,hi,hF⟩;rw[bC hF.1];simp (disch:=omega) only[wt,seval,reduceCtorEq,Nat.reduceEqDiff,aj,rqs,hF];refine bU (λhlt=>?_) (λhlt=>?_)
 .have hlt':i<l.length:=by omega
  have hg:=a6w hlt';have hx:=hq _ (uN hlt' 0);have hsn:=ql (λx=>(cfl x k,cpt x k)) hlt' 0;have zx:=Nk (l.getD i 0);have cy:=mO (uf (l.getD i 0)) (Nat.le_trans zx.1.1 (by omega)) (Nat.le_trans zx.2.1 (by omega));have co:=b1q (l.getD i 0) k hx hk;simp only[ccl]at co;generalize l.getD i 0=x at *;have hcl:(jg k ((l.map λx=>(cfl x k,cpt x k)).take i)).length=i:=by rw[tZ,List.length_take,List.length_map];omega
  simp (disch:=omega) only[wt,seval,reduceCtorEq,Nat.reduceEqDiff,aj,rqs,hF,hrl,hg];refine au (cy) (by first|rfl|(simp only[aH,bn,aB,aI,aA,Nat.reduceEqDiff,↓reduceIte,hF,hrl,hg];rfl)) (by simp) ?_;simp (disch:=omega) only[wt,seval,reduceCtorEq,Nat.reduceEqDiff,aj,rqs,hF,hrl,hg];refine au (co) (by first|rfl|(simp only[aH,bn,aB,aI,aA,Nat.reduceEqDiff,↓reduceIte,hF,hrl,hg,hcl,fQ,fH,iL];rfl)) (by simp) ?_;simp (disch:=omega) only[wt,seval,reduceCtorEq,Nat.reduceEqDiff,aj,rqs,hF,hrl,hg,hcl,fQ,fH,iL];refine⟨⟨i+1,st+1,by omega,by omega,rfl,by rw[hsn,Fp]⟩,by omega⟩
 .obtain rfl:i=l.length:=by omega
  rw[List.take_of_length_le (by rw[List.length_map];omega)]at hF;simp (disch:=omega) only[wt,seval,reduceCtorEq,Nat.reduceEqDiff,aj,rqs,hF];refine au (hap) (by first|rfl|(simp only[aH,bn,aB,aI,aA,Nat.reduceEqDiff,↓reduceIte,hF];rfl)) (by simp) ?_;simp (disch:=omega) only[wt,seval,reduceCtorEq,Nat.reduceEqDiff,aj,rqs,hF]
  try rfl
section
theorem Yd {F:List Int}{B E n:Nat}{st r:List Sp}(h:MW F n st r):b1I B E st->∀s∈r,SpF B E s/\s.e<=21:=by
 induction h with
 |nil=>intro _ s hs;simp at hs
 |yes hp hz k ih =>
  intro hS s hs;rcases List.mem_cons.1 hs with rfl|hs
  .exact⟨hS.1.1,hS.1.2.1⟩
  .exact ih hS.2 s hs
 |no hp hz k ih=>intro hS;exact ih hS.2
 |zero hp hz k ih=>intro hS;exact ih hS.2
 |one hp hz k ih =>
  intro hS s hs;rcases List.mem_cons.1 hs with rfl|hs
  .exact⟨hS.1.1,hS.1.2.1⟩
  .exact ih hS.2 s hs
 | @split n s st r hp h0 h1 he k ih =>
  intro hS;obtain⟨⟨hs,he',hl⟩,hS'⟩:=hS;obtain⟨q1,q2,q3⟩:=hs.low hp;have q0:=hs.e0;refine ih ⟨⟨q1,?_,?_⟩,⟨q2,?_,?_⟩,⟨q3,?_,?_⟩,hS'⟩
  .show s.e+1<=21;omega
  .show st.length+1+1<=2+2*(s.e+1+E).toNat;omega
  .show s.e+1<=21;omega
  .show st.length+1<=2+2*(s.e+1+E).toNat;omega
  .show s.e+1<=21;omega
  .show st.length<=2+2*(s.e+1+E).toNat;omega
def Ob (E:Nat)(F:List Int):List Int:=sc (2^E) (aV F)
def a2x (E:Nat)(F:List Int):List Int:=kS (Ob E F) [-1,1] [1]
def ini (E:Nat)(F:List Int):List Sp:=[⟨-1,-(E:Int),false,a2x E F⟩,⟨0,0,true,[]⟩,⟨0,-(E:Int),false,Ob E F⟩]
theorem qI (P:List Int)(x:Rat):er (kS P [-1,1] [1]) x=er P (x-1):=by
 have e1:er [-1,1] x=x-1:=by simp only[er];rw[show ((-1:Int):Rat) = -1 from rfl,show ((1:Int):Rat)=1 from rfl];grind
 have e2:er [1] x=1:=by simp only[er];rw[show ((1:Int):Rat)=1 from rfl];grind
 have k:=Dn [-1,1] [1] x (by rw[e2];decide) P;rw[e1,e2]at k;have one:∀n:Nat,(1:Rat)^n=1:=λn=>by
  induction n with
  |zero=>exact Rat.pow_zero _
  |succ n ih=>rw[Rat.pow_succ,ih];grind
 have i1:(1:Rat)⁻¹=1:=by decide +kernel
 rw[one,show (x-1)/1=x-1 by rw[Rat.div_def,i1];grind]at k
 grind
theorem YK (E:Nat)(F:List Int)(x:Rat):er (Ob E F) x=er F (x*p2 E):=by
 rw[Ob,Uk,nM (p:=aV F) (q:=F) _ (bH F),Rat.mul_comm];have e:((2^E:Int):Rat)=p2 E:=by rw[Kv];push_cast;rfl
 rw[e]
theorem a7d (E:Nat)(F:List Int):Lks F (-1) (-(E:Int)) (a2x E F)/\Lks F 0 (-(E:Int)) (Ob E F):=by
 have e : -(-(E:Int))=(E:Int):=by omega
 refine⟨⟨1,by decide,λx=>?_⟩,⟨1,by decide,λx=>?_⟩⟩
 .rw[a2x,qI,YK,e,Rat.one_mul]
  congr 2
  all_goals (rw[show ((-1:Int):Rat) = -1 from rfl];grind)
 .rw[YK,e,Rat.one_mul]
  congr 2
  all_goals (rw[show ((0:Int):Rat)=0 from rfl];grind)
theorem ZC (P:List Int):ps (kS P [-1,1] [1])=ps (sc (-1) (tyi (sc (-1) P))):=qC λx _=>by
 rw[qI,Uk,Fa,Uk,show ((-1:Int):Rat) = -1 from rfl]
 congr 1;grind
theorem DL (i:Nat):((-1:Int)^i).natAbs=1:=by
 rw[Int.natAbs_pow];exact Nat.one_pow i
theorem a8o {m:Nat}{P:List Int}(hl:P.length<=12)(h:∀k,(cf P k).natAbs<2^m):Bm (m+12) (kS P [-1,1] [1]):=by
 refine⟨?_,λk=>?_⟩
 .rw[dX (ZC P)];exact Nat.le_trans (oI _) (by rw[wO,BD,wO];exact hl)
 .rw[jc (ZC P),OL,Int.natAbs_mul,DL,Nat.mul_one];have hp:0<2^m:=Nat.pow_pos (by omega);have h1:=VO (M:=2^m-1) (sc (-1) P) (λk=>by
   rw[OL,Int.natAbs_mul,DL,Nat.mul_one];have:=h k;omega) k
  rw[wO]at h1;have h2:(2^m-1)*2^P.length<=(2^m-1)*2^12:=Nat.mul_le_mul_left _ (Nat.pow_le_pow_right (by omega) hl);have h3:(2^m-1)*2^12<2^m*2^12:=Nat.mul_lt_mul_of_pos_right (by omega) (by decide);rw[Nat.pow_add];omega
theorem zlpx {z:Int}{N:Nat}(h:zl z<=N):z.natAbs<2^(64*N):=by
 have h2:=dR.mp h;rwa [Ea]at h2
theorem a4K {E:Nat}{F:List Int}(hF:RP 12 (2^9) (cn F))(h0:tz F≠0)(hE:E<=2^16):b1I (2^20) E (ini E F):=by
 have hl:(aV F).length<=12:=by have:=hF.1;simpa [cn] using this
 have sl:(Ob E F).length<=12:=by rw[Ob,wO];exact hl
 obtain⟨T,hT⟩:∃T:Nat,T=64*2^9:=⟨_,rfl⟩;have hc:∀k,(cf F k).natAbs<2^T:=λk=>by
  have h1:=JG hF k;rw[show pv (cn F)=aV F from gW _,bH]at h1;have h2:=zlpx h1;rw[hT];exact h2
 have b0:∀k,(cf (Ob E F) k).natAbs<2^(T+11*E):=λk=>by
  by_cases hk:k<12
  .rw[Ob,OL,bH,Int.natAbs_mul,Int.natAbs_pow,Int.natAbs_pow,<-Nat.pow_mul,Nat.pow_add];have h2:(2:Int).natAbs^(E*k)<=2^(11*E):=Nat.pow_le_pow_right (by decide) (by rw[Nat.mul_comm];exact Nat.mul_le_mul_right _ (by omega));exact Nat.lt_of_le_of_lt (Nat.mul_le_mul_left _ h2) (Nat.mul_lt_mul_of_pos_right (hc k) (Nat.pow_pos (by omega)))
  .rw[jK (by omega)];exact Nat.pow_pos (by omega)
 have wk:∀{m n:Nat} {L:List Int},m<=n->Bm m L->Bm n L:=λhmn hB=>⟨hB.1,λk=>Nat.lt_of_lt_of_le (hB.2 k) (Nat.pow_le_pow_right (by omega) hmn)⟩
 have B0:Bm (T+11*E) (Ob E F):=⟨Nat.le_trans (oI _) sl,b0⟩;have B1:=a8o sl b0;have z0:tz (Ob E F)≠0:=λe=>h0 (by
  refine bf.mpr λk=>?_;have:=bf.mp e k;rw[Ob,OL,bH]at this;rcases Int.mul_eq_zero.mp this with h|h
  .exact h
  .exact absurd h (Int.pow_ne_zero (Int.pow_ne_zero (by decide))))
 have z1:tz (a2x E F)≠0:=λe=>z0 (by
  have hz:∀x,er (a2x E F) x=0:=λx=>kH λk=>bf.mp e k
  rw[dX (q:=[]) (qC λx _=>by
   have:=hz (x+1);rw[a2x,qI,show x+1-1=x by grind]at this;rw[this];rfl)]
  rfl)
 have t0:(-(E:Int)+E).toNat=0:=by omega
 refine⟨⟨⟨Int.le_refl _,?_,λ_=>⟨?_,z1⟩⟩,?_,?_⟩,⟨⟨?_,?_,λh=>by cases h⟩,?_,?_⟩,⟨⟨Int.le_refl _,?_,λ_=>⟨?_,z0⟩⟩,?_,?_⟩,trivial⟩
 .show (-1:Int).natAbs<2^((-(E:Int)+E).toNat+1);rw[t0];decide
 .show Bm (2^20+23*(-(E:Int)+E).toNat) (a2x E F);rw[t0];exact wk (by omega) B1
 .show -(E:Int)<=21;omega
 .show 2<=2+2*(-(E:Int)+E).toNat;omega
 .show -(E:Int)<=0;omega
 .exact Nat.pow_pos (by omega)
 .show (0:Int)<=21;omega
 .show 1<=2+2*(0+(E:Int)).toNat;omega
 .show (0:Int).natAbs<2^((-(E:Int)+E).toNat+1);rw[t0];decide
 .show Bm (2^20+23*(-(E:Int)+E).toNat) (Ob E F);rw[t0];exact wk (by omega) B0
 .show -(E:Int)<=21;omega
 .show 0<=2+2*(-(E:Int)+E).toNat;omega
theorem a7q {rs:List Rat}(hr:rs.Pairwise (· < ·)){E:Nat}{F:List Int}(hb:∀x∈rs,-p2 E<x/\x<p2 E):(ini E F).flatMap (ins rs)=rs:=by
 have e : -(-(E:Int))=(E:Int):=by omega
 have k:=tH rs hr (λ_=>true) 0;rw[List.filter_eq_self.2 (λ_ _=>rfl)]at k
 conv=>rhs;rw[k]
 simp only[ini,List.flatMap_cons,List.flatMap_nil,List.append_nil,ins]
 congr 1
 .refine List.filter_congr λx hx=>?_;have:=hb x hx;rw[inb];show decide (((-1:Int):Rat)*p2 (-(-(E:Int)))<x/\x<(((-1:Int):Rat)+1)*p2 (-(-(E:Int))))=(true && decide (x<0));rw[e,Bool.true_and,decide_eq_decide,show ((-1:Int):Rat) = -1 from rfl];constructor
  .rintro⟨a,b⟩;grind
  .intro h;constructor<;>grind
 .congr 1
  .refine List.filter_congr λx hx=>?_;rw[inb];show decide (x=((0:Int):Rat)*p2 (-(0:Int)))=(true && decide (x=0));rw[Bool.true_and,decide_eq_decide,show ((0:Int):Rat)=0 from rfl];constructor<;>intro h<;>grind
  .refine List.filter_congr λx hx=>?_;have:=hb x hx;rw[inb];show decide (((0:Int):Rat)*p2 (-(-(E:Int)))<x/\x<(((0:Int):Rat)+1)*p2 (-(-(E:Int))))=(true && decide (0<x));rw[e,Bool.true_and,decide_eq_decide,show ((0:Int):Rat)=0 from rfl];constructor
   .rintro⟨a,b⟩;grind
   .intro h;constructor<;>grind
variable {f:List Int} {rs:List Rat} {C:List (Int×Int)}
theorem H1.pc (E:Env f rs C){s:Sp}{x:Rat}(h:H1 f rs s x)(k:Int):Go.Proofs.YtnhghmibjddlkaaGreatDoor.pc s k=(cfl x k,cpt x k):=by
 obtain⟨h',b,-,-⟩:=a9V E h k;unfold Go.Proofs.YtnhghmibjddlkaaGreatDoor.pc pcr;generalize s.ref k=r at *;by_cases hle:r.e<=k
 .obtain⟨a1,a2⟩:=a1B h'.inn hle (by rcases b with b|b;exact .inl b;exact .inr (by omega));rw[if_pos hle,a1,a2]
 .obtain⟨a1,a2⟩:=U7 h'.inn (k:=k) (by omega);rw[if_neg hle,a1,a2]
theorem HL.pcs (E:Env f rs C)(k:Int):∀{r:List Sp} {xs:List Rat},HL f rs r xs->r.map (λs=>Go.Proofs.YtnhghmibjddlkaaGreatDoor.pc s k)=xs.map λx=>(cfl x k,cpt x k)
 |[],[],_=>rfl
 |s::r,x::xs,h=>by rw[List.map_cons,List.map_cons,h.1.pc E k,HL.pcs E k h.2]
 |[],_::_,h=>h.elim
 |_::_,[],h=>h.elim
theorem HL.len:∀{r:List Sp} {xs:List Rat},HL f rs r xs->r.length=xs.length
 |[],[],_=>rfl
 |s::r,x::xs,h=>by rw[List.length_cons,List.length_cons,h.2.len]
 |[],_::_,h=>h.elim
 |_::_,[],h=>h.elim
end
theorem b1n {n d:Int}(hd:0<d):(((n:Rat)/(d:Rat)).den:Int)<=d:=by
 have hd':(d:Rat)≠0:=yZ (by omega);have h1:=Rat.div_mul_cancel (a:=(n:Rat)) hd';generalize (n:Rat)/(d:Rat)=x at *;have h2:((x.num*d:Int):Rat)=((x.den:Int)*n:Int):=by
  rw[Rat.intCast_mul,Rat.intCast_mul,vM x,Rat.intCast_natCast,<-h1];grind
 have h3:x.num*d=(x.den:Int)*n:=by exact_mod_cast h2
 have h4:x.den∣x.num.natAbs*d.natAbs:=by
  rw[<-Int.natAbs_mul,h3,Int.natAbs_mul,Int.natAbs_natCast];exact Nat.dvd_mul_right _ _
 have h5:x.den∣d.natAbs:=Nat.Coprime.dvd_of_dvd_mul_left x.reduced.symm h4;have:=Nat.le_of_dvd (by omega) h5;omega
theorem ZA (rs:List (Int×Int×Int)):∀i,∀r∈bL rs i,∃q:Rat,r=uf q/\q.den<=1000
 |0,r,h=>by simp[bL]at h
 |i+1,r,h=>by
  have ih:=ZA rs i;obtain⟨-,h2,-⟩:=Uf rs i;have hx:∃q:Rat,kx rs i=uf q/\q.den<=1000:=⟨_,rfl,by have:=b1n (n:=(kk rs i).1) (d:=(kk rs i).2.1) (by omega);omega⟩;rw[bL,a0u]at h;split at h
  .exact ih r h
  .simp only[jo,List.mem_append,List.mem_cons,List.mem_singleton]at h;rcases h with h|h
   .exact ih r (List.mem_of_mem_take h)
   .rcases h with h|h
    .rw[h];exact hx
    .exact ih r (List.mem_of_mem_drop h)
structure WdP (p:List RI) (rs:List Rat):Prop where
 kw:∃D n S,Kw p D n S rs
 env:∃C,Env (frd (pv p)) rs C
 len:rs.length<=6
 q:∀x∈rs,qz x<=2^20
theorem a0C (lead:Int)(rs:List (Int×Int×Int))(qs:List (Int×Int)):∃(p:List RI) (l:List Rat) (ts:List Int),(p,l.map uf,ts)=(cn (bR (bQ (ld lead) rs (min rs.length 6)) qs (min qs.length 2)),bL rs (min rs.length 6),bT rs (min rs.length 6))/\WdP p l:=by
 obtain⟨p,l,ts,D,n,S,e,kw,kl⟩:=a3m lead rs qs;have hcb:ld lead≠0:=by
  have cb:=zT (n:=lead) (lo:=-1000000) (hi:=1000000) (by decide);unfold ld;split<;>omega
 injection e with e1 e2;injection e2 with e2 e3;have hq:∀r∈l,∃q:Rat,r=uf q/\q.den<=1000:=by rw[e2];exact ZA rs _
 have hl:(l.map qv).map uf=l:=by
  rw[List.map_map]
  conv=>rhs;rw[<-List.map_id l]
  refine List.map_congr_left λr hr=>?_;obtain⟨q,rfl,-⟩:=hq r hr;show uf (qv (uf q))=uf q;rw[Cb]
 refine⟨p,l.map qv,ts,by rw[hl,e1,e2,e3],⟨D,n,S,kw⟩,?_,by rw[List.length_map];exact kl.len,λx hx=>?_⟩
 .obtain⟨A,a1,a2⟩:=Zx hcb rs (min rs.length 6);obtain⟨C0,c1,c2⟩:=Zw a2 qs (min qs.length 2);have hP:As (pv p) (dI A (lJ C0)):=by
   rw[e1];exact(As.kF (jf _)).trans c2
  obtain⟨C,h1,h2⟩:=Yx kw.root kw.kn.ne a1 c1 hP;refine⟨C,h2,h1,?_,λx hx y hy hxy=>?_⟩
  .rw[List.pairwise_map];exact kl.rise
  .obtain⟨r1,m1,rfl⟩:=List.mem_map.1 hx;obtain⟨r2,m2,rfl⟩:=List.mem_map.1 hy;obtain⟨q1,rfl,d1⟩:=hq r1 m1;obtain⟨q2,rfl,d2⟩:=hq r2 m2;rw[Cb,Cb]at *;have k:=ZI hxy;have hd:q2.den*q1.den<=1000*1000:=Nat.mul_le_mul d2 d1;have hd':((q2.den*q1.den:Nat):Rat)<=1000000:=by
    have:((q2.den*q1.den:Nat):Rat)<=((1000*1000:Nat):Rat):=by exact_mod_cast hd
    exact this
   have:=Rat.mul_nonneg (show 0<=q2-q1 by grind) (show 0<=1000000-((q2.den*q1.den:Nat):Rat) by grind)
   grind
 .obtain⟨r,m,rfl⟩:=List.mem_map.1 hx;have s:=(kl.sz r m).1;obtain⟨q,rfl,-⟩:=hq r m;rw[Cb];unfold qz;have s1:=s.1.1;have s2:=s.2.1;exact Nat.max_le.2 ⟨s1,s2⟩
theorem a0E (F:List Int)(hF:RP 12 (2^9) (cn F))(ht:tz F<=1):AC Tryz.prog 40 [cp F] (some (0,89,5,oz [])) [.iv (.sl (oz []))]:=by
 have epv:pv (cn F)=aV F:=gW _;have dg:=qE (cn F) (hF.mono (by omega) (by omega));rw[epv,G7]at dg;have d1:(tz F:Int)-1<1:=by omega
 refine AC.aF (rs:=[.tmp 2]) bM Tryz.func40 (by rfl) (by rfl) (by rfl) (by rfl) (by rfl) ?_;simp (disch:=omega) only[wt,seval,reduceCtorEq,Nat.reduceEqDiff,aj,rqs];refine au (dg) (by first|rfl|(simp only[aH,bn,aB,aI,aA,Nat.reduceEqDiff,↓reduceIte,d1];rfl)) (by simp) ?_;simp (disch:=omega) only[wt,seval,reduceCtorEq,Nat.reduceEqDiff,aj,rqs,d1]
 try rfl
theorem WdP.rp {p:List RI}{rs:List Rat}(h:WdP p rs):RP 12 (2^9) (cn (frd (pv p)))/\tz (frd (pv p))≠0:=by
 obtain⟨D,n,S,kw⟩:=h.kw;have hn:=kw.n10;have hs:=kw.s40;obtain⟨f0,f1,-,-⟩:=a4R kw.kn.com kw.kn.ne;have sz:=b0U kw.kn.com kw.kn.ne kw.kn.t (by omega) kw.kn.s;exact⟨oQ (by omega) (sz.mono (by omega)),f0⟩
theorem WdP.ans {p:List RI}{rs:List Rat}(h:WdP p rs):∃(E:Nat) (res:List Sp),b1N p (frd (pv p)) (2^20) E res/\HL (frd (pv p)) rs res rs:=by
 obtain⟨hF,f0⟩:=h.rp;obtain⟨C,E0⟩:=h.env;obtain⟨D,n,S,kw⟩:=h.kw;have fr:=PU p rfl kw.rp kw.kn;generalize frd (pv p)=F at *;have hlen:=h.len;have epv:pv (cn F)=aV F:=gW _;by_cases ht:2<=tz F
 .obtain⟨e1,he1⟩:∃e1,e1=(rst (aV F) ((aV F).length-1)).1:=⟨_,rfl⟩;have hb:e1<=64003:=by
   rw[he1];exact(WB (λk=>by
    have h1:=JG hF k;rw[epv]at h1;omega) _).2
  obtain⟨E,hE⟩:∃E:Nat,(E:Int)=max e1 0:=⟨(max e1 0).toNat,by omega⟩;have hE2:E<=2^16:=by omega
  obtain⟨l1,l0⟩:=a7d E F;obtain⟨n',r,hI,hH⟩:=E0.iso _ (ini E F) (λs hs hp=>by
   simp only[ini,List.mem_cons,List.not_mem_nil,or_false]at hs;rcases hs with rfl|rfl|rfl
   .exact⟨l1,by show -(E:Int)<=21;omega⟩
   .cases hp
   .exact⟨l0,by show -(E:Int)<=21;omega⟩) (Nat.le_refl _)
  rw[a7q E0.rise λx hx=>?_]at hH
  .have hl:=hH.len;have hS:=a4K hF f0 hE2;exact⟨E,r,⟨fr,Vy F E (2^20) n' r hF ht (by rw[hE,he1]) hE2 (Nat.le_refl _) hI hS (by omega),Yd hI hS,Nat.le_refl _,hE2,by omega⟩,hH⟩
  .have hz:=(E0.root x).2 hx;have hl:=bI F;have nb:=DC (A:=aV F) (by omega) (by rw[bH,hl];exact dS f0) (x:=x) (by rw[nM (p:=aV F) (q:=F) _ (bH F)];exact hz);rw[<-he1]at nb;have hp:=Xw (show e1<=(E:Int) by omega);constructor
   .refine Rat.not_le.1 λhc=>nb (.inr (by grind))
   .refine Rat.not_le.1 λhc=>nb (.inl (by grind))
 .have hA:∀r∈rs.map nd,0<r.2:=λr hr=>by
   obtain⟨x,_,rfl⟩:=List.mem_map.1 hr;exact XI x
  have t1:=OU E0.hf;have t2:=Aq C;rw[(wR (by omega) _ hA).1,List.length_map]at t1;have hrs:rs=[]:=List.length_eq_zero_iff.1 (by omega);subst hrs;exact⟨0,[],⟨fr,a0E F hF (by omega),λs hs=>by simp at hs,Nat.le_refl _,by omega,by simp⟩,trivial⟩
theorem a5h {x:Rat}{k:Nat}(hq:qz x<=2^20)(hk:k<=1048576):a8Q (cfl x k,cpt x k):=by
 have hn:zl x.num<=2^20:=Nat.le_trans (Nat.le_max_left _ _) hq;have h1:=Ap hn (by omega:k<=64*16384);have h2:zl (cfl x k)<=zl (x.num*2^k):=by
  rw[(Zl x k).1];refine dR.mpr ?_;have h3:(x.num*2^k).natAbs<W^zl (x.num*2^k):=dR.mp (Nat.le_refl _);generalize x.num*2^k=y at *;have h4:(y/(x.den:Int)).natAbs<=y.natAbs:=Int.natAbs_ediv_le_natAbs y x.den;omega
 have h3:=nT (cfl x k) 1;have z1:zl 1<=1:=dR.mpr (by decide);exact⟨by show zl (cfl x k)<=_;omega,by show zl (cfl x k+1)<=_;omega⟩
def cells (rs:List Rat)(k:Nat):List (Int×Bool):=rs.map λx=>(cfl x k,cpt x k)
theorem Zp {x y:Rat}{k:Nat}(hk:21<=k)(h:1<=(y-x)*1000000):chi (cfl x k,cpt x k)<cfl y k:=by
 have hp:(2097152:Rat)<=p2 (k:Int):=by
  have:=Xw (show (21:Int)<=(k:Int) by omega);have e:p2 21=2097152:=by decide +kernel
  rwa [e]at this
 have hx1:=Rat.lt_floor_add_one (a:=x*p2 k);have hy1:=Rat.lt_floor_add_one (a:=y*p2 k);have hx0:=Rat.floor_le (a:=x*p2 k);have key:2<(y-x)*p2 k:=by
  have h0:0<y-x:=by grind
  have h1:=Rat.mul_nonneg (Rat.le_of_lt h0) (show 0<=p2 (k:Int)-2097152 by grind)
  grind
 have big:((cfl x k:Int):Rat)+2<((cfl y k:Int):Rat)+1:=by
  show (((x*p2 k).floor:Int):Rat)+2<(((y*p2 k).floor:Int):Rat)+1
  grind
 have bi:cfl x k+2<cfl y k+1:=by
  have:((cfl x k+2:Int):Rat)<((cfl y k+1:Int):Rat):=by
   rw[Rat.intCast_add,Rat.intCast_add];exact big
  exact_mod_cast this
 unfold chi;simp only;split<;>omega
theorem ER {b:Nat->Bool}:∀(d k0:Nat),b (k0+d)=true->∃K,k0<=K/\K<=k0+d/\b K=true/\∀k,k0<=k->k<K->b k=false
 |0,k0,h=>⟨k0,Nat.le_refl _,Nat.le_refl _,h,λk h1 h2=>by omega⟩
 |d+1,k0,h=>by
  cases hb:b k0 with
  |true=>exact⟨k0,Nat.le_refl _,by omega,hb,λk h1 h2=>by omega⟩
  |false =>
   obtain⟨K,a1,a2,a3,a4⟩:=ER d (k0+1) (by rw[show k0+1+d=k0+(d+1) by omega];exact h);refine⟨K,by omega,by omega,a3,λk h1 h2=>?_⟩;by_cases e:k=k0
   .rw[e];exact hb
   .exact a4 k (by omega) h2
theorem a0D {p:List RI}{rs:List Rat}(h:WdP p rs)(k:Nat):∃b:Bool,k<=1048576->AC Tryz.prog 32 [.iv (.sl (jg k (cells rs k)))] none [cb b,ci 0]/\(21<=k->b=true):=by
 by_cases hk:k<=1048576
 .obtain⟨C,E0⟩:=h.env;have hl:(cells rs k).length=rs.length:=by simp[cells]
  have hlen:=h.len;obtain⟨b,h1,h2⟩:=Lr k (cells rs k) (by omega) (by omega) (by omega) (λc hc=>by
   obtain⟨x,hx,rfl⟩:=List.mem_map.1 hc;exact a5h (h.q x hx) hk)
  refine⟨b,λ_=>⟨h1,λh21=>h2 λi hi=>?_⟩⟩;have hi':i+1<rs.length:=by omega
  have g:∀j,j<rs.length->(cells rs k).getD j (0,false)=(cfl (rs.getD j 0) k,cpt (rs.getD j 0) k):=λj hj=>by simp[cells,List.getD,hj]
  rw[g i (by omega),g (i+1) hi'];refine Zp h21 (E0.far _ (uN (by omega) 0) _ (uN hi' 0) ?_);have:=List.pairwise_iff_getElem.1 E0.rise i (i+1) (by omega) hi' (by omega);simpa [List.getD,hi',show i<rs.length by omega] using this
 .exact⟨true,λh=>(hk h).elim⟩
structure b5Q (p:List RI) (rs:List Rat) (w:RQ):Prop where
 zero:nv w.2=0->ACG Tryz.prog yH 5 [cw p,cqq w] [.iv (.sl []),ci 1]
 low:nv w.2≠0->iv w.1<=0->ACG Tryz.prog yH 5 [cw p,cqq w] [.iv (.sl []),ci 9]
 big:nv w.2≠0->0<iv w.1->1048576<fkn (nv w.2) (nv w.1.2)->ACG Tryz.prog yH 5 [cw p,cqq w] [.iv (.sl []),ci 13]
 ok:nv w.2≠0->0<iv w.1->fkn (nv w.2) (nv w.1.2)<=1048576->∃(b:Nat->Bool) (K:Nat),fkn (nv w.2) (nv w.1.2)<=K/\K<=1048576/\K<=fkn (nv w.2) (nv w.1.2)+21/\b K=true/\(∀k,fkn (nv w.2) (nv w.1.2)<=k->k<K->b k=false) /\
  (∀k:Nat,k<=1048576->AC Tryz.prog 32 [.iv (.sl (jg k (cells rs k)))] none [cb (b k),ci 0])/\ACG Tryz.prog yH 5 [cw p,cqq w] [.iv (.sl (jg K (cells rs K))),ci 0]
theorem WdP.iso {p:List RI}{rs:List Rat}(h:WdP p rs)(w:RQ)(hw:SzQ (2^20) w):b5Q p rs w:=by
 obtain⟨E,res,hA,hH⟩:=h.ans;obtain⟨C,E0⟩:=h.env;refine⟨λh0=>Bv (rows:=[]) (ZJ hA w 1 (by decide) (YC w hw h0)),λh0 hs=>Bv (rows:=[]) (ZJ hA w 9 (by decide) (a2N w hw h0 hs)),λh0 hs hb=>Bv (rows:=[]) (a8u hA w _ hb (Ot w hw h0 hs)),λh0 hs hb=>?_⟩;have hf:=Ot w hw h0 hs;generalize fkn (nv w.2) (nv w.1.2)=k0 at *;obtain⟨b,hbb⟩:=Classical.skolem.1 (a0D h);have hk:∃d,k0+d<=1048576/\d<=21/\21<=k0+d:=⟨21-k0,by omega,by omega,by omega⟩;obtain⟨d,d1,d2,d3⟩:=hk;obtain⟨K,a1,a2,a3,a4⟩:=ER (b:=b) d k0 ((hbb _ d1).2 d3);refine⟨b,K,a1,by omega,by omega,a3,a4,λk hk=>(hbb k hk).1,?_⟩;have e:∀k:Nat,res.map (λs=>pc s k)=cells rs k:=λk=>hH.pcs E0 k
 have an:=a5k hA w k0 K a1 (by omega) hf b (λk _ hk=>by rw[e];exact(hbb k (by omega)).1) a3 a4;rw[e]at an;exact Bv an
def P2l:List Int:=[-2,0,1]
theorem b0o:frd P2l=P2l:=by decide +kernel
theorem b0k:(rst (aV P2l) ((aV P2l).length-1)).1=2:=by decide +kernel
theorem b0j (a b c:Int)(ha:a.natAbs<W)(hb:b.natAbs<W)(hc:c.natAbs<W):SBd 1 [a,b,c]:=λk=>by
 match k with
 |0=>exact dR.mpr (by rw[Nat.pow_one];exact ha)
 |1=>exact dR.mpr (by rw[Nat.pow_one];exact hb)
 |2=>exact dR.mpr (by rw[Nat.pow_one];exact hc)
 |k+3=>show zl 0<=1;rw[fA];omega
theorem b2H:Kn P2l [1] 2 1:=by
 refine⟨⟨by decide,P2l,aP P2l,by rw[kR,PS.one_mul],by rw[kR,PS.one_mul],by decide +kernel,by decide +kernel⟩,b0j _ _ _ (by decide) (by decide) (by decide),?_,by decide +kernel,by decide,?_⟩
 .intro k
  match k with
  |0=>exact dR.mpr (by rw[Nat.pow_one];decide)
  |1=>exact dR.mpr (by rw[Nat.pow_one];decide)
  |k+2=>show zl 0<=1;rw[fA];omega
 .have:=YD (S:=1) (n:=2) (by omega) (by omega);omega
def r2l:List Sp:=[⟨-1,-(2:Nat),false,a2x 2 P2l⟩,⟨0,-(2:Nat),false,Ob 2 P2l⟩]
theorem b2J:(⟨-1,-(2:Nat),false,a2x 2 P2l⟩:Sp).ch=1:=by decide +kernel
theorem b2K:(⟨0,-(2:Nat),false,Ob 2 P2l⟩:Sp).ch=1:=by decide +kernel
theorem b2I:¬(⟨0,0,true,[]⟩:Sp).hz P2l:=by
 show ¬er P2l (((0:Int):Rat)*p2 (-0))=0
 decide +kernel
theorem a4y:MW P2l 3 (ini 2 P2l) r2l:=.one rfl b2J (.no rfl b2I (.one rfl b2K .nil))
theorem b0m:r2l.map (λs=>pc s (1:Nat))=[(-3,false),(2,false)]:=by decide +kernel
theorem b0l:RP 12 (2^9) (cn P2l):=oQ (by decide +kernel) ((b0j (-2) 0 1 (by decide) (by decide) (by decide)).mono (by omega))
theorem b0q:b1N (P2l.map canon) P2l (2^20) 2 r2l:=by
 have epv:pv (P2l.map canon)=P2l:=gW _;have fr:=PU (P2l.map canon) (P:=P2l) (by rw[epv]) (S:=1) (.canon ⟨by decide,λz hz=>by
  simp only[P2l,List.mem_cons,List.not_mem_nil,or_false]at hz;rcases hz with rfl|rfl|rfl<;>exact dR.mpr (by rw[Nat.pow_one];decide)⟩) b2H
 rw[b0o]at fr;have hS:=a4K (E:=2) b0l (by decide +kernel) (by omega);exact⟨fr,Vy P2l 2 (2^20) 3 r2l b0l (by decide +kernel) (by rw[b0k];rfl) (by omega) (Nat.le_refl _) a4y hS (by decide),Yd a4y hS,Nat.le_refl _,by omega,by decide⟩
theorem a0F:nv (uf 1).2=1/\nv (uf 1).1.2=1/\iv (uf 1).1=1:=by decide +kernel
theorem a7G:fkn 1 1=1:=by decide +kernel
theorem b0p:∀c∈[((-3:Int),false),(2,false)],a8Q c:=λc hc=>by
 simp only[List.mem_cons,List.not_mem_nil,or_false]at hc;rcases hc with rfl|rfl
 .exact⟨Nat.le_trans (dR.mpr (by decide):zl (-3)<=1) (by omega),Nat.le_trans (dR.mpr (by decide):zl (-3+1)<=1) (by omega)⟩
 .exact⟨Nat.le_trans (dR.mpr (by decide):zl 2<=1) (by omega),Nat.le_trans (dR.mpr (by decide):zl (2+1)<=1) (by omega)⟩
theorem U8:ACG Tryz.prog yH 5 [cw (P2l.map canon),cqz 1] [.iv (.sl (jg 1 [(-3,false),(2,false)])),ci 0]:=by
 obtain⟨u1,u2,u3⟩:=a0F;have sw:SzQ (2^20) (uf 1):=(Nk 1).mono (by
  have:qz 1<=1:=by decide +kernel
  omega)
 have hf:=Ot (uf 1) sw (by rw[u1];decide) (by rw[u3];decide);rw[u1,u2,a7G]at hf;obtain⟨b1,h1,h2⟩:=Lr 1 [(-3,false),(2,false)] (by omega) (by omega) (by decide) b0p;have hb1:b1=true:=h2 λi hi=>by
  have:i=0:=by simp at hi;omega
  subst this
  decide
 subst hb1;have an:=a5k b0q (uf 1) 1 1 (Nat.le_refl _) (by omega) hf (λ_=>true) (λk g1 g2=>by
  obtain rfl:k=1:=by omega
  rw[b0m];exact h1) rfl (λk g1 g2=>by omega)
 rw[b0m]at an;exact Bv an
set_option linter.defProp false
theorem spk (a b c d:IV)(p:List RI)(l:List RQ)(ts:List Int)(ok:Bool):splice [a,b,c,d] 0 (knr p l ts ok)=knr p l ts ok:=rfl
theorem b5p (p:List RI)(l:List RQ)(ts:List Int)(ok:Bool):(knr p l ts ok).getD 3 default=.bool ok:=rfl
def kn:=And.intro knl (And.intro kn0 (And.intro kn1 (And.intro kn2 (And.intro b5p spk))))
theorem a6q:((1:Int):Rat)/((1:Int):Rat)=1:=by decide +kernel
set_option maxRecDepth 4000 in
theorem Zo (lead:Int)(rs:List (Int×Int×Int))(qs:List (Int×Int))(w:RQ)(hrs:rs.length<=1048576)(hqs:qs.length<=1048576)(hw:SzQ 1048576 w):ACG Tryz.prog yH 3 [.agg (a4b lead rs qs),cqq w] [cb true]:=by
 obtain⟨p,l,ts,hp,wd⟩:=a0C lead rs qs;have bu:=a3l lead rs qs (by omega) (by omega);injection hp with hp hl;injection hl with hl ht;rw[<-hp,<-hl,<-ht]at bu;clear hp hl ht;have un:=a4s 1 1 (by omega) (by omega) (by omega) (by omega) (by decide);rw[a6q]at un;have t1:=Gg [-2,0,1] (by simp) (λz hz=>by
  simp only[List.mem_cons,List.not_mem_nil,or_false]at hz;rcases hz with rfl|rfl|rfl<;>omega)
 have i1:=U8;rw[show P2l=[-2,0,1] from rfl]at i1;have sq:=a0P;have se:=JF 1 [(-3,false),(2,false)] (by decide) b0p;obtain⟨D,n,S,kw⟩:=wd.kw;have cz:=a2W p (Nat.le_trans kw.rp.1 (by decide)) (λc hc=>Nat.le_trans (kw.rp.2 c hc).1 (by have:=kw.s40;omega));have cw_:=mO w (Nat.le_trans hw.1.1 (by decide)) (Nat.le_trans hw.2.1 (by decide));have mw:=a2g w (Nat.le_trans hw.2.1 (by decide));have ia:=wd.iso w (hw.mono (by decide));simp only[a4b]at bu ⊢;simp only[List.map_cons,List.map_nil]at t1 i1;by_cases h0:nv w.2=0
 .have is:=ia.zero h0;rw[decide_eq_false (λh=>h h0)]at mw;refine ACG.aF zi0 (rs:=[.tmp 4]) bM Tryz.func3 (by rfl) (by rfl) (by rfl) (by rfl) (by rfl) ?_;simp (disch:=omega) only[wt,seval,reduceCtorEq,Nat.reduceEqDiff,aj,rqs,wz];refine au (un) (by rfl) (by simp) ?_;simp (disch:=omega) only[wt,seval,reduceCtorEq,Nat.reduceEqDiff,aj,rqs,wz];refine .inl ⟨aZ (by kernel_rfl),?_⟩;refine au (t1) (by rfl) (by simp) ?_;simp (disch:=omega) only[wt,seval,reduceCtorEq,Nat.reduceEqDiff,aj,rqs,wz];refine kX (i1) (by first|rfl|(simp only[aA,aj,Nat.reduceEqDiff,reduceIte];try rfl)) (by first|rfl|(simp only[aA,aj,Nat.reduceEqDiff,reduceIte];try rfl)) (by first|rfl|(simp only[List.map_cons,List.map_nil,CV.av])) (by simp[gK]) ?_;simp (disch:=omega) only[wt,seval,reduceCtorEq,Nat.reduceEqDiff,aj,rqs,wz]
  first|exact aN (by kernel_rfl)|refine⟨aN (by kernel_rfl),?_⟩
  refine au (sq) (by rfl) (by simp) ?_;simp (disch:=omega) only[wt,seval,reduceCtorEq,Nat.reduceEqDiff,aj,rqs,wz];refine au (se) (by rfl) (by simp) ?_;simp (disch:=omega) only[wt,seval,reduceCtorEq,Nat.reduceEqDiff,aj,rqs,wz];refine au (bu) (by first|rfl|(simp only[aH,bn,aB,aI,aA,Nat.reduceEqDiff,↓reduceIte,kn];rfl)) (by simp) ?_;simp (disch:=omega) only[wt,seval,reduceCtorEq,Nat.reduceEqDiff,aj,rqs,wz,kn];refine .inl ⟨aZ (by kernel_rfl),?_⟩;refine au (cz) (by first|rfl|(simp only[aH,bn,aB,aI,aA,Nat.reduceEqDiff,↓reduceIte,kn];rfl)) (by simp) ?_;simp (disch:=omega) only[wt,seval,reduceCtorEq,Nat.reduceEqDiff,aj,rqs,wz,kn];refine au (cw_) (by first|rfl|(simp only[aH,bn,aB,aI,aA,Nat.reduceEqDiff,↓reduceIte,kn];rfl)) (by simp) ?_;simp (disch:=omega) only[wt,seval,reduceCtorEq,Nat.reduceEqDiff,aj,rqs,wz,kn];refine kX (is) (by first|rfl|(simp only[aA,aj,Nat.reduceEqDiff,reduceIte,kn];try rfl)) (by first|rfl|(simp only[aA,aj,Nat.reduceEqDiff,reduceIte,kn];try rfl)) (by first|rfl|(simp only[List.map_cons,List.map_nil,CV.av,kn])) (by simp[gK]) ?_;simp (disch:=omega) only[wt,seval,reduceCtorEq,Nat.reduceEqDiff,aj,rqs,wz,kn]
  first|exact aN (by kernel_rfl)|refine⟨aN (by kernel_rfl),?_⟩
  refine au (mw) (by first|rfl|(simp only[aH,bn,aB,aI,aA,Nat.reduceEqDiff,↓reduceIte,kn];rfl)) (by simp) ?_;simp (disch:=omega) only[wt,seval,reduceCtorEq,Nat.reduceEqDiff,aj,rqs,wz,kn]
 .rw[decide_eq_true h0]at mw;have sg:=wU w (hw.mono (by decide)) h0;by_cases hs:iv w.1<=0
  .have is:=ia.low h0 hs;have hx:(iv w.1).sign<=0:=Ws hs;generalize (iv w.1).sign=x at *;refine ACG.aF zi0 (rs:=[.tmp 4]) bM Tryz.func3 (by rfl) (by rfl) (by rfl) (by rfl) (by rfl) ?_;simp (disch:=omega) only[wt,seval,reduceCtorEq,Nat.reduceEqDiff,aj,rqs,wz];refine au (un) (by rfl) (by simp) ?_;simp (disch:=omega) only[wt,seval,reduceCtorEq,Nat.reduceEqDiff,aj,rqs,wz];refine .inl ⟨aZ (by kernel_rfl),?_⟩;refine au (t1) (by rfl) (by simp) ?_;simp (disch:=omega) only[wt,seval,reduceCtorEq,Nat.reduceEqDiff,aj,rqs,wz];refine kX (i1) (by first|rfl|(simp only[aA,aj,Nat.reduceEqDiff,reduceIte];try rfl)) (by first|rfl|(simp only[aA,aj,Nat.reduceEqDiff,reduceIte];try rfl)) (by first|rfl|(simp only[List.map_cons,List.map_nil,CV.av])) (by simp[gK]) ?_;simp (disch:=omega) only[wt,seval,reduceCtorEq,Nat.reduceEqDiff,aj,rqs,wz]
   first|exact aN (by kernel_rfl)|refine⟨aN (by kernel_rfl),?_⟩
   refine au (sq) (by rfl) (by simp) ?_;simp (disch:=omega) only[wt,seval,reduceCtorEq,Nat.reduceEqDiff,aj,rqs,wz];refine au (se) (by rfl) (by simp) ?_;simp (disch:=omega) only[wt,seval,reduceCtorEq,Nat.reduceEqDiff,aj,rqs,wz];refine au (bu) (by first|rfl|(simp only[aH,bn,aB,aI,aA,Nat.reduceEqDiff,↓reduceIte,kn];rfl)) (by simp) ?_;simp (disch:=omega) only[wt,seval,reduceCtorEq,Nat.reduceEqDiff,aj,rqs,wz,kn];refine .inl ⟨aZ (by kernel_rfl),?_⟩;refine au (cz) (by first|rfl|(simp only[aH,bn,aB,aI,aA,Nat.reduceEqDiff,↓reduceIte,kn];rfl)) (by simp) ?_;simp (disch:=omega) only[wt,seval,reduceCtorEq,Nat.reduceEqDiff,aj,rqs,wz,kn];refine au (cw_) (by first|rfl|(simp only[aH,bn,aB,aI,aA,Nat.reduceEqDiff,↓reduceIte,kn];rfl)) (by simp) ?_;simp (disch:=omega) only[wt,seval,reduceCtorEq,Nat.reduceEqDiff,aj,rqs,wz,kn];refine kX (is) (by first|rfl|(simp only[aA,aj,Nat.reduceEqDiff,reduceIte,kn];try rfl)) (by first|rfl|(simp only[aA,aj,Nat.reduceEqDiff,reduceIte,kn];try rfl)) (by first|rfl|(simp only[List.map_cons,List.map_nil,CV.av,kn])) (by simp[gK]) ?_;simp (disch:=omega) only[wt,seval,reduceCtorEq,Nat.reduceEqDiff,aj,rqs,wz,kn]
   first|exact aN (by kernel_rfl)|refine⟨aN (by kernel_rfl),?_⟩
   refine au (mw) (by first|rfl|(simp only[aH,bn,aB,aI,aA,Nat.reduceEqDiff,↓reduceIte,kn];rfl)) (by simp) ?_;simp (disch:=omega) only[wt,seval,reduceCtorEq,Nat.reduceEqDiff,aj,rqs,wz,kn];refine au (cw_) (by first|rfl|(simp only[aH,bn,aB,aI,aA,Nat.reduceEqDiff,↓reduceIte,kn];rfl)) (by simp) ?_;simp (disch:=omega) only[wt,seval,reduceCtorEq,Nat.reduceEqDiff,aj,rqs,wz,kn];refine au (sg) (by first|rfl|(simp only[aH,bn,aB,aI,aA,Nat.reduceEqDiff,↓reduceIte,kn];rfl)) (by simp) ?_;simp (disch:=omega) only[wt,seval,reduceCtorEq,Nat.reduceEqDiff,aj,rqs,wz,kn];refine bU (λhlt=>?_) (λhlt=>?_)
   .simp (disch:=omega) only[wt,seval,reduceCtorEq,Nat.reduceEqDiff,aj,rqs,wz,kn]
    try rfl
   .omega
  .have hs':0<iv w.1:=by omega
   rw[Int.sign_eq_one_of_pos hs']at sg;by_cases hb:1048576<fkn (nv w.2) (nv w.1.2)
   .have is:=ia.big h0 hs' hb;have ex:=a7K w (hw.mono (by decide)) h0 hs' hb;refine ACG.aF zi0 (rs:=[.tmp 4]) bM Tryz.func3 (by rfl) (by rfl) (by rfl) (by rfl) (by rfl) ?_;simp (disch:=omega) only[wt,seval,reduceCtorEq,Nat.reduceEqDiff,aj,rqs,wz];refine au (un) (by rfl) (by simp) ?_;simp (disch:=omega) only[wt,seval,reduceCtorEq,Nat.reduceEqDiff,aj,rqs,wz];refine .inl ⟨aZ (by kernel_rfl),?_⟩;refine au (t1) (by rfl) (by simp) ?_;simp (disch:=omega) only[wt,seval,reduceCtorEq,Nat.reduceEqDiff,aj,rqs,wz];refine kX (i1) (by first|rfl|(simp only[aA,aj,Nat.reduceEqDiff,reduceIte];try rfl)) (by first|rfl|(simp only[aA,aj,Nat.reduceEqDiff,reduceIte];try rfl)) (by first|rfl|(simp only[List.map_cons,List.map_nil,CV.av])) (by simp[gK]) ?_;simp (disch:=omega) only[wt,seval,reduceCtorEq,Nat.reduceEqDiff,aj,rqs,wz]
    first|exact aN (by kernel_rfl)|refine⟨aN (by kernel_rfl),?_⟩
    refine au (sq) (by rfl) (by simp) ?_;simp (disch:=omega) only[wt,seval,reduceCtorEq,Nat.reduceEqDiff,aj,rqs,wz];refine au (se) (by rfl) (by simp) ?_;simp (disch:=omega) only[wt,seval,reduceCtorEq,Nat.reduceEqDiff,aj,rqs,wz];refine au (bu) (by first|rfl|(simp only[aH,bn,aB,aI,aA,Nat.reduceEqDiff,↓reduceIte,kn];rfl)) (by simp) ?_;simp (disch:=omega) only[wt,seval,reduceCtorEq,Nat.reduceEqDiff,aj,rqs,wz,kn];refine .inl ⟨aZ (by kernel_rfl),?_⟩;refine au (cz) (by first|rfl|(simp only[aH,bn,aB,aI,aA,Nat.reduceEqDiff,↓reduceIte,kn];rfl)) (by simp) ?_;simp (disch:=omega) only[wt,seval,reduceCtorEq,Nat.reduceEqDiff,aj,rqs,wz,kn];refine au (cw_) (by first|rfl|(simp only[aH,bn,aB,aI,aA,Nat.reduceEqDiff,↓reduceIte,kn];rfl)) (by simp) ?_;simp (disch:=omega) only[wt,seval,reduceCtorEq,Nat.reduceEqDiff,aj,rqs,wz,kn];refine kX (is) (by first|rfl|(simp only[aA,aj,Nat.reduceEqDiff,reduceIte,kn];try rfl)) (by first|rfl|(simp only[aA,aj,Nat.reduceEqDiff,reduceIte,kn];try rfl)) (by first|rfl|(simp only[List.map_cons,List.map_nil,CV.av,kn])) (by simp[gK]) ?_;simp (disch:=omega) only[wt,seval,reduceCtorEq,Nat.reduceEqDiff,aj,rqs,wz,kn]
    first|exact aN (by kernel_rfl)|refine⟨aN (by kernel_rfl),?_⟩
    refine au (mw) (by first|rfl|(simp only[aH,bn,aB,aI,aA,Nat.reduceEqDiff,↓reduceIte,kn];rfl)) (by simp) ?_;simp (disch:=omega) only[wt,seval,reduceCtorEq,Nat.reduceEqDiff,aj,rqs,wz,kn];refine au (cw_) (by first|rfl|(simp only[aH,bn,aB,aI,aA,Nat.reduceEqDiff,↓reduceIte,kn];rfl)) (by simp) ?_;simp (disch:=omega) only[wt,seval,reduceCtorEq,Nat.reduceEqDiff,aj,rqs,wz,kn];refine au (sg) (by first|rfl|(simp only[aH,bn,aB,aI,aA,Nat.reduceEqDiff,↓reduceIte,kn];rfl)) (by simp) ?_;simp (disch:=omega) only[wt,seval,reduceCtorEq,Nat.reduceEqDiff,aj,rqs,wz,kn];refine au (cw_) (by first|rfl|(simp only[aH,bn,aB,aI,aA,Nat.reduceEqDiff,↓reduceIte,kn];rfl)) (by simp) ?_;simp (disch:=omega) only[wt,seval,reduceCtorEq,Nat.reduceEqDiff,aj,rqs,wz,kn];refine au (ex) (by first|rfl|(simp only[aH,bn,aB,aI,aA,Nat.reduceEqDiff,↓reduceIte,kn];rfl)) (by simp) ?_;simp (disch:=omega) only[wt,seval,reduceCtorEq,Nat.reduceEqDiff,aj,rqs,wz,kn]
   .obtain⟨b,K,k1,k2,k3,k4,k5,k6,is⟩:=ia.ok h0 hs' (by omega);have ex:=b0X w (hw.mono (by decide)) h0 hs' (by omega);generalize fkn (nv w.2) (nv w.1.2)=t0 at *;refine ACG.aF zi0 (rs:=[.tmp 4]) bM Tryz.func3 (by rfl) (by rfl) (by rfl) (by rfl) (by rfl) ?_;simp (disch:=omega) only[wt,seval,reduceCtorEq,Nat.reduceEqDiff,aj,rqs,wz];refine au (un) (by rfl) (by simp) ?_;simp (disch:=omega) only[wt,seval,reduceCtorEq,Nat.reduceEqDiff,aj,rqs,wz];refine .inl ⟨aZ (by kernel_rfl),?_⟩;refine au (t1) (by rfl) (by simp) ?_;simp (disch:=omega) only[wt,seval,reduceCtorEq,Nat.reduceEqDiff,aj,rqs,wz];refine kX (i1) (by first|rfl|(simp only[aA,aj,Nat.reduceEqDiff,reduceIte];try rfl)) (by first|rfl|(simp only[aA,aj,Nat.reduceEqDiff,reduceIte];try rfl)) (by first|rfl|(simp only[List.map_cons,List.map_nil,CV.av])) (by simp[gK]) ?_;simp (disch:=omega) only[wt,seval,reduceCtorEq,Nat.reduceEqDiff,aj,rqs,wz]
    first|exact aN (by kernel_rfl)|refine⟨aN (by kernel_rfl),?_⟩
    refine au (sq) (by rfl) (by simp) ?_;simp (disch:=omega) only[wt,seval,reduceCtorEq,Nat.reduceEqDiff,aj,rqs,wz];refine au (se) (by rfl) (by simp) ?_;simp (disch:=omega) only[wt,seval,reduceCtorEq,Nat.reduceEqDiff,aj,rqs,wz];refine au (bu) (by first|rfl|(simp only[aH,bn,aB,aI,aA,Nat.reduceEqDiff,↓reduceIte,kn];rfl)) (by simp) ?_;simp (disch:=omega) only[wt,seval,reduceCtorEq,Nat.reduceEqDiff,aj,rqs,wz,kn];refine .inl ⟨aZ (by kernel_rfl),?_⟩;refine au (cz) (by first|rfl|(simp only[aH,bn,aB,aI,aA,Nat.reduceEqDiff,↓reduceIte,kn];rfl)) (by simp) ?_;simp (disch:=omega) only[wt,seval,reduceCtorEq,Nat.reduceEqDiff,aj,rqs,wz,kn];refine au (cw_) (by first|rfl|(simp only[aH,bn,aB,aI,aA,Nat.reduceEqDiff,↓reduceIte,kn];rfl)) (by simp) ?_;simp (disch:=omega) only[wt,seval,reduceCtorEq,Nat.reduceEqDiff,aj,rqs,wz,kn];refine kX (is) (by first|rfl|(simp only[aA,aj,Nat.reduceEqDiff,reduceIte,kn];try rfl)) (by first|rfl|(simp only[aA,aj,Nat.reduceEqDiff,reduceIte,kn];try rfl)) (by first|rfl|(simp only[List.map_cons,List.map_nil,CV.av,kn])) (by simp[gK]) ?_;simp (disch:=omega) only[wt,seval,reduceCtorEq,Nat.reduceEqDiff,aj,rqs,wz,kn]
    first|exact aN (by kernel_rfl)|refine⟨aN (by kernel_rfl),?_⟩
    refine au (mw) (by first|rfl|(simp only[aH,bn,aB,aI,aA,Nat.reduceEqDiff,↓reduceIte,kn];rfl)) (by simp) ?_;simp (disch:=omega) only[wt,seval,reduceCtorEq,Nat.reduceEqDiff,aj,rqs,wz,kn];refine au (cw_) (by first|rfl|(simp only[aH,bn,aB,aI,aA,Nat.reduceEqDiff,↓reduceIte,kn];rfl)) (by simp) ?_;simp (disch:=omega) only[wt,seval,reduceCtorEq,Nat.reduceEqDiff,aj,rqs,wz,kn];refine au (sg) (by first|rfl|(simp only[aH,bn,aB,aI,aA,Nat.reduceEqDiff,↓reduceIte,kn];rfl)) (by simp) ?_;simp (disch:=omega) only[wt,seval,reduceCtorEq,Nat.reduceEqDiff,aj,rqs,wz,kn];refine au (cw_) (by first|rfl|(simp only[aH,bn,aB,aI,aA,Nat.reduceEqDiff,↓reduceIte,kn];rfl)) (by simp) ?_;simp (disch:=omega) only[wt,seval,reduceCtorEq,Nat.reduceEqDiff,aj,rqs,wz,kn];refine au (ex) (by first|rfl|(simp only[aH,bn,aB,aI,aA,Nat.reduceEqDiff,↓reduceIte,kn];rfl)) (by simp) ?_;simp (disch:=omega) only[wt,seval,reduceCtorEq,Nat.reduceEqDiff,aj,rqs,wz,kn];have hlen:=wd.len;refine bF (λf H=>∃(k:Nat),t0<=k/\k<=K/\f 12=.iv (.int .i64 k)/\f 11=.iv (.int .i64 t0)/\f 7=.iv (.sl (jg K (cells l K)))/\f 9=.hp 9 1 0 0/\H 9=.blk false 1 46 4 [knr p (l.map uf) ts true]) (λf H=>(K+1-dQ f 12).toNat) ?_ ?_
    .refine⟨t0,by omega,by omega,?_⟩;simp (disch:=omega) only[wt,seval,reduceCtorEq,Nat.reduceEqDiff,aj,rqs,wz,kn]
    rintro f H ⟨k,hk1,hk2,hF⟩;rw[bC hF.1];simp (disch:=omega) only[wt,seval,reduceCtorEq,Nat.reduceEqDiff,aj,rqs,wz,hF];refine bU (λhlt=>?_) (λhlt=>?_)
    .have fi:=a7H l k (by omega) (by omega) wd.q (b k) (k6 k (by omega));rw[show (l.map λx=>(cfl x k,cpt x k))=cells l k from rfl]at fi;by_cases hkK:k=K
     .subst hkK;rw[k4]at fi;have sc:=JF k (cells l k) (by simp only[cells,List.length_map];omega) (λc hc=>by
       obtain⟨x,hx,rfl⟩:=List.mem_map.1 hc;exact a5h (wd.q x hx) k2)
      simp (disch:=omega) only[wt,seval,reduceCtorEq,Nat.reduceEqDiff,aj,rqs,wz,hF,kn];refine au (fi) (by first|rfl|(simp only[aH,bn,aB,aI,aA,Nat.reduceEqDiff,↓reduceIte,hF,kn];rfl)) (by simp) ?_;simp (disch:=omega) only[wt,seval,reduceCtorEq,Nat.reduceEqDiff,aj,rqs,wz,hF,kn];refine au (sc) (by first|rfl|(simp only[aH,bn,aB,aI,aA,Nat.reduceEqDiff,↓reduceIte,hF,kn];rfl)) (by simp) ?_;simp (disch:=omega) only[wt,seval,reduceCtorEq,Nat.reduceEqDiff,aj,rqs,wz,hF,kn]
      try rfl
     .rw[k5 k hk1 (by omega)]at fi;simp (disch:=omega) only[wt,seval,reduceCtorEq,Nat.reduceEqDiff,aj,rqs,wz,hF,kn];refine au (fi) (by first|rfl|(simp only[aH,bn,aB,aI,aA,Nat.reduceEqDiff,↓reduceIte,hF,kn];rfl)) (by simp) ?_;simp (disch:=omega) only[wt,seval,reduceCtorEq,Nat.reduceEqDiff,aj,rqs,wz,hF,kn];refine⟨⟨k+1,by omega,by omega,by omega⟩,by omega⟩
    .exfalso
     omega
end Go.Proofs.YtnhghmibjddlkaaGreatDoor
