/-
 Contracts of the functions that the law reaches.
-/
import Derived.Test.YtdpngipofekcfaaGreatL416M
import Derived.Test.YtdpngipofekcfaaGreatAbsZ3M
set_option maxHeartbeats 2000000
namespace Go.Proofs.YtdpngipofekcfaaGreat
open Go Go.Proofs Go.AL
set_option linter.unusedSimpArgs false
set_option linter.unusedVariables false
set_option linter.defProp false
structure PS where
 (ls fs ws is rs zf qf:List (List IV))
def pks:List Nat:=[999,900000,900001,900002,900003,900004,900005,900006,900007]
def PK (s:PS)(B:Nat)(H:AL.Hp):Prop:=∃ a1 a2 a3 a4 a5 a6 a7,H 900000=.nst 1 41 [.hs 900001 a1,.hs 900002 a2,.hs 900003 a3,.hs 900004 a4,.hs 900005 a5,.hs 900006 a6,.hs 900007 a7] ∧
 H 900001=.blk false a1 27 1 s.ls∧H 900002=.blk false a2 27 1 s.fs∧H 900003=.blk false a3 27 1 s.ws∧H 900004=.blk false a4 49 1 s.is∧H 900005=.blk false a5 22 1 s.rs∧H 900006=.blk false a6 49 1 s.zf∧H 900007=.blk false a7 22 1 s.qf∧H 999=.mrk B
theorem PK.congr {s:PS}{B:Nat}{H H':AL.Hp}(h:PK s B H)(e:∀ k∈pks,H' k=H k):PK s B H':=by
 obtain⟨a1,a2,a3,a4,a5,a6,a7,h⟩:=h;refine⟨a1,a2,a3,a4,a5,a6,a7,?_⟩;rw[e 900000 (by decide),e 900001 (by decide),e 900002 (by decide),e 900003 (by decide),e 900004 (by decide),e 900005 (by decide),e 900006 (by decide),e 900007 (by decide),e 999 (by decide)];exact h
theorem PK.upd {s:PS}{B:Nat}{H:AL.Hp}(h:PK s B H){k:Nat}(hk:k∉pks)(c:HC):PK s B (bg H k c):=h.congr fun j hj=>ak _ _ fun e=>hk (by rw[← e];exact hj)
theorem PK.hcin {s:PS}{B:Nat}{H:AL.Hp}(h:PK s B H):∀ k∈pks,a7E (·∈pks) (H k)∧(H k).esz=if k=999 then 0 else 1:=by
 obtain⟨a1,a2,a3,a4,a5,a6,a7,h0,h1,h2,h3,h4,h5,h6,h7,h9⟩:=h;intro k hk;simp only[pks,List.mem_cons,List.not_mem_nil,or_false]at hk;rcases hk with rfl|rfl|rfl|rfl|rfl|rfl|rfl|rfl|rfl
 ·rw[h9];exact⟨trivial,rfl⟩
 ·rw[h0];refine⟨fun x hx=>?_,rfl⟩;simp only[List.mem_cons,List.not_mem_nil,or_false]at hx;rcases hx with rfl|rfl|rfl|rfl|rfl|rfl|rfl<;>simp[yc,pks]
 ·rw[h1];exact⟨trivial,rfl⟩
 ·rw[h2];exact⟨trivial,rfl⟩
 ·rw[h3];exact⟨trivial,rfl⟩
 ·rw[h4];exact⟨trivial,rfl⟩
 ·rw[h5];exact⟨trivial,rfl⟩
 ·rw[h6];exact⟨trivial,rfl⟩
 ·rw[h7];exact⟨trivial,rfl⟩
def PKC (g:Nat)(avs:List AV)(s:PS)(B:Nat)(Q:AV→PS→Nat→Prop):Prop :=
 (∀ x∈avs,yc (·∈pks) x)∧(∀ x s' E,Q x s' E→yc (·∈pks) x)∧∀ H0,PK s B H0→(∀ k,k∉pks→H0 k=.none)→ACI Tryz.prog g avs H0 (fun x H1=>∃ s' E,Q x s' E∧PK s' E H1)
theorem PKC.acf {g:Nat}{avs:List AV}{s:PS}{B:Nat}{Q:AV→PS→Nat→Prop}(h:PKC g avs s B Q){H:AL.Hp}(hB:PK s B H):ACF Tryz.prog g avs H pks (fun x hs=>∃ H1,(∃ s' E,Q x s' E∧PK s' E H1)∧hs=pks.map fun k=>(k,H1 k)):=by
 refine ACI.frame h.1 (fun k hk=>(hB.hcin k hk).1) (h.2.2 _ (hB.congr fun k hk=>jV hk) fun k hk=>mO hk) ?_;rintro x H1 ⟨s',E,hq,hp⟩;exact⟨h.2.1 _ _ _ hq,fun k hk=>⟨(hp.hcin k hk).1,((hp.hcin k hk).2).trans (hB.hcin k hk).2.symm⟩⟩
theorem OL (H1:AL.Hp):(pks.map fun k=>(k,H1 k)).map (·.1)=pks:=rfl
theorem uI {g:Nat}{avs:List AV}{d:Nat}{K:AL.Fr→AL.Hp→Log→Prop}{f:AL.Fr}{H:AL.Hp}{lg:Log}{s:PS}{B:Nat}{Q:AV→PS→Nat→Prop}(h:PKC g avs s B Q)(hB:PK s B H)
  (hk:∀ x s' E H',Q x s' E→PK s' E H'→(∀ k,k∉pks→H' k=H k)→K (upd f d x) H' ((pks,pks)::lg)):jr Tryz.prog g avs d K f H lg:=by
 refine Ja (h.acf hB) ?_;rintro x _ ⟨H1,⟨s',E,hq,hp⟩,rfl⟩;rw[OL];refine⟨fun _ h=>h,by decide,hk x s' E _ hq (hp.congr fun k hk=>?_) fun k hk=>?_⟩
 ·rw[jf,if_pos hk]
 ·rw[jf,if_neg hk]
theorem MS {g:Nat}{avs:List AV}{v:Value}{d:Nat}{K:AL.Fr→AL.Hp→Log→Prop}{f:AL.Fr}{H:AL.Hp}{lg:Log}{s:PS}{B:Nat}{Q:AV→PS→Nat→Prop}(h:PKC g (.hp 900000 1 0 0::avs) s B Q)(hB:PK s B H)(ha:Anch 900000 900009 v H)
  (hk:∀ x s' E H',Q x s' E→PK s' E H'→(∀ k,k∉pks→H' k=H k)→K (upd f d x) H' ((900009::900010::900011::pks,pks)::lg)):jr Tryz.prog g (.hp 900009 1 0 0::avs) d K f H lg:=by
 obtain⟨a1,a2,a3,a4,a5,a6,a7,k0,-⟩:=id hB;refine Ja ((h.acf hB).anchor ha (by decide) (by rw[k0];rfl) (by rw[k0];rfl)) ?_;rintro x _ ⟨H1,⟨s',E,hq,hp⟩,rfl⟩;rw[OL];refine⟨by decide,by decide,hk x s' E _ hq (hp.congr fun k hk=>?_) fun k hk=>?_⟩
 ·rw[jf,if_pos hk]
 ·rw[jf,if_neg hk]
theorem YP {L L':Nat→Prop}(h:∀ k,L k→L' k){x:AV}(hx:yc L x):yc L' x:=by
 cases x<;>first|exact h _ hx|exact hx
theorem PKC.anch {g:Nat}{avs:List AV}{s:PS}{B:Nat}{Q:AV→PS→Nat→Prop}(ha:∀ x∈avs,yc (·∈pks) x)(hq:∀ x s' E,Q x s' E→yc (·∈pks) x)
  (h:∀ v H0,PK s B H0→Anch 900000 900009 v H0→ACI Tryz.prog g (.hp 900009 1 0 0::avs) H0 (fun x H1=>∃ s' E,Q x s' E∧PK s' E H1)):PKC g (.hp 900000 1 0 0::avs) s B Q:=by
 refine⟨fun x hx=>?_,hq,fun H0 hB hN=>?_⟩
 ·rcases List.mem_cons.1 hx with rfl|hx
  ·simp[yc,pks]
  ·exact ha x hx
 ·obtain⟨a1,a2,a3,a4,a5,a6,a7,k0,-⟩:=id hB;refine ACI.anchor (j:=900009) ⟨hN _ (by decide),hN _ (by decide),hN _ (by decide)⟩ (by rw[k0];rfl) (by rw[k0];rfl) (by decide) (fun x hx=>?_) fun v H' hA hs=>h v H' (hB.congr fun k hk=>hs k (fun e=>by subst e;exact absurd hk (by decide)) (fun e=>by subst e;exact absurd hk (by decide)) (fun e=>by subst e;exact absurd hk (by decide))) hA;exact YP (fun k hk=>⟨fun e=>by subst e;exact absurd hk (by decide),fun e=>by subst e;exact absurd hk (by decide),fun e=>by subst e;exact absurd hk (by decide)⟩) (ha x hx)
theorem Anch.upd {h j:Nat}{v:Value}{H:AL.Hp}(ha:Anch h j v H){k:Nat}(hk:k≠j∧k≠j+1∧k≠j+2)(c:HC):Anch h j v (bg H k c):=⟨by rw[ak _ _ (Ne.symm hk.1)];exact ha.1,by rw[ak _ _ (Ne.symm hk.2.1)];exact ha.2.1,by rw[ak _ _ (Ne.symm hk.2.2)];exact ha.2.2⟩
def PS.has (s:PS)(g:Nat):Prop:=g∈bf s.ls∨g∈bf s.fs∨g∈bf s.ws∨g∈bf s.is∨g∈bf s.rs∨g∈bf s.zf∨g∈bf s.qf
def EI (a:List Nat):List Nat:=a++[0,0,0,0,0]
def PS.lV (s:PS)(b:OB)(a:List Nat):PS:={ s with ls:=s.ls++[[jo b a]],fs:=s.fs++[[jo b (EI a)]],ws:=s.ws++[[.sl (bW (EI a))]] }
def Ze (s:PS)(B E:Nat)(b:OB):Prop:=∃ g cap,b=some (g,cap)∧g<E∧¬s.has g∧B≤g
theorem I9 (s:PS)(B:Nat):∃ H,PK s B H:=⟨fun k=>if k=900000 then .nst 1 41 [.hs 900001 1,.hs 900002 1,.hs 900003 1,.hs 900004 1,.hs 900005 1,.hs 900006 1,.hs 900007 1] else if k=900001 then .blk false 1 27 1 s.ls else if k=900002 then .blk false 1 27 1 s.fs else if k=900003 then .blk false 1 27 1 s.ws else if k=900004 then .blk false 1 49 1 s.is else if k=900005 then .blk false 1 22 1 s.rs else if k=900006 then .blk false 1 49 1 s.zf else if k=900007 then .blk false 1 22 1 s.qf else .mrk B,1,1,1,1,1,1,1,by simp⟩
set_option linter.defProp false
theorem FU:∀ (l:List Nat) (x:Nat),x∈l→x≤l.sum
 | [],x,hx=>by cases hx
 | y::ys,x,hx=>by
  simp only[List.sum_cons];rcases List.mem_cons.1 hx with rfl|hx
  ·omega
  ·have:=FU ys x hx;omega
theorem CS (s:PS)(B:Nat):∃ b E,B≤E∧Ze s B E b:=by
 obtain⟨n,hn⟩:∃ n,∀ g,s.has g→g≤n:=by
  refine⟨(bf s.ls).sum+(bf s.fs).sum+(bf s.ws).sum+(bf s.is).sum+(bf s.rs).sum+(bf s.zf).sum+(bf s.qf).sum,fun g hg=>?_⟩;rcases hg with h|h|h|h|h|h|h<;>(have:=FU _ _ h;omega)
 exact⟨some (max (n+1) B,0),max B (n+1)+1,by omega,max (n+1) B,0,rfl,by omega,fun h=>by have:=hn _ h;omega,by omega⟩
theorem nM (a:List Nat):(EI a).length=a.length+5:=by simp[EI]
theorem PK.mark {s:PS}{B:Nat}{H:AL.Hp}(h:PK s B H):H 999=.mrk B:=by
 obtain⟨a1,a2,a3,a4,a5,a6,a7,_,_,_,_,_,_,_,_,h9⟩:=h;exact h9
theorem a2y {H0 H:AL.Hp}(hN:∀ k,k∉pks→H0 k=.none){h:Nat}(hh:h∉pks)(he:∀ k,k≠h→H k=H0 k):∀ k,(H0 k).bV→k≠h∧(H k).stamp=(H0 k).stamp∧(H k).bV:=fun k hk=>by
 have hp:k∈pks:=Classical.byContradiction fun hn=>by rw[hN k hn]at hk;exact hk
 have h9:k≠h:=fun e=>hh (e▸hp)
 rw[he k h9];exact⟨h9,rfl,hk⟩
set_option maxRecDepth 8000 in
theorem a2Q (s:PS)(B:Nat)(a:List Nat)(ha:a.length≤2^40)(h1:s.ls.length≤100000)(h2:s.fs.length≤100000)(h3:s.ws.length≤100000):PKC 179 [.hp 900000 1 0 0,.iv (.sl (bW a))] s B (fun x s' E=>∃ b,x=.iv (jo b a)∧s'=s.lV b a∧Ze s B E b∧B≤E):=by
 refine⟨by simp[yc,pks],?_,fun H0 hB0 hN=>?_⟩
 ·rintro _ _ _ ⟨b,rfl,_⟩;trivial
 refine ACI.SS zi0 (.par (.par (.par (.opn .fin)))) B (rs:=[.tmp 4]) aX Tryz.func179 (by rfl) (by rfl) (by rfl) (by rfl) (by rfl) (by rfl) ?_ hB0.mark ?_
 ·obtain⟨b,E,hE,hb⟩:=CS s B;obtain⟨H,h⟩:=I9 (s.lV b a) E;exact⟨_,H,_,E,⟨b,rfl,rfl,hb,hE⟩,h⟩
 obtain⟨a1,a2,a3,a4,a5,a6,a7,k0,k1,k2,k3,k4,k5,k6,k7,k9⟩:=hB0;have e5:((a.length:Int)+5).toNat=a.length+5:=by omega
 have ed:a++List.drop a.length (List.replicate (a.length+5) 0)=EI a:=by
  rw[← List.replicate_append_replicate,List.drop_left' (by simp)];rfl
 simp (disch:=omega) only[wt,seval,sV,sZ,e5,ed];refine ND.low 9 ((H0 9).stamp+1) 148 1 (bW (EI a)) 998 (by simp only[wt,seval]) (a2y hN (by decide) fun k hk=>by repeat rw[ak _ _ hk]) (by simp only[wt,seval];exact hN _ (by decide)) ?_;rintro v hv;refine ND.opn 5 9 ((H0 9).stamp+1) 148 1 (bW (EI a)) B 998 v (by rfl) (by simp only[wt,seval]) (by simp only[wt,seval,k9]) (by simp only[wt,seval]) ?_;rintro b E hE hb hvb;refine ND.done ?_;have et:List.take a.length (EI a)=a:=by simp[EI]
 refine .inl ⟨aS (by kernel_rfl),?_⟩;simp (disch:=omega) only[wt,seval,List.set_cons_succ,k0,k1,k2,k3,nM,et];refine⟨bH (by kernel_rfl),?_⟩;refine tV (by simp only[wt,seval];try rfl) ⟨s.lV b a,E,⟨b,rfl,rfl,?_,hE⟩,a1+1,a2+1,a3+1,a4,a5,a6,a7,?_⟩
 ·cases b with
  | none=>exact absurd (congrArg List.length (hb.1 rfl)) (by rw[jX,nM];simp)
  | some p =>
   obtain⟨q1,q2,q3,q4,q5,q6⟩:=hb.2 p.1 p.2 rfl;refine⟨p.1,p.2,rfl,q1,?_,hv _ (hvb _ _ rfl)⟩;rintro(h|h|h|h|h|h|h)
   ·exact q5 900001 _ _ _ _ _ (by simp only[wt,seval,k1];try rfl) h
   ·exact q5 900002 _ _ _ _ _ (by simp only[wt,seval,k2];try rfl) h
   ·exact q5 900003 _ _ _ _ _ (by simp only[wt,seval,k3];try rfl) h
   ·exact q5 900004 _ _ _ _ _ (by simp only[wt,seval,k4];try rfl) h
   ·exact q5 900005 _ _ _ _ _ (by simp only[wt,seval,k5];try rfl) h
   ·exact q5 900006 _ _ _ _ _ (by simp only[wt,seval,k6];try rfl) h
   ·exact q5 900007 _ _ _ _ _ (by simp only[wt,seval,k7];try rfl) h
 ·simp only[wt,seval,k4,k5,k6,k7]
  try (repeat' apply And.intro)<;>first|rfl|omega
set_option linter.defProp false
theorem fZ {k:Nat}(h:k<999):k∉pks:=by
 simp only[pks,List.mem_cons,List.not_mem_nil,or_false,not_or];omega
theorem D5 (s:PS)(b:OB)(a:List Nat):(s.lV b a).ls.length=s.ls.length+1∧(s.lV b a).fs.length=s.fs.length+1∧(s.lV b a).ws.length=s.ws.length+1:=by simp[PS.lV]
set_option maxRecDepth 8000 in
theorem a6T (s:PS)(B:Nat)(c:RI)(ha:c.2.length≤2^40)(h1:s.ls.length≤100000)(h2:s.fs.length≤100000)(h3:s.ws.length≤100000):PKC 178 [.hp 900000 1 0 0,.agg (lQ c)] s B (fun x s' E=>∃ b,x=.agg [.bool c.1,jo b c.2]∧s'=s.lV b c.2∧Ze s B E b∧B≤E):=by
 refine⟨by simp[yc,pks],?_,fun H0 hB0 _=>?_⟩
 ·rintro _ _ _ ⟨b,rfl,_⟩;trivial
 refine ACI.aA zi0 (rs:=[.cell 4 30]) aX Tryz.func178 (by rfl) (by rfl) (by rfl) (by rfl) (by rfl) (by rfl) ?_ ?_
 ·obtain⟨b,E,hE,hb⟩:=CS s B;obtain⟨H,h⟩:=I9 (s.lV b c.2) E;exact⟨_,H,_,E,⟨b,rfl,rfl,hb,hE⟩,h⟩
 obtain⟨a1,a2,a3,a4,a5,a6,a7,k0,-⟩:=id hB0;simp (disch:=omega) only[wt,seval,k0];refine .inl ⟨aS (by kernel_rfl),?_⟩;refine uI (a2Q s B c.2 ha h1 h2 h3) (by repeat first|exact hB0|refine PK.upd ?_ (fZ (by decide)) _) ?_;rintro _ _ E H' ⟨b,rfl,rfl,hb,hE⟩ hp hk;have g3:=(hk 3 (fZ (by omega))).trans (by simp only[wt,seval];try rfl);have g4:=(hk 4 (fZ (by omega))).trans (by simp only[wt,seval];try rfl);simp (disch:=omega) only[wt,seval,dD,dh,g4];refine⟨bH (by kernel_rfl),?_⟩;refine⟨_,_,(by simp only[EK];simp only[wt,seval];rfl),(by simp only[seval];try rfl),_,E,⟨b,rfl,rfl,hb,hE⟩,hp.upd (fZ (by omega)) _⟩
theorem Ze.mono {s:PS}{B B' E E':Nat}{b:OB}(h:Ze s B E b)(hE:E≤E')(hB:B'≤B:=by omega):Ze s B' E' b:=by
 obtain⟨g,cap,rfl,h1,h2,h3⟩:=h;exact⟨g,cap,rfl,by omega,h2,by omega⟩
set_option maxRecDepth 8000 in
theorem a4m (s:PS)(B:Nat)(r:RQ)(ha:r.1.2.length≤2^40)(hb:r.2.length≤2^40)(h1:s.ls.length≤99999)(h2:s.fs.length≤99999)(h3:s.ws.length≤99999):PKC 84 [.hp 900000 1 0 0,.agg (nJ r)] s B (fun x s' E=>∃ b c,x=.agg (frq b c r)∧s'=(s.lV b r.1.2).lV c r.2∧Ze s B E b∧Ze (s.lV b r.1.2) B E c∧B≤E):=by
 refine PKC.anch (by simp[yc]) ?_ fun v H0 hB0 hA=>?_
 ·rintro _ _ _ ⟨b,c,rfl,_⟩;trivial
 refine ACI.aA zi0 (rs:=[.cell 4 32]) aX Tryz.func84 (by rfl) (by rfl) (by rfl) (by rfl) (by rfl) (by rfl) ?_ ?_
 ·obtain⟨b,E,hE,hb⟩:=CS s B;obtain⟨c,E2,hE2,hc⟩:=CS (s.lV b r.1.2) E;obtain⟨H,h⟩:=I9 ((s.lV b r.1.2).lV c r.2) E2;exact⟨_,H,_,E2,⟨b,c,rfl,rfl,hb.mono hE2,hc.mono (Nat.le_refl _),by omega⟩,h⟩
 obtain⟨a1,a2,a3,a4,a5,a6,a7,k0,-⟩:=id hB0;obtain⟨c1,c2,c3⟩:=id hA;simp (disch:=omega) only[wt,seval,rqs];refine .inr ⟨[0,1,2,4,5,6,7,8,3,9,10,11],[0,1,2,8,3,4,5,6,7,9,10,11],by kernel_rfl,aS (by kernel_rfl),?_⟩;simp only[kZ,a2r,List.map_cons,List.map_nil,List.getD_cons_zero,List.getD_cons_succ];simp (disch:=omega) only[wt,seval,rqs,c1];refine MS (v:=v) (a6T s B r.1 ha (by omega) (by omega) (by omega)) (by repeat first|exact hB0|refine PK.upd ?_ (fZ (by decide)) _) (by repeat first|exact hA|refine Anch.upd ?_ (by decide) _) ?_;rintro _ _ E1 H1 ⟨b,rfl,rfl,hb1,hE1⟩ hp1 hk;have g3:=(hk 3 (fZ (by omega))).trans (by simp only[wt,seval];try rfl);have g4:=(hk 4 (fZ (by omega))).trans (by simp only[wt,seval];try rfl);have hA1:Anch 900000 900009 v H1:=⟨(hk _ (by decide)).trans (by simp only[wt,seval,c1];try rfl),(hk _ (by decide)).trans (by simp only[wt,seval,c2];try rfl),(hk _ (by decide)).trans (by simp only[wt,seval,c3];try rfl)⟩;clear hk;have q:=D5 s b r.1.2;obtain⟨d1,d2,d3⟩:=id hA1;simp only[wt,seval];refine MS (v:=v) (a2Q (s.lV b r.1.2) E1 r.2 hb (by omega) (by omega) (by omega)) hp1 hA1 ?_;rintro _ _ E2 H2 ⟨c,rfl,rfl,hb2,hE2⟩ hp2 hk;have i3:=(hk 3 (fZ (by omega))).trans g3;have i4:=(hk 4 (fZ (by omega))).trans g4;simp (disch:=omega) only[wt,seval,dK,cO,i4];refine⟨bH (by kernel_rfl),?_⟩;refine⟨_,_,(by simp only[EK];simp only[wt,seval,bF];rfl),(by simp only[seval];try rfl),_,E2,⟨b,c,rfl,rfl,hb1.mono hE2,hb2.mono (Nat.le_refl _),by omega⟩,hp2.upd (fZ (by omega)) _⟩
set_option linter.defProp false
theorem LK (b:OB)(a:List Nat):bf [[jo b a]]=oid b:=by
 cases b<;>simp[bf,gX,IV.ids,xg,oid]
theorem Du (s:PS)(b:OB)(a:List Nat)(g:Nat):(s.lV b a).has g↔s.has g∨g∈oid b:=by
 simp only[PS.has,PS.lV,EN,LK,List.mem_append];have:g∈bf [[IV.sl (bW (EI a))]]↔False:=by simp[bf,gX,IV.ids,xg]
 rw[this];constructor
 ·intro h;simp only[or_false]at h;rcases h with (h|h)|(h|h)|h<;>simp[h]
 ·rintro(h|h)
  ·rcases h with h|h|h|h|h|h|h<;>simp[h]
  ·simp[h]
def PS.GX (s:PS)(b c:OB)(r:RQ):PS:=(s.lV b r.1.2).lV c r.2
def PS.dO (s:PS):List (OB×OB)→List RQ→PS
 | x::bs,r::p=>(s.GX x.1 x.2 r).dO bs p
 | _,_=>s
theorem CG:∀ (s:PS) {bs:List (OB×OB)} {p:List RQ} (h:bs.length=p.length) (b c:OB) (r:RQ),s.dO (bs++[(b,c)]) (p++[r])=(s.dO bs p).GX b c r
 | s,[],[],_,b,c,r=>rfl
 | s,x::bs,y::p,h,b,c,r=>by
  simp only[List.cons_append,PS.dO];exact CG _ (by simpa using h) b c r
theorem pF:∀ (s:PS) {bs:List (OB×OB)} {p:List RQ} (h:bs.length=p.length) (g:Nat),(s.dO bs p).has g↔s.has g∨g∈idq bs
 | s,[],[],_,g=>by simp[PS.dO,idq]
 | s,x::bs,y::p,h,g=>by
  rw[PS.dO,pF _ (by simpa using h) g,PS.GX,Du,Du];simp only[idq,List.flatMap_cons,List.mem_append];constructor
  ·rintro(((h|h)|h)|h)<;>simp[h]
  ·rintro(h|(h|h)|h)<;>simp[h]
theorem oQ:∀ (s:PS) {bs:List (OB×OB)} {p:List RQ} (h:bs.length=p.length),(s.dO bs p).ls.length=s.ls.length+2*p.length∧(s.dO bs p).fs.length=s.fs.length+2*p.length∧(s.dO bs p).ws.length=s.ws.length+2*p.length∧(s.dO bs p).rs=s.rs∧(s.dO bs p).qf=s.qf
 | s,[],[],_=>by simp[PS.dO]
 | s,x::bs,y::p,h=>by
  have ih:=oQ (s.GX x.1 x.2 y) (bs:=bs) (p:=p) (by simpa using h);have h1:=D5 s x.1 y.1.2;have h2:=D5 (s.lV x.1 y.1.2) x.2 y.2;rw[PS.dO];simp only[List.length_cons];refine⟨?_,?_,?_,ih.2.2.2.1,ih.2.2.2.2⟩
  ·rw[ih.1,PS.GX,h2.1,h1.1];omega
  ·rw[ih.2.1,PS.GX,h2.2.1,h1.2.1];omega
  ·rw[ih.2.2.1,PS.GX,h2.2.2,h1.2.2];omega
def NwP (s:PS)(C E:Nat)(bs:List (OB×OB)):Prop:=(idq bs).Nodup∧(∀ g∈idq bs,g<E∧¬s.has g∧C≤g)∧∀ x∈bs,x.1.isSome∧x.2.isSome
theorem NwP.snoc {s:PS}{C B E:Nat}{bs:List (OB×OB)}{p:List RQ}(hl:bs.length=p.length)(h:NwP s C B bs)(hE:B≤E)(hC:C≤B){b c:OB}{r:RQ}(hb:Ze (s.dO bs p) B E b)(hc:Ze ((s.dO bs p).lV b r.1.2) B E c):NwP s C E (bs++[(b,c)]):=by
 obtain⟨g,cap,rfl,g1,g2,g5⟩:=hb;obtain⟨g',cap',rfl,g3,g4,g6⟩:=hc;rw[pF s hl]at g2;rw[Du,pF s hl]at g4;have e:idq (bs++[(some (g,cap),some (g',cap'))])=idq bs++[g,g']:=by simp[idq,oid]
 have ho:oid (some (g,cap))=[g]:=rfl;rw[ho]at g4;simp only[List.mem_singleton,not_or]at g4 g2;refine⟨?_,?_,?_⟩
 ·rw[e,List.nodup_append];refine⟨h.1,by simpa using fun e=>g4.2 e.symm,fun x hx y hy e=>?_⟩;subst e;simp only[List.mem_cons,List.not_mem_nil,or_false]at hy;rcases hy with rfl|rfl
  ·exact g2.2 hx
  ·exact g4.1.2 hx
 ·intro x hx;rw[e]at hx;rcases List.mem_append.1 hx with hx|hx
  ·exact⟨by have:=(h.2.1 x hx).1;omega,(h.2.1 x hx).2⟩
  ·simp only[List.mem_cons,List.not_mem_nil,or_false]at hx;rcases hx with rfl|rfl
   ·exact⟨g1,g2.1,by omega⟩
   ·exact⟨g3,g4.1.1,by omega⟩
 ·intro x hx;rcases List.mem_append.1 hx with hx|hx
  ·exact h.2.2 x hx
  ·simp only[List.mem_singleton]at hx;subst hx;exact⟨rfl,rfl⟩
theorem set_mid {α:Type}(a:List α)(n:Nat)(x y:α):(a++List.replicate (n+1) x).set a.length y=a++[y]++List.replicate n x:=by
 rw[List.set_append_right _ _ (Nat.le_refl _),Nat.sub_self,List.replicate_succ,List.set_cons_zero,List.append_assoc];rfl
theorem take_snoc' (p:List RQ){i:Nat}(h:i<p.length):p.take (i+1)=p.take i++[p.getD i q0]:=by
 rw[List.take_add_one,List.getD,List.getElem?_eq_getElem h];rfl
theorem TM (a b c d:OB)(r q:RQ):splice (frq a b r) 0 (frq c d q)=frq c d q:=rfl
def nones (n:Nat):List (OB×OB):=List.replicate n (none,none)
def q0s (n:Nat):List RQ:=List.replicate n q0
theorem Gg {bs cs:List (OB×OB)}{l m:List RQ}(h:bs.length=l.length):aU bs l++aU cs m=aU (bs++cs) (l++m):=by
 rw[aU,aU,aU,List.zipWith_append h]
def PS.qIn (s:PS)(b:OB)(bs:List (OB×OB))(p:List RQ):PS:={ s.dO bs p with rs:=s.rs++[[fqp b bs p]],qf:=s.qf++[[fqp b (bs++nones 5) (p++q0s 5)]] }
def a6f (s:PS)(C E:Nat)(b:OB)(bs:List (OB×OB)):Prop:=NwP s C E bs∧∃ g cap,b=some (g,cap)∧g<E∧¬s.has g∧g∉idq bs∧C≤g
theorem a2C (s:PS)(B:Nat):∀ (n:Nat) (p:List RQ),p.length=n→∃ bs E,bs.length=p.length∧B≤E∧NwP s B E bs
 | 0,p,h=>⟨[],B,h.symm,Nat.le_refl _,List.nodup_nil,by simp[idq],by simp⟩
 | n+1,p,h=>by
  have ht:(p.take n).length=n:=by rw[List.length_take];omega
  obtain⟨bs,E,hl,hE,hn⟩:=a2C s B n (p.take n) ht;obtain⟨b,E1,h1,hb⟩:=CS (s.dO bs (p.take n)) E;obtain⟨c,E2,h2,hc⟩:=CS ((s.dO bs (p.take n)).lV b (p.getD n q0).1.2) E1;exact⟨bs++[(b,c)],E2,by simp[hl,ht,h],by omega,hn.snoc (B:=E) (E:=E2) (r:=p.getD n q0) hl (by omega) hE (hb.mono h2) (hc.mono (Nat.le_refl _))⟩
theorem a4u (s:PS)(B:Nat)(p:List RQ):∃ b bs E,bs.length=p.length∧B≤E∧a6f s B E b bs:=by
 obtain⟨bs,E,hl,hE,hn⟩:=a2C s B _ p rfl;obtain⟨b,E1,h1,g,cap,rfl,g1,g2,g3⟩:=CS (s.dO bs p) E;rw[pF s hl,not_or]at g2;exact⟨_,bs,E1,hl,by omega,⟨hn.1,fun x hx=>⟨by have:=(hn.2.1 x hx).1;omega,(hn.2.1 x hx).2⟩,hn.2.2⟩,g,cap,rfl,g1,g2.1,g2.2,by omega⟩
theorem XA (bs:List (OB×OB)):idq (bs++nones 5)=idq bs:=by simp[idq,nones,oid]
set_option maxRecDepth 8000 in
set_option maxHeartbeats 4000000 in
theorem a2w (s:PS)(B:Nat)(p:List RQ)(hp:∀ r∈p,r.1.2.length≤2^40∧r.2.length≤2^40)(hl:p.length≤1000)(h1:s.ls.length≤90000)(h2:s.fs.length≤90000)(h3:s.ws.length≤90000)(h4:s.rs.length≤90000)(h5:s.qf.length≤90000):PKC 10 [.hp 900000 1 0 0,.iv (.sl (fD p))] s B (fun x s' E=>∃ b bs,x=.iv (fqp b bs p)∧s'=s.qIn b bs p∧bs.length=p.length∧a6f s B E b bs∧B≤E):=by
 refine⟨by simp[yc,pks],?_,fun H0 hB0 hN0=>?_⟩
 ·rintro _ _ _ ⟨b,bs,rfl,_⟩;trivial
 refine ACI.SS ziX (.par (.par (.opn (.par (.opn .fin))))) B (rs:=[.tmp 4]) aX Tryz.func10 (by rfl) (by rfl) (by rfl) (by rfl) (by rfl) (by rfl) ?_ hB0.mark ?_
 ·obtain⟨b,bs,E,h1,h2,h3⟩:=a4u s B p;obtain⟨H,h⟩:=I9 (s.qIn b bs p) E;exact⟨_,H,_,E,⟨b,bs,rfl,rfl,h1,h3,h2⟩,h⟩
 obtain⟨a1,a2,a3,a4,a5,a6,a7,k0,k1,k2,k3,k4,k5,k6,k7,k9⟩:=id hB0;have e5:((p.length:Int)+5).toNat=p.length+5:=by omega
 simp (disch:=omega) only[wt,seval,rqs,iK,sV,sZ,e5];refine ND.low 10 ((H0 10).stamp+1) 32 3 (List.replicate (p.length+5) (frq none none q0)) 998 (by simp only[wt,seval]) (a2y hN0 (by decide) fun k hk=>by repeat rw[ak _ _ hk]) (by simp only[wt,seval];exact hN0 _ (by decide)) ?_;rintro v hv;refine ND.done ?_;simp only[wt,seval,sV];refine aH (fun f H=>∃ (i st:Nat) (bs:List (OB×OB)) (E:Nat),i≤p.length∧bs.length=i∧B≤E∧NwP s B E bs∧f 0=.hp 900000 1 0 0∧f 1=.iv (.sl (fD p))∧f 6=.iv (.int .i64 i)∧f 5=.hs 10 st∧H 10=.blk false st 32 3 (aU bs (p.take i)++List.replicate (p.length+5-i) (frq none none q0))∧H 998=.tie (.hs 10 st) v∧PK (s.dO bs (p.take i)) E H) (fun f H=>(p.length-aY f 6).toNat) ?_ ?_
 ·refine⟨0,(H0 10).stamp+1,[],B,by omega,rfl,Nat.le_refl _,⟨List.nodup_nil,by simp[idq],by simp⟩,by simp only[wt,seval],by simp only[wt,seval],by simp only[wt,seval],by simp only[wt,seval],?_,au _ _ _,(hB0.upd (fZ (by decide)) _).upd (fZ (by decide)) _⟩;simp only[wt,seval];rfl
 clear k0 k1 k2 k3 k4 k5 k6 k7 k9 hB0;rintro f H ⟨i,st,bs,E,hi,hbs,hBE,hnw,g0,g1,g6,g5,hH,hT,hP⟩;rw[aB g6];have hq0:(p.take i).length=i:=by rw[List.length_take];omega
 have hql:(aU bs (p.take i)).length=i:=by rw[bG (by omega),hq0]
 obtain⟨a1,a2,a3,a4,a5,a6,a7,k0,-⟩:=id hP;simp (disch:=omega) only[wt,seval,rqs,g1,g6];refine aQ (fun hlt=>?_) (fun hlt=>?_)
 ·have hlt':i<p.length:=by omega
  have hr:=hp _ (List.getElem_mem hlt');have hln:=oQ s (bs:=bs) (p:=p.take i) (by omega);simp (disch:=omega) only[wt,seval,rqs,iK,g0,g1,g6,g5,QH hlt'];refine uI (a4m (s.dO bs (p.take i)) E (p.getD i q0) (by simpa [List.getD,hlt'] using hr.1) (by simpa [List.getD,hlt'] using hr.2) (by omega) (by omega) (by omega)) (by repeat first|exact hP|refine PK.upd ?_ (fZ (by decide)) _) ?_;rintro _ _ E1 H1 ⟨b,c,rfl,rfl,hb1,hc1,hE1⟩ hp1 hk;have m10:=(hk 10 (fZ (by omega))).trans (by simp only[seval,hH];try rfl);have mT:=(hk 998 (fZ (by omega))).trans (by simp only[seval,hT];try rfl);have hll:(aU bs (p.take i)++List.replicate (p.length+5-i) (frq none none q0)).length=p.length+5:=by rw[List.length_append,hql,List.length_replicate];omega
  simp (disch:=omega) only[wt,seval,iK,g0,g1,g6,g5,m10,hll];refine⟨⟨i+1,st,bs++[(b,c)],E1,by omega,by simp[hbs],by omega,hnw.snoc (p:=p.take i) (by omega) hE1 hBE hb1 hc1,by omega,rfl,?_,by simp only[seval,mT],?_⟩,by omega⟩
  ·have hgt:(aU bs (p.take i)++List.replicate (p.length+5-(i+1)+1) (frq none none q0)).getD i []=frq none none q0:=by
    rw[List.getD,List.getElem?_append_right (by omega),hql,Nat.sub_self,List.replicate_succ];rfl
   have e1:p.length+5-i=(p.length+5-(i+1))+1:=by omega
   have e2:=set_mid (aU bs (p.take i)) (p.length+5-(i+1)) (frq none none q0) (frq b c (p.getD i q0));rw[hql,jI (by omega)]at e2;rw[e1,hgt,TM,e2,take_snoc' p hlt']
  ·rw[take_snoc' p hlt',CG _ (by omega)];exact hp1.upd (fZ (by decide)) _
 ·obtain rfl:i=p.length:=by omega
  rw[List.take_length]at hH hP;have e5:p.length+5-p.length=5:=by omega
  have ef:aU bs p++List.replicate 5 (frq none none q0)=aU (bs++nones 5) (p++q0s 5):=by rw[Gf,Gg hbs];rfl
  rw[e5,ef]at hH;obtain⟨r1,r2⟩:=(oQ s hbs).2.2.2;have hR:(aU (bs++nones 5) (p++q0s 5)).length=p.length+5:=by rw[bG (by simp[hbs,nones,q0s])];simp[q0s]
  obtain⟨a1,a2,a3,a4,a5,a6,a7,k0,k1,k2,k3,k4,k5,k6,k7,k9⟩:=id hP;simp (disch:=omega) only[wt,seval,sZ];refine ND.opn 5 10 st 32 3 (aU (bs++nones 5) (p++q0s 5)) E 998 v (by first|exact g5|(simp only[wt,seval,rqs,dD,dh,dK,cO,bF,bK,iK,lH,List.getD_cons_zero,List.getD_cons_succ,List.set_cons_zero,List.set_cons_succ,sV,sZ,ED,g5];done)|(simp only[wt,seval,rqs,dD,dh,dK,cO,bF,bK,iK,lH,List.getD_cons_zero,List.getD_cons_succ,List.set_cons_zero,List.set_cons_succ,sV,sZ,ED,g5];rfl)) (by first|exact hH|(simp only[wt,seval,rqs,dD,dh,dK,cO,bF,bK,iK,lH,List.getD_cons_zero,List.getD_cons_succ,List.set_cons_zero,List.set_cons_succ,sV,sZ,ED,hH];done)) (by first|exact k9|(simp only[wt,seval,rqs,dD,dh,dK,cO,bF,bK,iK,lH,List.getD_cons_zero,List.getD_cons_succ,List.set_cons_zero,List.set_cons_succ,sV,sZ,ED,k9];done)) (by first|exact hT|(simp only[wt,seval,rqs,dD,dh,dK,cO,bF,bK,iK,lH,List.getD_cons_zero,List.getD_cons_succ,List.set_cons_zero,List.set_cons_succ,sV,sZ,ED,hT];done)) ?_;rintro b E2 hE hb hvb;refine ND.done ?_;refine .inl ⟨aS (by kernel_rfl),?_⟩;rw[r1]at k5;rw[r2]at k7;have et:List.take p.length (aU (bs++nones 5) (p++q0s 5))=aU bs p:=by rw[DF,List.take_left' hbs,List.take_left' rfl]
  simp (disch:=omega) only[wt,seval,rqs,iK,List.set_cons_succ,g0,g1,k0,k5,k7,hR,et];refine⟨bH (by kernel_rfl),?_⟩;have hN:∀ g cap,b=some (g,cap)→g<E2∧¬s.has g∧g∉idq bs∧B≤g:=fun g cap e=>by
   obtain⟨q1,q2,q3,q4,q5,q6⟩:=hb.2 g cap e;rw[iG (by simp[hbs,nones,q0s]),XA]at q2;refine⟨q1,fun h=>?_,q2,hv _ (hvb _ _ e)⟩;have h:=(pF s hbs g).2 (.inl h);rcases h with h|h|h|h|h|h|h
   ·exact q5 900001 _ _ _ _ _ (by simp only[seval,k1];try rfl) h
   ·exact q5 900002 _ _ _ _ _ (by simp only[seval,k2];try rfl) h
   ·exact q5 900003 _ _ _ _ _ (by simp only[seval,k3];try rfl) h
   ·exact q5 900004 _ _ _ _ _ (by simp only[seval,k4];try rfl) h
   ·exact q5 900005 _ _ _ _ _ (by simp only[seval,k5];try rfl) (by rw[r1]at h;exact h)
   ·exact q5 900006 _ _ _ _ _ (by simp only[seval,k6];try rfl) h
   ·exact q5 900007 _ _ _ _ _ (by simp only[seval,k7];try rfl) (by rw[r2]at h;exact h)
  refine tV (by simp only[wt,seval];try rfl) ⟨s.qIn b bs p,E2,⟨b,bs,rfl,rfl,hbs,⟨⟨hnw.1,fun x hx=>⟨by have:=(hnw.2.1 x hx).1;omega,(hnw.2.1 x hx).2⟩,hnw.2.2⟩,?_⟩,by omega⟩,a1,a2,a3,a4,a5+1,a6,a7+1,?_⟩
  ·cases b with
   | none=>exact absurd (congrArg List.length (hb.1 rfl)) (by rw[hR];simp)
   | some x=>exact⟨x.1,x.2,rfl,hN x.1 x.2 rfl⟩
  ·simp only[wt,seval,k1,k2,k3,k4,k6]
   try (repeat' apply And.intro)<;>first|rfl|omega
set_option linter.defProp false
def fnr (x:OB×List Nat):List IV:=[jo x.1 x.2]
def wsr (x:OB×List Nat):List IV:=[.sl (bW x.2)]
def o0:OB×List Nat:=(none,[])
theorem Pq {L:List (OB×List Nat)}{i:Nat}(h:i<L.length):(L.map fnr).getD i []=[jo (L.getD i o0).1 (L.getD i o0).2]:=by simp[List.getD,h,fnr]
theorem a3n {L:List (OB×List Nat)}{i:Nat}(h:i<L.length):(L.map wsr).getD i []=[.sl (bW (L.getD i o0).2)]:=by simp[List.getD,h,wsr]
set_option maxRecDepth 8000 in
set_option maxHeartbeats 4000000 in
theorem JO (s:PS)(B:Nat)(L:List (OB×List Nat))(hf:s.fs=L.map fnr)(hw:s.ws=L.map wsr)(hl:L.length≤100000)(hn:∀ x∈L,x.2.length≤2^41):PKC 108 [.hp 900000 1 0 0] s B (fun x s' E=>x=.iv (.bool true)∧s'=s∧E=B):=by
 refine⟨by simp[yc,pks],by rintro _ _ _ ⟨rfl,_⟩;trivial,fun H0 hB0 _=>?_⟩;refine ACI.aA zi0 (rs:=[.tmp 2]) aX Tryz.func108 (by rfl) (by rfl) (by rfl) (by rfl) (by rfl) (by rfl) ?_ ?_
 ·obtain⟨H,h⟩:=I9 s B;exact⟨_,H,_,B,⟨rfl,rfl,rfl⟩,h⟩
 obtain⟨a1,a2,a3,a4,a5,a6,a7,k0,k1,k2,k3,k4,k5,k6,k7,k9⟩:=id hB0;rw[hf]at k2;rw[hw]at k3;simp only[wt,seval];refine aH (fun f H=>∃ i:Nat,i≤L.length∧f 0=.hp 900000 1 0 0∧f 3=.iv (.int .i64 i)∧H=H0) (fun f H=>(L.length-aY f 3).toNat) ?_ ?_
 ·exact⟨0,by omega,by simp only[wt,seval],by simp only[wt,seval];try rfl,rfl⟩
 rintro f H ⟨i,hi,g0,g3,rfl⟩;have hB:=hB0;rw[aB g3];simp (disch:=omega) only[wt,seval,g0,g3,k0,k2,List.length_map];refine aQ (fun hlt=>?_) (fun hlt=>?_)
 ·have hlt':i<L.length:=by omega
  obtain⟨l,hl⟩:∃ l,l=(L.getD i o0).2:=⟨_,rfl⟩;have hln:l.length≤2^41:=by rw[hl,List.getD,List.getElem?_eq_getElem hlt'];exact hn _ (List.getElem_mem hlt')
  simp (disch:=omega) only[wt,seval];refine aH (fun f H'=>∃ j:Nat,j≤l.length∧f 0=.hp 900000 1 0 0∧f 3=.iv (.int .i64 i)∧f 4=.iv (.int .i64 j)∧H'=H) (fun f H=>(l.length-aY f 4).toNat) ?_ ?_
  ·exact⟨0,by omega,by simp only[wt,seval,g0],by simp only[wt,seval,g3],by simp only[wt,seval];try rfl,rfl⟩
  clear g0 g3;clear f;rintro f H' ⟨j,hj,g0,g3,g4,rfl⟩;rw[aB g4];simp (disch:=omega) only[wt,seval,g0,g3,g4,k0,k2,List.length_map,Pq hlt',← hl];refine aQ (fun hlj=>?_) (fun hlj=>?_)
  ·simp (disch:=omega) only[wt,seval,g0,g3,k0,k2];refine .inl ⟨aS (by kernel_rfl),?_⟩;simp (disch:=omega) only[wt,seval,g0,g3,g4,k0,k2,k3,List.length_map,Pq hlt',a3n hlt',← hl];refine⟨bH (by kernel_rfl),?_⟩;exact⟨⟨j+1,by omega,by omega⟩,by omega⟩
  ·simp (disch:=omega) only[wt,seval,g0,g3];exact⟨⟨i+1,by omega,by omega⟩,by omega⟩
 ·simp (disch:=omega) only[wt,seval];exact tV (by simp only[wt,seval];try rfl) ⟨s,B,⟨rfl,rfl,rfl⟩,hB0⟩
def qfr (x:OB×List (OB×OB)×List RQ):List IV:=[fqp x.1 (x.2.1++nones 5) (x.2.2++q0s 5)]
def x0:OB×List (OB×OB)×List RQ:=(none,[],[])
theorem a4n {L:List (OB×List (OB×OB)×List RQ)}{i:Nat}(h:i<L.length):(L.map qfr).getD i []=[fqp (L.getD i x0).1 ((L.getD i x0).2.1++nones 5) ((L.getD i x0).2.2++q0s 5)]:=by simp[List.getD,h,qfr]
theorem frq_d1 (b c:OB)(r:RQ):List.drop 1 (frq b c r)=[jo b r.1.2,jo c r.2]:=rfl
theorem frq_d2 (b c:OB)(r:RQ):List.drop 2 (frq b c r)=[jo c r.2]:=rfl
set_option maxRecDepth 8000 in
set_option maxHeartbeats 4000000 in
theorem Vy (s:PS)(B:Nat)(L:List (OB×List Nat))(hf:s.fs=L.map fnr)(hw:s.ws=L.map wsr)(hl:L.length≤100000)(hn:∀ x∈L,x.2.length≤2^41)(hz:s.zf=[])(Q:List (OB×List (OB×OB)×List RQ))(hq:s.qf=Q.map qfr)(hQ:Q.length≤100000)(hQl:∀ x∈Q,x.2.1.length=x.2.2.length∧x.2.2.length≤1000):PKC 23 [.hp 900000 1 0 0] s B (fun x s' E=>x=.iv (.bool true)∧s'=s∧E=B):=by
 refine⟨by simp[yc,pks],by rintro _ _ _ ⟨rfl,_⟩;trivial,fun H0 hB0 _=>?_⟩;refine ACI.aA zi0 (rs:=[.tmp 2]) aX Tryz.func23 (by rfl) (by rfl) (by rfl) (by rfl) (by rfl) (by rfl) ?_ ?_
 ·obtain⟨H,h⟩:=I9 s B;exact⟨_,H,_,B,⟨rfl,rfl,rfl⟩,h⟩
 obtain⟨a1,a2,a3,a4,a5,a6,a7,k0,k1,k2,k3,k4,k5,k6,k7,k9⟩:=id hB0;rw[hz]at k6;rw[hq]at k7;simp only[wt,seval];refine aH (fun f H=>f 0=.hp 900000 1 0 0∧f 3=.iv (.int .i64 0)∧H=H0) (fun f H=>0) ?_ ?_
 ·exact⟨by simp only[wt,seval],by simp only[wt,seval];try rfl,rfl⟩
 rintro f H ⟨g0,g3,rfl⟩;simp (disch:=omega) only[wt,seval,g0,g3,k0,k6];refine aH (fun f H'=>∃ i:Nat,i≤Q.length∧f 0=.hp 900000 1 0 0∧f 6=.iv (.int .i64 i)∧H'=H) (fun f H=>(Q.length-aY f 6).toNat) ?_ ?_
 ·exact⟨0,by omega,by simp only[wt,seval,g0],by simp only[wt,seval];try rfl,rfl⟩
 clear g0 g3;clear f;rintro f H' ⟨i,hi,g0,g3,rfl⟩;rw[aB g3];simp (disch:=omega) only[wt,seval,g0,g3,k0,k7,List.length_map];refine aQ (fun hlt=>?_) (fun hlt=>?_)
 ·have hlt':i<Q.length:=by omega
  have hx:=hQl _ (List.getElem_mem hlt');rw[show Q[i]=Q.getD i x0 by rw[List.getD,List.getElem?_eq_getElem hlt'];rfl]at hx;generalize hX:Q.getD i x0=X at hx;obtain⟨b,bs,p⟩:=X;simp only at hx;obtain⟨hx1,hx2⟩:=hx;have hR:(aU (bs++nones 5) (p++q0s 5)).length=p.length+5:=by rw[bG (by simp[hx1,nones,q0s])];simp[q0s]
  simp (disch:=omega) only[wt,seval,g0,g3,k0,k7,List.length_map,a4n hlt',hX,hR];refine aH (fun f H2=>∃ j:Nat,p.length≤j∧j≤p.length+5∧f 0=.hp 900000 1 0 0∧f 6=.iv (.int .i64 i)∧f 7=.iv (fqp b (bs++nones 5) (p++q0s 5))∧f 8=.iv (.int .i64 j)∧H2=H') (fun f H=>(p.length+5-aY f 8).toNat) ?_ ?_
  ·exact⟨p.length,by omega,by omega,by simp only[wt,seval,g0],by simp only[wt,seval,g3],by simp only[wt,seval],by simp only[wt,seval];try omega,rfl⟩
  clear g0 g3;clear f;rintro f H2 ⟨j,hj1,hj2,g0,g3,g7,g8,rfl⟩;rw[aB g8];simp (disch:=omega) only[wt,seval,g7,g8,hR];refine aQ (fun hlj=>?_) (fun hlj=>?_)
  ·have hg:(aU (bs++nones 5) (p++q0s 5)).getD j []=frq none none q0:=by
    rw[show aU (bs++nones 5) (p++q0s 5)=aU bs p++List.replicate 5 (frq none none q0) by rw[Gf,Gg hx1];rfl,List.getD,List.getElem?_append_right (by rw[bG hx1];exact hj1),bG hx1,List.getElem?_replicate,if_pos (by omega)];rfl
   simp (disch:=omega) only[wt,seval,g0,g3,g7,g8,hR,hg,frq_d1,frq_d2];exact⟨⟨j+1,by omega,by omega,by omega⟩,by omega⟩
  ·simp (disch:=omega) only[wt,seval,g0,g3];exact⟨⟨i+1,by omega,by omega⟩,by omega⟩
 ·simp (disch:=omega) only[wt,seval,g0,k0];refine uI (JO s B L hf hw hl hn) hB0 ?_;rintro _ _ E1 H1 ⟨rfl,rfl,rfl⟩ hp1 hk;simp only[wt,seval];exact tV (by simp only[wt,seval];try rfl) ⟨_,_,⟨rfl,rfl,rfl⟩,hp1⟩
set_option linter.defProp false
def fno (_:OB×List Nat):List IV:=[.sl []]
def PS.outs (s:PS)(L:List (OB×List Nat)):PS:={ s with ls:=s.ls++L.map fnr,fs:=s.fs++L.map fno,ws:=s.ws++L.map fno }
theorem a6v (L:List (OB×List Nat)){i:Nat}(h:i<L.length):L.take (i+1)=L.take i++[L.getD i o0]:=by
 rw[List.take_add_one,List.getD,List.getElem?_eq_getElem h];rfl
theorem WV (s:PS)(L:List (OB×List Nat))(x:OB×List Nat):s.outs (L++[x])={ s.outs L with ls:=(s.outs L).ls++[fnr x],fs:=(s.outs L).fs++[[.sl []]],ws:=(s.outs L).ws++[[.sl []]] }:=by
 simp[PS.outs,fno]
set_option maxRecDepth 8000 in
set_option maxHeartbeats 4000000 in
theorem PU (s:PS)(B:Nat)(L:List (OB×List Nat))(hl:L.length≤1000)(h1:s.ls.length≤100000)(h2:s.fs.length≤100000)(h3:s.ws.length≤100000):PKC 38 [.hp 900000 1 0 0,.iv (.sl (L.map fnr))] s B (fun x s' E=>x=.dead∧s'=s.outs L∧E=B):=by
 refine⟨by simp[yc,pks],by rintro _ _ _ ⟨rfl,_⟩;trivial,fun H0 hB0 _=>?_⟩;refine ACI.aA zi0 (rs:=[]) aX Tryz.func38 (by rfl) (by rfl) (by rfl) (by rfl) (by rfl) (by rfl) ?_ ?_
 ·obtain⟨H,h⟩:=I9 (s.outs L) B;exact⟨_,H,_,B,⟨rfl,rfl,rfl⟩,h⟩
 simp only[wt,seval];refine aH (fun f H=>∃ i:Nat,i≤L.length∧f 0=.hp 900000 1 0 0∧f 1=.iv (.sl (L.map fnr))∧f 4=.iv (.int .i64 i)∧PK (s.outs (L.take i)) B H) (fun f H=>(L.length-aY f 4).toNat) ?_ ?_
 ·refine⟨0,by omega,by simp only[wt,seval],by simp only[wt,seval],by simp only[wt,seval];try rfl,?_⟩;simp only[PS.outs,List.take_zero,List.map_nil,List.append_nil];exact hB0
 clear hB0;rintro f H ⟨i,hi,g0,g1,g4,hP⟩;rw[aB g4];obtain⟨a1,a2,a3,a4,a5,a6,a7,k0,k1,k2,k3,k4,k5,k6,k7,k9⟩:=id hP;simp (disch:=omega) only[wt,seval,g1,g4,List.length_map];have n1:(s.outs (L.take i)).ls.length=s.ls.length+i:=by simp only[PS.outs,List.length_append,List.length_map,List.length_take];omega
 have n2:(s.outs (L.take i)).fs.length=s.fs.length+i:=by simp only[PS.outs,List.length_append,List.length_map,List.length_take];omega
 have n3:(s.outs (L.take i)).ws.length=s.ws.length+i:=by simp only[PS.outs,List.length_append,List.length_map,List.length_take];omega
 refine aQ (fun hlt=>?_) (fun hlt=>?_)
 ·have hlt':i<L.length:=by omega
  simp (disch:=omega) only[wt,seval,g0];refine .inl ⟨aS (by kernel_rfl),?_⟩;simp (disch:=omega) only[wt,seval,List.set_cons_succ,g0,g1,g4,k0,k1,k2,k3,List.length_map,Pq hlt',n1,n2,n3];refine⟨bH (by kernel_rfl),?_⟩;refine⟨⟨i+1,by omega,by omega,?_⟩,by omega⟩;rw[a6v L hlt',WV];refine⟨a1+1,a2+1,a3+1,a4,a5,a6,a7,?_⟩;simp only[wt,seval,k4,k5,k6,k7,k9]
  try (repeat' apply And.intro)<;>first|rfl|omega
 ·obtain rfl:i=L.length:=by omega
  rw[List.take_length]at hP;simp (disch:=omega) only[wt,seval];exact wG ⟨_,_,⟨rfl,rfl,rfl⟩,hP⟩
set_option linter.defProp false
theorem sH {g h st e sz:Nat}{rows:List (List IV)}{d:Nat}{K:AL.Fr→AL.Hp→Log→Prop}{f:AL.Fr}{H:AL.Hp}{lg:Log}{s:PS}{B:Nat}{Q:AV→PS→Nat→Prop}(hc:PKC g [.hp 900000 1 0 0,.iv (.sl rows)] s B Q)(hB:PK s B H)(hH:H h=.blk false st e sz rows)(hh:h<999)
  (hk:∀ x s' E H',Q x s' E→PK s' E H'→(∀ k,k∉pks→k≠h→H' k=H k)→K (upd f d x) H' ((h::pks,h::pks)::lg)):jr Tryz.prog g [.hp 900000 1 0 0,.hs h st] d K f H lg:=by
 refine Ja ((hc.acf hB).frz2 hH (fZ hh)) ?_;rintro x _ ⟨_,⟨H1,⟨s',E,hq,hp⟩,rfl⟩,rfl⟩;rw[List.map_cons,OL];refine⟨fun _ h=>h,by simp[pks],hk x s' E _ hq (hp.congr fun k hk=>?_) fun k hk hne=>?_⟩
 ·rw[bU,jf,if_pos hk]
 ·rw[bU,jf,if_neg hk,ak _ _ hne]
def qnl (bs:List (OB×OB))(l:List RQ):List (OB×List Nat):=(List.zipWith (fun b r=>[(b.1,r.1.2),(b.2,r.2)]) bs l).flatten
theorem a0o {bs:List (OB×OB)}{l:List RQ}(h:bs.length=l.length)(b c:OB)(r:RQ):qnl (bs++[(b,c)]) (l++[r])=qnl bs l++[(b,r.1.2),(c,r.2)]:=by
 rw[qnl,List.zipWith_append h,List.flatten_append];rfl
theorem QY (s:PS)(A C:List (OB×List Nat)):s.outs (A++C)=(s.outs A).outs C:=by simp[PS.outs,List.map_append]
theorem QW (s:PS):s.outs []=s:=by simp[PS.outs]
theorem a6w (bs:List (OB×OB)){i:Nat}(h:i<bs.length):bs.take (i+1)=bs.take i++[((bs.getD i (none,none)).1,(bs.getD i (none,none)).2)]:=by
 rw[List.take_add_one,List.getD,List.getElem?_eq_getElem h];rfl
abbrev QX:Type:=OB×List (OB×OB)×List RQ
def qor (x:QX):List IV:=[fqp x.1 x.2.1 x.2.2]
def PS.N7 (s:PS)(x:QX):PS:={ s with rs:=s.rs++[qor x] }
def PS.yM (s:PS)(x:QX):PS:=(s.N7 x).outs (qnl x.2.1 x.2.2)
def PS.oH (s:PS)(X:List QX):PS:=X.foldl PS.yM s
theorem a4k {X:List QX}{i:Nat}(h:i<X.length):(X.map qor).getD i []=[fqp (X.getD i x0).1 (X.getD i x0).2.1 (X.getD i x0).2.2]:=by simp[List.getD,h,qor]
theorem a6u (X:List QX){i:Nat}(h:i<X.length):X.take (i+1)=X.take i++[X.getD i x0]:=by
 rw[List.take_add_one,List.getD,List.getElem?_eq_getElem h];rfl
theorem TY (s:PS)(X:List QX)(x:QX):s.oH (X++[x])=(s.oH X).yM x:=by simp[PS.oH]
theorem vH {bs:List (OB×OB)}{l:List RQ}(h:bs.length=l.length):(qnl bs l).length=2*l.length:=by
 induction bs generalizing l with
 | nil=>cases l with
  | nil=>rfl
  | cons _ _=>simp at h
 | cons b bs ih=>cases l with
  | nil=>simp at h
  | cons r l =>
   have:=ih (l:=l) (by simpa using h);simp only[qnl,List.zipWith_cons_cons,List.flatten_cons,List.length_append,List.length_cons,List.length_nil]at this ⊢;omega
theorem wM (s:PS)(L:List (OB×List Nat)):(s.outs L).ls.length=s.ls.length+L.length∧(s.outs L).fs.length=s.fs.length+L.length∧(s.outs L).ws.length=s.ws.length+L.length∧(s.outs L).rs=s.rs∧(s.outs L).is=s.is:=by simp[PS.outs]
theorem KT:∀ (X:List QX) (s:PS),(∀ x∈X,x.2.1.length=x.2.2.length∧x.2.2.length≤1000)→(s.oH X).ls.length≤s.ls.length+2000*X.length∧(s.oH X).fs.length≤s.fs.length+2000*X.length∧(s.oH X).ws.length≤s.ws.length+2000*X.length∧(s.oH X).rs.length=s.rs.length+X.length
 | [],s,_=>by simp[PS.oH]
 | x::X,s,h=>by
  have hx:=h x (by simp);have ih:=KT X (s.yM x) (fun y hy=>h y (by simp[hy]));have h1:=wM (s.N7 x) (qnl x.2.1 x.2.2);rw[vH hx.1]at h1;have e:s.oH (x::X)=(s.yM x).oH X:=rfl;have hr:(s.yM x).rs.length=s.rs.length+1:=by rw[PS.yM,h1.2.2.2.1];simp[PS.N7]
  have hls:(s.yM x).ls.length=s.ls.length+2*x.2.2.length:=h1.1;have hfs:(s.yM x).fs.length=s.fs.length+2*x.2.2.length:=h1.2.1;have hws:(s.yM x).ws.length=s.ws.length+2*x.2.2.length:=h1.2.2.1;rw[e,List.length_cons];omega
set_option maxRecDepth 8000 in
set_option maxHeartbeats 4000000 in
theorem a4j (s:PS)(B:Nat)(X:List QX)(hX:X.length≤20)(hx:∀ x∈X,x.2.1.length=x.2.2.length∧x.2.2.length≤1000)(h1:s.ls.length≤50000)(h2:s.fs.length≤50000)(h3:s.ws.length≤50000)(h4:s.rs.length≤50000):PKC 36 [.hp 900000 1 0 0,.iv (.sl (X.map qor))] s B (fun x s' E=>x=.dead∧s'=s.oH X∧E=B):=by
 refine⟨by simp[yc,pks],by rintro _ _ _ ⟨rfl,_⟩;trivial,fun H0 hB0 _=>?_⟩;refine ACI.aA zi0 (rs:=[]) aX Tryz.func36 (by rfl) (by rfl) (by rfl) (by rfl) (by rfl) (by rfl) ?_ ?_
 ·obtain⟨H,h⟩:=I9 (s.oH X) B;exact⟨_,H,_,B,⟨rfl,rfl,rfl⟩,h⟩
 simp only[wt,seval];refine aH (fun f H=>∃ i:Nat,i≤X.length∧f 0=.hp 900000 1 0 0∧f 1=.iv (.sl (X.map qor))∧f 4=.iv (.int .i64 i)∧PK (s.oH (X.take i)) B H) (fun f H=>(X.length-aY f 4).toNat) ?_ ?_
 ·exact⟨0,by omega,by simp only[wt,seval],by simp only[wt,seval],by simp only[wt,seval];try rfl,hB0⟩
 clear hB0;rintro f H ⟨i,hi,g0,g1,g4,hP⟩;rw[aB g4];obtain⟨a1,a2,a3,a4,a5,a6,a7,k0,k1,k2,k3,k4,k5,k6,k7,k9⟩:=id hP;simp (disch:=omega) only[wt,seval,g1,g4,List.length_map];have ln:=KT (X.take i) s fun x hm=>hx x (List.mem_of_mem_take hm)
 have htl:(X.take i).length=i:=by rw[List.length_take];omega
 rw[htl]at ln;refine aQ (fun hlt=>?_) (fun hlt=>?_)
 ·have hlt':i<X.length:=by omega
  have hxi:=hx _ (List.getElem_mem hlt');rw[show X[i]=X.getD i x0 by rw[List.getD,List.getElem?_eq_getElem hlt'];rfl]at hxi;have hq1:=a4k hlt';have ht:=a6u X hlt';generalize X.getD i x0=Y at hxi hq1 ht;obtain⟨b,bs,l⟩:=Y;simp only at hxi hq1;obtain⟨hbs,hll⟩:=hxi;obtain⟨s1,hs1⟩:∃ s1,s1=s.oH (X.take i):=⟨_,rfl⟩;rw[← hs1]at hP k1 k2 k3 k4 k5 k6 k7 ln;have hR:(aU bs l).length=l.length:=bG hbs;simp (disch:=omega) only[wt,seval,g0];refine .inl ⟨aS (by kernel_rfl),?_⟩;simp (disch:=omega) only[wt,seval,List.set_cons_succ,g1,g4,k0,k5,List.length_map,hq1];refine⟨bH (by kernel_rfl),?_⟩;refine aH (fun f H=>∃ j:Nat,j≤l.length∧f 0=.hp 900000 1 0 0∧f 1=.iv (.sl (X.map qor))∧f 4=.iv (.int .i64 i)∧f 5=.iv (.int .i64 j)∧PK ((s1.N7 (b,bs,l)).outs (qnl (bs.take j) (l.take j))) B H) (fun f H=>(l.length-aY f 5).toNat) ?_ ?_
  ·refine⟨0,by omega,by simp only[wt,seval,g0],by simp only[wt,seval,g1],by simp only[wt,seval,g4],by simp only[wt,seval];try rfl,a1,a2,a3,a4,a5+1,a6,a7,?_⟩;rw[List.take_zero,List.take_zero,show (s1.N7 (b,bs,l)).outs (qnl [] [])=s1.N7 (b,bs,l) from QW _];simp only[wt,seval,k1,k2,k3,k4,k6,k7,k9]
   try (repeat' apply And.intro)<;>first|rfl|omega
  clear g0 g1 g4 k0 k1 k2 k3 k4 k5 k6 k7 k9 hP;clear f;rintro f H ⟨j,hj,g0,g1,g4,g5,hP⟩;rw[aB g5];obtain⟨a1,a2,a3,a4,a5,a6,a7,k0,k1,k2,k3,k4,k5,k6,k7,k9⟩:=id hP;have lo:=wM (s1.N7 (b,bs,l)) (qnl (bs.take j) (l.take j));rw[vH (by rw[List.length_take,List.length_take,hbs]),List.length_take,Nat.min_eq_left hj,show (s1.N7 (b,bs,l)).ls=s1.ls from rfl,show (s1.N7 (b,bs,l)).fs=s1.fs from rfl,show (s1.N7 (b,bs,l)).ws=s1.ws from rfl]at lo;simp (disch:=omega) only[wt,seval,g1,g4,g5,List.length_map,hq1,hR];refine aQ (fun hlj=>?_) (fun hlj=>?_)
  ·have a7d:j<l.length:=by omega
   have hg:=kP hbs a7d;simp (disch:=omega) only[wt,seval,g0];refine .inl ⟨aS (by kernel_rfl),?_⟩;simp (disch:=omega) only[wt,seval,g1,g4,g5,k0,List.length_map,hq1,hR,hg,frq_d1,frq_d2];refine sH (PU ((s1.N7 (b,bs,l)).outs (qnl (bs.take j) (l.take j))) B [((bs.getD j (none,none)).1,(l.getD j q0).1.2),((bs.getD j (none,none)).2,(l.getD j q0).2)] (by simp) (by omega) (by omega) (by omega)) (hP.upd (fZ (by decide)) _) (au _ _ _) (by decide) ?_;rintro _ _ E1 H1 ⟨rfl,rfl,rfl⟩ hp1 hk;simp (disch:=omega) only[wt,seval,g0,g1,g4,g5];refine⟨bH (by kernel_rfl),?_⟩;refine⟨⟨j+1,by omega,by omega,?_⟩,by omega⟩;rw[a6w bs (by omega),take_snoc' l a7d,a0o (by rw[List.length_take,List.length_take,hbs]),QY];exact hp1
  ·simp (disch:=omega) only[wt,seval,g0,g1,g4];obtain rfl:j=l.length:=by omega
   rw[List.take_length,← hbs,List.take_length]at hP;refine⟨⟨i+1,by omega,by omega,?_⟩,by omega⟩;rw[ht,TY,← hs1];exact hP
 ·obtain rfl:i=X.length:=by omega
  rw[List.take_length]at hP;simp (disch:=omega) only[wt,seval];exact wG ⟨_,_,⟨rfl,rfl,rfl⟩,hP⟩
set_option linter.defProp false
def znl (bs:List OB)(l:List Int):List (OB×List Nat):=List.zipWith (fun b z=>(b,(canon z).2)) bs l
theorem Zg {bs:List OB}{l:List Int}(h:bs.length=l.length)(b:OB)(z:Int):znl (bs++[b]) (l++[z])=znl bs l++[(b,(canon z).2)]:=by
 rw[znl,List.zipWith_append h];rfl
theorem NY {bs:List OB}{l:List Int}(h:bs.length=l.length):(znl bs l).length=l.length:=by simp[znl,h]
abbrev ZX:Type:=OB×List OB×List Int
def z0x:ZX:=(none,[],[])
def zor (x:ZX):List IV:=[uK x.1 x.2.1 x.2.2]
def PS.MZ (s:PS)(x:ZX):PS:={ s with is:=s.is++[zor x] }
def PS.yh (s:PS)(x:ZX):PS:=(s.MZ x).outs (znl x.2.1 x.2.2)
def PS.oM (s:PS)(X:List ZX):PS:=X.foldl PS.yh s
theorem a3i {X:List ZX}{i:Nat}(h:i<X.length):(X.map zor).getD i []=[uK (X.getD i z0x).1 (X.getD i z0x).2.1 (X.getD i z0x).2.2]:=by simp[List.getD,h,zor]
theorem a3v (X:List ZX){i:Nat}(h:i<X.length):X.take (i+1)=X.take i++[X.getD i z0x]:=by
 rw[List.take_add_one,List.getD,List.getElem?_eq_getElem h];rfl
theorem a3y (bs:List OB){i:Nat}(h:i<bs.length):bs.take (i+1)=bs.take i++[bs.getD i none]:=by
 rw[List.take_add_one,List.getD,List.getElem?_eq_getElem h];rfl
theorem a3w (l:List Int){i:Nat}(h:i<l.length):l.take (i+1)=l.take i++[cf l i]:=by
 rw[List.take_add_one,List.getElem?_eq_getElem h];simp[cf,h]
theorem Ug {bs:List OB}{l:List Int}(h:bs.length=l.length){i:Nat}(hi:i<l.length):(jY bs l).getD i []=fint (bs.getD i none) (cf l i):=by rw[List.getD,LY h hi];rfl
theorem fint_d1 (b:OB)(z:Int):List.drop 1 (fint b z)=[jo b (canon z).2]:=rfl
theorem Tj (s:PS)(X:List ZX)(x:ZX):s.oM (X++[x])=(s.oM X).yh x:=by simp[PS.oM]
theorem JC:∀ (X:List ZX) (s:PS),(∀ x∈X,x.2.1.length=x.2.2.length∧x.2.2.length≤1000)→(s.oM X).ls.length≤s.ls.length+1000*X.length∧(s.oM X).fs.length≤s.fs.length+1000*X.length∧(s.oM X).ws.length≤s.ws.length+1000*X.length∧(s.oM X).is.length=s.is.length+X.length
 | [],s,_=>by simp[PS.oM]
 | x::X,s,h=>by
  have hx:=h x (by simp);have ih:=JC X (s.yh x) (fun y hy=>h y (by simp[hy]));have h1:=wM (s.MZ x) (znl x.2.1 x.2.2);rw[NY hx.1]at h1;have e:s.oM (x::X)=(s.yh x).oM X:=rfl;have hr:(s.yh x).is.length=s.is.length+1:=by rw[PS.yh,h1.2.2.2.2];simp[PS.MZ]
  have hls:(s.yh x).ls.length=s.ls.length+x.2.2.length:=h1.1;have hfs:(s.yh x).fs.length=s.fs.length+x.2.2.length:=h1.2.1;have hws:(s.yh x).ws.length=s.ws.length+x.2.2.length:=h1.2.2.1;rw[e,List.length_cons];omega
set_option maxRecDepth 8000 in
set_option maxHeartbeats 4000000 in
theorem a3h (s:PS)(B:Nat)(X:List ZX)(hX:X.length≤20)(hx:∀ x∈X,x.2.1.length=x.2.2.length∧x.2.2.length≤1000)(h1:s.ls.length≤50000)(h2:s.fs.length≤50000)(h3:s.ws.length≤50000)(h4:s.is.length≤50000):PKC 37 [.hp 900000 1 0 0,.iv (.sl (X.map zor))] s B (fun x s' E=>x=.dead∧s'=s.oM X∧E=B):=by
 refine⟨by simp[yc,pks],by rintro _ _ _ ⟨rfl,_⟩;trivial,fun H0 hB0 _=>?_⟩;refine ACI.aA zi0 (rs:=[]) aX Tryz.func37 (by rfl) (by rfl) (by rfl) (by rfl) (by rfl) (by rfl) ?_ ?_
 ·obtain⟨H,h⟩:=I9 (s.oM X) B;exact⟨_,H,_,B,⟨rfl,rfl,rfl⟩,h⟩
 simp only[wt,seval];refine aH (fun f H=>∃ i:Nat,i≤X.length∧f 0=.hp 900000 1 0 0∧f 1=.iv (.sl (X.map zor))∧f 4=.iv (.int .i64 i)∧PK (s.oM (X.take i)) B H) (fun f H=>(X.length-aY f 4).toNat) ?_ ?_
 ·exact⟨0,by omega,by simp only[wt,seval],by simp only[wt,seval],by simp only[wt,seval];try rfl,hB0⟩
 clear hB0;rintro f H ⟨i,hi,g0,g1,g4,hP⟩;rw[aB g4];obtain⟨a1,a2,a3,a4,a5,a6,a7,k0,k1,k2,k3,k4,k5,k6,k7,k9⟩:=id hP;simp (disch:=omega) only[wt,seval,g1,g4,List.length_map];have ln:=JC (X.take i) s fun x hm=>hx x (List.mem_of_mem_take hm)
 have htl:(X.take i).length=i:=by rw[List.length_take];omega
 rw[htl]at ln;refine aQ (fun hlt=>?_) (fun hlt=>?_)
 ·have hlt':i<X.length:=by omega
  have hxi:=hx _ (List.getElem_mem hlt');rw[show X[i]=X.getD i z0x by rw[List.getD,List.getElem?_eq_getElem hlt'];rfl]at hxi;have hq1:=a3i hlt';have ht:=a3v X hlt';generalize X.getD i z0x=Y at hxi hq1 ht;obtain⟨b,bs,l⟩:=Y;simp only at hxi hq1;obtain⟨hbs,hll⟩:=hxi;obtain⟨s1,hs1⟩:∃ s1,s1=s.oM (X.take i):=⟨_,rfl⟩;rw[← hs1]at hP k1 k2 k3 k4 k5 k6 k7 ln;have hR:(jY bs l).length=l.length:=pJ hbs;simp (disch:=omega) only[wt,seval,g0];refine .inl ⟨aS (by kernel_rfl),?_⟩;simp (disch:=omega) only[wt,seval,List.set_cons_succ,g1,g4,k0,k4,List.length_map,hq1];refine⟨bH (by kernel_rfl),?_⟩;refine aH (fun f H=>∃ j:Nat,j≤l.length∧f 0=.hp 900000 1 0 0∧f 1=.iv (.sl (X.map zor))∧f 4=.iv (.int .i64 i)∧f 5=.iv (.int .i64 j)∧PK ((s1.MZ (b,bs,l)).outs (znl (bs.take j) (l.take j))) B H) (fun f H=>(l.length-aY f 5).toNat) ?_ ?_
  ·refine⟨0,by omega,by simp only[wt,seval,g0],by simp only[wt,seval,g1],by simp only[wt,seval,g4],by simp only[wt,seval];try rfl,a1,a2,a3,a4+1,a5,a6,a7,?_⟩;rw[List.take_zero,List.take_zero,show (s1.MZ (b,bs,l)).outs (znl [] [])=s1.MZ (b,bs,l) from QW _];simp only[wt,seval,k1,k2,k3,k5,k6,k7,k9]
   try (repeat' apply And.intro)<;>first|rfl|omega
  clear g0 g1 g4 k0 k1 k2 k3 k4 k5 k6 k7 k9 hP;clear f;rintro f H ⟨j,hj,g0,g1,g4,g5,hP⟩;rw[aB g5];obtain⟨a1,a2,a3,a4,a5,a6,a7,k0,k1,k2,k3,k4,k5,k6,k7,k9⟩:=id hP;have lo:=wM (s1.MZ (b,bs,l)) (znl (bs.take j) (l.take j));rw[NY (by rw[List.length_take,List.length_take,hbs]),List.length_take,Nat.min_eq_left hj,show (s1.MZ (b,bs,l)).ls=s1.ls from rfl,show (s1.MZ (b,bs,l)).fs=s1.fs from rfl,show (s1.MZ (b,bs,l)).ws=s1.ws from rfl]at lo;simp (disch:=omega) only[wt,seval,g1,g4,g5,List.length_map,hq1,hR];refine aQ (fun hlj=>?_) (fun hlj=>?_)
  ·have a7d:j<l.length:=by omega
   have hg:=Ug hbs a7d;simp (disch:=omega) only[wt,seval,g0];refine .inl ⟨aS (by kernel_rfl),?_⟩;simp (disch:=omega) only[wt,seval,g1,g4,g5,k0,List.length_map,hq1,hR,hg,fint_d1];refine sH (PU ((s1.MZ (b,bs,l)).outs (znl (bs.take j) (l.take j))) B [(bs.getD j none,(canon (cf l j)).2)] (by simp) (by omega) (by omega) (by omega)) (hP.upd (fZ (by decide)) _) (au _ _ _) (by decide) ?_;rintro _ _ E1 H1 ⟨rfl,rfl,rfl⟩ hp1 hk;simp (disch:=omega) only[wt,seval,g0,g1,g4,g5];refine⟨bH (by kernel_rfl),?_⟩;refine⟨⟨j+1,by omega,by omega,?_⟩,by omega⟩;rw[a3y bs (by omega),a3w l a7d,Zg (by rw[List.length_take,List.length_take,hbs]),QY];exact hp1
  ·simp (disch:=omega) only[wt,seval,g0,g1,g4];obtain rfl:j=l.length:=by omega
   rw[List.take_length,← hbs,List.take_length]at hP;refine⟨⟨i+1,by omega,by omega,?_⟩,by omega⟩;rw[ht,Tj,← hs1];exact hP
 ·obtain rfl:i=X.length:=by omega
  rw[List.take_length]at hP;simp (disch:=omega) only[wt,seval];exact wG ⟨_,_,⟨rfl,rfl,rfl⟩,hP⟩
set_option linter.defProp false
def a2O (x y:List Nat×List Nat):Bool:=(!x.2.isEmpty && !(y.1.isEmpty && y.2.isEmpty)) || (!y.2.isEmpty && !(x.1.isEmpty && x.2.isEmpty))
theorem a5t {x y:List Nat×List Nat}(h:clash x y=true):a2O x y=true:=by
 obtain⟨a,b⟩:=x;obtain⟨c,d⟩:=y;cases a<;>cases b<;>cases c<;>cases d<;>first|rfl|simp[clash]at h
def a2E (ops:Array Oper)(log:Log):Bool:=(oI ops.size fun i j=>reach ops 16 j i || !a2O (log.getD i ([],[])) (log.getD j ([],[]))) && (oI ops.size fun i j=>reach ops 16 j i || !(log.getD i ([],[])).2.contains 999) && log.all fun e=>!e.2.contains 998
theorem FM {n:Nat}{p q:Nat→Nat→Bool}(h:∀ i j,p i j=true→q i j=true)(hp:oI n p=true):oI n q=true:=by
 simp only[oI,List.all_eq_true,List.mem_range]at hp ⊢;exact fun j hj i hi=>h _ _ (hp j hj i hi)
theorem Xj {ops:Array Oper}{lg:Log}(h:a2E ops lg.reverse=true):UE ops lg:=by
 unfold a2E at h;simp only[Bool.and_eq_true]at h;unfold UE EM;simp only[Bool.and_eq_true];refine⟨⟨FM (fun i j hp=>?_) h.1.1,FM (fun i j hp=>?_) h.1.2⟩,h.2⟩
 ·simp only[Bool.or_eq_true,Bool.not_eq_true']at hp ⊢;rcases hp with hp|hp
  ·exact .inr hp
  ·exact .inl (Bool.eq_false_iff.2 fun hc=>by rw[a5t hc]at hp;cases hp)
 ·simp only[Bool.or_eq_true]at hp ⊢;exact hp.symm
def xr (n:Nat):Nat:=(BitVec.ofInt IntKind.u64.bits (n:Int) ^^^ BitVec.ofInt IntKind.u64.bits 6148914691236517205).toNat
theorem a3m (n:Nat):IntKind.u64.wrap ((BitVec.ofInt IntKind.u64.bits (n:Int) ^^^ BitVec.ofInt IntKind.u64.bits 6148914691236517205).toNat:Int)=(xr n:Int):=by
 have h:xr n<W:=(BitVec.ofInt IntKind.u64.bits (n:Int) ^^^ BitVec.ofInt IntKind.u64.bits 6148914691236517205).isLt;exact eX h
def scr (m:Nat)(l:List Nat):List Nat:=(l.take m).map xr++l.drop m
theorem ZL (l:List Nat):scr 0 l=l:=by simp[scr]
theorem Oi (m:Nat)(l:List Nat):(scr m l).length=l.length:=by simp[scr];omega
theorem a3M {l:List Nat}{j:Nat}(h:j<l.length):(scr j l).getD j 0=l.getD j 0:=by
 rw[scr,List.getD,List.getElem?_append_right (by simp;omega),List.length_map,List.length_take,Nat.min_eq_left (by omega),Nat.sub_self,List.getElem?_drop,Nat.add_zero];rfl
theorem a3L {l:List Nat}{j:Nat}(h:j<l.length):(scr j l).set j (xr (l.getD j 0))=scr (j+1) l:=by
 have e:l.drop j=l.getD j 0::l.drop (j+1):=by rw[List.drop_eq_getElem_cons h];simp[List.getD,h]
 rw[scr,scr,List.set_append_right _ _ (by simp;omega),List.length_map,List.length_take,Nat.min_eq_left (by omega),Nat.sub_self,e,List.set_cons_zero,List.take_add_one,List.map_append,List.append_assoc]
 congr 1
 simp[List.getD,h]
def lsr (n:Nat)(m:Nat→Nat)(O:List (OB×List Nat)):List AV:=(List.range n).map (fun k=>AV.hv (k+10000) 1 0 (m k))++O.map fun x=>AV.iv (jo x.1 x.2)
def fsr (n:Nat)(O:List (OB×List Nat)):List AV:=(List.range n).map (fun k=>AV.hs (k+10000) 1)++O.map fun _=>AV.iv (.sl [])
theorem RD {n:Nat}{m:Nat→Nat}{O:List (OB×List Nat)}{i:Nat}(h:i<n):(lsr n m O).getD i AV.undef=.hv (i+10000) 1 0 (m i):=by
 rw[lsr,List.getD,List.getElem?_append_left (by simpa using h)];simp[h]
theorem a2K {n:Nat}{O:List (OB×List Nat)}{i:Nat}(h:i<n):(fsr n O).getD i AV.undef=.hs (i+10000) 1:=by
 rw[fsr,List.getD,List.getElem?_append_left (by simpa using h)];simp[h]
theorem OW {n:Nat}{m:Nat→Nat}{O:List (OB×List Nat)}{i:Nat}(h:n≤i)(h2:i<n+O.length):(lsr n m O).getD i AV.undef=.iv (jo (O.getD (i-n) o0).1 (O.getD (i-n) o0).2):=by
 have:i-n<O.length:=by omega
 rw[lsr,List.getD,List.getElem?_append_right (by simpa using h)];simp[this,List.getD]
theorem XP {n:Nat}{O:List (OB×List Nat)}{i:Nat}(h:n≤i)(h2:i<n+O.length):(fsr n O).getD i AV.undef=.iv (.sl []):=by
 have:i-n<O.length:=by omega
 rw[fsr,List.getD,List.getElem?_append_right (by simpa using h)];simp[this]
theorem jH (n:Nat)(m:Nat→Nat)(O:List (OB×List Nat)):(lsr n m O).length=n+O.length:=by simp[lsr]
theorem mW (n:Nat)(O:List (OB×List Nat)):(fsr n O).length=n+O.length:=by simp[fsr]
def SK (n:Nat)(m:Nat→Nat)(X:Nat→List Nat)(O:List (OB×List Nat))(H:AL.Hp):Prop:=∃ a1 a2 r,H 900000=.nst 1 41 (.hs 900001 a1::.hs 900002 a2::r)∧H 900001=.nst a1 27 (lsr n m O)∧H 900002=.nst a2 27 (fsr n O)∧∀ k<n,H (k+10000)=.blk false 1 148 1 (bW (X k))
def FS (H H':AL.Hp):Prop:=∀ u,u=999∨200000≤u→H' u=H u
theorem a6y {n:Nat}(hn:n≤100000){m:Nat→Nat}{X:Nat→List Nat}{O:List (OB×List Nat)}{H0:AL.Hp}(h:SK n m X O H0)(X':Nat→List Nat):∃ H,SK n m X' O H∧FS H0 H:=by
 obtain⟨a1,a2,r,k0,k1,k2,kx⟩:=h;refine⟨fun k=>if 10000≤k∧k<10000+n then .blk false 1 148 1 (bW (X' (k-10000))) else H0 k,⟨a1,a2,r,?_,?_,?_,fun k hk=>?_⟩,fun u hu=>?_⟩
 ·simp only;rw[if_neg (by omega)];exact k0
 ·simp only;rw[if_neg (by omega)];exact k1
 ·simp only;rw[if_neg (by omega)];exact k2
 ·simp only;rw[if_pos (by omega),Nat.add_sub_cancel]
 ·simp only;by_cases e:u=999
  ·rw[if_neg (by omega)]
  ·rw[if_neg (by omega)]
set_option maxRecDepth 8000 in
set_option maxHeartbeats 4000000 in
theorem Oh (n:Nat)(m:Nat→Nat)(X:Nat→List Nat)(O:List (OB×List Nat))(hn:n+O.length≤100000)(hm:∀ k<n,m k≤(X k).length∧(X k).length≤2^41)(hO:∀ x∈O,x.2.length≤2^41)(H0:AL.Hp)(hB0:SK n m X O H0):ACI Tryz.prog 39 [.hp 900000 1 0 0] H0 (fun _ H'=>SK n m (fun k=>scr (m k) (X k)) O H'∧FS H0 H'):=by
 refine ACI.aA zi0 (rs:=[]) aX Tryz.func39 (by rfl) (by rfl) (by rfl) (by rfl) (by rfl) (by rfl) ?_ ?_
 ·obtain⟨H,h⟩:=a6y (by omega) hB0 (fun k=>scr (m k) (X k));exact⟨.dead,H,h⟩
 simp only[wt,seval];refine aH (fun f H=>∃ i:Nat,i≤n+O.length∧f 0=.hp 900000 1 0 0∧f 2=.iv (.int .i64 i)∧SK n m (fun k=>if k<i then scr (m k) (X k) else X k) O H∧FS H0 H) (fun f H=>(n+O.length-aY f 2).toNat) ?_ ?_
 ·exact⟨0,by omega,by simp only[wt,seval],by simp only[wt,seval];try rfl,by simpa using hB0,fun _ _=>rfl⟩
 clear hB0;rintro f H ⟨i,hi,g0,g2,hP,hQ⟩;rw[aB g2];obtain⟨a1,a2,r,k0,k1,k2,kx⟩:=id hP;simp (disch:=omega) only[wt,seval,g0,g2,k0,k2,mW];refine aQ (fun hlt=>?_) (fun hlt=>?_)
 ·have hlt':i<n+O.length:=by omega
  simp (disch:=omega) only[wt,seval];by_cases hin:i<n
  ·refine aH (fun f H=>∃ j:Nat,j≤m i∧f 0=.hp 900000 1 0 0∧f 2=.iv (.int .i64 i)∧f 3=.iv (.int .i64 j)∧SK n m (fun k=>if k<i then scr (m k) (X k) else if k=i then scr j (X k) else X k) O H∧FS H0 H) (fun f H=>(m i-aY f 3).toNat) ?_ ?_
   ·refine⟨0,by omega,by simp only[wt,seval,g0],by simp only[wt,seval,g2],by simp only[wt,seval];try rfl,⟨a1,a2,r,k0,k1,k2,fun k hk=>?_⟩,hQ⟩;rw[kx k hk];simp only;by_cases h1:k<i
    ·rw[if_pos h1,if_pos h1]
    ·rw[if_neg h1,if_neg h1,ZL,ite_self]
   clear g0 g2 k0 k1 k2 kx hP hQ;clear f;rintro f H ⟨j,hj,g0,g2,g3,hP,hQ⟩;rw[aB g3];obtain⟨a1,a2,r,k0,k1,k2,kx⟩:=id hP;have hx:H (i+10000)=.blk false 1 148 1 (bW (scr j (X i))):=by simpa using kx i hin
   have hm1:=hm i hin;by_cases hlj:(j:Int)<(m i:Int)
   ·have h0:(0:Int)<((X i).length:Int):=by omega
    have hjl:j<(X i).length:=by omega
    have b1j:j<(scr j (X i)).length:=by rw[Oi];exact hjl
    have hat:(bW (scr j (X i))).getD j []=[.int .u64 (((X i).getD j 0:Nat):Int)]:=by rw[Ir b1j,a3M hjl]
    simp (disch:=omega) only[wt,seval,g0,g2,g3,k0,k1,k2,mW,jH,RD hin,a2K hin,hx,Oi,Nat.add_zero,EG,hlj,h0,hat];refine .inl ⟨aS (by kernel_rfl),?_⟩
    first|exact Xj (by kernel_rfl)|refine⟨Xj (by kernel_rfl),?_⟩
    refine⟨⟨j+1,by omega,by omega,⟨a1,a2,r,?_,?_,?_,fun k hk=>?_⟩,fun u hu=>(ak _ _ (by omega)).trans (hQ u hu)⟩,by omega⟩
    ·rw[ak _ _ (by omega)];exact k0
    ·rw[ak _ _ (by omega)];exact k1
    ·rw[ak _ _ (by omega)];exact k2
    ·simp only;by_cases h1:k=i
     ·subst h1;rw[au,a3m,AY,a3L hjl,if_neg (Nat.lt_irrefl k),if_pos rfl]
     ·rw[ak _ _ (by omega),kx k hk];simp only;rw[if_neg h1];by_cases h2:k<i
      ·rw[if_pos h2,if_pos h2]
      ·rw[if_neg h2,if_neg h2,if_neg h1]
   ·simp (disch:=omega) only[wt,seval,g0,g2,g3,k0,k1,jH,RD hin,hx,Nat.add_zero,EG,hlj];obtain rfl:j=m i:=by omega
    refine⟨⟨i+1,by omega,by omega,⟨a1,a2,r,k0,k1,k2,fun k hk=>?_⟩,hQ⟩,by omega⟩;rw[kx k hk];simp only;by_cases h1:k<i
    ·rw[if_pos h1,if_pos (by omega)]
    ·by_cases h2:k=i
     ·subst h2;rw[if_neg h1,if_pos rfl,if_pos (by omega)]
     ·rw[if_neg h1,if_neg h2,if_neg (by omega)]
  ·have hlo:=OW (m:=m) (Nat.le_of_not_lt hin) hlt';have hfo:=XP (Nat.le_of_not_lt hin) hlt';have hod:i-n<O.length:=by omega
   have hol:(O.getD (i-n) o0).2.length≤2^41:=by rw[List.getD,List.getElem?_eq_getElem hod];exact hO _ (List.getElem_mem hod)
   refine aH (fun f H'=>f 0=.hp 900000 1 0 0∧f 2=.iv (.int .i64 i)∧f 3=.iv (.int .i64 0)∧H'=H) (fun f H=>0) ?_ ?_
   ·exact⟨by simp only[wt,seval,g0],by simp only[wt,seval,g2],by simp only[wt,seval];try rfl,rfl⟩
   clear g0 g2;clear f;rintro f H' ⟨g0,g2,g3,rfl⟩;by_cases h0:(0:Int)<((O.getD (i-n) o0).2.length:Int)
   ·simp (disch:=omega) only[wt,seval,g0,g2,g3,k0,k1,k2,mW,jH,hlo,hfo,Nat.add_zero,EG,h0];exact⟨⟨i+1,by omega,by omega,⟨a1,a2,r,k0,k1,k2,fun k hk=>by rw[kx k hk];simp only;rw[if_pos (by omega),if_pos (by omega)]⟩,hQ⟩,by omega⟩
   ·simp (disch:=omega) only[wt,seval,g0,g2,g3,k0,k1,jH,hlo,Nat.add_zero,EG,h0];exact⟨⟨i+1,by omega,by omega,⟨a1,a2,r,k0,k1,k2,fun k hk=>by rw[kx k hk];simp only;rw[if_pos (by omega),if_pos (by omega)]⟩,hQ⟩,by omega⟩
 ·simp (disch:=omega) only[wt,seval];obtain rfl:i=n+O.length:=by omega
  refine wG ⟨⟨a1,a2,r,k0,k1,k2,fun k hk=>?_⟩,hQ⟩;rw[kx k hk];simp only;rw[if_pos (by omega)]
set_option linter.defProp false
theorem wH {w0 w:World}{D0:Nat→Prop}{N:Nat}{f f':AL.Fr}{H H':AL.Hp}{β β':Nat→Value}{a:Act}(R:a7z w0 D0 N f H β a w)
  (tmps:∀ t,aj w (DD H' β' D0) H' β' (f' t) (a.tmps.getD t Go.undef))
  (own:∀ h st e sz rows,H' h=.blk false st e sz rows→AL.Own w (DD H' β' D0) w0.heap.size (fun _=>False) (β' h) e sz rows)
  (frz:∀ h st e sz rows,H' h=.blk true st e sz rows→(∀ r∈rows,r.length=sz)∧Rep w (DD H' β' D0) (.sl rows) (β' h)∧a7C (β' h))
  (dis:∀ h h',h≠h'→(H' h).bV→(H' h').bV→∀ g,aG (β' h)=some g→aG (β' h')≠some g)
  (nst:∀ h st e rows,H' h=.nst st e rows→NW w (DD H' β' D0) H' β' w0.heap.size (fun _=>False) (β' h) e rows)
  (mrk:∀ h B,H' h=.mrk B→B≤w.heap.size) (tie:∀ h x v,H' h=.tie x v→aj w (DD H' β' D0) H' β' x v):a7z w0 D0 N f' H' β' a w :=
 ⟨R.os,R.tape,R.output,R.size,R.keep,R.old,R.kW,R.defers,R.rnd,R.Lh,fun _ _ h=>h.elim,tmps,own,frz,dis,nst,mrk,tie⟩
def Y6:AV→AV
 | .iv x=>.iv x
 | _=>.dead
theorem Y5 {w:World}{D D':Nat→Prop}{H H':AL.Hp}{β β':Nat→Value}(g:bD w D w D'){x:AV}{v:Value}(h:aj w D H β x v):aj w D' H' β' (Y6 x) v:=by
 cases x<;>first|(simp only[Y6,aj]at h ⊢;exact h.mono g)|simp[Y6,aj]
def ps0:PS:=⟨[],[],[],[],[],[],[]⟩
def H00 (B:Nat):AL.Hp:=fun k=>if k=900000 then .nst 1 41 [.hs 900001 1,.hs 900002 1,.hs 900003 1,.hs 900004 1,.hs 900005 1,.hs 900006 1,.hs 900007 1] else if k=900001 then .blk false 1 27 1 [] else if k=900002 then .blk false 1 27 1 [] else if k=900003 then .blk false 1 27 1 [] else if k=900004 then .blk false 1 49 1 [] else if k=900005 then .blk false 1 22 1 [] else if k=900006 then .blk false 1 49 1 [] else if k=900007 then .blk false 1 22 1 [] else if k=999 then .mrk B else .none
theorem a8L (B:Nat):PK ps0 B (H00 B):=⟨1,1,1,1,1,1,1,by simp[H00,ps0]⟩
theorem pG (B k:Nat):k=900000∨(∃ e,H00 B k=.blk false 1 e 1 []∧900001≤k∧k≤900007)∨H00 B k=.mrk B∨H00 B k=.none:=by
 by_cases e0:k=900000
 ·exact .inl e0
 by_cases e1:k=900001
 ·exact .inr (.inl ⟨_,by subst e1;simp[H00];rfl,by omega,by omega⟩)
 by_cases e2:k=900002
 ·exact .inr (.inl ⟨_,by subst e2;simp[H00];rfl,by omega,by omega⟩)
 by_cases e3:k=900003
 ·exact .inr (.inl ⟨_,by subst e3;simp[H00];rfl,by omega,by omega⟩)
 by_cases e4:k=900004
 ·exact .inr (.inl ⟨_,by subst e4;simp[H00];rfl,by omega,by omega⟩)
 by_cases e5:k=900005
 ·exact .inr (.inl ⟨_,by subst e5;simp[H00];rfl,by omega,by omega⟩)
 by_cases e6:k=900006
 ·exact .inr (.inl ⟨_,by subst e6;simp[H00];rfl,by omega,by omega⟩)
 by_cases e7:k=900007
 ·exact .inr (.inl ⟨_,by subst e7;simp[H00];rfl,by omega,by omega⟩)
 by_cases e9:k=999
 ·exact .inr (.inr (.inl (by subst e9;simp[H00])))
 ·exact .inr (.inr (.inr (by simp only[H00];rw[if_neg e0,if_neg e1,if_neg e2,if_neg e3,if_neg e4,if_neg e5,if_neg e6,if_neg e7,if_neg e9])))
theorem a1u {w0 w:World}{D0:Nat→Prop}{N:Nat}{f:AL.Fr}{H:AL.Hp}{β:Nat→Value}{a:Act}(R:a7z w0 D0 N f H β a w){t h:Nat}(ht:f t=.hp h 1 0 0)(hH:H h=.nst 1 41 [.jA,.jA,.jA,.jA,.jA,.jA,.jA]) :
  ∃ f' H' β',(PK ps0 w.heap.size H'∧f' t=.hp 900000 1 0 0∧∀ u,u≠t→f' u=Y6 (f u))∧a7z w0 D0 N f' H' β' a w:=by
 have hn:=R.nst _ _ _ _ hH;have hm:(H h).bV:=by rw[hH];trivial
 obtain⟨β',hβ⟩:∃ β':Nat→Value,β'=fun k=>if k=900000 then β h else .slice none 0 0:=⟨_,rfl⟩
 have b0:β' 900000=β h:=by rw[hβ];simp
 have b1:∀ k,k≠900000→β' k=.slice none 0 0:=fun k hk=>by rw[hβ];simp only;rw[if_neg hk]
 have h0:H00 w.heap.size 900000=.nst 1 41 [.hs 900001 1,.hs 900002 1,.hs 900003 1,.hs 900004 1,.hs 900005 1,.hs 900006 1,.hs 900007 1]:=by simp[H00]
 have hd:∀ b,DD (H00 w.heap.size) β' D0 b→DD H β D0 b:=by
  rintro b (hb|⟨k,hk,hb⟩)
  ·exact .inl hb
  ·by_cases e:k=900000
   ·subst e;rw[b0]at hb;exact .inr ⟨h,hm,hb⟩
   ·rw[b1 k e]at hb;simp[aG]at hb
 have g:bD w (DD H β D0) w (DD (H00 w.heap.size) β' D0):=bD.of_sub hd;have hx:=R.tmps t;rw[ht]at hx;simp only[aj]at hx;obtain⟨gb,n,cap,q1,q2⟩:=hx.2 (by rw[hH];rfl);refine⟨fun u=>if u=t then .hp 900000 1 0 0 else Y6 (f u),_,β',⟨a8L _,if_pos rfl,fun u hu=>if_neg hu⟩,wH R (fun u=>?_) (fun k st e sz rows hk=>?_) (fun k st e sz rows hk=>?_) (fun k k' hne m1 m2 gg hg=>?_) (fun k st e rows hk=>?_) (fun k B hk=>?_) (fun k x v hk=>?_)⟩
 ·by_cases e:u=t
  ·subst e;simp only[if_true,aj];rw[h0];exact⟨Nat.le_refl _,fun _=>⟨gb,n,cap,by rw[b0];exact q1,by rw[q2,hH];rfl⟩⟩
  ·simp only[e,if_false];exact Y5 g (R.tmps u)
 ·rcases pG w.heap.size k with rfl|⟨e',h1,h2,h3⟩|h1|h1
  ·rw[h0]at hk;cases hk
  ·rw[h1]at hk;cases hk;rw[b1 k (by omega)];exact⟨by simp,.inl ⟨rfl,rfl⟩⟩
  ·rw[h1]at hk;cases hk
  ·rw[h1]at hk;cases hk
 ·rcases pG w.heap.size k with rfl|⟨e',h1,h2,h3⟩|h1|h1
  ·rw[h0]at hk;cases hk
  ·rw[h1]at hk;cases hk
  ·rw[h1]at hk;cases hk
  ·rw[h1]at hk;cases hk
 ·by_cases e:k'=900000
  ·have e2:k≠900000:=fun h=>hne (h.trans e.symm)
   rw[b1 k e2]at hg;simp[aG]at hg
  ·rw[b1 k' e];simp[aG]
 ·rcases pG w.heap.size k with rfl|⟨e',h1,h2,h3⟩|h1|h1
  ·rw[h0]at hk;cases hk;rw[b0];rcases hn with ⟨hr,_⟩|⟨g',cap',cur,p1,p2,p3,p4,p5,p6,p7,p8⟩
   ·cases hr
   ·refine .inr ⟨g',cap',cur,p1,p2,p3,p4,p5,p6,?_,p8⟩;simp only[List.length_cons,List.length_nil]at p7 ⊢;have hs:∀ i,1≤i→i≤7→(H00 w.heap.size (900000+i)).stamp=1:=fun i a b=>by
     rcases pG w.heap.size (900000+i) with e|⟨e',h1,_⟩|h1|h1
     ·omega
     ·rw[h1];rfl
     ·exact absurd h1 (by have:i=1∨i=2∨i=3∨i=4∨i=5∨i=6∨i=7:=by omega
                          rcases this with rfl|rfl|rfl|rfl|rfl|rfl|rfl<;>simp[H00])
     ·exact absurd h1 (by have:i=1∨i=2∨i=3∨i=4∨i=5∨i=6∨i=7:=by omega
                          rcases this with rfl|rfl|rfl|rfl|rfl|rfl|rfl<;>simp[H00])
    have one:∀ i v,1≤i→i≤7→v=Value.slice none 0 0→aj w (DD (H00 w.heap.size) β' D0) (H00 w.heap.size) β' (.hs (900000+i) 1) v:=fun i v a b hv=>by
     simp only[aj];rw[hs i a b,b1 _ (by omega)];exact⟨Nat.le_refl _,fun _=>hv⟩
    generalize List.take _ cur.toList=cs at p7
    match cs,p7 with
    | [v1,v2,v3,v4,v5,v6,v7],p7 =>
     simp only[aF,aj,and_true]at p7;obtain⟨r1,r2,r3,r4,r5,r6,r7⟩:=p7;simp only[aF,and_true];exact⟨one 1 _ (by omega) (by omega) r1,one 2 _ (by omega) (by omega) r2,one 3 _ (by omega) (by omega) r3,one 4 _ (by omega) (by omega) r4,one 5 _ (by omega) (by omega) r5,one 6 _ (by omega) (by omega) r6,one 7 _ (by omega) (by omega) r7⟩
  ·rw[h1]at hk;cases hk
  ·rw[h1]at hk;cases hk
  ·rw[h1]at hk;cases hk
 ·rcases pG w.heap.size k with rfl|⟨e',h1,h2,h3⟩|h1|h1
  ·rw[h0]at hk;cases hk
  ·rw[h1]at hk;cases hk
  ·rw[h1]at hk;cases hk;exact Nat.le_refl _
  ·rw[h1]at hk;cases hk
 ·rcases pG w.heap.size k with rfl|⟨e',h1,h2,h3⟩|h1|h1
  ·rw[h0]at hk;cases hk
  ·rw[h1]at hk;cases hk
  ·rw[h1]at hk;cases hk
  ·rw[h1]at hk;cases hk
end Go.Proofs.YtdpngipofekcfaaGreat
