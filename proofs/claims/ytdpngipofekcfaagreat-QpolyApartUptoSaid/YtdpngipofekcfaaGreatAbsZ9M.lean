/-
 Contracts of the functions that the law reaches.
-/
import Derived.Test.YtdpngipofekcfaaGreatAbsZ3M
namespace Go.AL
variable {zi:Zi}
open Go.RowKit
set_option linter.unusedSimpArgs false
set_option linter.unusedVariables false
end Go.AL

namespace Go.AL
variable {zi:Zi}
open Go.RowKit
set_option linter.unusedSimpArgs false
set_option linter.unusedVariables false
abbrev PostB:=Exit→Fr→Hp→(Nat→Value)→Prop
def a5M (G:Gh)(M:Nat→Prop)(w0:World)(D0:Nat→Prop)(N:Nat)(Q:PostB):Exit→Act→World→Prop
 | .panic _,_,_=>False
 | .outgrown,_,_=>False
 | e,a,w=>∃ f H β,Q e f H β∧Rel G M w0 D0 N f H β a w
def a9N (S:Fr→Hp→(Nat→Value)→Prop)(Q:PostB):PostB
 | .normal,f,H,β=>S f H β
 | e,f,H,β=>Q e f H β
def Ti (id:Nat)(Q:PostB):PostB
 | .exit id',f,H,β=>if id'=id then Q .normal f H β else Q (.exit id') f H β
 | e,f,H,β=>Q e f H β
def a7D (I:Fr→Hp→(Nat→Value)→Prop)(μ:Fr→Nat)(n:Nat)(Q:PostB):PostB
 | .normal,f,H,β=>I f H β∧μ f<n
 | e,f,H,β=>Q e f H β
def SB (P:Program)(N:Nat)(c:Code)(Q:PostB)(f:Fr)(H:Hp)(β:Nat→Value):Prop :=
 ∀ (G:Gh) (M:Nat→Prop) (w0:World) (D0:Nat→Prop) (a:Act) (w:World),Rel G M w0 D0 N f H β a w→c.wpIn (Wd none) 0 P (a5M G M w0 D0 N Q) a w
def LB (P:Program)(N:Nat)(ops:Array Oper)(Q:PostB)(rest:List Oper)(f:Fr)(H:Hp)(β:Nat→Value):Prop :=
 ∀ (G:Gh) (M:Nat→Prop) (w0:World) (D0:Nat→Prop) (a:Act) (w:World),Rel G M w0 D0 N f H β a w→wpListIn (Wd none) 0 P ops (a5M G M w0 D0 N Q) rest a w
def qY (H:Hp)(β:Nat→Value)(H':Hp)(β':Nat→Value):Prop:=∀ k,(H k).bV→(H' k).stamp=(H k).stamp→β' k=β k
section
variable {P:Program} {N:Nat} {Q:PostB} {f:Fr} {H:Hp} {β:Nat→Value}
theorem Rel.yF {G:Gh}{M:Nat→Prop}{w0:World}{D0:Nat→Prop}{f':Fr}{H':Hp}{β':Nat→Value}{a:Act}{w:World}(R:Rel (Go.AL.Ap G H β) M w0 D0 N f' H' β' a w):qY H β H' β'∧Rel G M w0 D0 N f' H' β' a w :=
 ⟨fun k hk hs=>by
  have h:=R.gh (.hs k (H k).stamp) (β k) (.inr ⟨k,hk,rfl,rfl⟩);simp only[aj]at h;exact(h.2 hs.symm).symm,R.a4N (fun x v h=>.inl h) rfl⟩
theorem SB.aw (zx:Zi)(hm:P.follows .mixedOrders=true){c:Code}(hn:dF c=true)(hd:codeOk N c=true){Qa:Post}(h : @AW zx P c Qa f H)(hq:∀ e f' H' β',Qa e f' H'→qY H β H' β'→Q e f' H' β'):SB P N c Q f H β:=fun G M w0 D0 a w R =>
 wpIn_mono (dN (zi:=zx) hm c none _ _ w0 Qa f H β a w (.inl hn) hd h R.Ap) fun e a w hc=>by
  cases e with
  | panic _=>exact hc.elim
  | outgrown=>exact hc.elim
  | normal=>obtain⟨f',H',β',hk,R'⟩:=hc;obtain⟨s,R'⟩:=R'.yF;exact⟨f',H',β',hq _ _ _ _ hk s,R'⟩
  | exit id=>obtain⟨f',H',β',hk,R'⟩:=hc;obtain⟨s,R'⟩:=R'.yF;exact⟨f',H',β',hq _ _ _ _ hk s,R'⟩
  | ret=>obtain⟨f',H',β',hk,R'⟩:=hc;obtain⟨s,R'⟩:=R'.yF;exact⟨f',H',β',hq _ _ _ _ hk s,R'⟩
  | goto l=>obtain⟨f',H',β',hk,R'⟩:=hc;obtain⟨s,R'⟩:=R'.yF;exact⟨f',H',β',hq _ _ _ _ hk s,R'⟩
theorem SB.ent {c:Code}(he:∀ (G:Gh) (M:Nat→Prop) (w0:World) (D0:Nat→Prop) (a:Act) (w:World),Rel G M w0 D0 N f H β a w→∃ f' H' β',SB P N c Q f' H' β'∧Rel G M w0 D0 N f' H' β' a w):SB P N c Q f H β:=fun G M w0 D0 a w R=>by
 obtain⟨f',H',β',hs,R'⟩:=he G M w0 D0 a w R;exact hs G M w0 D0 a w R'
theorem SB.weak {c:Code}{f':Fr}{H':Hp}(k:Weak f H f' H')(h:∀ β',qY H β H' β'→SB P N c Q f' H' β'):SB P N c Q f H β:=fun G M w0 D0 a w R=>by
 obtain⟨β',R'⟩:=R.Ap.weak k;obtain⟨s,R'⟩:=R'.yF;exact h β' s G M w0 D0 a w R'
theorem SB.seq {x y:Code}{S:Fr→Hp→(Nat→Value)→Prop}(hx:SB P N x (a9N S Q) f H β)(hy:∀ f H β,S f H β→SB P N y Q f H β):SB P N (.seq x y) Q f H β:=fun G M w0 D0 a w R=>by
 refine wpIn_seq (wpIn_mono (hx G M w0 D0 a w R) fun e a w hq=>?_);cases e with
 | normal=>obtain⟨f,H,β,hk,R⟩:=hq;exact hy f H β hk G M w0 D0 a w R
 | panic _=>exact hq.elim
 | outgrown=>exact hq.elim
 | exit id=>obtain⟨f,H,β,hk,R⟩:=hq;exact⟨f,H,β,hk,R⟩
 | ret=>obtain⟨f,H,β,hk,R⟩:=hq;exact⟨f,H,β,hk,R⟩
 | goto l=>obtain⟨f,H,β,hk,R⟩:=hq;exact⟨f,H,β,hk,R⟩
theorem SB.mono {c:Code}{Q':PostB}(h:SB P N c Q f H β)(hq:∀ e f H β,Q e f H β→Q' e f H β):SB P N c Q' f H β:=fun G M w0 D0 a w R=>wpIn_mono (h G M w0 D0 a w R) fun e a w hq'=>by
 cases e with
 | panic _=>exact hq'.elim
 | outgrown=>exact hq'.elim
 | normal=>obtain⟨f,H,β,hk,R⟩:=hq';exact⟨f,H,β,hq _ _ _ _ hk,R⟩
 | exit id=>obtain⟨f,H,β,hk,R⟩:=hq';exact⟨f,H,β,hq _ _ _ _ hk,R⟩
 | ret=>obtain⟨f,H,β,hk,R⟩:=hq';exact⟨f,H,β,hq _ _ _ _ hk,R⟩
 | goto l=>obtain⟨f,H,β,hk,R⟩:=hq';exact⟨f,H,β,hq _ _ _ _ hk,R⟩
theorem SB.skip (h:Q .normal f H β):SB P N .skip Q f H β:=fun G M w0 D0 a w R=>wpIn_skip ⟨f,H,β,h,R⟩
theorem SB.seg (zx:Zi)(hm:P.follows .mixedOrders=true){S:Fr→Hp→Prop}:∀ (n:Nat) {c d:Code} {f:Fr} {H:Hp} {β:Nat→Value},dF c=true→codeOk N c=true→@AWs zx P S n c (fun _ _ _=>False) f H→kQ n c=some d→(∀ f' H' β',S f' H'→qY H β H' β'→SB P N d Q f' H' β')→SB P N c Q f H β:=by
 intro n;have key:∀ (n:Nat) {c d:Code} {f:Fr} {H:Hp} {β:Nat→Value} {G:Gh} {M:Nat→Prop} {w0:World} {D0:Nat→Prop} {K:Exit→Act→World→Prop} {a:Act} {w:World},dF c=true→codeOk N c=true→@AWs zx P S n c (fun _ _ _=>False) f H→kQ n c=some d→Rel G M w0 D0 N f H β a w→(∀ f H β a w,S f H→Rel G M w0 D0 N f H β a w→d.wpIn (Wd none) 0 P K a w)→c.wpIn (Wd none) 0 P K a w:=by
  intro n c d f H β G M w0 D0 K a w hn hd h hc R hk;refine xO (zi:=zx) hm n c _ f H β a w (.inl hn) hd h R (fun f H β a w hs R=>?_) fun e a w _ hq=>?_
  ·rw[IG hc];exact hk f H β a w hs R
  ·cases e with
   | panic _=>exact hq.elim
   | outgrown=>exact hq.elim
   | normal=>obtain⟨_,_,_,hk,_⟩:=hq;exact hk.elim
   | ret=>obtain⟨_,_,_,hk,_⟩:=hq;exact hk.elim
   | exit id=>obtain⟨_,_,_,hk,_⟩:=hq;exact hk.elim
   | goto l=>obtain⟨_,_,_,hk,_⟩:=hq;exact hk.elim
 intro c d f H β hn hd h hc hy G M w0 D0 a w R;refine key n hn hd h hc R.Ap fun f' H' β' a w hs R'=>?_;obtain⟨s,R'⟩:=R'.yF;exact hy f' H' β' hs s G M w0 D0 a w R'
theorem SB.block {id:Nat}{c:Code}(h:SB P N c (Ti id Q) f H β):SB P N (.block id c) Q f H β:=fun G M w0 D0 a w R=>by
 refine wpIn_block (wpIn_mono (h G M w0 D0 a w R) fun e a w hq=>?_);cases e with
 | exit id' =>
  obtain⟨f,H,β,hk,R⟩:=hq;simp only[Ti]at hk;simp only[Exit.inBlock];split at hk
  ·rename_i hid;rw[if_pos hid];exact⟨f,H,β,hk,R⟩
  ·rename_i hid;rw[if_neg hid];exact⟨f,H,β,hk,R⟩
 | panic _=>exact hq.elim
 | outgrown=>exact hq.elim
 | _=>exact hq
theorem SB.exit {id:Nat}(h:Q (.exit id) f H β):SB P N (.exit id) Q f H β:=fun G M w0 D0 a w R=>wpIn_exit ⟨f,H,β,h,R⟩
theorem SB.loop {c:Code}(I:Fr→Hp→(Nat→Value)→Prop)(μ:Fr→Nat)(h0:I f H β)(hr:∀ f H β,I f H β→SB P N c (a7D I μ (μ f) Q) f H β):SB P N (.loop c) Q f H β:=fun G M w0 D0 a w R=>by
 refine qh (fun n a w=>∃ f H β,I f H β∧Rel G M w0 D0 N f H β a w∧μ f=n) ?_ (m:=μ f) ⟨f,H,β,h0,R,rfl⟩;rintro n a w ⟨f,H,β,hI,R,rfl⟩;refine wpIn_mono (hr f H β hI G M w0 D0 a w R) fun e a w hq=>?_;cases e with
 | normal=>obtain⟨f',H',β',hk,R'⟩:=hq;exact⟨_,hk.2,f',H',β',hk.1,R',rfl⟩
 | panic _=>exact hq.elim
 | outgrown=>exact hq.elim
 | _=>exact hq
theorem SB.region {id:Nat}{l:List Oper}(h:LB P N l.toArray Q l f H β):SB P N (.region id l.toArray false) Q f H β:=fun G M w0 D0 a w R=>wpIn_region_list (h G M w0 D0 a w R)
theorem LB.nil {ops:Array Oper}(h:Q .normal f H β):LB P N ops Q [] f H β:=fun G M w0 D0 a w R=>⟨f,H,β,h,R⟩
theorem LB.ops (zx:Zi){l l1 l2 rest:List Oper}{K:Fr→Hp→Log→Prop}(hl:rest=l1++l2)(hd:∀ o∈l1,∀ d,o.dst=some d→d<N)(h : @eP zx P (l.map (·.dst)) l1 K f H [])(k:∀ f' H' lg β',K f' H' lg→qY H β H' β'→LB P N l.toArray Q l2 f' H' β'):LB P N l.toArray Q rest f H β:=fun G M w0 D0 a w R =>
 Yt (zi:=zx) hl hd R.Ap h fun f' H' lg β' a w hk R'=>by
  obtain⟨s,R'⟩:=R'.yF;exact k f' H' lg β' hk s G M w0 D0 a w R'
theorem Zm {o:Oper}{z:Value}{w w2:World}{a:Act}{ro:Option Nat}{K:Act→World→Prop}{Q:Exit→Act→World→Prop}(h:(execOp a.eval o).run P w=.ok (.value z) w2)(hnd:∀ c,o.op≠.defer c)(hK:K (a.put o.dst z) w2):o.wpIn (Wd ro) 0 P a w K Q:=by
 refine⟨fun _ _=>trivial,?_⟩;show o.uponIn (Wd ro) 0 P a K Q ((o.semAt ro a.eval).run P w);rw[Aw hnd,h];exact hK
theorem LB.one {ops:Array Oper}{o:Oper}{rest:List Oper}(hg:o.guard=none)(hnd:∀ c,o.op≠.defer c)
  (h:∀ (G:Gh) (M:Nat→Prop) (w0:World) (D0:Nat→Prop) (a:Act) (w:World),Rel G M w0 D0 N f H β a w→∃ z w' f' H' β',(execOp a.eval o).run P w=.ok (.value z) w'∧LB P N ops Q rest f' H' β'∧Rel G M w0 D0 N f' H' β' (a.put o.dst z) w'):LB P N ops Q (o::rest) f H β:=fun G M w0 D0 a w R=>by
 obtain⟨z,w',f',H',β',hx,hk,R'⟩:=h G M w0 D0 a w R;exact a0Q hg (Zm hx hnd (hk G M w0 D0 _ _ R'))
theorem ACI.a7q (zx : Zi) {g : Nat} {avs : List AV} {Z : AV → Hp → Prop} {fn : Func} {body : Code} {rs : List ResultVar} (hf : P.funcs[g]? = some fn) (hb : fn.body = some body) (hr : fn.results.toList = rs) (hn : (fn.name == "runtime.NumGoroutine") = false)
  (hargs:Nat.ble avs.length fn.ntmps=true) (hne:∃ x H',Z x H') (h:∀ β,SB P fn.ntmps body (fun e f H _=>@Jo zx P rs Z e f H) (oZ avs) H β):ACI P g avs H Z:=by
 subst hr;refine ACI.QZ (zi:=zx) hf hb hn (Nat.le_of_ble_eq_true hargs) hne fun G M w0 D0 β a w R=>?_;refine wpIn_mono (h β G M w0 D0 a w R) fun e a w hq=>?_;cases e with
 | panic _=>exact hq.elim
 | outgrown=>exact hq.elim
 | normal=>obtain⟨f,H,β,hk,R⟩:=hq;exact⟨f,H,β,hk,R⟩
 | exit id=>obtain⟨f,H,β,hk,R⟩:=hq;exact⟨f,H,β,hk,R⟩
 | ret=>obtain⟨f,H,β,hk,R⟩:=hq;exact⟨f,H,β,hk,R⟩
 | goto l=>obtain⟨f,H,β,hk,R⟩:=hq;exact⟨f,H,β,hk,R⟩
end
end Go.AL

namespace Go.AL
variable {zi:Zi}
open Go.RowKit
set_option linter.unusedSimpArgs false
set_option linter.unusedVariables false
theorem GN {α:Type}(row:List α){sz n m:Nat}(h:row.length=sz)(hn:n≤m):((List.replicate m row).flatten).take (n*sz)=(List.replicate n row).flatten:=by
 obtain⟨k,rfl⟩:∃ k,m=n+k:=⟨m-n,by omega⟩;rw[← List.replicate_append_replicate,List.flatten_append,List.take_left'];simp[h]
theorem GU {α:Type}(row:List α){sz n m:Nat}(h:row.length=sz):((List.replicate m row).flatten).drop (n*sz)=(List.replicate (m-n) row).flatten:=by
 rcases Nat.le_total n m with hn|hn
 ·obtain⟨k,rfl⟩:∃ k,m=n+k:=⟨m-n,by omega⟩;rw[← List.replicate_append_replicate,List.flatten_append,List.drop_left' (by simp[h])];rw[Nat.add_sub_cancel_left]
 ·rw[List.drop_eq_nil_of_le,Nat.sub_eq_zero_of_le hn]
  ·rfl
  ·simp only[List.length_flatten,List.map_replicate,List.sum_replicate_nat,h];exact Nat.mul_le_mul_right _ hn
section
variable {P:Program} {G:Gh} {M:Nat→Prop} {w0:World} {D0:Nat→Prop} {N:Nat} {f:Fr} {H:Hp} {β:Nat→Value} {a:Act} {w:World}
theorem Rel.a7s {t t2 e e2 d h h2 st sz n m k cap:Nat}{ad:Option Addr}{row:List IV}(ht:(ti P t).desc=.sl e)(ht2:(ti P t2).desc=.sl e2)(R:Rel G M w0 D0 N f H β a w)
  (hH:H h=.blk false st e sz (List.replicate m row)) (hn:n≤m) (hb:β h=.slice ad m cap)
  {y:AV} {u:Value} (hy:aj w (DD H β D0) H β y u) {c:Prop} {rd:List Nat} (hs:fO H y=some (c,List.replicate k row,rd)) (hc:c) (hk:1≤k) (hz:(ti P e).zok=true) (hsz:(ti P e).size=sz) (hrl:row.length=sz)
  (hbb:(n+k)*(ti P e).bytes≤140737488355328) (hmx:n+k≤maxLen) (hd:d<N) {ty:Nat} :
  ∃ z w' β' H',(Builtin.append_ #[t,t2] ty #[.slice ad n cap,u]).run P w=.ok z w'∧Rel G M w0 D0 N (upd f d (.iv (.raw z))) H' β' (a.put (some d) z) w' ∧
   ((H'=bg H h (.blk false (st+1) e sz (List.replicate (max m (n+k)) row))∧β' h=.slice ad (max m (n+k)) cap∧(∀ u,u≠h→β' u=β u)∧z=.slice ad (n+k) cap) ∨
    (∃ ad' cap',H'=bg H h2 (.blk false ((H h2).stamp+1) e sz (List.replicate (n+k) row))∧β' h2=.slice ad' (n+k) cap'∧(∀ u,u≠h2→β' u=β u)∧z=.slice ad' (n+k) cap')):=by
 subst hsz;have hu:=kK ht;have hrep:∀ (j:Nat),∀ r∈List.replicate j row,r.length=(ti P e).size:=fun j r hr=>by rw[(List.mem_replicate.1 hr).2];exact hrl
 obtain⟨ad2,cap2,rfl,news,h1,h2',h3⟩:=jc R hy hs hc (hrep k);obtain⟨i,z,hi,hz0,hzs,hz1,hz2,hz2b,hz3,hz4⟩:=yB hz;have hkl:(List.replicate k row).length=k:=List.length_replicate;rw[hkl];have hnl:news.length=k*i.size:=by rw[← h1.length,bM _ (hrep k),hkl,hz2]
 have hown:=R.own h _ _ _ _ hH;have hmu:(H h).bV:=by rw[hH];trivial
 obtain⟨g',o',rfl,hcell⟩:=h3 (fun e=>by have:=congrArg List.length e;simp at this;omega);have hcell':∀ (j:Nat) v,news[j]?=some v→w.cell? ((⟨g',o',none⟩:Addr).add j)=some v:=fun j v hj=>by rw[addr_add];exact hcell j v hj
 have hraw:∀ (D:Nat→Prop) (w':World) (H':Hp) (β':Nat→Value) (b:Option Addr) (x y:Nat),aj w' D H' β' (.iv (.raw (.slice b x y))) (.slice b x y):=fun D w' H' β' b x y=>by
  simp only[aj];exact .raw _ rfl
 -- the rows go to a new block
 have moved:∀ (old:List Value) (gc:Nat),dI w (DD H β D0) (List.replicate n row).flatten old→n+k≤gc→gc≤maxLen →
   ∃ β' H',Rel G M w0 D0 N (upd f d (.iv (.raw (.slice (some ⟨w.heap.size,0,none⟩) (n+k) gc)))) H' β' (a.put (some d) (.slice (some ⟨w.heap.size,0,none⟩) (n+k) gc)) (w.drew.alloc (.cells (old.toArray++news.toArray++Builtin.zeroCells z.cells (gc-(n+k))) e)) ∧
    H'=bg H h2 (.blk false ((H h2).stamp+1) e (ti P e).size (List.replicate (n+k) row))∧β' h2=.slice (some ⟨w.heap.size,0,none⟩) (n+k) gc∧∀ u,u≠h2→β' u=β u:=by
  intro old gc ho hg1 hg2;have hol:old.length=n*i.size:=by rw[← ho.length,bM _ (hrep n),List.length_replicate,hz2]
  have hl:(List.replicate (n+k) row).length=n+k:=List.length_replicate;have:=Ic w.drew (DD H β D0) (cur:=old.toArray++news.toArray++Builtin.zeroCells z.cells (gc-(n+k))) (e:=e) (sz:=(ti P e).size) (cap:=gc) (rows:=List.replicate (n+k) row) (hrep _) (by rw[hl];exact hg1) hg2
   (by simp only[Array.size_append,List.size_toArray,size_zeroCells];rw[hol,hnl,hzs,hz2,← Nat.add_mul,← Nat.add_mul];congr 1;omega)
   (by
    have e1:((old.toArray++news.toArray++Builtin.zeroCells z.cells (gc-(n+k))).toList.take ((List.replicate (n+k) row).length*(ti P e).size))=old++news:=by
     have e2:(old++news).length=(List.replicate (n+k) row).length*(ti P e).size:=by
      rw[List.length_append,hol,hnl,hl,Nat.add_mul,hz2]
     simp only[Array.toList_append];rw[← e2,List.take_left]
    rw[e1,← List.replicate_append_replicate,List.flatten_append];exact dI.mono (w:=w) (w':=w.drew) (bD.heap _ rfl) (ho.append h1))
  rw[hl]at this;obtain⟨β',b1,b2,R'⟩:=R.fresh (w':=w.drew.alloc (.cells (old.toArray++news.toArray++Builtin.zeroCells z.cells (gc-(n+k))) e)) (h:=h2) (e:=e) (sz:=(ti P e).size) (rows:=List.replicate (n+k) row) (v:=.slice (some ⟨w.heap.size,0,none⟩) (n+k) gc) (dst:=some d) (x:=.iv (.raw (.slice (some ⟨w.heap.size,0,none⟩) (n+k) gc))) (val:=.slice (some ⟨w.heap.size,0,none⟩) (n+k) gc) (st:=(H h2).stamp+1) (by omega) rfl rfl rfl (by simp) (fun k hk=>heap_alloc_old w.drew _ hk)
   this (fun β' hb D=>hraw ..) (by rintro _ ⟨⟩;exact hd)
  exact⟨β',_,R',rfl,b1,b2⟩
 rcases hown.2 with ⟨hrn,hb'⟩|⟨g,cap',cur,hb',hB,hg,h4,h5,h6,h7⟩
 ·have hm0:m=0:=by have:=congrArg List.length hrn;simpa using this
  subst hm0;have hn0:n=0:=by omega
  subst hn0;rw[hb']at hb;injection hb with x1 x2 x3;subst x1 x3;have hrun:=run_append_nil (P:=P) w t ty e i z hu hi hz0 ⟨g',o',none⟩ k cap2 news hnl hcell' (by omega) (by simp only[maxLen]at hmx;omega) (by rw[← hz2b];rw[Nat.zero_add]at hbb;omega);have hge:=grownCap_ge w k 0 e;have hgm:=grownCap_le_maxLen w k 0 e (by simpa using hmx);obtain⟨β',H',R',q1,q2,q3⟩:=moved [] (grownCap w k 0 e) (by simp[dI]) (by omega) hgm;simp only[Nat.zero_add]at R' q1 q2 ⊢;exact⟨_,_,β',H',(dA hu (kK ht2) _ _ _ _).trans (by simpa using hrun),R',.inr ⟨_,_,q1,q2,q3,rfl⟩⟩
 ·rw[List.length_replicate]at hb' h4 h7;rw[hb]at hb';injection hb' with x1 x2 x3;subst x1 x3;have hgl:g<w.heap.size:=(Array.getElem?_eq_some_iff.1 hg).1;have hA:dI w (DD H β D0) (List.replicate n row).flatten (cur.toList.take (n*(ti P e).size)):=by
   have:=dI.take (n*(ti P e).size) h7;rw[GN row hrl hn,List.take_take,Nat.min_eq_left (Nat.mul_le_mul_right _ hn)]at this;exact this
  have hC:dI w (DD H β D0) (List.replicate (m-(n+k)) row).flatten ((cur.toList.take (m*(ti P e).size)).drop ((n+k)*(ti P e).size)):=by
   have:=dI.drop ((n+k)*(ti P e).size) h7;rwa [GU row hrl]at this
  have hAl:(cur.toList.take (n*i.size)).length=n*i.size:=by rw[hz2]at hA;rw[← hA.length,bM _ (hrep n),List.length_replicate,hz2]
  by_cases hroom:n+k≤cap
  ·have hfit:n*i.size+news.length≤cur.size:=by rw[hnl,h6,hz2,← Nat.add_mul];exact Nat.mul_le_mul_right _ hroom
   have hrun:=run_append_room (P:=P) w t ty e i hu hi g n cap cur hg ⟨g',o',none⟩ k cap2 news hnl hcell' h1.one hroom hfit;have hset:=setRow_heap w g cur (cur.toList.take (n*i.size)++news++cur.toList.drop (n*i.size+news.length)).toArray e (0,0) hg;have hmax:List.replicate (max m (n+k)) row=List.replicate n row++List.replicate k row++List.replicate (m-(n+k)) row:=by
    rw[List.replicate_append_replicate,List.replicate_append_replicate];congr 1;omega
   obtain⟨β',b1,b2,R'⟩:=R.grow (w':=w.setRow g (cur.toList.take (n*i.size)++news++cur.toList.drop (n*i.size+news.length)).toArray) (st':=st+1) (rows':=List.replicate (max m (n+k)) row) (v:=.slice (some ⟨g,0,none⟩) (max m (n+k)) cap) (dst:=some d) (x:=.iv (.raw (.slice (some ⟨g,0,none⟩) (n+k) cap))) (val:=.slice (some ⟨g,0,none⟩) (n+k) cap) hH (.inr (by omega)) rfl rfl rfl (by simp)
    (fun j hj hne=>setRow_other w g j _ (fun e=>hne (by rw[hb,e];rfl)))
    (by
     refine⟨hrep _,.inr ⟨g,cap,_,by rw[List.length_replicate],hB,hset,by rw[List.length_replicate];omega,h5,?_,?_⟩⟩
     ·rw[← h6];simp;omega
     ·have e1:(((cur.toList.take (n*i.size)++news++cur.toList.drop (n*i.size+news.length)).toArray).toList.take ((List.replicate (max m (n+k)) row).length*(ti P e).size))=cur.toList.take (n*(ti P e).size)++news++(cur.toList.take (m*(ti P e).size)).drop ((n+k)*(ti P e).size):=by
       simp only;have e2:(cur.toList.take (n*i.size)++news).length=(n+k)*i.size:=by rw[List.length_append,hAl,hnl,Nat.add_mul]
       rw[List.take_append,e2,List.length_replicate,hz2,List.take_of_length_le (l:=List.take _ _++news) (by rw[e2];exact Nat.mul_le_mul_right _ (by omega))]
       congr 1
       rw[hnl,← Nat.add_mul,List.drop_take,← Nat.sub_mul];rcases Nat.le_total (n+k) m with hq|hq
       ·rw[Nat.max_eq_left hq,← Nat.sub_mul]
       ·rw[Nat.max_eq_right hq,Nat.sub_self,Nat.zero_mul,← Nat.sub_mul,Nat.sub_eq_zero_of_le hq,Nat.zero_mul]
      rw[e1,hmax,List.flatten_append,List.flatten_append];refine((hA.append h1).append hC).mono ⟨by simp,fun b _ hd'=>?_,fun b _ hnn=>?_⟩
      ·rcases hd' with h'|h'
       ·exact h'
       ·exact .inr ⟨h,hmu,by rw[hb];exact h'⟩
      ·exact fun _=>setRow_other w g b _ (fun e=>hnn (.inr ⟨h,hmu,by rw[hb,e];rfl⟩)))
    (fun k hk=>.inl (by rw[hb];exact hk)) (fun β' _ _ D _=>hraw ..) (by rintro _ ⟨⟩;exact hd)
   exact⟨_,_,β',_,(dA hu (kK ht2) _ _ _ _).trans hrun,R',.inl ⟨rfl,b1,b2,rfl⟩⟩
  ·have holds:∀ (j:Nat) v,(cur.toList.take (n*(ti P e).size))[j]?=some v→w.cell? ((⟨g,0,none⟩:Addr).add j)=some v:=by
    intro j v hj;rw[addr_add,Nat.zero_add,cell_of_row w g j cur _ (0,0) hg];rw[List.getElem?_take]at hj;split at hj
    ·simpa using hj
    ·cases hj
   have hrun:=run_append_grow (P:=P) w t ty e i z hu hi hz0 ⟨g,0,none⟩ n cap _ (by rw[hz2];exact hAl) holds ⟨g',o',none⟩ k cap2 news hnl hcell' (by omega) (by simp only[maxLen]at hmx;omega) (growslice_fits (by omega) (by rw[← hz2b];exact hbb));have hge:=grownCap_ge w (n+k) cap e;have hgm:=grownCap_le_maxLen w (n+k) cap e hmx;obtain⟨β',H',R',q1,q2,q3⟩:=moved _ (grownCap w (n+k) cap e) hA hge hgm;exact⟨_,_,β',H',(dA hu (kK ht2) _ _ _ _).trans hrun,R',.inr ⟨_,_,q1,q2,q3,rfl⟩⟩
end
end Go.AL

namespace Go.AL
variable {zi:Zi}
open Go.RowKit
set_option linter.unusedSimpArgs false
set_option linter.unusedVariables false
def Mk (H:Hp)(β:Nat→Value)(h e sz:Nat)(row:List IV)(n:Nat)(v:Value):Prop :=
 ∃ st m ad cap,H h=.blk false st e sz (List.replicate m row)∧n≤m∧β h=.slice ad m cap∧v=.slice ad n cap
theorem Mk.congr {H H':Hp}{β β':Nat→Value}{h e sz:Nat}{row:List IV}{n:Nat}{v:Value}(k:Mk H β h e sz row n v)(h1:H' h=H h)(h2:β' h=β h):Mk H' β' h e sz row n v:=by
 obtain⟨st,m,ad,cap,q1,q2,q3,q4⟩:=k;exact⟨st,m,ad,cap,h1.trans q1,q2,h2.trans q3,q4⟩
theorem Mk.mut {H:Hp}{β:Nat→Value}{h e sz:Nat}{row:List IV}{n:Nat}{v:Value}(k:Mk H β h e sz row n v):(H h).bV:=by
 obtain⟨st,m,ad,cap,q1,q2,q3,q4⟩:=k;rw[q1];trivial
theorem Mk.same {H H':Hp}{β β':Nat→Value}{h e sz:Nat}{row:List IV}{n:Nat}{v:Value}(k:Mk H β h e sz row n v)(s:qY H β H' β')(h1:H' h=H h):Mk H' β' h e sz row n v:=k.congr h1 (s h k.mut (by rw[h1]))
section
variable {P:Program} {N:Nat} {Q:PostB} {f:Fr} {H:Hp} {β:Nat→Value}
theorem LB.app {ops:Array Oper}{o:Oper}{rest:List Oper}{x y:Operand}{t t2 e e2 d h sz n k:Nat}(h2:Nat){row:List IV}{v:Value}{c:Prop}{rd:List Nat}(hM:Mk H β h e sz row n v)(hx:ev f x=.iv (.raw v))(hs:fO H (ev f y)=some (c,List.replicate k row,rd))(hc:c)
  (hg:o.guard=none) (ho:o.op=.call ⟨.builtin .append,#[x,y],#[t,t2]⟩) (hdst:o.dst=some d) (hd:d<N) (ht:(ti P t).desc=.sl e) (ht2:(ti P t2).desc=.sl e2) (hz:(ti P e).zok=true) (hsz:(ti P e).size=sz) (hrl:row.length=sz) (hk:1≤k)
  (hbb:(n+k)*(ti P e).bytes≤140737488355328) (hmx:n+k≤maxLen)
  (hA:∀ v' H' β',(∀ u,u≠h→H' u=H u∧β' u=β u)→Mk H' β' h e sz row (n+k) v'→(∀ n' v'',Mk H β h e sz row n' v''→Mk H' β' h e sz row n' v'')→LB P N ops Q rest (upd f d (.iv (.raw v'))) H' β')
  (hB:∀ v' H' β',(∀ u,u≠h2→H' u=H u∧β' u=β u)→Mk H' β' h2 e sz row (n+k) v'→LB P N ops Q rest (upd f d (.iv (.raw v'))) H' β'):LB P N ops Q (o::rest) f H β:=by
 refine LB.one hg (by rw[ho];intro c h;cases h) fun G M w0 D0 a w R=>?_;obtain⟨st,m,ad,cap,q1,q2,q3,q4⟩:=hM;have e1:a.eval x=v:=by
  have:=R.ev x;rw[hx]at this;simp only[aj]at this;generalize hv:a.eval x=u at this;cases this;rfl
 obtain⟨z,w',β',H',hrun,R',hcase⟩:=R.a7s (zi:=zi) (h2:=h2) (d:=d) (ty:=o.type) ht ht2 q1 q2 q3 (R.ev y) hs hc hk hz hsz hrl hbb hmx hd;rw[← q4,← e1]at hrun;refine⟨z,w',_,H',β',by simp[execOp,ho,resolve,invoke,builtin,hrun],?_,by rw[hdst];exact R'⟩;rcases hcase with ⟨rfl,b1,b2,rfl⟩|⟨ad',cap',rfl,b1,b2,rfl⟩
 ·refine hA _ _ _ (fun u hu=>⟨ak _ _ hu,b2 u hu⟩) ⟨_,_,_,_,au _ _ _,by omega,b1,rfl⟩ fun n' v'' k'=>?_;obtain⟨st',m',ad',cap',r1,r2,r3,r4⟩:=k';rw[q3]at r3;injection r3 with x1 x2 x3;subst x1 x2 x3;exact⟨_,_,_,_,au _ _ _,by omega,b1,r4⟩
 ·exact hB _ _ _ (fun u hu=>⟨ak _ _ hu,b2 u hu⟩) ⟨_,_,_,_,au _ _ _,by omega,b1,rfl⟩
end
section
variable {P:Program} {G:Gh} {M:Nat→Prop} {w0:World} {D0:Nat→Prop} {N:Nat} {f:Fr} {H:Hp} {β:Nat→Value} {a:Act} {w:World}
theorem Rel.a3W (R:Rel G M w0 D0 N f H β a w){h st e sz:Nat}{rows:List (List IV)}(hm:(H h).bV)(hs:(H h).stamp=st)(he:(H h).esz=sz)(ho:Own w (DD H β D0) w0.heap.size M (β h) e sz rows):Rel G M w0 D0 N f (bg H h (.blk false st e sz rows)) β a w:=by
 have mu:∀ k,(bg H h (.blk false st e sz rows) k).bV→(H k).bV:=fun k hk=>by
  by_cases e':k=h
  ·subst e';exact hm
  ·rwa [ak _ _ e']at hk
 have hd:∀ b,DD (bg H h (.blk false st e sz rows)) β D0 b→DD H β D0 b:=by
  rintro b (hb|⟨k,hk,hb⟩)
  ·exact .inl hb
  ·exact .inr ⟨k,mu k hk,hb⟩
 have g:bD w (DD H β D0) w (DD (bg H h (.blk false st e sz rows)) β D0):=bD.of_sub hd;have s:gI H β (bg H h (.blk false st e sz rows)) β:=fun k=>.inl (by
  by_cases e':k=h
  ·subst e';rw[au];exact⟨hs.symm,he.symm,rfl⟩
  ·rw[ak _ _ e'];exact⟨rfl,rfl,rfl⟩)
 refine⟨R.os,R.tape,R.output,R.size,R.keep,R.old,R.kW,R.defers,R.rnd,R.Lh,fun x v hx=>aj.mono g s _ _ (R.gh x v hx),fun t=>aj.mono g s _ _ (R.tmps t),fun k st' e' sz' rows' hk=>?_,fun k st' e' sz' rows' hk=>?_,fun k k' hne m1 m2=>R.dis k k' hne (mu k m1) (mu k' m2),fun k st' e' rows' hk=>?_,fun k B hk=>?_,fun k x v hk=>?_⟩
 ·by_cases e1:k=h
  ·subst e1;rw[au]at hk;cases hk;exact ho.mono g fun _ _=>rfl
  ·rw[ak _ _ e1]at hk;exact(R.own k _ _ _ _ hk).mono g fun _ _=>rfl
 ·have e1:k≠h:=fun e1=>by subst e1;rw[au]at hk;cases hk
  rw[ak _ _ e1]at hk;exact⟨(R.frz k _ _ _ _ hk).1,(R.frz k _ _ _ _ hk).2.1.mono g,(R.frz k _ _ _ _ hk).2.2⟩
 ·have e1:k≠h:=fun e1=>by subst e1;rw[au]at hk;cases hk
  rw[ak _ _ e1]at hk;exact(R.nst k _ _ _ hk).mono g s fun _ _=>rfl
 ·have e1:k≠h:=fun e1=>by subst e1;rw[au]at hk;cases hk
  rw[ak _ _ e1]at hk;exact R.mrk k B hk
 ·have e1:k≠h:=fun e1=>by subst e1;rw[au]at hk;cases hk
  rw[ak _ _ e1]at hk;exact aj.mono g s _ _ (R.tie k x v hk)
def dG (vs:List Value):List (List IV):=vs.map fun v=>[.raw v]
theorem yG (vs:List Value):(dG vs).flatten=vs.map .raw:=by
 induction vs with
 | nil=>rfl
 | cons v vs ih=>simp only[dG,List.map_cons,List.flatten_cons]at ih ⊢;rw[ih];rfl
theorem KD {D:Nat→Prop}:∀ {vs:List Value},(∀ v∈vs,v.oneCell'=true)→dI w D (vs.map .raw) vs
 | [],_=>trivial
 | v::vs,h=>⟨.raw v (h v (by simp)),KD fun u hu=>h u (by simp[hu])⟩
theorem Rel.Rj (R:Rel G M w0 D0 N f H β a w){h st e:Nat}{rows:List AV}(hH:H h=.nst st e rows) :
  ∃ vs:List Value,vs.length=rows.length∧(∀ i,i<rows.length→aj w (DD H β D0) H β (rows.getD i .undef) (vs.getD i Go.undef))∧Rel G M w0 D0 N f (bg H h (.blk false st e 1 (dG vs))) β a w:=by
 rcases R.nst h _ _ _ hH with ⟨rfl,hv⟩|⟨g,cap,cur,hv,hB,hg,h1,h2,h3,h4,h5⟩
 ·exact⟨[],rfl,fun i hi=>by simp at hi,R.a3W (by rw[hH];trivial) (by rw[hH];rfl) (by rw[hH];rfl) ⟨by simp[dG],.inl ⟨rfl,hv⟩⟩⟩
 ·have hl:=h4.length;refine⟨cur.toList.take rows.length,hl.symm,fun i hi=>?_,R.a3W (by rw[hH];trivial) (by rw[hH];rfl) (by rw[hH];rfl) ?_⟩
  ·obtain⟨v,hv,hr⟩:=h4.get i hi;have e:(cur.toList.take rows.length).getD i Go.undef=v:=by rw[List.getD,hv];rfl
   rw[e];exact hr
  ·have hrl:(dG (cur.toList.take rows.length)).length=rows.length:=by rw[dG,List.length_map];exact hl.symm
   refine⟨fun r hr=>?_,.inr ⟨g,cap,cur,by rw[hrl];exact hv,hB,hg,by rw[hrl];exact h1,h2,by rw[h3,Nat.mul_one],?_⟩⟩
   ·obtain⟨v,_,rfl⟩:=List.mem_map.1 hr;rfl
   ·rw[yG,hrl,Nat.mul_one];exact KD h5
theorem Rel.yI (R:Rel G M w0 D0 N f H β a w){h st e:Nat}{vs:List Value}(hH:H h=.blk false st e 1 (dG vs)){xs:List IV}(hl:xs.length=vs.length)(hx:∀ i,i<vs.length→Rep w (DD H β D0) (xs.getD i default) (vs.getD i Go.undef)) :
  Rel G M w0 D0 N f (bg H h (.blk false st e 1 (xs.map fun x=>[x]))) β a w:=by
 have hf:∀ xs:List IV,(xs.map fun x=>[x]).flatten=xs:=fun xs=>by
  induction xs with
  | nil=>rfl
  | cons x xs ih=>simp only[List.map_cons,List.flatten_cons,ih];rfl
 have ho:=R.own h _ _ _ _ hH;refine R.a3W (by rw[hH];trivial) (by rw[hH];rfl) (by rw[hH];rfl) ⟨fun r hr=>?_,?_⟩
 ·obtain⟨v,_,rfl⟩:=List.mem_map.1 hr;rfl
 ·have hrl:(dG vs).length=vs.length:=by rw[dG,List.length_map]
  rcases ho.2 with ⟨q1,q2⟩|⟨g,cap,cur,hv,hB,hg,h1,h2,h3,h4⟩
  ·have:vs.length=0:=by rw[← hrl,q1];rfl
   exact .inl ⟨by rw[List.eq_nil_of_length_eq_zero (hl.trans this)];rfl,q2⟩
  ·rw[yG,hrl,Nat.mul_one]at h4;rw[hrl]at hv h1;refine .inr ⟨g,cap,cur,by rw[List.length_map,hl];exact hv,hB,hg,by rw[List.length_map,hl];exact h1,h2,h3,?_⟩;rw[hf,List.length_map,hl,Nat.mul_one];have hcl:(cur.toList.take vs.length).length=vs.length:=by rw[← h4.length,List.length_map]
   refine dI.qR (by rw[hcl,hl]) fun j x hj=>?_;have hjl:=(List.getElem?_eq_some_iff.1 hj).1;obtain⟨u,hu,hr⟩:=h4.get j (.raw (vs.getD j Go.undef)) (by rw[List.getElem?_map,List.getElem?_eq_getElem (by omega)];simp[List.getD,List.getElem?_eq_getElem (show j<vs.length by omega)]);cases hr;refine⟨_,hu,?_⟩;have:=hx j (by omega);rwa [List.getD,hj]at this
theorem Rep.VA {D:Nat→Prop}{rows:List (List IV)}{ad:Option Addr}{m cap:Nat}(h:Rep w D (.sl rows) (.slice ad m cap)){n:Nat}(hn:n≤m):Rep w D (.sl (rows.take n)) (.slice ad n cap):=by
 generalize hv:Value.slice ad m cap=v at h;cases h with
 | nil a c hc =>
  injection hv with x1 x2 x3;subst x1 x2 x3;have:n=0:=by omega
  subst this;exact .nil _ _ hc
 | sl _ g o c sz cell hsz hlen hcap hg hD hcell hr =>
  injection hv with x1 x2 x3;subst x1 x2 x3;have hl:(rows.take n).length=n:=by rw[List.length_take,Nat.min_eq_left hn]
  have key:∀ (i:Nat) (r:List IV),(rows.take n)[i]?=some r→rows[i]?=some r:=fun i r hi=>by
   rw[List.getElem?_take]at hi;split at hi
   ·exact hi
   ·cases hi
  have:=Rep.sl (w:=w) (D:=D) (rows.take n) g o cap sz cell (fun i r hi=>hsz i r (key i r hi)) (by omega) hcap hg hD (fun i r hi=>hcell i r (key i r hi)) (fun i r hi=>hr i r (key i r hi));rw[hl]at this;exact this
theorem Rel.mkData (R:Rel G M w0 D0 N f H β a w){H0:Hp}{h e sz:Nat}{row:List IV}{n:Nat}{v:Value}(k:Mk H0 β h e sz row n v)(hH:H h=(H0 h).frz):Rep w (DD H β D0) (.sl (List.replicate n row)) v:=by
 obtain⟨st,m,ad,cap,q1,q2,q3,rfl⟩:=k;rw[q1]at hH;have:=(R.frz h _ _ _ _ hH).2.1;rw[q3]at this;have:=this.VA q2;rwa [List.take_replicate,Nat.min_eq_left q2]at this
theorem XR (hs:List Nat):∀ (H:Hp) (k:Nat),aC hs H k=H k∨aC hs H k=(H k).frz:=by
 induction hs with
 | nil=>exact fun H k=>.inl rfl
 | cons h r ih =>
  intro H k;have hfr:∀ c:HC,c.frz.frz=c.frz:=fun c=>by cases c<;>rfl
  by_cases e:k=h
  ·subst e;rcases ih (bg H k (H k).frz) k with h1|h1
   ·exact .inr (by rw[aC,h1,au])
   ·exact .inr (by rw[aC,h1,au,hfr])
  ·rcases ih (bg H h (H h).frz) k with h1|h1
   ·exact .inl (by rw[aC,h1,ak _ _ e])
   ·exact .inr (by rw[aC,h1,ak _ _ e])
theorem pI (hs:List Nat):∀ (H:Hp) (k:Nat),k∈hs→aC hs H k=(H k).frz:=by
 induction hs with
 | nil=>exact fun H k h=>by cases h
 | cons h r ih =>
  intro H k hk;have hfr:∀ c:HC,c.frz.frz=c.frz:=fun c=>by cases c<;>rfl
  by_cases e:k=h
  ·subst e;rcases XR r (bg H k (H k).frz) k with h1|h1
   ·rw[aC,h1,au]
   ·rw[aC,h1,au,hfr]
  ·rw[aC,ih _ _ ((List.mem_cons.1 hk).resolve_left e),ak _ _ e]
theorem mF (hs:List Nat):∀ (H:Hp) (k:Nat),k∉hs→aC hs H k=H k:=by
 induction hs with
 | nil=>exact fun H k _=>rfl
 | cons h r ih =>
  intro H k hk;simp only[List.mem_cons,not_or]at hk;rw[aC,ih _ _ hk.2,ak _ _ hk.1]
end
end Go.AL
