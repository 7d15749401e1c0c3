/-
 Digits to the base 2^16.
-/
import Derived.Test.YtdpngipofekcfaaGreatAbsFM
namespace Go.AL
set_option linter.unusedSimpArgs false
set_option linter.unusedVariables false
abbrev D16:Nat:=65536
def nums (l:List Nat):List (List IV):=l.map fun x:Nat=>[.int .i64 (x:Int)]
theorem Ri (l:List Nat):(nums l).length=l.length:=by simp[nums]
theorem a4s {l:List Nat}{i:Nat}(h:i<l.length):(nums l).getD i []=[.int .i64 ((l.getD i 0:Nat):Int)]:=by simp[nums,List.getD,h]
theorem a0G (l:List Nat)(i x:Nat):(nums l).set i [.int .i64 (x:Int)]=nums (l.set i x):=by simp[nums,List.map_set]
theorem a0I (l m:List Nat):nums l++nums m=nums (l++m):=by simp[nums]
theorem Le (l:List Nat)(x:Nat):nums l++[[.int .i64 (x:Int)]]=nums (l++[x]):=by simp[nums]
theorem X3 (l:List Nat)(k:Nat):(nums l).take k=nums (l.take k):=by simp[nums,List.map_take]
theorem X5 (l:List Nat)(k:Nat):(nums l).drop k=nums (l.drop k):=by simp[nums,List.map_drop]
theorem Rh (n:Nat):List.replicate n [.int .i64 0]=nums (List.replicate n 0):=by simp[nums]
theorem X4 (l:List Nat):(∀ r∈nums l,r.length=1)↔True:=by simp[nums]
theorem a0H:nums []=[]:=rfl
def a1i (l:List Int):List (List IV):=l.map fun x=>[.int .i64 x]
theorem Xy (l:List Int):(a1i l).length=l.length:=by simp[a1i]
theorem a1h {l:List Int}{i:Nat}(h:i<l.length):(a1i l).getD i []=[.int .i64 (l.getD i 0)]:=by simp[a1i,List.getD,h]
theorem a6s (n:Nat):(n:Int).tdiv 65536=((n/65536:Nat):Int):=by rw[Int.tdiv_eq_ediv_of_nonneg (by omega)];rfl
theorem a6o (n:Nat):(n:Int).tmod 65536=((n%65536:Nat):Int):=by rw[Int.tmod_eq_emod_of_nonneg (by omega)];rfl
def Dig (d:List Nat):Prop:=∀ x∈d,x<D16
theorem Dig.get {l:List Nat}(h:Dig l)(i:Nat):l.getD i 0<D16:=by
 by_cases hi:i<l.length
 ·have:l.getD i 0=l[i]:=by simp[List.getD,hi]
  rw[this];exact h _ (List.getElem_mem hi)
 ·rw[List.getD_eq_getElem?_getD,List.getElem?_eq_none (by omega)];decide
theorem Dig.append {l m:List Nat}(h:Dig l)(h':Dig m):Dig (l++m):=fun x hx=>(List.mem_append.mp hx).elim (h x) (h' x)
theorem Dig.take {l:List Nat}(h:Dig l)(k:Nat):Dig (l.take k):=fun x hx=>h x (List.mem_of_mem_take hx)
def dn (n w:Nat):List Nat:=(List.range n).map fun k=>w/D16^k%D16
theorem sF (n w:Nat):(dn n w).length=n:=by simp[dn]
theorem Y1 (n w:Nat):dn (n+1) w=dn n w++[w/D16^n%D16]:=by simp[dn,List.range_succ]
theorem DR (n w:Nat):Dig (dn n w):=fun x hx=>by
 simp only[dn,List.mem_map]at hx;obtain⟨k,_,rfl⟩:=hx;exact Nat.mod_lt _ (by decide)
theorem JI (w:Nat):∀ n,vl D16 (dn n w)=w%D16^n
 | 0=>by simp[dn,vl,Nat.mod_one]
 | n+1=>by
  rw[Y1,iL,JI w n,sF,Nat.pow_succ,Nat.mod_mul];simp[vl]
def dd (a:List Nat):List Nat:=a.flatMap (dn 4)
theorem Y4 (a:List Nat):(dd a).length=4*a.length:=by
 induction a with
 | nil=>rfl
 | cons x xs ih=>simp only[dd,List.flatMap_cons,List.length_append,sF,List.length_cons]at ih ⊢;omega
theorem a7m (a:List Nat):Dig (dd a):=fun x hx=>by
 obtain⟨w,_,h⟩:=List.mem_flatMap.mp hx;exact DR 4 w x h
theorem Tf:D16^4=W:=by decide
theorem a8i {a:List Nat}(h:Lim a):vl D16 (dd a)=nv a:=by
 induction a with
 | nil=>rfl
 | cons x xs ih =>
  have hx:x<W:=h x (by simp);have ih:=ih fun y hy=>h y (by simp[hy])
  simp only[dd,List.flatMap_cons,iL,JI,sF,Tf,Nat.mod_eq_of_lt hx,nv,vl]at ih ⊢;rw[ih]
theorem MJ (a:List Nat){i:Nat}(h:i<a.length):dd (a.take (i+1))=dd (a.take i)++dn 4 (a.getD i 0):=by
 have e:a.take (i+1)=a.take i++[a.getD i 0]:=by rw[List.take_add_one];simp[List.getD,h]
 rw[e];unfold dd;rw[List.flatMap_append];simp
abbrev dgD (n:Nat):List Nat:=dg D16 n
theorem jE:2≤D16:=by decide
theorem a2M {a:List Nat}(h:Lim a):(dd a).take (jk (dd a))=dgD (nv a):=by rw[← a8i h,dgD,Y3 jE (a7m a)]
theorem eU (n:Nat):Dig (dgD n):=a5p jE n
theorem fK (n:Nat):vl D16 (dgD n)=n:=Zn jE n
theorem MH {d:List Nat}(h:Dig d):d.take (jk d)=dgD (vl D16 d):=(Y3 jE h).symm
theorem o9 {n:Nat}:(dgD n).length=0↔n=0:=by rw[List.length_eq_zero_iff];exact MG jE
theorem kR {l:List Nat}(h:Lim l):(dgD (nv l)).length≤4*l.length:=by
 rw[← a2M h,List.length_take,Y4];omega
theorem Qe (k:Nat):W^k=D16^(4*k):=by rw[Nat.pow_mul,Tf]
theorem a6J (v:Nat):pad (((dgD v).length+3)/4) v=wd v:=by
 have h1:v<W^(((dgD v).length+3)/4):=by
  rw[Qe];exact Nat.lt_of_lt_of_le ((ig jE _).mp (Nat.le_refl _)) (Nat.pow_le_pow_right (by decide) (by show (dgD v).length≤_;omega))
 refine(mZ (aO v) ?_ (by rw[bC,Nat.mod_eq_of_lt h1])).symm;have h2:(wd v).length≤((dgD v).length+3)/4:=bT.mpr h1;have h3:(dgD v).length≤4*(wd v).length:=by
  rw[dgD,ig jE,← Qe];exact bT.mp (Nat.le_refl _)
 omega
def four (d:List Nat)(i:Nat):List Nat:=[d.getD (4*i) 0,d.getD (4*i+1) 0,d.getD (4*i+2) 0,d.getD (4*i+3) 0]
theorem a3o (d:List Nat)(i:Nat):vl D16 (d.take (4*(i+1)))=vl D16 (d.take (4*i))+W^i*vl D16 (four d i):=by
 rw[show 4*(i+1)=4*i+1+1+1+1 by omega,aJ,aJ,aJ,aJ,Qe];simp only[four,vl,Nat.pow_succ,Nat.mul_add,Nat.mul_zero,Nat.add_zero,Nat.mul_assoc,Nat.add_assoc]
theorem XU (d:List Nat)(i:Nat){j:Nat}(h:j<4):vl D16 ((four d i).drop j)=d.getD (4*i+j) 0+D16*vl D16 ((four d i).drop (j+1)):=by
 have:j=0∨j=1∨j=2∨j=3:=by omega
 rcases this with rfl|rfl|rfl|rfl<;>rfl
theorem a1r {d:List Nat}(h:Dig d)(i:Nat):Dig (four d i):=by
 intro x hx;simp only[four,List.mem_cons,List.not_mem_nil,or_false]at hx;rcases hx with rfl|rfl|rfl|rfl<;>exact h.get _
theorem LZ {d:List Nat}(h:Dig d)(i j:Nat):vl D16 ((four d i).drop (j+1))<281474976710656:=by
 have:=Tq (b:=D16) (l:=(four d i).drop (j+1)) fun x hx=>a1r h i x (List.mem_of_mem_drop hx)
 refine Nat.lt_of_lt_of_le this ?_;refine Nat.le_trans (Nat.pow_le_pow_right (by decide) (show _≤3 by rw[List.length_drop];simp[four])) (by decide)
theorem Dig.nil:Dig []:=fun _ h=>nomatch h
theorem Dig.snoc {l:List Nat}{x:Nat}(h:Dig l)(hx:x<D16):Dig (l++[x]):=h.append fun y hy=>by simp at hy;subst hy;exact hx
theorem Dig.set {l:List Nat}(h:Dig l){i x:Nat}(hx:x<D16):Dig (l.set i x):=fun y hy=>by
 rcases List.mem_or_eq_of_mem_set hy with hy|rfl
 ·exact h y hy
 ·exact hx
theorem Dig.replicate (n:Nat):Dig (List.replicate n 0):=fun x hx=>by rw[List.eq_of_mem_replicate hx];decide
theorem kD (n:Nat):0<D16^n:=Nat.pow_pos (by decide)
theorem fQ {l:List Nat}(h:Dig l):vl D16 l<D16^l.length:=Tq h
theorem Qv {l:List Nat}(h:Dig l)(k:Nat):vl D16 (l.take k)=vl D16 l%D16^k:=by
 by_cases hk:k≤l.length
 ·have e:=fA D16 l hk;have h2:=fQ (h.take k);rw[List.length_take,Nat.min_eq_left hk]at h2;rw[e,Nat.add_mul_mod_self_left,Nat.mod_eq_of_lt h2]
 ·rw[List.take_of_length_le (by omega),Nat.mod_eq_of_lt];exact Nat.lt_of_lt_of_le (fQ h) (Nat.pow_le_pow_right (by decide) (by omega))
theorem Y2 {l:List Nat}(h:Dig l)(k:Nat):l.getD k 0=vl D16 l/D16^k%D16:=by
 have h1:=aJ D16 l k;rw[Qv h,Qv h,Nat.mod_pow_succ]at h1;exact(Nat.eq_of_mul_eq_mul_left (kD k) (Nat.add_left_cancel h1)).symm
theorem XY {l:List Nat}{n v:Nat}(h:Dig l)(hl:l.length=n)(hv:vl D16 l=v%D16^n):l=dn n v :=
 Vb h (DR n v) (by rw[sF,hl]) (by rw[JI,hv])
theorem Qw (l:List Nat)(x:Nat):vl D16 (l++[x])=vl D16 l+D16^l.length*x:=by simp[iL,vl]
theorem a7p {P A B O c x y s c':Nat}(h:O+P*c=A+B)(he:s+D16*c'=x+y+c):(O+P*s)+P*D16*c'=(A+P*x)+(B+P*y):=by
 have:=congrArg (P * ·) he;simp only[Nat.mul_add]at this;rw[Nat.mul_assoc];omega
theorem Ym {P A B O c x y s c':Nat}(h:O+B=A+P*c)(he:s+y+c=x+D16*c'):(O+P*s)+(B+P*y)=(A+P*x)+P*D16*c':=by
 have:=congrArg (P * ·) he;simp only[Nat.mul_add]at this;rw[Nat.mul_assoc];omega
end Go.AL

namespace Go.AL
set_option linter.defProp false
def wk0:=And.intro @a5N (And.intro @YO (And.intro @a2a (And.intro @a7I (And.intro @a5Q (And.intro @a2g (And.intro @a2h (And.intro @a2b (And.intro @a5O (And.intro @a5P (And.intro @a1X (And.intro @a1Z (And.intro @a7J (And.intro @Qh (And.intro @Yx (And.intro @a1K (And.intro @Qg (And.intro @Yw (And.intro @a1J (And.intro @Jt (And.intro @Qn (And.intro @UF (And.intro @Jl (And.intro @Qi (@Uz))))))))))))))))))))))))
def wk1:=And.intro @NG (And.intro @UD (And.intro @YJ (And.intro @YI (And.intro @a5G (And.intro @a1Q (And.intro @Qk (And.intro @a2d (And.intro @YT (And.intro @Qp (And.intro @YS (And.intro @UU (And.intro @a2e (And.intro @UQ (And.intro @EF (And.intro @YU (And.intro @UJ (And.intro @Ju (And.intro @UR (And.intro @YR (And.intro @NM (And.intro @F7 (And.intro @UK (And.intro @F9 (@F8))))))))))))))))))))))))
def wk2:=And.intro @UL (And.intro @NK (And.intro @NP (And.intro @YV (And.intro @UM (And.intro @YW (And.intro @Z4 (And.intro @YX (And.intro @YZ (And.intro @NQ (And.intro @UG (And.intro @a2c (And.intro @a4W (And.intro @a4V (And.intro @a4d (And.intro @a4c (And.intro @a4b (And.intro @a4a (And.intro @yE (And.intro @AY (And.intro @a0T (And.intro @Xk (And.intro @wS (And.intro @Dj (@a0R))))))))))))))))))))))))
def wk3:=And.intro @Di (And.intro @a0S (And.intro @a4R (And.intro @a0t (And.intro @U6 (And.intro @U5 (And.intro @WH (And.intro @WG (And.intro @WE (And.intro @WC (And.intro @OG (And.intro @a0a (And.intro @a3Z (And.intro @ZV (And.intro @VR (And.intro @a0b (And.intro @ZY (And.intro @ZW (And.intro @VT (And.intro @VQ (And.intro @VU (And.intro @pK (And.intro @Yi (And.intro @Um (@nV))))))))))))))))))))))))
def wk4:=And.intro @Yh (And.intro @Yk (And.intro @jX (And.intro @Ir (And.intro @Vd (And.intro @Ve (And.intro @a6m (And.intro @BL (And.intro @a7k (And.intro @a1t (And.intro @a5s (And.intro @a1A (And.intro @a5r (And.intro @a1g (And.intro @a1f (And.intro @a1U (And.intro @YN (And.intro @YK (And.intro @Vx (And.intro @TK (And.intro @a5h (And.intro @a1q (And.intro @a7o (And.intro @a7n (@wrap_i64))))))))))))))))))))))))
def wk5:=And.intro @a0X (And.intro @Ri (And.intro @a4s (And.intro @a0G (And.intro @a0I (And.intro @Le (And.intro @X3 (And.intro @X5 (And.intro @X4 (And.intro @a0H (And.intro @Xy (And.intro @a1h (And.intro @a6s (And.intro @a6o (And.intro @a0Y (And.intro @WL (And.intro @a0v (And.intro @decide_true (And.intro @decide_false (And.intro @Bool.not_true (And.intro @Bool.not_false (And.intro @ne_eq.{1} (And.intro @not_true_eq_false (And.intro @gt_iff_lt.{0} (@ge_iff_le.{0}))))))))))))))))))))))))
def wk6:=And.intro @Bool.false_eq_true (And.intro @AV.iv.injEq (And.intro @IV.int.injEq (And.intro @IV.bool.injEq (And.intro @CV.iv.injEq (And.intro @CV.agg.injEq (And.intro @AV.agg.injEq (And.intro @true_implies (And.intro @implies_true.{1} (And.intro @List.not_mem_nil.{0} (And.intro @List.mem_cons.{0} (And.intro @or_false (And.intro @forall_eq_or_imp.{1} (And.intro @forall_eq.{1} (And.intro @false_implies (And.intro @not_false_eq_true (And.intro @Decidable.not_not (And.intro @Nat.zero_mul (And.intro @Nat.one_mul (And.intro @Nat.zero_le (And.intro @List.range_zero (And.intro @List.set_cons_zero.{0} (And.intro @List.length_replicate.{0} (And.intro @List.length_append.{0} (@List.length_set.{0}))))))))))))))))))))))))
def wk7:=And.intro @Int.sub_zero (And.intro @List.drop_zero.{0} (And.intro @List.length_cons.{0} (And.intro @List.length_nil.{0} (And.intro @Nat.lt_add_one (And.intro @Nat.zero_add (And.intro @Int.toNat_natCast (And.intro @List.map_cons.{0,0} (And.intro @List.map_nil.{0,0} (And.intro @List.getD_cons_zero.{0} (And.intro @List.getD_cons_succ.{0} (And.intro @List.getElem?_cons_zero.{0} (And.intro @List.getElem?_cons_succ.{0} (And.intro @List.getElem?_nil.{0} (And.intro @Option.getD_some.{0} (And.intro @Option.getD_none.{0} (And.intro @Option.map_some.{0,0} (And.intro @Option.map_none.{0,0} (And.intro @true_and (And.intro @and_true (And.intro @List.append_nil.{0} (And.intro @List.nil_append.{0} (And.intro @List.cons_append.{0} (And.intro @Go.maxLen.eq_1 (@aY.eq_1))))))))))))))))))))))))
def wk8:=And.intro (fun {zi:Zi}=>@KC.eq_1 zi) (And.intro (fun {zi:Zi}=>@KC.eq_2 zi) (And.intro (fun {zi:Zi}=>@KC.eq_3 zi) (And.intro (fun {zi:Zi}=>@KC.eq_4 zi) (And.intro (fun {zi:Zi}=>@Ew.eq_def zi) (And.intro (fun {zi:Zi}=>@retv.eq_def zi) (And.intro @tJ.eq_def (And.intro @gQ.eq_1 (And.intro @gQ.eq_2 (And.intro @kX.eq_1 (And.intro @kX.eq_2 (And.intro @Yy.eq_def (And.intro @lS.eq_def (And.intro @rAV.eq_1 (And.intro @rAV.eq_2 (And.intro @rAV.eq_3 (And.intro @EH.eq_def (And.intro @fO.eq_def (And.intro @a2F.eq_def (And.intro @a2I.eq_def (And.intro @bU.eq_1 (And.intro @bU.eq_2 (And.intro @aC.eq_1 (And.intro @aC.eq_2 ((fun {zi:Zi}=>@qJ.eq_def zi)))))))))))))))))))))))))
def wk9:=And.intro @a1I.eq_def (And.intro @a5y.eq_def (And.intro @a7v.eq_def (And.intro @Tc.eq_def (And.intro @Af.eq_def (And.intro @sK.eq_def (And.intro @pV.eq_def (And.intro @xP.eq_def (And.intro @Et.eq_def (And.intro @a5z.eq_def (And.intro @Na.eq_def (And.intro @jS.eq_def (And.intro @xR.eq_def (And.intro @aUn.eq_def (And.intro @Yv.eq_def (And.intro @Ae.eq_def (And.intro @a2T.eq_def (And.intro @Ag.eq_def (And.intro @iV.eq_def (And.intro @nD.eq_def (And.intro @a7u.eq_def (And.intro @oO.eq_def (And.intro @uS.eq_def (And.intro @Eo.eq_def (@Q9.eq_def))))))))))))))))))))))))
def wkR:=And.intro @Vu (And.intro @TL (And.intro @sJ.eq_def (And.intro @iq.eq_def (And.intro @qL.eq_def (And.intro @UN (And.intro @Uu (And.intro @Ut (And.intro @YD (And.intro @Ny (And.intro @a1N (And.intro @a1O (And.intro @YB (And.intro @Nv (And.intro @YM (And.intro @Xw (And.intro @Xv (And.intro (fun {zi:Zi}=>@Aj.eq_1 zi) (And.intro (fun {zi:Zi}=>@Aj.eq_2 zi) (And.intro @a1Y (And.intro @Qo (And.intro @Jm (And.intro @UA (And.intro @Qj (And.intro @UO (And.intro @Z5 (And.intro @Jv (And.intro @a5i (And.intro @YL (And.intro @a1V (And.intro @Xm (And.intro @a0V (And.intro @lC.eq_1 (And.intro @lC.eq_2 (@JZ.eq_def))))))))))))))))))))))))))))))))))
theorem a9V : @zsl zi0=.sl []:=rfl
theorem Xx (avs:List AV)(t:Nat):oZ avs t=(avs[t]?).getD .undef:=rfl
def wkX:=And.intro a9S (And.intro @qM.eq_def (And.intro b0b (And.intro @YF (And.intro @Nz (And.intro @a1W (And.intro @Xx (And.intro @O5.eq_1 (And.intro @O5.eq_2 (And.intro @a7O.eq_def (And.intro a9V (And.intro a9Y (And.intro (fun {zi:Zi}=>@sN.eq_def zi) (And.intro (fun {zi:Zi}=>@Nl.eq_def zi) (And.intro @OU.eq_def (And.intro @a3p (And.intro @Vf (And.intro @a3s (And.intro @a3q (And.intro @a3r (And.intro @qK.eq_def (And.intro @xY.eq_def (And.intro @UW.eq_def (And.intro @Yz (And.intro @Nu (And.intro @Vw (And.intro @Pn (And.intro @Xu (@HC.mrk.injEq))))))))))))))))))))))))))))
def wk:=And.intro wkX (And.intro wkR (And.intro wk0 (And.intro wk1 (And.intro wk2 (And.intro wk3 (And.intro wk4 (And.intro wk5 (And.intro wk6 (And.intro wk7 (And.intro wk8 (wk9)))))))))))
end Go.AL
