/- Parts of a proof; no condition. -/
import Derived.Test.YtlmjabnkjmfcmaaGreatR3
namespace Go.Proofs.YtlmjabnkjmfcmaaGreat
open Go Go.RowKit Go.PlainAid
set_option linter.unusedVariables false
set_option linter.unusedSimpArgs false
set_option linter.unusedSectionVars false
set_option maxHeartbeats 20000000
set_option linter.defProp false
section
variable [nM]
namespace Ab
variable {lim lim' : Nat -> Nat} {bs bs' : List Nat} {w w' : World} {P : Program} {T : kZ} {a : Act} {o : Oper} {m : Nat -> Prop} {bx bx' : List (List AV)} {S S' : uP} {K : Act -> World -> Prop} {Q : Exit -> Act -> World -> Prop} {cal : BR} {σ σ' σ1 σ2 : aF}
def Bz (tmps:Array Value):ResultVar->Sem Value
 |.tmp t=>pure (tmps.getD t undef)
 |.cell a t=>do loadVar t (←asAddr (tmps.getD a undef))
theorem Qb {α:Type} {f:α->Sem Value}:∀{l:List α} {us:List Value},us.length=l.length->(∀(i:Nat) (x:α) (u:Value),l[i]?=some x->us[i]?=some u->(f x).run P w=.ok u w)->(l.mapM f).run P w=.ok us w
 |[],us,h,_=>by obtain rfl:=List.eq_nil_of_length_eq_zero h;rfl
 |x::l,[],h,_=>by simp at h
 |x::l,u::us,h,hf=>by rw [List.mapM_cons,Sem.run_bind,hf 0 x u rfl rfl];show Sem.run P (l.mapM f>>=_) w=_;rw [Sem.run_bind,Qb (by simpa using h) (fun i y v hy hv=>hf (i+1) y v (by simpa using hy) (by simpa using hv))];rfl
def Bf (us:List Value):Value:=
 match us with
 |[u]=>u
 |us=> .tuple us.toArray
theorem Pm {fn:Func} {tmps:Array Value} {us:List Value} (hl:us.length=fn.results.toList.length) (h:∀(i:Nat) (x:ResultVar) (u:Value),fn.results.toList[i]?=some x->us[i]?=some u->(Bz tmps x).run P w=.ok u w):(results fn tmps).run P w=.ok (Bf us) w:=by
 have he:results fn tmps=(do
   let vs←fn.results.mapM (Bz tmps)
   pure (if h:vs.size=1 then vs[0] else .tuple vs)):=by
  unfold results;congr 1
 rw [he,Array.mapM_eq_mapM_toList,Sem.run_bind];have hm:((fun l:List Value=>l.toArray)<$>List.mapM (Bz tmps) fn.results.toList:Sem (Array Value)).run P w=.ok us.toArray w:=by rw [map_eq_pure_bind,Sem.run_bind,Qb hl h];rfl
 rw [hm];by_cases e:us.length=1
 ·obtain ⟨u,rfl⟩:=List.length_eq_one_iff.1 e;rfl
 ·have hr:Bf us=.tuple us.toArray:=by
   unfold Bf;split
   ·exact absurd rfl e
   ·rfl
  rw [hr];have e2:¬us.toArray.size=1:=by simpa using e
  show Sem.run P (pure (if h:us.toArray.size=1 then us.toArray[0] else .tuple us.toArray)) w=_;rw [dif_neg e2];rfl
theorem FQ {t:Nat} {v u:Value} (h:(Instr.loadAt t v).run P w=.ok u w) {ad:Addr} (hv:v=.pointer (some ad)):(do loadVar t (←asAddr v):Sem Value).run P w=.ok u w:=by subst hv;rw [←h];rfl
theorem RQ (HT:mM P T) (H:aB lim bs w σ.bx (Sl σ.tm a) m) {n:Nat} {r:ResultVar} {v:AV} (h:Gi T n σ r=some v):∃u,(Bz a.tmps r).run P w=.ok u w∧AV.R lim bs w v u∧v.top=true∧∀g,v.isRow=true->u.ownBlock=some g->∃t,Own w bs σ.bx (Sl σ.tm a) (.t t) g:=by
 cases r with
 |tmp t=>
  cases h;exact ⟨_,rfl,H.slot t,H.kN t,fun g h1 h2=>⟨t,⟨h1,h2⟩⟩⟩
 |cell ad t=>
  simp only [Gi] at h;unfold fK at h;split at h
  ·cases h
  rename_i d hd;split at h
  case h_2=>cases h
  rename_i i o' hi;split at h
  ·cases h
  rename_i c hc;have hx:=H.slot ad;rw [show (Sl σ.tm a ad).1=get σ.tm ad from rfl,hi,AV.R] at hx;obtain ⟨b,hb,hx⟩:=hx;have hx2:a.tmps.getD ad undef=.pointer (some ⟨b,o',none⟩):=hx;obtain ⟨C,tl,tt,h1,h2,h3⟩:=H.box i b c hb hc;have hcell:∀(j:Nat) (v:Value),C[j]?=some v->w.cell? ⟨b,j,none⟩=some v:=fun j v hv=>dV h1 hv;simp only [] at h;split at h
  ·rename_i ha;split at h
   case isFalse=>cases h
   rename_i hl;cases h;have hlen:=AV.gK h2;have hl2:((C.drop o').take d.size).length=d.size:=by rw [List.length_take,List.length_drop];omega
   have hcc:∀(j:Nat) (v:Value),((C.drop o').take d.size)[j]?=some v->w.cell? ⟨b,o'+j,none⟩=some v:=by intro j v hj;obtain ⟨-,hj⟩:=iK hj;rw [List.getElem?_drop] at hj;exact hcell _ v hj
   refine ⟨_,FQ (xE HT hd ha hl2 hcc) rfl|>fun h=>(show (Bz a.tmps (.cell ad t)).run P w=_ by show (do loadVar t (←asAddr (a.tmps.getD ad undef)):Sem Value).run P w=_;rw [hx2];exact h),?_,?_,fun g hh=>by cases hh⟩
   ·rw [AV.R];exact ⟨_,rfl,by simpa using uQ (vO (AQ h2))⟩
   ·have htop:((c.drop o').take d.size).all AV.top=true:=by rw [List.all_eq_true] at h3⊢;exact fun y hy=>h3 y (List.mem_of_mem_drop (List.mem_of_mem_take hy))
    show (false||AV.aj _)=true;rw [nI htop (vO (AQ h2))];rfl
  ·rename_i ha;cases hco:c[o']? with
   |none=>rw [hco] at h;cases h
   |some v0=>
    rw [hco] at h;cases h;obtain ⟨u,e1,e2⟩:=mO h2 hco;obtain ⟨ud,hu,hr,-⟩:=HT.und t d hd;have hvt:v0.top=true:=by rw [List.all_eq_true] at h3;exact h3 v0 (List.mem_of_getElem? hco)
    refine ⟨u,FQ (tJ hu (by rw [hr];simpa using ha) (hcell o' u e1)) rfl|>fun h=>(show (Bz a.tmps (.cell ad t)).run P w=_ by show (do loadVar t (←asAddr (a.tmps.getD ad undef)):Sem Value).run P w=_;rw [hx2];exact h),e2.cO,?_,fun g g1=>by rw [xW] at g1;cases g1⟩;unfold AV.top;rw [AV.R.qc hvt e2];simp
theorem Ir (HT:mM P T) (H:aB lim bs w σ.bx (Sl σ.tm a) m) {n:Nat}:∀{l:List ResultVar} {vs:List AV},uO T n σ l=some vs->∃us:List Value,us.length=l.length∧vs.length=l.length∧(∀(i:Nat) (r:ResultVar) (u:Value),l[i]?=some r->us[i]?=some u->(Bz a.tmps r).run P w=.ok u w)∧AV.Rs lim bs w vs us∧vs.all AV.top=true∧∀v u,vs=[v]->us=[u]->∀g,v.isRow=true->u.ownBlock=some g->∃t,Own w bs σ.bx (Sl σ.tm a) (.t t) g
 |[],vs,h=>by rw [uO] at h;cases h;exact ⟨[],rfl,rfl,fun i r u h=>by simp at h,by rw [AV.Rs],rfl,fun v u h=>by cases h⟩
 |r::l,vs,h=>by
  rw [uO] at h;split at h
  ·rename_i v vs' h1 h2;cases h;obtain ⟨u,a1,a2,a3,a4⟩:=RQ HT H h1;obtain ⟨us,b1,b2,b3,b4,b5,-⟩:=Ir HT H h2;refine ⟨u::us,by simp [b1],by simp [b2],fun i r' u' hi hu=>?_,by rw [AV.Rs];exact ⟨u,us,rfl,a2,b4⟩,by rw [List.all_cons,a3,b5];rfl,fun v' u' hv hu=>?_⟩
   ·cases i with
    |zero=>simp at hi hu;subst hi hu;exact a1
    |succ i=>exact b3 i r' u' (by simpa using hi) (by simpa using hu)
   ·cases hv;cases hu;exact a4
  ·cases h
theorem jw (HT:mM P T) (H:aB lim bs w σ.bx (Sl σ.tm a) m) {n:Nat} {fn:Func} {vs:List AV} (h:uO T n σ fn.results.toList=some vs):∃u,(results fn a.tmps).run P w=.ok u w∧aB lim bs w σ.bx (rS (kH vs) u) m:=by
 obtain ⟨us,b1,b2,b3,b4,b5,b6⟩:=Ir HT H h;refine ⟨Bf us,Pm b1 b3,?_⟩;have hus:=AV.gK b4;have hR:AV.R lim bs w (kH vs) (Bf us)∧(kH vs).top=true∧∀g,(kH vs).isRow=true->(Bf us).ownBlock=some g->∃t,Own w bs σ.bx (Sl σ.tm a) (.t t) g:=by
  unfold kH;split
  ·rename_i v;obtain ⟨u,rfl⟩:=List.length_eq_one_iff.1 hus;rw [AV.Rs] at b4;obtain ⟨u',r',e,g1,-⟩:=b4;cases e;rw [List.all_cons,Bool.and_eq_true] at b5;exact ⟨g1,b5.1,b6 v u rfl rfl⟩
  ·rename_i hne;have hne2:Bf us=.tuple us.toArray:=by
    unfold Bf;split
    ·rename_i u;obtain ⟨v,rfl⟩:=List.length_eq_one_iff.1 hus.symm;exact absurd rfl (hne v)
    ·rfl
   rw [hne2];refine ⟨?_,?_,fun g hh=>by cases hh⟩
   ·rw [AV.R];exact ⟨_,rfl,by simpa using uQ b4⟩
   ·show (false||AV.aj _)=true;rw [nI b5 b4];rfl
 obtain ⟨r1,r2,r4⟩:=hR;have ho:∀p g,Own w bs σ.bx (rS (kH vs) (Bf us)) p g->∃q,Own w bs σ.bx (Sl σ.tm a) q g∧((p=.t 0∧∃t,q=.t t)∨(q=p∧∃i j,p=.b i j)):=by
  intro p g hp;cases p with
  |t k=>
   obtain ⟨p1,p2⟩:=hp;by_cases hk:k=0
   ·subst hk;obtain ⟨t,q1⟩:=r4 g p1 p2;exact ⟨.t t,q1,.inl ⟨rfl,t,rfl⟩⟩
   ·have:(rS (kH vs) (Bf us) k).1=.bad:=by unfold rS;rw [if_neg hk]
    rw [this] at p1;cases p1
  |b i j=>exact ⟨.b i j,hp,.inr ⟨rfl,i,j,rfl⟩⟩
 refine ⟨H.len,H.BX,H.free,H.mb,H.box,fun k=>?_,fun k=>?_,H.top,fun p g hp=>?_,fun p q g hp hq=>?_⟩
 ·unfold rS;split
  ·exact r1
  ·exact oV _
 ·unfold rS;split
  ·exact r2
  ·rfl
 ·obtain ⟨q,hq,-⟩:=ho p g hp;exact H.own q g hq
 ·obtain ⟨p',hp',e1⟩:=ho p g hp;obtain ⟨q',hq',e2⟩:=ho q g hq;have:=H.qO p' q' g hp' hq';subst this;rcases e1 with ⟨e1,t1,f1⟩|⟨e1,i1,j1,f1⟩
  ·rcases e2 with ⟨e2,t2,f2⟩|⟨e2,i2,j2,f2⟩
   ·rw [e1,e2]
   ·rw [f1] at e2;rw [←e2] at f2;cases f2
  ·rcases e2 with ⟨e2,t2,f2⟩|⟨e2,i2,j2,f2⟩
   ·rw [f2] at e1;rw [←e1] at f1;cases f1
   ·rw [←e1,←e2]
theorem P9 {g:AV->Option AV}:∀{l l':List AV},oZ g l=some l'->l'.length=l.length∧∀(i:Nat) (x:AV),l[i]?=some x->∃y,l'[i]?=some y∧g x=some y
 |[],l',h=>by rw [oZ] at h;cases h;exact ⟨rfl,fun i x h=>by simp at h⟩
 |z::l,l',h=>by
  rw [oZ] at h;split at h
  ·rename_i y r h1 h2;cases h;obtain ⟨g1,g2⟩:=P9 h2;refine ⟨by simp [g1],fun i x hi=>?_⟩;cases i with
   |zero=>simp at hi;subst hi;exact ⟨y,rfl,h1⟩
   |succ i=>obtain ⟨y',h3,h4⟩:=g2 i x (by simpa using hi);exact ⟨y',by simpa using h3,h4⟩
  ·cases h
theorem wW:∀{l:List AV} {vs:List Value},vs.length=l.length->(∀(i:Nat) (x:AV) (v:Value),l[i]?=some x->vs[i]?=some v->AV.R lim bs w x v)->AV.Rs lim bs w l vs
 |[],vs,h,_=>by rw [AV.Rs];exact List.eq_nil_of_length_eq_zero h
 |x::l,[],h,_=>by simp at h
 |x::l,v::vs,h,hf=>by rw [AV.Rs];exact ⟨v,vs,rfl,hf 0 x v rfl rfl,wW (by simpa using h) (fun i y u hy hu=>hf (i+1) y u (by simpa using hy) (by simpa using hu))⟩
theorem DY:∀{l:List AV},(∀(i:Nat) (x:AV),l[i]?=some x->x.flat=true)->AV.aj l=true
 |[],_=>rfl
 |x::l,h=>by rw [AV.aj,h 0 x rfl,DY (fun i y hy=>h (i+1) y (by simpa using hy))];rfl
def vU (lim:Nat->Nat) (bs:List Nat) (n:Nat) (w:World) (b:Nat):Nat:=
 if b ∈ bs.drop n then (match w.heap[b]? with|some (.cells cur _ _)=>cur.size|_=>0) else lim b
theorem Dt (H:aB lim bs w bx S m) (n b:Nat):lim b<=vU lim bs n w b:=by
 unfold vU;split
 ·rename_i h;rw [H.free b (List.mem_of_mem_drop h)];exact Nat.zero_le _
 ·exact Nat.le_refl _
theorem IM (H:aB lim bs w bx S m) (n:Nat):AV.Ext lim bs w (vU lim bs n w) bs w:=
 ⟨fun _ _ h=>h,Nat.le_refl _,fun b _=>Dt H n b,fun _ _ _ _=>rfl,fun b cur e p h=>⟨cur,h,rfl⟩⟩
theorem Aw (H:aB lim bs w bx S m) {n:Nat}:∀(k:Nat) {v v':AV} {u:Value},v.flat=true->lh bx n k v=some v'->AV.R lim bs w v u->AV.R (vU lim bs n w) (bs.take n) w v' u∧v'.flat=true∧v'.pf=true
 |0,v,v',u,_,h,_=>by unfold lh at h;cases h
 |k+1,v,v',u,hf,h,hR=>by
  have ih:=fun {v v':AV} {u:Value} (a:v.flat=true) (b:lh bx n k v=some v') (c:AV.R lim bs w v u)=>Aw H k a b c;have UG:∀{l:List AV},(∀(i:Nat) (x:AV),l[i]?=some x->x.pf=true)->AV.y8 l=true:=by
   intro l
   induction l with
   |nil=>intro _;rfl
   |cons x l ihl=>
    intro h;rw [AV.y8,h 0 x rfl,ihl (fun i y hy=>h (i+1) y (by simpa using hy))];rfl
  unfold lh at h;split at h
  ·rename_i hp;cases h;exact ⟨AV.R.free hp (AV.R.ext (IM H n) hf hR),hf,hp⟩
  ·rename_i hnp;have many:∀{l l':List AV} {us:List Value},AV.aj l=true->oZ (lh bx n k) l=some l'->AV.Rs lim bs w l us->AV.Rs (vU lim bs n w) (bs.take n) w l' us∧AV.aj l'=true∧AV.y8 l'=true:=by
    intro l l' us hfl hm hrs;obtain ⟨g1,g2⟩:=P9 hm;have hl:=AV.gK hrs;have hback:∀(i:Nat) (x:AV),l'[i]?=some x->∃y u,l[i]?=some y∧lh bx n k y=some x∧us[i]?=some u∧AV.R lim bs w y u∧y.flat=true:=by
     intro i x hx;have hi:i<l.length:=by rw [←g1];exact (List.getElem?_eq_some_iff.1 hx).1
     obtain ⟨y',h3,h4⟩:=g2 i _ (List.getElem?_eq_getElem hi);rw [hx] at h3;cases h3;obtain ⟨u',h5,h6⟩:=mO hrs (List.getElem?_eq_getElem hi);exact ⟨l[i],u',List.getElem?_eq_getElem hi,h4,h5,h6,fJ hfl (List.getElem?_eq_getElem hi)⟩
    refine ⟨wW (by rw [hl,g1]) (fun i x v hx hv=>?_),DY (fun i x hx=>?_),UG (fun i x hx=>?_)⟩
    ·obtain ⟨y,u,q1,q2,q3,q4,q5⟩:=hback i x hx;rw [hv] at q3;cases q3;exact (ih q5 q2 q4).1
    ·obtain ⟨y,u,q1,q2,q3,q4,q5⟩:=hback i x hx;exact (ih q5 q2 q4).2.1
    ·obtain ⟨y,u,q1,q2,q3,q4,q5⟩:=hback i x hx;exact (ih q5 q2 q4).2.2
   split at h
   ·
    rename_i j e z mm;split at h
    case h_2=>cases h
    rename_i c hc;split at h
    case isFalse=>cases h
    rename_i hcond;obtain ⟨hnj,hlen⟩:=hcond;cases hm:oZ (lh bx n k) ((c.take (mm*z)).map AV.cO) with
    |none=>rw [hm] at h;cases h
    |some l'=>
     rw [hm] at h;cases h;rw [AV.R] at hR;obtain ⟨b,cp,cur,q1,q2,q3,q4,q5,rfl⟩:=hR;obtain ⟨C,tl,t,g1,g2,g3⟩:=H.box j b c q1 hc;rw [q2] at g1;cases g1;have hC:=AV.gK g2;have htop:(c.take (mm*z)).all AV.top=true:=by rw [List.all_eq_true] at g3⊢;exact fun y hy=>g3 y (List.mem_of_mem_take hy)
     obtain ⟨r1,r2,r3⟩:=many (nI htop (vO g2)) hm (uQ (vO (n:=mm*z) g2));have hl':=AV.gK r1;have hbn:b ∈ bs.drop n:=by
      have:(bs.drop n)[j-n]?=some b:=by rw [List.getElem?_drop,show n+(j-n)=j by omega];exact q1
      exact List.mem_of_getElem? this
     refine ⟨?_,r2,r3⟩;rw [AV.R];refine ⟨_,cp,rfl,q4,.inr ⟨b,0,rfl,dO q2,?_,qW r1 (fun i v hv=>?_)⟩⟩
     ·unfold vU;rw [if_pos hbn,q2];simp only [List.length_take] at hl'⊢;simp only [List.size_toArray,List.length_append];omega
     ·obtain ⟨-,hv⟩:=iK hv;rw [Nat.zero_add];exact dV q2 hv
   ·rename_i l;cases hm:oZ (lh bx n k) l with
    |none=>rw [hm] at h;cases h
    |some l'=>
     rw [hm] at h;cases h;rw [AV.R] at hR⊢;obtain ⟨vs,rfl,h2⟩:=hR;obtain ⟨r1,r2,r3⟩:=many (by rw [AV.flat] at hf;exact hf) hm h2;exact ⟨⟨vs,rfl,r1⟩,r2,r3⟩
   ·rename_i l;cases hm:oZ (lh bx n k) l with
    |none=>rw [hm] at h;cases h
    |some l'=>
     rw [hm] at h;cases h;rw [AV.R] at hR⊢;obtain ⟨vs,rfl,h2⟩:=hR;obtain ⟨r1,r2,r3⟩:=many (by rw [AV.flat] at hf;exact hf) hm h2;exact ⟨⟨vs,rfl,r1⟩,r2,r3⟩
   ·rename_i mm l;cases hm:oZ (lh bx n k) l with
    |none=>rw [hm] at h;cases h
    |some l'=>
     rw [hm] at h;cases h;rw [AV.R] at hR⊢;obtain ⟨ad,c,rfl,h1,h2⟩:=hR;rw [AV.flat] at hf;rcases h2 with rfl|⟨b,o',rfl,f1,f2,f3⟩
     ·have:l'=[]:=by rw [oZ] at hm;exact (Option.some.inj hm).symm
      subst this;exact ⟨⟨ad,c,rfl,h1,.inl rfl⟩,rfl,rfl⟩
     ·obtain ⟨us,u1,u2,u3⟩:=yf f3;obtain ⟨r1,r2,r3⟩:=many hf hm u2;have hl':=AV.gK r1;exact ⟨⟨_,c,rfl,h1,.inr ⟨b,o',rfl,f1,by have:=Dt H n b;omega,qW r1 u3⟩⟩,r2,r3⟩
   ·cases h
theorem KX (HT:mM P T) (H:aB lim bs w σ.bx (Sl σ.tm a) m) {n:Nat} {Xu:Bool} {fn:Func} {r:AV} (hn:n<=σ.bx.length) (h:JQ T Xu σ fn.results.toList n=some (r,bx')):∃u lim' bs',(results fn a.tmps).run P w=.ok u w∧aB lim' bs' w bx' (rS r u) m∧Fr m lim w lim' w∧n<=bx'.length∧∀i,i<n->bs'[i]?=bs[i]?:=by
 unfold JQ at h;split at h
 ·cases h
 rename_i vs hvs;obtain ⟨u,hu,H0⟩:=jw HT H hvs;have hrow:∀g,Own w bs σ.bx (rS (kH vs) u) (.t 0) g->g ∉ bs:=fun g hg=>(H0.own _ _ hg).2;split at h
 ·
  split at h
  case h_2=>cases h
  rename_i v hv;split at h
  case isFalse=>cases h
  rename_i hc;have hh:=Option.some.inj h;have hr1:v=r:=congrArg Prod.fst hh;have hr2:σ.bx.take n=bx':=congrArg Prod.snd hh;clear hh h;subst hr1 hr2;obtain ⟨c1,c2⟩:=hc;have wF:∀b,b ∉ bs.drop n->vU lim bs n w b=lim b:=fun b hb=>by unfold vU;rw [if_neg hb]
  have htd:∀b,b ∈ bs.take n->b ∉ bs.drop n:=by intro b h1 h2;obtain ⟨i,hi⟩:=List.getElem?_of_mem h1;obtain ⟨j,hj⟩:=List.getElem?_of_mem h2;obtain ⟨hi1,hi⟩:=iK hi;rw [List.getElem?_drop] at hj;have:=gm H0.BX hi hj;omega
  have hnd:∀b,b ∉ bs->b ∉ bs.drop n:=fun b h1 h2=>h1 (List.mem_of_mem_drop h2);have hsub:∀b ∈ bs.take n,b ∈ bs:=fun b h=>List.mem_of_mem_take h;have qm:=IM H0 n;have hfr:Fr m lim w (vU lim bs n w) w:=by refine ⟨Below.refl _ _,fun b hb hm=>⟨rfl,?_⟩,fun b _=>Dt H0 n b,fun _ _ _ _=>rfl,fun b cur e p h=>⟨cur,h,rfl⟩⟩;refine wF b (fun hd=>hm (H0.mb b (List.mem_of_mem_drop hd)))
  have hval:AV.R (vU lim bs n w) (bs.take n) w v u∧v.top=true∧(v.isRow=true->v=kH vs):=by
   have hs:=H0.slot 0;have ht:=H0.kN 0;have hs':AV.R lim bs w (kH vs) u:=hs;have ht':(kH vs).top=true:=ht;cases hr:(kH vs).isRow with
   |true=>
    have hve:v=kH vs∧(kH vs).pf=true:=by
     unfold lh at hv;split at hv
     ·rename_i hp;cases hv;exact ⟨rfl,hp⟩
     ·cases hh:kH vs<;>rw [hh] at hr<;>first|(cases hr;done)|(rw [hh] at hv;cases hv;done)
    rw [hve.1];refine ⟨AV.R.free hve.2 (AV.R.pV qm ht' (fun g h1 h2=>⟨rfl,wF g (hnd g ?_)⟩) hs'),ht',fun _=>rfl⟩;exact hrow g ⟨h1,h2⟩
   |false=>
    have hfl:(kH vs).flat=true:=by rw [AV.top,hr,Bool.false_or] at ht';exact ht'
    obtain ⟨r1,r2,r3⟩:=Aw H0 1000 hfl hv hs';refine ⟨r1,by rw [AV.top,r2];simp,fun hh=>?_⟩;rw [nJ r2] at hh;cases hh
  obtain ⟨v1,v2,v3⟩:=hval;have ho:∀p g,Own w (bs.take n) (σ.bx.take n) (rS v u) p g->Own w bs σ.bx (rS (kH vs) u) p g:=by
   intro p g hp;cases p with
   |t k=>
    obtain ⟨p1,p2⟩:=hp;by_cases hk:k=0
    ·subst hk;have p1':v.isRow=true:=p1;have:=v3 p1';exact ⟨by rw [this] at p1';exact p1',p2⟩
    ·have:(rS v u k).1=.bad:=by unfold rS;rw [if_neg hk]
     rw [this] at p1;cases p1
   |b i j=>
    obtain ⟨b,x,y,v,q1,q2,q3⟩:=hp;exact ⟨b,x,y,v,(iK q1).2,(iK q2).2,q3⟩
  refine ⟨u,vU lim bs n w,bs.take n,hu,⟨by rw [List.length_take,List.length_take,H0.len],H0.BX.sublist (List.take_sublist _ _),fun b h=>?_,fun b h=>H0.mb b (hsub b h),fun i b x hi hx=>?_,fun k=>?_,fun k=>?_,fun b hb=>?_,fun p g hp=>⟨(H0.own p g (ho p g hp)).1,fun h=>(H0.own p g (ho p g hp)).2 (hsub g h)⟩,fun p q g hp hq=>H0.qO p q g (ho p g hp) (ho q g hq)⟩,hfr,by rw [List.length_take];omega,fun i hi=>by rw [List.getElem?_take,if_pos hi]⟩
  ·rw [wF b (htd b h)];exact H0.free b (hsub b h)
  ·obtain ⟨c,tl,t,g1,g2,g3⟩:=H0.box i b x (iK hi).2 (iK hx).2;rw [List.all_eq_true] at c2;refine ⟨c,tl,t,g1,AV.Rs.free (c2 x (List.mem_of_getElem? hx)) (qj qm g3 (fun j y v g hy hv hr hg=>⟨rfl,wF g (hnd g ?_)⟩) g2),g3⟩;exact (H0.own (.b i j) g ⟨b,x,y,v,(iK hi).2,(iK hx).2,hy,hr,dV g1 hv,hg⟩).2
  ·unfold rS;split
   ·exact v1
   ·exact oV _
  ·unfold rS;split
   ·exact v2
   ·rfl
  ·rw [wF b (fun hd=>?_)]
   ·exact H0.top b hb
   ·have:=lU H0 (List.mem_of_mem_drop hd);omega
 ·split at h
  case h_2=>cases h
  rename_i ids uU hp;cases h;obtain ⟨h1,h2,⟨cs,h3,rfl,h4⟩,h5⟩:=Dh hp;have hS:∀k,∀i ∈ (rS (kH vs) u k).1.ids,i ∈ ids:=by
   intro k i hi;unfold rS at hi;split at hi
   ·exact h5 i hi
   ·simp [AV.ids] at hi
  obtain ⟨HP,Qo,-⟩:=H0.pick h1 h3 h4 hS;have hfun:(fun k=>((rS (kH vs) u k).1.bP ids.idxOf,(rS (kH vs) u k).2))=rS ((kH vs).bP ids.idxOf) u:=by funext k;unfold rS;split<;>rfl
  rw [hfun] at HP;refine ⟨u,lim,_,hu,HP,Fr.refl,?_,fun i hi=>?_⟩
  ·rw [List.length_map,(oP h3).1];rcases Nat.eq_zero_or_pos n with e|e
   ·omega
   ·have:=(List.getElem?_eq_some_iff.1 (h2 (n-1) oM)).1;omega
  ·have hb:i<bs.length:=by rw [H.len];omega
   rw [Qo i i _ (h2 i hi) (List.getElem?_eq_getElem hb),List.getElem?_eq_getElem hb]
theorem BF:∀(l:List AV) (tm:Tm) (k n:Nat),get (params tm k l) n=if k<=n∧n<k+l.length then l.getD (n-k) .bad else get tm n
 |[],tm,k,n=>by rw [params,if_neg (by simp)]
 |v::l,tm,k,n=>by
  rw [params,BF l,bH];by_cases h:n=k
  ·subst h;rw [if_neg oM,if_pos rfl,if_pos ⟨Nat.le_refl _,by simp⟩,Nat.sub_self];rfl
  ·by_cases h2:k<=n
   ·have e:n-k=n-(k+1)+1:=oM;simp only [List.length_cons,e,List.getD_cons_succ];by_cases h3:n<k+1+l.length
    ·rw [if_pos ⟨oM,h3⟩,if_pos ⟨h2,oM⟩]
    ·rw [if_neg oM,if_neg h,if_neg oM]
   ·rw [if_neg oM,if_neg h,if_neg (by simp;omega)]
def sS (fn:Func):Bool:=
 !(fn.name== "runtime.NumGoroutine") && match fn.body with
 |some c=>jK fn.ntmps c
 |none=>false
theorem WR (HT:mM P T) (HC:fB P cal) {an:Gm} {n f:Nat} {fn:Func} (hf:P.funcs[f]?=some fn) (hg:sS fn=true) {args:List AV} {r:AV} (h:ag3 cal T an n fn args bx=some (r,bx')):aV P f args bx r bx':=by
 unfold sS at hg;rw [Bool.and_eq_true] at hg;obtain ⟨hg1,hg2⟩:=hg;unfold ag3 at h;cases hb:fn.body with
 |none=>rw [hb] at h;cases h
 |some c=>
  rw [hb] at h hg2;simp only [] at h hg2;have hend:∃e σ,yt cal T an bx.length n c ⟨params [] 0 args,bx⟩=some (e,σ)∧(e=.normal∨e=.ret)∧JQ T an.Xu σ fn.results.toList bx.length=some (r,bx'):=by
   split at h
   ·rename_i σ hσ;exact ⟨_,σ,hσ,.inl rfl,h⟩
   ·rename_i σ hσ;exact ⟨_,σ,hσ,.inr rfl,h⟩
   ·cases h
  obtain ⟨e,σ,h1,h2,h3⟩:=hend;have hlen:bx.length<=bx'.length:=by
   unfold JQ at h3;split at h3
   ·cases h3
   ·split at h3
    ·split at h3
     ·split at h3
      ·rename_i hc;cases h3;rw [List.length_take];omega
      ·cases h3
     ·cases h3
    ·split at h3
     ·rename_i ids uU hp;cases h3;obtain ⟨-,g2,⟨cs,g3,rfl,-⟩,-⟩:=Dh hp;rw [List.length_map,(oP g3).1];rcases Nat.eq_zero_or_pos bx.length with e|e
      ·omega
      ·have:=(List.getElem?_eq_some_iff.1 (g2 (bx.length-1) oM)).1;omega
     ·cases h3
  refine ⟨⟨fn,hf,by simpa using hg1,by rw [hb];rfl⟩,hlen,fun lim bs w vs m hl hm H=>?_⟩;refine calls_of_wp hf hb ?_;have hsz:fn.ntmps<=(vs.toArray++Array.replicate (fn.ntmps-vs.toArray.size) undef).size:=by simp;omega
  have hS:Sl (params [] 0 args) {tmps:=vs.toArray++Array.replicate (fn.ntmps-vs.toArray.size) undef,defers:=[]}=aS args vs:=by
   funext k;unfold Sl aS;rw [BF];congr 1
   ·by_cases hk:k<args.length
    ·rw [if_pos ⟨oM,oM⟩];simp
    ·rw [if_neg oM];simp [get,List.getD_eq_getElem?_getD,List.getElem?_eq_none (show args.length<=k by omega)]
   ·simp only [Array.getD_eq_getD_getElem?,List.getD_eq_getElem?_getD];by_cases hk:k<vs.length
    ·rw [Array.getElem?_append_left (by simpa using hk)];simp
    ·rw [Array.getElem?_append_right (by simpa using hk),List.getElem?_eq_none oM,Array.getElem?_replicate];split<;>rfl
  have hbs:bs.length=bx.length:=H.len;refine Tq HT HC (base:=bx.length) hg2 hsz (Nat.le_refl _) (σ:=⟨params [] 0 args,bx⟩) (m:=m) (by rw [hS];exact H) hm h1 fun lim' bs' w' a' hgo=>?_;have hlen2:bx.length<=σ.bx.length:=by have:=uG (by rw [hbs];exact Nat.le_refl _) hgo.pre;rw [hgo.hold.len] at this;exact this
  obtain ⟨u,jB,wR,u1,u2,u3,u4,u5⟩:=KX (fn:=fn) HT hgo.hold hlen2 h3;have hpost:a'.defers=[]∧∃v,(results fn a'.tmps).run P w'=.ok v w'∧(∃v' lim' bs',Ending.returned v=.returned v'∧aB lim' bs' w' bx' (rS r v') m∧Fr m lim w lim' w'∧∀i,i<bx.length->bs'[i]?=bs[i]?):=by refine ⟨hgo.df,u,u1,u,jB,wR,rfl,u2,hgo.fr.trans u3,fun i hi=>?_⟩;have hib:i<bs.length:=oM;rw [u5 i hi,hgo.pre i _ hi (List.getElem?_eq_getElem hib),List.getElem?_eq_getElem hib]
  rcases h2 with rfl|rfl
  ·exact hpost
  ·exact hpost
structure KOK (P:Program) (K:adx):Prop where
 T:mM P K.T
 fns:∀f fn,K.fns f=some fn->P.funcs[f]?=some fn∧sS fn=true
 abT:∀f g args v,K.abT f=some g->g args=some v->v.pf=true->v.flat=true->aV P f args [] v []
 abu:∀f g cal args bx r bx',K.abu f=some g->fB P cal->g cal args bx=some (r,bx')->aV P f args bx r bx'
theorem BM {K:adx} (HK:KOK P K):∀n,fB P (Gj K n)
 |0,f,args,bx,r,bx',h=>by rw [Gj] at h;cases h
 |n+1,f,args,bx,r,bx',h=>by
  rw [Gj] at h;split at h
  ·rename_i g hg;split at h
   ·cases h
   ·rename_i v hv;split at h
    ·rename_i hc;cases h;have:bx=[]:=by simpa using hc.2.2
     subst this;exact HK.abT f g args _ hg hv hc.1 hc.2.1
    ·cases h
  ·split at h
   ·rename_i g hg;exact HK.abu f g _ args bx r bx' hg (BM HK n) h
   ·split at h
    ·rename_i fn hfn;obtain ⟨h1,h2⟩:=HK.fns f fn hfn;exact WR HK.T (BM HK n) h1 h2 h
    ·cases h
end Ab
end
end Go.Proofs.YtlmjabnkjmfcmaaGreat
