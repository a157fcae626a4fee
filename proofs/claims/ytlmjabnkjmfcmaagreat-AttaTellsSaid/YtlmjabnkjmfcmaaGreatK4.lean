/- Own texts, joined and shortened by a program; no condition. -/
import Derived.Test.YtlmjabnkjmfcmaaGreatK3
import Derived.Test.YtlmjabnkjmfcmaaGreatProg
import Derived.Laws.Cover3
import Derived.Deep.DeepCutAuto
namespace Go.Proofs.YtlmjabnkjmfcmaaGreat
open Go Go.RowKit Go.PlainAid
set_option linter.unusedVariables false
set_option linter.unusedSimpArgs false
set_option maxHeartbeats 20000000
set_option linter.defProp false
namespace Ab
variable {lim lim' : Nat -> Nat} {bs bs' : List Nat} {w w' : World} {P : Program} {T : jL} {a : Act} {o : Oper} {m : Nat -> Prop} {bx bx' : List (List AV)} {S S' : rE} {K : Act -> World -> Prop} {Q : Exit -> Act -> World -> Prop} {cal : xR} {σ σ' σ1 σ2 : aJ}
def xw (tmps:Array Value):ResultVar->Sem Value
 |.tmp t=>pure (tmps.getD t undef)
 |.cell a t=>do loadVar t (←asAddr (tmps.getD a undef))
theorem JF {α:Type} {f:α->Sem Value}:∀{l:List α} {us:List Value},us.length=l.length->(∀(i:Nat) (x:α) (u:Value),l[i]?=some x->us[i]?=some u->(f x).run P w=.ok u w)->(l.mapM f).run P w=.ok us w
 |[],us,h,_=>by obtain rfl:=List.eq_nil_of_length_eq_zero h;rfl
 |x::l,[],h,_=>by simp at h
 |x::l,u::us,h,hf=>by rw [List.mapM_cons,Sem.run_bind,hf 0 x u rfl rfl];show Sem.run P (l.mapM f>>=_) w=_;rw [Sem.run_bind,JF (by simpa using h) (fun i y v hy hv=>hf (i+1) y v (by simpa using hy) (by simpa using hv))];rfl
def wW (us:List Value):Value:=
 match us with
 |[u]=>u
 |us=> .tuple us.toArray
theorem Jc {fn:Func} {tmps:Array Value} {us:List Value} (hl:us.length=fn.results.toList.length) (h:∀(i:Nat) (x:ResultVar) (u:Value),fn.results.toList[i]?=some x->us[i]?=some u->(xw tmps x).run P w=.ok u w):(results fn tmps).run P w=.ok (wW us) w:=by
 have he:results fn tmps=(do
   let vs←fn.results.mapM (xw tmps)
   pure (if h:vs.size=1 then vs[0] else .tuple vs)):=by
  unfold results;congr 1
 rw [he,Array.mapM_eq_mapM_toList,Sem.run_bind];have hm:((fun l:List Value=>l.toArray)<$>List.mapM (xw tmps) fn.results.toList:Sem (Array Value)).run P w=.ok us.toArray w:=by rw [map_eq_pure_bind,Sem.run_bind,JF hl h];rfl
 rw [hm];by_cases e:us.length=1
 ·obtain ⟨u,rfl⟩:=List.length_eq_one_iff.1 e;rfl
 ·have hr:wW us=.tuple us.toArray:=by
   unfold wW;split
   ·exact absurd rfl e
   ·rfl
  rw [hr];have e2:¬us.toArray.size=1:=by simpa using e
  show Sem.run P (pure (if h:us.toArray.size=1 then us.toArray[0] else .tuple us.toArray)) w=_;rw [dif_neg e2];rfl
theorem Ar {t:Nat} {v u:Value} (h:(Instr.loadAt t v).run P w=.ok u w) {ad:Addr} (hv:v=.pointer (some ad)):(do loadVar t (←asAddr v):Sem Value).run P w=.ok u w:=by subst hv;rw [←h];rfl
theorem Lf (HT:kN P T) (H:aM lim bs w σ.bx (Sl σ.tm a) m) {n:Nat} {r:ResultVar} {v:AV} (h:AP T n σ r=some v):∃u,(xw a.tmps r).run P w=.ok u w∧AV.R lim bs w v u∧v.top=true∧∀g,v.isRow=true->u.ownBlock=some g->∃t,Own w bs σ.bx (Sl σ.tm a) (.t t) g:=by
 cases r with
 |tmp t=>
  cases h;exact ⟨_,rfl,H.slot t,H.jm t,fun g h1 h2=>⟨t,⟨h1,h2⟩⟩⟩
 |cell ad t=>
  simp only [AP] at h;unfold eO at h;split at h
  ·cases h
  rename_i d hd;split at h
  case h_2=>cases h
  rename_i i o' hi;split at h
  ·cases h
  rename_i c hc;have hx:=H.slot ad;rw [show (Sl σ.tm a ad).1=get σ.tm ad from rfl,hi,AV.R] at hx;obtain ⟨b,hb,hx⟩:=hx;have hx2:a.tmps.getD ad undef=.pointer (some ⟨b,o',none⟩):=hx;obtain ⟨C,tl,tt,h1,h2,h3⟩:=H.box i b c hb hc;have hcell:∀(j:Nat) (v:Value),C[j]?=some v->w.cell? ⟨b,j,none⟩=some v:=fun j v hv=>dP h1 hv;simp only [] at h;split at h
  ·rename_i ha;split at h
   case isFalse=>cases h
   rename_i hl;cases h;have hlen:=AV.fB h2;have hl2:((C.drop o').take d.size).length=d.size:=by rw [List.length_take,List.length_drop];omega
   have hcc:∀(j:Nat) (v:Value),((C.drop o').take d.size)[j]?=some v->w.cell? ⟨b,o'+j,none⟩=some v:=by intro j v hj;obtain ⟨-,hj⟩:=gu hj;rw [List.getElem?_drop] at hj;exact hcell _ v hj
   refine ⟨_,Ar (tK HT hd ha hl2 hcc) rfl|>fun h=>(show (xw a.tmps (.cell ad t)).run P w=_ by show (do loadVar t (←asAddr (a.tmps.getD ad undef)):Sem Value).run P w=_;rw [hx2];exact h),?_,?_,fun g hh=>by cases hh⟩
   ·rw [AV.R];exact ⟨_,rfl,by simpa using qH (rH (wJ h2))⟩
   ·have htop:((c.drop o').take d.size).all AV.top=true:=by rw [List.all_eq_true] at h3⊢;exact fun y hy=>h3 y (List.mem_of_mem_drop (List.mem_of_mem_take hy))
    show (false||AV.ak _)=true;rw [kY htop (rH (wJ h2))];rfl
  ·rename_i ha;cases hco:c[o']? with
   |none=>rw [hco] at h;cases h
   |some v0=>
    rw [hco] at h;cases h;obtain ⟨u,e1,e2⟩:=kU h2 hco;obtain ⟨ud,hu,hr,-⟩:=HT.und t d hd;have hvt:v0.top=true:=by rw [List.all_eq_true] at h3;exact h3 v0 (List.mem_of_getElem? hco)
    refine ⟨u,Ar (tL hu (by rw [hr];simpa using ha) (hcell o' u e1)) rfl|>fun h=>(show (xw a.tmps (.cell ad t)).run P w=_ by show (do loadVar t (←asAddr (a.tmps.getD ad undef)):Sem Value).run P w=_;rw [hx2];exact h),e2.bY,?_,fun g g1=>by rw [wG] at g1;cases g1⟩;unfold AV.top;rw [AV.R.oo hvt e2];simp
theorem Ct (HT:kN P T) (H:aM lim bs w σ.bx (Sl σ.tm a) m) {n:Nat}:∀{l:List ResultVar} {vs:List AV},qG T n σ l=some vs->∃us:List Value,us.length=l.length∧vs.length=l.length∧(∀(i:Nat) (r:ResultVar) (u:Value),l[i]?=some r->us[i]?=some u->(xw a.tmps r).run P w=.ok u w)∧AV.Rs lim bs w vs us∧vs.all AV.top=true∧∀v u,vs=[v]->us=[u]->∀g,v.isRow=true->u.ownBlock=some g->∃t,Own w bs σ.bx (Sl σ.tm a) (.t t) g
 |[],vs,h=>by rw [qG] at h;cases h;exact ⟨[],rfl,rfl,fun i r u h=>by simp at h,by rw [AV.Rs],rfl,fun v u h=>by cases h⟩
 |r::l,vs,h=>by
  rw [qG] at h;split at h
  ·rename_i v vs' h1 h2;cases h;obtain ⟨u,a1,a2,a3,a4⟩:=Lf HT H h1;obtain ⟨us,b1,b2,b3,b4,b5,-⟩:=Ct HT H h2;refine ⟨u::us,by simp [b1],by simp [b2],fun i r' u' hi hu=>?_,by rw [AV.Rs];exact ⟨u,us,rfl,a2,b4⟩,by rw [List.all_cons,a3,b5];rfl,fun v' u' hv hu=>?_⟩
   ·cases i with
    |zero=>simp at hi hu;subst hi hu;exact a1
    |succ i=>exact b3 i r' u' (by simpa using hi) (by simpa using hu)
   ·cases hv;cases hu;exact a4
  ·cases h
theorem eU (HT:kN P T) (H:aM lim bs w σ.bx (Sl σ.tm a) m) {n:Nat} {fn:Func} {vs:List AV} (h:qG T n σ fn.results.toList=some vs):∃u,(results fn a.tmps).run P w=.ok u w∧aM lim bs w σ.bx (rS (jg vs) u) m:=by
 obtain ⟨us,b1,b2,b3,b4,b5,b6⟩:=Ct HT H h;refine ⟨wW us,Jc b1 b3,?_⟩;have hus:=AV.fB b4;have hR:AV.R lim bs w (jg vs) (wW us)∧(jg vs).top=true∧∀g,(jg vs).isRow=true->(wW us).ownBlock=some g->∃t,Own w bs σ.bx (Sl σ.tm a) (.t t) g:=by
  unfold jg;split
  ·rename_i v;obtain ⟨u,rfl⟩:=List.length_eq_one_iff.1 hus;rw [AV.Rs] at b4;obtain ⟨u',r',e,g1,-⟩:=b4;cases e;rw [List.all_cons,Bool.and_eq_true] at b5;exact ⟨g1,b5.1,b6 v u rfl rfl⟩
  ·rename_i hne;have hne2:wW us=.tuple us.toArray:=by
    unfold wW;split
    ·rename_i u;obtain ⟨v,rfl⟩:=List.length_eq_one_iff.1 hus.symm;exact absurd rfl (hne v)
    ·rfl
   rw [hne2];refine ⟨?_,?_,fun g hh=>by cases hh⟩
   ·rw [AV.R];exact ⟨_,rfl,by simpa using qH b4⟩
   ·show (false||AV.ak _)=true;rw [kY b5 b4];rfl
 obtain ⟨r1,r2,r4⟩:=hR;have ho:∀p g,Own w bs σ.bx (rS (jg vs) (wW us)) p g->∃q,Own w bs σ.bx (Sl σ.tm a) q g∧((p=.t 0∧∃t,q=.t t)∨(q=p∧∃i j,p=.b i j)):=by
  intro p g hp;cases p with
  |t k=>
   obtain ⟨p1,p2⟩:=hp;by_cases hk:k=0
   ·subst hk;obtain ⟨t,q1⟩:=r4 g p1 p2;exact ⟨.t t,q1,.inl ⟨rfl,t,rfl⟩⟩
   ·have:(rS (jg vs) (wW us) k).1=.bad:=by unfold rS;rw [if_neg hk]
    rw [this] at p1;cases p1
  |b i j=>exact ⟨.b i j,hp,.inr ⟨rfl,i,j,rfl⟩⟩
 refine ⟨H.len,H.xV,H.free,H.mb,H.box,fun k=>?_,fun k=>?_,H.top,fun p g hp=>?_,fun p q g hp hq=>?_⟩
 ·unfold rS;split
  ·exact r1
  ·exact lh _
 ·unfold rS;split
  ·exact r2
  ·rfl
 ·obtain ⟨q,hq,-⟩:=ho p g hp;exact H.own q g hq
 ·obtain ⟨p',hp',e1⟩:=ho p g hp;obtain ⟨q',hq',e2⟩:=ho q g hq;have:=H.nK p' q' g hp' hq';subst this;rcases e1 with ⟨e1,t1,f1⟩|⟨e1,i1,j1,f1⟩
  ·rcases e2 with ⟨e2,t2,f2⟩|⟨e2,i2,j2,f2⟩
   ·rw [e1,e2]
   ·rw [f1] at e2;rw [←e2] at f2;cases f2
  ·rcases e2 with ⟨e2,t2,f2⟩|⟨e2,i2,j2,f2⟩
   ·rw [f2] at e1;rw [←e1] at f1;cases f1
   ·rw [←e1,←e2]
theorem JD {g:AV->Option AV}:∀{l l':List AV},l8 g l=some l'->l'.length=l.length∧∀(i:Nat) (x:AV),l[i]?=some x->∃y,l'[i]?=some y∧g x=some y
 |[],l',h=>by rw [l8] at h;cases h;exact ⟨rfl,fun i x h=>by simp at h⟩
 |z::l,l',h=>by
  rw [l8] at h;split at h
  ·rename_i y r h1 h2;cases h;obtain ⟨g1,g2⟩:=JD h2;refine ⟨by simp [g1],fun i x hi=>?_⟩;cases i with
   |zero=>simp at hi;subst hi;exact ⟨y,rfl,h1⟩
   |succ i=>obtain ⟨y',h3,h4⟩:=g2 i x (by simpa using hi);exact ⟨y',by simpa using h3,h4⟩
  ·cases h
theorem sQ:∀{l:List AV} {vs:List Value},vs.length=l.length->(∀(i:Nat) (x:AV) (v:Value),l[i]?=some x->vs[i]?=some v->AV.R lim bs w x v)->AV.Rs lim bs w l vs
 |[],vs,h,_=>by rw [AV.Rs];exact List.eq_nil_of_length_eq_zero h
 |x::l,[],h,_=>by simp at h
 |x::l,v::vs,h,hf=>by rw [AV.Rs];exact ⟨v,vs,rfl,hf 0 x v rfl rfl,sQ (by simpa using h) (fun i y u hy hu=>hf (i+1) y u (by simpa using hy) (by simpa using hu))⟩
theorem yU:∀{l:List AV},(∀(i:Nat) (x:AV),l[i]?=some x->x.flat=true)->AV.ak l=true
 |[],_=>rfl
 |x::l,h=>by rw [AV.ak,h 0 x rfl,yU (fun i y hy=>h (i+1) y (by simpa using hy))];rfl
def rQ (lim:Nat->Nat) (bs:List Nat) (n:Nat) (w:World) (b:Nat):Nat:=
 if b ∈ bs.drop n then (match w.heap[b]? with|some (.cells cur _ _)=>cur.size|_=>0) else lim b
theorem yJ (H:aM lim bs w bx S m) (n b:Nat):lim b<=rQ lim bs n w b:=by
 unfold rQ;split
 ·rename_i h;rw [H.free b (List.mem_of_mem_drop h)];exact Nat.zero_le _
 ·exact Nat.le_refl _
theorem CR (H:aM lim bs w bx S m) (n:Nat):AV.Ext lim bs w (rQ lim bs n w) bs w:=
 ⟨fun _ _ h=>h,Nat.le_refl _,fun b _=>yJ H n b,fun _ _ _ _=>rfl,fun b cur e p h=>⟨cur,h,rfl⟩⟩
theorem wD (H:aM lim bs w bx S m) {n:Nat}:∀(k:Nat) {v v':AV} {u:Value},v.flat=true->jJ bx n k v=some v'->AV.R lim bs w v u->AV.R (rQ lim bs n w) (bs.take n) w v' u∧v'.flat=true∧v'.pf=true
 |0,v,v',u,_,h,_=>by unfold jJ at h;cases h
 |k+1,v,v',u,hf,h,hR=>by
  have ih:=fun {v v':AV} {u:Value} (a:v.flat=true) (b:jJ bx n k v=some v') (c:AV.R lim bs w v u)=>wD H k a b c;have Nl:∀{l:List AV},(∀(i:Nat) (x:AV),l[i]?=some x->x.pf=true)->AV.wN l=true:=by
   intro l
   induction l with
   |nil=>intro _;rfl
   |cons x l ihl=>
    intro h;rw [AV.wN,h 0 x rfl,ihl (fun i y hy=>h (i+1) y (by simpa using hy))];rfl
  unfold jJ at h;split at h
  ·rename_i hp;cases h;exact ⟨AV.R.free hp (AV.R.ext (CR H n) hf hR),hf,hp⟩
  ·rename_i hnp;have many:∀{l l':List AV} {us:List Value},AV.ak l=true->l8 (jJ bx n k) l=some l'->AV.Rs lim bs w l us->AV.Rs (rQ lim bs n w) (bs.take n) w l' us∧AV.ak l'=true∧AV.wN l'=true:=by
    intro l l' us hfl hm hrs;obtain ⟨g1,g2⟩:=JD hm;have hl:=AV.fB hrs;have hback:∀(i:Nat) (x:AV),l'[i]?=some x->∃y u,l[i]?=some y∧jJ bx n k y=some x∧us[i]?=some u∧AV.R lim bs w y u∧y.flat=true:=by
     intro i x hx;have hi:i<l.length:=by rw [←g1];exact (List.getElem?_eq_some_iff.1 hx).1
     obtain ⟨y',h3,h4⟩:=g2 i _ (List.getElem?_eq_getElem hi);rw [hx] at h3;cases h3;obtain ⟨u',h5,h6⟩:=kU hrs (List.getElem?_eq_getElem hi);exact ⟨l[i],u',List.getElem?_eq_getElem hi,h4,h5,h6,eH hfl (List.getElem?_eq_getElem hi)⟩
    refine ⟨sQ (by rw [hl,g1]) (fun i x v hx hv=>?_),yU (fun i x hx=>?_),Nl (fun i x hx=>?_)⟩
    ·obtain ⟨y,u,q1,q2,q3,q4,q5⟩:=hback i x hx;rw [hv] at q3;cases q3;exact (ih q5 q2 q4).1
    ·obtain ⟨y,u,q1,q2,q3,q4,q5⟩:=hback i x hx;exact (ih q5 q2 q4).2.1
    ·obtain ⟨y,u,q1,q2,q3,q4,q5⟩:=hback i x hx;exact (ih q5 q2 q4).2.2
   split at h
   ·
    rename_i j e z mm;split at h
    case h_2=>cases h
    rename_i c hc;split at h
    case isFalse=>cases h
    rename_i hcond;obtain ⟨hnj,hlen⟩:=hcond;cases hm:l8 (jJ bx n k) ((c.take (mm*z)).map AV.bY) with
    |none=>rw [hm] at h;cases h
    |some l'=>
     rw [hm] at h;cases h;rw [AV.R] at hR;obtain ⟨b,cp,cur,q1,q2,q3,q4,q5,rfl⟩:=hR;obtain ⟨C,tl,t,g1,g2,g3⟩:=H.box j b c q1 hc;rw [q2] at g1;cases g1;have hC:=AV.fB g2;have htop:(c.take (mm*z)).all AV.top=true:=by rw [List.all_eq_true] at g3⊢;exact fun y hy=>g3 y (List.mem_of_mem_take hy)
     obtain ⟨r1,r2,r3⟩:=many (kY htop (rH g2)) hm (qH (rH (n:=mm*z) g2));have hl':=AV.fB r1;have hbn:b ∈ bs.drop n:=by
      have:(bs.drop n)[j-n]?=some b:=by rw [List.getElem?_drop,show n+(j-n)=j by omega];exact q1
      exact List.mem_of_getElem? this
     refine ⟨?_,r2,r3⟩;rw [AV.R];refine ⟨_,cp,rfl,q4,.inr ⟨b,0,rfl,di q2,?_,nO r1 (fun i v hv=>?_)⟩⟩
     ·unfold rQ;rw [if_pos hbn,q2];simp only [List.length_take] at hl'⊢;simp only [List.size_toArray,List.length_append];omega
     ·obtain ⟨-,hv⟩:=gu hv;rw [Nat.zero_add];exact dP q2 hv
   ·rename_i l;cases hm:l8 (jJ bx n k) l with
    |none=>rw [hm] at h;cases h
    |some l'=>
     rw [hm] at h;cases h;rw [AV.R] at hR⊢;obtain ⟨vs,rfl,h2⟩:=hR;obtain ⟨r1,r2,r3⟩:=many (by rw [AV.flat] at hf;exact hf) hm h2;exact ⟨⟨vs,rfl,r1⟩,r2,r3⟩
   ·rename_i l;cases hm:l8 (jJ bx n k) l with
    |none=>rw [hm] at h;cases h
    |some l'=>
     rw [hm] at h;cases h;rw [AV.R] at hR⊢;obtain ⟨vs,rfl,h2⟩:=hR;obtain ⟨r1,r2,r3⟩:=many (by rw [AV.flat] at hf;exact hf) hm h2;exact ⟨⟨vs,rfl,r1⟩,r2,r3⟩
   ·rename_i mm l;cases hm:l8 (jJ bx n k) l with
    |none=>rw [hm] at h;cases h
    |some l'=>
     rw [hm] at h;cases h;rw [AV.R] at hR⊢;obtain ⟨ad,c,rfl,h1,h2⟩:=hR;rw [AV.flat] at hf;rcases h2 with rfl|⟨b,o',rfl,f1,f2,f3⟩
     ·have:l'=[]:=by rw [l8] at hm;exact (Option.some.inj hm).symm
      subst this;exact ⟨⟨ad,c,rfl,h1,.inl rfl⟩,rfl,rfl⟩
     ·obtain ⟨us,u1,u2,u3⟩:=uw f3;obtain ⟨r1,r2,r3⟩:=many hf hm u2;have hl':=AV.fB r1;exact ⟨⟨_,c,rfl,h1,.inr ⟨b,o',rfl,f1,by have:=yJ H n b;omega,nO r1 u3⟩⟩,r2,r3⟩
   ·cases h
theorem Fx (HT:kN P T) (H:aM lim bs w σ.bx (Sl σ.tm a) m) {n:Nat} {Qe:Bool} {fn:Func} {r:AV} (hn:n<=σ.bx.length) (h:Es T Qe σ fn.results.toList n=some (r,bx')):∃u lim' bs',(results fn a.tmps).run P w=.ok u w∧aM lim' bs' w bx' (rS r u) m∧Fr m lim w lim' w∧n<=bx'.length∧∀i,i<n->bs'[i]?=bs[i]?:=by
 unfold Es at h;split at h
 ·cases h
 rename_i vs hvs;obtain ⟨u,hu,H0⟩:=eU HT H hvs;have hrow:∀g,Own w bs σ.bx (rS (jg vs) u) (.t 0) g->g ∉ bs:=fun g hg=>(H0.own _ _ hg).2;split at h
 ·
  split at h
  case h_2=>cases h
  rename_i v hv;split at h
  case isFalse=>cases h
  rename_i hc;have hh:=Option.some.inj h;have hr1:v=r:=congrArg Prod.fst hh;have hr2:σ.bx.take n=bx':=congrArg Prod.snd hh;clear hh h;subst hr1 hr2;obtain ⟨c1,c2⟩:=hc;have sG:∀b,b ∉ bs.drop n->rQ lim bs n w b=lim b:=fun b hb=>by unfold rQ;rw [if_neg hb]
  have htd:∀b,b ∈ bs.take n->b ∉ bs.drop n:=by intro b h1 h2;obtain ⟨i,hi⟩:=List.getElem?_of_mem h1;obtain ⟨j,hj⟩:=List.getElem?_of_mem h2;obtain ⟨hi1,hi⟩:=gu hi;rw [List.getElem?_drop] at hj;have:=eX H0.xV hi hj;omega
  have hnd:∀b,b ∉ bs->b ∉ bs.drop n:=fun b h1 h2=>h1 (List.mem_of_mem_drop h2);have hsub:∀b ∈ bs.take n,b ∈ bs:=fun b h=>List.mem_of_mem_take h;have mW:=CR H0 n;have hfr:Fr m lim w (rQ lim bs n w) w:=by refine ⟨Below.refl _ _,fun b hb hm=>⟨rfl,?_⟩,fun b _=>yJ H0 n b,fun _ _ _ _=>rfl,fun b cur e p h=>⟨cur,h,rfl⟩⟩;refine sG b (fun hd=>hm (H0.mb b (List.mem_of_mem_drop hd)))
  have hval:AV.R (rQ lim bs n w) (bs.take n) w v u∧v.top=true∧(v.isRow=true->v=jg vs):=by
   have hs:=H0.slot 0;have ht:=H0.jm 0;have hs':AV.R lim bs w (jg vs) u:=hs;have ht':(jg vs).top=true:=ht;cases hr:(jg vs).isRow with
   |true=>
    have hve:v=jg vs∧(jg vs).pf=true:=by
     unfold jJ at hv;split at hv
     ·rename_i hp;cases hv;exact ⟨rfl,hp⟩
     ·cases hh:jg vs<;>rw [hh] at hr<;>first|(cases hr;done)|(rw [hh] at hv;cases hv;done)
    rw [hve.1];refine ⟨AV.R.free hve.2 (AV.R.mE mW ht' (fun g h1 h2=>⟨rfl,sG g (hnd g ?_)⟩) hs'),ht',fun _=>rfl⟩;exact hrow g ⟨h1,h2⟩
   |false=>
    have hfl:(jg vs).flat=true:=by rw [AV.top,hr,Bool.false_or] at ht';exact ht'
    obtain ⟨r1,r2,r3⟩:=wD H0 1000 hfl hv hs';refine ⟨r1,by rw [AV.top,r2];simp,fun hh=>?_⟩;rw [kZ r2] at hh;cases hh
  obtain ⟨v1,v2,v3⟩:=hval;have ho:∀p g,Own w (bs.take n) (σ.bx.take n) (rS v u) p g->Own w bs σ.bx (rS (jg vs) u) p g:=by
   intro p g hp;cases p with
   |t k=>
    obtain ⟨p1,p2⟩:=hp;by_cases hk:k=0
    ·subst hk;have E8:v.isRow=true:=p1;have:=v3 E8;exact ⟨by rw [this] at E8;exact E8,p2⟩
    ·have:(rS v u k).1=.bad:=by unfold rS;rw [if_neg hk]
     rw [this] at p1;cases p1
   |b i j=>
    obtain ⟨b,x,y,v,q1,q2,q3⟩:=hp;exact ⟨b,x,y,v,(gu q1).2,(gu q2).2,q3⟩
  refine ⟨u,rQ lim bs n w,bs.take n,hu,⟨by rw [List.length_take,List.length_take,H0.len],H0.xV.sublist (List.take_sublist _ _),fun b h=>?_,fun b h=>H0.mb b (hsub b h),fun i b x hi hx=>?_,fun k=>?_,fun k=>?_,fun b hb=>?_,fun p g hp=>⟨(H0.own p g (ho p g hp)).1,fun h=>(H0.own p g (ho p g hp)).2 (hsub g h)⟩,fun p q g hp hq=>H0.nK p q g (ho p g hp) (ho q g hq)⟩,hfr,by rw [List.length_take];omega,fun i hi=>by rw [List.getElem?_take,if_pos hi]⟩
  ·rw [sG b (htd b h)];exact H0.free b (hsub b h)
  ·obtain ⟨c,tl,t,g1,g2,g3⟩:=H0.box i b x (gu hi).2 (gu hx).2;rw [List.all_eq_true] at c2;refine ⟨c,tl,t,g1,AV.Rs.free (c2 x (List.mem_of_getElem? hx)) (mU mW g3 (fun j y v g hy hv hr hg=>⟨rfl,sG g (hnd g ?_)⟩) g2),g3⟩;exact (H0.own (.b i j) g ⟨b,x,y,v,(gu hi).2,(gu hx).2,hy,hr,dP g1 hv,hg⟩).2
  ·unfold rS;split
   ·exact v1
   ·exact lh _
  ·unfold rS;split
   ·exact v2
   ·rfl
  ·rw [sG b (fun hd=>?_)]
   ·exact H0.top b hb
   ·have:=jX H0 (List.mem_of_mem_drop hd);omega
 ·split at h
  case h_2=>cases h
  rename_i ids qM hp;cases h;obtain ⟨h1,h2,⟨cs,h3,rfl,h4⟩,h5⟩:=yB hp;have hS:∀k,∀i ∈ (rS (jg vs) u k).1.ids,i ∈ ids:=by
   intro k i hi;unfold rS at hi;split at hi
   ·exact h5 i hi
   ·simp [AV.ids] at hi
  obtain ⟨HP,JN,-⟩:=H0.pick h1 h3 h4 hS;have hfun:(fun k=>((rS (jg vs) u k).1.bK ids.idxOf,(rS (jg vs) u k).2))=rS ((jg vs).bK ids.idxOf) u:=by funext k;unfold rS;split<;>rfl
  rw [hfun] at HP;refine ⟨u,lim,_,hu,HP,Fr.refl,?_,fun i hi=>?_⟩
  ·rw [List.length_map,(lZ h3).1];rcases Nat.eq_zero_or_pos n with e|e
   ·omega
   ·have:=(List.getElem?_eq_some_iff.1 (h2 (n-1) oM)).1;omega
  ·have hb:i<bs.length:=by rw [H.len];omega
   rw [JN i i _ (h2 i hi) (List.getElem?_eq_getElem hb),List.getElem?_eq_getElem hb]
theorem xE:∀(l:List AV) (tm:Tm) (k n:Nat),get (params tm k l) n=if k<=n∧n<k+l.length then l.getD (n-k) .bad else get tm n
 |[],tm,k,n=>by rw [params,if_neg (by simp)]
 |v::l,tm,k,n=>by
  rw [params,xE l,bD];by_cases h:n=k
  ·subst h;rw [if_neg oM,if_pos rfl,if_pos ⟨Nat.le_refl _,by simp⟩,Nat.sub_self];rfl
  ·by_cases h2:k<=n
   ·have e:n-k=n-(k+1)+1:=oM;simp only [List.length_cons,e,List.getD_cons_succ];by_cases h3:n<k+1+l.length
    ·rw [if_pos ⟨oM,h3⟩,if_pos ⟨h2,oM⟩]
    ·rw [if_neg oM,if_neg h,if_neg oM]
   ·rw [if_neg oM,if_neg h,if_neg (by simp;omega)]
def o9 (fn:Func):Bool:=
 !(fn.name== "runtime.NumGoroutine") && match fn.body with
 |some c=>jA fn.ntmps c
 |none=>false
theorem Pw (HT:kN P T) (HC:eT P cal) {an:zy} {n f:Nat} {fn:Func} (hf:P.funcs[f]?=some fn) (hg:o9 fn=true) {args:List AV} {r:AV} (h:acf cal T an n fn args bx=some (r,bx')):aW P f args bx r bx':=by
 unfold o9 at hg;rw [Bool.and_eq_true] at hg;obtain ⟨hg1,hg2⟩:=hg;unfold acf at h;cases hb:fn.body with
 |none=>rw [hb] at h;cases h
 |some c=>
  rw [hb] at h hg2;simp only [] at h hg2;have hend:∃e σ,uH cal T an bx.length n c ⟨params [] 0 args,bx⟩=some (e,σ)∧(e=.normal∨e=.ret)∧Es T an.Qe σ fn.results.toList bx.length=some (r,bx'):=by
   split at h
   ·rename_i σ hσ;exact ⟨_,σ,hσ,.inl rfl,h⟩
   ·rename_i σ hσ;exact ⟨_,σ,hσ,.inr rfl,h⟩
   ·cases h
  obtain ⟨e,σ,h1,h2,h3⟩:=hend;have hlen:bx.length<=bx'.length:=by
   unfold Es at h3;split at h3
   ·cases h3
   ·split at h3
    ·split at h3
     ·split at h3
      ·rename_i hc;cases h3;rw [List.length_take];omega
      ·cases h3
     ·cases h3
    ·split at h3
     ·rename_i ids qM hp;cases h3;obtain ⟨-,g2,⟨cs,g3,rfl,-⟩,-⟩:=yB hp;rw [List.length_map,(lZ g3).1];rcases Nat.eq_zero_or_pos bx.length with e|e
      ·omega
      ·have:=(List.getElem?_eq_some_iff.1 (g2 (bx.length-1) oM)).1;omega
     ·cases h3
  refine ⟨⟨fn,hf,by simpa using hg1,by rw [hb];rfl⟩,hlen,fun lim bs w vs m hl hm H=>?_⟩;refine calls_of_wp hf hb ?_;have hsz:fn.ntmps<=(vs.toArray++Array.replicate (fn.ntmps-vs.toArray.size) undef).size:=by simp;omega
  have hS:Sl (params [] 0 args) {tmps:=vs.toArray++Array.replicate (fn.ntmps-vs.toArray.size) undef,defers:=[]}=aS args vs:=by
   funext k;unfold Sl aS;rw [xE];congr 1
   ·by_cases hk:k<args.length
    ·rw [if_pos ⟨oM,oM⟩];simp
    ·rw [if_neg oM];simp [get,List.getD_eq_getElem?_getD,List.getElem?_eq_none (show args.length<=k by omega)]
   ·simp only [Array.getD_eq_getD_getElem?,List.getD_eq_getElem?_getD];by_cases hk:k<vs.length
    ·rw [Array.getElem?_append_left (by simpa using hk)];simp
    ·rw [Array.getElem?_append_right (by simpa using hk),List.getElem?_eq_none oM,Array.getElem?_replicate];split<;>rfl
  have hbs:bs.length=bx.length:=H.len;refine Mo HT HC (base:=bx.length) hg2 hsz (Nat.le_refl _) (σ:=⟨params [] 0 args,bx⟩) (m:=m) (by rw [hS];exact H) hm h1 fun lim' bs' w' a' hgo=>?_;have kX:bx.length<=σ.bx.length:=by have:=qp (by rw [hbs];exact Nat.le_refl _) hgo.pre;rw [hgo.hold.len] at this;exact this
  obtain ⟨u,gI,qN,u1,u2,u3,u4,u5⟩:=Fx (fn:=fn) HT hgo.hold kX h3;have hpost:a'.defers=[]∧∃v,(results fn a'.tmps).run P w'=.ok v w'∧(∃v' lim' bs',Ending.returned v=.returned v'∧aM lim' bs' w' bx' (rS r v') m∧Fr m lim w lim' w'∧∀i,i<bx.length->bs'[i]?=bs[i]?):=by refine ⟨hgo.df,u,u1,u,gI,qN,rfl,u2,hgo.fr.trans u3,fun i hi=>?_⟩;have hib:i<bs.length:=oM;rw [u5 i hi,hgo.pre i _ hi (List.getElem?_eq_getElem hib),List.getElem?_eq_getElem hib]
  rcases h2 with rfl|rfl
  ·exact hpost
  ·exact hpost
structure KOK (P:Program) (K:X3):Prop where
 T:kN P K.T
 fns:∀f fn,K.fns f=some fn->P.funcs[f]?=some fn∧o9 fn=true
 VX:∀f g args v,K.VX f=some g->g args=some v->v.pf=true->v.flat=true->aW P f args [] v []
 VE:∀f g cal args bx r bx',K.VE f=some g->eT P cal->g cal args bx=some (r,bx')->aW P f args bx r bx'
theorem xJ {K:X3} (HK:KOK P K):∀n,eT P (DV K n)
 |0,f,args,bx,r,bx',h=>by rw [DV] at h;cases h
 |n+1,f,args,bx,r,bx',h=>by
  rw [DV] at h;split at h
  ·rename_i g hg;split at h
   ·cases h
   ·rename_i v hv;split at h
    ·rename_i hc;cases h;have:bx=[]:=by simpa using hc.2.2
     subst this;exact HK.VX f g args _ hg hv hc.1 hc.2.1
    ·cases h
  ·split at h
   ·rename_i g hg;exact HK.VE f g _ args bx r bx' hg (xJ HK n) h
   ·split at h
    ·rename_i fn hfn;obtain ⟨h1,h2⟩:=HK.fns f fn hfn;exact Pw HK.T (xJ HK n) h1 h2 h
    ·cases h
end Ab
section
open Go
namespace Ab
def agf:List (Nat×List (List Nat)):=[(115,[[7],[7175],[15365],[15365,39],[11269],[11269,44],[44037],[43013,54],[960],[44037],[19461],[9221,69],[960],[25605],[19461],[19461,93],[960],[23557],[23557,17],[31749],[15365,108],[960]]),(126,[[3],[3,28],[112],[131],[112]]),(129,[[7],[16391],[64],[135],[135,20],[64],[7,30],[64],[64]]),(130,[[7],[7,16],[64],[135],[135,28],[391],[391,51],[135,69],[135],[131,81],[131],[64]]),(136,[[15],[15,27],[3840],[4111],[12301],[28685],[28685,16],[28685,16,55],[28685,17,18],[28685,17,18,67],[28685,16,17],[28685,16,17],[28685,17,18],[28685,17,18,94],[28685,16,17,18],[28685,16,17,19],[28685,16,17,19,20],[28685,16,17,19,20,111],[8205,16,17,19,20,21],[8205,16,17,19,20,21,114],[8205,16,17,19,20,21],[8205,16,17,19,20,21],[8205,16,20],[28685,16,20],[28685,16,22],[28685,22,150],[3840],[3840]]),(109,[[3],[35],[547],[35],[35,16],[16],[16]]),(127,[[7],[7,37],[960],[1031],[3079],[7175],[15365],[15365,45],[960],[15365,52],[15365],[15365],[15365],[15365,86],[10240],[960],[15365,103],[64517,16],[64517,16,135],[960],[39941],[39941],[15365],[15365,149],[15365,179],[15365],[15365,193],[15365],[15365],[15365,203],[15365],[15365],[15365],[15365],[15365],[15365],[15365,227],[15365,17],[15365,17,233],[960]]),(3,[[7],[7,19],[64],[135],[135,22],[135],[390],[2438],[2438,35],[2438],[2438,53],[64],[135],[64]]),(4,[[15],[15,18],[256],[526],[1550],[1550,23],[1550],[3598],[19982],[19982,36],[19982],[52750],[19982,51],[256],[1550],[256]]),(5,[[15],[15,18],[256],[526],[1550],[1550,23],[1550],[3598],[19982],[19982,36],[19982],[52750],[19982,91],[256],[1550],[256]]),(6,[[7],[7,19],[64],[135],[135,22],[135],[390],[2438],[2438,35],[2438],[2438,48],[64],[135],[64]]),(7,[[7],[7,20],[64],[135],[135,23],[135],[390],[2438],[2438,36],[2438],[6534],[2438,67],[64],[135],[64]]),(10,[[0],[2],[18],[18,28],[1],[384],[1]]),(11,[[5],[37],[101],[229],[485],[7141],[7141,32],[28],[3045,63],[28],[3045,69],[36],[28],[27621],[60389],[60389,84],[25317,16],[17125,16,111],[28],[16613,16],[16613,16,119],[16613],[485],[60389,131],[19173,17,18,19,20],[19173,17,18,19,157],[28],[16613,17,18,19],[16613,17,18,163],[16613,17],[16613],[485],[43877,21],[2917,21,182],[2661,21],[2085,21],[4389,21],[293,21],[4389,21],[4389,21,212],[28],[293],[485]]),(12,[[12],[16]]),(13,[[22],[52],[116],[116],[80],[16]]),(14,[[22],[52],[52],[20],[16]]),(15,[[1],[8],[24],[56],[16440],[56],[56],[56,29],[56],[56],[56,37],[56],[56],[56,48],[56],[56,61],[56],[56],[56],[4]]),(17,[[3],[1027],[16],[35],[16419],[35],[35,25],[16],[16]]),(18,[[3],[1027],[16],[35],[16419],[35],[35,25],[16],[16]]),(19,[[28],[156],[156,21],[156],[28,76],[64],[284],[284,81],[284],[284,106],[64],[64]]),(20,[[6],[6,45],[16],[38],[38,50],[38],[102],[102,70],[16],[102,71],[38,82],[16],[102,83],[16],[38,108],[16],[16]]),(21,[[2],[10],[26],[8218],[26],[26],[10],[10,29],[8],[4]]),(35,[[1],[1,19],[60],[449],[961],[961,24],[961],[961,37],[448],[1216],[1216,56],[60],[1216,59],[1216,59,60],[1216,71],[60],[1216,72],[1216,90],[60],[3264],[7360],[7360,97],[7360],[7360],[60]]),(36,[[3],[33],[97],[97,18],[97],[225],[225,37],[225,41],[16],[97,64],[16],[16]]),(37,[[71],[1093],[7233],[7232,38],[7232],[3136,46],[960],[960]]),(38,[[12],[12,47],[16],[12,89],[16],[44],[44,94],[44],[44,108],[16],[16]]),(41,[[6],[6],[14],[14,19,20,21],[14,19,20,21,22],[46,19,20,21],[14,19,20,21],[14,19,20,21],[6],[4]]),(42,[[3,16],[3,22],[2],[0],[19],[19],[3,52],[3],[2],[2],[3,75],[3],[2],[2,101],[2],[0]]),(43,[[1],[9],[3593],[7689],[3625],[3593],[3593,20],[3593],[3593],[65],[64,25,26,27],[64,25,26,27,28],[320,25,26,27],[64,25,26,27],[64,25,26,27],[4]]),(44,[[25],[25,20],[16],[25,25],[24],[16],[57],[57,43],[57],[121],[249],[249,51],[249],[505],[505],[505,65],[505],[1017],[4089],[3065],[2553],[6649],[4601],[4601],[4601,99],[4601],[4601],[505],[505,122],[505],[249],[249,136],[249],[57],[25,141],[24],[24],[25,159],[24],[16]]),(45,[[3],[3],[2],[16]]),(46,[[3],[16387],[16],[3],[16]]),(47,[[19],[275],[19],[19]]),(48,[[3],[3],[1027],[3075],[0],[1027,16],[0],[1027,24],[0],[1,35],[0]]),(49,[[1],[17],[4],[4]]),(50,[[15],[271],[271,28],[271],[3],[3],[3],[0],[271,39],[0],[271,45],[3],[3],[0],[271,56],[3],[3],[3],[0],[271,71],[3],[3],[3],[3],[0],[267,94],[771],[771],[0],[267,120],[267],[267],[267],[1291],[1283,146],[1281],[1281],[0]]),(51,[[1],[4]]),(52,[[71],[199],[8391],[199],[199,17],[199],[199,25],[199],[199],[199,33],[199],[199,33,40],[199],[199],[199,50],[199],[199],[199,33,59],[199],[199],[199],[199,33,69],[199],[199,33,74],[199],[199,79],[199],[199],[199]]),(53,[[2],[2050],[4],[10],[10,16],[10],[10,35],[4],[4]]),(60,[[15],[15],[4111],[12303],[45071,16,17],[45071,16,17,40],[45071,16,17,41],[61455,16],[61455,16,18],[61455,16,18,56],[36864,16,62],[3840],[3840],[61455,16,18,72],[61455,16,18,19],[61455,16,18,19,78],[3840],[61455,16,96],[3840],[45071,16,17],[3840],[45071,16,17,104],[45071,16,17],[45071,16,17,111],[45071,16],[45071,16,17],[45071,16,17,118],[61455,16,17],[61455,16,17,130],[28687,16,17,20],[61455,16,17],[61455,17],[45071,16,17],[3840]]),(64,[[1],[9],[25],[57],[569],[57],[57,22],[57,25],[41],[57],[4]]),(65,[[1],[4]]),(66,[[1],[4]]),(67,[[1],[32769],[4],[9],[9,19],[9],[9,26],[4],[4]]),(68,[[25],[25],[25],[473],[217,25],[48],[217,31],[48],[848],[784],[48]]),(69,[[3],[515],[16],[8195],[16],[32],[16]]),(70,[[7],[2055],[0],[64]]),(71,[[1539],[3587],[1555],[9747],[1555],[1539],[1555,35],[1539],[1539]]),(72,[[1],[257],[4],[9],[8],[4]]),(74,[[3],[16]]),(75,[[6],[22],[54],[118],[32886],[118],[118],[118],[502],[118],[22],[22],[22],[12]]),(76,[[2],[4]]),(77,[[2],[34],[4],[4]]),(78,[[9],[25],[32769],[0],[1,22],[0]]),(79,[[1],[9],[25],[153],[25],[25],[4]]),(80,[[9],[25],[1],[0],[9,28],[0],[1,38],[1],[0]]),(81,[[3],[3],[3],[17],[49],[113],[113,30],[113],[113,34],[113],[113,34,46],[113],[113,51],[113,54],[113],[113]]),(82,[[71],[71,22],[0],[455],[455,26],[455],[327],[839],[1863],[1863,35],[1863],[1863],[1863,47],[1863,50],[1863],[1863],[1863],[1863],[1863],[1863],[1863],[1863,88],[1863],[257],[0]]),(83,[[67],[19],[17,17],[17],[0],[67,22],[0],[67,32],[0],[3,42],[1,48],[0],[0]]),(87,[[7],[133],[133,17],[133],[133,23],[64],[64]]),(91,[[7],[135],[135,32],[135],[64]]),(92,[[3],[35],[35,19],[35],[32,35],[16],[16]]),(94,[[1],[9],[137],[9],[9,36],[4],[4]]),(95,[[1],[4]]),(96,[[1],[481],[481,24],[28],[96],[28]]),(97,[[21],[21,16],[64],[17,30],[64],[145],[64]]),(98,[[301],[813],[773,21],[773],[773],[768],[256]]),(99,[[25],[89],[217],[217,39],[217,46],[48],[473],[473,59],[473],[473,68],[48],[48],[7769],[7769,91],[48],[3673,99],[48],[20057],[52825],[52825,16],[52825,16,17],[52825,16,17,18],[36441,16,17,18,133],[1625,16,18],[1616,16,17,18],[3673,16,17,18],[3673,16,17,18,19,20,21],[3673,16,17,18,19,20,155],[48],[1625,16,18],[1616,16,17,18],[1625,16,17,18,19,20,164],[1616,16,17,18],[1625,16,18,19,178],[1625,16,18],[1616,16,17,18],[1625,16,18,19,189],[1616,16,17,18],[16,16,17],[48]]),(100,[[1],[0]]),(101,[[7],[5],[5,29],[4],[0],[0]]),(102,[[35],[99],[0],[35,17],[0],[3,28],[0]]),(103,[[17],[1],[0]]),(104,[[1],[4]]),(110,[[3],[32],[16]]),(111,[[7],[64]]),(112,[[1],[1]]),(113,[[1],[1,24],[4],[16],[4]]),(114,[[19],[147],[48],[19,23],[48],[48]]),(116,[[85],[833],[321,27],[192],[1345],[1345,38],[5441],[13633],[9537,80],[192],[51009],[50497,92],[192],[16705,103],[16705],[16705],[320],[192]]),(117,[[1],[9],[25],[12313],[28697],[12345],[12377],[12377],[12313],[12313],[9],[4]]),(118,[[1],[4]]),(119,[[3],[3,22],[48],[131],[3203],[3203,38],[48],[7299],[7299,42],[7299],[7299,55],[15491],[15491,59],[14465,62],[10369],[15491,59,66],[4225,70],[48],[10369],[14465,59,78],[14465,59,78],[4225],[26753],[10369,90],[48],[14465,59,91],[14465,91],[10369],[8321,107],[48],[4225],[4097],[4096,115],[48],[48]]),(120,[[19],[83],[211],[467],[979],[979],[4051],[2003,47],[48],[1747],[1235],[211],[211,76],[48],[4307],[4307,89],[48],[211,111],[48],[467]]),(121,[[19],[83],[211],[467],[979],[4051],[4051],[4051,39],[8147],[4051],[16339],[16339,55],[4051],[8147],[4051,70],[48],[3795],[3283],[211],[211,113],[48],[32979],[211,153],[48],[467]]),(122,[[3],[35],[163],[16],[35,30],[35],[16]]),(123,[[3],[3,22],[16],[3,34],[35],[35,40],[35],[32,65],[16],[16],[67],[195],[195,77],[16],[256],[256,86],[16],[16]]),(124,[[271],[1295],[9487],[768],[9487,30],[9473,41],[768],[9473],[15617],[9479,64],[1283],[1283,98],[1283],[15617],[9479,116],[15617],[9475,154],[15617],[1283,191],[1283],[15617],[7425],[7425,221],[768],[1280],[768]]),(125,[[1],[0]]),(128,[[271],[271,33],[1792],[2312],[14592],[6400,50],[1792],[1792]]),(131,[[199],[199],[1735],[711,29],[448],[2759],[2759,33],[2759],[2759],[6855],[6855,76],[4800],[448],[6855],[6855],[7872],[5824],[448]]),(132,[[19],[147],[403],[7571],[23955],[23955,45],[23955],[56723],[56723,56],[56723],[56723,66],[40336],[40336,16,17],[40336,16,91],[112],[40336],[36240,97],[33040],[112]]),(133,[[3],[32771],[16],[3,19],[16],[0,40],[16],[16]]),(134,[[3],[35],[99],[99,29],[16],[35]]),(135,[[71],[71,53],[448],[32327],[32327,67],[448],[36423],[36421,77],[36421],[35909,16],[35909,16,17],[35909,16,17,93],[35909,16,17],[35909,16,17,18],[35909,16,17,18,101],[35909,16,17,18,19,20],[35909,16,17,18,20,112],[35909,16,17,18,21],[35905,16,17,18,128],[35905,16,17],[35909,16,17,18],[35905,16,17,22],[35905,17,22,23,24,25,26],[35905,17,22,23,24,25,26,139],[35905,17,22,23,24,25,26,27,28],[35905,17,22,23,24,25,26,27,28,29],[35905,17,22,23,24,25,26,27,28,29,30],[35905,17,22,23,24,25,26,27,28,29,30,156],[35905,17,22,23,24,25,27,28,167],[35905,17,22,24,25,26,27,28],[35905,17,22,24,25,26,27,28,183],[448],[35905,17,22,24,25,26,27,28,31],[35905,17,22,24,25,26,27,28,31,192],[35905,17,22,24,25,26,28,31],[35905,17,22,24,25,26,28,31],[35905,17,22,24,25,26,28,204],[35905,17,22,24,25,26,28],[35905,17,22,23,24,25,26],[34881,22,23,24,25],[34881,22,23,24,25,32],[34881,22,23,24,32,33],[34881,22,23,24,32,33,218],[34881,22,23,24,32,33],[34881,22,23,24,32,33,224],[34881,22,23,24,32,33],[34880,22,23,24,32,236],[34880,22,23,24,32],[34880,22,23,24,32,240],[34880,22,23,24,32],[32832,22,23,24,32,242],[32832,22,23,24,32],[32832,23],[448]]),(137,[[1],[57],[121],[121,19],[121],[249],[249,40],[121],[217,48],[217],[201],[121],[4]]),(138,[[3],[3,32],[112],[131],[131,35],[131],[131,44],[112],[259],[259,52],[259,52,53],[259],[259,52,55],[259],[259,57],[259],[259,69],[112],[771],[1795],[1795,73],[1795],[3843],[3843,88],[112],[1795],[770,96],[112],[112]]),(139,[[1],[9],[4],[129],[4],[16385],[4],[1,27],[4],[4]]),(140,[[7],[2055],[6151],[6151],[64],[7,16],[64],[3,22],[259],[64],[64]]),(141,[[19],[83],[211],[211,29],[211],[211,32],[48],[211],[979],[467,53],[48],[1491],[1491,60],[1491,74],[48],[1491],[1491,84],[61907],[29139,95],[48],[25043],[27091],[10707,110],[10707],[2515],[467,16,17,18,19],[467,16,17,18,127],[48],[467,18],[2515,18],[2515],[2515,145],[2515,20],[2515,20],[2515,20,21,22],[2515,20,21,163],[48],[2515,20,21,168],[2515,21],[2515],[2515,191],[48],[1491],[1104],[80],[48]]),(142,[[1],[4]]),(143,[[3],[7171],[15363],[15363,26],[15363],[15363,29],[15363],[15363],[15363,51],[15363],[15363],[39937],[39937,16],[39937,16,83],[1008],[38913,16,95],[1008],[1008]]),(144,[[7],[64]]),(145,[[3],[35],[2081],[97],[32865],[97],[97,19],[97],[97],[16],[417],[929],[929,32],[929],[929,39],[929],[545],[929,46],[545],[801,53],[545],[801,73],[545],[545],[929],[288,90],[288],[16]]),(147,[[1],[25],[57],[569],[57],[8249],[57],[57,28],[57],[57,32],[57],[41],[57],[4]]),(148,[[1],[9],[25],[4],[73],[4],[265],[4],[1033],[1033],[4],[8201],[4],[32777],[4],[9,17],[4],[9,19],[4],[9,21],[4],[9,23],[4],[9,25],[4],[9,27],[4],[1,29],[4],[4]]),(149,[[1],[4]]),(150,[[3],[16]]),(151,[[7],[2055],[0],[64]]),(152,[[5],[21],[501],[501,32],[12],[116],[12]]),(153,[[1],[4]]),(154,[[199],[1223],[1223,32],[1223,35],[960],[15559],[7367,50],[960],[64707],[960],[1223,16],[1223,16,79],[1223,16,17,18],[1223,16,17,88],[960],[1223,16],[1223,16,20],[1223,16],[1223,16,126],[1223,16,21],[1223,16,143],[960],[1223,16],[1219,16,22,23,24],[960],[1219,16],[1219,16,25,26],[1219,16,25,26,190],[1219,16,25,26],[1217,16,25,26],[192,16,25,26],[960]]),(155,[[455],[1479],[3527],[7623],[15815],[15815,24],[15815],[15815,35],[15815],[7623,44],[960],[3525],[2501],[59840],[960]]),(156,[[3],[32],[16]]),(157,[[3],[16]]),(158,[[7],[8195],[64],[2],[64]]),(160,[[1],[4]]),(161,[[35],[35],[163],[931],[419,28],[112],[419,35],[112],[1824],[112]]),(162,[[213],[725],[725,16],[3797],[1749,23],[448],[725],[709,30],[709],[448],[448]]),(163,[[1799],[1024]]),(164,[[3],[16]]),(165,[[19],[209],[209,19],[48],[48]]),(166,[[2],[10],[26],[538],[26],[26],[8,27],[8],[4]]),(167,[[199],[1735],[711,19],[448],[711,23],[2754],[2752],[448],[5827],[4803,36],[448],[4801],[5824],[448]]),(168,[[19],[83],[2003],[2003,36],[48],[3027],[7123],[7123,45],[3027],[27603],[11219,56],[48],[7123],[39889,16],[39889,68],[48],[39889,72],[35793],[35792],[35280],[33232,84],[32784],[48],[37328],[36880],[32784],[48]]),(169,[[71],[327],[839],[1863],[1863],[192],[1863,21],[833,24],[192],[833],[3905],[1859,43],[833],[833,56],[833],[3905],[1859,77],[14145],[5953,91],[192],[3905],[3905],[833,108],[833],[3905],[3905,138],[192],[320],[192]])]
def Lx:Nat->Nat->Nat->List Nat->List Nat
 |0,_,_,r=>r
 |f+1,i,m,r=>match m % 2 with
  |0=>Lx f (i+1) (m/2) r
  |_=>i::Lx f (i+1) (m/2) r
def agc:List Nat->List Nat
 |[]=>[]
 |m::r=>Lx 16 0 m r
def NI (f:Nat):List (List Nat):=((assoc agf f).getD []).map agc
end Ab
end
section
set_option maxRecDepth 100000
namespace Ab
theorem kK {α:Type} {n:Nat} {v:α}:∀{l:List (Nat×α)},assoc l n=some v->(n,v) ∈ l
 |[],h=>by cases h
 |(k,u)::r,h=>by
  rw [assoc] at h;split at h
  ·rename_i e;cases h;rw [Nat.eq_of_beq_eq_true e];exact List.mem_cons_self
  ·exact List.mem_cons_of_mem _ (kK h)
structure TY (P:Program) (t:Nat) (d:TD):Prop where
 und:∃u,P.underlying t=some u∧u.isRow=d.agg∧(∀e,d.elem=some e->u=.slice e)
 fld:d.agg=true->∃fs:Array Field,P.underlying t=some (.struct fs)∧fs.size=d.iG.length∧∀(f:Nat) (q:Nat×Nat×Bool),d.iG[f]?=some q->∃(fl:Field) (i:TypeInfo) (u:TypeDesc),fs[f]?=some fl∧fl.offset=q.1∧P.info? fl.type=some i∧i.size=q.2.1∧P.underlying fl.type=some u∧u.isRow=q.2.2
 off:d.agg=false->d.iG=[]
 info:∃(i:TypeInfo) (z:Value),P.info? t=some i∧i.size=d.size∧i.bytes=d.bytes∧i.zero=some z∧z.cells.size=d.size∧U3 d.zero z.cells.toList
theorem ach {P:Program} (h1:P.underlying 9=some .string) (h2:P.underlying 5=some (.int .u8)) (h3:P.underlying 3=some (.int .i64)) (h4:P.follows .mixedOrders=true) (h5:P.underlying 4=some .bool) (h6:∀(w:World) (a b:ByteArray) (n m:Int),(Op.equalIn 10000 56 (.agg #[.string a,.int .i64 n]) (.agg #[.string b,.int .i64 m])).run P w=.ok (decide (a=b∧n=m)) w) (h7:P.eqGuardType P.depth 56=false) (h:∀p ∈ tyL,TY P p.1 p.2):kN P gW:=
 ⟨h1,h2,h3,h4,h5,h6,h7,fun t d ht=>(h _ (kK ht)).und,fun t d ht=>(h _ (kK ht)).fld,fun t d ht=>(h _ (kK ht)).off,fun t d ht=>(h _ (kK ht)).info⟩
theorem jo {fs:Array Field} {l:List (Nat×Nat×Bool)} {P:Program} (h:∀i,i<l.length->∃(fl:Field) (inf:TypeInfo) (u:TypeDesc),fs[i]?=some fl∧fl.offset=(l.getD i (0,0,false)).1∧P.info? fl.type=some inf∧inf.size=(l.getD i (0,0,false)).2.1∧P.underlying fl.type=some u∧u.isRow=(l.getD i (0,0,false)).2.2):∀(f:Nat) (q:Nat×Nat×Bool),l[f]?=some q->∃(fl:Field) (i:TypeInfo) (u:TypeDesc),fs[f]?=some fl∧fl.offset=q.1∧P.info? fl.type=some i∧i.size=q.2.1∧P.underlying fl.type=some u∧u.isRow=q.2.2:=by intro f q hq;have hl:=(List.getElem?_eq_some_iff.1 hq).1;have:=h f hl;rw [List.getD_eq_getElem?_getD,hq] at this;exact this
theorem aio (w:World) (a b:ByteArray) (n m:Int):(Op.equalIn 10000 56 (.agg #[.string a,.int .i64 n]) (.agg #[.string b,.int .i64 m])).run Tryz.prog w=.ok (decide (a=b∧n=m)) w:=by
 have h9:Tryz.prog.underlying 9=some .string:=rfl;have h3:Tryz.prog.underlying 3=some (.int .i64):=rfl;have p1:(part 9 #[Value.string a,.int .i64 n] 0).run Tryz.prog w=.ok (.string a) w:=rfl;have p2:(part 9 #[Value.string b,.int .i64 m] 0).run Tryz.prog w=.ok (.string b) w:=rfl;have p3:(part 3 #[Value.string a,.int .i64 n] 1).run Tryz.prog w=.ok (.int .i64 n) w:=rfl;have p4:(part 3 #[Value.string b,.int .i64 m] 1).run Tryz.prog w=.ok (.int .i64 m) w:=rfl;rw [run_equalIn_struct w 9999 56 _ _ rfl dK];obtain ⟨f1,f2,hf,n1,t1,o1,n2,t2,o2⟩:∃f1 f2:Field,(Tryz.prog.fieldsOf 56).toList=[f1,f2]∧f1.name≠ "_"∧f1.type=9∧f1.offset=0∧f2.name≠ "_"∧f2.type=3∧f2.offset=1:=⟨_,_,rfl,dE,rfl,rfl,dE,rfl,rfl⟩;rw [hf];simp only [Op.eqFields,if_pos n1,if_pos n2,t1,t2,o1,o2,Sem.run_bind,p1,p2,Result.andThen_ok,run_equalIn_string w 9998 9 a b h9];rw [KZ];by_cases hab:a=b
 ·rw [decide_eq_true hab];simp only [Bool.not_true,Bool.false_eq_true,if_false,Sem.run_bind,p3,p4,Result.andThen_ok,run_equalIn_int w 9998 3 .i64 .i64 n m h3];by_cases hnm:n=m
  ·subst hnm;simp [Op.eqFields,hab]
  ·have:(n==m)=false:=by simpa using hnm
   rw [this];simp [hnm]
 ·rw [decide_eq_false hab];simp [hab]
theorem tok:kN Tryz.prog gW:=by
 refine ach rfl rfl rfl rfl rfl aio dK ?_;simp only [tyL,List.forall_mem_cons];refine ⟨?_,?_,?_,?_,?_,?_,?_,?_,?_,?_,?_,?_,?_,?_,?_,?_,?_,?_,?_,?_,?_,?_,?_,?_,?_,?_,fun p hp=>by cases hp⟩
 ·refine ⟨⟨_,rfl,rfl,fun e h=>?_⟩,fun h=>?_,fun h=>?_,⟨_,_,rfl,rfl,rfl,rfl,rfl,?_⟩⟩
  ·cases h
  ·cases h
  ·rfl
  ·iterate 1 refine Exists.intro _ (Exists.intro _ (And.intro rfl (And.intro rfl ?_)))
   rfl
 ·refine ⟨⟨_,rfl,rfl,fun e h=>?_⟩,fun h=>?_,fun h=>?_,⟨_,_,rfl,rfl,rfl,rfl,rfl,?_⟩⟩
  ·cases h
  ·cases h
  ·rfl
  ·iterate 1 refine Exists.intro _ (Exists.intro _ (And.intro rfl (And.intro rfl ?_)))
   rfl
 ·refine ⟨⟨_,rfl,rfl,fun e h=>?_⟩,fun h=>?_,fun h=>?_,⟨_,_,rfl,rfl,rfl,rfl,rfl,?_⟩⟩
  ·cases h
  ·cases h
  ·rfl
  ·iterate 1 refine Exists.intro _ (Exists.intro _ (And.intro rfl (And.intro rfl ?_)))
   rfl
 ·refine ⟨⟨_,rfl,rfl,fun e h=>?_⟩,fun h=>?_,fun h=>?_,⟨_,_,rfl,rfl,rfl,rfl,rfl,?_⟩⟩
  ·cases h
  ·cases h
  ·rfl
  ·iterate 1 refine Exists.intro _ (Exists.intro _ (And.intro rfl (And.intro rfl ?_)))
   rfl
 ·refine ⟨⟨_,rfl,rfl,fun e h=>?_⟩,fun h=>?_,fun h=>?_,⟨_,_,rfl,rfl,rfl,rfl,rfl,?_⟩⟩
  ·cases h
  ·cases h
  ·rfl
  ·iterate 1 refine Exists.intro _ (Exists.intro _ (And.intro rfl (And.intro rfl ?_)))
   rfl
 ·refine ⟨⟨_,rfl,rfl,fun e h=>?_⟩,fun h=>?_,fun h=>?_,⟨_,_,rfl,rfl,rfl,rfl,rfl,?_⟩⟩
  ·cases h
  ·cases h
  ·rfl
  ·iterate 1 refine Exists.intro _ (Exists.intro _ (And.intro rfl (And.intro rfl ?_)))
   rfl
 ·refine ⟨⟨_,rfl,rfl,fun e h=>?_⟩,fun h=>?_,fun h=>?_,⟨_,_,rfl,rfl,rfl,rfl,rfl,?_⟩⟩
  ·cases h;rfl
  ·cases h
  ·rfl
  ·iterate 1 refine Exists.intro _ (Exists.intro _ (And.intro rfl (And.intro rfl ?_)))
   rfl
 ·refine ⟨⟨_,rfl,rfl,fun e h=>?_⟩,fun h=>?_,fun h=>?_,⟨_,_,rfl,rfl,rfl,rfl,rfl,?_⟩⟩
  ·cases h;rfl
  ·cases h
  ·rfl
  ·iterate 1 refine Exists.intro _ (Exists.intro _ (And.intro rfl (And.intro rfl ?_)))
   rfl
 ·refine ⟨⟨_,rfl,rfl,fun e h=>?_⟩,fun h=>?_,fun h=>?_,⟨_,_,rfl,rfl,rfl,rfl,rfl,?_⟩⟩
  ·cases h;rfl
  ·cases h
  ·rfl
  ·iterate 1 refine Exists.intro _ (Exists.intro _ (And.intro rfl (And.intro rfl ?_)))
   rfl
 ·refine ⟨⟨_,rfl,rfl,fun e h=>?_⟩,fun h=>?_,fun h=>?_,⟨_,_,rfl,rfl,rfl,rfl,rfl,?_⟩⟩
  ·cases h;rfl
  ·cases h
  ·rfl
  ·iterate 1 refine Exists.intro _ (Exists.intro _ (And.intro rfl (And.intro rfl ?_)))
   rfl
 ·refine ⟨⟨_,rfl,rfl,fun e h=>?_⟩,fun h=>?_,fun h=>?_,⟨_,_,rfl,rfl,rfl,rfl,rfl,?_⟩⟩
  ·cases h;rfl
  ·cases h
  ·rfl
  ·iterate 1 refine Exists.intro _ (Exists.intro _ (And.intro rfl (And.intro rfl ?_)))
   rfl
 ·refine ⟨⟨_,rfl,rfl,fun e h=>?_⟩,fun h=>?_,fun h=>?_,⟨_,_,rfl,rfl,rfl,rfl,rfl,?_⟩⟩
  ·cases h;rfl
  ·cases h
  ·rfl
  ·iterate 1 refine Exists.intro _ (Exists.intro _ (And.intro rfl (And.intro rfl ?_)))
   rfl
 ·refine ⟨⟨_,rfl,rfl,fun e h=>?_⟩,fun h=>?_,fun h=>?_,⟨_,_,rfl,rfl,rfl,rfl,rfl,?_⟩⟩
  ·cases h;rfl
  ·cases h
  ·rfl
  ·iterate 1 refine Exists.intro _ (Exists.intro _ (And.intro rfl (And.intro rfl ?_)))
   rfl
 ·refine ⟨⟨_,rfl,rfl,fun e h=>?_⟩,fun h=>?_,fun h=>?_,⟨_,_,rfl,rfl,rfl,rfl,rfl,?_⟩⟩
  ·cases h
  ·refine ⟨_,rfl,rfl,jo fun i hi=>?_⟩;rcases i with _|i
   ·exact ⟨_,_,_,rfl,rfl,rfl,rfl,rfl,rfl⟩
   rcases i with _|i
   ·exact ⟨_,_,_,rfl,rfl,rfl,rfl,rfl,rfl⟩
   exact absurd hi (by simp)
  ·cases h
  ·iterate 2 refine Exists.intro _ (Exists.intro _ (And.intro rfl (And.intro rfl ?_)))
   rfl
 ·refine ⟨⟨_,rfl,rfl,fun e h=>?_⟩,fun h=>?_,fun h=>?_,⟨_,_,rfl,rfl,rfl,rfl,rfl,?_⟩⟩
  ·cases h
  ·refine ⟨_,rfl,rfl,jo fun i hi=>?_⟩;rcases i with _|i
   ·exact ⟨_,_,_,rfl,rfl,rfl,rfl,rfl,rfl⟩
   rcases i with _|i
   ·exact ⟨_,_,_,rfl,rfl,rfl,rfl,rfl,rfl⟩
   rcases i with _|i
   ·exact ⟨_,_,_,rfl,rfl,rfl,rfl,rfl,rfl⟩
   rcases i with _|i
   ·exact ⟨_,_,_,rfl,rfl,rfl,rfl,rfl,rfl⟩
   rcases i with _|i
   ·exact ⟨_,_,_,rfl,rfl,rfl,rfl,rfl,rfl⟩
   rcases i with _|i
   ·exact ⟨_,_,_,rfl,rfl,rfl,rfl,rfl,rfl⟩
   rcases i with _|i
   ·exact ⟨_,_,_,rfl,rfl,rfl,rfl,rfl,rfl⟩
   rcases i with _|i
   ·exact ⟨_,_,_,rfl,rfl,rfl,rfl,rfl,rfl⟩
   rcases i with _|i
   ·exact ⟨_,_,_,rfl,rfl,rfl,rfl,rfl,rfl⟩
   rcases i with _|i
   ·exact ⟨_,_,_,rfl,rfl,rfl,rfl,rfl,rfl⟩
   rcases i with _|i
   ·exact ⟨_,_,_,rfl,rfl,rfl,rfl,rfl,rfl⟩
   rcases i with _|i
   ·exact ⟨_,_,_,rfl,rfl,rfl,rfl,rfl,rfl⟩
   exact absurd hi (by simp)
  ·cases h
  ·iterate 12 refine Exists.intro _ (Exists.intro _ (And.intro rfl (And.intro rfl ?_)))
   rfl
 ·refine ⟨⟨_,rfl,rfl,fun e h=>?_⟩,fun h=>?_,fun h=>?_,⟨_,_,rfl,rfl,rfl,rfl,rfl,?_⟩⟩
  ·cases h
  ·refine ⟨_,rfl,rfl,jo fun i hi=>?_⟩;rcases i with _|i
   ·exact ⟨_,_,_,rfl,rfl,rfl,rfl,rfl,rfl⟩
   rcases i with _|i
   ·exact ⟨_,_,_,rfl,rfl,rfl,rfl,rfl,rfl⟩
   rcases i with _|i
   ·exact ⟨_,_,_,rfl,rfl,rfl,rfl,rfl,rfl⟩
   rcases i with _|i
   ·exact ⟨_,_,_,rfl,rfl,rfl,rfl,rfl,rfl⟩
   rcases i with _|i
   ·exact ⟨_,_,_,rfl,rfl,rfl,rfl,rfl,rfl⟩
   exact absurd hi (by simp)
  ·cases h
  ·iterate 16 refine Exists.intro _ (Exists.intro _ (And.intro rfl (And.intro rfl ?_)))
   rfl
 ·refine ⟨⟨_,rfl,rfl,fun e h=>?_⟩,fun h=>?_,fun h=>?_,⟨_,_,rfl,rfl,rfl,rfl,rfl,?_⟩⟩
  ·cases h
  ·refine ⟨_,rfl,rfl,jo fun i hi=>?_⟩;rcases i with _|i
   ·exact ⟨_,_,_,rfl,rfl,rfl,rfl,rfl,rfl⟩
   rcases i with _|i
   ·exact ⟨_,_,_,rfl,rfl,rfl,rfl,rfl,rfl⟩
   exact absurd hi (by simp)
  ·cases h
  ·iterate 2 refine Exists.intro _ (Exists.intro _ (And.intro rfl (And.intro rfl ?_)))
   rfl
 ·refine ⟨⟨_,rfl,rfl,fun e h=>?_⟩,fun h=>?_,fun h=>?_,⟨_,_,rfl,rfl,rfl,rfl,rfl,?_⟩⟩
  ·cases h
  ·refine ⟨_,rfl,rfl,jo fun i hi=>?_⟩;rcases i with _|i
   ·exact ⟨_,_,_,rfl,rfl,rfl,rfl,rfl,rfl⟩
   rcases i with _|i
   ·exact ⟨_,_,_,rfl,rfl,rfl,rfl,rfl,rfl⟩
   exact absurd hi (by simp)
  ·cases h
  ·iterate 2 refine Exists.intro _ (Exists.intro _ (And.intro rfl (And.intro rfl ?_)))
   rfl
 ·refine ⟨⟨_,rfl,rfl,fun e h=>?_⟩,fun h=>?_,fun h=>?_,⟨_,_,rfl,rfl,rfl,rfl,rfl,?_⟩⟩
  ·cases h
  ·refine ⟨_,rfl,rfl,jo fun i hi=>?_⟩;rcases i with _|i
   ·exact ⟨_,_,_,rfl,rfl,rfl,rfl,rfl,rfl⟩
   rcases i with _|i
   ·exact ⟨_,_,_,rfl,rfl,rfl,rfl,rfl,rfl⟩
   exact absurd hi (by simp)
  ·cases h
  ·iterate 2 refine Exists.intro _ (Exists.intro _ (And.intro rfl (And.intro rfl ?_)))
   rfl
 ·refine ⟨⟨_,rfl,rfl,fun e h=>?_⟩,fun h=>?_,fun h=>?_,⟨_,_,rfl,rfl,rfl,rfl,rfl,?_⟩⟩
  ·cases h
  ·refine ⟨_,rfl,rfl,jo fun i hi=>?_⟩;rcases i with _|i
   ·exact ⟨_,_,_,rfl,rfl,rfl,rfl,rfl,rfl⟩
   rcases i with _|i
   ·exact ⟨_,_,_,rfl,rfl,rfl,rfl,rfl,rfl⟩
   rcases i with _|i
   ·exact ⟨_,_,_,rfl,rfl,rfl,rfl,rfl,rfl⟩
   rcases i with _|i
   ·exact ⟨_,_,_,rfl,rfl,rfl,rfl,rfl,rfl⟩
   rcases i with _|i
   ·exact ⟨_,_,_,rfl,rfl,rfl,rfl,rfl,rfl⟩
   exact absurd hi (by simp)
  ·cases h
  ·iterate 5 refine Exists.intro _ (Exists.intro _ (And.intro rfl (And.intro rfl ?_)))
   rfl
 ·refine ⟨⟨_,rfl,rfl,fun e h=>?_⟩,fun h=>?_,fun h=>?_,⟨_,_,rfl,rfl,rfl,rfl,rfl,?_⟩⟩
  ·cases h
  ·refine ⟨_,rfl,rfl,jo fun i hi=>?_⟩;rcases i with _|i
   ·exact ⟨_,_,_,rfl,rfl,rfl,rfl,rfl,rfl⟩
   rcases i with _|i
   ·exact ⟨_,_,_,rfl,rfl,rfl,rfl,rfl,rfl⟩
   rcases i with _|i
   ·exact ⟨_,_,_,rfl,rfl,rfl,rfl,rfl,rfl⟩
   rcases i with _|i
   ·exact ⟨_,_,_,rfl,rfl,rfl,rfl,rfl,rfl⟩
   exact absurd hi (by simp)
  ·cases h
  ·iterate 4 refine Exists.intro _ (Exists.intro _ (And.intro rfl (And.intro rfl ?_)))
   rfl
 ·refine ⟨⟨_,rfl,rfl,fun e h=>?_⟩,fun h=>?_,fun h=>?_,⟨_,_,rfl,rfl,rfl,rfl,rfl,?_⟩⟩
  ·cases h
  ·refine ⟨_,rfl,rfl,jo fun i hi=>?_⟩;rcases i with _|i
   ·exact ⟨_,_,_,rfl,rfl,rfl,rfl,rfl,rfl⟩
   rcases i with _|i
   ·exact ⟨_,_,_,rfl,rfl,rfl,rfl,rfl,rfl⟩
   rcases i with _|i
   ·exact ⟨_,_,_,rfl,rfl,rfl,rfl,rfl,rfl⟩
   rcases i with _|i
   ·exact ⟨_,_,_,rfl,rfl,rfl,rfl,rfl,rfl⟩
   rcases i with _|i
   ·exact ⟨_,_,_,rfl,rfl,rfl,rfl,rfl,rfl⟩
   rcases i with _|i
   ·exact ⟨_,_,_,rfl,rfl,rfl,rfl,rfl,rfl⟩
   rcases i with _|i
   ·exact ⟨_,_,_,rfl,rfl,rfl,rfl,rfl,rfl⟩
   exact absurd hi (by simp)
  ·cases h
  ·iterate 7 refine Exists.intro _ (Exists.intro _ (And.intro rfl (And.intro rfl ?_)))
   rfl
 ·refine ⟨⟨_,rfl,rfl,fun e h=>?_⟩,fun h=>?_,fun h=>?_,⟨_,_,rfl,rfl,rfl,rfl,rfl,?_⟩⟩
  ·cases h
  ·refine ⟨_,rfl,rfl,jo fun i hi=>?_⟩;rcases i with _|i
   ·exact ⟨_,_,_,rfl,rfl,rfl,rfl,rfl,rfl⟩
   rcases i with _|i
   ·exact ⟨_,_,_,rfl,rfl,rfl,rfl,rfl,rfl⟩
   rcases i with _|i
   ·exact ⟨_,_,_,rfl,rfl,rfl,rfl,rfl,rfl⟩
   exact absurd hi (by simp)
  ·cases h
  ·iterate 3 refine Exists.intro _ (Exists.intro _ (And.intro rfl (And.intro rfl ?_)))
   rfl
 ·refine ⟨⟨_,rfl,rfl,fun e h=>?_⟩,fun h=>?_,fun h=>?_,⟨_,_,rfl,rfl,rfl,rfl,rfl,?_⟩⟩
  ·cases h
  ·refine ⟨_,rfl,rfl,jo fun i hi=>?_⟩;rcases i with _|i
   ·exact ⟨_,_,_,rfl,rfl,rfl,rfl,rfl,rfl⟩
   rcases i with _|i
   ·exact ⟨_,_,_,rfl,rfl,rfl,rfl,rfl,rfl⟩
   rcases i with _|i
   ·exact ⟨_,_,_,rfl,rfl,rfl,rfl,rfl,rfl⟩
   rcases i with _|i
   ·exact ⟨_,_,_,rfl,rfl,rfl,rfl,rfl,rfl⟩
   rcases i with _|i
   ·exact ⟨_,_,_,rfl,rfl,rfl,rfl,rfl,rfl⟩
   exact absurd hi (by simp)
  ·cases h
  ·iterate 5 refine Exists.intro _ (Exists.intro _ (And.intro rfl (And.intro rfl ?_)))
   rfl
 ·refine ⟨⟨_,rfl,rfl,fun e h=>?_⟩,fun h=>?_,fun h=>?_,⟨_,_,rfl,rfl,rfl,rfl,rfl,?_⟩⟩
  ·cases h
  ·refine ⟨_,rfl,rfl,jo fun i hi=>?_⟩;rcases i with _|i
   ·exact ⟨_,_,_,rfl,rfl,rfl,rfl,rfl,rfl⟩
   rcases i with _|i
   ·exact ⟨_,_,_,rfl,rfl,rfl,rfl,rfl,rfl⟩
   rcases i with _|i
   ·exact ⟨_,_,_,rfl,rfl,rfl,rfl,rfl,rfl⟩
   exact absurd hi (by simp)
  ·cases h
  ·iterate 3 refine Exists.intro _ (Exists.intro _ (And.intro rfl (And.intro rfl ?_)))
   rfl
 ·refine ⟨⟨_,rfl,rfl,fun e h=>?_⟩,fun h=>?_,fun h=>?_,⟨_,_,rfl,rfl,rfl,rfl,rfl,?_⟩⟩
  ·cases h
  ·refine ⟨_,rfl,rfl,jo fun i hi=>?_⟩;rcases i with _|i
   ·exact ⟨_,_,_,rfl,rfl,rfl,rfl,rfl,rfl⟩
   rcases i with _|i
   ·exact ⟨_,_,_,rfl,rfl,rfl,rfl,rfl,rfl⟩
   rcases i with _|i
   ·exact ⟨_,_,_,rfl,rfl,rfl,rfl,rfl,rfl⟩
   rcases i with _|i
   ·exact ⟨_,_,_,rfl,rfl,rfl,rfl,rfl,rfl⟩
   rcases i with _|i
   ·exact ⟨_,_,_,rfl,rfl,rfl,rfl,rfl,rfl⟩
   exact absurd hi (by simp)
  ·cases h
  ·iterate 16 refine Exists.intro _ (Exists.intro _ (And.intro rfl (And.intro rfl ?_)))
   rfl
variable {lim lim' : Nat -> Nat} {bs bs' : List Nat} {w w' : World} {P : Program} {T : jL} {a : Act} {o : Oper} {m : Nat -> Prop} {bx bx' : List (List AV)} {S S' : rE} {K : Act -> World -> Prop} {Q : Exit -> Act -> World -> Prop} {cal : xR} {σ σ' σ1 σ2 : aJ}
theorem iy {args:List AV} {vs:List Value} {nt:Nat} (hl:vs.length=args.length) (H:aM lim bs w bx (aS args vs) m):aM lim bs w bx (Sl (params [] 0 args) {tmps:=vs.toArray++Array.replicate (nt-vs.toArray.size) undef,defers:=[]}) m:=by
 have hS:Sl (params [] 0 args) {tmps:=vs.toArray++Array.replicate (nt-vs.toArray.size) undef,defers:=[]}=aS args vs:=by
  funext k;unfold Sl aS;rw [xE];congr 1
  ·by_cases hk:k<args.length
   ·rw [if_pos ⟨oM,oM⟩];simp
   ·rw [if_neg oM];simp [get,List.getD_eq_getElem?_getD,List.getElem?_eq_none (show args.length<=k by omega)]
  ·simp only [Array.getD_eq_getD_getElem?,List.getD_eq_getElem?_getD];by_cases hk:k<vs.length
   ·rw [Array.getElem?_append_left (by simpa using hk)];simp
   ·rw [Array.getElem?_append_right (by simpa using hk),List.getElem?_eq_none oM,Array.getElem?_replicate];split<;>rfl
 rw [hS];exact H
theorem iw {vs:List Value} {nt:Nat}:nt<=(vs.toArray++Array.replicate (nt-vs.toArray.size) undef).size:=by simp;omega
theorem oI (HT:kN P T) (HC:eT P cal) {i:Nat} {ops:Array Oper} {md:Md} (hd:∀o ∈ ops.toList,∀k,o.dst=some k->k<a.tmps.size) (H:aM lim bs w σ.bx (Sl σ.tm a) m) (hm:∀b,w.heap.size<=b->m b) (h:dw cal T ops.toList md ops.toList σ=some σ') (hK:jE md.base m lim bs w a σ' (Q .normal)):(Code.region i ops false).wp P Q a w:=
 wp_region_list (tZ HT HC hd ops.toList (fun _ h=>h) rfl H hm h hK)
theorem bM:eT P (fun _ _ _=>none):=fun f args bx r bx' h=>by cases h
def zt:Md:=⟨[],[],0⟩
theorem fP {ops:List Oper} {n k:Nat} (h:(ops.all fun o=>match o.dst with|some d=>decide (d<n)|none=>true)=true) (hn:n<=k):∀o ∈ ops,∀d,o.dst=some d->d<k:=by intro o ho d hd;rw [List.all_eq_true] at h;have:=h o ho;rw [hd] at this;simp only [decide_eq_true_eq] at this;exact Nat.lt_of_lt_of_le this hn
theorem kR (HT:kN P T) (HC:eT P cal) {ops:Array Oper} {rest:List Oper} {md:Md} (hd:∀d,o.dst=some d->d<a.tmps.size) (H:aM lim bs w σ.bx (Sl σ.tm a) m) (hm:∀b,w.heap.size<=b->m b) (h:uM cal T md ops.toList o σ=some σ') (hK:∀lim' bs' w' a',oz md.base m lim bs w a σ' lim' bs' w' a'->wpList P ops Q rest a' w'):wpList P ops Q (o::rest) a w:=
 wpList_step fun K hK'=>zK HT HC H hm hd h (fun lim' bs' w' a' g=>hK' a' w' (hK lim' bs' w' a' g))
theorem Bu {u:Value} {e z:Nat} (H:aM lim bs w bx (rS .nil u) m):aM lim bs w bx (rS (.row e z 0 []) u) m:=by
 have h0:=H.slot 0;have h0':AV.R lim bs w .nil u:=h0;rw [AV.R] at h0';have ho:∀p g,Own w bs bx (rS (.row e z 0 []) u) p g->Own w bs bx (rS .nil u) p g:=by
  intro p g hp;cases p with
  |b i j=>exact hp
  |t k=>
   obtain ⟨h1,h2⟩:=hp;by_cases hk:k=0
   ·subst hk;have h2':u.ownBlock=some g:=h2;rw [h0'] at h2';cases h2'
   ·have:(rS (.row e z 0 []) u k).1=.bad:=by unfold rS;rw [if_neg hk]
    rw [this] at h1;cases h1
 refine ⟨H.len,H.xV,H.free,H.mb,H.box,fun k=>?_,fun k=>?_,H.top,fun p g hp=>H.own p g (ho p g hp),fun p q g hp hq=>H.nK p q g (ho p g hp) (ho q g hq)⟩
 ·unfold rS;split
  ·show AV.R lim bs w (.row e z 0 []) u;rw [AV.R];exact ⟨by simp,rfl,.inl ⟨h0',rfl⟩⟩
  ·exact lh _
 ·unfold rS;split<;>rfl
theorem Xy {n:Nat} {l:List AV} (hl:l.length=n*2) (h1:dI l=true) (h2:AV.ak l=true) (hn:n<=1000000):aW Tryz.prog 39 [.sl n l] [] (.row 56 2 n l) []:=by
 refine ⟨⟨_,rfl,rfl,rfl⟩,Nat.le_refl _,fun lim bs w vs m hvl hm H=>?_⟩;refine calls_of_wp rfl rfl ?_;have H0:=iy (nt:=8) hvl H;have hsz:8<=(vs.toArray++Array.replicate (8-vs.toArray.size) undef).size:=iw;refine wp_seq (oI (md:=zt) tok bM (fP (by rfl) hsz) (σ:=⟨[(0,.sl n l)],[]⟩) (σ':=⟨[(2,.nil),(0,.sl n l)],[]⟩) H0 hm rfl fun dN jZ w1 a1 g1=>?_);have hs1:8<=a1.tmps.size:=by rw [g1.nt];exact hsz
 have hbs:bs=[]:=List.eq_nil_of_length_eq_zero (by rw [H.len];rfl);have hv:=g1.hold.slot 0;rw [show (Sl _ a1 0).1=AV.sl n l from rfl,AV.R] at hv;obtain ⟨ad,c,hv,hnc,hl0⟩:=hv;have hv':a1.tmps.getD 0 undef=.slice ad n c:=hv;refine wp_seq (wp_seq (wp_region_list (wpList_step fun K hK=>?_)));show Oper.wp _ _ _ _ _ _;refine gp (u:=.slice ad n c) (w':=w1) ?_ (hK _ _ ?_)
 ·unfold execOp;simp [Act.eval,hv',-Array.getD_eq_getD_getElem?]
 refine wpList_step fun K hK=>?_;show Oper.wp _ _ _ _ _ _;refine gp (u:=.bool ad.isNone) (w':=w1) ?_ (hK _ _ ?_)
 ·unfold execOp;have h3:((a1.put (some 3) (Value.slice ad n c)).tmps.getD 3 undef)=.slice ad n c:=by have:3<a1.tmps.size:=oM;simp [Act.put,this]
  simp [Act.eval,h3,-Array.getD_eq_getD_getElem?];have he:(Op.equal 25 (.slice ad n c) (.slice none 0 0)).run Tryz.prog w1=.ok ad.isNone w1:=run_equalIn_slice_nil w1 _ 25 56 ad n c rfl;simp [eqGuard,binOp,he]
 refine wpList_nil ?_;obtain ⟨a2,ha2⟩:∃a2,a2=(a1.put (some 3) (Value.slice ad n c)).put (some 4) (.bool ad.isNone):=⟨_,rfl⟩;have H3:aM dN jZ w1 [] (Sl [(4,.bool ad.isNone),(3,.bad),(2,.nil),(0,.sl n l)] a2) m:=by rw [ha2];show aM dN jZ w1 [] (Sl (put (put [(2,.nil),(0,.sl n l)] 3 .bad) 4 (.bool ad.isNone)) _) m;rw [mR (by rw [bL];omega),mR oM];exact (g1.hold.put (lh _) rfl (fun g hh=>by cases hh)).put (by rw [AV.R]) rfl (fun g hh=>by cases hh)
 have hs2:8<=a2.tmps.size:=by rw [ha2,bL,bL];exact hs1
 have hd2:a2.defers=[]:=by rw [ha2];exact g1.df
 rw [←ha2];refine wp_cond (t:=ad.isNone) (kM (σ:=⟨[(4,.bool ad.isNone),(3,.bad),(2,.nil),(0,.sl n l)],[]⟩) (.tmp 4) H3 rfl) ?_;have hm1:∀b,w1.heap.size<=b->m b:=fun b hb=>hm b (Nat.le_trans g1.fr.qJ.size hb);cases ad with
 |none=>
  have hl1:l=[]:=by
   rcases hl0 with h|⟨b,o,h,-⟩
   ·exact h
   ·cases h
  subst hl1;have hn0:n=0:=by rw [List.length_nil] at hl;omega
  subst hn0;refine wp_seq (oI (md:=zt) tok bM (fP (by rfl) hs2) (σ:=⟨[(4,.bool true),(3,.bad),(2,.nil),(0,.sl 0 [])],[]⟩) (σ':=⟨[(4,.bool true),(3,.bad),(2,.nil),(0,.sl 0 [])],[]⟩) H3 hm1 rfl fun gI qN w2 a3 g2=>wp_ret ?_);obtain ⟨u,u1,u2⟩:=eU (T:=gW) (n:=0) (fn:=Tryz.f39) tok g2.hold (vs:=[.nil]) rfl;exact ⟨g2.df.trans hd2,u,u1,u,gI,qN,rfl,Bu u2,g1.fr.trans g2.fr,fun i hi=>by cases hi⟩
 |some ad=>
  refine wp_skip ?_;refine wp_seq (wp_region_list (kR (md:=zt) (σ:=⟨[(4,.bool false),(3,.bad),(2,.nil),(0,.sl n l)],[]⟩) (σ':=⟨[(5,.row 56 2 0 []),(4,.bool false),(3,.bad),(2,.nil),(0,.sl n l)],[]⟩) tok bM (fP (ops:=[_]) (by rfl) hs2 _ List.mem_cons_self) H3 hm1 rfl fun gI qN w2 a3 g2=>?_));have hs3:8<=a3.tmps.size:=by rw [g2.nt];exact hs2
  have hm2:∀b,w2.heap.size<=b->m b:=fun b hb=>hm1 b (Nat.le_trans g2.fr.qJ.size hb);refine kR (md:=zt) (σ':=⟨[(6,.sl n l),(5,.row 56 2 0 []),(4,.bool false),(3,.bad),(2,.nil),(0,.sl n l)],[]⟩) tok bM (fP (ops:=[_]) (by rfl) hs3 _ List.mem_cons_self) g2.hold hm2 rfl fun aa3 bs3 w3 a4 g3=>?_;have hs4:8<=a4.tmps.size:=by rw [g3.nt];exact hs3
  have Td:∀b,w3.heap.size<=b->m b:=fun b hb=>hm2 b (Nat.le_trans g3.fr.qJ.size hb);have hok:(true && decide (0+n<=10000000000) && decide (l.length=n*2) && decide (0<2) && decide (24<=1000) && dI l && AV.ak l)=true:=by rw [h1,h2];simp only [Bool.and_true,Bool.true_and,Bool.and_eq_true,decide_eq_true_eq];exact ⟨⟨⟨oM,hl⟩,oM⟩,oM⟩
  refine kR (md:=zt) (σ':=⟨[(7,.row 56 2 (0+n) ([]++l)),(6,.sl n l),(5,.sl 0 []),(4,.bool false),(3,.bad),(2,.nil),(0,.sl n l)],[]⟩) tok bM (fP (ops:=[_]) (by rfl) hs4 _ List.mem_cons_self) g3.hold Td (Eq.trans (show _=if _=true then some _ else none from rfl) (if_pos hok)) fun aa2 bs4 w4 a5 g4=>?_;have hs5:8<=a5.tmps.size:=by rw [g4.nt];exact hs4
  have hm4:∀b,w4.heap.size<=b->m b:=fun b hb=>Td b (Nat.le_trans g4.fr.qJ.size hb);rw [Nat.zero_add,List.nil_append] at g4;refine kR (md:=zt) (σ:=⟨[(7,.row 56 2 n l),(6,.sl n l),(5,.sl 0 []),(4,.bool false),(3,.bad),(2,.nil),(0,.sl n l)],[]⟩) (σ':=⟨[(7,.sl n l),(6,.sl n l),(5,.sl 0 []),(4,.bool false),(3,.bad),(2,.row 56 2 n l),(0,.sl n l)],[]⟩) tok bM (fP (ops:=[_]) (by rfl) hs5 _ List.mem_cons_self) g4.hold hm4 rfl fun LA bs5 w5 a6 g5=>?_;refine wpList_nil (wp_ret ?_);obtain ⟨u,u1,u2⟩:=eU (T:=gW) (n:=0) (fn:=Tryz.f39) tok g5.hold (vs:=[.row 56 2 n l]) rfl;exact ⟨g5.df.trans (g4.df.trans (g3.df.trans (g2.df.trans hd2))),u,u1,u,LA,bs5,rfl,u2,g1.fr.trans (g2.fr.trans (g3.fr.trans (g4.fr.trans g5.fr))),fun i hi=>by cases hi⟩
theorem Xx {n:Nat} {l:List AV} (hl:l.length=n*1) (h1:dI l=true) (h2:AV.ak l=true) (hn:n<=1000000):aW Tryz.prog 40 [.sl n l] [] (.row 9 1 n l) []:=by
 refine ⟨⟨_,rfl,rfl,rfl⟩,Nat.le_refl _,fun lim bs w vs m hvl hm H=>?_⟩;refine calls_of_wp rfl rfl ?_;have H0:=iy (nt:=8) hvl H;have hsz:8<=(vs.toArray++Array.replicate (8-vs.toArray.size) undef).size:=iw;refine wp_seq (oI (md:=zt) tok bM (fP (by rfl) hsz) (σ:=⟨[(0,.sl n l)],[]⟩) (σ':=⟨[(2,.nil),(0,.sl n l)],[]⟩) H0 hm rfl fun dN jZ w1 a1 g1=>?_);have hs1:8<=a1.tmps.size:=by rw [g1.nt];exact hsz
 have hbs:bs=[]:=List.eq_nil_of_length_eq_zero (by rw [H.len];rfl);have hv:=g1.hold.slot 0;rw [show (Sl _ a1 0).1=AV.sl n l from rfl,AV.R] at hv;obtain ⟨ad,c,hv,hnc,hl0⟩:=hv;have hv':a1.tmps.getD 0 undef=.slice ad n c:=hv;refine wp_seq (wp_seq (wp_region_list (wpList_step fun K hK=>?_)));show Oper.wp _ _ _ _ _ _;refine gp (u:=.slice ad n c) (w':=w1) ?_ (hK _ _ ?_)
 ·unfold execOp;simp [Act.eval,hv',-Array.getD_eq_getD_getElem?]
 refine wpList_step fun K hK=>?_;show Oper.wp _ _ _ _ _ _;refine gp (u:=.bool ad.isNone) (w':=w1) ?_ (hK _ _ ?_)
 ·unfold execOp;have h3:((a1.put (some 3) (Value.slice ad n c)).tmps.getD 3 undef)=.slice ad n c:=by have:3<a1.tmps.size:=oM;simp [Act.put,this]
  simp [Act.eval,h3,-Array.getD_eq_getD_getElem?];have he:(Op.equal 32 (.slice ad n c) (.slice none 0 0)).run Tryz.prog w1=.ok ad.isNone w1:=run_equalIn_slice_nil w1 _ 32 9 ad n c rfl;simp [eqGuard,binOp,he]
 refine wpList_nil ?_;obtain ⟨a2,ha2⟩:∃a2,a2=(a1.put (some 3) (Value.slice ad n c)).put (some 4) (.bool ad.isNone):=⟨_,rfl⟩;have H3:aM dN jZ w1 [] (Sl [(4,.bool ad.isNone),(3,.bad),(2,.nil),(0,.sl n l)] a2) m:=by rw [ha2];show aM dN jZ w1 [] (Sl (put (put [(2,.nil),(0,.sl n l)] 3 .bad) 4 (.bool ad.isNone)) _) m;rw [mR (by rw [bL];omega),mR oM];exact (g1.hold.put (lh _) rfl (fun g hh=>by cases hh)).put (by rw [AV.R]) rfl (fun g hh=>by cases hh)
 have hs2:8<=a2.tmps.size:=by rw [ha2,bL,bL];exact hs1
 have hd2:a2.defers=[]:=by rw [ha2];exact g1.df
 rw [←ha2];refine wp_cond (t:=ad.isNone) (kM (σ:=⟨[(4,.bool ad.isNone),(3,.bad),(2,.nil),(0,.sl n l)],[]⟩) (.tmp 4) H3 rfl) ?_;have hm1:∀b,w1.heap.size<=b->m b:=fun b hb=>hm b (Nat.le_trans g1.fr.qJ.size hb);cases ad with
 |none=>
  have hl1:l=[]:=by
   rcases hl0 with h|⟨b,o,h,-⟩
   ·exact h
   ·cases h
  subst hl1;have hn0:n=0:=by rw [List.length_nil] at hl;omega
  subst hn0;refine wp_seq (oI (md:=zt) tok bM (fP (by rfl) hs2) (σ:=⟨[(4,.bool true),(3,.bad),(2,.nil),(0,.sl 0 [])],[]⟩) (σ':=⟨[(4,.bool true),(3,.bad),(2,.nil),(0,.sl 0 [])],[]⟩) H3 hm1 rfl fun gI qN w2 a3 g2=>wp_ret ?_);obtain ⟨u,u1,u2⟩:=eU (T:=gW) (n:=0) (fn:=Tryz.f40) tok g2.hold (vs:=[.nil]) rfl;exact ⟨g2.df.trans hd2,u,u1,u,gI,qN,rfl,Bu u2,g1.fr.trans g2.fr,fun i hi=>by cases hi⟩
 |some ad=>
  refine wp_skip ?_;refine wp_seq (wp_region_list (kR (md:=zt) (σ:=⟨[(4,.bool false),(3,.bad),(2,.nil),(0,.sl n l)],[]⟩) (σ':=⟨[(5,.row 9 1 0 []),(4,.bool false),(3,.bad),(2,.nil),(0,.sl n l)],[]⟩) tok bM (fP (ops:=[_]) (by rfl) hs2 _ List.mem_cons_self) H3 hm1 rfl fun gI qN w2 a3 g2=>?_));have hs3:8<=a3.tmps.size:=by rw [g2.nt];exact hs2
  have hm2:∀b,w2.heap.size<=b->m b:=fun b hb=>hm1 b (Nat.le_trans g2.fr.qJ.size hb);refine kR (md:=zt) (σ':=⟨[(6,.sl n l),(5,.row 9 1 0 []),(4,.bool false),(3,.bad),(2,.nil),(0,.sl n l)],[]⟩) tok bM (fP (ops:=[_]) (by rfl) hs3 _ List.mem_cons_self) g2.hold hm2 rfl fun aa3 bs3 w3 a4 g3=>?_;have hs4:8<=a4.tmps.size:=by rw [g3.nt];exact hs3
  have Td:∀b,w3.heap.size<=b->m b:=fun b hb=>hm2 b (Nat.le_trans g3.fr.qJ.size hb);have hok:(true && decide (0+n<=10000000000) && decide (l.length=n*1) && decide (0<1) && decide (16<=1000) && dI l && AV.ak l)=true:=by rw [h1,h2];simp only [Bool.and_true,Bool.true_and,Bool.and_eq_true,decide_eq_true_eq];exact ⟨⟨⟨oM,hl⟩,oM⟩,oM⟩
  refine kR (md:=zt) (σ':=⟨[(7,.row 9 1 (0+n) ([]++l)),(6,.sl n l),(5,.sl 0 []),(4,.bool false),(3,.bad),(2,.nil),(0,.sl n l)],[]⟩) tok bM (fP (ops:=[_]) (by rfl) hs4 _ List.mem_cons_self) g3.hold Td (Eq.trans (show _=if _=true then some _ else none from rfl) (if_pos hok)) fun aa2 bs4 w4 a5 g4=>?_;have hs5:8<=a5.tmps.size:=by rw [g4.nt];exact hs4
  have hm4:∀b,w4.heap.size<=b->m b:=fun b hb=>Td b (Nat.le_trans g4.fr.qJ.size hb);rw [Nat.zero_add,List.nil_append] at g4;refine kR (md:=zt) (σ:=⟨[(7,.row 9 1 n l),(6,.sl n l),(5,.sl 0 []),(4,.bool false),(3,.bad),(2,.nil),(0,.sl n l)],[]⟩) (σ':=⟨[(7,.sl n l),(6,.sl n l),(5,.sl 0 []),(4,.bool false),(3,.bad),(2,.row 9 1 n l),(0,.sl n l)],[]⟩) tok bM (fP (ops:=[_]) (by rfl) hs5 _ List.mem_cons_self) g4.hold hm4 rfl fun LA bs5 w5 a6 g5=>?_;refine wpList_nil (wp_ret ?_);obtain ⟨u,u1,u2⟩:=eU (T:=gW) (n:=0) (fn:=Tryz.f40) tok g5.hold (vs:=[.row 9 1 n l]) rfl;exact ⟨g5.df.trans (g4.df.trans (g3.df.trans (g2.df.trans hd2))),u,u1,u,LA,bs5,rfl,u2,g1.fr.trans (g2.fr.trans (g3.fr.trans (g4.fr.trans g5.fr))),fun i hi=>by cases hi⟩
theorem Uh:aW Tryz.prog 39 [.nil] [] .nil []:=by
 refine ⟨⟨_,rfl,rfl,rfl⟩,Nat.le_refl _,fun lim bs w vs m hvl hm H=>?_⟩;refine calls_of_wp rfl rfl ?_;have H0:=iy (nt:=8) hvl H;have hsz:8<=(vs.toArray++Array.replicate (8-vs.toArray.size) undef).size:=iw;refine wp_seq (oI (md:=zt) tok bM (fP (by rfl) hsz) (σ:=⟨[(0,.nil)],[]⟩) (σ':=⟨[(2,.nil),(0,.nil)],[]⟩) H0 hm rfl fun dN jZ w1 a1 g1=>?_);have hs1:8<=a1.tmps.size:=by rw [g1.nt];exact hsz
 have hv:=g1.hold.slot 0;rw [show (Sl _ a1 0).1=AV.nil from rfl,AV.R] at hv;have hv':a1.tmps.getD 0 undef=.slice none 0 0:=hv;refine wp_seq (wp_seq (wp_region_list (wpList_step fun K hK=>?_)));show Oper.wp _ _ _ _ _ _;refine gp (u:=.slice none 0 0) (w':=w1) ?_ (hK _ _ ?_)
 ·unfold execOp;simp [Act.eval,hv',-Array.getD_eq_getD_getElem?]
 refine wpList_step fun K hK=>?_;show Oper.wp _ _ _ _ _ _;refine gp (u:=.bool true) (w':=w1) ?_ (hK _ _ ?_)
 ·unfold execOp;have h3:((a1.put (some 3) (Value.slice none 0 0)).tmps.getD 3 undef)=.slice none 0 0:=by have:3<a1.tmps.size:=oM;simp [Act.put,this]
  simp [Act.eval,h3,-Array.getD_eq_getD_getElem?];have he:(Op.equal 25 (.slice none 0 0) (.slice none 0 0)).run Tryz.prog w1=.ok true w1:=run_equalIn_slice_nil w1 _ 25 56 none 0 0 rfl;simp [eqGuard,binOp,he]
 refine wpList_nil ?_;obtain ⟨a2,ha2⟩:∃a2,a2=(a1.put (some 3) (Value.slice none 0 0)).put (some 4) (.bool true):=⟨_,rfl⟩;have H3:aM dN jZ w1 [] (Sl [(4,.bool true),(3,.bad),(2,.nil),(0,.nil)] a2) m:=by rw [ha2];show aM dN jZ w1 [] (Sl (put (put [(2,.nil),(0,.nil)] 3 .bad) 4 (.bool true)) _) m;rw [mR (by rw [bL];omega),mR oM];exact (g1.hold.put (lh _) rfl (fun g hh=>by cases hh)).put (by rw [AV.R]) rfl (fun g hh=>by cases hh)
 have hs2:8<=a2.tmps.size:=by rw [ha2,bL,bL];exact hs1
 have hd2:a2.defers=[]:=by rw [ha2];exact g1.df
 rw [←ha2];refine wp_cond (t:=true) (kM (σ:=⟨[(4,.bool true),(3,.bad),(2,.nil),(0,.nil)],[]⟩) (.tmp 4) H3 rfl) ?_;have hm1:∀b,w1.heap.size<=b->m b:=fun b hb=>hm b (Nat.le_trans g1.fr.qJ.size hb);refine wp_seq (oI (md:=zt) tok bM (fP (by rfl) hs2) (σ:=⟨[(4,.bool true),(3,.bad),(2,.nil),(0,.nil)],[]⟩) (σ':=⟨[(4,.bool true),(3,.bad),(2,.nil),(0,.nil)],[]⟩) H3 hm1 rfl fun gI qN w2 a3 g2=>wp_ret ?_);obtain ⟨u,u1,u2⟩:=eU (T:=gW) (n:=0) (fn:=Tryz.f39) tok g2.hold (vs:=[.nil]) rfl;exact ⟨g2.df.trans hd2,u,u1,u,gI,qN,rfl,u2,g1.fr.trans g2.fr,fun i hi=>by cases hi⟩
theorem Ug:aW Tryz.prog 40 [.nil] [] .nil []:=by
 refine ⟨⟨_,rfl,rfl,rfl⟩,Nat.le_refl _,fun lim bs w vs m hvl hm H=>?_⟩;refine calls_of_wp rfl rfl ?_;have H0:=iy (nt:=8) hvl H;have hsz:8<=(vs.toArray++Array.replicate (8-vs.toArray.size) undef).size:=iw;refine wp_seq (oI (md:=zt) tok bM (fP (by rfl) hsz) (σ:=⟨[(0,.nil)],[]⟩) (σ':=⟨[(2,.nil),(0,.nil)],[]⟩) H0 hm rfl fun dN jZ w1 a1 g1=>?_);have hs1:8<=a1.tmps.size:=by rw [g1.nt];exact hsz
 have hv:=g1.hold.slot 0;rw [show (Sl _ a1 0).1=AV.nil from rfl,AV.R] at hv;have hv':a1.tmps.getD 0 undef=.slice none 0 0:=hv;refine wp_seq (wp_seq (wp_region_list (wpList_step fun K hK=>?_)));show Oper.wp _ _ _ _ _ _;refine gp (u:=.slice none 0 0) (w':=w1) ?_ (hK _ _ ?_)
 ·unfold execOp;simp [Act.eval,hv',-Array.getD_eq_getD_getElem?]
 refine wpList_step fun K hK=>?_;show Oper.wp _ _ _ _ _ _;refine gp (u:=.bool true) (w':=w1) ?_ (hK _ _ ?_)
 ·unfold execOp;have h3:((a1.put (some 3) (Value.slice none 0 0)).tmps.getD 3 undef)=.slice none 0 0:=by have:3<a1.tmps.size:=oM;simp [Act.put,this]
  simp [Act.eval,h3,-Array.getD_eq_getD_getElem?];have he:(Op.equal 32 (.slice none 0 0) (.slice none 0 0)).run Tryz.prog w1=.ok true w1:=run_equalIn_slice_nil w1 _ 32 9 none 0 0 rfl;simp [eqGuard,binOp,he]
 refine wpList_nil ?_;obtain ⟨a2,ha2⟩:∃a2,a2=(a1.put (some 3) (Value.slice none 0 0)).put (some 4) (.bool true):=⟨_,rfl⟩;have H3:aM dN jZ w1 [] (Sl [(4,.bool true),(3,.bad),(2,.nil),(0,.nil)] a2) m:=by rw [ha2];show aM dN jZ w1 [] (Sl (put (put [(2,.nil),(0,.nil)] 3 .bad) 4 (.bool true)) _) m;rw [mR (by rw [bL];omega),mR oM];exact (g1.hold.put (lh _) rfl (fun g hh=>by cases hh)).put (by rw [AV.R]) rfl (fun g hh=>by cases hh)
 have hs2:8<=a2.tmps.size:=by rw [ha2,bL,bL];exact hs1
 have hd2:a2.defers=[]:=by rw [ha2];exact g1.df
 rw [←ha2];refine wp_cond (t:=true) (kM (σ:=⟨[(4,.bool true),(3,.bad),(2,.nil),(0,.nil)],[]⟩) (.tmp 4) H3 rfl) ?_;have hm1:∀b,w1.heap.size<=b->m b:=fun b hb=>hm b (Nat.le_trans g1.fr.qJ.size hb);refine wp_seq (oI (md:=zt) tok bM (fP (by rfl) hs2) (σ:=⟨[(4,.bool true),(3,.bad),(2,.nil),(0,.nil)],[]⟩) (σ':=⟨[(4,.bool true),(3,.bad),(2,.nil),(0,.nil)],[]⟩) H3 hm1 rfl fun gI qN w2 a3 g2=>wp_ret ?_);obtain ⟨u,u1,u2⟩:=eU (T:=gW) (n:=0) (fn:=Tryz.f40) tok g2.hold (vs:=[.nil]) rfl;exact ⟨g2.df.trans hd2,u,u1,u,gI,qN,rfl,u2,g1.fr.trans g2.fr,fun i hi=>by cases hi⟩
end Ab
end
theorem acd {ops:Array Oper} {rest:List Oper} {o:Oper} {a:Act} {Q:Exit->Act->World->Prop} {w:World} (hgd:o.guard=none) (s x:Operand)
  (ho:o.op=.call {callee:=.builtin .append,args:=#[s,x],argTypes:=#[25,3]}) (n:Nat) (hs:a.eval s=.slice none 0 0) (hx:a.eval x=.int .i64 n) (h0:0<n) (hn:n<=100000)
  (h:∀(c:Nat) (cs:Array Value),cs.size=c*2->n<=c->c<=maxLen->wpList Tryz.prog ops Q rest (a.put o.dst (.slice (some ⟨w.heap.size,0,none⟩) n c)) (w.drew.alloc (.cells cs 56))):
  wpList Tryz.prog ops Q (o::rest) a w:=by
 obtain ⟨i0,hi,hz0,hz1,hz2⟩:=info_parts Tryz.LG;refine wpList_step fun K hK=>?_;rw [if_pos (by simp [Region.wanted,hgd])];have hr:=Lib.run_append_nil_zeros (P:=Tryz.prog) w 25 3 o.type 56 i0 _ .i64 .i64 Tryz.underlying25 Tryz.underlying3 hi hz0 n h0 (by rw [hz1];omega) oM (by rw [hz2];omega);have hge:=grownCap_ge w n 0 56;have Qc:n<=maxLen:=by have:(100000:Nat)<=maxLen:=dE;omega
 unfold Oper.wp execOp;simp only [ho,resolve,invoke,builtin,Sem.run_bind,Sem.run_pure,Result.andThen_ok,List.map_toArray,List.map_cons,List.map_nil,hs,hx,hr];refine hK _ _ (h _ _ ?_ hge (grownCap_le_maxLen w n 0 56 Qc));simp only [Array.size_append,size_zeroCells];show n*2+(_-n)*2=_;omega
theorem TG (n:Nat) (w:World) (hn:n<=100000):
  Calls Tryz.prog 73 #[.slice none 0 0,.int .i64 n] w fun e w'=>(n=0∧e=.returned (.slice none 0 0)∧w=w')∨(0<n∧∃(c:Nat) (cs:Array Value),e=.returned (.slice (some ⟨w.heap.size,0,none⟩) 0 c)∧w'=w.drew.alloc (.cells cs 56)∧cs.size=c*2∧c<=maxLen):=by
 have hneg:¬((n:Int)<0):=oM;by_cases h0:n=0
 ·subst h0;refine Calls.mono (R:=fun e w'=>e=.returned (.slice none 0 0)∧w=w') ?_ (fun e w' h=> .inl ⟨rfl,h.1,h.2⟩)
  go_enter Tryz.func73,Tryz.ntmps73
  go_wp2_with fail
  go_ret
  exact ⟨rfl,rfl⟩
 ·have hp:(0:Int)<n:=oM;refine Calls.mono (R:=fun e w'=>∃(c:Nat) (cs:Array Value),e=.returned (.slice (some ⟨w.heap.size,0,none⟩) 0 c)∧w'=w.drew.alloc (.cells cs 56)∧cs.size=c*2∧c<=maxLen) ?_ (fun e w' h=> .inr ⟨oM,h⟩)
  go_enter Tryz.func73,Tryz.ntmps73
  go_wp2_with (at_builtin;refine acd rfl (.tmp 20) (.tmp 21) rfl n rfl rfl oM hn ?_;intro c cs h1 h2 h3)
  go_ret
  exact ⟨c,rfl,cs,rfl,h1,h3⟩
namespace Ab
theorem aM.res {lim:Nat->Nat} {w:World} {r:AV} {u:Value} {m:Nat->Prop} (ht:∀b,w.heap.size<=b->lim b=0) (hR:AV.R lim [] w r u) (hr:r.top=true) (hg:∀g,r.isRow=true->u.ownBlock=some g->m g):aM lim [] w [] (rS r u) m:=by
 have hk:∀k g,Own w [] [] (rS r u) (.t k) g->k=0∧r.isRow=true∧u.ownBlock=some g:=by
  intro k g hp;obtain ⟨p1,p2⟩:=hp;unfold rS at p1 p2;split at p1
  ·rename_i hk;rw [if_pos hk] at p2;exact ⟨hk,p1,p2⟩
  ·cases p1
 have hb:∀i j g,¬Own w [] [] (rS r u) (.b i j) g:=by rintro i j g ⟨b,x,y,v,p1,-⟩;simp at p1
 refine ⟨rfl,List.nodup_nil,(fun b hb=>by cases hb),(fun b hb=>by cases hb),(fun i b x hi=>by simp at hi),fun k=>?_,fun k=>?_,ht,fun p g hp=>?_,fun p q g hp hq=>?_⟩
 ·unfold rS;split
  ·exact hR
  ·exact lh _
 ·unfold rS;split
  ·exact hr
  ·rfl
 ·cases p with
  |t k=>
   obtain ⟨-,h1,h2⟩:=hk k g hp;exact ⟨hg g h1 h2,fun hb=>by cases hb⟩
  |b i j=>exact absurd hp (hb i j g)
 ·cases p with
  |t k=>
   cases q with
   |t k2=>rw [(hk k g hp).1,(hk k2 g hq).1]
   |b i j=>exact absurd hq (hb i j g)
  |b i j=>exact absurd hp (hb i j g)
theorem DX {lim:Nat->Nat} {bs:List Nat} {w:World} {m:Nat->Prop} {bx:List (List AV)} {args:List AV} {vs:List Value} (hl:vs.length=args.length) (H:aM lim bs w bx (aS args vs) m):AV.Rs lim bs w args vs:=by refine sQ hl fun i x v hx hv=>?_;have h:=H.slot i;have h':AV.R lim bs w (args.getD i .bad) (vs.getD i undef):=h;rw [List.getD_eq_getElem?_getD,List.getD_eq_getElem?_getD,hx,hv] at h';exact h'
set_option maxRecDepth 100000 in
theorem abE (n:Nat) (hn:n<=100000):aW Tryz.prog 73 [.nil,.int .i64 n] [] (if n=0 then .nil else .row 56 2 0 []) []:=by
 refine ⟨⟨_,rfl,rfl,rfl⟩,Nat.le_refl _,fun lim bs w vs m hvl hm H=>?_⟩;have hbs:bs=[]:=List.eq_nil_of_length_eq_zero (by rw [H.len];rfl);subst hbs;have hvs:vs=[.slice none 0 0,.int .i64 n]:=by have h:=DX hvl H;simp only [AV.Rs,AV.R] at h;obtain ⟨v,r,rfl,rfl,v2,r2,rfl,rfl,rfl⟩:=h;rfl
 subst hvs;refine (TG n w hn).mono ?_;rintro e w' (⟨h0,rfl,rfl⟩|⟨h0,c,cs,rfl,rfl,h1,h2⟩)
 ·rw [if_pos h0];exact ⟨_,lim,[],rfl,aM.res H.top (by rw [AV.R]) rfl (fun g hh=>by cases hh),Fr.refl,fun i hi=>rfl⟩
 ·rw [if_neg oM];have hs:(w.drew.alloc (.cells cs 56)).heap.size=w.heap.size+1:=by simp
  have hfr:Fr m lim w lim (w.drew.alloc (.cells cs 56)):=by have hold:∀b,b<w.heap.size->(w.drew.alloc (.cells cs 56)).heap[b]?=w.heap[b]?:=fun b hb=>heap_alloc_old w.drew _ hb;exact ⟨((Below.refl 0 w).drew).alloc (Nat.zero_le _) _,fun b hb _=>⟨hold b hb,rfl⟩,fun _ _=>Nat.le_refl _,fun b j hb _=>World.cell?_of_block (hold b hb),fun b cur e p h=>⟨cur,(hold b (di h)).trans h,rfl⟩⟩
  refine ⟨_,lim,[],rfl,aM.res (fun b hb=>H.top b oM) (ES (V:=cs) (Nat.zero_mul _).symm rfl (heap_alloc_new w.drew _) (Nat.zero_le _) h2 h1 (H.top _ (Nat.le_refl _)) ⟨[],by rw [AV.Rs],by rw [Nat.zero_mul,List.take_zero]⟩) rfl (fun g _ hg=>?_),hfr,fun i hi=>rfl⟩;have hg':w.heap.size=g:=by simpa [Value.ownBlock] using hg
  exact hm _ oM
end Ab
section
open Bk (Cm)
theorem Bc.aag {B:Nat} {v:Value} {l:List Cm} {w:World} (h:Bc B v l w):∃a cp,v=.slice a l.length cp∧Ve w (fun i=>B<=i) l a∧l.length<=cp:=by
 obtain ⟨a,cp,hv,hs⟩:=h.slice;refine ⟨a,cp,hv,hs,?_⟩;rcases h.2 with ⟨hv2,h0⟩|⟨g,cap,cur,hv2,hg,hgb,hn,hm,hs,ht⟩
 ·omega
 ·rw [hv] at hv2;cases hv2;exact hn
def uy (r:Option (List Cm×Bool×Nat)) (w:World) (e:Ending) (w':World):Prop:=
 match r with
 |some (l,same,p)=>(∃a cp,e=.returned (.tuple #[.slice a l.length cp,.bool same,.int .i64 p,.int .i64 0])∧Ve w' (fun i=>w.heap.size<=i) l a∧l.length<=cp)∧Below w.heap.size w w'
 |none=>(∃p c:Int,e=.returned (.tuple #[.slice none 0 0,.bool false,.int .i64 p,.int .i64 c])∧(c=4∨c=5))∧Below w.heap.size w w'
theorem zg {r:Option (List Cm×Bool×Nat)} {l:List Cm} {same:Bool} {p n cp:Nat} {a:Option Addr} {w w':World} (hr:r=some (l,same,p)) (hn:n=l.length) (hs:Ve w' (fun i=>w.heap.size<=i) l a∧l.length<=cp) (hb:Below w.heap.size w w'):
  uy r w (.returned (.tuple #[.slice a n cp,.bool same,.int .i64 p,.int .i64 0])) w':=by subst hr hn;exact ⟨⟨a,cp,rfl,hs⟩,hb⟩
theorem DD {r:Option (List Cm×Bool×Nat)} {p c:Int} {w w':World} (hr:r=none) (hc:c=4∨c=5) (hb:Below w.heap.size w w'):
  uy r w (.returned (.tuple #[.slice none 0 0,.bool false,.int .i64 p,.int .i64 c])) w':=by subst hr;exact ⟨⟨p,c,rfl,hc⟩,hb⟩
set_option maxRecDepth 100000 in
theorem Kh (s:ByteArray) (q:Nat) (n:Int) (wi:Bool) (w:World) (hs:s.size<=1000000) (hq:q<=s.size):
  Calls Tryz.prog 60 #[.string s,.int .i64 q,.int .i64 n,.bool wi] w (uy (Bk.qE s q n wi) w):=by
 have hb:=get_bt s;have hh:Bk.aY s (q:Int)=q:=by unfold Bk.aY;omega
 obtain ⟨R,hR⟩:∃R,R=Bk.qE s q n wi:=⟨_,rfl⟩;rw [←hR];obtain ⟨m0,hm0⟩:∃m0,m0=decide (q=Bk.bG s q):=⟨_,rfl⟩;obtain ⟨f0,hf0⟩:∃f0,f0=Bk.bG s q:=⟨_,rfl⟩;obtain ⟨t0,ht0⟩:∃t0,t0=Bk.l7 s q:=⟨_,rfl⟩;have HR:Hid (R=Bk.jw s q n wi (s.size+1) q m0 f0 [] false):=Lib.hid (by rw [hR,hm0,hf0];rfl);have agP:m0=decide (q=f0):=by rw [hm0,hf0]
 have hmm:((q:Int)==(f0:Int))=m0:=by rw [agP,Bool.eq_iff_iff];simp;omega
 have X5:=Lib.hid hf0;have HT0:=Lib.hid ht0;have HH:=Lib.hid hh;have hmx:max 0 (min (q:Int) (s.size:Int))=q:=oM;clear hR hm0 hf0 ht0 hh agP
 go_enter Tryz.func60,Tryz.ntmps60
 go_wp2_with (go_at_call 32;refine (dh s _ _ oM).mono ?_;rintro e w' ⟨rfl,rfl⟩;rw [HH.out,←X5.out,←HT0.out])
 have HV0:=Lib.hid (Ub w.heap.size w);have HW0:=Lib.hid (Below.refl w.heap.size w)
 go_loopg [12,13,14,15,16,17] (s.size-q) (fun g v row tt same p met wr=>∃(l:List Cm) (rw':Nat) (t':Int) (sm:Bool) (k:Nat) (mt:Bool) (f:Nat),g=s.size-k∧k<=s.size∧s.size+1<=k+f∧l.length<=k∧row=.int .i64 rw'∧tt=.int .i64 t'∧same=.bool sm∧p=.int .i64 k∧met=.bool mt∧Hid (R=Bk.jw s q n wi f k mt rw' l sm)∧Hid (Bc w.heap.size v l wr)∧Hid (Below w.heap.size w wr))
 case atStart=>exact ⟨[],f0,t0,false,q,m0,s.size+1,rfl,hq,oM,by show 0<=q;omega,rfl,rfl,rfl,rfl,rfl,HR,HV0,HW0⟩
 case round=>
  obtain ⟨l,row,tt,same,p,met,f,rfl,hp,hf,hlp,rfl,rfl,rfl,rfl,rfl,HRR,HV,HW⟩:=hrel;obtain ⟨av,cv,hv,hsl⟩:=HV.out.aag;subst hv;have HSL:=Lib.hid hsl;obtain ⟨L,hL⟩:∃L,L=l.length:=⟨_,rfl⟩;rw [←hL] at hlp HV⊢;have Hr:=Lib.hid hL;have HV2:Hid (Bc w.heap.size (.slice av L cv) l wr):=HV;clear hsl hL;by_cases hlt:p<s.size
  ·obtain ⟨f,rfl⟩:∃g,f=g+1:=⟨f-1,oM⟩;obtain ⟨fp,hfp⟩:∃fp,fp=Bk.bG s p:=⟨_,rfl⟩;obtain ⟨tp,htp⟩:∃tp,tp=Bk.l7 s p:=⟨_,rfl⟩;have ak0:=Bk.fT s p;have akM:=Bk.rM s p;have abl:=Bk.tC (s:=s) (k:=p) oM;rw [←hfp] at ak0;rw [←htp] at akM abl;have hhp:Bk.aY s (p:Int)=p:=by unfold Bk.aY;omega
   have zx:=Lib.hid hhp;have Ht:=Lib.hid hfp;have D7:=Lib.hid htp;have HFT:Hid (fp<=tp):=Lib.hid oM;have HTZ:Hid (tp<=s.size):=Lib.hid abl;clear hfp htp hhp
   go_upto_if 41 with fail
   go_cut [13,14,17] (fun aj1 ttv aku wx=>wr=wx∧∃(DZ:Nat) (t':Int),aj1=.int .i64 DZ∧ttv=.int .i64 t'∧aku=.bool false∧Hid (R=if Bk.cZ (bt s p)=true then Bk.jw s q n wi f (p+1) false DZ l same
    else if bt s p=10 then Bk.jw s q n wi f (p+1) true DZ l same
    else if Bk.oV s p=true then Bk.jw s q n wi f tp false DZ (l++[Bk.vF s p]) (if L=0 then decide (f0≠q) && decide (f0=DZ) else same)
    else some (l,same,p)))
   case first=>
    cases met with
    |false=>
     have H2:Hid (R=if Bk.cZ (bt s p)=true then Bk.jw s q n wi f (p+1) false row l same
      else if bt s p=10 then Bk.jw s q n wi f (p+1) true row l same
      else if Bk.oV s p=true then Bk.jw s q n wi f tp false row (l++[Bk.vF s p]) (if L=0 then decide (f0≠q) && decide (f0=row) else same)
      else some (l,same,p)):=Lib.hid (by rw [HRR.out,Bk.jw,if_pos hlt,X5.out,Hr.out,D7.out];simp)
     go_wp2_with fail
     go_meet
     exact ⟨rfl,row,tt,rfl,rfl,rfl,H2⟩
    |true=>
     obtain ⟨K,hK⟩:∃K,Bk.eD s p=K:=⟨_,rfl⟩;have X4:=Lib.hid hK;by_cases TE:K=3∨K=4
     ·have hr:R=(if wi=true∧p≠q then none else some (l,same,p)):=by rw [HRR.out,Bk.jw,if_pos hlt,if_pos ⟨rfl,by rw [hK];exact TE⟩]
      clear hK;cases wi with
      |false=>
       have HE:Hid (R=some (l,same,p)):=Lib.hid (by rw [hr];rfl);clear hr;rcases TE with rfl|rfl
       all_goals
        go_wp2_with first
         |(go_at_call 32;(with_reducible refine (dh s p _ oM).mono ?_);rintro e w' ⟨rfl,rfl⟩;rw [zx.out,←Ht.out,←D7.out])
         |(go_at_call 30;refine (iL s _ _ oM).mono ?_;rintro e w' ⟨rfl,rfl⟩;rw [zx.out,X4.out])
        (try simp only [Exit.inBlock,Exit.then])
        refine bodyPost_ret (fH rfl _ _ _) rfl ?_;exact zg HE.out Hr.out HSL.out HW.out
      |true=>
       by_cases hpq:p=q
       ·have HE:Hid (R=some (l,same,p)):=Lib.hid (by rw [hr,if_neg (fun h=>h.2 hpq)]);have e1:((p:Int) !=(q:Int))=false:=by simp;omega
        clear hr hpq;rcases TE with rfl|rfl
        all_goals
         go_wp2_with first
          |(go_at_call 32;(with_reducible refine (dh s p _ oM).mono ?_);rintro e w' ⟨rfl,rfl⟩;rw [zx.out,←Ht.out,←D7.out])
          |(go_at_call 30;refine (iL s _ _ oM).mono ?_;rintro e w' ⟨rfl,rfl⟩;rw [zx.out,X4.out])
         (try simp only [Exit.inBlock,Exit.then])
         refine bodyPost_ret (fH rfl _ _ _) rfl ?_;exact zg HE.out Hr.out HSL.out HW.out
       ·have HE:Hid (R=none):=Lib.hid (by rw [hr,if_pos ⟨rfl,hpq⟩]);have e1:((p:Int) !=(q:Int))=true:=by simp;omega
        clear hr hpq;rcases TE with rfl|rfl
        all_goals
         go_wp2_with first
          |(go_at_call 32;(with_reducible refine (dh s p _ oM).mono ?_);rintro e w' ⟨rfl,rfl⟩;rw [zx.out,←Ht.out,←D7.out])
          |(go_at_call 30;refine (iL s _ _ oM).mono ?_;rintro e w' ⟨rfl,rfl⟩;rw [zx.out,X4.out])
         (try simp only [Exit.inBlock,Exit.then])
         refine bodyPost_ret (fH rfl _ _ _) rfl ?_;exact DD HE.out (.inr rfl) HW.out
     ·by_cases hK5:K=5
      ·subst hK5;cases wi with
       |false=>
        obtain ⟨tb,htb⟩:∃tb,Bk.IA s fp tp=tb:=⟨_,rfl⟩;have HTB:=Lib.hid htb;by_cases agC:0<=tb
        ·have HE:Hid (R=none):=Lib.hid (by rw [HRR.out,Bk.jw,if_pos hlt,if_neg (by rw [hK];exact fun h=>by omega),if_pos ⟨rfl,hK,rfl,by rw [←Ht.out,←D7.out,htb];exact agC⟩]);clear hK htb
         go_wp2_with first
          |(go_at_call 32;(with_reducible refine (dh s p _ oM).mono ?_);rintro e w' ⟨rfl,rfl⟩;rw [zx.out,←Ht.out,←D7.out])
          |(go_at_call 30;refine (iL s _ _ oM).mono ?_;rintro e w' ⟨rfl,rfl⟩;rw [zx.out,X4.out])
          |(go_at_call 87;refine (M8 s fp tp _ oM HFT.out HTZ.out).mono ?_;rintro e w' ⟨rfl,rfl⟩;rw [HTB.out])
         (try simp only [Exit.inBlock,Exit.then])
         refine bodyPost_ret (fH rfl _ _ _) rfl ?_;exact DD HE.out (.inl rfl) HW.out
        ·have hn1:¬(true=true∧(Bk.eD s p=3∨Bk.eD s p=4)):=by rw [hK];omega
         have hn2:¬(true=true∧Bk.eD s p=5∧false=false∧0<=Bk.IA s (Bk.bG s p) (Bk.l7 s p)):=by rw [←Ht.out,←D7.out,htb];exact fun h=>agC h.2.2.2
         have AX:¬(true=true∧Bk.eD s p=5∧false=true∧p≠q∧(Bk.LJ s p:Int)<=n):=fun h=>by cases h.2.2.1
         have H2:Hid (R=if Bk.cZ (bt s p)=true then Bk.jw s q n false f (p+1) false fp l same
          else if bt s p=10 then Bk.jw s q n false f (p+1) true fp l same
          else if Bk.oV s p=true then Bk.jw s q n false f tp false fp (l++[Bk.vF s p]) (if L=0 then decide (f0≠q) && decide (f0=fp) else same)
          else some (l,same,p)):=Lib.hid (by rw [HRR.out,Bk.jw,if_pos hlt,X5.out,Hr.out,D7.out];rw [if_neg hn1,if_neg hn2,if_neg AX,if_pos rfl,←Ht.out])
         clear hK htb hn1 hn2 AX
         go_wp2_with first
          |(go_at_call 32;(with_reducible refine (dh s p _ oM).mono ?_);rintro e w' ⟨rfl,rfl⟩;rw [zx.out,←Ht.out,←D7.out])
          |(go_at_call 30;refine (iL s _ _ oM).mono ?_;rintro e w' ⟨rfl,rfl⟩;rw [zx.out,X4.out])
          |(go_at_call 87;refine (M8 s fp tp _ oM HFT.out HTZ.out).mono ?_;rintro e w' ⟨rfl,rfl⟩;rw [HTB.out])
         go_meet
         exact ⟨rfl,fp,tp,rfl,rfl,rfl,H2⟩
       |true=>
        by_cases hpq:p=q
        ·have hn1:¬(true=true∧(Bk.eD s p=3∨Bk.eD s p=4)):=by rw [hK];omega
         have hn2:¬(true=true∧Bk.eD s p=5∧true=false∧0<=Bk.IA s (Bk.bG s p) (Bk.l7 s p)):=fun h=>by cases h.2.2.1
         have AX:¬(true=true∧Bk.eD s p=5∧true=true∧p≠q∧(Bk.LJ s p:Int)<=n):=fun h=>h.2.2.2.1 hpq;have e0:((p:Int) !=(q:Int))=false:=by simp;omega
         have H2:Hid (R=if Bk.cZ (bt s p)=true then Bk.jw s q n true f (p+1) false fp l same
          else if bt s p=10 then Bk.jw s q n true f (p+1) true fp l same
          else if Bk.oV s p=true then Bk.jw s q n true f tp false fp (l++[Bk.vF s p]) (if L=0 then decide (f0≠q) && decide (f0=fp) else same)
          else some (l,same,p)):=Lib.hid (by rw [HRR.out,Bk.jw,if_pos hlt,X5.out,Hr.out,D7.out];rw [if_neg hn1,if_neg hn2,if_neg AX,if_pos rfl,←Ht.out])
         clear hK hn1 hn2 AX hpq
         go_wp2_with first
          |(go_at_call 32;(with_reducible refine (dh s p _ oM).mono ?_);rintro e w' ⟨rfl,rfl⟩;rw [zx.out,←Ht.out,←D7.out])
          |(go_at_call 30;refine (iL s _ _ oM).mono ?_;rintro e w' ⟨rfl,rfl⟩;rw [zx.out,X4.out])
         go_meet
         exact ⟨rfl,fp,tp,rfl,rfl,rfl,H2⟩
        ·have e0:((p:Int) !=(q:Int))=true:=by simp;omega
         obtain ⟨iN,WM⟩:∃iN,iN=Bk.LJ s p:=⟨_,rfl⟩;have HIN:=Lib.hid WM;by_cases hin:(iN:Int)<=n
         ·have HE:Hid (R=none):=Lib.hid (by rw [HRR.out,Bk.jw,if_pos hlt,if_neg (by rw [hK];exact fun h=>by omega),if_neg (fun h=>by cases h.2.2.1),if_pos ⟨rfl,hK,rfl,hpq,by rw [←WM];exact hin⟩]);clear hK WM hpq
          go_wp2_with first
           |(go_at_call 32;(with_reducible refine (dh s p _ oM).mono ?_);rintro e w' ⟨rfl,rfl⟩;rw [zx.out,←Ht.out,←D7.out])
           |(go_at_call 30;refine (iL s _ _ oM).mono ?_;rintro e w' ⟨rfl,rfl⟩;rw [zx.out,X4.out])
           |(go_at_call 88;refine (F7 s _ _ oM).mono ?_;rintro e w' ⟨rfl,rfl⟩;rw [zx.out,←HIN.out])
           |(go_at_call 33;refine (lN s fp tp _ oM HTZ.out).mono ?_;rintro e w' ⟨rfl,rfl⟩)
          (try simp only [Exit.inBlock,Exit.then])
          refine bodyPost_ret (fH rfl _ _ _) rfl ?_;exact DD HE.out (.inr rfl) HW.out
         ·have hn1:¬(true=true∧(Bk.eD s p=3∨Bk.eD s p=4)):=by rw [hK];omega
          have hn2:¬(true=true∧Bk.eD s p=5∧true=false∧0<=Bk.IA s (Bk.bG s p) (Bk.l7 s p)):=fun h=>by cases h.2.2.1
          have AX:¬(true=true∧Bk.eD s p=5∧true=true∧p≠q∧(Bk.LJ s p:Int)<=n):=fun h=>hin (by rw [WM];exact h.2.2.2.2);have H2:Hid (R=if Bk.cZ (bt s p)=true then Bk.jw s q n true f (p+1) false fp l same
           else if bt s p=10 then Bk.jw s q n true f (p+1) true fp l same
           else if Bk.oV s p=true then Bk.jw s q n true f tp false fp (l++[Bk.vF s p]) (if L=0 then decide (f0≠q) && decide (f0=fp) else same)
           else some (l,same,p)):=Lib.hid (by rw [HRR.out,Bk.jw,if_pos hlt,X5.out,Hr.out,D7.out];rw [if_neg hn1,if_neg hn2,if_neg AX,if_pos rfl,←Ht.out])
          clear hK WM hn1 hn2 AX hpq
          go_wp2_with first
           |(go_at_call 32;(with_reducible refine (dh s p _ oM).mono ?_);rintro e w' ⟨rfl,rfl⟩;rw [zx.out,←Ht.out,←D7.out])
           |(go_at_call 30;refine (iL s _ _ oM).mono ?_;rintro e w' ⟨rfl,rfl⟩;rw [zx.out,X4.out])
           |(go_at_call 88;refine (F7 s _ _ oM).mono ?_;rintro e w' ⟨rfl,rfl⟩;rw [zx.out,←HIN.out])
          go_meet
          exact ⟨rfl,fp,tp,rfl,rfl,rfl,H2⟩
      ·have hn1:¬(true=true∧(Bk.eD s p=3∨Bk.eD s p=4)):=by rw [hK];exact fun h=>TE h.2
       have hn2:¬(true=true∧Bk.eD s p=5∧wi=false∧0<=Bk.IA s (Bk.bG s p) (Bk.l7 s p)):=fun h=>hK5 (by rw [←hK];exact h.2.1);have AX:¬(true=true∧Bk.eD s p=5∧wi=true∧p≠q∧(Bk.LJ s p:Int)<=n):=fun h=>hK5 (by rw [←hK];exact h.2.1);have k3:(K==3)=false:=by simp;omega
       have k4:(K==4)=false:=by simp;omega
       have k5:(K==5)=false:=by simp;omega
       have H2:Hid (R=if Bk.cZ (bt s p)=true then Bk.jw s q n wi f (p+1) false fp l same
        else if bt s p=10 then Bk.jw s q n wi f (p+1) true fp l same
        else if Bk.oV s p=true then Bk.jw s q n wi f tp false fp (l++[Bk.vF s p]) (if L=0 then decide (f0≠q) && decide (f0=fp) else same)
        else some (l,same,p)):=Lib.hid (by rw [HRR.out,Bk.jw,if_pos hlt,X5.out,Hr.out,D7.out];rw [if_neg hn1,if_neg hn2,if_neg AX,if_pos rfl,←Ht.out])
       clear hK hn1 hn2 AX
       go_wp2_with first
        |(go_at_call 32;(with_reducible refine (dh s p _ oM).mono ?_);rintro e w' ⟨rfl,rfl⟩;rw [zx.out,←Ht.out,←D7.out])
        |(go_at_call 30;refine (iL s _ _ oM).mono ?_;rintro e w' ⟨rfl,rfl⟩;rw [zx.out,X4.out])
       go_meet
       exact ⟨rfl,fp,tp,rfl,rfl,rfl,H2⟩
   case rest=>
    obtain ⟨rfl,DZ,t',rfl,rfl,rfl,H2⟩:=hcut;cases Va:Bk.cZ (bt s p) with
    |true=>
     have ZL:=Lib.hid Va;have H3:Hid (R=Bk.jw s q n wi f (p+1) false DZ l same):=Lib.hid (by rw [H2.out,if_pos Va]);clear Va
     go_wp2_with first
      |(go_at_call 63;refine (dH _ _).mono ?_;rintro e w' ⟨rfl,rfl⟩;rw [ZL.out])
     go_roundg (s.size-(p+1))
     case measure=>omega
     case rel=>exact ⟨l,DZ,_,same,p+1,false,f,oM,oM,oM,by rw [←Hr.out];omega,rfl,rfl,rfl,by go_num,rfl,H3,HV2,HW⟩
    |false=>
     have ZL:=Lib.hid Va;by_cases h10:bt s p=10
     ·have q10:(bt s p==10)=true:=by simp [h10]
      have W10:Bk.cZ 10=false:=rfl;have H3:Hid (R=Bk.jw s q n wi f (p+1) true DZ l same):=Lib.hid (by rw [H2.out,if_neg (by rw [Va];decide),if_pos h10]);clear Va
      go_wp2_with first
       |(go_at_call 63;refine (dH _ _).mono ?_;rintro e w' ⟨rfl,rfl⟩;first|rw [ZL.out]|rw [W10])
      go_roundg (s.size-(p+1))
      case measure=>omega
      case rel=>exact ⟨l,DZ,_,same,p+1,true,f,oM,oM,oM,by rw [←Hr.out];omega,rfl,rfl,rfl,by go_num,rfl,H3,HV2,HW⟩
     ·have q10:(bt s p==10)=false:=by simp [h10]
      cases hnt:Bk.oV s p with
      |true=>
       have HNT:=Lib.hid hnt;have htm:=Bk.M5 hlt h10;rw [←D7.out] at htm;have hez:=Bk.QW s (p+1) tp abl;have HCZ:Hid ((s.extract (p+1) tp).size<=1000000000):=Lib.hid (by rw [hez];omega);have HCM:Hid (Bk.vF s p=⟨Bk.Eo (s.extract (p+1) tp),Bk.lQ s p⟩):=Lib.hid (by unfold Bk.vF;rw [D7.out]);have h3:R=Bk.jw s q n wi f tp false DZ (l++[Bk.vF s p]) (if L=0 then decide (f0≠q) && decide (f0=DZ) else same):=by rw [H2.out,if_neg (by rw [Va];decide),if_neg h10,if_pos hnt]
       clear Va hnt;by_cases hL0:L=0
       ·rw [if_pos hL0] at h3;subst hL0;by_cases hfq:f0=q
        ·have H3:Hid (R=Bk.jw s q n wi f tp false DZ (l++[Bk.vF s p]) false):=Lib.hid (by rw [h3];simp [hfq]);have e1:((f0:Int) !=(q:Int))=false:=by simp;omega
         clear h3 hfq
         go_wp2_with first
          |(go_at_call 32;(with_reducible refine (dh s p _ oM).mono ?_);rintro e w' ⟨rfl,rfl⟩;rw [zx.out,←Ht.out,←D7.out])
          |(go_at_call 32;(with_reducible refine (dh s q _ oM).mono ?_);rintro e w' ⟨rfl,rfl⟩;rw [HH.out,←X5.out,←HT0.out])
          |(go_at_call 63;refine (dH _ _).mono ?_;rintro e w' ⟨rfl,rfl⟩;rw [ZL.out])
          |(go_at_call 89;refine (uY s p _ oM hlt).mono ?_;rintro e w' ⟨rfl,rfl⟩;rw [HNT.out])
          |(go_at_call 34;refine (y5 _ _ HCZ.out).mono ?_;rintro e w' ⟨rfl,rfl⟩)
          |(go_at_call 90;refine (ql s _ _ oM).mono ?_;rintro e w' ⟨rfl,rfl⟩;rw [zx.out])
          |(at_builtin;refine Ha (w0:=w) rfl (.tmp 145) (.tmp 156) rfl _ l (Bk.vF s p) rfl rfl HV (by rw [←Hr.out];omega) (by rw [HCM.out]) HW ?_;intro v3 w3 HV3 HW3)
         go_roundg (s.size-tp)
         case measure=>omega
         case rel=>exact ⟨_,DZ,_,false,tp,false,f,oM,oM,oM,by rw [List.length_append,←Hr.out];show 0+1<=tp;omega,rfl,rfl,rfl,rfl,rfl,H3,HV3,HW3⟩
        ·by_cases hfr:f0=DZ
         ·have H3:Hid (R=Bk.jw s q n wi f tp false DZ (l++[Bk.vF s p]) true):=Lib.hid (by rw [h3,decide_eq_true hfq,decide_eq_true hfr];rfl);have e1:((f0:Int) !=(q:Int))=true:=by simp;omega
          have e2:((f0:Int)==(DZ:Int))=true:=by simp;omega
          clear h3 hfq hfr
          go_wp2_with first
           |(go_at_call 32;(with_reducible refine (dh s p _ oM).mono ?_);rintro e w' ⟨rfl,rfl⟩;rw [zx.out,←Ht.out,←D7.out])
           |(go_at_call 32;(with_reducible refine (dh s q _ oM).mono ?_);rintro e w' ⟨rfl,rfl⟩;rw [HH.out,←X5.out,←HT0.out])
           |(go_at_call 63;refine (dH _ _).mono ?_;rintro e w' ⟨rfl,rfl⟩;rw [ZL.out])
           |(go_at_call 89;refine (uY s p _ oM hlt).mono ?_;rintro e w' ⟨rfl,rfl⟩;rw [HNT.out])
           |(go_at_call 34;refine (y5 _ _ HCZ.out).mono ?_;rintro e w' ⟨rfl,rfl⟩)
           |(go_at_call 90;refine (ql s _ _ oM).mono ?_;rintro e w' ⟨rfl,rfl⟩;rw [zx.out])
           |(at_builtin;refine Ha (w0:=w) rfl (.tmp 145) (.tmp 156) rfl _ l (Bk.vF s p) rfl rfl HV (by rw [←Hr.out];omega) (by rw [HCM.out]) HW ?_;intro v3 w3 HV3 HW3)
          go_roundg (s.size-tp)
          case measure=>omega
          case rel=>exact ⟨_,DZ,_,true,tp,false,f,oM,oM,oM,by rw [List.length_append,←Hr.out];show 0+1<=tp;omega,rfl,rfl,by first|rfl|rw [e2]|(rw [e1,e2];rfl),rfl,rfl,H3,HV3,HW3⟩
         ·have H3:Hid (R=Bk.jw s q n wi f tp false DZ (l++[Bk.vF s p]) false):=Lib.hid (by rw [h3,decide_eq_true hfq,decide_eq_false hfr];rfl);have e1:((f0:Int) !=(q:Int))=true:=by simp;omega
          have e2:((f0:Int)==(DZ:Int))=false:=by simp;omega
          clear h3 hfq hfr
          go_wp2_with first
           |(go_at_call 32;(with_reducible refine (dh s p _ oM).mono ?_);rintro e w' ⟨rfl,rfl⟩;rw [zx.out,←Ht.out,←D7.out])
           |(go_at_call 32;(with_reducible refine (dh s q _ oM).mono ?_);rintro e w' ⟨rfl,rfl⟩;rw [HH.out,←X5.out,←HT0.out])
           |(go_at_call 63;refine (dH _ _).mono ?_;rintro e w' ⟨rfl,rfl⟩;rw [ZL.out])
           |(go_at_call 89;refine (uY s p _ oM hlt).mono ?_;rintro e w' ⟨rfl,rfl⟩;rw [HNT.out])
           |(go_at_call 34;refine (y5 _ _ HCZ.out).mono ?_;rintro e w' ⟨rfl,rfl⟩)
           |(go_at_call 90;refine (ql s _ _ oM).mono ?_;rintro e w' ⟨rfl,rfl⟩;rw [zx.out])
           |(at_builtin;refine Ha (w0:=w) rfl (.tmp 145) (.tmp 156) rfl _ l (Bk.vF s p) rfl rfl HV (by rw [←Hr.out];omega) (by rw [HCM.out]) HW ?_;intro v3 w3 HV3 HW3)
          go_roundg (s.size-tp)
          case measure=>omega
          case rel=>exact ⟨_,DZ,_,false,tp,false,f,oM,oM,oM,by rw [List.length_append,←Hr.out];show 0+1<=tp;omega,rfl,rfl,by first|rfl|rw [e2]|(rw [e1,e2];rfl),rfl,rfl,H3,HV3,HW3⟩
       ·rw [if_neg hL0] at h3;have H3:=Lib.hid h3;clear h3
        go_wp2_with first
         |(go_at_call 32;(with_reducible refine (dh s p _ oM).mono ?_);rintro e w' ⟨rfl,rfl⟩;rw [zx.out,←Ht.out,←D7.out])
         |(go_at_call 63;refine (dH _ _).mono ?_;rintro e w' ⟨rfl,rfl⟩;rw [ZL.out])
         |(go_at_call 89;refine (uY s p _ oM hlt).mono ?_;rintro e w' ⟨rfl,rfl⟩;rw [HNT.out])
         |(go_at_call 34;refine (y5 _ _ HCZ.out).mono ?_;rintro e w' ⟨rfl,rfl⟩)
         |(go_at_call 90;refine (ql s _ _ oM).mono ?_;rintro e w' ⟨rfl,rfl⟩;rw [zx.out])
         |(at_builtin;refine Ha (w0:=w) rfl (.tmp 145) (.tmp 156) rfl _ l (Bk.vF s p) rfl rfl HV (by rw [←Hr.out];omega) (by rw [HCM.out]) HW ?_;intro v3 w3 HV3 HW3)
        go_roundg (s.size-tp)
        case measure=>omega
        case rel=>exact ⟨_,DZ,_,same,tp,false,f,oM,oM,oM,by rw [List.length_append,←Hr.out];show L+1<=tp;omega,rfl,rfl,rfl,rfl,rfl,H3,HV3,HW3⟩
      |false=>
       have HNT:=Lib.hid hnt;have HE:Hid (R=some (l,same,p)):=Lib.hid (by rw [H2.out,if_neg (by rw [Va];decide),if_neg h10,if_neg (by rw [hnt];decide)]);clear Va hnt
       go_wp2_with first
        |(go_at_call 63;refine (dH _ _).mono ?_;rintro e w' ⟨rfl,rfl⟩;rw [ZL.out])
        |(go_at_call 89;refine (uY s p _ oM hlt).mono ?_;rintro e w' ⟨rfl,rfl⟩;rw [HNT.out])
       (try simp only [Exit.inBlock,Exit.then])
       refine bodyPost_ret (fH rfl _ _ _) rfl ?_;exact zg HE.out Hr.out HSL.out HW.out
  ·have HE:Hid (R=some (l,same,p)):=Lib.hid (by
    obtain ⟨f,rfl⟩:∃g,f=g+1:=⟨f-1,oM⟩;rw [HRR.out,Bk.jw,if_neg hlt])
   go_wp2_with fail
   (try simp only [Exit.inBlock,Exit.then])
   refine bodyPost_ret (fH rfl _ _ _) rfl ?_;exact zg HE.out Hr.out HSL.out HW.out
theorem G7 (s:ByteArray) (q:Nat) (n:Int) (wi:Bool) (r:Option (List Cm×Bool×Nat)) (w:World) (hs:s.size<=1000000) (hq:q<=s.size) (hr:Bk.qE s q n wi=r):
  Calls Tryz.prog 60 #[.string s,.int .i64 q,.int .i64 n,.bool wi] w (uy r w):=by subst hr;exact Kh s q n wi w hs hq
theorem QV (s:ByteArray) (q:Nat) (w:World) (hs:s.size<=1000000) (hq:q<=s.size):
  Calls Tryz.prog 29 #[.string s,.int .i64 q] w (uy (Bk.qE s q 0 false) w):=by
 cases hr:Bk.qE s q 0 false with
 |none=>
  go_enter Tryz.func29,Tryz.ntmps29
  go_wp2_with (go_at_call 60;refine (G7 s q 0 false _ _ hs hq hr).mono ?_;rintro e w1 ⟨⟨p,c,rfl,hc⟩,hb⟩)
  (try simp only [Exit.inBlock,Exit.then])
  refine bodyPost_ret (fH rfl _ _ _) rfl ?_;exact ⟨⟨p,c,rfl,hc⟩,hb⟩
 |some x=>
  obtain ⟨l,same,p⟩:=x
  go_enter Tryz.func29,Tryz.ntmps29
  go_wp2_with (go_at_call 60;refine (G7 s q 0 false _ _ hs hq hr).mono ?_;rintro e w1 ⟨⟨a,cp,rfl,hsl⟩,hb⟩)
  (try simp only [Exit.inBlock,Exit.then])
  refine bodyPost_ret (fH rfl _ _ _) rfl ?_;exact ⟨⟨a,cp,rfl,hsl⟩,hb⟩
theorem KO (s:ByteArray) (q:Nat) (n:Int) (w:World) (hs:s.size<=1000000) (hq:q<=s.size):
  Calls Tryz.prog 159 #[.string s,.int .i64 q,.int .i64 n] w (uy (Bk.qE s q n true) w):=by
 cases hr:Bk.qE s q n true with
 |none=>
  go_enter Tryz.func159,Tryz.ntmps159
  go_wp2_with (go_at_call 60;refine (G7 s q n true _ _ hs hq hr).mono ?_;rintro e w1 ⟨⟨p,c,rfl,hc⟩,hb⟩)
  (try simp only [Exit.inBlock,Exit.then])
  refine bodyPost_ret (fH rfl _ _ _) rfl ?_;exact ⟨⟨p,c,rfl,hc⟩,hb⟩
 |some x=>
  obtain ⟨l,same,p⟩:=x
  go_enter Tryz.func159,Tryz.ntmps159
  go_wp2_with (go_at_call 60;refine (G7 s q n true _ _ hs hq hr).mono ?_;rintro e w1 ⟨⟨a,cp,rfl,hsl⟩,hb⟩)
  (try simp only [Exit.inBlock,Exit.then])
  refine bodyPost_ret (fH rfl _ _ _) rfl ?_;exact ⟨⟨a,cp,rfl,hsl⟩,hb⟩
end
namespace Ab
open Bk (Cm)
theorem wm {f:Nat} {args:List AV} {r:AV} (he:X8 Tryz.prog f) (hf:r.flat=true) (h:∀(lim:Nat->Nat) (w:World) (vs:List Value),AV.Rs lim [] w args vs->Calls Tryz.prog f vs.toArray w fun e w'=>∃v lim',e=.returned v∧Below w.heap.size w w'∧(∀b,b<w.heap.size->lim' b=lim b)∧((∀b,w.heap.size<=b->lim b=0)->∀b,w'.heap.size<=b->lim' b=0)∧AV.R lim' [] w' r v):aW Tryz.prog f args [] r []:=by refine ⟨he,Nat.le_refl _,fun lim bs w vs m hvl hm H=>?_⟩;have hbs:bs=[]:=List.eq_nil_of_length_eq_zero (by rw [H.len];rfl);subst hbs;refine (h lim w vs (DX hvl H)).mono ?_;rintro e w' ⟨v,lim',rfl,hb,h1,h2,h3⟩;refine ⟨v,lim',[],rfl,aM.res (h2 H.top) h3 (by rw [AV.top,hf];simp) (fun g hh=>by rw [kZ hf] at hh;cases hh),⟨⟨hb.os,hb.tape,hb.output,hb.size,fun k hk=>absurd hk (Nat.not_lt_zero _)⟩,fun b hbl _=>⟨hb.block b hbl,h1 b hbl⟩,fun b hbl=>Nat.le_of_eq (h1 b hbl).symm,fun b j hbl _=>World.cell?_of_block (hb.block b hbl),fun b cur e p hh=>⟨cur,(hb.block b (di hh)).trans hh,rfl⟩⟩,fun i hi=>by cases hi⟩
theorem yA {f:Nat} {args:List AV} {r:AV} {vs:List Value} {u:Value} (he:X8 Tryz.prog f) (hf:r.flat=true) (ha:∀(lim:Nat->Nat) (w:World) (vs':List Value),AV.Rs lim [] w args vs'->vs'=vs) (hr:∀(lim:Nat->Nat) (w:World),AV.R lim [] w r u) (h:∀w,Calls Tryz.prog f vs.toArray w fun e w'=>e=.returned u∧Below w.heap.size w w'):aW Tryz.prog f args [] r []:=by refine wm he hf fun lim w vs' hR=>?_;rw [ha lim w vs' hR];refine (h w).mono ?_;rintro e w' ⟨rfl,hb⟩;exact ⟨u,lim,rfl,hb,fun _ _=>rfl,fun ht b hbb=>ht b (Nat.le_trans hb.size hbb),hr lim w'⟩
theorem ig {f:Nat} {args:List AV} {r:AV} {vs:List Value} {u:Value} (he:X8 Tryz.prog f) (hf:r.flat=true) (ha:∀(lim:Nat->Nat) (w:World) (vs':List Value),AV.Rs lim [] w args vs'->vs'=vs) (hr:∀(lim:Nat->Nat) (w:World),AV.R lim [] w r u) (h:∀w,Calls Tryz.prog f vs.toArray w fun e w'=>e=.returned u∧w=w'):aW Tryz.prog f args [] r []:=
 yA he hf ha hr fun w=>(h w).mono fun e w' hh=>⟨hh.1,hh.2▸Below.refl _ _⟩
theorem P7 {c:Int}:∀(lim:Nat->Nat) (w:World) (vs':List Value),AV.Rs lim [] w [.int .u8 c] vs'->vs'=[.int .u8 c]:=by intro lim w vs' h;simp only [AV.Rs,AV.R] at h;obtain ⟨v,r,rfl,rfl,rfl⟩:=h;rfl
theorem a_s {s:ByteArray}:∀(lim:Nat->Nat) (w:World) (vs':List Value),AV.Rs lim [] w [.str s] vs'->vs'=[.string s]:=by intro lim w vs' h;simp only [AV.Rs,AV.R] at h;obtain ⟨v,r,rfl,rfl,rfl⟩:=h;rfl
theorem a_i {n:Int}:∀(lim:Nat->Nat) (w:World) (vs':List Value),AV.Rs lim [] w [.int .i64 n] vs'->vs'=[.int .i64 n]:=by intro lim w vs' h;simp only [AV.Rs,AV.R] at h;obtain ⟨v,r,rfl,rfl,rfl⟩:=h;rfl
theorem Hg {s:ByteArray} {a:Int}:∀(lim:Nat->Nat) (w:World) (vs':List Value),AV.Rs lim [] w [.str s,.int .i64 a] vs'->vs'=[.string s,.int .i64 a]:=by intro lim w vs' h;simp only [AV.Rs,AV.R] at h;obtain ⟨v,r,rfl,rfl,v2,r2,rfl,rfl,rfl⟩:=h;rfl
theorem ZG {s:ByteArray} {a b:Int}:∀(lim:Nat->Nat) (w:World) (vs':List Value),AV.Rs lim [] w [.str s,.int .i64 a,.int .i64 b] vs'->vs'=[.string s,.int .i64 a,.int .i64 b]:=by intro lim w vs' h;simp only [AV.Rs,AV.R] at h;obtain ⟨v,r,rfl,rfl,v2,r2,rfl,rfl,v3,r3,rfl,rfl,rfl⟩:=h;rfl
theorem RP {f:Int->AV} {args:List AV} {v:AV} (h:pI f args=some v):∃c,args=[.int .u8 c]∧v=f c:=by
 unfold pI at h;split at h
 ·cases h;exact ⟨_,rfl,rfl⟩
 ·cases h
theorem tQ {f:ByteArray->Int->Option AV} {args:List AV} {v:AV} (h:Hy f args=some v):∃s a,args=[.str s,.int .i64 a]∧s.size<=900000∧f s a=some v:=by
 unfold Hy at h;split at h
 ·split at h
  ·rename_i hs;exact ⟨_,_,rfl,hs,h⟩
  ·cases h
 ·cases h
theorem Js {f:ByteArray->Int->Int->Option AV} {args:List AV} {v:AV} (h:O6 f args=some v):∃s a b,args=[.str s,.int .i64 a,.int .i64 b]∧s.size<=900000∧f s a b=some v:=by
 unfold O6 at h;split at h
 ·split at h
  ·rename_i hs;exact ⟨_,_,_,rfl,hs,h⟩
  ·cases h
 ·cases h
theorem NP {s:ByteArray} {a:Int} {f:Nat->AV} {v:AV} (h:inT s a f=some v):∃q:Nat,a=q∧q<=s.size∧v=f q:=by
 unfold inT at h;split at h
 ·rename_i hh;cases h;exact ⟨a.toNat,oM,oM,rfl⟩
 ·cases h
theorem U1 {lim:Nat->Nat} {bs:List Nat} {w:World} {b:Nat}:∀{l:List Cm} {off:Nat},OG w l b off->AV.Rm lim bs w b off (fQ l)
 |[],off,_=>by rw [fQ,AV.Rm];trivial
 |c::l,off,h=>by obtain ⟨h1,h2,h3⟩:=h;rw [fQ,AV.Rm,AV.Rm];exact ⟨⟨_,h1,by rw [AV.R]⟩,⟨_,h2,by rw [AV.R]⟩,U1 h3⟩
theorem Xw:∀(l:List Cm),(fQ l).length=2*l.length
 |[]=>rfl
 |c::l=>by rw [fQ,List.length_cons,List.length_cons,List.length_cons,Xw l];omega
theorem J4:∀(l:List Cm),AV.ak (fQ l)=true
 |[]=>rfl
 |c::l=>by rw [fQ,AV.ak,AV.ak,J4 l];rfl
theorem DC {f:Nat} {args:List AV} {vs:List Value} {x:Option (List Cm×Bool×Nat)} (he:X8 Tryz.prog f) (ha:∀(lim:Nat->Nat) (w:World) (vs':List Value),AV.Rs lim [] w args vs'->vs'=vs) (h:∀w,Calls Tryz.prog f vs.toArray w (uy x w)):aW Tryz.prog f args [] (Ke x) []:=by
 cases x with
 |none=>
  refine wm he rfl fun lim w vs' hR=>?_;rw [ha lim w vs' hR];refine (h w).mono ?_;rintro e w' ⟨⟨p,c,rfl,hc⟩,hb⟩;refine ⟨_,lim,rfl,hb,fun _ _=>rfl,fun ht b hbb=>ht b (Nat.le_trans hb.size hbb),?_⟩;show AV.R lim [] w' (.bX [.nil,.bool false,.nP .i64,.nz .i64]) _;rw [AV.R];refine ⟨_,rfl,?_⟩;simp only [AV.Rs,AV.R];exact ⟨_,_,rfl,rfl,_,_,rfl,rfl,_,_,rfl,⟨_,rfl⟩,_,_,rfl,⟨c,oM,rfl⟩,rfl⟩
 |some q=>
  obtain ⟨l,same,p⟩:=q;refine wm he (by show AV.ak _=true;simp [AV.ak,AV.flat,J4]) fun lim w vs' hR=>?_;rw [ha lim w vs' hR];refine (h w).mono ?_;rintro e w' ⟨⟨a,cp,rfl,hs,hcp⟩,hb⟩;have hval:∃lim':Nat->Nat,(∀b,b<w.heap.size->lim' b=lim b)∧((∀b,w.heap.size<=b->lim b=0)->∀b,w'.heap.size<=b->lim' b=0)∧AV.R lim' [] w' (.sl l.length (fQ l)) (.slice a l.length cp):=by
   rcases hs with h0|⟨b,off,rfl,h1,h2,h3⟩
   ·have:l=[]:=List.eq_nil_of_length_eq_zero h0;subst this;exact ⟨lim,fun _ _=>rfl,fun ht b hbb=>ht b (Nat.le_trans hb.size hbb),by rw [AV.R];exact ⟨a,cp,rfl,hcp,.inl rfl⟩⟩
   ·refine ⟨fun k=>if k=b then off+(fQ l).length else lim k,fun k hk=>if_neg oM,fun ht k hk=>?_,?_⟩
    ·show (if k=b then off+(fQ l).length else lim k)=0;rw [if_neg oM];exact ht k (Nat.le_trans hb.size hk)
    ·rw [AV.R];exact ⟨_,cp,rfl,hcp,.inr ⟨b,off,rfl,h1,by simp,U1 h3⟩⟩
  obtain ⟨lim',g1,g2,g3⟩:=hval;refine ⟨_,lim',rfl,hb,g1,g2,?_⟩;show AV.R lim' [] w' (.bX [.sl l.length (fQ l),.bool same,.int .i64 p,.int .i64 0]) _;rw [AV.R];refine ⟨_,rfl,?_⟩;rw [AV.Rs];refine ⟨_,_,rfl,g3,?_⟩;simp only [AV.Rs,AV.R];exact ⟨_,_,rfl,rfl,_,_,rfl,rfl,_,_,rfl,rfl,rfl⟩
theorem FR {lim:Nat->Nat} {w:World} {k:IntKind} {n:Int}:AV.R lim [] w (.int k n) (.int k n):=by rw [AV.R]
theorem Ai {lim:Nat->Nat} {w:World} {b:Bool}:AV.R lim [] w (.bool b) (.bool b):=by rw [AV.R]
theorem UU {lim:Nat->Nat} {w:World} {s:ByteArray}:AV.R lim [] w (.str s) (.string s):=by rw [AV.R]
set_option maxRecDepth 100000 in
theorem Jl:∀p ∈ Nj,∀(args:List AV) (v:AV),p.2 args=some v->aW Tryz.prog p.1 args [] v []:=by
 have hsz:∀{s:ByteArray},s.size<=900000->s.size<=4611686018427387903:=fun h=>Nat.le_trans h dE;have hsm:∀{s:ByteArray},s.size<=900000->s.size<=1000000:=fun h=>Nat.le_trans h dE;simp only [Nj,List.forall_mem_cons];refine ⟨?_,?_,?_,?_,?_,?_,?_,?_,?_,?_,?_,?_,?_,fun p hp=>by cases hp⟩
 ·intro args v h;obtain ⟨s,a,rfl,hs,h⟩:=tQ h;obtain ⟨q,rfl,hq,rfl⟩:=NP h;exact DC ⟨_,rfl,rfl,rfl⟩ Hg fun w=>QV s q w (hsm hs) hq
 ·intro args v h;obtain ⟨s,a,rfl,hs,h⟩:=tQ h;cases h;exact ig ⟨_,rfl,rfl,rfl⟩ rfl Hg (fun _ _=>FR) fun w=>iL s a w (hsz hs)
 ·intro args v h;obtain ⟨s,a,rfl,hs,h⟩:=tQ h;cases h;exact ig ⟨_,rfl,rfl,rfl⟩ rfl Hg (fun _ _=>FR) fun w=>RN s a w (hsz hs)
 ·intro args v h;obtain ⟨s,a,rfl,hs,h⟩:=tQ h;cases h;exact ig ⟨_,rfl,rfl,rfl⟩ rfl Hg (fun _ _=>by rw [AV.R];refine ⟨_,rfl,?_⟩;simp only [AV.Rs,AV.R];exact ⟨_,_,rfl,rfl,_,_,rfl,rfl,rfl⟩) fun w=>dh s a w (hsz hs)
 ·intro args v h;obtain ⟨s,a,b,rfl,hs,h⟩:=Js h;split at h
  ·rename_i hh;cases h;obtain ⟨q,rfl⟩:∃q:Nat,a=q:=⟨a.toNat,oM⟩;obtain ⟨r,rfl⟩:∃r:Nat,b=r:=⟨b.toNat,oM⟩;exact ig ⟨_,rfl,rfl,rfl⟩ rfl ZG (fun _ _=>FR) fun w=>lN s q r w (hsz hs) oM
  ·cases h
 ·intro args v h;split at h
  ·split at h
   ·rename_i s hs;cases h;exact ig ⟨_,rfl,rfl,rfl⟩ rfl a_s (fun _ _=>UU) fun w=>y5 s w (Nat.le_trans hs dE)
   ·cases h
  ·cases h
 ·intro args v h;obtain ⟨s,a,rfl,hs,h⟩:=tQ h;cases h;exact ig ⟨_,rfl,rfl,rfl⟩ rfl Hg (fun _ _=>Ai) fun w=>p8 s a w
 ·intro args v h;obtain ⟨c,rfl,rfl⟩:=RP h;exact ig ⟨_,rfl,rfl,rfl⟩ rfl P7 (fun _ _=>Ai) fun w=>dH c w
 ·intro args v h;obtain ⟨s,a,rfl,hs,h⟩:=tQ h;cases h;exact ig ⟨_,rfl,rfl,rfl⟩ rfl Hg (fun _ _=>FR) fun w=>F7 s a w (hsz hs)
 ·intro args v h;obtain ⟨s,a,rfl,hs,h⟩:=tQ h;cases h;exact ig ⟨_,rfl,rfl,rfl⟩ rfl Hg (fun _ _=>FR) fun w=>ql s a w (hsz hs)
 ·intro args v h;obtain ⟨c,rfl,rfl⟩:=RP h;exact ig ⟨_,rfl,rfl,rfl⟩ rfl P7 (fun _ _=>Ai) fun w=>O4 c w
 ·intro args v h;split at h
  ·split at h
   ·rename_i n hn;cases h;exact ig ⟨_,rfl,rfl,rfl⟩ rfl a_i (fun _ _=>UU) fun w=>Ld n w oM
   ·cases h
  ·cases h
 ·intro args v h;obtain ⟨s,a,n,rfl,hs,h⟩:=Js h;obtain ⟨q,rfl,hq,rfl⟩:=NP h;exact DC ⟨_,rfl,rfl,rfl⟩ ZG fun w=>KO s q n w (hsm hs) hq
end Ab
namespace Ab
def amw:List (Nat×List Nat):=[(141,[101,134]),(163,[15]),(41,[29])]
def ajY:List (Nat×List (Nat×Nat×Nat)):=[(10,[(5,(10,11))]),(13,[(2,(10,12))])]
def amA:List (Nat×List Nat):=[(43,[35])]
def alp:List Nat:=[141,13]
def aH (f:Nat):zy:=⟨NI f,(assoc amw f).getD [],mem f alp,(assoc ajY f).getD [],(assoc amA f).getD []⟩
def GY (e z:Nat):List AV->Option AV
 |[.nil]=>some .nil
 |[.sl n l]=>if l.length=n*z∧dI l=true∧AV.ak l=true∧n<=1000000 then some (.row e z n l) else none
 |_=>none
def Zh:List AV->Option AV
 |[.nil,.int .i64 n]=>if 0<=n∧n<=100000 then some (if n.toNat=0 then .nil else .row 56 2 0 []) else none
 |_=>none
def agd:List AV->Option AV
 |[.low .i64 d m,.int .i64 d']=>if d=d'∧1<=d∧d<=1000000000 then some (.int .i64 m) else none
 |_=>none
def I5:List (Nat×(List AV->Option AV)):=[(39,GY 56 2),(40,GY 9 1),(73,Zh),(22,agd)]
def Rz (g:List AV->Option AV):xR->List AV->List (List AV)->Option (AV×List (List AV)):=fun _ args bx=>
 match bx with
 |[]=>match g args with
  |some v=>some (v,[])
  |none=>none
 |_=>none
def fnL:List Nat:=[109,115,122,123,126,127,129,130,133,134,136,147,92,95,107,108,8,10,11,13,23,37,41,42,43,49,68,69,70,71,72,96,97,98,99,100,101,110,111,112,113,114,116,117,118,119,120,121,124,125,128,131,132,141,142,150,151,152,153,154,155,156,157,158,160,161,162,163,164,165,166,167,168,169]
def TM (P:Program) (f:Nat):Option Func:=if mem f fnL=true then P.funcs[f]? else none
def KD (P:Program) (more:List (Nat×(List AV->Option AV))):X3:=
 ⟨gW,TM P,aH,aeH,fun f=>(assoc (more++I5) f).map Rz⟩
set_option maxRecDepth 100000 in
theorem aa1 (d m:Int) (h1:1<=d) (h2:d<=1000000000):aW Tryz.prog 22 [.low .i64 d m,.int .i64 d] [] (.int .i64 m) []:=by
 refine wm ⟨_,rfl,rfl,rfl⟩ rfl fun lim w vs hR=>?_;simp only [AV.Rs,AV.R] at hR;obtain ⟨v,r,rfl,⟨n,hn,rfl⟩,v2,r2,rfl,rfl,rfl⟩:=hR;refine (Gu n d w h1 h2).mono ?_;rintro e w' ⟨rfl,rfl⟩;refine ⟨_,lim,rfl,Below.refl _ _,fun _ _=>rfl,fun ht b hb=>ht b hb,?_⟩;have:(Bk.rP n d:Int)=m:=by rw [←hn];unfold Bk.rP AV.age;rw [Int.toNat_of_nonneg (Int.emod_nonneg _ oM)];rfl
 rw [this,AV.R]
theorem Ry:∀p ∈ I5,∀(args:List AV) (v:AV),p.2 args=some v->aW Tryz.prog p.1 args [] v []:=by
 simp only [I5,List.forall_mem_cons];have hcl:∀{e z:Nat} {args:List AV} {v:AV},GY e z args=some v->(args=[.nil]∧v=.nil)∨∃n l,args=[.sl n l]∧v=.row e z n l∧l.length=n*z∧dI l=true∧AV.ak l=true∧n<=1000000:=by
  intro e z args v h;unfold GY at h;split at h
  ·cases h;exact .inl ⟨rfl,rfl⟩
  ·split at h
   ·rename_i n l hc;cases h;exact .inr ⟨n,l,rfl,rfl,hc⟩
   ·cases h
  ·cases h
 refine ⟨?_,?_,?_,?_,fun p hp=>by cases hp⟩
 ·intro args v h;rcases hcl h with ⟨rfl,rfl⟩|⟨n,l,rfl,rfl,h1,h2,h3,h4⟩
  ·exact Uh
  ·exact Xy h1 h2 h3 h4
 ·intro args v h;rcases hcl h with ⟨rfl,rfl⟩|⟨n,l,rfl,rfl,h1,h2,h3,h4⟩
  ·exact Ug
  ·exact Xx h1 h2 h3 h4
 ·intro args v h;unfold Zh at h;split at h
  ·split at h
   ·rename_i n hc;cases h;obtain ⟨q,rfl⟩:∃q:Nat,n=q:=⟨n.toNat,oM⟩;exact abE q oM
   ·cases h
  ·cases h
 ·intro args v h;unfold agd at h;split at h
  ·split at h
   ·rename_i d m d' hc;obtain ⟨rfl,h1,h2⟩:=hc;cases h;exact aa1 d m h1 h2
   ·cases h
  ·cases h
set_option maxRecDepth 1000000 in
theorem abH:(fnL.all fun f=>match Tryz.prog.funcs[f]? with
  |some fn=>o9 fn
  |none=>false)=true:=dK
theorem agj (more:List (Nat×(List AV->Option AV))) (hm:∀p ∈ more,∀(args:List AV) (v:AV),p.2 args=some v->aW Tryz.prog p.1 args [] v []):KOK Tryz.prog (KD Tryz.prog more):=by
 refine ⟨tok,fun f fn h=>?_,fun f g args v h1 h2 _ _=>Jl _ (kK h1) args v h2,fun f g cal args bx r bx' h1 _ h2=>?_⟩
 ·have h':TM Tryz.prog f=some fn:=h;unfold TM at h';split at h'
  ·rename_i hf;refine ⟨h',?_⟩;have:=abH;rw [List.all_eq_true] at this;have h2:=this f (mem_iff.1 hf);rw [h'] at h2;exact h2
  ·cases h'
 ·have h':(assoc (more++I5) f).map Rz=some g:=h1;cases ha:assoc (more++I5) f with
  |none=>rw [ha] at h';cases h'
  |some g0=>
   rw [ha] at h';cases h';unfold Rz at h2;split at h2
   ·split at h2
    ·rename_i v hv;cases h2;have hmem:=kK ha;rcases List.mem_append.1 hmem with hmem|hmem
     ·exact hm _ hmem args _ hv
     ·exact Ry _ hmem args _ hv
    ·cases h2
   ·cases h2
def isT:Option (AV×List (List AV))->Bool
 |some (.bool true,[])=>true
 |_=>false
theorem abd {x:Option (AV×List (List AV))} (h:isT x=true):x=some (.bool true,[]):=by
 unfold isT at h;split at h
 ·rfl
 ·cases h
theorem aar {more:List (Nat×(List AV->Option AV))} (hm:∀p ∈ more,∀(args:List AV) (v:AV),p.2 args=some v->aW Tryz.prog p.1 args [] v []) {n f:Nat} {args:List AV} {v:AV} (h:DV (KD Tryz.prog more) n f args []=some (v,[])):aW Tryz.prog f args [] v []:=xJ (agj more hm) n f args [] v [] h
set_option maxRecDepth 1000000 in
theorem PU:isT (DV (KD Tryz.prog []) 400 10 [] [])=true:=dK
theorem UJ:aW Tryz.prog 10 [] [] (.bool true) []:=aar (more:=[]) (fun p hp=>by cases hp) (abd PU)
end Ab
end Go.Proofs.YtlmjabnkjmfcmaaGreat
