/- Own texts, joined and shortened by a program; no condition. -/
import Derived.Test.YtlmjabnkjmfcmaaGreatK5
namespace Go.Proofs.YtlmjabnkjmfcmaaGreat
open Go Go.RowKit Go.PlainAid
set_option linter.unusedVariables false
set_option linter.unusedSimpArgs false
set_option maxHeartbeats 20000000
set_option linter.defProp false
section
set_option maxRecDepth 100000
namespace V
open Ab
theorem Qx {t:Nat} {d:TD} (h:gW t=some d):(t,d) ∈ tyL:=kK h
theorem ad7:rC gW:=by
 have hall:(tyL.all fun p=>decide (0<p.2.size) && (!p.2.agg||decide (1<p.2.size)) && dQ p.2.zero && AV.ak p.2.zero)=true:=dK;have hh:∀t d,gW t=some d->0<d.size∧(d.agg=true->1<d.size)∧dQ d.zero=true∧AV.ak d.zero=true:=by intro t d h;have:=List.all_eq_true.1 hall _ (Qx h);simp only [Bool.and_eq_true,decide_eq_true_eq,Bool.or_eq_true,Bool.not_eq_true'] at this;obtain ⟨⟨⟨h1,h2⟩,h3⟩,h4⟩:=this;exact ⟨h1,fun hA=>h2.elim (fun e=>by rw [hA] at e;cases e) id,h3,h4⟩
 exact ⟨fun t d h=>(hh t d h).1,fun t d h=>(hh t d h).2.1,fun t d h=>(hh t d h).2.2⟩
theorem base {sp:Sp} (h:af Tryz.prog sp):Aj Tryz.prog gW sp:=⟨tok,ad7,h⟩
theorem af.nil {P:Program}:af P []:=fun f c h=>by cases h
structure Fn (P:Program) (f:Nat) (fn:Func) (c:Code) (n0:Nat) (rs:List ResultVar):Prop where
 at_:P.funcs[f]?=some fn
 jA:o9 fn=true
 body:fn.body=some c
 nt:fn.ntmps=n0
 rs:fn.results.toList=rs
theorem fN (f:Nat) (fn:Func) (n0:Nat) (rs:List ResultVar) (h1:Tryz.prog.funcs[f]?=some fn:=by rfl) (h2:o9 fn=true:=by decide+kernel) (h3:fn.body=some (fn.body.getD .skip):=by rfl) (h4:fn.ntmps=n0:=by rfl) (h5:fn.results.toList=rs:=by rfl):Fn Tryz.prog f fn (fn.body.getD .skip) n0 rs:=⟨h1,h2,h3,h4,h5⟩
def Jo (args:List AV) (K:Tm->Prop):Prop:=
 match args with
 |[]=>K []
 |[a]=>K [(0,a)]
 |[a,b]=>K [(1,b),(0,a)]
 |[a,b,c]=>K [(2,c),(1,b),(0,a)]
 |[a,b,c,d]=>K [(3,d),(2,c),(1,b),(0,a)]
 |[a,b,c,d,e]=>K [(4,e),(3,d),(2,c),(1,b),(0,a)]
 |_=>False
theorem yD {args:List AV} {K:Tm->Prop} (h:Jo args K):K (params [] 0 args):=by
 unfold Jo at h;split at h<;>first|exact h|exact h.elim
def pq (c:Code) (K:Code->Prop):Prop:=
 match c with
 |.seq a b=>K (.seq a b)
 |.cond x a b=>K (.cond x a b)
 |.block i a=>K (.block i a)
 |.region i ops d=>K (.region i ops d)
 |.ret=>K .ret
 |_=>False
theorem iU {c:Code} {K:Code->Prop} (h:pq c K):K c:=by
 unfold pq at h;split at h<;>first|exact h|exact h.elim
def Kt (mY:aC) (args:List AV) (bx:List (List AV)) (r:AV) (bx':List (List AV)):Prop:=∀K,mY args bx K->K r bx'
theorem Kt.bool {mY:aC} {args:List AV} {bx:List (List AV)} {b:Bool} {bx':List (List AV)} (h1:b=true->Kt mY args bx (.bool true) bx') (h2:b=false->Kt mY args bx (.bool false) bx'):Kt mY args bx (.bool b) bx':=by
 cases b
 ·exact h2 rfl
 ·exact h1 rfl
theorem il {f:Nat} {g:List AV->Option AV} (hp:assoc Nj f=some g) {mY:aC} (h:∀args bx K0,mY args bx K0->bx=[]∧∃v,g args=some v∧wv v=true∧∀K,mY args bx K->K v []):aC.OK Tryz.prog f mY:=by intro args bx K0 h0;obtain ⟨rfl,v,h1,h2,h3⟩:=h args bx K0 h0;exact ⟨v,[],Jl _ (kK hp) args v h1,h2,rfl,h3⟩
attribute [irreducible] Kt
end V
end
namespace V
open Ab
def Wk (a b:AV):Prop:=(∀(lim:Nat->Nat) (bs:List Nat) (w:World) (v:Value),AV.R lim bs w a v->AV.R lim bs w b v)∧(b.isRow=true->b=a)
def mQ:List AV->List AV->Prop
 |[],l=>l=[]
 |a::r,l=>∃b q,l=b::q∧Wk a b∧mQ r q
theorem Wk.refl (a:AV):Wk a a:=⟨fun _ _ _ _ h=>h,fun _=>rfl⟩
theorem mQ.nil:mQ [] []:=rfl
theorem mQ.cons {a b:AV} {r q:List AV} (h:Wk a b) (k:mQ r q):mQ (a::r) (b::q):=⟨b,q,rfl,h,k⟩
theorem mQ.refl:∀(l:List AV),mQ l l
 |[]=>rfl
 |a::r=> .cons (.refl a) (.refl r)
theorem mQ.len:∀{l k:List AV},mQ l k->k.length=l.length
 |[],k,h=>by rw [show k=[] from h]
 |a::r,k,h=>by obtain ⟨b,q,rfl,-,h⟩:=h;rw [List.length_cons,List.length_cons,h.len]
theorem mQ.get:∀{l k:List AV} {j:Nat} {b:AV},mQ l k->k[j]?=some b->∃a,l[j]?=some a∧Wk a b
 |[],k,j,b,h,hb=>by rw [show k=[] from h] at hb;simp at hb
 |a::r,k,j,b,h,hb=>by
  obtain ⟨b',q,rfl,h1,h2⟩:=h;cases j with
  |zero=>simp at hb;subst hb;exact ⟨a,rfl,h1⟩
  |succ j=>obtain ⟨a',g1,g2⟩:=h2.get (j:=j) (by simpa using hb);exact ⟨a',by simpa using g1,g2⟩
theorem mQ.Rs {lim:Nat->Nat} {bs:List Nat} {w:World}:∀{l k:List AV} {vs:List Value},mQ l k->AV.Rs lim bs w l vs->AV.Rs lim bs w k vs
 |[],k,vs,h,hr=>by rw [show k=[] from h];exact hr
 |a::r,k,vs,h,hr=>by obtain ⟨b,q,rfl,h1,h2⟩:=h;rw [AV.Rs] at hr⊢;obtain ⟨v,vs',rfl,h3,h4⟩:=hr;exact ⟨v,vs',rfl,h1.1 _ _ _ _ h3,h2.Rs h4⟩
theorem Wk.agg {l k:List AV} (h:mQ l k):Wk (.agg l) (.agg k):=⟨fun lim bs w v hr=>by
 rw [AV.R] at hr;rw [AV.R];obtain ⟨vs,h1,h2⟩:=hr;exact ⟨vs,h1,h.Rs h2⟩,fun h=>by cases h⟩
theorem Wk.bX {l k:List AV} (h:mQ l k):Wk (.bX l) (.bX k):=⟨fun lim bs w v hr=>by
 rw [AV.R] at hr;rw [AV.R];obtain ⟨vs,h1,h2⟩:=hr;exact ⟨vs,h1,h.Rs h2⟩,fun h=>by cases h⟩
theorem Wk.nil:Wk .nil (.sl 0 []):=⟨fun lim bs w v hr=>by
 rw [AV.R] at hr;rw [AV.R];exact ⟨none,0,hr,Nat.le_refl _,.inl rfl⟩,fun h=>by cases h⟩
theorem Wk.row {e z n:Nat} {l:List AV}:Wk (.row e z n l) (.sl n l):=⟨fun lim bs w v hr=>hr.bY,fun h=>by cases h⟩
theorem Wk.mo {e z:Nat} {v:Value} {lim:Nat->Nat} {bs:List Nat} {w:World} (h:AV.R lim bs w .nil v):AV.R lim bs w (.row e z 0 []) v:=by rw [AV.R] at h;rw [AV.R];exact ⟨by simp,rfl,.inl ⟨h,rfl⟩⟩
theorem Wk.nP {k:IntKind} {n:Int}:Wk (.int k n) (.nP k):=⟨fun lim bs w v hr=>by
 rw [AV.R] at hr;rw [AV.R];exact ⟨n,hr⟩,fun h=>by cases h⟩
theorem Wk.nz {k:IntKind} {n:Int} (hn:n≠0):Wk (.int k n) (.nz k):=⟨fun lim bs w v hr=>by
 rw [AV.R] at hr;rw [AV.R];exact ⟨n,hn,hr⟩,fun h=>by cases h⟩
def vK:List (List AV)->List (List AV)->Prop
 |[],l=>l=[]
 |a::r,l=>∃b q,l=b::q∧mQ a b∧vK r q
theorem vK.refl:∀(l:List (List AV)),vK l l
 |[]=>rfl
 |a::r=>⟨a,r,rfl,.refl a,.refl r⟩
theorem vK.len:∀{l k:List (List AV)},vK l k->k.length=l.length
 |[],k,h=>by rw [show k=[] from h]
 |a::r,k,h=>by obtain ⟨b,q,rfl,-,h⟩:=h;rw [List.length_cons,List.length_cons,h.len]
theorem vK.get:∀{l k:List (List AV)} {j:Nat} {b:List AV},vK l k->k[j]?=some b->∃a,l[j]?=some a∧mQ a b
 |[],k,j,b,h,hb=>by rw [show k=[] from h] at hb;simp at hb
 |a::r,k,j,b,h,hb=>by
  obtain ⟨b',q,rfl,h1,h2⟩:=h;cases j with
  |zero=>simp at hb;subst hb;exact ⟨a,rfl,h1⟩
  |succ j=>obtain ⟨a',g1,g2⟩:=h2.get (j:=j) (by simpa using hb);exact ⟨a',by simpa using g1,g2⟩
theorem aM.aU {lim:Nat->Nat} {bs:List Nat} {w:World} {bx bx':List (List AV)} {S S':rE} {m:Nat->Prop} (H:aM lim bs w bx S m) (hb:vK bx bx') (hbt:∀c ∈ bx',c.all AV.top=true) (hS:∀k,(S' k).2=(S k).2∧Wk (S k).1 (S' k).1∧(S' k).1.top=true):aM lim bs w bx' S' m:=by
 have ho:∀p g,Ab.Own w bs bx' S' p g->Ab.Own w bs bx S p g:=by
  intro p g hp;cases p with
  |t k=>
   obtain ⟨h1,h2⟩:=hp;obtain ⟨e1,e2,-⟩:=hS k;have:=e2.2 h1;exact ⟨by rw [←this];exact h1,by rw [←e1];exact h2⟩
  |b i j=>
   obtain ⟨b,x,y,v,q1,q2,q3,q4,q5⟩:=hp;obtain ⟨a,g1,g2⟩:=hb.get q2;obtain ⟨c,g3,g4⟩:=g2.get q3;have:=g4.2 q4;subst this;exact ⟨b,a,_,v,q1,g1,g3,q4,q5⟩
 refine ⟨by rw [hb.len];exact H.len,H.xV,H.free,H.mb,fun i b x hi hx=>?_,fun k=>?_,fun k=>(hS k).2.2,H.top,fun p g hp=>H.own p g (ho p g hp),fun p q g hp hq=>H.nK p q g (ho p g hp) (ho q g hq)⟩
 ·obtain ⟨a,g1,g2⟩:=hb.get hx;obtain ⟨c,tl,t,h1,h2,h3⟩:=H.box i b a hi g1;exact ⟨c,tl,t,h1,g2.Rs h2,hbt x (List.mem_of_getElem? hx)⟩
 ·obtain ⟨e1,e2,-⟩:=hS k;rw [e1];exact e2.1 _ _ _ _ (H.slot k)
theorem BV {c:List AV} (h:dQ c=true):c.all AV.top=true:=by rw [List.all_eq_true];exact fun x hx=>uQ (dB.1 h x hx).2
theorem aW.aU {P:Program} {f:Nat} {args:List AV} {bx b b2:List (List AV)} {r r2:AV} (h:aW P f args bx r b) (hr:Wk r r2) (hb:vK b b2) (h1:wv r2=true) (h2:aV b2=true):aW P f args bx r2 b2:=by
 refine ⟨h.H5,by rw [hb.len];exact h.len,fun lim bs w vs m hl hm H=>(h.call lim bs w vs m hl hm H).mono ?_⟩;rintro e w' ⟨v,lim',bs',rfl,h3,h4,h5⟩;refine ⟨v,lim',bs',rfl,aM.aU h3 hb (fun c hc=>BV (bg.1 h2 c hc)) (fun k=>?_),h4,h5⟩;unfold rS;by_cases hk:k=0
 ·rw [if_pos hk,if_pos hk];exact ⟨rfl,hr,uQ h1⟩
 ·rw [if_neg hk,if_neg hk];exact ⟨rfl,Wk.refl _,rfl⟩
mutual
theorem abW:∀(x:AV),Wk x (can x)
 |.nil=>Wk.nil
 |.agg l=>Wk.agg (ze l)
 |.bX l=>Wk.bX (ze l)
 |.fn f l=>⟨fun lim bs w v hr=>by
   rw [AV.R] at hr;rw [can,AV.R];obtain ⟨vs,h1,h2⟩:=hr;exact ⟨vs,h1,(ze l).Rs h2⟩,fun h=>by cases h⟩
 |.bool _=> .refl _
 |.int _ _=> .refl _
 |.str _=> .refl _
 |.ptr _ _=> .refl _
 |.sl _ _=> .refl _
 |.row _ _ _ _=> .refl _
 |.el _=> .refl _
 |.nz _=> .refl _
 |.nP _=> .refl _
 |.low _ _ _=> .refl _
 |.bU _ _ _ _=> .refl _
 |.bad=> .refl _
theorem ze:∀(l:List AV),mQ l (oO l)
 |[]=> .nil
 |v::l=> .cons (abW v) (ze l)
end
mutual
theorem Mt:∀{x:AV},wv x=true->wv (can x)=true∧(can x).one=x.one∧(x.flat=true->(can x).flat=true)
 |.nil,_=>⟨rfl,rfl,fun _=>rfl⟩
 |.agg l,h=>⟨(ry (l:=l)).1 h,rfl,fun _=>pW ((ry (l:=l)).1 h)⟩
 |.bX l,h=>⟨(ry (l:=l)).2 h,rfl,fun _=>jM ((ry (l:=l)).2 h)⟩
 |.fn f l,h=>⟨(ry (l:=l)).2 h,rfl,fun _=>jM ((ry (l:=l)).2 h)⟩
 |.bool _,h=>⟨h,rfl,id⟩
 |.int _ _,h=>⟨h,rfl,id⟩
 |.str _,h=>⟨h,rfl,id⟩
 |.ptr _ _,h=>⟨h,rfl,id⟩
 |.sl _ _,h=>⟨h,rfl,id⟩
 |.row _ _ _ _,h=>⟨h,rfl,id⟩
 |.el _,h=>⟨h,rfl,id⟩
 |.nz _,h=>⟨h,rfl,id⟩
 |.nP _,h=>⟨h,rfl,id⟩
 |.low _ _ _,h=>⟨h,rfl,id⟩
 |.bU _ _ _ _,h=>⟨h,rfl,id⟩
 |.bad,h=>⟨h,rfl,id⟩
theorem ry:∀{l:List AV},(qI l=true->qI (oO l)=true)∧(xU l=true->xU (oO l)=true)
 |[]=>⟨fun _=>rfl,fun _=>rfl⟩
 |v::l=>by
  constructor
  ·intro h;rw [qI] at h;simp only [Bool.and_eq_true] at h;obtain ⟨h1,h2,h3⟩:=Mt h.1.2;rw [oO,qI,h1,h2,h3 h.1.1.1,h.1.1.2,(ry (l:=l)).1 h.2];rfl
  ·intro h;rw [xU] at h;simp only [Bool.and_eq_true] at h;obtain ⟨h1,h2,h3⟩:=Mt h.1.2;rw [oO,xU,h1,h3 h.1.1,(ry (l:=l)).2 h.2];rfl
end
theorem J7:∀{l:List AV},gZ l=true->gZ (oO l)=true
 |[],_=>rfl
 |v::l,h=>by rw [gZ,Bool.and_eq_true] at h;rw [oO,gZ,(Mt h.1).1,J7 h.2];rfl
theorem aW.can {P:Program} {f:Nat} {args:List AV} {bx b:List (List AV)} {r:AV} (ha:gZ args=true) (h:aW P f (oO args) bx r b):aW P f args bx r b:=by
 have hk:=ze args;refine ⟨h.H5,h.len,fun lim bs w vs m hl hm H=>h.call lim bs w vs m (by rw [hl,hk.len]) hm (aM.aU H (.refl bx) (fun c hc=>?_) fun k=>?_)⟩
 ·obtain ⟨i,hi⟩:=List.getElem?_of_mem hc;have hlt:i<bs.length:=by rw [H.len];exact (List.getElem?_eq_some_iff.1 hi).1
  obtain ⟨_,_,_,_,_,h3⟩:=H.box i _ c (List.getElem?_eq_getElem hlt) hi;exact h3
 ·refine ⟨rfl,?_,?_⟩
  ·show Wk (args.getD k .bad) ((oO args).getD k .bad);rw [List.getD_eq_getElem?_getD,List.getD_eq_getElem?_getD];cases hc:(oO args)[k]? with
   |none=>
    have:args[k]?=none:=by rw [List.getElem?_eq_none_iff] at hc⊢;rw [←hk.len];exact hc
    rw [this];exact .refl _
   |some x=>
    obtain ⟨a,g1,g2⟩:=hk.get hc;rw [g1];exact g2
  ·show ((oO args).getD k .bad).top=true;rw [List.getD_eq_getElem?_getD];cases hc:(oO args)[k]? with
   |none=>rfl
   |some x=>exact uQ (iP.1 (J7 ha) x (List.mem_of_getElem? hc))
theorem af.cons {P:Program} {sp:Sp} {f:Nat} {c:aC} (h:aC.OK P f c) (k:af P sp):af P ((f,c)::sp):=by
 intro g c' h';rw [assoc] at h';split at h'
 ·rename_i e;cases h';rw [Nat.eq_of_beq_eq_true e];intro args bx K0 hw hK;obtain ⟨r,bx',h1,h2⟩:=h _ bx K0 hK;exact ⟨r,bx',aW.can hw h1,h2⟩
 ·exact k g c' h'
def ag (mY:aC) (args:List AV) (bx:List (List AV)) (r:AV) (bx':List (List AV)):Prop:=∃r2 b2,Wk r r2∧vK bx' b2∧wv r2=true∧aV b2=true∧∀K,mY args bx K->K r2 b2
theorem Fn.okW {f:Nat} {fn:Func} {c:Code} {n0:Nat} {rs:List ResultVar} (F:Fn Tryz.prog f fn c n0 rs) {mY:aC} {args:List AV} {bx:List (List AV)} {base:Nat} (hb:bx.length=base) (ha:gZ args=true) (hbx:aV bx=true) (h:Jo args fun tm=>pq c fun c=>WP Tryz.prog n0 base c ⟨tm,bx⟩ (wP gW rs base (ag mY args bx))):∃r bx',aW Tryz.prog f args bx r bx'∧wv r=true∧aV bx'=true∧∀K,mY args bx K->K r bx':=by have h:=iU (yD h);subst hb;rw [←F.nt,←F.rs] at h;obtain ⟨r,b,h1,h2,h3,r2,b2,g1,g2,g3,g4,g5⟩:=abG tok F.at_ F.jA F.body ha hbx h;exact ⟨r2,b2,aW.aU h1 g1 g2 g3 g4,g3,g4,g5⟩
theorem ag.mk {mY:aC} {args:List AV} {bx:List (List AV)} {r:AV} {bx':List (List AV)} (hr:wv r=true) (hb:aV bx'=true) (h:∀K,mY args bx K->K r bx'):ag mY args bx r bx':=⟨r,bx',.refl r,.refl bx',hr,hb,h⟩
theorem ag.aU {mY:aC} {args:List AV} {bx:List (List AV)} {r r2:AV} {bx' b2:List (List AV)} (hr:Wk r r2) (hb:vK bx' b2) (h1:wv r2=true) (h2:aV b2=true) (h:∀K,mY args bx K->K r2 b2):ag mY args bx r bx':=⟨r2,b2,hr,hb,h1,h2,h⟩
theorem ag.bool {mY:aC} {args:List AV} {bx:List (List AV)} {b:Bool} {bx':List (List AV)} (h1:b=true->ag mY args bx (.bool true) bx') (h2:b=false->ag mY args bx (.bool false) bx'):ag mY args bx (.bool b) bx':=by
 cases b
 ·exact h2 rfl
 ·exact h1 rfl
attribute [irreducible] ag
section
variable {lim lim' : Nat -> Nat} {bs bs' : List Nat} {w w' : World}
mutual
theorem UW:∀{x:AV} {v:Value},AV.R lim bs w x v->∀i ∈ AV.ids x,i<bs.length
 |.ptr i o,v,h,j,hj=>by rw [AV.R] at h;obtain ⟨b,h1,-⟩:=h;rw [AV.ids,List.mem_singleton] at hj;subst hj;exact (List.getElem?_eq_some_iff.1 h1).1
 |.bU i e z n,v,h,j,hj=>by rw [AV.R] at h;obtain ⟨b,c,cur,h1,-⟩:=h;rw [AV.ids,List.mem_singleton] at hj;subst hj;exact (List.getElem?_eq_some_iff.1 h1).1
 |.bool _,v,_,j,hj=>by rw [AV.ids] at hj<;>first|cases hj|(intros;contradiction)
 |.int _ _,v,_,j,hj=>by rw [AV.ids] at hj<;>first|cases hj|(intros;contradiction)
 |.str _,v,_,j,hj=>by rw [AV.ids] at hj<;>first|cases hj|(intros;contradiction)
 |.nil,v,_,j,hj=>by rw [AV.ids] at hj<;>first|cases hj|(intros;contradiction)
 |.nz _,v,_,j,hj=>by rw [AV.ids] at hj<;>first|cases hj|(intros;contradiction)
 |.nP _,v,_,j,hj=>by rw [AV.ids] at hj<;>first|cases hj|(intros;contradiction)
 |.low _ _ _,v,_,j,hj=>by rw [AV.ids] at hj<;>first|cases hj|(intros;contradiction)
 |.bad,v,_,j,hj=>by rw [AV.ids] at hj<;>first|cases hj|(intros;contradiction)
 |.sl n l,v,h,j,hj=>by
  rw [AV.R] at h;rw [AV.ids] at hj;obtain ⟨a,c,h1,h2,h3⟩:=h;rcases h3 with rfl|⟨b,o,h4,h5,h6,h7⟩
  ·rw [AV.aN] at hj;cases hj
  ·exact Ho h7 j hj
 |.row e z n l,v,h,j,hj=>by
  rw [AV.R] at h;rw [AV.ids] at hj;obtain ⟨h1,h2,h3⟩:=h;rcases h3 with ⟨h4,h5⟩|⟨g,c,cur,h4,h5,h6,h7,h8,h9,h10⟩
  ·subst h5;have hl:l=[]:=List.eq_nil_of_length_eq_zero (by rw [h1,Nat.zero_mul]);rw [hl,AV.aN] at hj;cases hj
  ·exact Ho h10 j hj
 |.el l,v,h,j,hj=>by rw [AV.R] at h;rw [AV.ids] at hj;obtain ⟨b,o,h4,h5,h6,h7⟩:=h;exact Ho h7 j hj
 |.agg l,v,h,j,hj=>by rw [AV.R] at h;rw [AV.ids] at hj;obtain ⟨vs,h1,h2⟩:=h;exact DY h2 j hj
 |.bX l,v,h,j,hj=>by rw [AV.R] at h;rw [AV.ids] at hj;obtain ⟨vs,h1,h2⟩:=h;exact DY h2 j hj
 |.fn f l,v,h,j,hj=>by rw [AV.R] at h;rw [AV.ids] at hj;obtain ⟨vs,h1,h2⟩:=h;exact DY h2 j hj
theorem DY:∀{l:List AV} {vs:List Value},AV.Rs lim bs w l vs->∀i ∈ AV.aN l,i<bs.length
 |[],vs,_,j,hj=>by rw [AV.aN] at hj;cases hj
 |x::l,vs,h,j,hj=>by
  rw [AV.Rs] at h;rw [AV.aN,List.mem_append] at hj;obtain ⟨v,r,h1,h2,h3⟩:=h;rcases hj with hj|hj
  ·exact UW h2 j hj
  ·exact DY h3 j hj
theorem Ho:∀{l:List AV} {b o:Nat},AV.Rm lim bs w b o l->∀i ∈ AV.aN l,i<bs.length
 |[],b,o,_,j,hj=>by rw [AV.aN] at hj;cases hj
 |x::l,b,o,h,j,hj=>by
  rw [AV.Rm] at h;rw [AV.aN,List.mem_append] at hj;obtain ⟨⟨v,h1,h2⟩,h3⟩:=h;rcases hj with hj|hj
  ·exact UW h2 j hj
  ·exact Ho h3 j hj
end
mutual
theorem oH {f:Nat->Nat}:∀{x:AV},(∀i ∈ AV.ids x,f i=i)->AV.bK f x=x
 |.ptr i o,h=>by rw [AV.bK,h i (by rw [AV.ids];exact List.mem_singleton.2 rfl)]
 |.bU i e z n,h=>by rw [AV.bK,h i (by rw [AV.ids];exact List.mem_singleton.2 rfl)]
 |.bool _,_=>rfl
 |.int _ _,_=>rfl
 |.str _,_=>rfl
 |.nil,_=>rfl
 |.nz _,_=>rfl
 |.nP _,_=>rfl
 |.low _ _ _,_=>rfl
 |.bad,_=>rfl
 |.sl n l,h=>by rw [AV.ids] at h;rw [AV.bK,fZ h]
 |.row e z n l,h=>by rw [AV.ids] at h;rw [AV.bK,fZ h]
 |.el l,h=>by rw [AV.ids] at h;rw [AV.bK,fZ h]
 |.agg l,h=>by rw [AV.ids] at h;rw [AV.bK,fZ h]
 |.bX l,h=>by rw [AV.ids] at h;rw [AV.bK,fZ h]
 |.fn g l,h=>by rw [AV.ids] at h;rw [AV.bK,fZ h]
theorem fZ {f:Nat->Nat}:∀{l:List AV},(∀i ∈ AV.aN l,f i=i)->AV.aO f l=l
 |[],_=>rfl
 |x::l,h=>by rw [AV.aN] at h;rw [AV.aO,oH fun i hi=>h i (List.mem_append_left _ hi),fZ fun i hi=>h i (List.mem_append_right _ hi)]
end
theorem G8 {bx:List (List AV)} {S:rE} {m:Nat->Prop} (H:aM lim bs w bx S m):∀c ∈ bx,∀i ∈ AV.aN c,i<bx.length:=by
 intro c hc i hi;obtain ⟨k,hk⟩:=List.getElem?_of_mem hc;have hkl:k<bs.length:=by rw [H.len];exact (List.getElem?_eq_some_iff.1 hk).1
 obtain ⟨cc,tl,t,h1,h2,h3⟩:=H.box k bs[k] c (List.getElem?_eq_getElem hkl) hk;have:=DY h2 i hi;rw [H.len] at this;exact this
end
theorem oh {n i:Nat} (h:i<n):(List.range n).idxOf i=i:=by
 have:=List.nodup_range (n:=n);have h2:=this.idxOf_getElem i (by rw [List.length_range];exact h)
 rwa [List.getElem_range] at h2
theorem Ca {n k:Nat}:ic (List.range n) n k=k:=by
 unfold ic;rcases Nat.lt_or_ge k n with h|h
 ·rw [List.getElem?_range h]
 ·rw [List.getElem?_eq_none (by rw [List.length_range];exact h),List.length_range];simp only [];omega
theorem Dt {bx:List (List AV)}:∀(l:List (List AV)) (k:Nat),bx.drop k=l->bn bx (List.range' k l.length)=some l
 |[],k,h=>rfl
 |c::r,k,h=>by
  have hk:bx[k]?=some c:=by have:=List.getElem?_drop (xs:=bx) (i:=k) (j:=0);rw [h] at this;exact this.symm
  have hr:bx.drop (k+1)=r:=by rw [←List.tail_drop,h];rfl
  rw [List.length_cons,List.range'_succ,bn,hk,Dt r (k+1) hr]
theorem FH (bx:List (List AV)):bn bx (List.range bx.length)=some bx:=by rw [List.range_eq_range'];exact Dt bx 0 rfl
theorem TH (bs:List Nat):((List.range bs.length).map fun i=>bs.getD i 0)=bs:=by
 apply List.ext_getElem?;intro i;rw [List.getElem?_map];rcases Nat.lt_or_ge i bs.length with h|h
 ·rw [List.getElem?_range h,Option.map_some,List.getD_eq_getElem?_getD,List.getElem?_eq_getElem h];rfl
 ·rw [List.getElem?_eq_none (by rw [List.length_range];exact h),List.getElem?_eq_none h];rfl
theorem lV:∀(l:List (List AV)) (bx:List (List AV)) (k i:Nat),k+l.length<=bx.length->(aB bx (List.range' k l.length) l)[i]?=if k<=i∧i<k+l.length then l[i-k]? else bx[i]?
 |[],bx,k,i,h=>by
  rw [List.length_nil,List.range'_zero,aB];rw [if_neg oM]
  all_goals intros;contradiction
 |c::r,bx,k,i,h=>by
  rw [List.length_cons] at h;rw [List.length_cons,List.range'_succ,aB,lV r (bx.set k c) (k+1) i (by rw [List.length_set];omega)];by_cases e:i=k
  ·subst e;rw [if_neg oM,if_pos oM,List.getElem?_set_self oM,Nat.sub_self];rfl
  ·rw [List.getElem?_set_ne (fun h=>e h.symm)];by_cases e2:k+1<=i∧i<k+1+r.length
   ·rw [if_pos e2,if_pos oM];obtain ⟨j,rfl⟩:∃j,i=k+1+j:=⟨i-(k+1),oM⟩;rw [show k+1+j-(k+1)=j from by omega,show k+1+j-k=j+1 from by omega,List.getElem?_cons_succ]
   ·rw [if_neg e2,if_neg oM]
theorem IV {bx l:List (List AV)} (h:l.length=bx.length):aB bx (List.range bx.length) l=l:=by
 apply List.ext_getElem?;intro i;rw [List.range_eq_range',←h,lV l bx 0 i oM];by_cases hi:i<l.length
 ·rw [if_pos oM];rfl
 ·rw [if_neg oM,List.getElem?_eq_none oM,List.getElem?_eq_none oM]
theorem RJ {n:Nat} (x:AV):AV.bK (ic (List.range n) n) x=x:=oH fun i _=>Ca
theorem ET {n:Nat} (b:List (List AV)):b.map (AV.aO (ic (List.range n) n))=b:=(List.map_congr_left fun c _=>fZ fun i _=>Ca).trans (List.map_id _)
section
variable {lim lim' : Nat -> Nat} {bs bs' : List Nat} {w w' : World} {P : Program} {a : Act} {o : Oper} {m : Nat -> Prop} {K : Act -> World -> Prop} {Q : Exit -> Act -> World -> Prop} {σ : aJ}
theorem Ur {g:Nat} {cap ys:List AV} {r:AV} {bx':List (List AV)} (HC:aW P g ys σ.bx r bx') (H:aM lim bs w σ.bx (Sl σ.tm a) m) (hm:∀b,w.heap.size<=b->m b) (hd:∀k,o.dst=some k->k<a.tmps.size) {c:Call} {f:Operand} (ho:o.op=.call c) (hc:c.callee=.value f) (hv:val σ.tm f=.fn g cap) (hcf:AV.ak cap=true)
  (hys:ys=(c.args.toList.map (val σ.tm)).map AV.bY++cap) (hK:vM m lim bs w a ⟨dW σ.tm o.dst r,bx'⟩ K):o.wp P a w K Q:=by
 obtain ⟨H5,XP,hcall⟩:=HC;have hfr:=(nC H f).1.r;rw [hv,AV.R] at hfr;obtain ⟨vc,hfe,hcap⟩:=hfr;obtain ⟨hargs,uG⟩:=nN H c.args.toList;have hall:AV.Rs lim bs w ys (c.args.toList.map a.eval++vc.toList):=by rw [hys];exact kP hargs hcap
 have Wu:AV.ak ys=true:=by rw [hys];exact dX uG hcf
 have kX:(c.args.toList.map a.eval++vc.toList).length=ys.length:=AV.fB hall;have hgd:((List.range σ.bx.length).map fun i=>bs.getD i 0)=bs:=by rw [←H.len];exact TH bs
 have hrn:σ.bx.map (AV.aO (List.range σ.bx.length).idxOf)=σ.bx:=(List.map_congr_left fun c hc=>fZ fun i hi=>oh (G8 H c hc i hi)).trans (List.map_id _);have yN:∀(k:Nat) (x:AV) (v:Value),ys[k]?=some x->(c.args.toList.map a.eval++vc.toList)[k]?=some v->AV.R lim ((List.range σ.bx.length).map fun i=>bs.getD i 0) w x v:=by intro k x v hk hv;obtain ⟨v',h1,h2⟩:=kU hall hk;rw [hv] at h1;cases h1;rw [hgd];exact h2
 have yO:∀(k:Nat) (x:AV),ys[k]?=some x->x.flat=true:=fun k x hk=>eH Wu hk;have hE:=H.enter (List.nodup_range (n:=σ.bx.length)) (FH σ.bx) (fun c hc i hi=>List.mem_range.2 (G8 H c hc i hi)) (args:=ys) (vs:=c.args.toList.map a.eval++vc.toList) kX yO yN;rw [hgd,hrn] at hE;obtain ⟨HE,hE1,hE2,Xc⟩:=hE;have hrun:(execOp a.eval o).run P w=.ok (.enter g (c.args.map a.eval++vc)) w:=by unfold execOp;simp only [ho,resolve,hc,hfe,Deferred.ofValue,Sem.run_bind,Sem.run_pure,Result.andThen_ok,invoke,Array.empty_append];exact mP H5 _
 have hvs:(c.args.toList.map a.eval++vc.toList).toArray=c.args.map a.eval++vc:=by rw [←Array.toList_inj];simp
 unfold Oper.wp;rw [hrun];show Calls P g (c.args.map a.eval++vc) w _;rw [←hvs];refine (hcall lim _ w _ _ kX (fun b hb=> .inr (.inr hb)) HE).mono ?_;rintro e w' ⟨v,lim',bsn,rfl,H',GD,hpre⟩;have hL:=H.leave hm (List.nodup_range (n:=σ.bx.length)) (FH σ.bx) (bx':=bx') (by rw [List.length_range];exact XP) (r:=r) (v:=v) (Sc:=aS ys (c.args.toList.map a.eval++vc.toList)) (bsc:=bs) (bsn:=bsn) (lim':=lim') (w':=w') hgd.symm (fun i hi=>hpre i (by rwa [List.length_range] at hi)) (by rw [hrn];exact hE1) (by rw [hrn];exact hE2) Xc (by rw [hrn];exact H') (by rw [hrn];exact GD) o.dst;rw [ET,ET,RJ,List.length_range,IV (by rw [List.length_take];omega),List.take_append_drop] at hL;obtain ⟨HL,hfl⟩:=hL;refine hK lim' (bs++bsn.drop σ.bx.length) w' _ ⟨?_,hfl,fun i b hi=>by rw [List.getElem?_append_left (List.getElem?_eq_some_iff.1 hi).1];exact hi,bL _ _ _,put_defers _ _ _⟩;show aM lim' _ w' _ (Sl (dW σ.tm o.dst r) (a.put o.dst v)) m;rw [iE hd];exact HL
end
variable {P : Program} {T : jL} {sp : Sp} {n0 base : Nat} {σ τ : aJ} {Q : wL -> aJ -> Prop} {cal : xR}
def KC (bx:List (List AV)) (ids:List Nat) (K:List (List AV)->Prop):Prop:=
 match ids with
 |[]=>K []
 |[i]=>∃c,bx[i]?=some c∧K [c]
 |_=>False
theorem OI {bx:List (List AV)} {ids:List Nat} {K:List (List AV)->Prop} (h:KC bx ids K):∃cs,bn bx ids=some cs∧K cs:=by
 unfold KC at h;split at h
 ·exact ⟨[],rfl,h⟩
 ·rename_i i;obtain ⟨c,h1,h2⟩:=h;exact ⟨[c],by rw [bn,h1,bn],h2⟩
 ·exact h.elim
def gQ (bx:List (List AV)) (i:Nat) (c c':List AV) (K:List (List AV)->Prop):Prop:=bx[i]?=some c->∀b,b.length=bx.length->b[i]?=some c'->(∀j,j≠i->b[j]?=bx[j]?)->K b
theorem gQ.same {bx:List (List AV)} {i:Nat} {c:List AV} {K:List (List AV)->Prop} (h:K bx):gQ bx i c c K:=by
 intro h1 b h2 h3 h4;have:b=bx:=by
  apply List.ext_getElem?;intro j;by_cases e:j=i
  ·rw [e,h3,h1]
  ·exact h4 j e
 rw [this];exact h
theorem gQ.mk {bx:List (List AV)} {i:Nat} {c c':List AV} {K:List (List AV)->Prop} (h:∀b,b.length=bx.length->b[i]?=some c'->(∀j,j≠i->b[j]?=bx[j]?)->K b):gQ bx i c c' K:=fun _=>h
theorem gQ.out {bx:List (List AV)} {i:Nat} {c c':List AV} {K:List (List AV)->Prop} (h:gQ bx i c c' K) (h1:bx[i]?=some c):K (bx.set i c'):=
 h h1 _ (by rw [List.length_set]) (List.getElem?_set_self (List.getElem?_eq_some_iff.1 h1).1) (fun j hj=>List.getElem?_set_ne fun e=>hj e.symm)
attribute [irreducible] gQ
def Kr (bx:List (List AV)) (c:List AV) (K:List (List AV)->Prop):Prop:=∀b,b.length=bx.length+1->b[bx.length]?=some c->(∀j,j<bx.length->b[j]?=bx[j]?)->K b
theorem Kr.mk {bx:List (List AV)} {c:List AV} {K:List (List AV)->Prop} (h:∀b,b.length=bx.length+1->b[bx.length]?=some c->(∀j,j<bx.length->b[j]?=bx[j]?)->K b):Kr bx c K:=h
theorem Kr.out {bx:List (List AV)} {c:List AV} {K:List (List AV)->Prop} (h:Kr bx c K):K (bx++[c]):=
 h _ (by rw [List.length_append];rfl) (by rw [List.getElem?_append_right (Nat.le_refl _),Nat.sub_self];rfl) (fun j hj=>List.getElem?_append_left hj)
attribute [irreducible] Kr
def ZO (bx:List (List AV)) (ids:List Nat) (cs bs:List (List AV)) (K:List (List AV)->Prop):Prop:=
 match ids with
 |[]=>K bx
 |i::_=>
  match cs,bs with
  |[c],[c']=>gQ bx i c c' K
  |_,_=>False
theorem Vf {bx cs bs:List (List AV)} {ids:List Nat} {K:List (List AV)->Prop} (hc:bn bx ids=some cs) (h:ZO bx ids cs bs K):K (aB bx ids bs):=by
 unfold ZO at h;split at h
 ·rw [aB]
  ·exact h
  ·intros;contradiction
 ·rename_i i r;split at h
  ·rename_i c c';unfold bn at hc;split at hc
   ·rename_i c2 cs2 h1 h2;cases hc;have hr:r=[]:=by
     cases r with
     |nil=>rfl
     |cons j r=>
      unfold bn at h2;split at h2<;>cases h2
    subst hr;rw [aB,aB]
    ·exact h.out h1
    ·intros;contradiction
   ·cases hc
  ·exact h.elim
def ZP (bx nw:List (List AV)) (K:List (List AV)->Prop):Prop:=
 match nw with
 |[]=>K bx
 |[c]=>Kr bx c K
 |_=>False
theorem Vj {bx nw:List (List AV)} {K:List (List AV)->Prop} (h:ZP bx nw K):K (bx++nw):=by
 unfold ZP at h;split at h
 ·rw [List.append_nil];exact h
 ·exact h.out
 ·exact h.elim
def yOp (sp:Sp) (T:jL) (md:Md) (kn:Kn) (o:Oper) (σ:aJ) (K:aJ->Prop):Prop:=
 match σ with
 |⟨tm,bx⟩=>xW (Ir (val tm) bx o.op) fun ids=>KC bx ids fun cs=>EA sp false T (gJ md.ad o.dst) (gJ md.arr o.dst) bx.length kn (val tm) cs ids o.op fun v bs nw=>
   JS (jD (gJ md.ad o.dst) o.op) tm fun tm=>wX tm o.dst v fun tm=>ZO bx ids cs bs fun b=>ZP b nw fun b=>K ⟨tm,b⟩
theorem KA (hI:Is sp cal) (hT:rC T) {md:Md} {kn:Kn} {o:Oper} {K:aJ->Prop} (hσ:Ok σ) (hk:KN kn σ) (h:yOp sp T md kn o σ K):∃σ1 σ2,OA cal T md o σ=some σ1∧Ok σ2∧Qi false σ1 σ2∧KN (knD kn o.dst) σ2∧K σ2:=by
 unfold yOp at h;change xW (Ir (val σ.tm) σ.bx o.op) _ at h;rw [ky,←yg (oD hσ.tm) hσ.bx o.op] at h;obtain ⟨cs,hcs,h⟩:=OI h;obtain ⟨out,v,h1,h2,h3,h4,h5,h6,h7,h8⟩:=x8 (ty:=o.type) hI hT (oD hσ.tm) (lU hσ.bx hcs) hk h;rw [wC,nW] at h8;have h8:=Vj (Vf hcs h8);refine ⟨fin o.dst out (dS (val σ.tm) σ.bx o.op) (jD (gJ md.ad o.dst) o.op) σ,_,?_,⟨qf h4 (rU hσ.tm),ko (qO hσ.bx h5) h6⟩,?_,hk.next _ _ _ _,h8⟩
 ·unfold OA wQ;rw [hcs];simp only [];rw [h1];simp only [];rw [if_pos h2]
 ·rcases h7 with rfl|⟨e1,e2,e,z,rfl⟩
  ·exact .inl rfl
  ·cases hd:o.dst with
   |none=>exact .inl rfl
   |some d=>
    refine .inr ⟨e1,_,d,e,z,_,?_,rfl⟩;unfold fin;rw [e2];rfl
def OH (sp:Sp) (T:jL) (md:Md) (all:List Oper) (kn:Kn) (o:Oper) (σ:aJ) (K:Kn->aJ->Prop):Prop:=
 match o.guard with
 |none=>yOp sp T md kn o σ fun τ=>Hz kn o.dst fun kn=>K kn τ
 |some (j,want)=>
  match (all[j]?).bind (·.dst) with
  |none=>False
  |some t=>
   match assoc kn t with
   |some b=>
    match b==want with
    |true=>yOp sp T md kn o σ fun τ=>Hz kn o.dst fun kn=>K kn τ
    |false=>Ym o.dst σ fun τ=>Hz kn o.dst fun kn=>K kn τ
   |none=>
    match get σ.tm t with
    |.bool b=>(b=want->Go (yOp sp T md ((t,want)::kn) o σ fun τ=>Hz ((t,want)::kn) o.dst fun kn=>K kn τ))∧(b=(!want)->Go (Ym o.dst σ fun τ=>Hz ((t,!want)::kn) o.dst fun kn=>K kn τ))
    |.bX []=>Ym o.dst σ fun τ=>Hz kn o.dst fun kn=>K kn τ
    |_=>False
theorem Vi (hI:Is sp cal) (hT:rC T) {md:Md} {all:List Oper} {kn:Kn} {o:Oper} {K:Kn->aJ->Prop} (hσ:Ok σ) (hk:KN kn σ) (h:OH sp T md all kn o σ K):∃σ1 σ2 xA,lg cal T md all o σ=some σ1∧Ok σ2∧Qi false σ1 σ2∧KN xA σ2∧K xA σ2:=by
 unfold OH at h;unfold lg pg;split at h
 ·rename_i hg;rw [hg];obtain ⟨σ1,σ2,h1,h2,h3,h4,h5⟩:=KA hI hT hσ hk h;rw [u7] at h5;exact ⟨σ1,σ2,_,h1,h2,h3,h4,h5⟩
 ·rename_i j want hg;rw [hg];simp only [];split at h
  ·exact h.elim
  rename_i t ht;rw [ht];simp only [];have hsk:∀{kn:Kn},KN kn σ->(Ym o.dst σ fun τ=>Hz kn o.dst fun kn=>K kn τ)->∃σ1 σ2 xA,some (Cj o σ)=some σ1∧Ok σ2∧Qi false σ1 σ2∧KN xA σ2∧K xA σ2:=by intro kn hk h;change (wX σ.tm o.dst (.bX []) fun tm=>Hz kn o.dst fun kn=>K kn ⟨tm,σ.bx⟩) at h;rw [nW,u7] at h;exact ⟨_,_,_,rfl,(Bo hσ hk).1,.inl rfl,(Bo hσ hk).2,h⟩
  split at h
  ·rename_i b hb;have hgt:get σ.tm t=.bool b:=hk (.tmp t) b hb;rw [hgt];simp only [];split at h
   ·rename_i e;rw [e];obtain ⟨σ1,σ2,h1,h2,h3,h4,h5⟩:=KA hI hT hσ hk h;rw [u7] at h5;exact ⟨σ1,σ2,_,h1,h2,h3,h4,h5⟩
   ·rename_i e;rw [e];exact hsk hk h
  ·split at h
   ·rename_i b hb;rw [hb];simp only [];by_cases e:b=want
    ·rw [show (b==want)=true from by rw [e];exact beq_self_eq_true want];obtain ⟨σ1,σ2,h1,h2,h3,h4,h5⟩:=KA hI hT hσ (hk.cons (by rw [hb,e])) (h.1 e);rw [u7] at h5;exact ⟨σ1,σ2,_,h1,h2,h3,h4,h5⟩
    ·have e2:b=(!want):=by cases b<;>cases want<;>first|rfl|exact absurd rfl e
     rw [show (b==want)=false from by rw [e2];cases want<;>rfl];exact hsk (hk.cons (by rw [hb,e2])) (h.2 e2)
   ·rename_i hb;rw [hb];exact hsk hk h
   ·exact h.elim
def Ql (sp:Sp) (g:Nat) (c:List AV) (xs:List AV) (bx:List (List AV)) (K:AV->List (List AV)->Prop):Prop:=
 match assoc sp g with
 |some mY=>rf (oO (xs.map AV.bY++c)) fun args=>aV bx=true->mY args bx fun r b=>Go (Em r fun r=>K r b)
 |none=>False
theorem Qk (hS:af P sp) {g:Nat} {c xs:List AV} {bx:List (List AV)} {K:AV->List (List AV)->Prop} (hb:aV bx=true) (hc:xU c=true) (hx:gZ xs=true) (h:Ql sp g c xs bx K):∃r bx',aW P g (xs.map AV.bY++c) bx r bx'∧wv r=true∧aV bx'=true∧K r bx':=by
 unfold Ql at h;split at h
 ·rename_i mY hcon;rw [jK] at h;have h:=h hb;obtain ⟨r,b,g1,g2,g3,g4⟩:=hS g mY hcon _ _ _ (xm (uP hx) (pF hc)) h;have:=g4 _ h;unfold Go at this;rw [wE] at this;exact ⟨r,b,g1,g2,g3,this⟩
 ·exact h.elim
def Vh (sp:Sp) (al:List Nat) (T:jL) (md:Md) (all:List Oper) (kn:Kn) (o:Oper) (σ:aJ) (K:Kn->aJ->Prop):Prop:=
 match o.op with
 |.call c=>
  match c.callee with
  |.value f=>
   match val σ.tm f with
   |.fn g cap=>
    match mem g al with
    |true=>
     match o.guard with
     |none=>Ql sp g cap (c.args.toList.map (val σ.tm)) σ.bx fun r b=>wX σ.tm o.dst r fun tm=>K [] ⟨tm,b⟩
     |some _=>False
    |false=>OH sp T md all kn o σ K
   |_=>False
  |_=>OH sp T md all kn o σ K
 |_=>OH sp T md all kn o σ K
theorem MN (HT:kN P T) (HC:eT P cal) (hS:af P sp) (hI:Is sp cal) (hT:rC T) {al:List Nat} {md:Md} {all:List Oper} {kn:Kn} {o:Oper} {K:Kn->aJ->Prop} (hσ:Ok σ) (hk:KN kn σ) (h:Vh sp al T md all kn o σ K):
  ∃τ xA,Ok τ∧KN xA τ∧K xA τ∧∀{m:Nat->Prop} {lim:Nat->Nat} {bs:List Nat} {w:World} {a:Act} {Kc:Act->World->Prop} {Q:Exit->Act->World->Prop} {ops:Array Oper},ops.toList=all->(∀k,o.dst=some k->k<a.tmps.size)->aM lim bs w σ.bx (Sl σ.tm a) m->(∀b,w.heap.size<=b->m b)->jE md.base m lim bs w a τ Kc->if Region.wanted o (yielded ops a.tmps)=true then o.wp P a w Kc Q else Kc (a.put o.dst undef) w:=by
 have hG:OH sp T md all kn o σ K->∃τ xA,Ok τ∧KN xA τ∧K xA τ∧∀{m:Nat->Prop} {lim:Nat->Nat} {bs:List Nat} {w:World} {a:Act} {Kc:Act->World->Prop} {Q:Exit->Act->World->Prop} {ops:Array Oper},ops.toList=all->(∀k,o.dst=some k->k<a.tmps.size)->aM lim bs w σ.bx (Sl σ.tm a) m->(∀b,w.heap.size<=b->m b)->jE md.base m lim bs w a τ Kc->if Region.wanted o (yielded ops a.tmps)=true then o.wp P a w Kc Q else Kc (a.put o.dst undef) w:=by intro h;obtain ⟨σ1,σ2,xA,h1,h2,h3,h4,h5⟩:=Vi (cal:=cal) hI hT hσ hk h;refine ⟨σ2,xA,h2,h4,h5,fun {m lim bs w a Kc Q ops} he hd H hm hK=>?_⟩;subst he;exact nG HT HC H hm hd h1 (fun dN jZ w1 a2 hg=>hK _ _ _ _ (h3.go (ρ:=σ) hg.B))
 unfold Vh at h;split at h
 ·rename_i c hc;split at h
  ·rename_i f hf;split at h
   ·rename_i g cap hv;split at h
    ·split at h
     ·rename_i hg;have hwf:wv (val σ.tm f)=true:=oD hσ.tm f;rw [hv] at hwf;obtain ⟨r,b,g1,g2,g3,g4⟩:=Qk hS hσ.bx hwf (iP.2 fun v hv=>by
       obtain ⟨x,_,rfl⟩:=List.mem_map.1 hv;exact oD hσ.tm x) h
      rw [nW] at g4;refine ⟨⟨dW σ.tm o.dst r,b⟩,[],⟨qf g2 hσ.tm,g3⟩,KN.nil _,g4,fun {m lim bs w a Kc Q ops} he hd H hm hK=>?_⟩;rw [if_pos (by simp [Region.wanted,hg])];exact Ur g1 H hm hd hc hf hv (jM hwf) rfl (fun dN jZ w1 a2 hgo=>hK _ _ _ _ hgo.B)
     ·exact h.elim
    ·exact hG h
   ·exact h.elim
  ·exact hG h
 ·exact hG h
def Vg (sp:Sp) (al:List Nat) (T:jL) (md:Md) (all:List Oper):List Oper->Kn->aJ->(aJ->Prop)->Prop
 |[],_,σ,K=>K σ
 |o::r,kn,σ,K=>Vh sp al T md all kn o σ fun kn τ=>Vg sp al T md all r kn τ K
theorem MM (HT:kN P T) (HC:eT P cal) (hS:af P sp) (hI:Is sp cal) (hT:rC T) {al:List Nat} {ops:Array Oper} {md:Md} {K:aJ->Prop}:∀(l:List Oper) {kn:Kn} {σ:aJ},Ok σ->KN kn σ->Vg sp al T md ops.toList l kn σ K->∃τ,Ok τ∧K τ∧∀{m:Nat->Prop} {lim:Nat->Nat} {bs:List Nat} {w:World} {a:Act} {Q:Exit->Act->World->Prop},(∀o ∈ l,∀k,o.dst=some k->k<a.tmps.size)->aM lim bs w σ.bx (Sl σ.tm a) m->(∀b,w.heap.size<=b->m b)->jE md.base m lim bs w a τ (Q .normal)->wpList P ops Q l a w
 |[],kn,σ,hσ,hk,h=>⟨σ,hσ,h,fun hd H hm hK=>wpList_nil (hK _ _ _ _ ⟨H,Fr.refl,fun _ _ _ h=>h,rfl,rfl⟩)⟩
 |o::l,kn,σ,hσ,hk,h=>by obtain ⟨σ2,xA,h2,h4,h5,h6⟩:=MN (cal:=cal) HT HC hS hI hT hσ hk h;obtain ⟨τ,g1,g2,g3⟩:=MM HT HC hS hI hT l h2 h4 h5;refine ⟨τ,g1,g2,fun hd H hm hK=>wpList_step fun K' hK'=>?_⟩;refine h6 rfl (fun k hk=>hd o List.mem_cons_self k hk) H hm (fun dN jZ w1 a2 hg=>hK' a2 w1 ?_);exact g3 (fun o ho k hk=>by rw [hg.nt];exact hd o (List.mem_cons_of_mem _ ho) k hk) hg.hold (fun b hb=>hm b (Nat.le_trans hg.fr.qJ.size hb)) (fun gI qN w2 a3 hg2=>hK gI qN w2 a3 (hg.trans hg2))
theorem WP.aaA (B:Aj P T sp) (an:zy) (al:List Nat) {i:Nat} {ops:Array Oper} (h:VZ ops.toList fun all=>xW (ow all++an.ZF) fun ad=>xW an.arr fun arr=>xW (an.live.getD i []) fun live=>Vg sp al T ⟨ad,arr,base⟩ all all [] σ (Ml live Q)):WP P n0 base (.region i ops false) σ Q:=by refine WP.mk fun hg hσ=>?_;obtain ⟨cal,HC,hI⟩:=qC B.sp;rw [CB,ky,ky,ky] at h;obtain ⟨τ,g1,g2,g3⟩:=MM B.tok HC B.sp hI B.well ops.toList hσ (KN.nil σ) h;change (Gf (an.live.getD i []) τ.tm fun tm=>Q .normal ⟨tm,τ.bx⟩) at g2;rw [wh] at g2;refine ⟨.normal,⟨prune (an.live.getD i []) τ.tm,τ.bx⟩,fun hn hb H hm hK=>?_,⟨gV _ g1.tm,g1.bx⟩,g2⟩;exact wp_region_list (g3 (qx hg hn) H hm fun lim' bs' w' a' hgo=>hK lim' bs' w' a' ⟨hgo.hold.prune _,hgo.fr,hgo.pre,hgo.nt,hgo.df⟩)
def ZQ (T:jL) (σ:aJ) (rs:List ResultVar) (n:Nat) (G:AV->List (List AV)->Prop):Prop:=
 Ez T σ rs fun vs=>VP vs fun v=>σ.bx.length=n∧G v σ.bx
def aid (T:jL) (rs:List ResultVar) (n:Nat) (G:AV->List (List AV)->Prop) (e:wL) (τ:aJ):Prop:=
 match e with
 |.exit _=>False
 |_=>ZQ T τ rs n G
theorem Xf (HT:kN P T) {f:Nat} {fn:Func} {c:Code} (hf:P.funcs[f]?=some fn) (hg:o9 fn=true) (hb:fn.body=some c) {args:List AV} {bx:List (List AV)} (ha:gZ args=true) (hbx:aV bx=true) {G:AV->List (List AV)->Prop} (h:WP P fn.ntmps bx.length c ⟨params [] 0 args,bx⟩ (aid T fn.results.toList bx.length G)):∃r bx',aW P f args bx r bx'∧wv r=true∧aV bx'=true∧G r bx':=by
 unfold o9 at hg;rw [Bool.and_eq_true] at hg;obtain ⟨hg1,hg2⟩:=hg;rw [hb] at hg2;obtain ⟨e,σ,h1,h2,h3⟩:=WP.out h hg2 ⟨nA ha rfl,hbx⟩;have he:(e=.normal∨e=.ret)∧ZQ T σ fn.results.toList bx.length G:=by
  cases e with
  |normal=>exact ⟨.inl rfl,h3⟩
  |ret=>exact ⟨.inr rfl,h3⟩
  |exit i=>exact h3.elim
 obtain ⟨he,h3⟩:=he;unfold ZQ at h3;obtain ⟨vs,q1,q2,q3⟩:=xZ (n:=bx.length) h2 h3;rw [F8] at q3;obtain ⟨q3,q4⟩:=q3;refine ⟨jg vs,σ.bx,?_,qd q2,h2.bx,q4⟩;refine ⟨⟨fn,hf,by simpa using hg1,by rw [hb];rfl⟩,Nat.le_of_eq q3.symm,fun lim bs w ws m hl hm H=>?_⟩;refine calls_of_wp hf hb ?_;have hsz:fn.ntmps<=(ws.toArray++Array.replicate (fn.ntmps-ws.toArray.size) undef).size:=iw;have hbs:bs.length=bx.length:=H.len;refine h1 (m:=m) hsz (Nat.le_refl _) (iy hl H) hm fun lim' bs' w' a' hgo=>?_;obtain ⟨u,u1,u2⟩:=eU (fn:=fn) HT hgo.hold q1;have hpost:a'.defers=[]∧∃v,(results fn a'.tmps).run P w'=.ok v w'∧(∃v' lim' bs',Ending.returned v=.returned v'∧aM lim' bs' w' σ.bx (rS (jg vs) v') m∧Fr m lim w lim' w'∧∀i,i<bx.length->bs'[i]?=bs[i]?):=by refine ⟨hgo.df,u,u1,u,lim',bs',rfl,u2,hgo.fr,fun i hi=>?_⟩;have hib:i<bs.length:=oM;rw [hgo.pre i _ hi (List.getElem?_eq_getElem hib),List.getElem?_eq_getElem hib]
 rcases he with rfl|rfl
 ·exact hpost
 ·exact hpost
theorem Fn.U8 {f:Nat} {fn:Func} {c:Code} {n0:Nat} {rs:List ResultVar} (F:Fn Tryz.prog f fn c n0 rs) {mY:aC} {args:List AV} {bx:List (List AV)} (ha:gZ args=true) (hbx:aV bx=true) (h:Jo args fun tm=>pq c fun c=>WP Tryz.prog n0 bx.length c ⟨tm,bx⟩ (aid gW rs bx.length fun r b=>wv r=true->aV b=true->ag mY args bx r b)):∃r bx',aW Tryz.prog f args bx r bx'∧wv r=true∧aV bx'=true∧∀K,mY args bx K->K r bx':=by have h:=iU (yD h);rw [←F.nt,←F.rs] at h;obtain ⟨r,b,h1,h2,h3,h4⟩:=Xf tok F.at_ F.jA F.body ha hbx h;have h4:=h4 h2 h3;unfold ag at h4;obtain ⟨r2,b2,g1,g2,g3,g4,g5⟩:=h4;exact ⟨r2,b2,aW.aU h1 g1 g2 g3 g4,g3,g4,g5⟩
end V
namespace V
open Ab
variable {lim lim' : Nat -> Nat} {bs bs' : List Nat} {w w' : World} {P : Program} {T : jL} {a : Act} {o : Oper} {m : Nat -> Prop} {bx bx' : List (List AV)} {S S' : rE} {K : Act -> World -> Prop} {Q : Exit -> Act -> World -> Prop} {cal : xR} {σ σ' σ1 σ2 : aJ}
def aT (P:Program) (base:Nat) (ops:Array Oper) (o:Oper) (σ τ:aJ):Prop:=∀{m:Nat->Prop} {lim:Nat->Nat} {bs:List Nat} {w:World} {a:Act} {K:Act->World->Prop} {Q:Exit->Act->World->Prop},(∀k,o.dst=some k->k<a.tmps.size)->aM lim bs w σ.bx (Sl σ.tm a) m->(∀b,w.heap.size<=b->m b)->jE base m lim bs w a τ K->if Region.wanted o (yielded ops a.tmps)=true then o.wp P a w K Q else K (a.put o.dst undef) w
theorem XU {base:Nat} {ops:Array Oper} {M:List (Nat×Oper)->aJ->Prop} (hko:nH ops.toList=true) (hdst:∀o ∈ ops.toList,∀k,o.dst=some k->k<a.tmps.size) {Fin:aJ->Prop} (hM0:∀σ,M [] σ->Fin σ)
  (hMs:∀(pre post:List (Nat×Oper)) (i:Nat) (o:Oper) (σ:aJ),M (pre++(i,o)::post) σ->ops[i]?=some o->(∀p ∈ pre++(i,o)::post,ops[p.1]?=some p.2)->(pre++(i,o)::post).Pairwise (fun p q=>p.1<q.1)->(∀p ∈ pre++post,((iW [] ops.toList).getD i 0).testBit p.1=false)->∃σ1,aT P base ops o σ σ1∧M (pre++post) σ1):
  ∀(n:Nat) (l:List (Nat×Oper)),l.length=n->∀{lim:Nat->Nat} {bs:List Nat} {w:World} {σ:aJ} {a1:Act} {listed:Array Bool},listed.size=ops.size->l.Pairwise (fun p q=>p.1<q.1)->(∀p ∈ l,ops[p.1]?=some p.2)->(∀k,listed.getD k true=false↔∃o,(k,o) ∈ l)->
   (∀(j:Nat) (o:Oper),ops[j]?=some o->listed.getD j false=true->∀i ∈ dx o,listed.getD i false=true)->
   a1.tmps.size=a.tmps.size->aM lim bs w σ.bx (Sl σ.tm a1) m->(∀b,w.heap.size<=b->m b)->M l σ->(∀σ',Fin σ'->jE base m lim bs w a1 σ' (Q .normal))->wpAny P .any ops Q n listed a1 w:=by
 obtain ⟨hk1,hk2⟩:=og hko;have hall:∀j,ops.toList[j]?=ops[j]?:=fun j=>Array.getElem?_toList;have hpr:∀{o:Oper} {i:Nat},i ∈ dx o↔∃e ∈ o.after,Region.binds .any e=true∧e.on=i:=by
  intro o i;unfold dx;rw [List.mem_filterMap];constructor
  ·rintro ⟨e,h1,h2⟩;split at h2
   ·rename_i hb;cases h2;exact ⟨e,by simpa using h1,hb,rfl⟩
   ·cases h2
  ·rintro ⟨e,h1,h2,rfl⟩;exact ⟨e,by simpa using h1,by rw [if_pos h2]⟩
 intro n
 induction n with
 |zero=>
  intro l hl lim bs w σ a1 listed hsz hs hin hun Tt hts H hm h hK;obtain rfl:=List.eq_nil_of_length_eq_zero hl;have hfin:Fin σ:=hM0 σ h;refine ⟨?_,hK σ hfin lim bs w a1 ⟨H,Fr.refl,fun _ _ _ h=>h,rfl,rfl⟩⟩;rw [List.eq_nil_iff_forall_not_mem];intro i hi;obtain ⟨h0,-⟩:=mem_ready.1 hi;obtain ⟨o,ho⟩:=(hun i).1 h0;cases ho
 |succ n ih=>
  intro l hl lim bs w σ a1 listed hsz hs hin hun Tt hts H hm h hK;refine ⟨fun hr=>?_,fun i hi=>?_⟩
  ·
   exfalso;cases l with
   |nil=>simp at hl
   |cons p l=>
    obtain ⟨k,o⟩:=p;have zV:=hin _ List.mem_cons_self;have:k ∈ Region.ready .any ops listed:=by
     refine mem_ready.2 ⟨(hun k).2 ⟨o,List.mem_cons_self⟩,o,zV,fun e he hb=>?_⟩;have hlt:e.on<k:=hk1 k o (by rw [hall];exact zV) e.on (hpr.2 ⟨e,he,hb,rfl⟩);have agR:k<ops.size:=(Array.getElem?_eq_some_iff.1 zV).1;have hnot:¬listed.getD e.on true=false:=by
      intro hf;obtain ⟨o2,ho2⟩:=(hun e.on).1 hf;rcases List.mem_cons.1 ho2 with h1|h1
      ·cases h1;omega
      ·have:=(List.pairwise_cons.1 hs).1 _ h1;simp only at this;omega
     have hlt2:e.on<listed.size:=oM;simpa [hlt2] using hnot
    rw [hr] at this;cases this
  ·obtain ⟨h0,o,ho,AA⟩:=mem_ready.1 hi;obtain ⟨o',ho'⟩:=(hun i).1 h0;have:=hin _ ho';simp only [] at this;rw [ho] at this;cases this;obtain ⟨pre,post,rfl⟩:=List.append_of_mem ho';have hs0:=hs;rw [List.pairwise_append] at hs;obtain ⟨s1,s2,s3⟩:=hs;have vk:∀j ∈ dx o,listed.getD j false=true:=by intro j hj;obtain ⟨e,e1,e2,rfl⟩:=hpr.1 hj;exact AA e e1 e2
   have zU:∀p ∈ pre++post,((iW [] ops.toList).getD i 0).testBit p.1=false:=by
    intro p hp;cases hb:((iW [] ops.toList).getD i 0).testBit p.1 with
    |false=>rfl
    |true=>
     exfalso;have:=Hd (D:=fun k=>listed.getD k false=true) hk1 (fun j o2 hj hD=>Tt j o2 (by rw [←hall];exact hj) hD) (i+1) i o oM (by rw [hall];exact ho) vk p.1 hb;have hpl:p ∈ pre++(i,o)::post:=by
      rcases List.mem_append.1 hp with hp|hp
      ·exact List.mem_append_left _ hp
      ·exact List.mem_append_right _ (List.mem_cons_of_mem _ hp)
     have h2:=xG ((hun p.1).2 ⟨p.2,hpl⟩);rw [h2] at this;cases this
   obtain ⟨σ1,g1,g3⟩:=hMs pre post i o σ h ho hin hs0 zU;refine wpOp_step ho fun K' hK'=>?_;refine g1 (fun k hk=>by rw [hts];exact hdst o (List.mem_of_getElem? (by rw [hall];exact ho)) k hk) H hm (fun dN jZ w1 a2 hg=>hK' a2 w1 ?_);have hlen:(pre++post).length=n:=by rw [List.length_append,List.length_cons] at hl;rw [List.length_append];omega
   refine ih (pre++post) hlen (by simpa using hsz) ?_ (fun p hp=>hin p ?_) (fun k=>?_) (fun j o2 hj hD=>?_) (hg.nt.trans hts) hg.hold (fun b hb=>hm b (Nat.le_trans hg.fr.qJ.size hb)) g3 (fun σ' hF gI qN w2 a3 hg2=>hK σ' hF gI qN w2 a3 (hg.trans hg2))
   ·rw [List.pairwise_append];exact ⟨s1,(List.pairwise_cons.1 s2).2,fun p hp q hq=>s3 p hp q (List.mem_cons_of_mem _ hq)⟩
   ·rcases List.mem_append.1 hp with hp|hp
    ·exact List.mem_append_left _ hp
    ·exact List.mem_append_right _ (List.mem_cons_of_mem _ hp)
   ·by_cases hki:k=i
    ·subst hki;have hlt:k<listed.size:=by rw [hsz];exact (Array.getElem?_eq_some_iff.1 ho).1
     constructor
     ·intro h;simp [hlt] at h
     ·rintro ⟨o2,h2⟩;exfalso;rcases List.mem_append.1 h2 with h2|h2
      ·have:=s3 _ h2 (k,o) List.mem_cons_self;simp only [] at this;omega
      ·have:=(List.pairwise_cons.1 s2).1 _ h2;simp only [] at this;omega
    ·rw [getD_set_ne true (Ne.symm hki),hun k];constructor
     ·rintro ⟨o2,h2⟩;refine ⟨o2,?_⟩;rcases List.mem_append.1 h2 with h2|h2
      ·exact List.mem_append_left _ h2
      ·rcases List.mem_cons.1 h2 with e|h2
       ·cases e;exact absurd rfl hki
       ·exact List.mem_append_right _ h2
     ·rintro ⟨o2,h2⟩;refine ⟨o2,?_⟩;rcases List.mem_append.1 h2 with h2|h2
      ·exact List.mem_append_left _ h2
      ·exact List.mem_append_right _ (List.mem_cons_of_mem _ h2)
   ·intro j2 hj2;refine getD_set_true ?_;by_cases hji:j=i
    ·subst hji;rw [ho] at hj;cases hj;exact vk j2 hj2
    ·rw [getD_set_ne false (Ne.symm hji)] at hD;exact Tt j o2 hj hD j2 hj2
theorem P5 {base:Nat} (HT:kN P T) {ops:Array Oper} {M:List (Nat×Oper)->aJ->Prop} (hko:nH ops.toList=true) (hdst:∀o ∈ ops.toList,∀k,o.dst=some k->k<a.tmps.size) {id:Nat} {Fin:aJ->Prop} (hM0:∀σ,M [] σ->Fin σ)
  (hMs:∀(pre post:List (Nat×Oper)) (i:Nat) (o:Oper) (σ:aJ),M (pre++(i,o)::post) σ->ops[i]?=some o->(∀p ∈ pre++(i,o)::post,ops[p.1]?=some p.2)->(pre++(i,o)::post).Pairwise (fun p q=>p.1<q.1)->(∀p ∈ pre++post,((iW [] ops.toList).getD i 0).testBit p.1=false)->∃σ1,aT P base ops o σ σ1∧M (pre++post) σ1)
  (H:aM lim bs w σ.bx (Sl σ.tm a) m) (hm:∀b,w.heap.size<=b->m b) (h:M (dD 0 ops.toList) σ) (hK:∀σ',Fin σ'->jE base m lim bs w a σ' (Q .normal)):(Code.region id ops true).wp P Q a w:=by
 have hfr:Fr m lim w lim {w with drawn:=w.drawn+1}:=Fr.drew;have H2:aM lim bs {w with drawn:=w.drawn+1} σ.bx (Sl σ.tm a) m:=(H.world (hfr.ext (fun _ _ h=>h)) (fun b hb=>⟨rfl,H.free b hb⟩) (fun p g _=>⟨rfl,rfl⟩) (fun b hb=>H.top b hb)).1;refine wp_region_any HT.mix (XU hko hdst hM0 hMs ops.size _ (by rw [mi];simp) (by simp) (iM _ _) ?_ ?_ ?_ rfl H2 hm h ?_)
 ·intro p hp;have:=((dR _ _ p.1 p.2).1 hp).2;simpa using this
 ·intro k;constructor
  ·intro hk;have hlt:k<ops.size:=by
    rcases Nat.lt_or_ge k ops.size with h'|h'
    ·exact h'
    ·simp [Array.getD,h'] at hk;omega
   exact ⟨ops[k],(dR _ _ _ _).2 ⟨Nat.zero_le _,by simp [hlt]⟩⟩
  ·rintro ⟨o,ho⟩;have hh:=((dR _ _ _ _).1 ho).2;have hlt:k<ops.size:=by simpa using (List.getElem?_eq_some_iff.1 hh).1
   simp [hlt]
 ·intro j o hj hD;exfalso;rw [Array.getD_eq_getD_getElem?] at hD;cases hh:(Array.replicate ops.size false)[j]? with
  |none=>rw [hh] at hD;cases hD
  |some b=>
   rw [hh] at hD;have:=Array.getElem?_replicate (n:=ops.size) (v:=false) (i:=j);rw [hh] at this;split at this
   ·cases this;cases hD
   ·cases this
 ·intro σ' hF lim' bs' w' a' hg;exact hK σ' hF lim' bs' w' a' ⟨hg.hold,hfr.trans hg.fr,hg.pre,hg.nt,hg.df⟩
theorem FD {bx:List (List AV)}:∀(l:List (List AV)) (k:Nat),(∀(j:Nat) (c:List AV),l[j]?=some c->bx[k+j]?=some c)->bn bx (List.range' k l.length)=some l
 |[],k,h=>rfl
 |c::r,k,h=>by
  have h0:bx[k]?=some c:=h 0 c rfl;rw [List.length_cons,List.range'_succ,bn,h0,FD r (k+1) (fun j c hj=>by
   have:=h (j+1) c (by simpa using hj);rw [show k+1+j=k+(j+1) from by omega];exact this)]
theorem xI {bx:List (List AV)} {n:Nat} (hn:n<=bx.length):bn bx (List.range n)=some (bx.take n):=by
 have hl:(bx.take n).length=n:=by rw [List.length_take];omega
 have:=FD (bx:=bx) (bx.take n) 0 (fun j c hj=>by
  rw [Nat.zero_add];exact (gu hj).2)
 rw [hl] at this;rw [List.range_eq_range'];exact this
theorem Ed {bx l:List (List AV)} {n:Nat} (hn:n<=bx.length) (h:l.length=n):aB bx (List.range n) l=l++bx.drop n:=by
 subst h;apply List.ext_getElem?;intro i;rw [List.range_eq_range',lV l bx 0 i oM];by_cases hi:i<l.length
 ·rw [if_pos oM,List.getElem?_append_left hi];rfl
 ·rw [if_neg oM,List.getElem?_append_right oM,List.getElem?_drop];congr 1;omega
theorem Ik {n L k:Nat} (h:k<n):ic (List.range n) L k=k:=by unfold ic;rw [List.getElem?_range h]
theorem Mv {g n:Nat} {cap ys:List AV} {r:AV} {bx':List (List AV)} (hn:n<=σ.bx.length) (HC:aW P g ys (σ.bx.take n) r bx') (hlen:bx'.length=n) (hcl:∀c ∈ σ.bx.take n,∀i ∈ AV.aN c,i<n) (hyi:∀i ∈ AV.aN ys,i<n)
  (H:aM lim bs w σ.bx (Sl σ.tm a) m) (hm:∀b,w.heap.size<=b->m b) (hd:∀k,o.dst=some k->k<a.tmps.size) {c:Call} {f:Operand} (ho:o.op=.call c) (hc:c.callee=.value f) (hv:val σ.tm f=.fn g cap) (hcf:AV.ak cap=true)
  (hys:ys=(c.args.toList.map (val σ.tm)).map AV.bY++cap) (hK:vM m lim bs w a ⟨dW σ.tm o.dst r,bx'++σ.bx.drop n⟩ K):o.wp P a w K Q:=by
 obtain ⟨H5,XP,hcall⟩:=HC;have hfr:=(nC H f).1.r;rw [hv,AV.R] at hfr;obtain ⟨vc,hfe,hcap⟩:=hfr;obtain ⟨hargs,uG⟩:=nN H c.args.toList;have hall:AV.Rs lim bs w ys (c.args.toList.map a.eval++vc.toList):=by rw [hys];exact kP hargs hcap
 have Wu:AV.ak ys=true:=by rw [hys];exact dX uG hcf
 have kX:(c.args.toList.map a.eval++vc.toList).length=ys.length:=AV.fB hall;have hbl:bs.length=σ.bx.length:=H.len;have JN:=Bv bs (List.range n) (fun i hi=>by have:=List.mem_range.1 hi;omega);have hrn:(σ.bx.take n).map (AV.aO (List.range n).idxOf)=σ.bx.take n:=(List.map_congr_left fun c hc=>fZ fun i hi=>oh (hcl c hc i hi)).trans (List.map_id _);have yN:∀(k:Nat) (x:AV) (v:Value),ys[k]?=some x->(c.args.toList.map a.eval++vc.toList)[k]?=some v->AV.R lim ((List.range n).map fun i=>bs.getD i 0) w x v:=by
  intro k x v hk hv;obtain ⟨v',h1,h2⟩:=kU hall hk;rw [hv] at h1;cases h1;have hxi:∀i ∈ AV.ids x,i<n:=fun i hi=>hyi i (AV.iT.2 ⟨x,List.mem_of_getElem? hk,hi⟩);have:=AV.R.bK (f:=(List.range n).idxOf) (Cu JN (fun i hi=>List.mem_range.2 (hxi i hi))) h2
  rwa [oH (fun i hi=>oh (hxi i hi))] at this
 have yO:∀(k:Nat) (x:AV),ys[k]?=some x->x.flat=true:=fun k x hk=>eH Wu hk;have hE:=H.enter (List.nodup_range (n:=n)) (xI hn) (fun c hc i hi=>List.mem_range.2 (hcl c hc i hi)) (args:=ys) (vs:=c.args.toList.map a.eval++vc.toList) kX yO yN;rw [hrn] at hE;obtain ⟨HE,hE1,hE2,Xc⟩:=hE;have hrun:(execOp a.eval o).run P w=.ok (.enter g (c.args.map a.eval++vc)) w:=by unfold execOp;simp only [ho,resolve,hc,hfe,Deferred.ofValue,Sem.run_bind,Sem.run_pure,Result.andThen_ok,invoke,Array.empty_append];exact mP H5 _
 have hvs:(c.args.toList.map a.eval++vc.toList).toArray=c.args.map a.eval++vc:=by rw [←Array.toList_inj];simp
 unfold Oper.wp;rw [hrun];show Calls P g (c.args.map a.eval++vc) w _;rw [←hvs];refine (hcall lim _ w _ _ kX (fun b hb=> .inr (.inr hb)) HE).mono ?_;rintro e w' ⟨v,lim',bsn,rfl,H',GD,hpre⟩;have htl:(σ.bx.take n).length=n:=by rw [List.length_take];omega
 have hL:=H.leave hm (List.nodup_range (n:=n)) (xI hn) (bx':=bx') (by rw [List.length_range];omega) (r:=r) (v:=v) (Sc:=aS ys (c.args.toList.map a.eval++vc.toList)) (bsc:=(List.range n).map fun i=>bs.getD i 0) (bsn:=bsn) (lim':=lim') (w':=w') rfl (fun i hi=>hpre i (by rw [List.length_range] at hi;omega)) (by rw [hrn];exact hE1) (by rw [hrn];exact hE2) Xc (by rw [hrn];exact H') (by rw [hrn];exact GD) o.dst;have hbi:=G8 H';have hri:∀i ∈ AV.ids r,i<n:=by have:=UW (H'.slot 0);intro i hi;have h2:=this i hi;rw [H'.len,hlen] at h2;exact h2
 have hbn:bx'.map (AV.aO (ic (List.range n) σ.bx.length))=bx':=(List.map_congr_left fun c hc=>fZ fun i hi=>Ik (by have:=hbi c hc i hi;omega)).trans (List.map_id _);have hd0:bx'.drop n=[]:=List.drop_eq_nil_of_le oM;have ht0:bx'.take n=bx':=List.take_of_length_le oM;rw [List.length_range,hd0,ht0,hbn,oH (fun i hi=>Ik (hri i hi)),List.map_nil,List.append_nil,Ed hn hlen] at hL;obtain ⟨HL,hfl⟩:=hL;refine hK lim' (bs++bsn.drop n) w' _ ⟨?_,hfl,fun i b hi=>by rw [List.getElem?_append_left (List.getElem?_eq_some_iff.1 hi).1];exact hi,bL _ _ _,put_defers _ _ _⟩;show aM lim' _ w' _ (Sl (dW σ.tm o.dst r) (a.put o.dst v)) m;rw [iE hd];exact HL
end V
namespace V
open Ab
variable {P : Program} {T : jL} {o : Oper} {cal : xR} {σ σ' σ1 σ2 : aJ}
structure CD where
 k:Nat
 n:Nat
 g:Nat
 ys:List AV
 b0:List (List AV)
 b1:List (List AV)
 r:AV
structure CD.Ok (P:Program) (D:CD):Prop where
 call:aW P D.g D.ys D.b0 D.r D.b1
 l0:D.b0.length=D.n
 l1:D.b1.length=D.n
 cl:∀c ∈ D.b0,∀i ∈ AV.aN c,i<D.n
 cy:∀i ∈ AV.aN D.ys,i<D.n
structure OE (D:CD) (o:Oper) (σ σ1:aJ):Prop where
 gd:o.guard=none
 ops:∃c f cap,o.op=.call c∧c.callee=.value f∧val σ.tm f=.fn D.g cap∧AV.ak cap=true∧D.ys=(c.args.toList.map (val σ.tm)).map AV.bY++cap
 bx:σ.bx.take D.n=D.b0
 out:σ1=⟨dW σ.tm o.dst D.r,D.b1++σ.bx.drop D.n⟩
def Safe (D:CD) (a:gU):Prop:=a.ids=[]∨(∀i ∈ a.ids,D.n<=i)∨(a.wr=false∧∃i c0 n c c',a.ld=some (i,c0,n)∧D.b0[i]?=some c∧D.b1[i]?=some c'∧c.length=c'.length∧(c.drop c0).take n=(c'.drop c0).take n)
def qok (D:Option CD) (a:gU):Prop:=a.al=false∧∀D',D=some D'->Safe D' a
def stp (cal:xR) (T:jL) (md:Md) (all:List Oper) (D:Option CD) (k:Nat) (o:Oper) (σ σ1:aJ) (a:gU):Prop:=
 (∃D',D=some D'∧k=D'.k∧OE D' o σ σ1∧a=⟨k,[],true,false,none,[]⟩)∨((∀D',D=some D'->k≠D'.k)∧lg cal T md all o σ=some σ1∧a=iH T md.ad all k o σ σ1∧qok D a)
theorem OE.ad5 {D:CD} {all:List Oper} (h:OE D o σ σ1) (hk:∀t ∈ AR all o,get σ2.tm t=get σ.tm t):∃c f cap,o.op=.call c∧c.callee=.value f∧val σ2.tm f=.fn D.g cap∧AV.ak cap=true∧D.ys=(c.args.toList.map (val σ2.tm)).map AV.bY++cap:=by
 obtain ⟨c,f,cap,h1,h2,h3,h4,h5⟩:=h.ops;have hv:=val_congr (o:=o) (σ:=σ2) (σ2:=σ) hk;obtain ⟨amk,args,ats⟩:=c;have AY:amk=.value f:=h2;subst AY;have hin:∀x,x=f∨x ∈ args.toList->val σ2.tm x=val σ.tm x:=by
  intro x hx;refine hv x ?_;rw [h1];rcases hx with rfl|hx
  ·simp [Op.operands,Call.operands]
  ·simp [Op.operands,Call.operands];exact .inr (by simpa using hx)
 refine ⟨⟨.value f,args,ats⟩,f,cap,h1,rfl,by rw [hin f (.inl rfl)];exact h3,h4,?_⟩;rw [h5];congr 2;exact List.map_congr_left fun x hx=>(hin x (.inr hx)).symm
theorem OY {b1 bx:List (List AV)} {n i:Nat} {c:List AV} (h1:b1.length=n) (hi:n<=i):(b1++bx.drop n).set i c=b1++(bx.set i c).drop n:=by rw [List.set_append_right _ _ oM,List.drop_set,if_neg oM,h1]
theorem tF {b1:List (List AV)} {n:Nat} (h1:b1.length=n):∀(ids:List Nat) (cs bx:List (List AV)),(∀i ∈ ids,n<=i)->aB (b1++bx.drop n) ids cs=b1++(aB bx ids cs).drop n∧(aB bx ids cs).take n=bx.take n
 |[],cs,bx,_=>by rw [aK,aK];exact ⟨rfl,rfl⟩
 |i::r,[],bx,_=>by unfold aB;exact ⟨rfl,rfl⟩
 |i::r,c::cs,bx,h=>by have hi:=h i List.mem_cons_self;have ih:=tF h1 r cs (bx.set i c) (fun j hj=>h j (List.mem_cons_of_mem _ hj));rw [aB,aB,OY h1 hi,ih.1,ih.2];refine ⟨rfl,?_⟩;rw [List.take_set,List.set_eq_of_length_le];rw [List.length_take];omega
theorem AB {tm:Tm} {d:Option Nat} {v:AV} {t:Nat} (h:∀k,d=some k->k≠t):get (dW tm d v) t=get tm t:=by
 cases d with
 |none=>rfl
 |some k=>
  show get (put tm k v) t=get tm t;rw [ah,if_neg (fun e=>h k rfl e.symm)]
theorem JX {md:Md} {o:Oper} {v:AV}:∀p ∈ Dl o.dst v,p.1 ∈ Ic md.ad o:=by
 intro p hp;refine List.mem_append_left _ ?_;unfold Dl at hp;cases hd:o.dst with
 |none=>rw [hd] at hp;cases hp
 |some k=>rw [hd] at hp;rw [List.mem_singleton.1 hp];simp
theorem Qw {md:Md} {o:Oper} {k:Nat} (h:o.dst=some k):k ∈ Ic md.ad o:=by refine List.mem_append_left _ ?_;rw [h];simp
theorem I6 {D:CD} (h0:D.b0.length=D.n) (h1:D.b1.length=D.n) {md:Md} {all:List Oper} {k:Nat} {x:Oper} {τ:aJ} {E:BN} {b b':List (List AV)} (hb:σ.bx=b) (hb':σ'.bx=b') (hbt:(b.take D.n=D.b0∧b'=D.b1++b.drop D.n)∨(b'.take D.n=D.b0∧b=D.b1++b'.drop D.n))
  (hq:Safe D (iH T md.ad all k x σ τ)) (htm:∀t ∈ AR all x,get σ.tm t=get σ'.tm t) (he:∀i ∈ E.ids,i ∈ dJ all x σ∧jO md.ad x=true):Ab.Alike T md.ad all x σ σ'∧∀i ∈ E.ids,D.n<=i:=by
 have hsame:∀i,D.n<=i->σ.bx[i]?=σ'.bx[i]?:=by
  intro i hi;rw [hb,hb'];rcases hbt with ⟨_,h⟩|⟨_,h⟩
  ·rw [h,List.getElem?_append_right oM,List.getElem?_drop];congr 1;omega
  ·rw [h,List.getElem?_append_right oM,List.getElem?_drop];congr 1;omega
 have pK:(iH T md.ad all k x σ τ).ids=dJ all x σ++news σ.bx.length τ.bx.length:=rfl;rcases hq with hq|hq|⟨hw,i,c0,n,c,c',g1,g2,g3,g4,g5⟩
 ·rw [pK] at hq;have ht:dJ all x σ=[]:=(List.append_eq_nil_iff.1 hq).1;exact ⟨⟨htm,.inr fun i hi=>by rw [ht] at hi;cases hi⟩,fun i hi=>by have:=(he i hi).1;rw [ht] at this;cases this⟩
 ·rw [pK] at hq;exact ⟨⟨htm,.inr fun i hi=>hsame i (hq i (List.mem_append_left _ hi))⟩,fun i hi=>hq i (List.mem_append_left _ (he i hi).1)⟩
 ·have hw':jO md.ad x=false:=hw;have g1':wO T md.ad all x σ=some (i,c0,n):=g1;have hi0:i<D.n:=by have:=(List.getElem?_eq_some_iff.1 g2).1;omega
  have agU:∀{q:List (List AV)} {z:List AV},D.b1[i]?=some z->(D.b1++q)[i]?=some z:=fun {q z} hz=>by rw [List.getElem?_append_left (List.getElem?_eq_some_iff.1 hz).1];exact hz
  have htk:∀{q:List (List AV)},q.take D.n=D.b0->q[i]?=some c:=by
   intro q hq;have:(q.take D.n)[i]?=some c:=by rw [hq];exact g2
   exact (gu this).2
  refine ⟨⟨htm,.inl ?_⟩,fun j hj=>by have:=(he j hj).2;rw [hw'] at this;cases this⟩;rcases hbt with ⟨e1,e2⟩|⟨e1,e2⟩
  ·exact ⟨i,c0,n,c,c',g1',by rw [hb];exact htk e1,by rw [hb',e2];exact agU g3,g4,g5⟩
  ·exact ⟨i,c0,n,c',c,g1',by rw [hb,e2];exact agU g3,by rw [hb'];exact htk e1,g4.symm,g5.symm⟩
theorem QQ {md:Md} {all:List Oper} {D:Option CD} (hD:∀D',D=some D'->D'.b0.length=D'.n∧D'.b1.length=D'.n) {k j:Nat} {x y:Oper} {a b:gU} (hne:k≠j) (hx:stp cal T md all D k x σ σ1 a) (hy:stp cal T md all D j y σ1 σ2 b) (hk:jH all md.ad x y=false) (hc:a.kF b=false):
  ∃xY,stp cal T md all D j y σ xY b∧stp cal T md all D k x xY σ2 a:=by
 have hk0:=hk;unfold jH at hk;simp only [Bool.or_eq_false_iff] at hk;obtain ⟨⟨k1,k2⟩,k3⟩:=hk;rcases hx with ⟨D',d1,d2,d3,d4⟩|⟨x1,x2,x3,x4⟩
 ·rcases hy with ⟨D2,e1,e2,-⟩|⟨y1,y2,y3,y4⟩
  ·rw [d1] at e1;cases e1;exact absurd (d2.trans e2.symm) hne
  ·obtain ⟨h0,h1⟩:=hD D' d1;obtain ⟨F,f1,f2,f3,f4,f5,f6⟩:=Bt y2;have hal:F.nw=[]:=by have:=y4.1;rw [y3] at this;have h':(!Nat.ble σ2.bx.length σ1.bx.length)=false:=this;rw [f1] at h';exact zo h'
   have hs:=y4.2 D' d1;rw [y3] at hs;have hd:∀t ∈ AR all y,get σ1.tm t=get σ.tm t:=by intro t ht;rw [d3.out];exact AB fun q hq e=>fK k1 q (Qw hq) (by rw [e];exact ht)
   obtain ⟨hA,hF⟩:=I6 h0 h1 (σ:=σ1) (σ':=σ) (E:=F) rfl rfl (.inr ⟨d3.bx,by rw [d3.out]⟩) hs hd f3;obtain ⟨g1,g2⟩:=f6 σ hA (fun h=>absurd hal h);have hacc:=uu (E:=F) (k:=j) f4 hA (fun h=>absurd hal h) g2;have htl:=tF h1 F.ids F.cs σ.bx hF;refine ⟨F.app σ,.inr ⟨y1,g1,?_,y4⟩,.inl ⟨D',d1,d2,⟨d3.gd,d3.ad5 (all:=all) fun t ht=>?_,?_,?_⟩,d4⟩⟩
   ·rw [hacc,y3,←f1]
   ·exact vv _ _ _ (fun p hp e=>fK k3 p.1 (f2 p hp) (by rw [e];exact ht))
   ·show (aB σ.bx F.ids F.cs++F.nw).take D'.n=D'.b0;rw [hal,List.append_nil,htl.2,d3.bx]
   ·rw [f1,d3.out];show (⟨nV (dW σ.tm x.dst D'.r) F.ps,aB (D'.b1++σ.bx.drop D'.n) F.ids F.cs++F.nw⟩:aJ)=⟨dW (nV σ.tm F.ps) x.dst D'.r,D'.b1++(aB σ.bx F.ids F.cs++F.nw).drop D'.n⟩;rw [hal,List.append_nil,List.append_nil,htl.1,kI,kI];congr 1;exact vY _ _ _ (fun p hp q hq e=>fK k2 p.1 (JX p hp) (by rw [e];exact f2 q hq))
 ·rcases hy with ⟨D',d1,d2,d3,d4⟩|⟨y1,y2,y3,y4⟩
  ·obtain ⟨h0,h1⟩:=hD D' d1;obtain ⟨E,e1,e2,e3,e4,e5,e6⟩:=Bt x2;have hal:E.nw=[]:=by have:=x4.1;rw [x3] at this;have h':(!Nat.ble σ1.bx.length σ.bx.length)=false:=this;rw [e1] at h';exact zo h'
   have hs:=x4.2 D' d1;rw [x3] at hs;have hE:∀i ∈ E.ids,D'.n<=i:=by
    intro i hi;obtain ⟨q1,q2⟩:=e3 i hi;rcases hs with hs|hs|⟨hw,-⟩
    ·have:dJ all x σ=[]:=(List.append_eq_nil_iff.1 hs).1;rw [this] at q1;cases q1
    ·exact hs i (List.mem_append_left _ q1)
    ·have hw':jO md.ad x=false:=hw;rw [hw'] at q2;cases q2
   have htl:=tF h1 E.ids E.cs σ.bx hE;have hb1:σ1.bx=aB σ.bx E.ids E.cs:=by rw [e1];show aB σ.bx E.ids E.cs++E.nw=_;rw [hal,List.append_nil]
   have hbx:σ.bx.take D'.n=D'.b0:=by rw [←htl.2,←hb1];exact d3.bx
   have hd:∀t ∈ AR all x,get σ.tm t=get (dW σ.tm y.dst D'.r) t:=by intro t ht;exact (AB fun q hq e=>fK k3 q (Qw hq) (by rw [e];exact ht)).symm
   obtain ⟨hA,-⟩:=I6 h0 h1 (σ:=σ) (σ':=⟨dW σ.tm y.dst D'.r,D'.b1++σ.bx.drop D'.n⟩) (E:=E) rfl rfl (.inl ⟨hbx,rfl⟩) hs hd e3;obtain ⟨g1,g2⟩:=e6 _ hA (fun h=>absurd hal h);have hacc:=uu (E:=E) (k:=k) e4 hA (fun h=>absurd hal h) g2;have hto:E.app ⟨dW σ.tm y.dst D'.r,D'.b1++σ.bx.drop D'.n⟩=σ2:=by rw [d3.out,hb1,e1];show (⟨nV (dW σ.tm y.dst D'.r) E.ps,aB (D'.b1++σ.bx.drop D'.n) E.ids E.cs++E.nw⟩:aJ)=⟨dW (nV σ.tm E.ps) y.dst D'.r,D'.b1++(aB σ.bx E.ids E.cs).drop D'.n⟩;rw [hal,List.append_nil,htl.1,kI,kI];congr 1;exact (vY _ _ _ (fun p hp q hq e=>fK k2 p.1 (e2 p hp) (by rw [e];exact JX q hq))).symm
   refine ⟨⟨dW σ.tm y.dst D'.r,D'.b1++σ.bx.drop D'.n⟩,.inl ⟨D',d1,d2,⟨d3.gd,d3.ad5 (all:=all) fun t ht=>?_,hbx,rfl⟩,d4⟩,.inr ⟨x1,by rw [g1,hto],?_,x4⟩⟩
   ·rw [e1];exact (vv _ _ _ (fun p hp e=>fK k1 p.1 (e2 p hp) (by rw [e];exact ht))).symm
   ·rw [←hto,hacc,x3,←e1]
  ·rw [x3,y3] at hc;obtain ⟨xY,c1,c2,c3,c4⟩:=Np x2 y2 hk0 hc;exact ⟨xY,.inr ⟨y1,c1,by rw [c2];exact y3,y4⟩,.inr ⟨x1,c3,by rw [c4];exact x3,x4⟩⟩
def chn (cal:xR) (T:jL) (md:Md) (all:List Oper) (D:Option CD):List (Nat×Oper)->aJ->List gU->aJ->Prop
 |[],σ,A,σ'=>A=[]∧σ'=σ
 |(k,o)::r,σ,A,σ'=>∃σ1 a A1,A=a::A1∧stp cal T md all D k o σ σ1 a∧chn cal T md all D r σ1 A1 σ'
theorem QR {md:Md} {all:List Oper} {D:Option CD} {k:Nat} {a:gU} (h:stp cal T md all D k o σ σ1 a):a.at_=k:=by
 rcases h with ⟨D',-,-,-,rfl⟩|⟨-,-,rfl,-⟩
 ·rfl
 ·rfl
theorem FI {md:Md} {all:List Oper} {D:Option CD} (hD:∀D',D=some D'->D'.b0.length=D'.n∧D'.b1.length=D'.n) {j:Nat} {y:Oper} {post:List (Nat×Oper)}:∀(pre:List (Nat×Oper)) {σ σ':aJ} {A:List gU},chn cal T md all D (pre++(j,y)::post) σ A σ'->(∀p ∈ pre,p.1≠j)->(∀p ∈ pre,jH all md.ad p.2 y=false)->
  ∃A1 b A2,A=A1++b::A2∧A1.map gU.at_=pre.map (·.1)∧b.at_=j∧((∀a ∈ A1,a.kF b=false)->∃σ1,stp cal T md all D j y σ σ1 b∧chn cal T md all D (pre++post) σ1 (A1++A2) σ')
 |[],σ,σ',A,h,_,_=>by obtain ⟨σ1,a,A1,rfl,h1,h2⟩:=h;exact ⟨[],a,A1,rfl,rfl,QR h1,fun _=>⟨σ1,h1,h2⟩⟩
 |(k,x)::pre,σ,σ',A,h,hn,hk=>by obtain ⟨σ1,a,A1,rfl,h1,h2⟩:=h;have hkx:jH all md.ad x y=false:=hk _ List.mem_cons_self;have hnx:k≠j:=hn _ List.mem_cons_self;obtain ⟨B1,b,B2,rfl,f2,f3,f4⟩:=FI hD pre h2 (fun p hp=>hn p (List.mem_cons_of_mem _ hp)) (fun p hp=>hk p (List.mem_cons_of_mem _ hp));refine ⟨a::B1,b,B2,rfl,by rw [List.map_cons,List.map_cons,f2,QR h1],f3,fun hc=>?_⟩;obtain ⟨σ3,g1,g3⟩:=f4 (fun a ha=>hc a (List.mem_cons_of_mem _ ha));obtain ⟨xY,c1,c3⟩:=QQ hD hnx h1 g1 hkx (hc _ List.mem_cons_self);exact ⟨xY,c1,σ3,a,B1++B2,rfl,c3,g3⟩
end V
namespace V
open Ab
variable {P : Program} {T : jL} {sp : Sp} {n0 base : Nat} {o : Oper} {cal : xR} {σ σ' σ1 σ2 τ : aJ} {Q : wL -> aJ -> Prop}
def aj0 (cal:xR) (T:jL) (md:Md) (all:List Oper) (D:Option CD) (k:Nat) (o:Oper) (σ σ1:aJ) (a:gU):Prop:=
 (∃D',D=some D'∧k=D'.k∧OE D' o σ σ1∧a=⟨k,[],true,false,none,[]⟩)∨((∀D',D=some D'->k≠D'.k)∧lg cal T md all o σ=some σ1∧a=iH T md.ad all k o σ σ1)
def Xz (cal:xR) (T:jL) (md:Md) (all:List Oper) (D:Option CD):List (Nat×Oper)->aJ->List gU->aJ->Prop
 |[],σ,A,σ'=>A=[]∧σ'=σ
 |(k,o)::r,σ,A,σ'=>∃σ1 a A1,A=a::A1∧aj0 cal T md all D k o σ σ1 a∧Xz cal T md all D r σ1 A1 σ'
theorem Oi {md:Md} {all:List Oper} {D:Option CD}:∀(l:List (Nat×Oper)) {σ σ':aJ} {A:List gU},Xz cal T md all D l σ A σ'->(∀a ∈ A,qok D a)->chn cal T md all D l σ A σ'
 |[],σ,σ',A,h,_=>h
 |(k,o)::r,σ,σ',A,h,hq=>by
  obtain ⟨σ1,a,A1,rfl,h1,h2⟩:=h;refine ⟨σ1,a,A1,rfl,?_,Oi r h2 fun b hb=>hq b (List.mem_cons_of_mem _ hb)⟩;rcases h1 with h1|⟨g1,g2,g3⟩
  ·exact .inl h1
  ·exact .inr ⟨g1,g2,g3,hq a List.mem_cons_self⟩
inductive Kz:List gU->List gU->Prop
 |nil:Kz [] []
 |skip {a:gU} {l r:List gU} (h:a.ids=[]) (h2:a.al=false) (k:Kz l r):Kz (a::l) r
 |mE {a:gU} {l r:List gU} (h2:a.al=false) (k:Kz l r):Kz (a::l) (a::r)
theorem Kz.all {l r:List gU} (h:Kz l r) {D:Option CD} (hr:∀a ∈ r,∀D',D=some D'->Safe D' a):∀a ∈ l,qok D a:=by
 induction h with
 |nil=>intro a ha;cases ha
 |skip h h2 k ih=>
  intro a ha;rcases List.mem_cons.1 ha with rfl|ha
  ·exact ⟨h2,fun D' _=> .inl h⟩
  ·exact ih hr a ha
 |mE h2 k ih=>
  intro a ha;rcases List.mem_cons.1 ha with rfl|ha
  ·exact ⟨h2,hr _ List.mem_cons_self⟩
  ·exact ih (fun a ha=>hr a (List.mem_cons_of_mem _ ha)) a ha
theorem sN {a b:gU} (h:a.ids=[]∨b.ids=[]) (ha:a.al=false):a.kF b=false:=by
 unfold gU.kF;rw [ha];have:meets a.ids b.ids=false:=by
  rcases h with h|h
  ·rw [h];rfl
  ·rw [h];unfold meets;rw [List.any_eq_false];intro x _ hx;cases hx
 rw [this];simp
theorem Kz.mem {l r:List gU} (h:Kz l r):∀b ∈ l,(b.ids=[]∨b ∈ r)∧b.al=false:=by
 induction h with
 |nil=>intro b hb;cases hb
 |skip h h2 k ih=>
  intro b hb;rcases List.mem_cons.1 hb with rfl|hb
  ·exact ⟨.inl h,h2⟩
  ·exact ih b hb
 |mE h2 k ih=>
  intro b hb;rcases List.mem_cons.1 hb with rfl|hb
  ·exact ⟨.inr List.mem_cons_self,h2⟩
  ·exact ⟨(ih b hb).1.imp id (List.mem_cons_of_mem _),(ih b hb).2⟩
theorem Kz.aeI {an:List Nat} {l r:List gU} (h:Kz l r) (hr:r.Pairwise fun a b=>(an.getD b.at_ 0).testBit a.at_=true∨a.kF b=false):gT an none l:=by
 unfold gT
 induction h with
 |nil=>exact .nil
 |skip h h2 k ih=>exact List.pairwise_cons.2 ⟨fun b _=> .inr (.inl (sN (.inl h) h2)),ih hr⟩
 |mE h2 k ih=>
  rw [List.pairwise_cons] at hr;refine List.pairwise_cons.2 ⟨fun b hb=>?_,ih hr.2⟩;rcases (k.mem b hb).1 with e|e
  ·exact .inr (.inl (sN (.inr e) h2))
  ·exact (hr.1 b e).imp id .inl
def FT (a b:gU):Prop:=(∀i ∈ a.ids,i ∉ b.ids)∨wY a b
theorem FT.ne {k k2 i j:Nat} {wr al wr2 al2:Bool} {ld ld2:Option (Nat×Nat×Nat)} {ch ch2:List (Nat×List AV×List AV)} (h:i≠j):FT ⟨k,[i],wr,al,ld,ch⟩ ⟨k2,[j],wr2,al2,ld2,ch2⟩:=.inl fun x hx hy=>by simp only [List.mem_singleton] at hx hy;exact h (hx.symm.trans hy)
theorem FT.uJ {a b:gU} (h:wY a b):FT a b:=.inr h
def RQ (all:List Oper) (a:gU):List gU->Prop->Prop
 |[],R=>R
 |b::l,R=>
  match !(a.wr||b.wr)||bef all 3 a.at_ b.at_ with
  |true=>RQ all a l R
  |false=>FT a b∧Go (RQ all a l R)
def Lh (all:List Oper):List gU->Prop->Prop
 |[],R=>R
 |a::l,R=>RQ all a l (Lh all l R)
def Jq (all:List Oper) (a b:gU):Prop:=((iW [] all).getD b.at_ 0).testBit a.at_=true∨(a.wr||b.wr)=false∨FT a b
theorem Gl {all:List Oper} (hp:∀(j:Nat) (o:Oper),all[j]?=some o->∀i ∈ dx o,i<j) {a:gU}:∀{l:List gU} {R:Prop},RQ all a l R->(∀b ∈ l,Jq all a b)∧R
 |[],R,h=>⟨fun b hb=>(by cases hb),h⟩
 |b::l,R,h=>by
  rw [RQ] at h;split at h
  ·rename_i hc;obtain ⟨h1,h2⟩:=Gl hp h;refine ⟨fun c hc'=>?_,h2⟩;rcases List.mem_cons.1 hc' with rfl|hc'
   ·rw [Bool.or_eq_true] at hc;rcases hc with hc|hc
    ·exact .inr (.inl (by simpa using hc))
    ·exact .inl (ME hp 3 hc)
   ·exact h1 c hc'
  ·obtain ⟨h1,h2⟩:=Gl hp h.2;refine ⟨fun c hc'=>?_,h2⟩;rcases List.mem_cons.1 hc' with rfl|hc'
   ·exact .inr (.inr h.1)
   ·exact h1 c hc'
theorem EY {all:List Oper} (hp:∀(j:Nat) (o:Oper),all[j]?=some o->∀i ∈ dx o,i<j):∀{l:List gU} {R:Prop},Lh all l R->l.Pairwise (Jq all)∧R
 |[],R,h=>⟨.nil,h⟩
 |a::l,R,h=>by obtain ⟨h1,h2⟩:=Gl hp h;obtain ⟨h3,h4⟩:=EY hp h2;exact ⟨List.pairwise_cons.2 ⟨h1,h3⟩,h4⟩
theorem Jp {all:List Oper} {a b:gU} (h:Jq all a b) (ha:a.al=false):((iW [] all).getD b.at_ 0).testBit a.at_=true∨a.kF b=false:=by
 rcases h with h|h|h|h
 ·exact .inl h
 ·right;unfold gU.kF;rw [h,ha];simp
 ·right;unfold gU.kF;have:meets a.ids b.ids=false:=by unfold meets;rw [List.any_eq_false];intro x hx hm;exact h x hx (mem_iff.1 hm)
  rw [this,ha];simp
 ·right;unfold gU.kF;rw [NG h,ha];simp
def l6 (n:Nat) (bx bx':List (List AV)) (a:gU):Prop:=(∃i,a.ids=[i]∧n<=i)∨(a.wr=false∧∃i c0 k c c',a.ld=some (i,c0,k)∧i<n∧bx[i]?=some c∧bx'[i]?=some c'∧c.length=c'.length∧(c.drop c0).take k=(c'.drop c0).take k)
theorem l6.hi {n k i:Nat} {wr al:Bool} {ld:Option (Nat×Nat×Nat)} {ch:List (Nat×List AV×List AV)} {bx bx':List (List AV)} (h:n<=i):l6 n bx bx' ⟨k,[i],wr,al,ld,ch⟩:=.inl ⟨i,rfl,h⟩
theorem l6.ld {n k i c0 q:Nat} {al:Bool} {ids:List Nat} {ch:List (Nat×List AV×List AV)} {bx bx':List (List AV)} {c c':List AV} (h:i<n) (h1:bx[i]?=some c) (h2:bx'[i]?=some c') (h3:c.length=c'.length) (h4:(c.drop c0).take q=(c'.drop c0).take q):l6 n bx bx' ⟨k,ids,false,al,some (i,c0,q),ch⟩:=.inr ⟨rfl,i,c0,q,c,c',rfl,h,h1,h2,h3,h4⟩
def Nh (n:Nat) (D:Option (List (List AV)×List (List AV))):List gU->Prop->Prop
 |[],R=>R
 |a::l,R=>
  match D with
  |none=>R
  |some (bx,bx')=>l6 n bx bx' a∧Go (Nh n D l R)
theorem I7 {n:Nat} {D:Option (List (List AV)×List (List AV))}:∀{l:List gU} {R:Prop},Nh n D l R->(∀bx bx',D=some (bx,bx')->∀a ∈ l,l6 n bx bx' a)∧R
 |[],R,h=>⟨fun _ _ _ a ha=>(by cases ha),h⟩
 |a::l,R,h=>by
  unfold Nh at h;split at h
  ·exact ⟨fun _ _ e=>(by cases e),h⟩
  ·rename_i bx bx';obtain ⟨h1,h2⟩:=I7 h.2;refine ⟨fun b b' e c hc=>?_,h2⟩;cases e;rcases List.mem_cons.1 hc with rfl|hc
   ·exact h.1
   ·exact h1 _ _ rfl c hc
attribute [irreducible] FT l6
def dOp (sp:Sp) (T:jL) (md:Md) (k:Nat) (o:Oper) (σ:aJ) (K:List gU->aJ->Prop):Prop:=
 match o.guard with
 |some _=>False
 |none=>
  match σ with
  |⟨tm,bx⟩=>xW (Ir (val tm) bx o.op) fun ids=>
   match ids with
   |[]=>EA sp true T (gJ md.ad o.dst) (gJ md.arr o.dst) bx.length [] (val tm) [] [] o.op fun v bs nw=>
    match nw with
    |[]=>JS (jD (gJ md.ad o.dst) o.op) tm fun tm=>wX tm o.dst v fun tm=>K [] ⟨tm,bx⟩
    |_=>False
   |[i]=>∃c,bx[i]?=some c∧EA sp true T (gJ md.ad o.dst) (gJ md.arr o.dst) bx.length [] (val tm) [c] [i] o.op fun v bs nw=>
    match bs with
    |[c']=>
     match nw with
     |[]=>JS (jD (gJ md.ad o.dst) o.op) tm fun tm'=>wX tm' o.dst v fun tm'=>gQ bx i c c' fun b=>K [⟨k,[i],jO md.ad o,false,ldG T md.ad true o ⟨tm,bx⟩,if jO md.ad o=true then [(i,c,c')] else []⟩] ⟨tm',b⟩
     |_=>False
    |_=>False
   |_=>False
theorem abS (hI:Is sp cal) (hT:rC T) {md:Md} {all:List Oper} {k:Nat} {o:Oper} {K:List gU->aJ->Prop} (hσ:Ok σ) (h:dOp sp T md k o σ K):∃σ1 A0,lg cal T md all o σ=some σ1∧Ok σ1∧K A0 σ1∧Kz [iH T md.ad all k o σ σ1] A0:=by
 unfold dOp at h;split at h
 ·exact h.elim
 rename_i hg;change xW (Ir (val σ.tm) σ.bx o.op) _ at h;rw [ky] at h;have hte:=yg (oD hσ.tm) hσ.bx o.op;have hgo:pg all o σ=some true:=by unfold pg;rw [hg]
 have hbs:∀{cs:List (List AV)},bn σ.bx (dS (val σ.tm) σ.bx o.op)=some cs->(∀out,core cal T (gJ md.ad o.dst) (gJ md.arr o.dst) σ.bx.length (val σ.tm) cs (dS (val σ.tm) σ.bx o.op) o.type o.op=some out->out.ok=true->lg cal T md all o σ=some (fin o.dst out (dS (val σ.tm) σ.bx o.op) (jD (gJ md.ad o.dst) o.op) σ)):=by intro cs hcs out ho hk;unfold lg;rw [hgo];simp only [];unfold OA wQ;rw [hcs];simp only [];rw [ho];simp only [];rw [if_pos hk]
 split at h
 ·
  rename_i ht;have hc0:bn σ.bx (dS (val σ.tm) σ.bx o.op)=some []:=by rw [hte,ht];rfl
  obtain ⟨out,v,h1,h2,h3,h4,h5,h6,h7,h8⟩:=x8 (ty:=o.type) hI hT (oD hσ.tm) (show aV []=true from rfl) (KN.nil σ) h;have hv:v=out.v:=by
   rcases h7 with e|⟨e,-⟩
   ·exact e
   ·cases e
  subst hv;split at h8
  ·rename_i hnw;rw [wC,nW] at h8;have hrun:=hbs hc0 out (by rw [hte,ht];exact h1) h2;have hfin:fin o.dst out (dS (val σ.tm) σ.bx o.op) (jD (gJ md.ad o.dst) o.op) σ=⟨dW (eZ σ.tm (jD (gJ md.ad o.dst) o.op)) o.dst out.v,σ.bx⟩:=by unfold fin;rw [hte,ht,aK,hnw,List.append_nil]
   rw [hfin] at hrun;refine ⟨_,_,hrun,⟨qf h4 (rU hσ.tm),hσ.bx⟩,h8,.skip ?_ ?_ .nil⟩
   ·show dJ all o σ++news σ.bx.length σ.bx.length=[];rw [wu _ _ (Nat.le_refl _),List.append_nil];unfold dJ;rw [hgo];exact hte.trans ht
   ·show (!Nat.ble σ.bx.length σ.bx.length)=false;rw [Nat.ble_eq_true_of_le (Nat.le_refl _)];rfl
  ·exact h8.elim
 ·
  rename_i i ht;obtain ⟨c,hc,h⟩:=h;have hc0:bn σ.bx (dS (val σ.tm) σ.bx o.op)=some [c]:=by rw [hte,ht,bn,hc];rfl
  obtain ⟨out,v,h1,h2,h3,h4,h5,h6,h7,h8⟩:=x8 (ty:=o.type) hI hT (oD hσ.tm) (lU hσ.bx (by rw [hte,ht] at hc0;exact hc0)) (KN.nil σ) h;have hv:v=out.v:=by
   rcases h7 with e|⟨e,-⟩
   ·exact e
   ·cases e
  subst hv;split at h8
  ·rename_i c' hb;split at h8
   ·rename_i hnw;rw [wC,nW] at h8;have h8:=h8.out hc;have hrun:=hbs hc0 out (by rw [hte,ht];exact h1) h2;have hil:=(List.getElem?_eq_some_iff.1 hc).1;have hfin:fin o.dst out (dS (val σ.tm) σ.bx o.op) (jD (gJ md.ad o.dst) o.op) σ=⟨dW (eZ σ.tm (jD (gJ md.ad o.dst) o.op)) o.dst out.v,σ.bx.set i c'⟩:=by unfold fin;rw [hte,ht,hb,aB,aK,hnw,List.append_nil]
    have hok:aV (aB σ.bx [i] out.bs)=true:=qO hσ.bx h5;rw [hb,aB,aK] at hok;rw [hfin] at hrun;refine ⟨_,_,hrun,⟨qf h4 (rU hσ.tm),hok⟩,h8,?_⟩;have Y3:dJ all o σ=[i]:=by unfold dJ;rw [hgo];exact hte.trans ht
    have hacc:∀tm',iH T md.ad all k o σ ⟨tm',σ.bx.set i c'⟩=⟨k,[i],jO md.ad o,false,ldG T md.ad true o σ,if jO md.ad o=true then [(i,c,c')] else []⟩:=by
     intro tm';have hl:(σ.bx.set i c').length=σ.bx.length:=List.length_set;unfold iH;rw [Y3];simp only [hl,wu _ _ (Nat.le_refl _),List.append_nil,Nat.ble_eq_true_of_le (Nat.le_refl _),Bool.not_true];congr 1
     ·unfold wO ldG;rw [hgo];rfl
     ·have e1:σ.bx.getD i []=c:=by rw [List.getD_eq_getElem?_getD,hc];rfl
      have e2:(σ.bx.set i c').getD i []=c':=by rw [List.getD_eq_getElem?_getD,List.getElem?_set_self hil];rfl
      simp only [Ae,e1,e2]
    rw [hacc];exact .mE rfl .nil
   ·exact h8.elim
  ·exact h8.elim
 ·exact h.elim
def jl (n:Nat) (bx:List (List AV)):Prop:=∀(j:Nat) (c:List AV),j<n->bx[j]?=some c->∀i ∈ AV.aN c,i<n
theorem jl.mk {n:Nat} {bx:List (List AV)} (h:∀(j:Nat) (c:List AV),j<n->bx[j]?=some c->∀i ∈ AV.aN c,i<n):jl n bx:=h
theorem jl.out {n:Nat} {bx:List (List AV)} (h:jl n bx):∀(j:Nat) (c:List AV),j<n->bx[j]?=some c->∀i ∈ AV.aN c,i<n:=h
def wR (n:Nat) (ys:List AV):Prop:=∀i ∈ AV.aN ys,i<n
theorem wR.mk {n:Nat} {ys:List AV} (h:∀i ∈ AV.aN ys,i<n):wR n ys:=h
theorem wR.out {n:Nat} {ys:List AV} (h:wR n ys):∀i ∈ AV.aN ys,i<n:=h
attribute [irreducible] jl wR
def TP (sp:Sp) (base g:Nat) (cap xs:List AV) (bx:List (List AV)) (K:AV->List (List AV)->Prop):Prop:=
 match assoc sp g with
 |some mY=>rf (oO (xs.map AV.bY++cap)) fun args=>base<=bx.length∧jl base bx∧rf (xs.map AV.bY++cap) fun ys=>wR base ys∧
   ∀b0:List (List AV),b0.length=base->(∀j,j<base->b0[j]?=bx[j]?)->aV b0=true->mY args b0 fun r b1=>b1.length=base∧∀bx':List (List AV),bx'.length=bx.length->(∀j,j<base->bx'[j]?=b1[j]?)->(∀j,base<=j->bx'[j]?=bx[j]?)->Go (Em r fun r=>K r bx')
 |none=>False
theorem Ih {bx:List (List AV)} {n:Nat} (h:aV bx=true):aV (bx.take n)=true:=bg.2 fun c hc=>bg.1 h c (List.mem_of_mem_take hc)
theorem Qy {bx:List (List AV)} {n:Nat} (h:aV bx=true):aV (bx.drop n)=true:=bg.2 fun c hc=>bg.1 h c (List.mem_of_mem_drop hc)
theorem TN (hS:af P sp) {g:Nat} {c xs:List AV} {bx:List (List AV)} {K:AV->List (List AV)->Prop} (hb:aV bx=true) (hc:xU c=true) (hx:gZ xs=true) (h:TP sp base g c xs bx K):
  ∃r b1,aW P g (xs.map AV.bY++c) (bx.take base) r b1∧base<=bx.length∧b1.length=base∧jl base bx∧(∀i ∈ AV.aN (xs.map AV.bY++c),i<base)∧wv r=true∧aV (b1++bx.drop base)=true∧K r (b1++bx.drop base):=by
 unfold TP at h;split at h
 ·rename_i mY hcon;rw [jK] at h;obtain ⟨h1,h2,h3⟩:=h;rw [jK] at h3;obtain ⟨h3,h4⟩:=h3;have hl:(bx.take base).length=base:=by rw [List.length_take];omega
  have h5:=h4 (bx.take base) hl (fun j hj=>by rw [List.getElem?_take,if_pos hj]) (Ih hb);obtain ⟨r,b1,g1,g2,g3,g4⟩:=hS g mY hcon _ _ _ (xm (uP hx) (pF hc)) h5;obtain ⟨e1,e2⟩:=g4 _ h5;have hh:=e2 (b1++bx.drop base) (by rw [List.length_append,List.length_drop];omega) (fun j hj=>by rw [List.getElem?_append_left oM]) (fun j hj=>by
   rw [List.getElem?_append_right oM,List.getElem?_drop];congr 1;omega)
  unfold Go at hh;rw [wE] at hh;exact ⟨r,b1,g1,h1,e1,h2,h3.out,g2,ko g3 (Qy hb),hh⟩
 ·exact h.elim
def AZ (sp:Sp) (al fi:List Nat) (T:jL) (md:Md) (all:List Oper):List (Nat×Oper)->aJ->Option (List (List AV)×List (List AV))->List gU->(aJ->Prop)->Prop
 |[],_,_,_,_=>False
 |(k,o)::r,σ,D,A,R=>
  match r with
  |[]=>Lh all A (Nh md.base D A (Vh sp al T md all [] o σ fun _ τ=>R τ))
  |_::_=>
   match o.op with
   |.call c=>
    match c.callee with
    |.value f=>
     match val σ.tm f with
     |.fn g cap=>
      match mem g fi with
      |true=>
       match o.guard with
       |none=>
        match D with
        |none=>TP sp md.base g cap (c.args.toList.map (val σ.tm)) σ.bx fun rr b=>wX σ.tm o.dst rr fun tm=>AZ sp al fi T md all r ⟨tm,b⟩ (some (σ.bx,b)) A R
        |some _=>False
       |some _=>False
      |false=>dOp sp T md k o σ fun A0 τ=>AZ sp al fi T md all r τ D (A++A0) R
     |_=>dOp sp T md k o σ fun A0 τ=>AZ sp al fi T md all r τ D (A++A0) R
    |_=>dOp sp T md k o σ fun A0 τ=>AZ sp al fi T md all r τ D (A++A0) R
   |_=>dOp sp T md k o σ fun A0 τ=>AZ sp al fi T md all r τ D (A++A0) R
def DR (base:Nat) (Dx:Option (List (List AV)×List (List AV))) (D:Option CD):Prop:=(Dx=none∧D=none)∨∃d bx,D=some d∧Dx=some (bx,d.b1++bx.drop base)∧d.n=base∧d.b0=bx.take base∧d.b1.length=base
theorem DR.safe {Dx:Option (List (List AV)×List (List AV))} {D:Option CD} (h:DR base Dx D) {a:gU} (hs:∀bx bx',Dx=some (bx,bx')->l6 base bx bx' a):∀D',D=some D'->Safe D' a:=by
 intro D' hD;rcases h with ⟨-,e⟩|⟨d,bx,e1,e2,e3,e4,e5⟩
 ·rw [e] at hD;cases hD
 ·rw [e1] at hD;cases hD;have:=hs _ _ e2;unfold l6 at this;rcases this with ⟨i,g1,g2⟩|⟨g0,i,c0,k,c,c',g1,g2,g3,g4,g5,g6⟩
  ·refine .inr (.inl fun j hj=>?_);rw [g1] at hj;rw [List.mem_singleton.1 hj,e3];exact g2
  ·refine .inr (.inr ⟨g0,i,c0,k,c,c',g1,?_,?_,g5,g6⟩)
   ·rw [e4,List.getElem?_take,if_pos g2];exact g3
   ·rw [List.getElem?_append_left oM] at g4;exact g4
theorem GR (HT:kN P T) (HC:eT P cal) (hS:af P sp) (hI:Is sp cal) (hT:rC T) {al fi:List Nat} {md:Md} {ops:Array Oper} (hp:∀(j:Nat) (o:Oper),ops.toList[j]?=some o->∀i ∈ dx o,i<j) {R:aJ->Prop}:
  ∀(l:List (Nat×Oper)) {σ:aJ} {Dx:Option (List (List AV)×List (List AV))} {D:Option CD} {A:List gU},Ok σ->l.Pairwise (fun p q=>p.1<q.1)->DR md.base Dx D->(∀d,D=some d->CD.Ok P d∧∀p ∈ l,p.1≠d.k)->AZ sp al fi T md ops.toList l σ Dx A R->
   ∃(Dn:Option CD) (l':List (Nat×Oper)) (kL:Nat) (oL:Oper) (A' A0:List gU) (σL τ:aJ),l=l'++[(kL,oL)]∧((D=none∧∀d,Dn=some d->∃p ∈ l',p.1=d.k)∨Dn=D)∧(∀d,Dn=some d->CD.Ok P d)∧Xz cal T md ops.toList Dn l' σ A' σL∧Kz A' A0∧(A++A0).Pairwise (Jq ops.toList)∧(∀a ∈ A++A0,∀d,Dn=some d->Safe d a)∧aT P md.base ops oL σL τ∧Ok τ∧R τ
 |[],σ,Dx,D,A,hσ,hs,hDR,hD,h=>by unfold AZ at h;exact h.elim
 |(k,o)::r,σ,Dx,D,A,hσ,hs,hDR,hD,h=>by
  cases r with
  |nil=>
   unfold AZ at h;obtain ⟨h1,h2⟩:=EY hp h;obtain ⟨h3,h4⟩:=I7 h2;obtain ⟨τ,xA,g1,g2,g3,g4⟩:=MN (cal:=cal) HT HC hS hI hT hσ (KN.nil σ) h4;refine ⟨D,[],k,o,[],[],σ,τ,rfl,.inr rfl,fun d hd=>(hD d hd).1,⟨rfl,rfl⟩,.nil,by rw [List.append_nil];exact h1,?_,?_,g1,g3⟩
   ·intro a ha;rw [List.append_nil] at ha;exact hDR.safe fun bx bx' e=>h3 bx bx' e a ha
   ·intro m lim bs w a K Q hd H hm hK;exact g4 rfl hd H hm hK
  |cons p r=>
   rw [List.pairwise_cons] at hs;have hD2:∀d,D=some d->CD.Ok P d∧∀q ∈ p::r,q.1≠d.k:=fun d hd=>⟨(hD d hd).1,fun q hq=>(hD d hd).2 q (List.mem_cons_of_mem _ hq)⟩;have hOp:(dOp sp T md k o σ fun A0 τ=>AZ sp al fi T md ops.toList (p::r) τ Dx (A++A0) R)->
     ∃(Dn:Option CD) (l':List (Nat×Oper)) (kL:Nat) (oL:Oper) (A' A0:List gU) (σL τ:aJ),(k,o)::p::r=l'++[(kL,oL)]∧((D=none∧∀d,Dn=some d->∃p ∈ l',p.1=d.k)∨Dn=D)∧(∀d,Dn=some d->CD.Ok P d)∧Xz cal T md ops.toList Dn l' σ A' σL∧Kz A' A0∧(A++A0).Pairwise (Jq ops.toList)∧(∀a ∈ A++A0,∀d,Dn=some d->Safe d a)∧aT P md.base ops oL σL τ∧Ok τ∧R τ:=by
    intro h;obtain ⟨σ1,B0,h1,h2,h3,h4⟩:=abS (all:=ops.toList) hI hT hσ h;obtain ⟨Dn,l',kL,oL,A',A0,σL,τ,g1,g2,g3,g4,g5,g6,g7,g8,g9,g10⟩:=GR HT HC hS hI hT hp (p::r) h2 hs.2 hDR hD2 h3;refine ⟨Dn,(k,o)::l',kL,oL,iH T md.ad ops.toList k o σ σ1::A',B0++A0,σL,τ,by rw [g1];rfl,?_,g3,⟨σ1,_,A',rfl,.inr ⟨fun d hd=>?_,h1,rfl⟩,g4⟩,?_,by rw [←List.append_assoc];exact g6,by rw [←List.append_assoc];exact g7,g8,g9,g10⟩
    ·rcases g2 with ⟨e1,e2⟩|e
     ·exact .inl ⟨e1,fun d hd=>by obtain ⟨q,hq,e⟩:=e2 d hd;exact ⟨q,List.mem_cons_of_mem _ hq,e⟩⟩
     ·exact .inr e
    ·rcases g2 with ⟨e1,e2⟩|e
     ·obtain ⟨q,hq,e⟩:=e2 d hd;have:=hs.1 q (by rw [g1];exact List.mem_append_left _ hq);simp only at this;omega
     ·exact (hD d (by rw [←e];exact hd)).2 (k,o) List.mem_cons_self
    ·cases h4 with
     |skip e1 e2 e3=>cases e3;exact .skip e1 e2 g5
     |mE e2 e3=>cases e3;exact .mE e2 g5
   unfold AZ at h;simp only [] at h;split at h
   ·rename_i c hc;split at h
    ·rename_i f hf;split at h
     ·rename_i g cap hv;split at h
      ·split at h
       ·rename_i hg;split at h
        ·
         have hwf:wv (val σ.tm f)=true:=oD hσ.tm f;rw [hv] at hwf;obtain ⟨rr,b1,q1,q2,q3,q4,q5,q6,q7,q8⟩:=TN hS hσ.bx hwf (iP.2 fun v hv=>by
          obtain ⟨x,_,rfl⟩:=List.mem_map.1 hv;exact oD hσ.tm x) h
         rw [nW] at q8;have hDn:D=none:=by
          rcases hDR with ⟨-,e⟩|⟨d,bx,-,e,-⟩
          ·exact e
          ·cases e
         have htl:(σ.bx.take md.base).length=md.base:=by rw [List.length_take];omega
         have hok:CD.Ok P ⟨k,md.base,g,(c.args.toList.map (val σ.tm)).map AV.bY++cap,σ.bx.take md.base,b1,rr⟩:=⟨q1,htl,q3,fun c hc i hi=>by
          obtain ⟨j,hj⟩:=List.getElem?_of_mem hc;obtain ⟨hj1,hj2⟩:=gu hj;exact q4.out j c hj1 hj2 i hi,q5⟩
         obtain ⟨Dn,l',kL,oL,A',A0,σL,τ,g1,g2,g3,g4,g5,g6,g7,g8,g9,g10⟩:=GR HT HC hS hI hT hp (p::r) (σ:=⟨dW σ.tm o.dst rr,b1++σ.bx.drop md.base⟩) (D:=some ⟨k,md.base,g,(c.args.toList.map (val σ.tm)).map AV.bY++cap,σ.bx.take md.base,b1,rr⟩) ⟨qf q6 hσ.tm,q7⟩ hs.2 (.inr ⟨_,σ.bx,rfl,rfl,rfl,rfl,q3⟩) (fun d hd=>by
          cases hd;exact ⟨hok,fun q hq e=>by have:=hs.1 q hq;simp only at this e;omega⟩) q8
         have hDe:Dn=some ⟨k,md.base,g,(c.args.toList.map (val σ.tm)).map AV.bY++cap,σ.bx.take md.base,b1,rr⟩:=by
          rcases g2 with ⟨e,-⟩|e
          ·cases e
          ·exact e
         refine ⟨Dn,(k,o)::l',kL,oL,⟨k,[],true,false,none,[]⟩::A',A0,σL,τ,by rw [g1];rfl,.inl ⟨hDn,fun d hd=>⟨(k,o),List.mem_cons_self,?_⟩⟩,g3,⟨_,_,A',rfl,.inl ⟨_,hDe,rfl,⟨hg,⟨c,f,cap,hc,hf,hv,jM hwf,rfl⟩,rfl,rfl⟩,rfl⟩,g4⟩,.skip rfl rfl g5,g6,g7,g8,g9,g10⟩;rw [hDe] at hd;cases hd;rfl
        ·exact h.elim
       ·exact h.elim
      ·exact hOp h
     ·exact hOp h
    ·exact hOp h
   ·exact hOp h
theorem Kz.alr {l r:List gU} (h:Kz l r):∀a ∈ r,a.al=false:=by
 induction h with
 |nil=>intro a ha;cases ha
 |skip _ _ _ ih=>exact ih
 |mE h2 _ ih=>
  intro a ha;rcases List.mem_cons.1 ha with rfl|ha
  ·exact h2
  ·exact ih a ha
theorem Az:∀(k:Nat) (l:List Oper) (j:Nat) {p:Nat×Oper},(dD k l)[j]?=some p->p.1=k+j
 |k,[],j,p,h=>by simp [dD] at h
 |k,o::r,0,p,h=>by rw [dD] at h;simp at h;rw [←h];rfl
 |k,o::r,j+1,p,h=>by rw [dD] at h;have:=Az (k+1) r j (p:=p) (by simpa using h);omega
def LC (all:List Oper):Bool:=
 match all.length with
 |0=>false
 |n+1=>(List.range n).all fun k=>((iW [] all).getD n 0).testBit k
theorem WP.aik (B:Aj P T sp) (an:zy) (al fi:List Nat) {i:Nat} {ops:Array Oper} (hL:LC ops.toList=true) (h:VZ ops.toList fun all=>xW (ow all) fun ad=>xW an.arr fun arr=>xW (an.live.getD i []) fun live=>AZ sp al fi T ⟨ad,arr,base⟩ all (dD 0 all) σ none [] (Ml live Q)):WP P n0 base (.region i ops true) σ Q:=by
 refine WP.mk fun hg hσ=>?_;have hko:nH ops.toList=true:=by rw [jA,Bool.and_eq_true] at hg;simpa using hg.2
 obtain ⟨hk1,hk2⟩:=og hko;obtain ⟨cal,HC,hI⟩:=qC B.sp;rw [CB,ky,ky,ky] at h;obtain ⟨D,l',kL,oL,A',A0,σL,τ,g1,g2,g3,g4,g5,g6,g7,g8,g9,g10⟩:=GR B.tok HC B.sp hI B.well hk1 (dD 0 ops.toList) hσ (iM _ _) (.inl ⟨rfl,rfl⟩) (fun d hd=>by cases hd) h;rw [List.nil_append] at g6 g7;have abF:Ml (an.live.getD i []) Q τ:=g10;change (Gf (an.live.getD i []) τ.tm fun tm=>Q .normal ⟨tm,τ.bx⟩) at abF;rw [wh] at abF;have hDl:∀D',D=some D'->D'.b0.length=D'.n∧D'.b1.length=D'.n:=fun D' e=>⟨(g3 D' e).l0,(g3 D' e).l1⟩;have hch:=Oi l' g4 (g5.all g7);have hpr:gT (iW [] ops.toList) none A':=g5.aeI (by
  have hal:∀a ∈ A0,a.al=false:=g5.alr;exact g6.imp_of_mem fun {a b} ha hb h=>Jp h (hal a ha))
 have hkl:kL+1=ops.toList.length∧∀p ∈ l',p.1<kL:=by
  have hs:=iM ops.toList 0;rw [g1,List.pairwise_append] at hs;have hlen:l'.length+1=ops.toList.length:=by have:=congrArg List.length g1;rw [mi,List.length_append] at this;simpa using this.symm
  refine ⟨?_,fun p hp=>hs.2.2 p hp _ (List.mem_singleton.2 rfl)⟩;have hat:(dD 0 ops.toList)[l'.length]?=some (kL,oL):=by rw [g1,List.getElem?_append_right (Nat.le_refl _),Nat.sub_self];rfl
  have:=Az 0 ops.toList l'.length hat;omega
 have abA:∀k,k<kL->((iW [] ops.toList).getD kL 0).testBit k=true:=by unfold LC at hL;rw [←hkl.1] at hL;simp only [List.all_eq_true,List.mem_range] at hL;exact hL
 refine ⟨.normal,⟨prune (an.live.getD i []) τ.tm,τ.bx⟩,fun hn hb H hm hK=>?_,⟨gV _ g9.tm,g9.bx⟩,abF⟩;refine P5 (base:=base) (M:=fun l σ=>(l=[]∧σ=τ)∨∃l' A,l=l'++[(kL,oL)]∧chn cal T ⟨ow ops.toList,an.arr,base⟩ ops.toList D l' σ A σL∧gT (iW [] ops.toList) none A) B.tok hko (qx hg hn) (Fin:=fun σ'=>σ'=τ) ?_ ?_ H hm (.inr ⟨l',A',g1,hch,hpr⟩) (fun σ' hF=>?_)
 ·intro σ h;rcases h with ⟨-,e⟩|⟨l',A,e,-⟩
  ·exact e
  ·simp at e
 ·intro pre post i o σ h ho hin hs hno;have zV:∀p ∈ pre,jH ops.toList (ow ops.toList) p.2 o=false:=by
   intro p hp;rw [List.pairwise_append] at hs;have hlt:p.1<i:=hs.2.2 p hp (i,o) List.mem_cons_self;have hp2:=hin p (List.mem_append_left _ hp);rcases hk2 p.1 i p.2 o hlt (by simpa using hp2) (by simpa using ho) with hh|hh
   ·rw [hno p (List.mem_append_left _ hp)] at hh;cases hh
   ·exact hh
  rcases h with ⟨e,-⟩|⟨l',A,e,h1,h2⟩
  ·simp at e
  ·rcases List.eq_nil_or_concat post with rfl|⟨post',q,rfl⟩
   ·
    obtain ⟨e1,e2⟩:=List.append_inj' e rfl;simp only [List.cons.injEq,Prod.mk.injEq,and_true] at e2;obtain ⟨rfl,rfl⟩:=e2;have hpre:pre=[]:=by
     cases pre with
     |nil=>rfl
     |cons p pre=>
      exfalso;have h3:=hno p (by simp);rw [List.pairwise_append] at hs;have hlt:p.1<i:=hs.2.2 p List.mem_cons_self (i,o) List.mem_cons_self;rw [abA p.1 hlt] at h3;cases h3
    subst hpre;subst e1;obtain ⟨rfl,rfl⟩:=h1;exact ⟨τ,g8,.inl ⟨rfl,rfl⟩⟩
   ·rw [List.concat_eq_append,←List.cons_append,←List.append_assoc] at e;obtain ⟨e1,e2⟩:=List.append_inj' e rfl;simp only [List.cons.injEq,and_true] at e2;subst e2;subst e1;rw [List.pairwise_append] at hs;obtain ⟨A1,b,A2,rfl,f2,f3,f4⟩:=FI hDl pre h1 (fun p hp=>by have:=hs.2.2 p hp (i,o) List.mem_cons_self;simp only at this;omega) zV;obtain ⟨σ1,s1,s2⟩:=f4 (fun x hx=>by
     have hx1:x.at_ ∈ pre.map (·.1):=by rw [←f2];exact List.mem_map_of_mem hx
     obtain ⟨y,hy,e⟩:=List.mem_map.1 hx1;rcases h2.mid x hx with hh|hh|hh
     ·rw [f3,←e,hno y (List.mem_append_left _ hy)] at hh;cases hh
     ·exact hh
     ·cases hh)
    refine ⟨σ1,?_,.inr ⟨pre++post',A1++A2,by rw [List.concat_eq_append,List.append_assoc],s2,h2.drop⟩⟩;intro m lim bs w a K Q hd H hm hK;rcases s1 with ⟨D',d1,d2,d3,-⟩|⟨-,y2,-,-⟩
    ·have hDo:=g3 D' d1;rw [if_pos (by simp [Region.wanted,d3.gd])];obtain ⟨c,f,cap,c1,c2,c3,c4,c5⟩:=d3.ops;have hnl:D'.n<=σ.bx.length:=by have h1:=congrArg List.length d3.bx;rw [hDo.l0,List.length_take] at h1;omega
     refine Mv (g:=D'.g) (n:=D'.n) (ys:=D'.ys) (r:=D'.r) (bx':=D'.b1) hnl (by rw [d3.bx];exact hDo.call) hDo.l1 (fun c hc=>hDo.cl c (by rw [←d3.bx];exact hc)) hDo.cy H hm hd c1 c2 c3 c4 c5 ?_;rw [←d3.out];exact fun dN jZ w1 a2 hg=>hK _ _ _ _ hg.B
    ·exact nG B.tok HC H hm hd y2 (fun dN jZ w1 a2 hg=>hK _ _ _ _ hg.B)
 ·subst hF;exact fun lim' bs' w' a' hgo=>hK lim' bs' w' a' ⟨hgo.hold.prune _,hgo.fr,hgo.pre,hgo.nt,hgo.df⟩
end V
namespace V
open Ab
class Nx (p:Prop) (q:outParam Prop):Prop where
 h:q->p
class Ev (P:Program) (T:outParam jL) (sp:outParam Sp) (an:outParam zy) (al fi:outParam (List Nat)):Prop where
 b:Aj P T sp
theorem nX {p q:Prop} [n:Nx p q] (h:q):p:=n.h h
variable {P : Program} {T : jL} {sp : Sp} {an : zy} {al fi : List Nat} {n0 base : Nat} {σ : aJ} {Q : wL -> aJ -> Prop}
instance {p:Prop}:Nx (Go p) p:=⟨Go.mk⟩
instance {x y:Code}:Nx (WP P n0 base (.seq x y) σ Q) (WP P n0 base x σ (QN P n0 base y Q)):=⟨WP.seq⟩
instance {x:Operand} {y z:Code}:Nx (WP P n0 base (.cond x y z) σ Q) (Ud P n0 base y z σ Q (val σ.tm x)):=⟨WP.cond⟩
instance {i:Nat} {x:Code}:Nx (WP P n0 base (.block i x) σ Q) (WP P n0 base x σ (G9 i Q)):=⟨WP.block⟩
instance:Nx (WP P n0 base .skip σ Q) (Q .normal σ):=⟨WP.skip⟩
instance:Nx (WP P n0 base .ret σ Q) (Q .ret σ):=⟨WP.ret⟩
instance {i:Nat}:Nx (WP P n0 base (.exit i) σ Q) (Q (.exit i) σ):=⟨WP.exit⟩
instance {bx:List (List AV)} {i:Nat} {c:List AV} {K:List (List AV)->Prop}:Nx (gQ bx i c c K) (K bx):=⟨gQ.same⟩
instance [e:Ev P T sp an al fi] {i:Nat} {ops:Array Oper}:Nx (WP P n0 base (.region i ops false) σ Q) (VZ ops.toList fun all=>xW (ow all++an.ZF) fun ad=>xW an.arr fun arr=>xW (an.live.getD i []) fun live=>Vg sp al T ⟨ad,arr,base⟩ all all [] σ (Ml live Q)):=⟨WP.aaA e.b an al⟩
def lsB (b:Bool) (p:Prop):Prop:=
 match b with
 |true=>p
 |false=>False
theorem SF {b:Bool} {p:Prop} (h:lsB b p):b=true∧p:=by
 cases b
 ·exact h.elim
 ·exact ⟨rfl,h⟩
instance [e:Ev P T sp an al fi] {i:Nat} {ops:Array Oper}:Nx (WP P n0 base (.region i ops true) σ Q) (lsB (LC ops.toList) (VZ ops.toList fun all=>xW (ow all) fun ad=>xW an.arr fun arr=>xW (an.live.getD i []) fun live=>AZ sp al fi T ⟨ad,arr,base⟩ all (dD 0 all) σ none [] (Ml live Q))):=⟨fun h=>WP.aik e.b an al fi (SF h).1 (SF h).2⟩
end V
namespace Bk
theorem LZ {s:ByteArray} {k m:Nat} (h:cZ (bt s k)=false):gD s k m=k:=by
 unfold gD;cases hm:m-k with
 |zero=>rw [oG];omega
 |succ n=>rw [oG,if_neg (by rw [h];simp)];omega
end Bk
namespace V
open Ab
open Bk (Cm)
def cs (l:List Cm):AV:=.sl l.length (fQ l)
theorem aA:∀(l:List Cm),jR (fQ l)=true
 |[]=>rfl
 |c::l=>by rw [fQ,jR,jR,aA l];rfl
theorem sM (l:List Cm):wv (cs l)=true:=aA l
theorem vE:∀(l m:List Cm),fQ (l++m)=fQ l++fQ m
 |[],m=>rfl
 |c::l,m=>by rw [List.cons_append,fQ,fQ,vE l m];rfl
theorem kT:∀(l:List Cm),(fQ l).length=l.length*2
 |[]=>rfl
 |c::l=>by rw [fQ,List.length_cons,List.length_cons,List.length_cons,kT l];omega
inductive Nd where
 |mk (k y p b:Int) (an tg tx:ByteArray) (kids:List Nd) (lead ae:List Cm) (h:Bool) (tr:ByteArray)
namespace Nd
def k:Nd->Int|mk k _ _ _ _ _ _ _ _ _ _ _=>k
def y:Nd->Int|mk _ y _ _ _ _ _ _ _ _ _ _=>y
def p:Nd->Int|mk _ _ p _ _ _ _ _ _ _ _ _=>p
def b:Nd->Int|mk _ _ _ b _ _ _ _ _ _ _ _=>b
def an:Nd->ByteArray|mk _ _ _ _ an _ _ _ _ _ _ _=>an
def tg:Nd->ByteArray|mk _ _ _ _ _ tg _ _ _ _ _ _=>tg
def tx:Nd->ByteArray|mk _ _ _ _ _ _ tx _ _ _ _ _=>tx
def kids:Nd->List Nd|mk _ _ _ _ _ _ _ kids _ _ _ _=>kids
def lead:Nd->List Cm|mk _ _ _ _ _ _ _ _ lead _ _ _=>lead
def ae:Nd->List Cm|mk _ _ _ _ _ _ _ _ _ ae _ _=>ae
def h:Nd->Bool|mk _ _ _ _ _ _ _ _ _ _ h _=>h
def tr:Nd->ByteArray|mk _ _ _ _ _ _ _ _ _ _ _ tr=>tr
end Nd
mutual
def Sz:Nd->List AV
 |.mk k y p b an tg tx kids lead ae h tr=>[.int .i64 k,.int .i64 y,.int .i64 p,.int .i64 b,.str an,.str tg,.str tx,.sl kids.length (au kids),cs lead,cs ae,.bool h,.str tr]
def au:List Nd->List AV
 |[]=>[]
 |x::l=>Sz x++au l
end
def bF (x:Nd):List AV:=[.int .i64 x.k,.int .i64 x.y,.int .i64 x.p,.int .i64 x.b,.str x.an,.str x.tg,.str x.tx,.sl x.kids.length (au x.kids),cs x.lead,cs x.ae,.bool x.h,.str x.tr]
def fd (x:Nd) (any near one:Bool) (e:Int):List AV:=[.int .i64 x.k,.int .i64 x.y,.int .i64 x.p,.int .i64 x.b,.str x.an,.str x.tg,.str x.tx,.sl x.kids.length (au x.kids),cs x.lead,cs x.ae,.bool x.h,.str x.tr,.bool any,.bool near,.bool one,.int .i64 e]
def Hw (l:List Cm) (same:Bool) (e:Int):AV:=.agg [cs l,.bool same,.int .i64 e]
theorem mq (x:Nd):Sz x=bF x:=by cases x;rw [Sz];rfl
mutual
theorem Sw:∀(x:Nd),jR (Sz x)=true
 |.mk k y p b an tg tx kids lead ae h tr=>by have h1:=ai kids;have h2:=aA lead;have h3:=aA ae;rw [Sz];simp only [jR,cs,wv,AV.pf,AV.flat,AV.one,bE h1,bE h2,bE h3,bB h1,bB h2,bB h3,h1,h2,h3,Bool.and_self]
theorem ai:∀(l:List Nd),jR (au l)=true
 |[]=>rfl
 |x::l=>by rw [au];exact fV (Sw x) (ai l)
end
theorem jk (x:Nd):jR (bF x)=true:=by rw [←mq];exact Sw x
theorem jG:∀(l m:List Nd),au (l++m)=au l++au m
 |[],m=>rfl
 |c::l,m=>by rw [List.cons_append,au,au,jG l m,List.append_assoc]
theorem jU (x:Nd):au [x]=bF x:=by rw [au,au,List.append_nil,mq]
theorem bT:∀(l:List Nd),(au l).length=l.length*12
 |[]=>rfl
 |c::l=>by rw [au,List.length_append,bT l,mq,List.length_cons,show (bF c).length=12 from rfl];omega
theorem jv (l:List Cm):AV.ak (fQ l)=true:=bB (aA l)
theorem lW (l:List Nd):AV.ak (au l)=true:=bB (ai l)
theorem uq:∀{l m:List Cm},fQ l=fQ m->l=m
 |[],[],_=>rfl
 |[],c::m,h=>by cases h
 |c::l,[],h=>by cases h
 |⟨t,b⟩::l,⟨t',b'⟩::m,h=>by rw [fQ,fQ] at h;injection h with h1 h2;injection h2 with h2 h3;injection h1 with h1;injection h2 with h4 h5;have h1:t=t':=h1;have h5:b=b':=h5;rw [h1,h5,uq h3]
mutual
theorem Sy:∀{x y:Nd},Sz x=Sz y->x=y
 |.mk k y p b an tg tx kids lead ae h tr,.mk k' y' p' b' PX OV OQ jC mD qA h' EF,e=>by rw [Sz,Sz] at e;unfold cs at e;simp only [List.cons.injEq,AV.int.injEq,AV.str.injEq,AV.sl.injEq,AV.bool.injEq,true_and,and_true] at e;obtain ⟨e1,e2,e3,e4,e5,e6,e7,⟨-,e8⟩,⟨-,e9⟩,⟨-,e10⟩,e11,e12⟩:=e;rw [e1,e2,e3,e4,e5,e6,e7,ND e8,uq e9,uq e10,e11,e12]
theorem ND:∀{l m:List Nd},au l=au m->l=m
 |[],[],_=>rfl
 |[],c::m,h=>by have:=congrArg List.length h;rw [bT,bT,List.length_nil,List.length_cons] at this;omega
 |c::l,[],h=>by have:=congrArg List.length h;rw [bT,bT,List.length_nil,List.length_cons] at this;omega
 |x::l,y::m,h=>by rw [au,au] at h;obtain ⟨h1,h2⟩:=List.append_inj h (by rw [mq,mq];rfl);rw [Sy h1,ND h2]
end
theorem tX {x y:Nd} (h:bF x=bF y):x=y:=Sy (by rw [mq,mq];exact h)
def c61:aC:=fun args bx K=>match args,bx with
 |[.str s,.int .i64 a],[]=>s.size<=900000∧(Bk.kD s a=true->K (.bool true) [])∧(Bk.kD s a=false->(0<=a∧a<s.size)->K (.bool false) [])
 |_,_=>False
theorem Jw:aC.OK Tryz.prog 61 c61:=by
 refine il (g:=Hy fun s a=>some (.bool (Bk.kD s a))) rfl fun args bx K0 h=>?_;unfold c61 at h;split at h
 ·rename_i s a;refine ⟨rfl,.bool (Bk.kD s a),by show (if _ then _ else _)=_;rw [if_pos h.1],rfl,fun K hK=>?_⟩;cases he:Bk.kD s a with
  |true=>exact hK.2.1 he
  |false=>
   refine hK.2.2 he ?_;unfold Bk.kD at he;simp only [Bool.or_eq_false_iff,decide_eq_false_iff_not] at he;omega
 ·exact h.elim
def c93:aC:=fun args bx K=>match args,bx with
 |[.int .u8 c],[]=>K (.bool (Bk.sI c)) []
 |_,_=>False
theorem Ls:aC.OK Tryz.prog 93 c93:=by
 refine il (g:=pI fun c=> .bool (Bk.sI c)) rfl fun args bx K0 h=>?_;unfold c93 at h;split at h
 ·exact ⟨rfl,_,rfl,rfl,fun K hK=>hK⟩
 ·exact h.elim
def c63:aC:=fun args bx K=>match args,bx with
 |[.int .u8 c],[]=>K (.bool (Bk.cZ c)) []
 |_,_=>False
theorem RY:aC.OK Tryz.prog 63 c63:=by
 refine il (g:=pI fun c=> .bool (Bk.cZ c)) rfl fun args bx K0 h=>?_;unfold c63 at h;split at h
 ·exact ⟨rfl,_,rfl,rfl,fun K hK=>hK⟩
 ·exact h.elim
def c32:aC:=fun args bx K=>match args,bx with
 |[.str s,.int .i64 a],[]=>s.size<=900000∧∀(f t:Int),(0<=f∧f<=t∧t<=s.size∧(0<=a->a<=s.size->f<=a∧a<=t))->K (.bX [.int .i64 f,.int .i64 t]) []
 |_,_=>False
theorem Gp:aC.OK Tryz.prog 32 c32:=by
 refine il (g:=Hy fun s a=>some (.bX [.int .i64 (Bk.bG s (Bk.aY s a):Nat),.int .i64 (Bk.l7 s (Bk.aY s a):Nat)])) rfl fun args bx K0 h=>?_;unfold c32 at h;split at h
 ·rename_i s a;refine ⟨rfl,_,by show (if _ then _ else _)=_;rw [if_pos h.1],rfl,fun K hK=>hK.2 _ _ ?_⟩;have h1:=Bk.fT s (Bk.aY s a);have h2:=Bk.rM s (Bk.aY s a);have h3:=Bk.tC (Bk.mG s a);refine ⟨oM,oM,oM,fun h4 h5=>?_⟩;have:Bk.aY s a=a.toNat:=by unfold Bk.aY;omega
  omega
 ·exact h.elim
def c33:aC:=fun args bx K=>match args,bx with
 |[.str s,.int .i64 a,.int .i64 b],[]=>(s.size<=900000∧0<=a∧0<=b∧b<=s.size)∧∀(f:Int),(a<=f∧(a<=b->f<=b)∧(b<=a->f=a))->(f<b->Bk.cZ (bt s f.toNat)=false)->(Bk.cZ (bt s a.toNat)=false->f=a)->K (.int .i64 f) []
 |_,_=>False
theorem Eh:aC.OK Tryz.prog 33 c33:=by
 refine il (g:=O6 fun s a b=>if 0<=a∧0<=b∧b<=s.size then some (.int .i64 (Bk.gD s a.toNat b.toNat:Nat)) else none) rfl fun args bx K0 h=>?_;unfold c33 at h;split at h
 ·rename_i s a b;obtain ⟨⟨h0,h1,h2,h3⟩,-⟩:=h;refine ⟨rfl,.int .i64 (Bk.gD s a.toNat b.toNat:Nat),?_,rfl,fun K hK=>hK.2 _ ?_ ?_ ?_⟩
  ·show (if _ then (if _ then _ else _) else _)=_;rw [if_pos h0,if_pos ⟨h1,h2,h3⟩]
  ·have g1:=Bk.Aa s a.toNat b.toNat;refine ⟨oM,fun h4=>?_,fun h4=>?_⟩
   ·have:=Bk.z8 (s:=s) (k:=a.toNat) (m:=b.toNat) oM;omega
   ·have:Bk.gD s a.toNat b.toNat=a.toNat:=by unfold Bk.gD;rw [show b.toNat-a.toNat=0 by omega,Bk.oG];omega
    omega
  ·intro hf;rw [Int.toNat_natCast];exact Bk.L6 oM
  ·intro hf;rw [Bk.LZ hf];omega
 ·exact h.elim
def c90:aC:=fun args bx K=>match args,bx with
 |[.str s,.int .i64 a],[]=>s.size<=900000∧∀(n:Int),(0<=n∧n<=900000)->K (.int .i64 n) []
 |_,_=>False
theorem RV:aC.OK Tryz.prog 90 c90:=by
 refine il (g:=Hy fun s a=>some (.int .i64 (Bk.lQ s (Bk.aY s a):Nat))) rfl fun args bx K0 h=>?_;unfold c90 at h;split at h
 ·rename_i s a;refine ⟨rfl,_,by show (if _ then _ else _)=_;rw [if_pos h.1],rfl,fun K hK=>hK.2 _ ?_⟩;have h1:=Bk.mG s a;have h2:Bk.lQ s (Bk.aY s a)<=Bk.aY s a:=by
   unfold Bk.lQ;split
   ·omega
   ·exact Nat.le_trans (Bk.FQ s _ _) (Bk.fT s _)
  have:=h.1;omega
 ·exact h.elim
def ai0:aC:=fun args bx K=>match args,bx with
 |[.str s,.int .i64 a,.bool fl],[]=>(s.size<=900000∧0<=a∧a<=s.size)∧(∀(an tg:ByteArray) (p:Int),(a<=p∧p<=s.size)->K (.bX [.str an,.str tg,.int .i64 p,.int .i64 0]) [])∧(∀(an tg:ByteArray) (p e:Int),e≠0->K (.bX [.str an,.str tg,.int .i64 p,.int .i64 e]) [])
 |_,_=>False
def aiT:aC:=fun args bx K=>match args,bx with
 |[.str s,.int .i64 a],[]=>(s.size<=900000∧0<=a∧a<=s.size)∧(∀(t:ByteArray) (p:Int),(a<p∧p<=s.size)->K (.bX [.str t,.int .i64 p,.int .i64 0]) [])∧(∀(t:ByteArray) (p e:Int),e≠0->K (.bX [.str t,.int .i64 p,.int .i64 e]) [])
 |_,_=>False
def aiR:aC:=fun args bx K=>match args,bx with
 |[.str s,.int .i64 a,.bool fl],[]=>(s.size<=900000∧0<=a)∧(a<s.size->K (.bool true) [])∧K (.bool false) []
 |_,_=>False
def aiM:aC:=fun args bx K=>match args,bx with
 |[.str s,.int .i64 a,.int .i64 n,.bool fl],[]=>(s.size<=900000∧0<=a∧a<=s.size)∧(∀(t:ByteArray) (p:Int) (one:Bool),(a<p∧p<=s.size)->K (.bX [.str t,.int .i64 p,.bool one,.int .i64 0]) [])∧(∀(t:ByteArray) (p e:Int) (one:Bool),e≠0->K (.bX [.str t,.int .i64 p,.bool one,.int .i64 e]) [])
 |_,_=>False
theorem Qu (r:Option (List Cm×Bool×Nat)):wv (Ke r)=true:=by
 unfold Ke;split
 ·rename_i l same p;show xU [.sl l.length (fQ l),.bool same,.int .i64 p,.int .i64 0]=true;simp only [xU,wv,AV.flat,aA,bB (aA l),Bool.and_self]
 ·rfl
def aiB:aC:=fun args bx K=>match args,bx with
 |[.str s,.int .i64 a,.int .i64 n],[]=>(s.size<=900000∧0<=a∧a<=s.size)∧(∀(l:List Cm) (same:Bool) (p:Int),(a<=p∧p<=s.size∧l.length+a<=p)->K (.bX [cs l,.bool same,.int .i64 p,.int .i64 0]) [])∧K (.bX [.nil,.bool false,.nP .i64,.nz .i64]) []
 |_,_=>False
theorem XN {s:ByteArray} {a n:Int} {wi:Bool} (h1:0<=a) (h2:a<=s.size) {K:AV->List (List AV)->Prop} (k1:∀(l:List Cm) (same:Bool) (p:Int),(a<=p∧p<=s.size∧l.length+a<=p)->K (.bX [cs l,.bool same,.int .i64 p,.int .i64 0]) []) (k2:K (.bX [.nil,.bool false,.nP .i64,.nz .i64]) []):K (Ke (Bk.qE s a.toNat n wi)) []:=by
 cases hr:Bk.qE s a.toNat n wi with
 |none=>exact k2
 |some r=>
  obtain ⟨l,same,p⟩:=r;obtain ⟨g1,g2,g3⟩:=Bk.DC oM hr;exact k1 l same p ⟨oM,oM,oM⟩
theorem afC:aC.OK Tryz.prog 159 aiB:=by
 refine il (g:=O6 fun s a n=>inT s a fun q=>Ke (Bk.qE s q n true)) rfl fun args bx K0 h=>?_;unfold aiB at h;split at h
 ·rename_i s a n;obtain ⟨⟨h0,h1,h2⟩,-⟩:=h;refine ⟨rfl,_,by show (if _ then (if _ then _ else _) else _)=_;rw [if_pos h0,if_pos ⟨h1,h2⟩],Qu _,fun K hK=>XN h1 h2 hK.2.1 hK.2.2⟩
 ·exact h.elim
end V
namespace V
open Ab
variable {P : Program} {T : jL} {sp : Sp} {n0 base : Nat} {σ τ : aJ} {Q : wL -> aJ -> Prop} {cal : xR}
inductive Fz (bx:List (List AV)) (n:Nat):AV->AV->Prop
 |same {v:AV} (h:∀i ∈ iY v,i<n):Fz bx n v v
 |bad {v:AV}:Fz bx n v .bad
 |aaY:Fz bx n .nil (.sl 0 [])
 |box {j e z m:Nat} {c:List AV} (h1:n<=j) (h2:bx[j]?=some c) (h3:m*z<=c.length) (h4:jR (c.take (m*z))=true):Fz bx n (.bU j e z m) (.sl m (c.take (m*z)))
inductive P9 (bx:List (List AV)) (n:Nat):Tm->Tm->Prop
 |nil:P9 bx n [] []
 |drop {k:Nat} {v:AV} {l r:Tm} (h:get r k=.bad) (hl:P9 bx n l r):P9 bx n ((k,v)::l) r
 |cons {k:Nat} {v v':AV} {l r:Tm} (h:Fz bx n v v') (hl:P9 bx n l r):P9 bx n ((k,v)::l) ((k,v')::r)
inductive Vd (bx:List (List AV)) (n:Nat):List AV->List AV->Prop
 |all {l:List AV} (h:∀i ∈ bW l,i<n):Vd bx n l l
 |nil:Vd bx n [] []
 |cons {v v':AV} {l r:List AV} (h:Fz bx n v v') (hl:Vd bx n l r):Vd bx n (v::l) (v'::r)
 |app {a l r:List AV} (h:∀i ∈ bW a,i<n) (hl:Vd bx n l r):Vd bx n (a++l) (a++r)
inductive FzB (bx:List (List AV)) (n:Nat):List (List AV)->List (List AV)->Prop
 |nil {b:List (List AV)}:FzB bx n b []
 |cons {c c':List AV} {b b':List (List AV)} (h:Vd bx n c c') (hb:FzB bx n b b'):FzB bx n (c::b) (c'::b')
theorem dF:∀(a b:List AV),bW (a++b)=bW a++bW b
 |[],_=>rfl
 |x::a,b=>by rw [List.cons_append,bW,bW,dF a b,List.append_assoc]
theorem vg {i:Nat}:∀{l:List AV},i ∈ bW l↔∃x ∈ l,i ∈ iY x
 |[]=>by simp [bW]
 |x::l=>by rw [bW,List.mem_append,vg (l:=l)];simp
theorem bR {l:List AV} (h:jR l=true):bW l=[]:=by rw [←kJ (Bd (bJ h))];exact jr (bE h)
theorem P9.get {bx:List (List AV)} {n:Nat} {a b:Tm} (h:P9 bx n a b) (k:Nat):Fz bx n (get a k) (get b k):=by
 induction h with
 |nil=>exact .bad
 |drop h hl ih=>
  rw [bD];split
  ·rename_i e;subst e;rw [h];exact .bad
  ·exact ih
 |cons h hl ih=>
  rw [bD,bD];split
  ·exact h
  ·exact ih
theorem Vd.get {bx:List (List AV)} {n:Nat} {a b:List AV} (h:Vd bx n a b):a.length=b.length∧∀(j:Nat) (x y:AV),a[j]?=some x->b[j]?=some y->Fz bx n x y:=by
 induction h with
 |all h=>
  refine ⟨rfl,fun j x y hx hy=>?_⟩;rw [hx] at hy;cases hy;exact .same fun i hi=>h i (vg.2 ⟨x,List.mem_of_getElem? hx,hi⟩)
 |nil=>exact ⟨rfl,fun j x y hx=>by simp at hx⟩
 |cons h hl ih=>
  refine ⟨by rw [List.length_cons,List.length_cons,ih.1],fun j x y hx hy=>?_⟩;cases j with
  |zero=>simp at hx hy;subst hx hy;exact h
  |succ j=>exact ih.2 j x y (by simpa using hx) (by simpa using hy)
 |@app a l r h hl ih=>
  refine ⟨by rw [List.length_append,List.length_append,ih.1],fun j x y hx hy=>?_⟩;by_cases hj:j<a.length
  ·rw [List.getElem?_append_left hj] at hx hy;rw [hx] at hy;cases hy;exact .same fun i hi=>h i (vg.2 ⟨x,List.mem_of_getElem? hx,hi⟩)
  ·rw [List.getElem?_append_right oM] at hx hy;exact ih.2 _ x y hx hy
theorem FzB.get {bx:List (List AV)} {n:Nat} {a b:List (List AV)} (h:FzB bx n a b):∀(i:Nat) (c':List AV),b[i]?=some c'->∃c,a[i]?=some c∧Vd bx n c c':=by
 induction h with
 |nil=>intro i c' h;simp at h
 |@cons c c' b b' h hb ih=>
  intro i d hd;cases i with
  |zero=>simp at hd;subst hd;exact ⟨c,rfl,h⟩
  |succ i=>exact ih i d (by simpa using hd)
theorem Fz.row {bx:List (List AV)} {n:Nat} {x y:AV} (h:Fz bx n x y) (hr:y.isRow=true):y=x:=by
 cases h with
 |same h=>rfl
 |bad=>cases hr
 |aaY=>cases hr
 |box=>cases hr
theorem NV {bx:List (List AV)} {n k:Nat}:∀{l:List AV},jR l=true->l8 (jJ bx n (k+1)) (l.map AV.bY)=some l
 |[],_=>rfl
 |v::l,h=>by
  rw [jR] at h;simp only [Bool.and_eq_true] at h;have hd:v.bY=v:=by
   have hf:=h.1.1.1.2;cases v<;>first|rfl|(rw [AV.flat] at hf;cases hf)
  rw [List.map_cons,l8,hd,NV h.2];unfold jJ;rw [h.1.1.1.1]
theorem Rx.fz (n:Nat) (hb:base<=n) (hl:τ.bx.length=n) (hbx:FzB σ.bx n σ.bx τ.bx) (ht:P9 σ.bx n σ.tm τ.tm) (hok:Ok τ):Rx base σ τ:=by
 intro hσ;refine ⟨hok,fun {m lim bs w a} hbl H=>?_⟩;have hn:n<=σ.bx.length:=by
  rcases Nat.eq_zero_or_pos n with e|e
  ·omega
  ·obtain ⟨c,hc,-⟩:=hbx.get (n-1) _ (List.getElem?_eq_getElem oM);have:=(List.getElem?_eq_some_iff.1 hc).1;omega
 have sG:∀b,b ∉ bs.drop n->rQ lim bs n w b=lim b:=fun b hb=>by unfold rQ;rw [if_neg hb]
 have htd:∀b,b ∈ bs.take n->b ∉ bs.drop n:=by intro b h1 h2;obtain ⟨i,hi⟩:=List.getElem?_of_mem h1;obtain ⟨j,hj⟩:=List.getElem?_of_mem h2;obtain ⟨hi1,hi⟩:=gu hi;rw [List.getElem?_drop] at hj;have:=eX H.xV hi hj;omega
 have hnd:∀b,b ∉ bs->b ∉ bs.drop n:=fun b h1 h2=>h1 (List.mem_of_mem_drop h2);have hsub:∀b ∈ bs.take n,b ∈ bs:=fun b h=>List.mem_of_mem_take h;have mW:=CR H n;have hfr:Fr m lim w (rQ lim bs n w) w:=by refine ⟨Below.refl _ _,fun b hb hm=>⟨rfl,?_⟩,fun b _=>yJ H n b,fun _ _ _ _=>rfl,fun b cur e p h=>⟨cur,h,rfl⟩⟩;refine sG b (fun hd=>hm (H.mb b (List.mem_of_mem_drop hd)))
 have hval:∀{v v':AV} {u:Value},wv v=true->Fz σ.bx n v v'->AV.R lim bs w v u->(∀g,v.isRow=true->u.ownBlock=some g->g ∉ bs)->AV.R (rQ lim bs n w) (bs.take n) w v' u∧v'.top=true∧(v'.isRow=true->v'=v):=by
  intro v v' u hw hf hR hrow;cases hf with
  |same h=>
   refine ⟨?_,uQ hw,fun _=>rfl⟩;have h1:=AV.R.mE mW (uQ hw) (fun g h1 h2=>⟨rfl,sG g (hnd g (hrow g h1 h2))⟩) hR;refine ZI (fun i hi b hbb=>?_) h1;rw [uf hw] at hi;rw [List.getElem?_take,if_pos (h i hi)];exact hbb
  |bad=>exact ⟨lh _,rfl,fun h=>by cases h⟩
  |aaY=>
   rw [AV.R] at hR;exact ⟨by rw [AV.R];exact ⟨none,0,hR,Nat.le_refl _,.inl rfl⟩,rfl,fun h=>by cases h⟩
  |@box j e z mm c h1 h2 h3 h4=>
   have hz:jJ σ.bx n 2 (.bU j e z mm)=some (.sl mm (c.take (mm*z))):=by unfold jJ;rw [show (AV.bU j e z mm).pf=false from rfl];simp only [];rw [h2];simp only [];rw [if_pos ⟨h1,h3⟩,NV h4];rfl
   obtain ⟨g1,g2,g3⟩:=wD H 2 rfl hz hR;exact ⟨g1,by rw [AV.top,g2];simp,fun h=>by cases h⟩
 have ho:∀p g,Ab.Own w (bs.take n) τ.bx (Sl τ.tm a) p g->Ab.Own w bs σ.bx (Sl σ.tm a) p g:=by
  intro p g hp;cases p with
  |t k=>
   obtain ⟨p1,p2⟩:=hp;have E8:(get τ.tm k).isRow=true:=p1;have U7:(a.tmps.getD k undef).ownBlock=some g:=p2;have hz:=ht.get k;have:get τ.tm k=get σ.tm k:=hz.row E8;exact ⟨show (get σ.tm k).isRow=true from by rw [←this];exact E8,p2⟩
  |b i j=>
   obtain ⟨b,x,y,v,q1,q2,q3,q4,q5,q6⟩:=hp;obtain ⟨c,hc,hL⟩:=hbx.get i x q2;obtain ⟨hlen,hL⟩:=hL.get;have hj:j<c.length:=by rw [hlen];exact (List.getElem?_eq_some_iff.1 q3).1
   have hz:=hL j _ y (List.getElem?_eq_getElem hj) q3;have:c[j]=y:=(hz.row q4).symm;exact ⟨b,c,y,v,(gu q1).2,hc,by rw [List.getElem?_eq_getElem hj,this],q4,q5,q6⟩
 refine ⟨rQ lim bs n w,bs.take n,⟨by rw [List.length_take,hl,H.len];omega,H.xV.sublist (List.take_sublist _ _),fun b h=>?_,fun b h=>H.mb b (hsub b h),fun i b x hi hx=>?_,fun k=>?_,fun k=>?_,fun b hb=>?_,fun p g hp=>⟨(H.own p g (ho p g hp)).1,fun h=>(H.own p g (ho p g hp)).2 (hsub g h)⟩,fun p q g hp hq=>H.nK p q g (ho p g hp) (ho q g hq)⟩,hfr,fun i b hi hbb=>by rw [List.getElem?_take,if_pos oM];exact hbb⟩
 ·rw [sG b (htd b h)];exact H.free b (hsub b h)
 ·obtain ⟨x0,hx0,hL⟩:=hbx.get i x hx;obtain ⟨hlen,hL⟩:=hL.get;obtain ⟨c,tl,t,g1,g2,g3⟩:=H.box i b x0 (gu hi).2 hx0;have hxw:=bg.1 hσ.bx x0 (List.mem_of_getElem? hx0);have hone:∀(j:Nat) (y:AV) (v:Value),x[j]?=some y->c[j]?=some v->AV.R (rQ lim bs n w) (bs.take n) w y v∧y.top=true:=by
   intro j y v hy hv;have hj:j<x0.length:=by rw [hlen];exact (List.getElem?_eq_some_iff.1 hy).1
   obtain ⟨v2,hv2,hR⟩:=kU g2 (List.getElem?_eq_getElem hj);rw [hv] at hv2;cases hv2;have hw:=(dB.1 hxw _ (List.getElem_mem hj)).2;obtain ⟨r1,r2,-⟩:=hval hw (hL j _ y (List.getElem?_eq_getElem hj) hy) hR (fun g h1 h2=>(H.own (.b i j) g ⟨b,x0,_,v,(gu hi).2,hx0,List.getElem?_eq_getElem hj,h1,dP g1 hv,h2⟩).2);exact ⟨r1,r2⟩
  refine ⟨c,tl,t,g1,sQ (by rw [AV.fB g2,hlen]) (fun j y v hy hv=>(hone j y v hy hv).1),?_⟩;rw [List.all_eq_true];intro y hy;obtain ⟨j,hj⟩:=List.getElem?_of_mem hy;have hjc:j<c.length:=by rw [AV.fB g2,hlen];exact (List.getElem?_eq_some_iff.1 hj).1
  exact (hone j y _ hj (List.getElem?_eq_getElem hjc)).2
 ·exact (hval (pG k hσ.tm) (ht.get k) (H.slot k) (fun g h1 h2=>(H.own (.t k) g ⟨h1,h2⟩).2)).1
 ·exact (hval (pG k hσ.tm) (ht.get k) (H.slot k) (fun g h1 h2=>(H.own (.t k) g ⟨h1,h2⟩).2)).2.1
 ·rw [sG b (fun hd=>?_)]
  ·exact H.top b hb
  ·have:=jX H (List.mem_of_mem_drop hd);omega
theorem Rx.prune (ks:List Nat):Rx base σ ⟨prune ks σ.tm,σ.bx⟩:=fun h=>⟨⟨gV _ h.tm,h.bx⟩,fun _ H=>⟨_,_,H.prune ks,Fr.refl,fun _ _ _ h=>h⟩⟩
mutual
theorem Jf {f:Nat->Nat}:∀{x:AV},iY x=[]->pY f x=x
 |.ptr ..,h=>by cases h
 |.bU ..,h=>by cases h
 |.bool _,_=>rfl
 |.int _ _,_=>rfl
 |.str _,_=>rfl
 |.nil,_=>rfl
 |.nz _,_=>rfl
 |.nP _,_=>rfl
 |.low _ _ _,_=>rfl
 |.bad,_=>rfl
 |.sl _ _,_=>rfl
 |.row _ _ _ _,_=>rfl
 |.el _,_=>rfl
 |.agg l,h=>by rw [pY,nD (l:=l) h]
 |.bX l,h=>by rw [pY,nD (l:=l) h]
 |.fn f l,h=>by rw [pY,nD (l:=l) h]
theorem nD {f:Nat->Nat}:∀{l:List AV},bW l=[]->fA f l=l
 |[],_=>rfl
 |x::l,h=>by rw [bW,List.append_eq_nil_iff] at h;rw [fA,Jf h.1,nD h.2]
end
inductive Pk (ids:List Nat):AV->AV->Prop
 |same {v:AV} (h:iY v=[]):Pk ids v v
 |bad {v:AV}:Pk ids v .bad
 |ptr {i o:Nat} (h:mem i ids=true):Pk ids (.ptr i o) (.ptr (ids.idxOf i) o)
 |bU {i e z n:Nat} (h:mem i ids=true):Pk ids (.bU i e z n) (.bU (ids.idxOf i) e z n)
inductive ny (ids:List Nat):Tm->Tm->Prop
 |nil:ny ids [] []
 |drop {k:Nat} {v:AV} {l r:Tm} (h:get r k=.bad) (hl:ny ids l r):ny ids ((k,v)::l) r
 |cons {k:Nat} {v v':AV} {l r:Tm} (h:Pk ids v v') (hl:ny ids l r):ny ids ((k,v)::l) ((k,v')::r)
theorem Pk.ids {ids:List Nat} {x y:AV} (h:Pk ids x y) (hb:y≠.bad):(∀i ∈ iY x,i ∈ ids)∧y=pY ids.idxOf x:=by
 cases h with
 |same h=>exact ⟨fun i hi=>by rw [h] at hi;(cases hi),(Jf h).symm⟩
 |bad=>exact absurd rfl hb
 |ptr h=>exact ⟨fun i hi=>by rw [iY,List.mem_singleton] at hi;rw [hi];exact mem_iff.1 h,rfl⟩
 |bU h=>exact ⟨fun i hi=>by rw [iY,List.mem_singleton] at hi;rw [hi];exact mem_iff.1 h,rfl⟩
theorem ny.get {ids:List Nat} {a b:Tm} (h:ny ids a b) (k:Nat):Pk ids (get a k) (get b k):=by
 induction h with
 |nil=>exact .bad
 |drop h hl ih=>
  rw [bD];split
  ·rename_i e;subst e;rw [h];exact .bad
  ·exact ih
 |cons h hl ih=>
  rw [bD,bD];split
  ·exact h
  ·exact ih
inductive gG (bx:List (List AV)) (f:Nat->Nat) (ids:List Nat):List Nat->List (List AV)->Prop
 |nil:gG bx f ids [] []
 |same {i:Nat} {r:List Nat} {c:List AV} {b:List (List AV)} (h:bx[i]?=some c) (h2:bW c=[]) (hb:gG bx f ids r b):gG bx f ids (i::r) (c::b)
 |cons {i:Nat} {r:List Nat} {c c':List AV} {b:List (List AV)} (h:bx[i]?=some c) (h2:∀i ∈ bW c,i ∈ ids) (h3:c'=fA f c) (hb:gG bx f ids r b):gG bx f ids (i::r) (c'::b)
theorem gG.one {bx:List (List AV)} {f:Nat->Nat} {ids:List Nat} {i k:Nat} {r:List Nat} {c c':List AV} {b:List (List AV)} (h:bx[i]?=some c) (h2:bW c=[k]) (hk:mem k ids=true) (h3:c'=fA f c) (hb:gG bx f ids r b):gG bx f ids (i::r) (c'::b):=.cons h (fun j hj=>by rw [h2,List.mem_singleton] at hj;rw [hj];exact mem_iff.1 hk) h3 hb
theorem gG.get {bx b:List (List AV)} {f:Nat->Nat} {ids l:List Nat} (h:gG bx f ids l b):∃cs,bn bx l=some cs∧b=cs.map (fA f)∧∀c ∈ cs,∀i ∈ bW c,i ∈ ids:=by
 induction h with
 |nil=>exact ⟨[],rfl,rfl,fun c hc=>by cases hc⟩
 |@same i r c b h h2 hb ih=>
  obtain ⟨cs,g1,rfl,g3⟩:=ih;refine ⟨c::cs,by rw [bn,h,g1],by rw [List.map_cons,nD h2],fun d hd=>?_⟩;rcases List.mem_cons.1 hd with rfl|hd
  ·rw [h2];intro i hi;cases hi
  ·exact g3 d hd
 |@cons i r c c' b h h2 h3 hb ih=>
  obtain ⟨cs,g1,rfl,g3⟩:=ih;refine ⟨c::cs,by rw [bn,h,g1],by rw [List.map_cons,h3],fun d hd=>?_⟩;rcases List.mem_cons.1 hd with rfl|hd
  ·exact h2
  ·exact g3 d hd
theorem Rx.pick (ids:List Nat) (hn:ids.Nodup) (hpre:∀i,i<base->ids[i]?=some i) (hbx:gG σ.bx ids.idxOf ids ids τ.bx) (ht:ny ids σ.tm τ.tm) (hok:Ok τ):Rx base σ τ:=by
 intro hσ;refine ⟨hok,fun {m lim bs w a} hbl H=>?_⟩;obtain ⟨cs,hc,hτ,hcl⟩:=hbx.get
 classical
 have HS:=(H.sub (S':=fun k=>(if get τ.tm k=.bad then .bad else get σ.tm k,a.tmps.getD k undef)) (fun k=>⟨rfl,by
  by_cases h:get τ.tm k=.bad
  ·right;right;exact if_pos h
  ·left;exact if_neg h⟩)).1
 have agv:=lU hσ.bx hc;have hcl':∀c ∈ cs,∀i ∈ AV.aN c,i ∈ ids:=fun c hcc i hi=>by rw [kJ (sW (bg.1 agv c hcc))] at hi;exact hcl c hcc i hi
 obtain ⟨HP,h2,-⟩:=HS.pick hn hc hcl' (fun k i hi=>by
  have hz:=ht.get k;have hw:=pG k hσ.tm;simp only [] at hi;split at hi
  ·simp [AV.ids] at hi
  ·rename_i hnb;rw [uf hw] at hi;exact (hz.ids hnb).1 i hi)
 refine ⟨lim,_,?_,Fr.refl,fun i b hi hb=>h2 i i b (hpre i hi) hb⟩;rw [hτ,←(mr agv).1];have hS:Sl τ.tm a=fun k=>((if get τ.tm k=.bad then .bad else get σ.tm k:AV).bK ids.idxOf,a.tmps.getD k undef):=by
  funext k;unfold Sl;have hz:=ht.get k;have hw:=pG k hσ.tm;congr 1;split
  ·rename_i e;rw [e];rfl
  ·rename_i hnb;rw [Ga hw];exact (hz.ids hnb).2
 rw [hS];exact HP
end V
section
set_option maxRecDepth 100000
namespace V
open Ab
open Bk (Cm)
def Wv (a b:AV):Prop:=(∀(lim:Nat->Nat) (bs:List Nat) (w:World) (v:Value),AV.R lim bs w a v->AV.R lim bs w b v)∧(b.isRow=true->a.isRow=true∨∀(lim:Nat->Nat) (bs:List Nat) (w:World) (v:Value),AV.R lim bs w a v->v.ownBlock=none)
theorem Wv.of {a b:AV} (h:Wk a b):Wv a b:=⟨h.1,fun hb=> .inl (by rw [←h.2 hb];exact hb)⟩
theorem Wv.refl {a:AV}:Wv a a:=.of (.refl a)
theorem Wv.mo {e z:Nat}:Wv .nil (.row e z 0 []):=⟨fun lim bs w v h=>Wk.mo h,fun _=> .inr fun lim bs w v h=>by rw [AV.R] at h;rw [h];rfl⟩
theorem mQ.Rm {lim:Nat->Nat} {bs:List Nat} {w:World}:∀{l k:List AV} {b o:Nat},mQ l k->AV.Rm lim bs w b o l->AV.Rm lim bs w b o k
 |[],k,b,o,h,hr=>by rw [show k=[] from h];exact hr
 |a::r,k,b,o,h,hr=>by obtain ⟨c,q,rfl,h1,h2⟩:=h;rw [AV.Rm] at hr⊢;obtain ⟨⟨v,h3,h4⟩,h5⟩:=hr;exact ⟨⟨v,h3,h1.1 _ _ _ _ h4⟩,mQ.Rm h2 h5⟩
theorem Wv.row {e z n:Nat} {l k:List AV} (h:mQ l k) (hf:AV.ak k=true):Wv (.row e z n l) (.row e z n k):=⟨fun lim bs w v hr=>by
 rw [AV.R] at hr⊢;obtain ⟨h1,h2,h3⟩:=hr;refine ⟨by rw [h.len];exact h1,hf,h3.imp id ?_⟩;rintro ⟨g,c,cur,g1,g2,g3,g4,g5,g6,g7⟩;exact ⟨g,c,cur,g1,g2,g3,g4,g5,by rw [h.len];exact g6,mQ.Rm h g7⟩,fun _=> .inl rfl⟩
theorem mQ.app:∀{a b c d:List AV},mQ a b->mQ c d->mQ (a++c) (b++d)
 |[],b,c,d,h,k=>by rw [show b=[] from h];exact k
 |x::r,b,c,d,h,k=>by obtain ⟨y,q,rfl,h1,h2⟩:=h;exact ⟨y,q++d,rfl,h1,mQ.app h2 k⟩
inductive jI:List AV->List AV->Prop
 |nil:jI [] []
 |cons {a b:AV} {r q:List AV} (h:Wv a b) (k:jI r q):jI (a::r) (b::q)
inductive Qh:List (List AV)->List (List AV)->Prop
 |nil:Qh [] []
 |cons {a b:List AV} {r q:List (List AV)} (h:jI a b) (k:Qh r q):Qh (a::r) (b::q)
inductive UR:Tm->Tm->Prop
 |nil:UR [] []
 |cons {k:Nat} {a b:AV} {r q:Tm} (h:Wv a b) (t:UR r q):UR ((k,a)::r) ((k,b)::q)
theorem jI.refl:∀{l:List AV},jI l l
 |[]=> .nil
 |_::_=> .cons .refl .refl
theorem jI.Rs {lim:Nat->Nat} {bs:List Nat} {w:World} {l k:List AV} (h:jI l k):∀{vs:List Value},AV.Rs lim bs w l vs->AV.Rs lim bs w k vs:=by
 induction h with
 |nil=>exact fun h=>h
 |cons h k ih=>
  intro vs hr;rw [AV.Rs] at hr⊢;obtain ⟨v,r,rfl,h1,h2⟩:=hr;exact ⟨v,r,rfl,h.1 _ _ _ _ h1,ih h2⟩
theorem jI.get {l k:List AV} (h:jI l k):∀{j:Nat} {b:AV},k[j]?=some b->∃a,l[j]?=some a∧Wv a b:=by
 induction h with
 |nil=>intro j b h;simp at h
 |@cons a b r q h k ih=>
  intro j c hc;cases j with
  |zero=>simp at hc;subst hc;exact ⟨a,rfl,h⟩
  |succ j=>obtain ⟨d,h1,h2⟩:=ih (j:=j) (by simpa using hc);exact ⟨d,by simpa using h1,h2⟩
theorem Qh.get {l k:List (List AV)} (h:Qh l k):l.length=k.length∧∀{j:Nat} {b:List AV},k[j]?=some b->∃a,l[j]?=some a∧jI a b:=by
 induction h with
 |nil=>exact ⟨rfl,fun h=>by simp at h⟩
 |@cons a b r q h k ih=>
  refine ⟨by rw [List.length_cons,List.length_cons,ih.1],fun {j c} hc=>?_⟩;cases j with
  |zero=>simp at hc;subst hc;exact ⟨a,rfl,h⟩
  |succ j=>obtain ⟨d,h1,h2⟩:=ih.2 (j:=j) (by simpa using hc);exact ⟨d,by simpa using h1,h2⟩
theorem UR.get {l k:Tm} (h:UR l k) (j:Nat):Wv (get l j) (get k j):=by
 induction h with
 |nil=>exact .refl
 |cons h t ih=>
  rw [bD,bD];split
  ·exact h
  ·exact ih
theorem ZH {lim:Nat->Nat} {bs:List Nat} {w:World}:∀{l:List AV} {vs:List Value} {j:Nat} {a:AV} {v:Value},AV.Rs lim bs w l vs->l[j]?=some a->vs[j]?=some v->AV.R lim bs w a v
 |[],vs,j,a,v,h,ha,hv=>by simp at ha
 |x::l,vs,j,a,v,h,ha,hv=>by
  rw [AV.Rs] at h;obtain ⟨u,r,rfl,h1,h2⟩:=h;cases j with
  |zero=>simp at ha hv;subst ha hv;exact h1
  |succ j=>exact ZH (j:=j) h2 (by simpa using ha) (by simpa using hv)
theorem Rx.wv {base:Nat} {σ τ:aJ} (hb:Qh σ.bx τ.bx) (ht:UR σ.tm τ.tm) (hok:Ok τ):Rx base σ τ:=by
 intro hσ;refine ⟨hok,fun {m lim bs w a} hbl H=>⟨lim,bs,?_,Fr.refl,fun _ _ _ h=>h⟩⟩;have hS:∀k,(Sl τ.tm a k).2=(Sl σ.tm a k).2∧Wv (Sl σ.tm a k).1 (Sl τ.tm a k).1∧(Sl τ.tm a k).1.top=true:=fun k=>⟨rfl,ht.get k,uQ (pG k hok.tm)⟩;have ho:∀p g,Ab.Own w bs τ.bx (Sl τ.tm a) p g->Ab.Own w bs σ.bx (Sl σ.tm a) p g:=by
  intro p g hp;cases p with
  |t k=>
   obtain ⟨h1,h2⟩:=hp;obtain ⟨e1,e2,-⟩:=hS k;rcases e2.2 h1 with h3|h3
   ·exact ⟨h3,by rw [←e1];exact h2⟩
   ·have:=h3 _ _ _ _ (H.slot k);rw [e1,this] at h2;cases h2
  |b i j=>
   obtain ⟨b,x,y,v,q1,q2,q3,q4,q5,q6⟩:=hp;obtain ⟨x',g1,g2⟩:=hb.get.2 q2;obtain ⟨y',g3,g4⟩:=g2.get q3;rcases g4.2 q4 with h3|h3
   ·exact ⟨b,x',y',v,q1,g1,g3,h3,q5,q6⟩
   ·obtain ⟨c,tl,t,k1,k2,-⟩:=H.box i b x' q1 g1;have hj:j<c.length:=by rw [AV.fB k2];exact (List.getElem?_eq_some_iff.1 g3).1
    have hcell:w.cell? ⟨b,j,none⟩=(c++tl)[j]?:=by have:=jc (off:=j) k1;exact this
    rw [hcell,List.getElem?_append_left hj] at q5;have:=h3 _ _ _ _ (ZH k2 g3 q5);rw [this] at q6;cases q6
 refine ⟨by rw [←hb.get.1];exact H.len,H.xV,H.free,H.mb,fun i b x hi hx=>?_,fun k=>?_,fun k=>(hS k).2.2,H.top,fun p g hp=>H.own p g (ho p g hp),fun p q g hp hq=>H.nK p q g (ho p g hp) (ho q g hq)⟩
 ·obtain ⟨x',g1,g2⟩:=hb.get.2 hx;obtain ⟨c,tl,t,h1,h2,h3⟩:=H.box i b x' hi g1;exact ⟨c,tl,t,h1,g2.Rs h2,BV (bg.1 hok.bx x (List.mem_of_getElem? hx))⟩
 ·obtain ⟨e1,e2,-⟩:=hS k;rw [e1];exact e2.1 _ _ _ _ (H.slot k)
end V
end
end Go.Proofs.YtlmjabnkjmfcmaaGreat
