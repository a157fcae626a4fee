/- Own texts, joined and shortened by a program; no condition. -/
import Derived.Test.YtlmjabnkjmfcmaaGreatK20
import Derived.Lib.ConvBytes
import Derived.Laws.BytesArg
import Derived.Lib.AtoiErrMem
namespace Go.Proofs.YtlmjabnkjmfcmaaGreat
open Go Go.RowKit Go.PlainAid
set_option linter.unusedVariables false
set_option linter.unusedSimpArgs false
set_option maxHeartbeats 20000000
set_option linter.defProp false
section
set_option maxRecDepth 100000
namespace V
open Ab
open Bk (Cm)
variable {P : Program} {T : jL} {sp : Sp} {n0 : Nat} {σ τ : aJ} {Q R : wL -> aJ -> Prop} {cal : xR}
theorem WQ.Zv (HT:kN P T) {i:Nat} {ops:Array Oper} {M:(Nat->Prop)->aJ->Prop} (hM0:∀(D:Nat->Prop) (σ:aJ),(∀j,D j)->M D σ->∃τ,Sub σ τ∧Ok τ∧Q .normal τ)
  (hMs:∀(i:Nat) (o:Oper) (D D':Nat->Prop) (σ:aJ),ops[i]?=some o->¬D i->(∀j,D' j↔j=i∨D j)->(∀j,((iW [] ops.toList).getD i 0).testBit j=true->j≠i->D j)->M D σ->fM P 0 ops o σ (M D'))
  (h:∀D:Nat->Prop,(∀j,D j↔ops.size<=j)->M D σ):WQ P n0 (.region i ops true) σ Q:=by
 refine WQ.draw (M:=fun l σ=>M (fun j=>∀o,(j,o) ∉ l) σ) HT (fun σ hM=>hM0 _ σ (fun j o ho=>by cases ho) hM) (fun pre post i o σ hM ho hin hs abA=>?_) (h _ fun j=>?_)
 ·rw [List.pairwise_append] at hs;obtain ⟨s1,s2,s3⟩:=hs;refine hMs i o _ _ σ ho (fun hd=>hd o (List.mem_append_right _ List.mem_cons_self)) (fun j=>⟨fun hd=>?_,fun hd o' ho'=>?_⟩) (fun j hj hji o' ho'=>?_) hM
  ·by_cases e:j=i
   ·exact .inl e
   ·refine .inr fun o' ho'=>?_;rcases List.mem_append.1 ho' with h1|h1
    ·exact hd o' (List.mem_append_left _ h1)
    ·rcases List.mem_cons.1 h1 with h2|h2
     ·cases h2;exact e rfl
     ·exact hd o' (List.mem_append_right _ h2)
  ·rcases hd with rfl|hd
   ·rcases List.mem_append.1 ho' with h1|h1
    ·exact absurd (s3 _ h1 (j,o) List.mem_cons_self) (Nat.lt_irrefl _)
    ·exact absurd ((List.pairwise_cons.1 s2).1 _ h1) (Nat.lt_irrefl _)
   ·rcases List.mem_append.1 ho' with h1|h1
    ·exact hd o' (List.mem_append_left _ h1)
    ·exact hd o' (List.mem_append_right _ (List.mem_cons_of_mem _ h1))
  ·have:(j,o') ∈ pre++post:=by
    rcases List.mem_append.1 ho' with h1|h1
    ·exact List.mem_append_left _ h1
    ·rcases List.mem_cons.1 h1 with h2|h2
     ·cases h2;exact absurd rfl hji
     ·exact List.mem_append_right _ h2
   have:=abA _ this;rw [hj] at this;cases this
 ·constructor
  ·intro hd;rcases Nat.lt_or_ge j ops.size with hj|hj
   ·exact absurd ((dR _ _ j ops[j]).2 ⟨Nat.zero_le _,by simp [hj]⟩) (hd _)
   ·exact hj
  ·intro hj o ho;have:=((dR _ _ _ _).1 ho).2;have:=(List.getElem?_eq_some_iff.1 this).1;simp at this;omega
def ng (E:List (Nat×Nat×Nat×AV)) (D:Nat->Prop) (tm:Tm):Prop:=∀e ∈ E,D e.1->¬D e.2.1->get tm e.2.2.1=e.2.2.2
theorem ng.step {E E':List (Nat×Nat×Nat×AV)} {D D':Nat->Prop} {tm tm':Tm} {i:Nat} (h:ng E D tm) (hD:∀j,D' j↔j=i∨D j) (hg:∀e ∈ E',e.1≠i->e.2.1≠i->D e.1->e ∈ E∧get tm' e.2.2.1=get tm e.2.2.1) (hv:∀e ∈ E',e.1=i->get tm' e.2.2.1=e.2.2.2):ng E' D' tm':=by
 intro e he h1 h2;have h3:e.2.1≠i:=fun hh=>h2 ((hD _).2 (.inl hh));have h4:¬D e.2.1:=fun hh=>h2 ((hD _).2 (.inr hh));by_cases h5:e.1=i
 ·exact hv e he h5
 ·have h6:D e.1:=((hD _).1 h1).resolve_left h5;obtain ⟨g1,g2⟩:=hg e he h5 h3 h6;rw [g2];exact h e g1 h6 h4
variable {base : Nat} {ops : Array Oper} {o : Oper}
theorem aT.fa (HT:kN P T) (hg:o.guard=none) {t p f i k dd:Nat} {d:TD} {q:Nat×Nat×Bool} (hd:o.dst=some dd) (hop:o.op=.fieldAddr t (.tmp p) f) (hT:T t=some d) (hf:d.iG[f]?=some q) (hp:get σ.tm p=.ptr i k) (hq:0<q.2.1):aT P base ops o σ ⟨put σ.tm dd (.ptr i (k+q.1)),σ.bx⟩:=by
 refine aT.core (cal:=fun _ _ _=>none) (ids:=[]) (cs:=[]) (out:=⟨.ptr i (k+q.1),[],[],true⟩) HT bM hg ⟨[],[],0⟩ (by rw [hop];rfl) rfl ?_ rfl ?_
 ·rw [hop];show eO (T t) _=_;rw [hT];show eO (d.iG[f]?) _=_;rw [hf];show jd q (get σ.tm p) []=_;rw [hp];show some (Out.mk _ _ _ (decide (0<q.2.1)))=_;rw [decide_eq_true hq]
 ·rw [hop];show _=aJ.mk (dW (eZ σ.tm []) o.dst _) (σ.bx++[]);rw [hd,List.append_nil];rfl
theorem qi {α:Type} {l:List α} {i:Nat} {x:α} (h:l[i]?=some x):l.set i x=l:=by
 apply List.ext_getElem?;intro j;rw [List.getElem?_set];split
 ·rename_i e;subst e;rw [if_pos (List.getElem?_eq_some_iff.1 h).1,h]
 ·rfl
theorem aT.ld (HT:kN P T) (hg:o.guard=none) {t p i k dd:Nat} {d:TD} {c:List AV} {v:AV} (hd:o.dst=some dd) (hop:o.op=.load t (.tmp p)) (hT:T t=some d) (ha:d.agg=false) (hp:get σ.tm p=.ptr i k) (hb:σ.bx[i]?=some c) (hv:c[k]?=some v):aT P base ops o σ ⟨put σ.tm dd v.bY,σ.bx⟩:=by
 refine aT.core (cal:=fun _ _ _=>none) (ids:=[i]) (cs:=[c]) (out:=⟨v.bY,[c],[],true⟩) HT bM hg ⟨[],[],0⟩ ?_ (by rw [bn,hb];rfl) ?_ rfl ?_
 ·rw [hop];show qL (get σ.tm p)=_;rw [hp];rfl
 ·rw [hop];show eO (T t) _=_;rw [hT];show ou d (gJ [] o.dst) (get σ.tm p) [c]=_;rw [hp];unfold ou;rw [ha,hd];show (match c[k]? with|some v=>_|none=>_)=_;rw [hv];rfl
 ·rw [hop];show _=aJ.mk (dW (eZ σ.tm []) o.dst _) ((σ.bx.set i c)++[]);rw [hd,List.append_nil,qi hb];rfl
theorem aT.ldA (HT:kN P T) (hg:o.guard=none) {t p i k dd:Nat} {d:TD} {c:List AV} (hd:o.dst=some dd) (hop:o.op=.load t (.tmp p)) (hT:T t=some d) (ha:d.agg=true) (hp:get σ.tm p=.ptr i k) (hb:σ.bx[i]?=some c) (hl:k+d.size<=c.length):aT P base ops o σ ⟨put σ.tm dd (.agg (((c.drop k).take d.size).map AV.bY)),σ.bx⟩:=by
 refine aT.core (cal:=fun _ _ _=>none) (ids:=[i]) (cs:=[c]) (out:=⟨.agg (((c.drop k).take d.size).map AV.bY),[c],[],true⟩) HT bM hg ⟨[],[],0⟩ ?_ (by rw [bn,hb];rfl) ?_ rfl ?_
 ·rw [hop];show qL (get σ.tm p)=_;rw [hp];rfl
 ·rw [hop];show eO (T t) _=_;rw [hT];show ou d (gJ [] o.dst) (get σ.tm p) [c]=_;rw [hp];unfold ou;simp only [];rw [if_pos ha];show some (Out.mk _ _ _ (decide (k+d.size<=c.length)))=_;rw [decide_eq_true hl]
 ·rw [hop];show _=aJ.mk (dW (eZ σ.tm []) o.dst _) ((σ.bx.set i c)++[]);rw [hd,List.append_nil,qi hb];rfl
theorem aT.st (HT:kN P T) (hg:o.guard=none) {t p x i k:Nat} {d:TD} {c:List AV} {v:AV} (hd:o.dst=none) (hop:o.op=.store t (.tmp p) (.tmp x)) (hT:T t=some d) (ha:d.agg=false) (hs:d.size=1) (hp:get σ.tm p=.ptr i k) (hx:get σ.tm x=v) (hv:v.one=true) (hvc:Ab.cells v=[v]) (hb:σ.bx[i]?=some c) (hl:k+1<=c.length):aT P base ops o σ ⟨eZ σ.tm [x],σ.bx.set i (setAt c k [v])⟩:=by
 refine aT.core (cal:=fun _ _ _=>none) (ids:=[i]) (cs:=[c]) (out:=⟨.bad,[setAt c k [v]],[],true⟩) HT bM hg ⟨[],[],0⟩ ?_ (by rw [bn,hb];rfl) ?_ rfl ?_
 ·rw [hop];show qL (get σ.tm p)=_;rw [hp];rfl
 ·rw [hop];show eO (T t) _=_;rw [hT];show qD T t d (get σ.tm p) (get σ.tm x) [c]=_;rw [hp,hx];unfold qD;rw [hvc,ha,hs];show some (Out.mk _ _ _ _)=_;rw [decide_eq_true hl,show (if false=true then (dI [v] && AV.ak [v]) else v.one)=v.one from rfl,hv];rfl
 ·rw [hop];show _=aJ.mk (dW (eZ σ.tm [x]) o.dst _) ((σ.bx.set i (setAt c k [v]))++[]);rw [hd,List.append_nil];rfl
theorem aT.stA (HT:kN P T) (hg:o.guard=none) {t p x i k:Nat} {d:TD} {c l:List AV} (hd:o.dst=none) (hop:o.op=.store t (.tmp p) (.tmp x)) (hT:T t=some d) (ha:d.agg=true) (hs:l.length=d.size) (hp:get σ.tm p=.ptr i k) (hx:get σ.tm x=.agg l) (h1:dI l=true) (h2:AV.ak l=true) (hb:σ.bx[i]?=some c) (hl:k+d.size<=c.length):aT P base ops o σ ⟨σ.tm,σ.bx.set i (setAt c k l)⟩:=by
 refine aT.core (cal:=fun _ _ _=>none) (ids:=[i]) (cs:=[c]) (out:=⟨.bad,[setAt c k l],[],true⟩) HT bM hg ⟨[],[],0⟩ ?_ (by rw [bn,hb];rfl) ?_ rfl ?_
 ·rw [hop];show qL (get σ.tm p)=_;rw [hp];rfl
 ·rw [hop];show eO (T t) _=_;rw [hT];show qD T t d (get σ.tm p) (get σ.tm x) [c]=_;rw [hp,hx];unfold qD;show some (Out.mk _ [setAt c k l] _ (decide (l.length=d.size) && decide (k+d.size<=c.length) && (if d.agg=true then dI l && AV.ak l else _)))=_;rw [decide_eq_true hl,decide_eq_true hs,if_pos ha,h1,h2];rfl
 ·rw [hop];show _=aJ.mk (dW (eZ σ.tm [x]) o.dst _) ((σ.bx.set i (setAt c k l))++[]);rw [hd,List.append_nil,eZ,hx];rfl
theorem aT.alloc (HT:kN P T) (hg:o.guard=none) {t dd:Nat} {d:TD} (hd:o.dst=some dd) (hop:o.op=.alloc t) (hT:T t=some d):aT P base ops o σ ⟨put σ.tm dd (.ptr σ.bx.length 0),σ.bx++[d.zero]⟩:=by
 refine aT.core (cal:=fun _ _ _=>none) (ids:=[]) (cs:=[]) (out:=⟨.ptr σ.bx.length 0,[],[d.zero],true⟩) HT bM hg ⟨[],[],0⟩ (by rw [hop];rfl) rfl ?_ rfl ?_
 ·rw [hop];show eO (T t) _=_;rw [hT];rfl
 ·rw [hop,hd];rfl
theorem aT.build (HT:kN P T) (hg:o.guard=none) {t dd:Nat} {ps:Array (Nat×Operand)} {d:TD} {l:List AV} (hd:o.dst=some dd) (hop:o.op=.build t ps) (hT:T t=some d) (hl:mH d.iG d.zero (qm (val σ.tm) ps.toList)=some l) (ha:d.agg=true) (hf:AV.ak l=true):aT P base ops o σ ⟨put σ.tm dd (.agg l),σ.bx⟩:=by
 refine aT.core (cal:=fun _ _ _=>none) (ids:=[]) (cs:=[]) (out:=⟨.agg l,[],[],true⟩) HT bM hg ⟨[],[],0⟩ (by rw [hop];rfl) rfl ?_ rfl ?_
 ·rw [hop];show eO (T t) _=_;rw [hT];show vH d _ []=_;unfold vH;rw [hl];show some (Out.mk _ _ _ (d.agg && AV.ak l))=_;rw [ha,hf];rfl
 ·rw [hop];show _=aJ.mk (dW (eZ σ.tm []) o.dst _) (σ.bx++[]);rw [hd,List.append_nil];rfl
end V
namespace V
open Ab
open Bk (Cm)
attribute [local irreducible] aT fM
theorem fM.aga {P:Program} {σ:aJ} {o:Oper} {base:Nat} {ops:Array Oper} {g dd:Nat} {cap ys:List AV} {S0:AV->List (List AV)->Prop} {M:aJ->Prop} (HC:rJ P g ys S0) (hg:o.guard=none) (hd:o.dst=some dd) {c:Call} {f:Operand} (ho:o.op=.call c) (hc:c.callee=.value f) (hv:val σ.tm f=.fn g cap) (hcf:AV.ak cap=true)
  (hys:ys=(c.args.toList.map (val σ.tm)).map AV.bY++cap) (hyi:AV.aN ys=[]) (hM:∀r nb,S0 r nb->M ⟨put σ.tm dd (r.bK fun j=>σ.bx.length+j),σ.bx++nb.map (AV.aO fun j=>σ.bx.length+j)⟩):fM P base ops o σ M:=
 fM.We HC hg ho hc hv hcf hys hyi fun r nb hS=>by rw [hd];exact hM r nb hS
theorem aT.aaZ {P:Program} {σ:aJ} {o:Oper} {base:Nat} {ops:Array Oper} {g dd:Nat} {cap ys:List AV} {r:AV} (HC:aW P g ys [] r []) (hr:∀f,AV.bK f r=r) (hg:o.guard=none) (hd:o.dst=some dd) {c:Call} {f:Operand} (ho:o.op=.call c) (hc:c.callee=.value f) (hv:val σ.tm f=.fn g cap) (hcf:AV.ak cap=true)
  (hys:ys=(c.args.toList.map (val σ.tm)).map AV.bY++cap) (hyi:AV.aN ys=[]):aT P base ops o σ ⟨put σ.tm dd r,σ.bx⟩:=by
 have:=aT.We (base:=base) (ops:=ops) (σ:=σ) HC hg ho hc hv hcf hys hyi;rw [hd,hr,List.map_nil,List.append_nil] at this;exact this
theorem p9 {tm:Tm} {x k:Nat} (h:k≠x):get (eZ tm [x]) k=get tm k:=by
 unfold eZ;split
 ·rw [eZ,ah,if_neg h]
 ·rw [eZ]
noncomputable def opsOf (k:Nat):Code->Array Oper
 |.seq (.region i ops _) t=>if i=k then ops else opsOf k t
 |.seq _ t=>opsOf k t
 |_=>#[]
noncomputable def Lt (k:Nat):Array Oper:=opsOf k (Tryz.f41.body.getD .skip)
def kG (l:List Cm) (k:Nat) (L8:AV) (E:List (List AV)):Prop:=(L8=.nil∧l.length=0∧E=[])∨(L8=.bU k 56 2 l.length∧E=[fQ l])
def wK (lead ae:List Cm) (L8:AV):List (Nat×Nat×Nat×AV):=[(0,1,6,.ptr 0 8),(1,2,7,cs lead),(2,7,8,L8),(3,4,9,.ptr 0 9),(4,5,10,cs ae),(5,9,11,cr ae),(6,7,12,.ptr 0 8),(8,9,13,.ptr 0 9)]
def M41 (k y p b:Int) (an tg tx:ByteArray) (kc:AV) (h:Bool) (tr:ByteArray) (lead ae:List Cm) (Z0:List AV) (D:Nat->Prop) (σ:aJ):Prop:=∃(L8 A8 A9:AV) (X:List (List AV)),(get σ.tm 1=.ptr 0 0∧get σ.tm 2=.ptr 1 0)∧ng (wK lead ae L8) D σ.tm∧σ.bx=(Ce.mk k y p b an tg tx kc A8 A9 h tr).l::Z0::X∧((D 2->kG lead 2 L8 X)∧(¬D 2->X=[]))∧((D 7->A8=L8)∧(¬D 7->A8=cs lead))∧((D 9->A9=cr ae)∧(¬D 9->A9=cs ae))∧(D 7->D 1∧D 2)∧(D 9->D 4)
theorem Uk (lead:List Cm) (hn:lead.length<=10000000000):rJ Tryz.prog 39 [cs lead] (fun r nb=>(r=.nil∧lead.length=0∧nb=[])∨(r=.bU 0 56 2 lead.length∧nb=[fQ lead])):=
 aW.boxed (Du (kT lead) (BC lead) (jv lead) hn) (Mr lead) (fun x hx=>by rw [List.mem_singleton.1 hx];rfl)
theorem J5 (ae:List Cm) (hn:ae.length<=10000000000):aW Tryz.prog 39 [cs ae] [] (cr ae) []:=Du (kT ae) (BC ae) (jv ae) hn
theorem d25:∃d:TD,gW 25=some d∧d.agg=false∧d.size=1:=⟨_,rfl,rfl,rfl⟩
theorem d35:∃d:TD,gW 35=some d∧d.iG[8]?=some (8,1,false)∧d.iG[9]?=some (9,1,false):=⟨_,rfl,rfl,rfl⟩
theorem F9 (f:Nat->Nat) (l:List Cm):AV.aO f (fQ l)=fQ l:=by have:=uj f l;unfold cs at this;rw [AV.bK] at this;injection this
theorem aad {k y p b:Int} {an tg tx:ByteArray} {kc:AV} {h:Bool} {tr:ByteArray} {lead ae:List Cm} {Z0:List AV} (hn1:lead.length<=10000000000) (hn2:ae.length<=10000000000) (i:Nat) (o:Oper) (D D':Nat->Prop) (σ:aJ) (ho:(Lt 1)[i]?=some o) (hi:¬D i) (hD:∀j,D' j↔j=i∨D j) (hA:∀j,((iW [] (Lt 1).toList).getD i 0).testBit j=true->j≠i->D j) (hM:M41 k y p b an tg tx kc h tr lead ae Z0 D σ):fM Tryz.prog 0 (Lt 1) o σ (M41 k y p b an tg tx kc h tr lead ae Z0 D'):=by
 obtain ⟨L8,A8,A9,X,⟨p1,p2⟩,hE,hbx,⟨x1,x2⟩,⟨a1,a2⟩,⟨b1,b2⟩,d7,d9⟩:=hM;obtain ⟨dd,hd1,hd2,hd3⟩:=d25;have h0:σ.bx[0]?=some (Ce.mk k y p b an tg tx kc A8 A9 h tr).l:=by rw [hbx];rfl
 have hlt:i<10:=(Array.getElem?_eq_some_iff.1 ho).1;have edg:∀e ∈ wK lead ae L8,D e.1->¬D e.2.1->get σ.tm e.2.2.1=e.2.2.2:=hE;simp only [wK,List.forall_mem_cons] at edg;obtain ⟨e0,e1,e2,e3,e4,e5,e6,e8,-⟩:=edg;obtain ⟨df,hf0,hf8,hf9⟩:=d35;rcases i with _|_|_|_|_|_|_|_|_|_|i
 ·
  obtain rfl:_=o:=Option.some.inj ((rfl:some _=(Lt 1)[0]?).trans ho);refine fM.of (aT.fa tok rfl rfl rfl hf0 hf8 p1 dE) ?_;refine ⟨L8,A8,A9,X,⟨(by rw [ah,if_neg dE];exact p1),(by rw [ah,if_neg dE];exact p2)⟩,?_,hbx,(by simpa [hD] using ⟨x1,x2⟩),(by simpa [hD] using ⟨a1,a2⟩),(by simpa [hD] using ⟨b1,b2⟩),(fun hh=>by have:=d7 (by simpa [hD] using hh);simp [hD,this]),(fun hh=>by have:=d9 (by simpa [hD] using hh);simp [hD,this])⟩;refine ng.step hE hD ?_ ?_
  ·intro e he;simp only [wK,List.mem_cons,List.not_mem_nil,or_false] at he;rcases he with rfl|rfl|rfl|rfl|rfl|rfl|rfl|rfl<;>(intro h1 h2 h3;first|exact absurd rfl h1|exact absurd rfl h2|exact ⟨by simp only [wK,List.mem_cons,true_or,or_true],by dsimp only;rw [ah,if_neg dE]⟩)
  ·intro e he;simp only [wK,List.mem_cons,List.not_mem_nil,or_false] at he;rcases he with rfl|rfl|rfl|rfl|rfl|rfl|rfl|rfl<;>(intro h1;first|(exfalso;revert h1;simp;done)|(dsimp only;rw [ah,if_pos rfl];done)|(dsimp only;rw [ah,if_pos rfl];rfl))
 ·
  obtain rfl:_=o:=Option.some.inj ((rfl:some _=(Lt 1)[1]?).trans ho);refine fM.of (aT.ld (v:=cs lead) tok rfl rfl rfl hd1 hd2 (e0 (hA 0 dK dE) hi) h0 (by rw [←a2 (fun hh=>hi (d7 hh).1)];rfl)) ?_;refine ⟨L8,A8,A9,X,⟨(by rw [ah,if_neg dE];exact p1),(by rw [ah,if_neg dE];exact p2)⟩,?_,hbx,(by simpa [hD] using ⟨x1,x2⟩),(by simpa [hD] using ⟨a1,a2⟩),(by simpa [hD] using ⟨b1,b2⟩),(fun hh=>by have:=d7 (by simpa [hD] using hh);simp [hD,this]),(fun hh=>by have:=d9 (by simpa [hD] using hh);simp [hD,this])⟩;refine ng.step hE hD ?_ ?_
  ·intro e he;simp only [wK,List.mem_cons,List.not_mem_nil,or_false] at he;rcases he with rfl|rfl|rfl|rfl|rfl|rfl|rfl|rfl<;>(intro h1 h2 h3;first|exact absurd rfl h1|exact absurd rfl h2|exact ⟨by simp only [wK,List.mem_cons,true_or,or_true],by dsimp only;rw [ah,if_neg dE]⟩)
  ·intro e he;simp only [wK,List.mem_cons,List.not_mem_nil,or_false] at he;rcases he with rfl|rfl|rfl|rfl|rfl|rfl|rfl|rfl<;>(intro h1;first|(exfalso;revert h1;simp;done)|(dsimp only;rw [ah,if_pos rfl];done)|(dsimp only;rw [ah,if_pos rfl];rfl))
 ·
  obtain rfl:_=o:=Option.some.inj ((rfl:some _=(Lt 1)[2]?).trans ho);refine fM.aga (ys:=[cs lead]) (Uk lead hn1) rfl rfl rfl rfl rfl rfl (by show [cs lead]=([get σ.tm 7].map AV.bY)++[];rw [e1 (hA 1 dK dE) hi];rfl) (by rw [AV.aN,dM];rfl) (fun r nb hS=>?_);obtain rfl:=x2 hi;have hlen:σ.bx.length=2:=by rw [hbx];rfl
  have n7:¬D 7:=fun hh=>hi (d7 hh).2;refine ⟨r.bK fun j=>σ.bx.length+j,A8,A9,nb.map (AV.aO fun j=>σ.bx.length+j),⟨(by rw [ah,if_neg dE];exact p1),(by rw [ah,if_neg dE];exact p2)⟩,?_,?_,⟨fun _=>?_,fun hh=>absurd ((hD 2).2 (.inl rfl)) hh⟩,⟨fun hh=>absurd (((hD 7).1 hh).resolve_left dE) n7,fun _=>a2 n7⟩,(by simpa [hD] using ⟨b1,b2⟩),(fun hh=>absurd (((hD 7).1 hh).resolve_left dE) n7),(fun hh=>by have:=d9 (by simpa [hD] using hh);simp [hD,this])⟩
  ·refine ng.step hE hD ?_ ?_
   ·intro e he;simp only [wK,List.mem_cons,List.not_mem_nil,or_false] at he;rcases he with rfl|rfl|rfl|rfl|rfl|rfl|rfl|rfl<;>(intro h1 h2 h3;first|exact absurd rfl h1|exact absurd rfl h2|exact ⟨by simp only [wK,List.mem_cons,true_or,or_true],by dsimp only;rw [ah,if_neg dE]⟩)
   ·intro e he;simp only [wK,List.mem_cons,List.not_mem_nil,or_false] at he;rcases he with rfl|rfl|rfl|rfl|rfl|rfl|rfl|rfl<;>(intro h1;first|(exfalso;revert h1;simp;done)|(dsimp only;rw [ah,if_pos rfl];done)|(dsimp only;rw [ah,if_pos rfl];rfl))
  ·show σ.bx++_=_;rw [hbx];rfl
  ·rcases hS with ⟨rfl,h1,rfl⟩|⟨rfl,rfl⟩
   ·exact .inl ⟨rfl,h1,rfl⟩
   ·rw [hlen];refine .inr ⟨rfl,?_⟩;rw [List.map_cons,F9];rfl
 ·
  obtain rfl:_=o:=Option.some.inj ((rfl:some _=(Lt 1)[3]?).trans ho);refine fM.of (aT.fa tok rfl rfl rfl hf0 hf9 p1 dE) ?_;refine ⟨L8,A8,A9,X,⟨(by rw [ah,if_neg dE];exact p1),(by rw [ah,if_neg dE];exact p2)⟩,?_,hbx,(by simpa [hD] using ⟨x1,x2⟩),(by simpa [hD] using ⟨a1,a2⟩),(by simpa [hD] using ⟨b1,b2⟩),(fun hh=>by have:=d7 (by simpa [hD] using hh);simp [hD,this]),(fun hh=>by have:=d9 (by simpa [hD] using hh);simp [hD,this])⟩;refine ng.step hE hD ?_ ?_
  ·intro e he;simp only [wK,List.mem_cons,List.not_mem_nil,or_false] at he;rcases he with rfl|rfl|rfl|rfl|rfl|rfl|rfl|rfl<;>(intro h1 h2 h3;first|exact absurd rfl h1|exact absurd rfl h2|exact ⟨by simp only [wK,List.mem_cons,true_or,or_true],by dsimp only;rw [ah,if_neg dE]⟩)
  ·intro e he;simp only [wK,List.mem_cons,List.not_mem_nil,or_false] at he;rcases he with rfl|rfl|rfl|rfl|rfl|rfl|rfl|rfl<;>(intro h1;first|(exfalso;revert h1;simp;done)|(dsimp only;rw [ah,if_pos rfl];done)|(dsimp only;rw [ah,if_pos rfl];rfl))
 ·
  obtain rfl:_=o:=Option.some.inj ((rfl:some _=(Lt 1)[4]?).trans ho);refine fM.of (aT.ld (v:=cs ae) tok rfl rfl rfl hd1 hd2 (e3 (hA 3 dK dE) hi) h0 (by rw [←b2 (fun hh=>hi (d9 hh))];rfl)) ?_;refine ⟨L8,A8,A9,X,⟨(by rw [ah,if_neg dE];exact p1),(by rw [ah,if_neg dE];exact p2)⟩,?_,hbx,(by simpa [hD] using ⟨x1,x2⟩),(by simpa [hD] using ⟨a1,a2⟩),(by simpa [hD] using ⟨b1,b2⟩),(fun hh=>by have:=d7 (by simpa [hD] using hh);simp [hD,this]),(fun hh=>by have:=d9 (by simpa [hD] using hh);simp [hD,this])⟩;refine ng.step hE hD ?_ ?_
  ·intro e he;simp only [wK,List.mem_cons,List.not_mem_nil,or_false] at he;rcases he with rfl|rfl|rfl|rfl|rfl|rfl|rfl|rfl<;>(intro h1 h2 h3;first|exact absurd rfl h1|exact absurd rfl h2|exact ⟨by simp only [wK,List.mem_cons,true_or,or_true],by dsimp only;rw [ah,if_neg dE]⟩)
  ·intro e he;simp only [wK,List.mem_cons,List.not_mem_nil,or_false] at he;rcases he with rfl|rfl|rfl|rfl|rfl|rfl|rfl|rfl<;>(intro h1;first|(exfalso;revert h1;simp;done)|(dsimp only;rw [ah,if_pos rfl];done)|(dsimp only;rw [ah,if_pos rfl];rfl))
 ·
  obtain rfl:_=o:=Option.some.inj ((rfl:some _=(Lt 1)[5]?).trans ho);refine fM.of (aT.aaZ (ys:=[cs ae]) (J5 ae hn2) (fun f=>by unfold cr;rw [AV.bK,F9]) rfl rfl rfl rfl rfl rfl (by show [cs ae]=([get σ.tm 10].map AV.bY)++[];rw [e4 (hA 4 dK dE) hi];rfl) (by rw [AV.aN,dM];rfl)) ?_;refine ⟨L8,A8,A9,X,⟨(by rw [ah,if_neg dE];exact p1),(by rw [ah,if_neg dE];exact p2)⟩,?_,hbx,(by simpa [hD] using ⟨x1,x2⟩),(by simpa [hD] using ⟨a1,a2⟩),(by simpa [hD] using ⟨b1,b2⟩),(fun hh=>by have:=d7 (by simpa [hD] using hh);simp [hD,this]),(fun hh=>by have:=d9 (by simpa [hD] using hh);simp [hD,this])⟩;refine ng.step hE hD ?_ ?_
  ·intro e he;simp only [wK,List.mem_cons,List.not_mem_nil,or_false] at he;rcases he with rfl|rfl|rfl|rfl|rfl|rfl|rfl|rfl<;>(intro h1 h2 h3;first|exact absurd rfl h1|exact absurd rfl h2|exact ⟨by simp only [wK,List.mem_cons,true_or,or_true],by dsimp only;rw [ah,if_neg dE]⟩)
  ·intro e he;simp only [wK,List.mem_cons,List.not_mem_nil,or_false] at he;rcases he with rfl|rfl|rfl|rfl|rfl|rfl|rfl|rfl<;>(intro h1;first|(exfalso;revert h1;simp;done)|(dsimp only;rw [ah,if_pos rfl];done)|(dsimp only;rw [ah,if_pos rfl];rfl))
 ·
  obtain rfl:_=o:=Option.some.inj ((rfl:some _=(Lt 1)[6]?).trans ho);refine fM.of (aT.fa tok rfl rfl rfl hf0 hf8 p1 dE) ?_;refine ⟨L8,A8,A9,X,⟨(by rw [ah,if_neg dE];exact p1),(by rw [ah,if_neg dE];exact p2)⟩,?_,hbx,(by simpa [hD] using ⟨x1,x2⟩),(by simpa [hD] using ⟨a1,a2⟩),(by simpa [hD] using ⟨b1,b2⟩),(fun hh=>by have:=d7 (by simpa [hD] using hh);simp [hD,this]),(fun hh=>by have:=d9 (by simpa [hD] using hh);simp [hD,this])⟩;refine ng.step hE hD ?_ ?_
  ·intro e he;simp only [wK,List.mem_cons,List.not_mem_nil,or_false] at he;rcases he with rfl|rfl|rfl|rfl|rfl|rfl|rfl|rfl<;>(intro h1 h2 h3;first|exact absurd rfl h1|exact absurd rfl h2|exact ⟨by simp only [wK,List.mem_cons,true_or,or_true],by dsimp only;rw [ah,if_neg dE]⟩)
  ·intro e he;simp only [wK,List.mem_cons,List.not_mem_nil,or_false] at he;rcases he with rfl|rfl|rfl|rfl|rfl|rfl|rfl|rfl<;>(intro h1;first|(exfalso;revert h1;simp;done)|(dsimp only;rw [ah,if_pos rfl];done)|(dsimp only;rw [ah,if_pos rfl];rfl))
 ·
  obtain rfl:_=o:=Option.some.inj ((rfl:some _=(Lt 1)[7]?).trans ho);have g2:=hA 2 dK dE;have hL:=x1 g2;have hx:get σ.tm 8=L8:=e2 g2 hi;have n9:¬D 7:=hi;refine fM.of (aT.st (v:=L8) tok rfl rfl rfl hd1 hd2 hd3 (e6 (hA 6 dK dE) hi) hx (by rcases hL with ⟨rfl,-⟩|⟨rfl,-⟩<;>rfl) (by rcases hL with ⟨rfl,-⟩|⟨rfl,-⟩<;>rfl) h0 (by show 8+1<=12;decide)) ?_;refine ⟨L8,L8,A9,X,⟨(by rw [p9 dE];exact p1),(by rw [p9 dE];exact p2)⟩,?_,(by show σ.bx.set 0 _=_;rw [hbx];rfl),(by simpa [hD] using ⟨x1,x2⟩),⟨fun _=>rfl,fun hh=>absurd ((hD 7).2 (.inl rfl)) hh⟩,(by simpa [hD] using ⟨b1,b2⟩),(fun hh=>⟨(hD 1).2 (.inr (hA 1 dK dE)),(hD 2).2 (.inr g2)⟩),(fun hh=>by have:=d9 (by simpa [hD] using hh);simp [hD,this])⟩;refine ng.step hE hD ?_ ?_
  ·intro e he;simp only [wK,List.mem_cons,List.not_mem_nil,or_false] at he;rcases he with rfl|rfl|rfl|rfl|rfl|rfl|rfl|rfl<;>(intro h1 h2 h3;first|exact absurd rfl h1|exact absurd rfl h2|exact ⟨by simp only [wK,List.mem_cons,true_or,or_true],by dsimp only;rw [p9 dE]⟩)
  ·intro e he;simp only [wK,List.mem_cons,List.not_mem_nil,or_false] at he;rcases he with rfl|rfl|rfl|rfl|rfl|rfl|rfl|rfl<;>(intro h1;first|(exfalso;revert h1;simp;done)|(dsimp only;rw [ah,if_pos rfl];done)|(dsimp only;rw [ah,if_pos rfl];rfl))
 ·
  obtain rfl:_=o:=Option.some.inj ((rfl:some _=(Lt 1)[8]?).trans ho);refine fM.of (aT.fa tok rfl rfl rfl hf0 hf9 p1 dE) ?_;refine ⟨L8,A8,A9,X,⟨(by rw [ah,if_neg dE];exact p1),(by rw [ah,if_neg dE];exact p2)⟩,?_,hbx,(by simpa [hD] using ⟨x1,x2⟩),(by simpa [hD] using ⟨a1,a2⟩),(by simpa [hD] using ⟨b1,b2⟩),(fun hh=>by have:=d7 (by simpa [hD] using hh);simp [hD,this]),(fun hh=>by have:=d9 (by simpa [hD] using hh);simp [hD,this])⟩;refine ng.step hE hD ?_ ?_
  ·intro e he;simp only [wK,List.mem_cons,List.not_mem_nil,or_false] at he;rcases he with rfl|rfl|rfl|rfl|rfl|rfl|rfl|rfl<;>(intro h1 h2 h3;first|exact absurd rfl h1|exact absurd rfl h2|exact ⟨by simp only [wK,List.mem_cons,true_or,or_true],by dsimp only;rw [ah,if_neg dE]⟩)
  ·intro e he;simp only [wK,List.mem_cons,List.not_mem_nil,or_false] at he;rcases he with rfl|rfl|rfl|rfl|rfl|rfl|rfl|rfl<;>(intro h1;first|(exfalso;revert h1;simp;done)|(dsimp only;rw [ah,if_pos rfl];done)|(dsimp only;rw [ah,if_pos rfl];rfl))
 ·
  obtain rfl:_=o:=Option.some.inj ((rfl:some _=(Lt 1)[9]?).trans ho);have hx:get σ.tm 11=cr ae:=e5 (hA 5 dK dE) hi;refine fM.of (aT.st (v:=cr ae) tok rfl rfl rfl hd1 hd2 hd3 (e8 (hA 8 dK dE) hi) hx rfl rfl h0 (by show 9+1<=12;decide)) ?_;refine ⟨L8,A8,cr ae,X,⟨(by rw [p9 dE];exact p1),(by rw [p9 dE];exact p2)⟩,?_,(by show σ.bx.set 0 _=_;rw [hbx];rfl),(by simpa [hD] using ⟨x1,x2⟩),(by simpa [hD] using ⟨a1,a2⟩),⟨fun _=>rfl,fun hh=>absurd ((hD 9).2 (.inl rfl)) hh⟩,(fun hh=>by have:=d7 (by simpa [hD] using hh);simp [hD,this]),(fun hh=>(hD 4).2 (.inr (hA 4 dK dE)))⟩;refine ng.step hE hD ?_ ?_
  ·intro e he;simp only [wK,List.mem_cons,List.not_mem_nil,or_false] at he;rcases he with rfl|rfl|rfl|rfl|rfl|rfl|rfl|rfl<;>(intro h1 h2 h3;first|exact absurd rfl h1|exact absurd rfl h2|exact ⟨by simp only [wK,List.mem_cons,true_or,or_true],by dsimp only;rw [p9 dE]⟩)
  ·intro e he;simp only [wK,List.mem_cons,List.not_mem_nil,or_false] at he;rcases he with rfl|rfl|rfl|rfl|rfl|rfl|rfl|rfl<;>(intro h1;first|(exfalso;revert h1;simp;done)|(dsimp only;rw [ah,if_pos rfl];done)|(dsimp only;rw [ah,if_pos rfl];rfl))
 ·exact absurd hlt oM
theorem aev {k y p b:Int} {an tg tx:ByteArray} {kc:AV} {h:Bool} {tr:ByteArray} {lead ae:List Cm} {Z0:List AV} (hn1:lead.length<=10000000000) (hn2:ae.length<=10000000000) (hk:kc.one=true∧kc.flat=true∧wv kc=true) (hZ:dQ Z0=true):WQ Tryz.prog 34 (.region 1 (Lt 1) true) ⟨[(2,.ptr 1 0),(1,.ptr 0 0)],[(Ce.mk k y p b an tg tx kc (cs lead) (cs ae) h tr).l,Z0]⟩ (fun e τ=>e=.normal∧∃L8 E,kG lead 2 L8 E∧τ=⟨[(2,.ptr 1 0),(1,.ptr 0 0)],(Ce.mk k y p b an tg tx kc L8 (cr ae) h tr).l::Z0::E⟩):=by
 refine WQ.Zv (M:=M41 k y p b an tg tx kc h tr lead ae Z0) tok (fun D σ hall hM=>?_) (aad hn1 hn2) (fun D hD=>?_)
 ·obtain ⟨L8,A8,A9,X,⟨p1,p2⟩,hE,hbx,⟨x1,x2⟩,⟨a1,a2⟩,⟨b1,b2⟩,d7,d9⟩:=hM;obtain rfl:=a1 (hall 7);obtain rfl:=b1 (hall 9);have hL:=x1 (hall 2);refine ⟨⟨[(2,.ptr 1 0),(1,.ptr 0 0)],(Ce.mk k y p b an tg tx kc A8 (cr ae) h tr).l::Z0::X⟩,⟨hbx.symm,fun j=>?_⟩,⟨rfl,?_⟩,rfl,A8,X,hL,rfl⟩
  ·show get [(2,.ptr 1 0),(1,.ptr 0 0)] j=_∨_;rw [bD,bD];by_cases h2:j=2
   ·subst h2;left;rw [if_pos rfl,p2]
   ·rw [if_neg h2];by_cases h1:j=1
    ·subst h1;left;rw [if_pos rfl,p1]
    ·rw [if_neg h1];right;rfl
  ·rw [bg];intro c hc;rcases List.mem_cons.1 hc with rfl|hc
   ·rw [dB];intro v hv;have hA8:A8.one=true∧wv A8=true:=by rcases hL with ⟨rfl,-⟩|⟨rfl,-⟩<;>exact ⟨rfl,rfl⟩
    simp only [Ce.l,List.mem_cons,List.not_mem_nil,or_false] at hv;rcases hv with rfl|rfl|rfl|rfl|rfl|rfl|rfl|rfl|rfl|rfl|rfl|rfl<;>first|exact ⟨hk.1,hk.2.2⟩|exact hA8|exact ⟨rfl,aA _⟩|exact ⟨rfl,rfl⟩
   ·rcases List.mem_cons.1 hc with rfl|hc
    ·exact hZ
    ·rcases hL with ⟨-,-,rfl⟩|⟨-,rfl⟩
     ·cases hc
     ·rw [List.mem_singleton.1 hc];exact bQ (bJ (aA lead))
 ·have hno:∀j,j<10->¬D j:=fun j hj hh=>by have:=(hD j).1 hh;have hs:(Lt 1).size=10:=rfl;omega
  refine ⟨.nil,_,_,[],⟨rfl,rfl⟩,fun e he h1 h2=>?_,rfl,⟨fun hh=>absurd hh (hno 2 dE),fun _=>rfl⟩,⟨fun hh=>absurd hh (hno 7 dE),fun _=>rfl⟩,⟨fun hh=>absurd hh (hno 9 dE),fun _=>rfl⟩,fun hh=>absurd hh (hno 7 dE),fun hh=>absurd hh (hno 9 dE)⟩;simp only [wK,List.mem_cons,List.not_mem_nil,or_false] at he;rcases he with rfl|rfl|rfl|rfl|rfl|rfl|rfl|rfl<;>exact absurd h1 (hno _ (by simp))
end V
namespace V
open Ab
open Bk (Cm)
theorem kG.agq {l:List Cm} {L8:AV} {E:List (List AV)} (h:kG l 2 L8 E) {i:Nat} (hi:i ∈ AV.ids L8):i=2∧E.length=1:=by
 rcases h with ⟨rfl,-,rfl⟩|⟨rfl,rfl⟩
 ·cases hi
 ·rw [AV.ids,List.mem_singleton] at hi;exact ⟨hi,rfl⟩
theorem kG.E {l:List Cm} {k:Nat} {L8:AV} {E:List (List AV)} (h:kG l k L8 E):∀z ∈ E,AV.aN z=[]:=by
 rcases h with ⟨-,-,rfl⟩|⟨-,rfl⟩
 ·intro z hz;cases hz
 ·intro z hz;rw [List.mem_singleton.1 hz];exact jr (bE (aA l))
theorem kG.cell {l:List Cm} {L8:AV} {E:List (List AV)} (hL:kG l 2 L8 E) {k y p b:Int} {an tg tx:ByteArray} {kc:AV} {ae:List Cm} {h:Bool} {tr:ByteArray} {i:Nat} (hi:i ∈ AV.aN (Ce.mk k y p b an tg tx kc L8 (cr ae) h tr).l):i ∈ AV.ids kc∨i<2+E.length:=by
 rw [oN] at hi;simp only [kS,List.append_nil] at hi;rcases List.mem_append.1 hi with hi|hi
 ·exact .inl hi
 ·obtain ⟨rfl,h1⟩:=hL.agq hi;exact .inr oM
theorem kG.lf {l:List Cm} {L8:AV} {E:List (List AV)} (h:kG l 2 L8 E):LF L8 E:=⟨fun hi=>h.cell hi,h.E⟩
theorem rJ.aU {P:Program} {f:Nat} {args:List AV} {S S2:AV->List (List AV)->Prop} (h:rJ P f args S) (hw:∀r nb,S r nb->∃r2 nb2,Wk r r2∧vK nb nb2∧wv r2=true∧aV nb2=true∧S2 r2 nb2):rJ P f args S2:=by
 refine ⟨h.H5,fun lim bs w vs m hl hm H=>(h.call lim bs w vs m hl hm H).mono ?_⟩;rintro e w' ⟨r,nb,v,lim',bs',hS,rfl,h3,h4⟩;obtain ⟨r2,nb2,hr,hb,h1,h2,h5⟩:=hw r nb hS;refine ⟨r2,nb2,v,lim',bs',h5,rfl,aM.aU h3 hb (fun c hc=>BV (bg.1 h2 c hc)) (fun k=>?_),h4⟩;unfold rS;by_cases hk:k=0
 ·rw [if_pos hk,if_pos hk];exact ⟨rfl,hr,uQ h1⟩
 ·rw [if_neg hk,if_neg hk];exact ⟨rfl,Wk.refl _,rfl⟩
def Kq (nd:Nd) (r:AV) (b:List (List AV)):Prop:=∃(L8:AV) (E:List (List AV)) (kc:AV) (I:List Nat),kG nd.lead 2 L8 E∧r=.agg (Ce.mk nd.k nd.y nd.p nd.b nd.an nd.tg nd.tx kc L8 (cs nd.ae) nd.h nd.tr).l∧b[0]?=some (Ce.mk nd.k nd.y nd.p nd.b nd.an nd.tg nd.tx kc L8 (cr nd.ae) nd.h nd.tr).l∧b[1]?=some (Ce.mk nd.k nd.y nd.p nd.b nd.an nd.tg nd.tx kc L8 (cs nd.ae) nd.h nd.tr).l∧eQ b nd.kids kc I∧I.Nodup∧(∀i ∈ I,2+E.length<=i)∧xP b∧(∀(j:Nat) (z:List AV),E[j]?=some z->b[2+j]?=some z)∧(∀(j:Nat) (z:List AV),2+E.length<=j->b[j]?=some z->∀i ∈ AV.aN z,2+E.length<=i)
def S41 (nd:Nd) (r:AV) (b:List (List AV)):Prop:=∃(L8:AV) (E:List (List AV)) (kc:AV) (I:List Nat),kG nd.lead 2 L8 E∧r=.agg (Ce.mk nd.k nd.y nd.p nd.b nd.an nd.tg nd.tx kc L8 (cs nd.ae) nd.h nd.tr).l∧eQ b nd.kids kc I∧I.Nodup∧(∀i ∈ I,2+E.length<=i)∧xP b∧(∀(j:Nat) (z:List AV),E[j]?=some z->b[2+j]?=some z)∧(∀z ∈ b,∀i ∈ AV.aN z,2+E.length<=i)∧aV b=true
theorem kG.facts {l:List Cm} {k:Nat} {L8:AV} {E:List (List AV)} (h:kG l k L8 E):L8.one=true∧L8.flat=true∧wv L8=true∧L8.bY=L8:=by rcases h with ⟨rfl,-,-⟩|⟨rfl,-⟩<;>exact ⟨rfl,rfl,rfl,rfl⟩
theorem Uq {k y p b:Int} {an tg tx:ByteArray} {kc L8:AV} {l2:List Cm} {h:Bool} {tr:ByteArray} (g:kc.one=true∧kc.flat=true∧wv kc=true∧kc.bY=kc) (g':L8.one=true∧L8.flat=true∧wv L8=true∧L8.bY=L8):∀v ∈ (Ce.mk k y p b an tg tx kc L8 (cs l2) h tr).l,v.flat=true∧v.one=true∧wv v=true:=by
 intro v hv;simp only [Ce.l,List.mem_cons,List.not_mem_nil,or_false] at hv;rcases hv with rfl|rfl|rfl|rfl|rfl|rfl|rfl|rfl|rfl|rfl|rfl|rfl<;>first|exact ⟨g.2.1,g.1,g.2.2.1⟩|exact ⟨g'.2.1,g'.1,g'.2.2.1⟩|exact ⟨y7 _,rfl,sM _⟩|exact ⟨rfl,rfl,rfl⟩
theorem aay {k y p b:Int} {an tg tx:ByteArray} {kc L8:AV} {l2:List Cm} {h:Bool} {tr:ByteArray} {bx:List (List AV)} (h1:bx[1]?=some (Ce.mk k y p b an tg tx kc L8 (cs l2) h tr).l) (hk:kc.bY=kc) (hk':L8.bY=L8):qG gW 0 ⟨[(2,.ptr 1 0)],bx⟩ [.cell 2 35]=some [.agg (Ce.mk k y p b an tg tx kc L8 (cs l2) h tr).l]:=by
 have e1:AP gW 0 ⟨[(2,.ptr 1 0)],bx⟩ (.cell 2 35)=some (.agg (Ce.mk k y p b an tg tx kc L8 (cs l2) h tr).l):=by show (eO (bx[1]?) fun c=>_)=_;rw [h1];show some (AV.agg [_,_,_,_,_,_,_,kc.bY,L8.bY,_,_,_])=_;rw [hk,hk'];rfl
 unfold qG;rw [e1];rfl
attribute [local irreducible] WQ
theorem abN {k y p bb:Int} {an tg tx:ByteArray} {kids:List Nd} {lead ae:List Cm} {hh:Bool} {tr:ByteArray} {L8:AV} {E:List (List AV)} (hL:kG lead 2 L8 E) (σ:aJ) (hJ:J8R (.mk k y p bb an tg tx kids lead ae hh tr) L8 E σ):WQ Tryz.prog 34 (Vx (Tryz.f41.body.getD .skip)) σ (vB gW [.cell 2 35] 0 (Kq (.mk k y p bb an tg tx kids lead ae hh tr))):=by
 obtain ⟨kc,z1,bx1,I,rfl,h0,h1,hz1,hk,hnd,hI2,hcl,Qd,Zf⟩:=hJ;refine WQ.of ?_;have B:=V.base af.nil;have zE:Ev _ _ _ (aH 41) [] []:=⟨B⟩;obtain ⟨a1,a2,a3,a4,a5,a6,a7,a8,a9,P8,a11,a12,rfl⟩:∃a1 a2 a3 a4 a5 a6 a7 a8 a9 P8 a11 a12:AV,z1=[a1,a2,a3,a4,a5,a6,a7,a8,a9,P8,a11,a12]:=by
  rcases z1 with _|⟨a1,_|⟨a2,_|⟨a3,_|⟨a4,_|⟨a5,_|⟨a6,_|⟨a7,_|⟨a8,_|⟨a9,_|⟨P8,_|⟨a11,_|⟨a12,_|⟨a13,t⟩⟩⟩⟩⟩⟩⟩⟩⟩⟩⟩⟩⟩<;>first|exact ⟨_,_,_,_,_,_,_,_,_,_,_,_,rfl⟩|(simp at hz1;done)|(simp only [List.length_cons] at hz1;omega)
 have hk0:=hk;have hlf:=hL.facts;have hfin:∀{e:wL} {b9:List (List AV)},e=.normal∨e=.ret->b9.length=bx1.length->b9[1]?=some (Ce.mk k y p bb an tg tx kc L8 (cs ae) hh tr).l->(∀j,j≠1->b9[j]?=bx1[j]?)->vB gW [.cell 2 35] 0 (Kq (.mk k y p bb an tg tx kids lead ae hh tr)) e ⟨[(2,.ptr 1 0)],b9⟩:=by
  intro e b9 he Ej h9 ug;have Ti:eQ b9 kids kc I:=hk0.fr fun i hi=>ug i (by have:=hI2 i hi;omega);refine ⟨he,_,aay h9 Ti.kc.2.2.2 hlf.2.2.2,?_,Nat.zero_le _,L8,E,kc,I,hL,rfl,(ug 0 dE).trans h0,h9,Ti,hnd,hI2,hcl.facts Ej h9 ug fun i hi=>?_,fun j z hj=>(ug (2+j) oM).trans (Qd j z hj),fun j z hj hz=>Zf j z hj ((ug j oM).symm.trans hz)⟩
  ·rw [gZ,gZ,Bool.and_true];show qI (Ce.mk k y p bb an tg tx kc L8 (cs ae) hh tr).l=true;exact iB.2 fun v hv=>Uq Ti.kc hlf v hv
  ·rw [oN] at hi;simp only [dM,List.append_nil] at hi;rcases List.mem_append.1 hi with hi|hi
   ·exact hk0.lt i (hk0.ids i hi)
   ·obtain ⟨rfl,h2⟩:=hL.agq hi;rcases hL with ⟨rfl,-⟩|⟨-,rfl⟩
    ·cases hi
    ·exact (List.getElem?_eq_some_iff.1 (Qd 0 _ rfl)).1
 rcases hL with ⟨rfl,hl1,rfl⟩|⟨rfl,rfl⟩
 ·rcases hk with ⟨g1,rfl,rfl⟩|⟨g1,q,cc,J,rfl,rfl,g2,g3⟩
  ·have key:pq (Vx (Tryz.f41.body.getD .skip)) fun c=>WP Tryz.prog 34 0 c ⟨[(2,.ptr 1 0),(1,.ptr 0 0)],bx1⟩ (vB gW [.cell 2 35] 0 (Kq (.mk k y p bb an tg tx kids lead ae hh tr))):=by
    conv=>whnf
    repeat' (first
    |((with_reducible refine (?_:∃c:List AV,_∧_));refine ⟨_,(by first|exact h0|exact h1),?_⟩;(conv=>whnf))
    |refine nX ?_;conv=>whnf
    |(with_reducible refine (?_:wv _=true->aV _=true->_));intro hwr hwb
    |(with_reducible refine (?_:aV _=true->_));intro hw;conv=>whnf
    |with_reducible assumption
    |((with_reducible refine gQ.mk (i:=1) ?_);intro b9 Ej h9 ug;(conv=>whnf))
    |(first|with_reducible refine aX ho ?_|with_reducible refine aQ ho ?_|with_reducible refine aD ho ?_|with_reducible refine ay ho ?_|with_reducible refine az ?_);conv=>whnf
    |with_reducible refine And.intro ?_ ?_
    |exact cL
    |(with_reducible intro h);first|(cases h;done)|(try simp only [lG,reduceCtorEq] at h);first|done|(exfalso;omega)|replace h:=h trivial aZ|replace h:=h aZ|skip
    |fail)
    ·exact .inr rfl
    ·exact (hfin (e:=.ret) (.inr rfl) Ej h9 ug).2
   exact iU key
  ·have key:pq (Vx (Tryz.f41.body.getD .skip)) fun c=>WP Tryz.prog 34 0 c ⟨[(2,.ptr 1 0),(1,.ptr 0 0)],bx1⟩ (vB gW [.cell 2 35] 0 (Kq (.mk k y p bb an tg tx kids lead ae hh tr))):=by
    conv=>whnf
    repeat' (first
    |((with_reducible refine (?_:∃c:List AV,_∧_));refine ⟨_,(by first|exact h0|exact h1),?_⟩;(conv=>whnf))
    |refine nX ?_;conv=>whnf
    |(with_reducible refine (?_:wv _=true->aV _=true->_));intro hwr hwb
    |(with_reducible refine (?_:aV _=true->_));intro hw;conv=>whnf
    |with_reducible assumption
    |((with_reducible refine gQ.mk (i:=1) ?_);intro b9 Ej h9 ug;(conv=>whnf))
    |(first|with_reducible refine aX ho ?_|with_reducible refine aQ ho ?_|with_reducible refine aD ho ?_|with_reducible refine ay ho ?_|with_reducible refine az ?_);conv=>whnf
    |with_reducible refine And.intro ?_ ?_
    |exact cL
    |(with_reducible intro h);first|(cases h;done)|(try simp only [lG,reduceCtorEq] at h);first|done|(exfalso;omega)|replace h:=h trivial aZ|replace h:=h aZ|skip
    |fail)
    ·exact .inr rfl
    ·exact (hfin (e:=.ret) (.inr rfl) Ej h9 ug).2
   exact iU key
 ·rcases hk with ⟨g1,rfl,rfl⟩|⟨g1,q,cc,J,rfl,rfl,g2,g3⟩
  ·have key:pq (Vx (Tryz.f41.body.getD .skip)) fun c=>WP Tryz.prog 34 0 c ⟨[(2,.ptr 1 0),(1,.ptr 0 0)],bx1⟩ (vB gW [.cell 2 35] 0 (Kq (.mk k y p bb an tg tx kids lead ae hh tr))):=by
    conv=>whnf
    repeat' (first
    |((with_reducible refine (?_:∃c:List AV,_∧_));refine ⟨_,(by first|exact h0|exact h1),?_⟩;(conv=>whnf))
    |refine nX ?_;conv=>whnf
    |(with_reducible refine (?_:wv _=true->aV _=true->_));intro hwr hwb
    |(with_reducible refine (?_:aV _=true->_));intro hw;conv=>whnf
    |with_reducible assumption
    |((with_reducible refine gQ.mk (i:=1) ?_);intro b9 Ej h9 ug;(conv=>whnf))
    |(first|with_reducible refine aX ho ?_|with_reducible refine aQ ho ?_|with_reducible refine aD ho ?_|with_reducible refine ay ho ?_|with_reducible refine az ?_);conv=>whnf
    |with_reducible refine And.intro ?_ ?_
    |exact cL
    |(with_reducible intro h);first|(cases h;done)|(try simp only [lG,reduceCtorEq] at h);first|done|(exfalso;omega)|replace h:=h trivial aZ|replace h:=h aZ|skip
    |fail)
    ·exact .inr rfl
    ·exact (hfin (e:=.ret) (.inr rfl) Ej h9 ug).2
   exact iU key
  ·have key:pq (Vx (Tryz.f41.body.getD .skip)) fun c=>WP Tryz.prog 34 0 c ⟨[(2,.ptr 1 0),(1,.ptr 0 0)],bx1⟩ (vB gW [.cell 2 35] 0 (Kq (.mk k y p bb an tg tx kids lead ae hh tr))):=by
    conv=>whnf
    repeat' (first
    |((with_reducible refine (?_:∃c:List AV,_∧_));refine ⟨_,(by first|exact h0|exact h1),?_⟩;(conv=>whnf))
    |refine nX ?_;conv=>whnf
    |(with_reducible refine (?_:wv _=true->aV _=true->_));intro hwr hwb
    |(with_reducible refine (?_:aV _=true->_));intro hw;conv=>whnf
    |with_reducible assumption
    |((with_reducible refine gQ.mk (i:=1) ?_);intro b9 Ej h9 ug;(conv=>whnf))
    |(first|with_reducible refine aX ho ?_|with_reducible refine aQ ho ?_|with_reducible refine aD ho ?_|with_reducible refine ay ho ?_|with_reducible refine az ?_);conv=>whnf
    |with_reducible refine And.intro ?_ ?_
    |exact cL
    |(with_reducible intro h);first|(cases h;done)|(try simp only [lG,reduceCtorEq] at h);first|done|(exfalso;omega)|replace h:=h trivial aZ|replace h:=h aZ|skip
    |fail)
    ·exact .inr rfl
    ·exact (hfin (e:=.ret) (.inr rfl) Ej h9 ug).2
   exact iU key
theorem aaT {k y p bb:Int} {an tg tx:ByteArray} {kids:List Nd} {lead ae:List Cm} {hh:Bool} {tr:ByteArray} (hn:iI (.mk k y p bb an tg tx kids lead ae hh tr)<=9000000000) (hz:fD (.mk k y p bb an tg tx kids lead ae hh tr)<=9000000000):rJ Tryz.prog 41 [.agg (bF (.mk k y p bb an tg tx kids lead ae hh tr))] fun r nb=>Kq (.mk k y p bb an tg tx kids lead ae hh tr) r nb∧wv r=true∧aV nb=true:=by
 refine ahh.okS (by rw [gZ,gZ,Bool.and_true];exact bJ (jk _)) ?_;rw [iI] at hn;rw [fD] at hz;have hn1:lead.length<=10000000000:=oM;have hn2:ae.length<=10000000000:=oM;have B:=V.base af.nil
 conv=>whnf
 refine WQ.seq ?_
 repeat' (first
 |((with_reducible refine (?_:WQ _ _ (.seq (.region 1 _ _) _) _ _));refine aR.get ?_)
 |with_reducible refine WP.seq ?_
 |(with_reducible first|refine Go.mk ?_|refine WP.oC B (aH 41) ?_|refine WP.draw B (aH 41) ?_|refine WP.cond ?_|refine WP.exit ?_|refine WP.skip ?_|refine WP.ret ?_);conv=>whnf
 |with_reducible refine WP.block ?_
 |with_reducible assumption
 |with_reducible refine And.intro ?_ ?_
 |exact cL
 |(with_reducible intro h);first|(cases h;done)|(try simp only [lG,reduceCtorEq] at h);first|done|(exfalso;omega)|replace h:=h trivial aZ|replace h:=h aZ|skip
 |fail)
 refine aR.mk ?_;refine WQ.aej ((aev (k:=k) (y:=y) (p:=p) (b:=bb) (an:=an) (tg:=tg) (tx:=tx) (kc:=.sl kids.length (au kids)) (h:=hh) (tr:=tr) (lead:=lead) (ae:=ae) (Z0:=[.int .i64 0,.int .i64 0,.int .i64 0,.int .i64 0,.str ByteArray.empty,.str ByteArray.empty,.str ByteArray.empty,.nil,.nil,.nil,.bool false,.str ByteArray.empty]) hn1 hn2 ⟨rfl,bB (ai kids),ai kids⟩ rfl).mono ?_);rintro e τ ⟨rfl,L8,E,hL,rfl⟩;refine ⟨rfl,?_⟩;exact iU (M0 (afe (bS kids)) (J:=fun c σ=>WQ Tryz.prog 34 c σ (vB gW [.cell 2 35] 0 (Kq (.mk k y p bb an tg tx kids lead ae hh tr)))) (fun x y σ h=>WQ.seq h) hL.lf rfl rfl (Nat.le_refl _) oM oM (fun σ hJ=>abN hL σ hJ))
def nk:AV->AV
 |.bU _ _ _ n=> .sl n []
 |v=>v
theorem YY (v:AV):Wk v (nk v):=by
 cases v<;>first|exact Wk.refl _|skip
 refine ⟨fun lim bs w v hr=>?_,fun h=>by cases h⟩;rw [AV.R] at hr;obtain ⟨b,c,cur,h1,h2,h3,h4,h5,rfl⟩:=hr;show AV.R lim bs w (.sl _ []) _;rw [AV.R];exact ⟨_,_,rfl,h4,.inl rfl⟩
theorem Sn {k y p b:Int} {an tg tx:ByteArray} {kc lc fc:AV} {h:Bool} {tr:ByteArray}:mQ (Ce.mk k y p b an tg tx kc lc fc h tr).l (Ce.mk k y p b an tg tx (nk kc) (nk lc) fc h tr).l:=
 ⟨_,_,rfl,Wk.refl _,_,_,rfl,Wk.refl _,_,_,rfl,Wk.refl _,_,_,rfl,Wk.refl _,_,_,rfl,Wk.refl _,_,_,rfl,Wk.refl _,_,_,rfl,Wk.refl _,_,_,rfl,YY _,_,_,rfl,YY _,_,_,rfl,Wk.refl _,_,_,rfl,Wk.refl _,_,_,rfl,Wk.refl _,rfl⟩
theorem Sq {b:List (List AV)} {kids:List Nd} {kc:AV} {I:List Nat} (h:eQ b kids kc I):AV.ids (nk kc)=[]∧(nk kc).one=true∧wv (nk kc)=true:=by rcases h with ⟨g1,rfl,rfl⟩|⟨g1,q,cc,J,rfl,rfl,g2,g3⟩<;>exact ⟨rfl,rfl,rfl⟩
theorem NA {l:List Cm} {k:Nat} {L8:AV} {E:List (List AV)} (h:kG l k L8 E):AV.ids (nk L8)=[]∧(nk L8).one=true∧wv (nk L8)=true:=by rcases h with ⟨rfl,-,-⟩|⟨rfl,-⟩<;>exact ⟨rfl,rfl,rfl⟩
theorem Sr {b:List (List AV)} {kids:List Nd} {I:List Nat} {l:List Cm} {kk:Nat} {L8:AV} {E:List (List AV)} {k y p bb:Int} {an tg tx:ByteArray} {kc fc:AV} {h:Bool} {tr:ByteArray} (hk:eQ b kids kc I) (hL:kG l kk L8 E) (hf:AV.ids fc=[]∧fc.one=true∧wv fc=true):AV.aN (Ce.mk k y p bb an tg tx (nk kc) (nk L8) fc h tr).l=[]∧dQ (Ce.mk k y p bb an tg tx (nk kc) (nk L8) fc h tr).l=true:=by
 refine ⟨?_,dB.2 fun v hv=>?_⟩
 ·rw [oN];simp only [(Sq hk).1,(NA hL).1,hf.1,List.append_nil]
 ·simp only [Ce.l,List.mem_cons,List.not_mem_nil,or_false] at hv;rcases hv with rfl|rfl|rfl|rfl|rfl|rfl|rfl|rfl|rfl|rfl|rfl|rfl<;>first|exact (Sq hk).2|exact (NA hL).2|exact hf.2|exact ⟨rfl,rfl⟩
theorem afd (nd:Nd) (hn:iI nd<=9000000000) (hz:fD nd<=9000000000):rJ Tryz.prog 41 [.agg (bF nd)] (S41 nd):=by
 obtain ⟨k,y,p,bb,an,tg,tx,kids,lead,ae,hh,tr⟩:=nd;refine (aaT hn hz).aU ?_;rintro r b ⟨⟨L8,E,kc,I,hL,rfl,h0,h1,hk,hnd,hI,hcl,Qd,Zf⟩,hw1,hw2⟩;obtain ⟨b2,hb2⟩:∃b2,b2=(b.set 0 (Ce.mk k y p bb an tg tx (nk kc) (nk L8) (cr ae) hh tr).l).set 1 (Ce.mk k y p bb an tg tx (nk kc) (nk L8) (cs ae) hh tr).l:=⟨_,rfl⟩;have h1':(b.set 0 (Ce.mk k y p bb an tg tx (nk kc) (nk L8) (cr ae) hh tr).l)[1]?=some (Ce.mk k y p bb an tg tx kc L8 (cs ae) hh tr).l:=(List.getElem?_set_ne dE).trans h1;have hl0:=(List.getElem?_eq_some_iff.1 h0).1;obtain ⟨n0,v0⟩:=Sr (k:=k) (y:=y) (p:=p) (bb:=bb) (an:=an) (tg:=tg) (tx:=tx) (fc:=cr ae) (h:=hh) (tr:=tr) hk hL ⟨kS _,rfl,aA _⟩;obtain ⟨n1,v1⟩:=Sr (k:=k) (y:=y) (p:=p) (bb:=bb) (an:=an) (tg:=tg) (tx:=tx) (fc:=cs ae) (h:=hh) (tr:=tr) hk hL ⟨dM _,rfl,sM _⟩;have hl1:=(List.getElem?_eq_some_iff.1 h1).1;have hlen:b2.length=b.length:=by rw [hb2,List.length_set,List.length_set]
 have g0:b2[0]?=some (Ce.mk k y p bb an tg tx (nk kc) (nk L8) (cr ae) hh tr).l:=by rw [hb2,List.getElem?_set_ne dE,List.getElem?_set_self hl0]
 have g1:b2[1]?=some (Ce.mk k y p bb an tg tx (nk kc) (nk L8) (cs ae) hh tr).l:=by rw [hb2,List.getElem?_set_self (by rw [List.length_set];exact hl1)]
 have gj:∀j,2<=j->b2[j]?=b[j]?:=fun j hj=>by rw [hb2,List.getElem?_set_ne oM,List.getElem?_set_ne oM]
 have hall:∀z ∈ b2,∀i ∈ AV.aN z,2+E.length<=i:=by
  intro z hz i hi;obtain ⟨j,hj⟩:=List.getElem?_of_mem hz;rcases Nat.lt_or_ge j 2 with h2|h2
  ·have:j=0∨j=1:=oM;rcases this with rfl|rfl
   ·rw [g0] at hj;cases hj;rw [n0] at hi;cases hi
   ·rw [g1] at hj;cases hj;rw [n1] at hi;cases hi
  ·rw [gj j h2] at hj;rcases Nat.lt_or_ge j (2+E.length) with h3|h3
   ·have he:=Qd (j-2) E[j-2] (List.getElem?_eq_getElem oM);rw [show 2+(j-2)=j from by omega,hj] at he;cases he;rw [hL.E _ (List.getElem_mem _)] at hi;cases hi
   ·exact Zf j z h3 hj i hi
 have hwb:aV b2=true:=by rw [hb2];exact lT (lT hw2 v0) v1
 refine ⟨_,b2,Wk.refl _,by rw [hb2];exact (vK.set h0 Sn).trans (vK.set h1' Sn),hw1,hwb,L8,E,kc,I,hL,rfl,hk.fr fun i hi=>gj i (by have:=hI i hi;omega),hnd,hI,fun z hz i hi=>?_,fun j z hj=>(gj _ oM).trans (Qd j z hj),hall,hwb⟩;rw [hlen];obtain ⟨j,hj⟩:=List.getElem?_of_mem hz;have h3:=hall z hz i hi;rcases Nat.lt_or_ge j 2 with h2|h2
 ·have:j=0∨j=1:=oM;rcases this with rfl|rfl
  ·rw [g0] at hj;cases hj;rw [n0] at hi;cases hi
  ·rw [g1] at hj;cases hj;rw [n1] at hi;cases hi
 ·rw [gj j h2] at hj;exact hcl z (List.mem_of_getElem? hj) i hi
end V
namespace V
open Ab
open Bk (Cm)
mutual
theorem VT {f:Nat->Nat}:∀(x:AV) {i:Nat},i ∈ AV.ids (AV.bK f x)->∃j ∈ AV.ids x,i=f j
 |.ptr i o,j,h=>by rw [AV.bK,AV.ids,List.mem_singleton] at h;exact ⟨i,by rw [AV.ids];exact List.mem_singleton.2 rfl,h⟩
 |.bU i e z n,j,h=>by rw [AV.bK,AV.ids,List.mem_singleton] at h;exact ⟨i,by rw [AV.ids];exact List.mem_singleton.2 rfl,h⟩
 |.sl n l,j,h=>by rw [AV.bK,AV.ids] at h;rw [AV.ids];exact mg l h
 |.row e z n l,j,h=>by rw [AV.bK,AV.ids] at h;rw [AV.ids];exact mg l h
 |.el l,j,h=>by rw [AV.bK,AV.ids] at h;rw [AV.ids];exact mg l h
 |.agg l,j,h=>by rw [AV.bK,AV.ids] at h;rw [AV.ids];exact mg l h
 |.bX l,j,h=>by rw [AV.bK,AV.ids] at h;rw [AV.ids];exact mg l h
 |.fn g l,j,h=>by rw [AV.bK,AV.ids] at h;rw [AV.ids];exact mg l h
 |.bool _,j,h=>by cases h
 |.int _ _,j,h=>by cases h
 |.str _,j,h=>by cases h
 |.nil,j,h=>by cases h
 |.nz _,j,h=>by cases h
 |.nP _,j,h=>by cases h
 |.low _ _ _,j,h=>by cases h
 |.bad,j,h=>by cases h
theorem mg {f:Nat->Nat}:∀(l:List AV) {i:Nat},i ∈ AV.aN (AV.aO f l)->∃j ∈ AV.aN l,i=f j
 |[],j,h=>by cases h
 |x::l,j,h=>by
  rw [AV.aO,AV.aN,List.mem_append] at h;rcases h with h|h
  ·obtain ⟨k,h1,h2⟩:=VT x h;exact ⟨k,by rw [AV.aN];exact List.mem_append_left _ h1,h2⟩
  ·obtain ⟨k,h1,h2⟩:=mg l h;exact ⟨k,by rw [AV.aN];exact List.mem_append_right _ h1,h2⟩
end
noncomputable def Gq (k:Nat):Array Oper:=opsOf k (Tryz.f13.body.getD .skip)
theorem Ch (ts:List ByteArray):AV.ids (.sl ts.length (cO ts))=[]:=by rw [AV.ids];exact jr (bE (ek ts))
theorem Vz (ts:List ByteArray):AV.ids (.row 9 1 ts.length (cO ts))=[]:=by rw [AV.ids];exact jr (bE (ek ts))
theorem IE:∀ts:List ByteArray,dI (cO ts)=true
 |[]=>rfl
 |t::ts=>by have:=IE ts;rw [cO] at this;rw [cO,List.map_cons,dI,this];rfl
theorem Ui (ts:List ByteArray) (hn:ts.length<=10000000000):aW Tryz.prog 40 [.sl ts.length (cO ts)] [] (.row 9 1 ts.length (cO ts)) []:=Uj (by rw [cO,List.length_map,Nat.mul_one]) (IE ts) (bB (ek ts)) hn
theorem XA (f:Nat->Nat) {k y p b:Int} {an tg tx:ByteArray} {kc lc:AV} {l2:List Cm} {h:Bool} {tr:ByteArray}:AV.aO f (Ce.mk k y p b an tg tx kc lc (cs l2) h tr).l=(Ce.mk k y p b an tg tx (AV.bK f kc) (AV.bK f lc) (cs l2) h tr).l:=by simp only [Ce.l,AV.aO,uj,AV.bK]
def YF (x:Nd) (kc L8:AV):List AV:=(Ce.mk x.k x.y x.p x.b x.an x.tg x.tx kc L8 (cs x.ae) x.h x.tr).l
def rA (d:Dc) (kc L8:AV):List AV:=[cs d.head,.sl d.gM.length (cO d.gM),.bool d.mark,.int .i64 d.root.k,.int .i64 d.root.y,.int .i64 d.root.p,.int .i64 d.root.b,.str d.root.an,.str d.root.tg,.str d.root.tx,kc,L8,cs d.root.ae,.bool d.root.h,.str d.root.tr,.nil]
def OB:List AV:=[.nil,.nil,.bool false,.int .i64 0,.int .i64 0,.int .i64 0,.int .i64 0,.str ByteArray.empty,.str ByteArray.empty,.str ByteArray.empty,.nil,.nil,.nil,.bool false,.str ByteArray.empty,.nil]
def Rt (x:Nd) (bx:List (List AV)) (kc L8:AV) (q:Nat) (I:List Nat):Prop:=eQ bx x.kids kc I∧I.Nodup∧(∀i ∈ I,3<=i∧i≠q)∧((L8=.nil∧x.lead.length=0∧q=0)∨(L8=.bU q 56 2 x.lead.length∧3<=q∧bx[q]?=some (fQ x.lead)))
theorem Rt.facts {x:Nd} {bx:List (List AV)} {kc L8:AV} {q:Nat} {I:List Nat} (h:Rt x bx kc L8 q I):L8.one=true∧L8.flat=true∧wv L8=true∧L8.bY=L8:=by rcases h.2.2.2 with ⟨rfl,-⟩|⟨rfl,-⟩<;>exact ⟨rfl,rfl,rfl,rfl⟩
theorem Lc {d:Dc} {bx:List (List AV)} {kc L8:AV} {q:Nat} {I:List Nat} (h:Rt d.root bx kc L8 q I):∀v ∈ rA d kc L8,v.flat=true∧v.one=true∧wv v=true:=by
 have g:=h.1.kc;have g':=h.facts;intro v hv;simp only [rA,List.mem_cons,List.not_mem_nil,or_false] at hv;rcases hv with rfl|rfl|rfl|rfl|rfl|rfl|rfl|rfl|rfl|rfl|rfl|rfl|rfl|rfl|rfl|rfl<;>first|exact ⟨g.2.1,g.1,g.2.2.1⟩|exact ⟨g'.2.1,g'.1,g'.2.2.1⟩|exact ⟨y7 _,rfl,sM _⟩|exact ⟨bB (ek _),rfl,ek _⟩|exact ⟨rfl,rfl,rfl⟩
theorem vz:∀{l:List AV},(∀v ∈ l,v.flat=true)->AV.ak l=true
 |[],_=>rfl
 |v::l,h=>by rw [AV.ak,h v List.mem_cons_self,vz fun w hw=>h w (List.mem_cons_of_mem _ hw)];rfl
theorem Gj:∀{l:List AV},(∀v ∈ l,v.one=true)->dI l=true
 |[],_=>rfl
 |v::l,h=>by rw [dI,h v List.mem_cons_self,Gj fun w hw=>h w (List.mem_cons_of_mem _ hw)];rfl
theorem Br {d:Dc} {bx:List (List AV)} {kc L8:AV} {q:Nat} {I:List Nat} (h:Rt d.root bx kc L8 q I):AV.ak (YF d.root kc L8)=true∧dI (YF d.root kc L8)=true∧AV.ak (rA d kc L8)=true:=by have hc:∀v ∈ YF d.root kc L8,v.flat=true∧v.one=true∧wv v=true:=Uq h.1.kc h.facts;exact ⟨vz fun v hv=>(hc v hv).1,Gj fun v hv=>(hc v hv).2.1,vz fun v hv=>(Lc h v hv).1⟩
theorem VM {d:Dc} {bx:List (List AV)} {kc L8:AV} {q:Nat} {I:List Nat} (h:Rt d.root bx kc L8 q I):dI (rA d kc L8)=true:=Gj fun v hv=>(Lc h v hv).2.1
theorem aaw {d:Dc} {bx:List (List AV)} {kc L8:AV} {q:Nat} {I:List Nat} (h:Rt d.root bx kc L8 q I):dQ (rA d kc L8)=true:=dB.2 fun v hv=>(Lc h v hv).2
theorem BL (d:Dc) (kc L8:AV):AV.aN (rA d kc L8)=AV.ids kc++AV.ids L8:=by have h1:=dM d.head;have h2:=Ch d.gM;have h3:=dM d.root.ae;simp only [rA,AV.aN,h1,h2,h3,List.nil_append,List.append_nil];simp only [AV.ids,List.nil_append,List.append_nil]
theorem aax {d:Dc} {bx:List (List AV)} {kc L8:AV} {q:Nat} {I:List Nat} (h:Rt d.root bx kc L8 q I) (i:Nat) (hi:i ∈ AV.aN (rA d kc L8)):i ∈ AV.ids kc∨i<bx.length:=by
 rw [BL] at hi;rcases List.mem_append.1 hi with hi|hi
 ·exact .inl hi
 ·rcases h.2.2.2 with ⟨rfl,-⟩|⟨rfl,-,h3⟩
  ·cases hi
  ·rw [AV.ids,List.mem_singleton] at hi;rw [hi];exact .inr (List.getElem?_eq_some_iff.1 h3).1
theorem D32:∃d:TD,gW 32=some d∧d.agg=false:=⟨_,rfl,rfl⟩
theorem D4:∃d:TD,gW 4=some d∧d.agg=false:=⟨_,rfl,rfl⟩
theorem D35:∃d:TD,gW 35=some d∧d.agg=true∧d.size=12:=⟨_,rfl,rfl,rfl⟩
theorem D37:∃d:TD,(gW 37=some d∧d.agg=true∧d.zero=OB∧∀(x:Dc) (kc L8:AV),AV.ak (YF x.root kc L8)=true->dI (YF x.root kc L8)=true->mH d.iG d.zero [(0,(cr x.head).bY),(1,(AV.row 9 1 x.gM.length (cO x.gM)).bY),(2,(AV.bool x.mark).bY),(3,(AV.agg (YF x.root kc L8)).bY)]=some (rA x kc L8))∧(d.iG[0]?=some (0,1,false)∧d.iG[1]?=some (1,1,false)∧d.iG[2]?=some (2,1,false)∧d.iG[3]?=some (3,12,true))∧d.size=16:=by refine ⟨_,⟨rfl,rfl,rfl,fun x kc L8 h1 h2=>?_⟩,⟨rfl,rfl,rfl,rfl⟩,rfl⟩;unfold mH;show (if _ then _ else _)=_;rw [if_pos ⟨rfl,Nat.le_of_ble_eq_true rfl,y7 _,rfl⟩];unfold mH;show (if _ then _ else _)=_;rw [if_pos ⟨rfl,Nat.le_of_ble_eq_true rfl,bB (ek _),rfl⟩];unfold mH;show (if _ then _ else _)=_;rw [if_pos ⟨rfl,Nat.le_of_ble_eq_true rfl,rfl,rfl⟩];unfold mH;show (if _ then _ else _)=_;rw [if_pos ⟨rfl,Nat.le_of_ble_eq_true rfl,h1,h2⟩];rfl
def qK (d:Dc) (kc L8:AV):List (Nat×Nat×Nat×AV):=[(0,1,10,.ptr 0 0),(1,2,11,cs d.head),(2,11,12,cr d.head),(3,4,13,.ptr 0 1),(4,5,14,.sl d.gM.length (cO d.gM)),(5,11,15,.row 9 1 d.gM.length (cO d.gM)),(6,7,16,.ptr 0 2),(7,11,17,.bool d.mark),(8,9,18,.ptr 0 3),(9,10,19,.agg (bF d.root)),(10,11,20,.agg (YF d.root kc L8)),(11,13,21,.agg (rA d kc L8))]
def M13 (d:Dc) (blk:Bool) (D:Nat->Prop) (σ:aJ):Prop:=∃(u q:Nat) (kc L8:AV) (I:List Nat),(get σ.tm 2=.ptr 0 0∧get σ.tm 4=.ptr 1 0∧get σ.tm 5=.ptr 2 0)∧ng (qK d kc L8) D σ.tm∧(σ.bx[0]?=some (rR d)∧σ.bx[1]?=some OB∧σ.bx[2]?=some [.bool blk,.nil])∧xP σ.bx∧aV σ.bx=true∧(D 12->get σ.tm 6=.ptr u 0∧3<=u∧u<σ.bx.length∧(D 10->u ∉ I∧u≠q))∧(D 12->¬D 13->σ.bx[u]?=some OB)∧(D 13->σ.bx[u]?=some (rA d kc L8)∧D 12∧D 10)∧(D 10->Rt d.root σ.bx kc L8 q I)∧(D 10->∀(j:Nat) (z:List AV),σ.bx[j]?=some z->(D 13∧j=u)∨q ∉ AV.aN z)∧(¬D 10->∀(j:Nat) (z:List AV),σ.bx[j]?=some z->AV.aN z=[])∧(D 11->D 10)
attribute [local irreducible] aT fM
theorem aae {d:Dc} {blk:Bool} (hn1:d.head.length<=10000000000) (hn2:d.gM.length<=10000000000) (AX:iI d.root<=9000000000) (hn4:fD d.root<=9000000000) (i:Nat) (o:Oper) (D D':Nat->Prop) (σ:aJ) (ho:(Gq 2)[i]?=some o) (hi:¬D i) (hD:∀j,D' j↔j=i∨D j) (hA:∀j,((iW [] (Gq 2).toList).getD i 0).testBit j=true->j≠i->D j) (hM:M13 d blk D σ):fM Tryz.prog 0 (Gq 2) o σ (M13 d blk D'):=by
 obtain ⟨u,q,kc,L8,I,⟨p2,p4,p5⟩,hE,hb,hcl,hwb,g12,gz,gw,gr,gn,gq,g11⟩:=hM;obtain ⟨ap8,hd25⟩:=d25;obtain ⟨ap7,hd32⟩:=D32;obtain ⟨dd4,hd4⟩:=D4;obtain ⟨ap6,WS⟩:=D35;obtain ⟨Xn,El,hf,Za⟩:=D37;have hf0:=El.1;replace hd25:=And.intro hd25.1 hd25.2.1;have hlt:i<14:=(Array.getElem?_eq_some_iff.1 ho).1;have edg:∀e ∈ qK d kc L8,D e.1->¬D e.2.1->get σ.tm e.2.2.1=e.2.2.2:=hE;simp only [qK,List.forall_mem_cons] at edg;obtain ⟨e0,e1,e2,e3,e4,e5,e6,e7,e8,e9,e10,e11,-⟩:=edg;rcases i with _|_|_|_|_|_|_|_|_|_|_|_|_|_|i
 ·
  obtain rfl:_=o:=Option.some.inj ((rfl:some _=(Gq 2)[0]?).trans ho);refine fM.of (aT.fa tok rfl rfl rfl hf0 hf.1 p2 dE) ?_;refine ⟨u,q,kc,L8,I,⟨(by rw [ah,if_neg dE];exact p2),(by rw [ah,if_neg dE];exact p4),(by rw [ah,if_neg dE];exact p5)⟩,?_,hb,hcl,hwb,(fun hh=>by obtain ⟨k1,k2,k3,k4⟩:=g12 (by simpa [hD] using hh);exact ⟨(by rw [ah,if_neg dE];exact k1),k2,k3,fun hh=>k4 (by simpa [hD] using hh)⟩),(by simpa [hD] using gz),(fun hh=>by have:=gw (by simpa [hD] using hh);simpa [hD] using this),(fun hh=>gr (by simpa [hD] using hh)),(fun hh j z hz=>by have:=gn (by simpa [hD] using hh) j z hz;simpa [hD] using this),(fun hh=>gq (by simpa [hD] using hh)),(fun hh=>by have:=g11 (by simpa [hD] using hh);simp [hD,this])⟩;refine ng.step hE hD ?_ ?_
  ·intro e he;simp only [qK,List.mem_cons,List.not_mem_nil,or_false] at he;rcases he with rfl|rfl|rfl|rfl|rfl|rfl|rfl|rfl|rfl|rfl|rfl|rfl<;>(intro h1 h2 h3;first|exact absurd rfl h1|exact absurd rfl h2|exact absurd (g11 h3) hi|exact ⟨by simp only [qK,List.mem_cons,true_or,or_true],by dsimp only;first|(rw [ah,if_neg dE];done)|rfl⟩)
  ·intro e he;simp only [qK,List.mem_cons,List.not_mem_nil,or_false] at he;rcases he with rfl|rfl|rfl|rfl|rfl|rfl|rfl|rfl|rfl|rfl|rfl|rfl<;>(intro h1;first|(exfalso;revert h1;simp;done)|(dsimp only;rw [ah,if_pos rfl];done)|(dsimp only;rw [ah,if_pos rfl];rfl))
 ·
  obtain rfl:_=o:=Option.some.inj ((rfl:some _=(Gq 2)[1]?).trans ho);refine fM.of (aT.ld (v:=cs d.head) tok rfl rfl rfl hd25.1 hd25.2 (e0 (hA 0 dK dE) hi) hb.1 rfl) ?_;refine ⟨u,q,kc,L8,I,⟨(by rw [ah,if_neg dE];exact p2),(by rw [ah,if_neg dE];exact p4),(by rw [ah,if_neg dE];exact p5)⟩,?_,hb,hcl,hwb,(fun hh=>by obtain ⟨k1,k2,k3,k4⟩:=g12 (by simpa [hD] using hh);exact ⟨(by rw [ah,if_neg dE];exact k1),k2,k3,fun hh=>k4 (by simpa [hD] using hh)⟩),(by simpa [hD] using gz),(fun hh=>by have:=gw (by simpa [hD] using hh);simpa [hD] using this),(fun hh=>gr (by simpa [hD] using hh)),(fun hh j z hz=>by have:=gn (by simpa [hD] using hh) j z hz;simpa [hD] using this),(fun hh=>gq (by simpa [hD] using hh)),(fun hh=>by have:=g11 (by simpa [hD] using hh);simp [hD,this])⟩;refine ng.step hE hD ?_ ?_
  ·intro e he;simp only [qK,List.mem_cons,List.not_mem_nil,or_false] at he;rcases he with rfl|rfl|rfl|rfl|rfl|rfl|rfl|rfl|rfl|rfl|rfl|rfl<;>(intro h1 h2 h3;first|exact absurd rfl h1|exact absurd rfl h2|exact absurd (g11 h3) hi|exact ⟨by simp only [qK,List.mem_cons,true_or,or_true],by dsimp only;first|(rw [ah,if_neg dE];done)|rfl⟩)
  ·intro e he;simp only [qK,List.mem_cons,List.not_mem_nil,or_false] at he;rcases he with rfl|rfl|rfl|rfl|rfl|rfl|rfl|rfl|rfl|rfl|rfl|rfl<;>(intro h1;first|(exfalso;revert h1;simp;done)|(dsimp only;rw [ah,if_pos rfl];done)|(dsimp only;rw [ah,if_pos rfl];rfl))
 ·
  obtain rfl:_=o:=Option.some.inj ((rfl:some _=(Gq 2)[2]?).trans ho);refine fM.of (aT.aaZ (ys:=[cs d.head]) (J5 d.head hn1) (fun f=>uj.vX (kS _)) rfl rfl rfl rfl rfl rfl (by show [cs d.head]=([get σ.tm 11].map AV.bY)++[];rw [e1 (hA 1 dK dE) hi];rfl) (by rw [AV.aN,dM];rfl)) ?_;refine ⟨u,q,kc,L8,I,⟨(by rw [ah,if_neg dE];exact p2),(by rw [ah,if_neg dE];exact p4),(by rw [ah,if_neg dE];exact p5)⟩,?_,hb,hcl,hwb,(fun hh=>by obtain ⟨k1,k2,k3,k4⟩:=g12 (by simpa [hD] using hh);exact ⟨(by rw [ah,if_neg dE];exact k1),k2,k3,fun hh=>k4 (by simpa [hD] using hh)⟩),(by simpa [hD] using gz),(fun hh=>by have:=gw (by simpa [hD] using hh);simpa [hD] using this),(fun hh=>gr (by simpa [hD] using hh)),(fun hh j z hz=>by have:=gn (by simpa [hD] using hh) j z hz;simpa [hD] using this),(fun hh=>gq (by simpa [hD] using hh)),(fun hh=>by have:=g11 (by simpa [hD] using hh);simp [hD,this])⟩;refine ng.step hE hD ?_ ?_
  ·intro e he;simp only [qK,List.mem_cons,List.not_mem_nil,or_false] at he;rcases he with rfl|rfl|rfl|rfl|rfl|rfl|rfl|rfl|rfl|rfl|rfl|rfl<;>(intro h1 h2 h3;first|exact absurd rfl h1|exact absurd rfl h2|exact absurd (g11 h3) hi|exact ⟨by simp only [qK,List.mem_cons,true_or,or_true],by dsimp only;first|(rw [ah,if_neg dE];done)|rfl⟩)
  ·intro e he;simp only [qK,List.mem_cons,List.not_mem_nil,or_false] at he;rcases he with rfl|rfl|rfl|rfl|rfl|rfl|rfl|rfl|rfl|rfl|rfl|rfl<;>(intro h1;first|(exfalso;revert h1;simp;done)|(dsimp only;rw [ah,if_pos rfl];done)|(dsimp only;rw [ah,if_pos rfl];rfl))
 ·
  obtain rfl:_=o:=Option.some.inj ((rfl:some _=(Gq 2)[3]?).trans ho);refine fM.of (aT.fa tok rfl rfl rfl hf0 hf.2.1 p2 dE) ?_;refine ⟨u,q,kc,L8,I,⟨(by rw [ah,if_neg dE];exact p2),(by rw [ah,if_neg dE];exact p4),(by rw [ah,if_neg dE];exact p5)⟩,?_,hb,hcl,hwb,(fun hh=>by obtain ⟨k1,k2,k3,k4⟩:=g12 (by simpa [hD] using hh);exact ⟨(by rw [ah,if_neg dE];exact k1),k2,k3,fun hh=>k4 (by simpa [hD] using hh)⟩),(by simpa [hD] using gz),(fun hh=>by have:=gw (by simpa [hD] using hh);simpa [hD] using this),(fun hh=>gr (by simpa [hD] using hh)),(fun hh j z hz=>by have:=gn (by simpa [hD] using hh) j z hz;simpa [hD] using this),(fun hh=>gq (by simpa [hD] using hh)),(fun hh=>by have:=g11 (by simpa [hD] using hh);simp [hD,this])⟩;refine ng.step hE hD ?_ ?_
  ·intro e he;simp only [qK,List.mem_cons,List.not_mem_nil,or_false] at he;rcases he with rfl|rfl|rfl|rfl|rfl|rfl|rfl|rfl|rfl|rfl|rfl|rfl<;>(intro h1 h2 h3;first|exact absurd rfl h1|exact absurd rfl h2|exact absurd (g11 h3) hi|exact ⟨by simp only [qK,List.mem_cons,true_or,or_true],by dsimp only;first|(rw [ah,if_neg dE];done)|rfl⟩)
  ·intro e he;simp only [qK,List.mem_cons,List.not_mem_nil,or_false] at he;rcases he with rfl|rfl|rfl|rfl|rfl|rfl|rfl|rfl|rfl|rfl|rfl|rfl<;>(intro h1;first|(exfalso;revert h1;simp;done)|(dsimp only;rw [ah,if_pos rfl];done)|(dsimp only;rw [ah,if_pos rfl];rfl))
 ·
  obtain rfl:_=o:=Option.some.inj ((rfl:some _=(Gq 2)[4]?).trans ho);refine fM.of (aT.ld (v:=.sl d.gM.length (cO d.gM)) tok rfl rfl rfl hd32.1 hd32.2 (e3 (hA 3 dK dE) hi) hb.1 rfl) ?_;refine ⟨u,q,kc,L8,I,⟨(by rw [ah,if_neg dE];exact p2),(by rw [ah,if_neg dE];exact p4),(by rw [ah,if_neg dE];exact p5)⟩,?_,hb,hcl,hwb,(fun hh=>by obtain ⟨k1,k2,k3,k4⟩:=g12 (by simpa [hD] using hh);exact ⟨(by rw [ah,if_neg dE];exact k1),k2,k3,fun hh=>k4 (by simpa [hD] using hh)⟩),(by simpa [hD] using gz),(fun hh=>by have:=gw (by simpa [hD] using hh);simpa [hD] using this),(fun hh=>gr (by simpa [hD] using hh)),(fun hh j z hz=>by have:=gn (by simpa [hD] using hh) j z hz;simpa [hD] using this),(fun hh=>gq (by simpa [hD] using hh)),(fun hh=>by have:=g11 (by simpa [hD] using hh);simp [hD,this])⟩;refine ng.step hE hD ?_ ?_
  ·intro e he;simp only [qK,List.mem_cons,List.not_mem_nil,or_false] at he;rcases he with rfl|rfl|rfl|rfl|rfl|rfl|rfl|rfl|rfl|rfl|rfl|rfl<;>(intro h1 h2 h3;first|exact absurd rfl h1|exact absurd rfl h2|exact absurd (g11 h3) hi|exact ⟨by simp only [qK,List.mem_cons,true_or,or_true],by dsimp only;first|(rw [ah,if_neg dE];done)|rfl⟩)
  ·intro e he;simp only [qK,List.mem_cons,List.not_mem_nil,or_false] at he;rcases he with rfl|rfl|rfl|rfl|rfl|rfl|rfl|rfl|rfl|rfl|rfl|rfl<;>(intro h1;first|(exfalso;revert h1;simp;done)|(dsimp only;rw [ah,if_pos rfl];done)|(dsimp only;rw [ah,if_pos rfl];rfl))
 ·
  obtain rfl:_=o:=Option.some.inj ((rfl:some _=(Gq 2)[5]?).trans ho);refine fM.of (aT.aaZ (ys:=[.sl d.gM.length (cO d.gM)]) (Ui d.gM hn2) (fun f=>uj.vX (Vz _)) rfl rfl rfl rfl rfl rfl (by show [AV.sl d.gM.length (cO d.gM)]=([get σ.tm 14].map AV.bY)++[];rw [e4 (hA 4 dK dE) hi];rfl) (by rw [AV.aN,Ch];rfl)) ?_;refine ⟨u,q,kc,L8,I,⟨(by rw [ah,if_neg dE];exact p2),(by rw [ah,if_neg dE];exact p4),(by rw [ah,if_neg dE];exact p5)⟩,?_,hb,hcl,hwb,(fun hh=>by obtain ⟨k1,k2,k3,k4⟩:=g12 (by simpa [hD] using hh);exact ⟨(by rw [ah,if_neg dE];exact k1),k2,k3,fun hh=>k4 (by simpa [hD] using hh)⟩),(by simpa [hD] using gz),(fun hh=>by have:=gw (by simpa [hD] using hh);simpa [hD] using this),(fun hh=>gr (by simpa [hD] using hh)),(fun hh j z hz=>by have:=gn (by simpa [hD] using hh) j z hz;simpa [hD] using this),(fun hh=>gq (by simpa [hD] using hh)),(fun hh=>by have:=g11 (by simpa [hD] using hh);simp [hD,this])⟩;refine ng.step hE hD ?_ ?_
  ·intro e he;simp only [qK,List.mem_cons,List.not_mem_nil,or_false] at he;rcases he with rfl|rfl|rfl|rfl|rfl|rfl|rfl|rfl|rfl|rfl|rfl|rfl<;>(intro h1 h2 h3;first|exact absurd rfl h1|exact absurd rfl h2|exact absurd (g11 h3) hi|exact ⟨by simp only [qK,List.mem_cons,true_or,or_true],by dsimp only;first|(rw [ah,if_neg dE];done)|rfl⟩)
  ·intro e he;simp only [qK,List.mem_cons,List.not_mem_nil,or_false] at he;rcases he with rfl|rfl|rfl|rfl|rfl|rfl|rfl|rfl|rfl|rfl|rfl|rfl<;>(intro h1;first|(exfalso;revert h1;simp;done)|(dsimp only;rw [ah,if_pos rfl];done)|(dsimp only;rw [ah,if_pos rfl];rfl))
 ·
  obtain rfl:_=o:=Option.some.inj ((rfl:some _=(Gq 2)[6]?).trans ho);refine fM.of (aT.fa tok rfl rfl rfl hf0 hf.2.2.1 p2 dE) ?_;refine ⟨u,q,kc,L8,I,⟨(by rw [ah,if_neg dE];exact p2),(by rw [ah,if_neg dE];exact p4),(by rw [ah,if_neg dE];exact p5)⟩,?_,hb,hcl,hwb,(fun hh=>by obtain ⟨k1,k2,k3,k4⟩:=g12 (by simpa [hD] using hh);exact ⟨(by rw [ah,if_neg dE];exact k1),k2,k3,fun hh=>k4 (by simpa [hD] using hh)⟩),(by simpa [hD] using gz),(fun hh=>by have:=gw (by simpa [hD] using hh);simpa [hD] using this),(fun hh=>gr (by simpa [hD] using hh)),(fun hh j z hz=>by have:=gn (by simpa [hD] using hh) j z hz;simpa [hD] using this),(fun hh=>gq (by simpa [hD] using hh)),(fun hh=>by have:=g11 (by simpa [hD] using hh);simp [hD,this])⟩;refine ng.step hE hD ?_ ?_
  ·intro e he;simp only [qK,List.mem_cons,List.not_mem_nil,or_false] at he;rcases he with rfl|rfl|rfl|rfl|rfl|rfl|rfl|rfl|rfl|rfl|rfl|rfl<;>(intro h1 h2 h3;first|exact absurd rfl h1|exact absurd rfl h2|exact absurd (g11 h3) hi|exact ⟨by simp only [qK,List.mem_cons,true_or,or_true],by dsimp only;first|(rw [ah,if_neg dE];done)|rfl⟩)
  ·intro e he;simp only [qK,List.mem_cons,List.not_mem_nil,or_false] at he;rcases he with rfl|rfl|rfl|rfl|rfl|rfl|rfl|rfl|rfl|rfl|rfl|rfl<;>(intro h1;first|(exfalso;revert h1;simp;done)|(dsimp only;rw [ah,if_pos rfl];done)|(dsimp only;rw [ah,if_pos rfl];rfl))
 ·
  obtain rfl:_=o:=Option.some.inj ((rfl:some _=(Gq 2)[7]?).trans ho);refine fM.of (aT.ld (v:=.bool d.mark) tok rfl rfl rfl hd4.1 hd4.2 (e6 (hA 6 dK dE) hi) hb.1 rfl) ?_;refine ⟨u,q,kc,L8,I,⟨(by rw [ah,if_neg dE];exact p2),(by rw [ah,if_neg dE];exact p4),(by rw [ah,if_neg dE];exact p5)⟩,?_,hb,hcl,hwb,(fun hh=>by obtain ⟨k1,k2,k3,k4⟩:=g12 (by simpa [hD] using hh);exact ⟨(by rw [ah,if_neg dE];exact k1),k2,k3,fun hh=>k4 (by simpa [hD] using hh)⟩),(by simpa [hD] using gz),(fun hh=>by have:=gw (by simpa [hD] using hh);simpa [hD] using this),(fun hh=>gr (by simpa [hD] using hh)),(fun hh j z hz=>by have:=gn (by simpa [hD] using hh) j z hz;simpa [hD] using this),(fun hh=>gq (by simpa [hD] using hh)),(fun hh=>by have:=g11 (by simpa [hD] using hh);simp [hD,this])⟩;refine ng.step hE hD ?_ ?_
  ·intro e he;simp only [qK,List.mem_cons,List.not_mem_nil,or_false] at he;rcases he with rfl|rfl|rfl|rfl|rfl|rfl|rfl|rfl|rfl|rfl|rfl|rfl<;>(intro h1 h2 h3;first|exact absurd rfl h1|exact absurd rfl h2|exact absurd (g11 h3) hi|exact ⟨by simp only [qK,List.mem_cons,true_or,or_true],by dsimp only;first|(rw [ah,if_neg dE];done)|rfl⟩)
  ·intro e he;simp only [qK,List.mem_cons,List.not_mem_nil,or_false] at he;rcases he with rfl|rfl|rfl|rfl|rfl|rfl|rfl|rfl|rfl|rfl|rfl|rfl<;>(intro h1;first|(exfalso;revert h1;simp;done)|(dsimp only;rw [ah,if_pos rfl];done)|(dsimp only;rw [ah,if_pos rfl];rfl))
 ·
  obtain rfl:_=o:=Option.some.inj ((rfl:some _=(Gq 2)[8]?).trans ho);refine fM.of (aT.fa tok rfl rfl rfl hf0 hf.2.2.2 p2 dE) ?_;refine ⟨u,q,kc,L8,I,⟨(by rw [ah,if_neg dE];exact p2),(by rw [ah,if_neg dE];exact p4),(by rw [ah,if_neg dE];exact p5)⟩,?_,hb,hcl,hwb,(fun hh=>by obtain ⟨k1,k2,k3,k4⟩:=g12 (by simpa [hD] using hh);exact ⟨(by rw [ah,if_neg dE];exact k1),k2,k3,fun hh=>k4 (by simpa [hD] using hh)⟩),(by simpa [hD] using gz),(fun hh=>by have:=gw (by simpa [hD] using hh);simpa [hD] using this),(fun hh=>gr (by simpa [hD] using hh)),(fun hh j z hz=>by have:=gn (by simpa [hD] using hh) j z hz;simpa [hD] using this),(fun hh=>gq (by simpa [hD] using hh)),(fun hh=>by have:=g11 (by simpa [hD] using hh);simp [hD,this])⟩;refine ng.step hE hD ?_ ?_
  ·intro e he;simp only [qK,List.mem_cons,List.not_mem_nil,or_false] at he;rcases he with rfl|rfl|rfl|rfl|rfl|rfl|rfl|rfl|rfl|rfl|rfl|rfl<;>(intro h1 h2 h3;first|exact absurd rfl h1|exact absurd rfl h2|exact absurd (g11 h3) hi|exact ⟨by simp only [qK,List.mem_cons,true_or,or_true],by dsimp only;first|(rw [ah,if_neg dE];done)|rfl⟩)
  ·intro e he;simp only [qK,List.mem_cons,List.not_mem_nil,or_false] at he;rcases he with rfl|rfl|rfl|rfl|rfl|rfl|rfl|rfl|rfl|rfl|rfl|rfl<;>(intro h1;first|(exfalso;revert h1;simp;done)|(dsimp only;rw [ah,if_pos rfl];done)|(dsimp only;rw [ah,if_pos rfl];rfl))
 ·
  obtain rfl:_=o:=Option.some.inj ((rfl:some _=(Gq 2)[9]?).trans ho);refine fM.of (aT.ldA tok rfl rfl rfl WS.1 WS.2.1 (e8 (hA 8 dK dE) hi) hb.1 (by rw [WS.2.2];show 3+12<=16;decide)) ?_;rw [WS.2.2];refine ⟨u,q,kc,L8,I,⟨(by rw [ah,if_neg dE];exact p2),(by rw [ah,if_neg dE];exact p4),(by rw [ah,if_neg dE];exact p5)⟩,?_,hb,hcl,hwb,(fun hh=>by obtain ⟨k1,k2,k3,k4⟩:=g12 (by simpa [hD] using hh);exact ⟨(by rw [ah,if_neg dE];exact k1),k2,k3,fun hh=>k4 (by simpa [hD] using hh)⟩),(by simpa [hD] using gz),(fun hh=>by have:=gw (by simpa [hD] using hh);simpa [hD] using this),(fun hh=>gr (by simpa [hD] using hh)),(fun hh j z hz=>by have:=gn (by simpa [hD] using hh) j z hz;simpa [hD] using this),(fun hh=>gq (by simpa [hD] using hh)),(fun hh=>by have:=g11 (by simpa [hD] using hh);simp [hD,this])⟩;refine ng.step hE hD ?_ ?_
  ·intro e he;simp only [qK,List.mem_cons,List.not_mem_nil,or_false] at he;rcases he with rfl|rfl|rfl|rfl|rfl|rfl|rfl|rfl|rfl|rfl|rfl|rfl<;>(intro h1 h2 h3;first|exact absurd rfl h1|exact absurd rfl h2|exact absurd (g11 h3) hi|exact ⟨by simp only [qK,List.mem_cons,true_or,or_true],by dsimp only;first|(rw [ah,if_neg dE];done)|rfl⟩)
  ·intro e he;simp only [qK,List.mem_cons,List.not_mem_nil,or_false] at he;rcases he with rfl|rfl|rfl|rfl|rfl|rfl|rfl|rfl|rfl|rfl|rfl|rfl<;>(intro h1;first|(exfalso;revert h1;simp;done)|(dsimp only;rw [ah,if_pos rfl];done)|(dsimp only;rw [ah,if_pos rfl];rfl))
 ·
  obtain rfl:_=o:=Option.some.inj ((rfl:some _=(Gq 2)[10]?).trans ho);refine fM.aga (ys:=[.agg (bF d.root)]) (afd d.root AX hn4) rfl rfl rfl rfl rfl rfl (by show [AV.agg (bF d.root)]=([get σ.tm 19].map AV.bY)++[];rw [e9 (hA 9 dK dE) hi];rfl) (by rw [AV.aN,AV.ids,tY];rfl) (fun r nb hS=>?_);obtain ⟨L9,E,kc9,I9,hL,rfl,hk,hnd,hI,ak3,Qd,hall,akJ⟩:=hS;have n13:¬D 13:=fun hh=>hi (gw hh).2.2;have n11:¬D' 13:=fun hh=>n13 (((hD 13).1 hh).resolve_left dE);have hlen:3<=σ.bx.length:=by have:=(List.getElem?_eq_some_iff.1 hb.2.2).1;omega
  have hnb:∀(j:Nat) (z:List AV),nb[j]?=some z->(σ.bx++nb.map (AV.aO fun j=>σ.bx.length+j))[σ.bx.length+j]?=some (AV.aO (fun j=>σ.bx.length+j) z):=fun j z hj=>by rw [List.getElem?_append_right oM,show σ.bx.length+j-σ.bx.length=j from by omega,List.getElem?_map,hj];rfl
  have hold:∀(j:Nat) (z:List AV),σ.bx[j]?=some z->(σ.bx++nb.map (AV.aO fun j=>σ.bx.length+j))[j]?=some z:=fun j z hj=>by rw [List.getElem?_append_left (List.getElem?_eq_some_iff.1 hj).1];exact hj
  obtain ⟨Q,hQ⟩:∃Q:Nat,(L9=.nil∧d.root.lead.length=0∧Q=0)∨(L9=.bU 2 56 2 d.root.lead.length∧E=[fQ d.root.lead]∧Q=σ.bx.length+2):=by
   rcases hL with ⟨h1,h2,-⟩|⟨h1,h2⟩
   ·exact ⟨0,.inl ⟨h1,h2,rfl⟩⟩
   ·exact ⟨_,.inr ⟨h1,h2,rfl⟩⟩
  refine ⟨u,Q,kc9.bK fun j=>σ.bx.length+j,L9.bK fun j=>σ.bx.length+j,I9.map fun j=>σ.bx.length+j,⟨(by rw [ah,if_neg dE];exact p2),(by rw [ah,if_neg dE];exact p4),(by rw [ah,if_neg dE];exact p5)⟩,?_,⟨hold _ _ hb.1,hold _ _ hb.2.1,hold _ _ hb.2.2⟩,hcl.app ak3,ko hwb (BX akJ),(fun hh=>?_),(fun hh h2=>hold _ _ (gz (((hD 12).1 hh).resolve_left dE) n13)),(fun hh=>absurd hh n11),(fun _=>⟨hk.mv hnb,zN _ hnd,fun i hi=>?_,?_⟩),(fun _ j z hz=> .inr fun hq=>?_),(fun hh=>absurd ((hD 10).2 (.inl rfl)) hh),(fun _=>(hD 10).2 (.inl rfl))⟩
  ·rw [show (AV.agg (Ce.mk d.root.k d.root.y d.root.p d.root.b d.root.an d.root.tg d.root.tx kc9 L9 (cs d.root.ae) d.root.h d.root.tr).l).bK (fun j=>σ.bx.length+j)=AV.agg (YF d.root (kc9.bK fun j=>σ.bx.length+j) (L9.bK fun j=>σ.bx.length+j)) from by rw [AV.bK,XA];rfl];refine ng.step hE hD ?_ ?_
   ·intro e he;simp only [qK,List.mem_cons,List.not_mem_nil,or_false] at he;rcases he with rfl|rfl|rfl|rfl|rfl|rfl|rfl|rfl|rfl|rfl|rfl|rfl<;>(intro h1 h2 h3;first|exact absurd rfl h1|exact absurd rfl h2|exact absurd (g11 h3) hi|exact ⟨by simp only [qK,List.mem_cons,true_or,or_true],by dsimp only;first|(rw [ah,if_neg dE];done)|rfl⟩)
   ·intro e he;simp only [qK,List.mem_cons,List.not_mem_nil,or_false] at he;rcases he with rfl|rfl|rfl|rfl|rfl|rfl|rfl|rfl|rfl|rfl|rfl|rfl<;>(intro h1;first|(exfalso;revert h1;simp;done)|(dsimp only;rw [ah,if_pos rfl];done)|(dsimp only;rw [ah,if_pos rfl];rfl))
  ·obtain ⟨k1,k2,k3,-⟩:=g12 (((hD 12).1 hh).resolve_left dE);refine ⟨(by rw [ah,if_neg dE];exact k1),k2,by rw [List.length_append];omega,fun _=>⟨fun hm=>?_,?_⟩⟩
   ·obtain ⟨j,-,rfl⟩:=List.mem_map.1 hm;omega
   ·rcases hQ with ⟨-,-,h⟩|⟨-,-,h⟩<;>omega
  ·obtain ⟨j,hj,rfl⟩:=List.mem_map.1 hi;have hj2:=hI j hj;refine ⟨oM,?_⟩;rcases hQ with ⟨-,-,h⟩|⟨-,hE1,h⟩
   ·omega
   ·rw [hE1,List.length_singleton] at hj2;omega
  ·rcases hQ with ⟨h1,h2,h⟩|⟨h1,h2,h⟩
   ·exact .inl ⟨by rw [h1];rfl,h2,h⟩
   ·refine .inr ⟨by rw [h1,h];rfl,oM,?_⟩;have:=hnb 2 (fQ d.root.lead) (by have:=Qd 0 (fQ d.root.lead) (by rw [h2];rfl);simpa using this);rw [F9] at this;rw [h];exact this
  ·rcases hQ with ⟨-,-,h⟩|⟨-,hE1,h⟩
   ·subst h;by_cases hj:j<σ.bx.length
    ·rw [List.getElem?_append_left hj] at hz;rw [gq hi j z hz] at hq;cases hq
    ·rw [List.getElem?_append_right oM,List.getElem?_map] at hz;cases hz0:nb[j-σ.bx.length]? with
     |none=>rw [hz0] at hz;cases hz
     |some z0=>
      rw [hz0] at hz;cases hz;have:=nQ (f:=fun j=>σ.bx.length+j) (L:=σ.bx.length) (fun j=>by omega) z0 _ hq;omega
   ·by_cases hj:j<σ.bx.length
    ·rw [List.getElem?_append_left hj] at hz;have:=hcl z (List.mem_of_getElem? hz) _ hq;omega
    ·rw [List.getElem?_append_right oM,List.getElem?_map] at hz;cases hz0:nb[j-σ.bx.length]? with
     |none=>rw [hz0] at hz;cases hz
     |some z0=>
      rw [hz0] at hz;cases hz;obtain ⟨j0,h5,h6⟩:=mg z0 hq;have:=hall z0 (List.mem_of_getElem? hz0) j0 h5;rw [hE1,List.length_singleton] at this;omega
 ·
  obtain rfl:_=o:=Option.some.inj ((rfl:some _=(Gq 2)[11]?).trans ho);have hr:=gr (hA 10 dK dE);refine fM.of (aT.build (l:=rA d kc L8) tok rfl rfl rfl El.1 (by
   show mH Xn.iG Xn.zero [(0,(get σ.tm 12).bY),(1,(get σ.tm 15).bY),(2,(get σ.tm 17).bY),(3,(get σ.tm 20).bY)]=_;rw [e2 (hA 2 dK dE) hi,e5 (hA 5 dK dE) hi,e7 (hA 7 dK dE) hi,e10 (hA 10 dK dE) hi];exact El.2.2.2 d kc L8 (Br hr).1 (Br hr).2.1) El.2.1 (Br hr).2.2) ?_
  refine ⟨u,q,kc,L8,I,⟨(by rw [ah,if_neg dE];exact p2),(by rw [ah,if_neg dE];exact p4),(by rw [ah,if_neg dE];exact p5)⟩,?_,hb,hcl,hwb,(fun hh=>by obtain ⟨k1,k2,k3,k4⟩:=g12 (by simpa [hD] using hh);exact ⟨(by rw [ah,if_neg dE];exact k1),k2,k3,fun hh=>k4 (by simpa [hD] using hh)⟩),(by simpa [hD] using gz),(fun hh=>by have:=gw (by simpa [hD] using hh);simpa [hD] using this),(fun hh=>gr (by simpa [hD] using hh)),(fun hh j z hz=>by have:=gn (by simpa [hD] using hh) j z hz;simpa [hD] using this),(fun hh=>gq (by simpa [hD] using hh)),(fun _=>(hD 10).2 (.inr (hA 10 dK dE)))⟩;refine ng.step hE hD ?_ ?_
  ·intro e he;simp only [qK,List.mem_cons,List.not_mem_nil,or_false] at he;rcases he with rfl|rfl|rfl|rfl|rfl|rfl|rfl|rfl|rfl|rfl|rfl|rfl<;>(intro h1 h2 h3;first|exact absurd rfl h1|exact absurd rfl h2|exact absurd (g11 h3) hi|exact ⟨by simp only [qK,List.mem_cons,true_or,or_true],by dsimp only;first|(rw [ah,if_neg dE];done)|rfl⟩)
  ·intro e he;simp only [qK,List.mem_cons,List.not_mem_nil,or_false] at he;rcases he with rfl|rfl|rfl|rfl|rfl|rfl|rfl|rfl|rfl|rfl|rfl|rfl<;>(intro h1;first|(exfalso;revert h1;simp;done)|(dsimp only;rw [ah,if_pos rfl];done)|(dsimp only;rw [ah,if_pos rfl];rfl))
 ·
  obtain rfl:_=o:=Option.some.inj ((rfl:some _=(Gq 2)[12]?).trans ho);have n13:¬D 13:=fun hh=>hi (gw hh).2.1;have n11:¬D' 13:=fun hh=>n13 (((hD 13).1 hh).resolve_left dE);refine fM.of (aT.alloc tok rfl rfl rfl El.1) ?_;have hold:∀(j:Nat) (z:List AV),σ.bx[j]?=some z->(σ.bx++[Xn.zero])[j]?=some z:=fun j z hj=>by rw [List.getElem?_append_left (List.getElem?_eq_some_iff.1 hj).1];exact hj
  have hlen:3<=σ.bx.length:=by have:=(List.getElem?_eq_some_iff.1 hb.2.2).1;omega
  have hnew:(σ.bx++[Xn.zero])[σ.bx.length]?=some OB:=by rw [List.getElem?_append_right (Nat.le_refl _),Nat.sub_self,El.2.2.1];rfl
  refine ⟨σ.bx.length,q,kc,L8,I,⟨(by rw [ah,if_neg dE];exact p2),(by rw [ah,if_neg dE];exact p4),(by rw [ah,if_neg dE];exact p5)⟩,?_,⟨hold _ _ hb.1,hold _ _ hb.2.1,hold _ _ hb.2.2⟩,hcl.one (by rw [El.2.2.1];intro i hi;cases hi),ko hwb (by rw [El.2.2.1];rfl),(fun _=>⟨by rw [ah,if_pos rfl],hlen,by rw [List.length_append];exact Nat.lt_succ_self _,fun hh=>?_⟩),(fun _ _=>hnew),(fun hh=>absurd hh n11),(fun hh=>?_),(fun hh j z hz=> .inr fun hq=>?_),(fun hh j z hz=>?_),(fun hh=>by have:=g11 (by simpa [hD] using hh);simp [hD,this])⟩
  ·refine ng.step hE hD ?_ ?_
   ·intro e he;simp only [qK,List.mem_cons,List.not_mem_nil,or_false] at he;rcases he with rfl|rfl|rfl|rfl|rfl|rfl|rfl|rfl|rfl|rfl|rfl|rfl<;>(intro h1 h2 h3;first|exact absurd rfl h1|exact absurd rfl h2|exact absurd (g11 h3) hi|exact ⟨by simp only [qK,List.mem_cons,true_or,or_true],by dsimp only;first|(rw [ah,if_neg dE];done)|rfl⟩)
   ·intro e he;simp only [qK,List.mem_cons,List.not_mem_nil,or_false] at he;rcases he with rfl|rfl|rfl|rfl|rfl|rfl|rfl|rfl|rfl|rfl|rfl|rfl<;>(intro h1;first|(exfalso;revert h1;simp;done)|(dsimp only;rw [ah,if_pos rfl];done)|(dsimp only;rw [ah,if_pos rfl];rfl))
  ·have hr:=gr (((hD 10).1 hh).resolve_left dE);refine ⟨fun hm=>Nat.lt_irrefl _ (hr.1.lt _ hm),fun e=>?_⟩;rcases hr.2.2.2 with ⟨h1,-,h3⟩|⟨-,-,h3⟩
   ·omega
   ·have:=(List.getElem?_eq_some_iff.1 h3).1;omega
  ·have hr:=gr (((hD 10).1 hh).resolve_left dE);refine ⟨hr.1.fr fun i hi=>List.getElem?_append_left (hr.1.lt i hi),hr.2.1,hr.2.2.1,hr.2.2.2.imp id fun h=>⟨h.1,h.2.1,hold _ _ h.2.2⟩⟩
  ·by_cases hj:j<σ.bx.length
   ·rw [List.getElem?_append_left hj] at hz;rcases gn (((hD 10).1 hh).resolve_left dE) j z hz with ⟨h1,-⟩|h1
    ·exact n13 h1
    ·exact h1 hq
   ·have hjl:=(List.getElem?_eq_some_iff.1 hz).1;rw [List.length_append,List.length_singleton] at hjl;rw [show j=σ.bx.length from by omega,hnew] at hz;cases hz;rw [show AV.aN OB=[] from rfl] at hq;cases hq
  ·by_cases hj:j<σ.bx.length
   ·rw [List.getElem?_append_left hj] at hz;exact gq (fun h=>hh ((hD 10).2 (.inr h))) j z hz
   ·have hjl:=(List.getElem?_eq_some_iff.1 hz).1;rw [List.length_append,List.length_singleton] at hjl;rw [show j=σ.bx.length from by omega,hnew] at hz;cases hz;rfl
 ·
  obtain rfl:_=o:=Option.some.inj ((rfl:some _=(Gq 2)[13]?).trans ho);have d12:=hA 12 dK dE;have d10:=hA 10 dK dE;obtain ⟨k1,k2,k3,k4⟩:=g12 d12;obtain ⟨k5,k6⟩:=k4 d10;have hr:=gr d10;have akQ:=gz d12 hi;refine fM.of (aT.stA (l:=rA d kc L8) tok rfl rfl rfl El.1 El.2.1 (by rw [Za];rfl) k1 (e11 (hA 11 dK dE) hi) (VM hr) (Br hr).2.2 akQ (by rw [Za];exact Nat.le_refl 16)) ?_;have hset:∀j,j≠u->(σ.bx.set u (setAt OB 0 (rA d kc L8)))[j]?=σ.bx[j]?:=fun j hj=>List.getElem?_set_ne fun e=>hj e.symm;have hself:(σ.bx.set u (setAt OB 0 (rA d kc L8)))[u]?=some (rA d kc L8):=by rw [List.getElem?_set_self k3];rfl
  have hlen:3<=σ.bx.length:=by have:=(List.getElem?_eq_some_iff.1 hb.2.2).1;omega
  refine ⟨u,q,kc,L8,I,⟨p2,p4,p5⟩,?_,⟨(hset 0 oM).trans hb.1,(hset 1 oM).trans hb.2.1,(hset 2 oM).trans hb.2.2⟩,hcl.set (fun i hi=>?_),lT hwb (by show dQ (rA d kc L8)=true;exact aaw hr),(fun _=>⟨k1,k2,by rw [List.length_set];exact k3,fun _=>⟨k5,k6⟩⟩),(fun _ hh=>absurd ((hD 13).2 (.inl rfl)) hh),(fun _=>⟨hself,(hD 12).2 (.inr d12),(hD 10).2 (.inr d10)⟩),(fun _=>⟨hr.1.fr fun i hi=>hset i (fun e=>k5 (e▸hi)),hr.2.1,hr.2.2.1,hr.2.2.2.imp id fun h=>⟨h.1,h.2.1,(hset q (Ne.symm k6)).trans h.2.2⟩⟩),(fun _ j z hz=>?_),(fun hh=>absurd ((hD 10).2 (.inr d10)) hh),(fun _=>(hD 10).2 (.inr d10))⟩
  ·intro e he;simp only [qK,List.mem_cons,List.not_mem_nil,or_false] at he;rcases he with rfl|rfl|rfl|rfl|rfl|rfl|rfl|rfl|rfl|rfl|rfl|rfl<;>(intro h1 h2;first|exact absurd ((hD _).2 (.inl rfl)) h2|exact hE _ (by simp only [qK,List.mem_cons,true_or,or_true]) (((hD _).1 h1).resolve_left dE) (fun hh=>h2 ((hD _).2 (.inr hh)))|(exact hE _ (by simp only [qK,List.mem_cons,true_or,or_true]) (((hD _).1 h1).resolve_left (by simp)) (fun hh=>h2 ((hD _).2 (.inr hh)))))
  ·rcases aax hr i hi with h|h
   ·exact hr.1.lt i (hr.1.ids i h)
   ·exact h
  ·by_cases hj:j=u
   ·exact .inl ⟨(hD 13).2 (.inl rfl),hj⟩
   ·rw [hset j hj] at hz;rcases gn d10 j z hz with ⟨h1,-⟩|h1
    ·exact absurd h1 hi
    ·exact .inr h1
 ·exact absurd hlt oM
end V
namespace V
open Ab
open Bk (Cm)
def dn (q i:Nat):Nat:=if i<q then i else i-1
def Ak (q i:Nat):Nat:=if i<q then i else i+1
theorem KQ (q i:Nat):Ak q i≠q:=by unfold Ak;split<;>omega
theorem Vr {q i j:Nat} (h:Ak q i=Ak q j):i=j:=by unfold Ak at h;split at h<;>split at h<;>omega
theorem BZ {q i:Nat} (h:i≠q):Ak q (dn q i)=i:=by
 unfold Ak dn;by_cases hi:i<q
 ·rw [if_pos hi,if_pos hi]
 ·rw [if_neg hi,if_neg oM];omega
theorem abQ {q i:Nat}:dn q (Ak q i)=i:=by
 unfold Ak dn;by_cases hi:i<q
 ·rw [if_pos hi,if_pos hi]
 ·rw [if_neg hi,if_neg oM];omega
theorem nJ {α:Type} (l:List α) (q i:Nat):(l.eraseIdx q)[i]?=l[Ak q i]?:=by rw [List.getElem?_eraseIdx];unfold Ak;split<;>rfl
theorem OZ:∀{l:List AV},(∀x ∈ l,YD x=true)->AV.ak l=true:=fun h=>vz fun v hv=>by
 have:=h v hv;cases v<;>first|rfl|(cases this;done)
theorem aM.unbox {lim:Nat->Nat} {bs:List Nat} {w:World} {bx:List (List AV)} {S:rE} {m:Nat->Prop} (H:aM lim bs w bx S m) {q u:Nat} {pre post l:List AV} {e z n:Nat} (hbq:bx[q]?=some l) (hu:bx[u]?=some (pre++AV.bU q e z n::post)) (huq:u≠q) (hl:l.length=n*z) (hs:∀x ∈ l,YD x=true) (hpre:q ∉ AV.aN pre) (hpost:q ∉ AV.aN post) (hoth:∀(j:Nat) (y:List AV),bx[j]?=some y->j≠u->j≠q->q ∉ AV.aN y) (hS:∀k,q ∉ (S k).1.ids):
  ∃lim',aM lim' (bs.eraseIdx q) w (((bx.set u (pre++AV.row e z n l::post)).eraseIdx q).map (AV.aO (dn q))) (fun k=>((S k).1.bK (dn q),(S k).2)) m∧Fr m lim w lim' w:=by
 have Gz:q<bs.length:=by rw [H.len];exact (List.getElem?_eq_some_iff.1 hbq).1
 have hul:=(List.getElem?_eq_some_iff.1 hu).1;obtain ⟨g,hq⟩:∃g,bs[q]?=some g:=⟨_,List.getElem?_eq_getElem Gz⟩;have hgm:g ∈ bs:=List.mem_of_getElem? hq;have hg0:=H.free g hgm;obtain ⟨bu,hbu⟩:∃b,bs[u]?=some b:=⟨_,List.getElem?_eq_getElem (show u<bs.length by rw [H.len];exact hul)⟩;obtain ⟨cu,tlu,tu,hhu,hRu,htu⟩:=H.box u bu _ hbu hu;obtain ⟨v0,hv0,hR0⟩:=kU (j:=pre.length) (y:=AV.bU q e z n) hRu (by rw [List.getElem?_append_right (Nat.le_refl _),Nat.sub_self];rfl);rw [AV.R] at hR0;obtain ⟨b',c',cur,h1,h2,h3,h4,h5,rfl⟩:=hR0;rw [hq] at h1;cases h1;obtain ⟨cq,tlq,tq,hhq,hRq,-⟩:=H.box q g l hq hbq;obtain ⟨lim',hlim⟩:∃lim':Nat->Nat,lim'=fun b=>if b=g then l.length else lim b:=⟨_,rfl⟩;have WJ:lim' g=l.length:=by rw [hlim];exact if_pos rfl
 have hln:∀b,b≠g->lim' b=lim b:=fun b hb=>by rw [hlim];exact if_neg hb
 have hle:∀b,lim b<=lim' b:=fun b=>by
  by_cases hb:b=g
  ·rw [hb,hg0];exact Nat.zero_le _
  ·rw [hln b hb];exact Nat.le_refl _
 have mW:AV.Ext lim bs w lim' bs w:=⟨fun _ _ h=>h,Nat.le_refl _,fun b _=>hle b,fun _ _ _ _=>rfl,fun b cur e p h=>⟨cur,h,rfl⟩⟩;have hfr:Fr m lim w lim' w:=⟨Below.refl _ _,fun b hb hm=>⟨rfl,hln b (fun e=>hm (e▸H.mb g hgm))⟩,fun b _=>hle b,fun _ _ _ _=>rfl,fun b cur e p h=>⟨cur,h,rfl⟩⟩;have hrow:AV.R lim' (bs.eraseIdx q) w (AV.row e z n l) (.slice (some ⟨g,0,none⟩) n c'):=by rw [AV.R];refine ⟨hl,OZ hs,.inr ⟨g,c',cur,rfl,h2,h4,h5,h3,WJ,nO (La hs hRq) fun j v hj=>?_⟩⟩;rw [Nat.zero_add];exact dP hhq hj
 have hval:∀{x:AV} {v:Value},x.top=true->q ∉ x.ids->AV.R lim bs w x v->(∀g',x.isRow=true->v.ownBlock=some g'->g' ∉ bs)->AV.R lim' (bs.eraseIdx q) w (x.bK (dn q)) v:=by intro x v ht hx hR hr;refine AV.R.bK (fun i hi b hb=>?_) (AV.R.mE mW ht (fun g' k1 k2=>⟨rfl,hln g' (fun e=>hr g' k1 k2 (e▸hgm))⟩) hR);rw [nJ,BZ (i:=i) (fun e:i=q=>hx (by rw [←e];exact hi))];exact hb
 have hsub:∀b ∈ bs.eraseIdx q,b ∈ bs:=fun b hb=>(List.eraseIdx_sublist bs q).subset hb;have hgn:g ∉ bs.eraseIdx q:=fun h=>by obtain ⟨i,hi⟩:=List.getElem?_of_mem h;rw [nJ] at hi;exact KQ q i (eX H.xV hi hq)
 have WA:AV.bK (dn q) (AV.row e z n l)=AV.row e z n l:=by
  refine oH fun i hi=>?_;rw [AV.ids] at hi;exfalso;obtain ⟨x,hx,hxi⟩:=AV.iT.1 hi;have:=hs x hx;cases x<;>first|(cases this;done)|(cases hxi;done)
 have hcell:∀(i j:Nat) (x:List AV) (a:AV),(((bx.set u (pre++AV.row e z n l::post)).eraseIdx q).map (AV.aO (dn q)))[i]?=some x->x[j]?=some a->(Ak q i=u∧j=pre.length∧a=AV.row e z n l)∨∃(y:List AV) (a0:AV),bx[Ak q i]?=some y∧y[j]?=some a0∧a=a0.bK (dn q)∧q ∉ a0.ids:=by
  intro i j x a hx ha;rw [List.getElem?_map,nJ] at hx;cases hy:(bx.set u (pre++AV.row e z n l::post))[Ak q i]? with
  |none=>rw [hy] at hx;cases hx
  |some y=>
   rw [hy] at hx;cases hx;rw [AV.si,List.getElem?_map] at ha;cases ha0:y[j]? with
   |none=>rw [ha0] at ha;cases ha
   |some a0=>
    rw [ha0] at ha;cases ha;by_cases hiu:Ak q i=u
    ·rw [hiu,List.getElem?_set_self hul] at hy;cases hy;by_cases hj:j<pre.length
     ·rw [List.getElem?_append_left hj] at ha0;refine .inr ⟨_,a0,by rw [hiu];exact hu,by rw [List.getElem?_append_left hj];exact ha0,rfl,fun hh=>hpre (AV.iT.2 ⟨a0,List.mem_of_getElem? ha0,hh⟩)⟩
     ·by_cases hj2:j=pre.length
      ·subst hj2;rw [List.getElem?_append_right (Nat.le_refl _),Nat.sub_self] at ha0;cases ha0;exact .inl ⟨hiu,rfl,WA⟩
      ·obtain ⟨t,ht⟩:∃t,j-pre.length=t+1:=⟨j-pre.length-1,oM⟩;rw [List.getElem?_append_right oM,ht,List.getElem?_cons_succ] at ha0;refine .inr ⟨_,a0,by rw [hiu];exact hu,by rw [List.getElem?_append_right oM,ht,List.getElem?_cons_succ];exact ha0,rfl,fun hh=>hpost (AV.iT.2 ⟨a0,List.mem_of_getElem? ha0,hh⟩)⟩
    ·rw [List.getElem?_set_ne (fun e=>hiu e.symm)] at hy;exact .inr ⟨y,a0,hy,ha0,rfl,fun hh=>hoth _ y hy hiu (KQ q i) (AV.iT.2 ⟨a0,List.mem_of_getElem? ha0,hh⟩)⟩
 have hown:∀p g',Ab.Own w (bs.eraseIdx q) (((bx.set u (pre++AV.row e z n l::post)).eraseIdx q).map (AV.aO (dn q))) (fun k=>((S k).1.bK (dn q),(S k).2)) p g'->(p=.b (dn q u) pre.length∧g'=g)∨∃p0,Ab.Own w bs bx S p0 g'∧((∃k,p=.t k∧p0=.t k)∨∃i j,p=.b i j∧p0=.b (Ak q i) j):=by
  intro p g' hp;cases p with
  |t k=>
   obtain ⟨k1,k2⟩:=hp;exact .inr ⟨.t k,⟨by rw [←AV.lY (dn q)];exact k1,k2⟩,.inl ⟨k,rfl,rfl⟩⟩
  |b i j=>
   obtain ⟨b,x,y,v,q1,q2,q3,q4,q5,q6⟩:=hp;rw [nJ] at q1;rcases hcell i j x y q2 q3 with ⟨r1,r2,r3⟩|⟨y0,a0,r1,r2,r3,r4⟩
   ·left;rw [r1,hbu] at q1;cases q1;refine ⟨by rw [←r1,abQ,r2],?_⟩;rw [r2,dP hhu hv0] at q5;cases q5;simpa [Value.ownBlock] using q6.symm
   ·right;refine ⟨.b (Ak q i) j,⟨b,y0,a0,v,q1,r1,r2,?_,q5,q6⟩,.inr ⟨i,j,rfl,rfl⟩⟩;rw [r3,AV.lY] at q4;exact q4
 refine ⟨lim',⟨?_,H.xV.sublist (List.eraseIdx_sublist bs q),fun b hb=>?_,fun b hb=>H.mb b (hsub b hb),fun i b x hi hx=>?_,fun k=>hval (H.jm k) (hS k) (H.slot k) (fun g' k1 k2=>(H.own (.t k) g' ⟨k1,k2⟩).2),fun k=>?_,fun b hb=>?_,fun p g' hp=>?_,fun p p' g' hp hp'=>?_⟩,hfr⟩
 ·rw [List.length_map,List.length_eraseIdx,List.length_eraseIdx,List.length_set,H.len]
 ·rw [hln b (fun e=>hgn (e▸hb))];exact H.free b (hsub b hb)
 ·have hi0:=hi;rw [nJ] at hi;have hx0:=hx;rw [List.getElem?_map,nJ] at hx;cases hy:(bx.set u (pre++AV.row e z n l::post))[Ak q i]? with
  |none=>rw [hy] at hx;cases hx
  |some y=>
   rw [hy] at hx;have hxy:x=AV.aO (dn q) y:=by cases hx;rfl
   obtain ⟨y1,hy1,hlen1⟩:∃y1,bx[Ak q i]?=some y1∧y1.length=y.length:=by
    by_cases hiu:Ak q i=u
    ·rw [hiu,List.getElem?_set_self hul] at hy;cases hy;exact ⟨_,by rw [hiu];exact hu,by simp⟩
    ·rw [List.getElem?_set_ne (fun e=>hiu e.symm)] at hy;exact ⟨y,hy,rfl⟩
   obtain ⟨c,tl,t,g1,g2,g3⟩:=H.box (Ak q i) b y1 hi hy1;have hone:∀(j:Nat) (a:AV) (v:Value),x[j]?=some a->c[j]?=some v->AV.R lim' (bs.eraseIdx q) w a v∧a.top=true:=by
    intro j a v ha hv;rcases hcell i j x a hx0 ha with ⟨r1,r2,r3⟩|⟨y0,a0,r1,r2,r3,r4⟩
    ·rw [r1,hbu] at hi;cases hi;have e1:=dP g1 hv;rw [r2,dP hhu hv0] at e1;cases e1;rw [r3];exact ⟨hrow,by rw [AV.top];rfl⟩
    ·rw [hy1] at r1;cases r1;obtain ⟨v2,hv2,hR2⟩:=kU g2 r2;rw [hv] at hv2;cases hv2;have ht:=List.all_eq_true.1 g3 a0 (List.mem_of_getElem? r2);rw [r3];exact ⟨hval ht r4 hR2 (fun g' k1 k2=>(H.own (.b (Ak q i) j) g' ⟨b,_,a0,v,hi,hy1,r2,k1,dP g1 hv,k2⟩).2),by rw [AV.vP];exact ht⟩
   have hcl:c.length=x.length:=by rw [AV.fB g2,hlen1,hxy,AV.uV]
   refine ⟨c,tl,t,g1,sQ hcl (fun j a v ha hv=>(hone j a v ha hv).1),List.all_eq_true.2 fun a ha=>?_⟩;obtain ⟨j,hj⟩:=List.getElem?_of_mem ha;have hjc:j<c.length:=by rw [hcl];exact (List.getElem?_eq_some_iff.1 hj).1
   exact (hone j a _ hj (List.getElem?_eq_getElem hjc)).2
 ·show ((S k).1.bK _).top=true;rw [AV.vP];exact H.jm k
 ·rw [hln b (fun e=>by have:=jX H hgm;omega)];exact H.top b hb
 ·rcases hown p g' hp with ⟨-,rfl⟩|⟨p0,k1,-⟩
  ·exact ⟨H.mb _ hgm,hgn⟩
  ·exact ⟨(H.own p0 g' k1).1,fun h=>(H.own p0 g' k1).2 (hsub g' h)⟩
 ·rcases hown p g' hp with ⟨e1,rfl⟩|⟨p0,k1,k2⟩
  ·rcases hown p' g' hp' with ⟨e2,-⟩|⟨p0',k1',-⟩
   ·rw [e1,e2]
   ·exact absurd hgm (H.own p0' _ k1').2
  ·rcases hown p' g' hp' with ⟨-,rfl⟩|⟨p0',k1',k2'⟩
   ·exact absurd hgm (H.own p0 _ k1).2
   ·have he:=H.nK p0 p0' g' k1 k1';rcases k2 with ⟨k,rfl,rfl⟩|⟨i,j,rfl,rfl⟩
    ·rcases k2' with ⟨k',rfl,rfl⟩|⟨i',j',rfl,rfl⟩
     ·exact he
     ·cases he
    ·rcases k2' with ⟨k',rfl,rfl⟩|⟨i',j',rfl,rfl⟩
     ·cases he
     ·simp only [Loc.b.injEq] at he;obtain ⟨h7,rfl⟩:=he;rw [Vr h7]
def F13 (d:Dc) (blk:Bool) (τ:aJ):Prop:=∃(u q:Nat) (kc L8:AV) (I:List Nat) (bx:List (List AV)),τ=⟨[(6,.ptr u 0),(5,.ptr 2 0),(4,.ptr 1 0),(2,.ptr 0 0)],bx⟩∧(bx[0]?=some (rR d)∧bx[1]?=some OB∧bx[2]?=some [.bool blk,.nil])∧xP bx∧aV bx=true∧(3<=u∧u ∉ I∧u≠q)∧bx[u]?=some (rA d kc L8)∧Rt d.root bx kc L8 q I∧∀(j:Nat) (z:List AV),bx[j]?=some z->j=u∨q ∉ AV.aN z
def G13 (d:Dc) (blk:Bool) (τ:aJ):Prop:=∃(u:Nat) (kc:AV) (I:List Nat) (bx:List (List AV)),τ=⟨[(6,.ptr u 0),(5,.ptr 2 0),(4,.ptr 1 0),(2,.ptr 0 0)],bx⟩∧(bx[0]?=some (rR d)∧bx[1]?=some OB∧bx[2]?=some [.bool blk,.nil])∧xP bx∧aV bx=true∧(3<=u∧u ∉ I)∧bx[u]?=some (rA d kc (cr d.root.lead))∧eQ bx d.root.kids kc I∧I.Nodup∧∀i ∈ I,3<=i
theorem aeu {d:Dc} {blk:Bool} (hn1:d.head.length<=10000000000) (hn2:d.gM.length<=10000000000) (AX:iI d.root<=9000000000) (hn4:fD d.root<=9000000000):WQ Tryz.prog 35 (.region 2 (Gq 2) true) ⟨[(5,.ptr 2 0),(4,.ptr 1 0),(2,.ptr 0 0)],[rR d,OB,[.bool blk,.nil]]⟩ (fun e τ=>e=.normal∧F13 d blk τ):=by
 refine WQ.Zv (M:=M13 d blk) tok (fun D σ hall hM=>?_) (aae hn1 hn2 AX hn4) (fun D hD=>?_)
 ·obtain ⟨u,q,kc,L8,I,⟨p2,p4,p5⟩,hE,hb,hcl,hwb,g12,gz,gw,gr,gn,gq,g11⟩:=hM;obtain ⟨k1,k2,k3,k4⟩:=g12 (hall 12);obtain ⟨k5,k6⟩:=k4 (hall 10);refine ⟨⟨[(6,.ptr u 0),(5,.ptr 2 0),(4,.ptr 1 0),(2,.ptr 0 0)],σ.bx⟩,⟨rfl,fun j=>?_⟩,⟨rfl,hwb⟩,rfl,u,q,kc,L8,I,σ.bx,rfl,hb,hcl,hwb,⟨k2,k5,k6⟩,(gw (hall 13)).1,gr (hall 10),fun j z hz=>(gn (hall 10) j z hz).imp And.right id⟩;show get [(6,.ptr u 0),(5,.ptr 2 0),(4,.ptr 1 0),(2,.ptr 0 0)] j=_∨_;rw [bD,bD,bD,bD];by_cases h6:j=6
  ·subst h6;left;rw [if_pos rfl,k1]
  ·rw [if_neg h6];by_cases h5:j=5
   ·subst h5;left;rw [if_pos rfl,p5]
   ·rw [if_neg h5];by_cases h4:j=4
    ·subst h4;left;rw [if_pos rfl,p4]
    ·rw [if_neg h4];by_cases h2:j=2
     ·subst h2;left;rw [if_pos rfl,p2]
     ·rw [if_neg h2];right;rfl
 ·have hno:∀j,j<14->¬D j:=fun j hj hh=>by have:=(hD j).1 hh;have hs:(Gq 2).size=14:=rfl;omega
  have hi0:AV.aN (rR d)=[]:=jr (bE (pQ d));have pK:∀(j:Nat) (z:List AV),[rR d,OB,[AV.bool blk,AV.nil]][j]?=some z->AV.aN z=[]:=by
   intro j z hz;rcases j with _|_|_|j
   ·cases hz;exact hi0
   ·cases hz;rfl
   ·cases hz;rfl
   ·simp at hz
  refine ⟨0,0,.nil,.nil,[],⟨rfl,rfl,rfl⟩,fun e he h1 h2=>?_,⟨rfl,rfl,rfl⟩,fun z hz i hi=>?_,?_,fun hh=>absurd hh (hno 12 dE),fun hh=>absurd hh (hno 12 dE),fun hh=>absurd hh (hno 13 dE),fun hh=>absurd hh (hno 10 dE),fun hh=>absurd hh (hno 10 dE),fun _=>pK,fun hh=>absurd hh (hno 11 dE)⟩
  ·simp only [qK,List.mem_cons,List.not_mem_nil,or_false] at he;rcases he with rfl|rfl|rfl|rfl|rfl|rfl|rfl|rfl|rfl|rfl|rfl|rfl<;>exact absurd h1 (hno _ (by simp))
  ·obtain ⟨j,hj⟩:=List.getElem?_of_mem hz;rw [pK j z hj] at hi;cases hi
  ·rw [aV,bQ (bJ (pQ d))];rfl
theorem VS (f:Nat->Nat) (d:Dc):AV.aO f (rR d)=rR d:=by
 have h:AV.ids (.sl 0 (rR d))=[]:=by rw [AV.ids];exact jr (bE (pQ d))
 have:=uj.vX (f:=f) h;rw [AV.bK] at this;injection this
theorem XZ (f:Nat->Nat) (d:Dc) (kc:AV) (l:List Cm):AV.aO f (rA d kc (cr l))=rA d (AV.bK f kc) (cr l):=by have h2:AV.bK f (.sl d.gM.length (cO d.gM))=.sl d.gM.length (cO d.gM):=uj.vX (Ch d.gM);have h3:AV.bK f (cr l)=cr l:=uj.vX (kS l);simp only [rA,AV.aO,uj,h2,h3];simp only [AV.bK]
theorem Hl {d:Dc} {kc:AV} (h:kc.one=true∧kc.flat=true∧wv kc=true∧kc.bY=kc) (l:List Cm):dQ (rA d kc (cr l))=true:=dB.2 fun v hv=>by
 simp only [rA,List.mem_cons,List.not_mem_nil,or_false] at hv;rcases hv with rfl|rfl|rfl|rfl|rfl|rfl|rfl|rfl|rfl|rfl|rfl|rfl|rfl|rfl|rfl|rfl<;>first|exact ⟨h.1,h.2.2.1⟩|exact ⟨rfl,aA _⟩|exact ⟨rfl,ek _⟩|exact ⟨rfl,rfl⟩
theorem toG {d:Dc} {blk:Bool} {τ:aJ} (h:F13 d blk τ):∃τ',Rx 0 τ τ'∧G13 d blk τ':=by
 obtain ⟨u,q,kc,L8,I,bx,rfl,⟨h0,h1,h2⟩,hcl,hwb,⟨hu3,Vb,huq⟩,hu,hr,hno⟩:=h;obtain ⟨hk,hnd,hI,hL⟩:=hr;have hul:=(List.getElem?_eq_some_iff.1 hu).1;have hkc:=hk.kc;rcases hL with ⟨rfl,hl0,rfl⟩|⟨rfl,hq3,Gz⟩
 ·
  have hlead:d.root.lead=[]:=List.eq_nil_of_length_eq_zero hl0;have hset:∀j,j≠u->(bx.set u (rA d kc (cr d.root.lead)))[j]?=bx[j]?:=fun j hj=>List.getElem?_set_ne fun e=>hj e.symm;refine ⟨⟨[(6,.ptr u 0),(5,.ptr 2 0),(4,.ptr 1 0),(2,.ptr 0 0)],bx.set u (rA d kc (cr d.root.lead))⟩,fun hσ=>Rx.wv (jI.toB hu ?_) (UR.same _) ⟨rfl,lT hσ.bx (Hl hkc _)⟩ hσ,u,kc,I,_,rfl,⟨(hset 0 oM).trans h0,(hset 1 oM).trans h1,(hset 2 oM).trans h2⟩,hcl.set (fun i hi=>?_),lT hwb (Hl hkc _),⟨hu3,Vb⟩,List.getElem?_set_self hul,hk.fr (fun i hi=>hset i (fun e=>Vb (e▸hi))),hnd,fun i hi=>(hI i hi).1⟩
  ·rw [hlead];exact .cons .refl (.cons .refl (.cons .refl (.cons .refl (.cons .refl (.cons .refl (.cons .refl (.cons .refl (.cons .refl (.cons .refl (.cons .refl (.cons Wv.mo (.cons .refl (.cons .refl (.cons .refl (.cons .refl .nil)))))))))))))))
  ·rw [BL,kS,List.append_nil] at hi;exact hk.lt i (hk.ids i hi)
 ·
  have hqb:=(List.getElem?_eq_some_iff.1 Gz).1;have hqI:q ∉ I:=fun hh=>(hI q hh).2 rfl;obtain ⟨qM,WW⟩:∃qM,qM=((bx.set u (rA d kc (cr d.root.lead))).eraseIdx q).map (AV.aO (dn q)):=⟨_,rfl⟩;have hget:∀j,qM[j]?=((bx.set u (rA d kc (cr d.root.lead)))[Ak q j]?).map (AV.aO (dn q)):=fun j=>by rw [WW,List.getElem?_map,nJ]
  have hset:∀j,j≠u->(bx.set u (rA d kc (cr d.root.lead)))[j]?=bx[j]?:=fun j hj=>List.getElem?_set_ne fun e=>hj e.symm;have hself:(bx.set u (rA d kc (cr d.root.lead)))[u]?=some (rA d kc (cr d.root.lead)):=List.getElem?_set_self hul;have hlow:∀j,j<q->j≠u->qM[j]?=(bx[j]?).map (AV.aO (dn q)):=fun j hj hju=>by rw [hget j,show Ak q j=j from if_pos hj,hset j hju]
  have kX:qM.length=bx.length-1:=by rw [WW,List.length_map,List.length_eraseIdx,List.length_set,if_pos hqb]
  have abq:∀i ∈ AV.ids kc,i ∈ I:=hk.ids;have e0:qM[0]?=some (rR d):=by rw [hlow 0 oM oM,h0];show some (AV.aO _ _)=_;rw [VS]
  have e1:qM[1]?=some OB:=by rw [hlow 1 oM oM,h1];rfl
  have e2:qM[2]?=some [.bool blk,.nil]:=by rw [hlow 2 oM oM,h2];rfl
  have eu:qM[dn q u]?=some (rA d (AV.bK (dn q) kc) (cr d.root.lead)):=by rw [hget,BZ huq,hself];show some (AV.aO _ _)=_;rw [XZ]
  have pK:∀(j:Nat) (z:List AV),j≠q->(bx.set u (rA d kc (cr d.root.lead)))[j]?=some z->∀i ∈ AV.aN z,i≠q∧i<bx.length:=fun j z hjq hz i hi=>by
   by_cases hju:j=u
   ·rw [hju,hself] at hz;cases hz;rw [BL,kS,List.append_nil] at hi;exact ⟨(hI i (abq i hi)).2,hk.lt i (abq i hi)⟩
   ·rw [hset j hju] at hz;refine ⟨fun e=>?_,hcl z (List.mem_of_getElem? hz) i hi⟩;rcases hno j z hz with h|h
    ·exact hju h
    ·exact h (e▸hi)
  have GH:xP qM:=by
   intro z hz i hi;obtain ⟨j,hj⟩:=List.getElem?_of_mem hz;rw [hget j] at hj;cases hy:(bx.set u (rA d kc (cr d.root.lead)))[Ak q j]? with
   |none=>rw [hy] at hj;cases hj
   |some y=>
    rw [hy] at hj;cases hj;obtain ⟨i0,k1,rfl⟩:=mg y hi;obtain ⟨k2,k3⟩:=pK _ y (KQ q j) hy i0 k1;rw [kX];unfold dn;split<;>omega
  have agw:aV qM=true:=by rw [WW];refine bg.2 fun c hc=>?_;obtain ⟨z,hz,rfl⟩:=List.mem_map.1 hc;have hz2:=(List.eraseIdx_sublist _ q).subset hz;exact Bf (bg.1 (lT hwb (Hl hkc _)) z hz2)
  have hq1:dn q (q-1)=q-1:=if_pos oM;have hq2:dn q q=q-1:=if_neg (Nat.lt_irrefl q);have hk2:eQ qM d.root.kids (AV.bK (dn q) kc) (I.map (dn q)):=by
   refine eQ.mv (b:=(bx.set u (rA d kc (cr d.root.lead))).set q (((bx.set u (rA d kc (cr d.root.lead)))[q-1]?).getD [])) (f:=dn q) (fun j z hj=>?_) (hk.fr fun i hi=>?_)
   ·by_cases hjq:j=q
    ·rw [hjq,List.getElem?_set_self (by rw [List.length_set];exact hqb)] at hj;cases hj;rw [hjq,hq2,hget,show Ak q (q-1)=q-1 from if_pos oM];have hlt:q-1<(bx.set u (rA d kc (cr d.root.lead))).length:=by rw [List.length_set];omega
     rw [List.getElem?_eq_getElem hlt];rfl
    ·rw [List.getElem?_set_ne (fun e=>hjq e.symm)] at hj;rw [hget,BZ hjq,hj];rfl
   ·rw [List.getElem?_set_ne (fun e:q=i=>hqI (by rw [e];exact hi))];exact hset i (fun e=>Vb (e▸hi))
  have Y9:∀i j,i≠q->j≠q->dn q i=dn q j->i=j:=fun i j h3 h4 h5=>by rw [←BZ h3,←BZ h4,h5]
  refine ⟨⟨[(6,.ptr (dn q u) 0),(5,.ptr 2 0),(4,.ptr 1 0),(2,.ptr 0 0)],qM⟩,fun hσ=>⟨⟨rfl,agw⟩,fun {m lim bs w a} hbl H=>?_⟩,dn q u,AV.bK (dn q) kc,I.map (dn q),qM,rfl,⟨e0,e1,e2⟩,GH,agw,⟨?_,fun hm=>?_⟩,eu,hk2,?_,fun i hi=>?_⟩
  ·have hin:∀x ∈ rA d kc (cr d.root.lead),q ∉ AV.ids x:=fun x hx hxi=>by have hi:q ∈ AV.aN (rA d kc (cr d.root.lead)):=AV.iT.2 ⟨x,hx,hxi⟩;rw [BL,kS,List.append_nil] at hi;exact hqI (abq q hi)
   have s1:q ∉ AV.aN ((rA d kc (cr d.root.lead)).take 11):=fun hh=>by obtain ⟨x,hx,hxi⟩:=AV.iT.1 hh;exact hin x (List.mem_of_mem_take hx) hxi
   have s2:q ∉ AV.aN ((rA d kc (cr d.root.lead)).drop 12):=fun hh=>by obtain ⟨x,hx,hxi⟩:=AV.iT.1 hh;exact hin x (List.mem_of_mem_drop hx) hxi
   have s3:∀(j:Nat) (y:List AV),bx[j]?=some y->j≠u->j≠q->q ∉ AV.aN y:=fun j y hj hju hjq hh=>by
    rcases hno j y hj with h|h
    ·exact hju h
    ·exact h hh
   have s4:∀k,q ∉ (Sl [(6,AV.ptr u 0),(5,.ptr 2 0),(4,.ptr 1 0),(2,.ptr 0 0)] a k).1.ids:=fun k hh=>by
    have hh':q ∈ (get [(6,AV.ptr u 0),(5,.ptr 2 0),(4,.ptr 1 0),(2,.ptr 0 0)] k).ids:=hh;rw [bD,bD,bD,bD] at hh';split at hh'
    ·rw [AV.ids,List.mem_singleton] at hh';exact huq hh'.symm
    ·split at hh'
     ·rw [AV.ids,List.mem_singleton] at hh';omega
     ·split at hh'
      ·rw [AV.ids,List.mem_singleton] at hh';omega
      ·split at hh'
       ·rw [AV.ids,List.mem_singleton] at hh';omega
       ·cases hh'
   obtain ⟨lim',H2,hfr⟩:=aM.unbox H (q:=q) (u:=u) (pre:=(rA d kc (cr d.root.lead)).take 11) (post:=(rA d kc (cr d.root.lead)).drop 12) (l:=fQ d.root.lead) (e:=56) (z:=2) (n:=d.root.lead.length) Gz hu huq (kT _) (Mr _) s1 s2 s3 s4;refine ⟨lim',bs.eraseIdx q,?_,hfr,fun i b hi=>absurd hi (Nat.not_lt_zero _)⟩;have hS:(fun k=>((Sl [(6,AV.ptr u 0),(5,.ptr 2 0),(4,.ptr 1 0),(2,.ptr 0 0)] a k).1.bK (dn q),(Sl [(6,AV.ptr u 0),(5,.ptr 2 0),(4,.ptr 1 0),(2,.ptr 0 0)] a k).2))=Sl [(6,AV.ptr (dn q u) 0),(5,.ptr 2 0),(4,.ptr 1 0),(2,.ptr 0 0)] a:=by
    funext k;unfold Sl;rw [bD,bD,bD,bD,bD,bD,bD,bD];split
    ·rfl
    ·split
     ·show (AV.ptr (dn q 2) 0,_)=_;rw [show dn q 2=2 from if_pos oM]
     ·split
      ·show (AV.ptr (dn q 1) 0,_)=_;rw [show dn q 1=1 from if_pos oM]
      ·split
       ·show (AV.ptr (dn q 0) 0,_)=_;rw [show dn q 0=0 from if_pos oM]
       ·rfl
   rw [hS] at H2;rw [WW];exact H2
  ·unfold dn;split<;>omega
  ·obtain ⟨j,hj,he⟩:=List.mem_map.1 hm;have:=Y9 j u (hI j hj).2 huq he;exact Vb (this▸hj)
  ·refine List.Pairwise.map _ (fun a b hab=>hab) ?_;refine hnd.imp_of_mem fun {a b} ha hb hne he=>hne (Y9 a b (hI a ha).2 (hI b hb).2 he)
  ·obtain ⟨j,hj,rfl⟩:=List.mem_map.1 hi;have:=hI j hj;unfold dn;split<;>omega
theorem rJ.Qe {P:Program} {f:Nat} {args:List AV} {S:AV->List (List AV)->Prop} {r0:AV} (h:rJ P f args S) (hr:r0.isRow=false) (hS:∀r nb,S r nb->r.flat=true∧∃k,jJ nb 0 k r=some r0):aW P f args [] r0 []:=by
 refine ⟨h.H5,Nat.le_refl _,fun lim bs w vs m hl hm H=>(h.call lim bs w vs m hl hm H).mono ?_⟩;rintro e w' ⟨r,nb,v,lim',bs',hSr,rfl,H1,hfr⟩;obtain ⟨hf,k,hk⟩:=hS r nb hSr;have hR:AV.R lim' bs' w' r v:=H1.slot 0;obtain ⟨g1,g2,g3⟩:=wD H1 k hf hk hR;rw [List.take_zero] at g1;have sG:∀b,b ∉ bs'->rQ lim' bs' 0 w' b=lim' b:=fun b hb=>by unfold rQ;rw [if_neg (by rw [List.drop_zero];exact hb)]
 refine ⟨v,rQ lim' bs' 0 w',[],rfl,aM.res (fun b hb=>?_) g1 (by rw [AV.top,g2];simp) (fun g h1=>by rw [hr] at h1;cases h1),?_,fun i hi=>absurd hi (Nat.not_lt_zero _)⟩
 ·rw [sG b (fun hb'=>by have:=jX H1 hb';omega)];exact H1.top b hb
 ·have h2:Fr m lim' w' (rQ lim' bs' 0 w') w':=⟨Below.refl _ _,fun b hb hm'=>⟨rfl,sG b (fun hb'=>hm' (H1.mb b hb'))⟩,fun b _=>yJ H1 0 b,fun _ _ _ _=>rfl,fun b cur e p h=>⟨cur,h,rfl⟩⟩;exact hfr.trans h2
theorem JE {g:AV->Option AV}:∀{a b a' b':List AV},l8 g a=some a'->l8 g b=some b'->l8 g (a++b)=some (a'++b')
 |[],b,a',b',h,h2=>by rw [l8] at h;cases h;exact h2
 |x::a,b,a',b',h,h2=>by
  rw [l8] at h;split at h
  ·rename_i y r hy hr;cases h;rw [List.cons_append,l8,hy,JE hr h2];rfl
  ·cases h
theorem fI {bx:List (List AV)} {n k:Nat} {v:AV} (h:v.pf=true):jJ bx n (k+1) v=some v:=by unfold jJ;rw [h]
theorem FC (l:List Cm):(cs l).pf=true:=bE (aA l)
theorem abU {bx:List (List AV)} {k:Nat} {x:Nd} {kc SQ:AV} (hd:kc.bY=kc) (h:jJ bx 0 (k+1) kc=some SQ):l8 (jJ bx 0 (k+1)) ((x.ce kc).l.map AV.bY)=some (x.ce SQ).l:=by obtain ⟨k0,y,p,b,an,tg,tx,kids,lead,ae,hh,tr⟩:=x;show l8 (jJ bx 0 (k+1)) [.int .i64 k0,.int .i64 y,.int .i64 p,.int .i64 b,.str an,.str tg,.str tx,kc.bY,cs lead,cs ae,.bool hh,.str tr]=some [.int .i64 k0,.int .i64 y,.int .i64 p,.int .i64 b,.str an,.str tg,.str tx,SQ,cs lead,cs ae,.bool hh,.str tr];rw [hd];simp only [l8,h,fI (FC lead),fI (FC ae),fI (v:=.int .i64 k0) rfl,fI (v:=.int .i64 y) rfl,fI (v:=.int .i64 p) rfl,fI (v:=.int .i64 b) rfl,fI (v:=.str an) rfl,fI (v:=.str tg) rfl,fI (v:=.str tx) rfl,fI (v:=.bool hh) rfl,fI (v:=.str tr) rfl]
mutual
theorem SL {bx:List (List AV)}:∀(x:Nd) {c:List AV} {I:List Nat},mZ bx x c I->∃K,∀k,K<=k->l8 (jJ bx 0 k) (c.map AV.bY)=some (Sz x)
 |.mk k0 y p b an tg tx kids lead ae h tr,c,I,hh=>by
  obtain ⟨kc,rfl,hk⟩:=gF.1 hh;have hk0:=hk;replace hk:eQ bx kids kc I:=hk;have key:∃K,∀k,K<=k->jJ bx 0 k kc=some (.sl kids.length (au kids)):=by
   rcases hk with ⟨g1,rfl,rfl⟩|⟨g1,q,cc,J,rfl,rfl,g2,g3⟩
   ·have hn:kids=[]:=List.eq_nil_of_length_eq_zero g1;refine ⟨1,fun k hk=>?_⟩;obtain ⟨k,rfl⟩:∃j,k=j+1:=⟨k-1,oM⟩;rw [hn];exact fI rfl
   ·obtain ⟨K,hK⟩:=CX kids g3;refine ⟨K+1,fun k hk=>?_⟩;obtain ⟨k,rfl⟩:∃j,k=j+1:=⟨k-1,oM⟩;unfold jJ;rw [show (AV.bU q 35 12 kids.length).pf=false from rfl];simp only [];rw [g2];simp only [];have hlen:=g3.len;rw [if_pos ⟨Nat.zero_le _,by rw [hlen];exact Nat.le_refl _⟩,List.take_of_length_le (by rw [hlen];exact Nat.le_refl _),hK k oM];rfl
  obtain ⟨K,hK⟩:=key;refine ⟨K+1,fun k hk=>?_⟩;obtain ⟨k,rfl⟩:∃j,k=j+1:=⟨k-1,oM⟩;rw [abU hk0.kc.2.2.2 (hK (k+1) oM),Sz];rfl
theorem CX {bx:List (List AV)}:∀(l:List Nd) {c:List AV} {J:List Nat},eF bx l c J->∃K,∀k,K<=k->l8 (jJ bx 0 k) (c.map AV.bY)=some (au l)
 |[],c,J,h=>by obtain ⟨rfl,-⟩:=fJ.1 h;exact ⟨0,fun k _=>rfl⟩
 |x::l,c,J,h=>by obtain ⟨c1,c2,J1,J2,rfl,-,h1,h2⟩:=dm.1 h;obtain ⟨K1,hK1⟩:=SL x h1;obtain ⟨K2,hK2⟩:=CX l h2;refine ⟨K1+K2,fun k hk=>?_⟩;rw [List.map_append,au];exact JE (hK1 k oM) (hK2 k oM)
end
theorem Wp {bx:List (List AV)} {kids:List Nd} {kc:AV} {I:List Nat} (h:eQ bx kids kc I):∃K,∀k,K<=k->jJ bx 0 k kc=some (.sl kids.length (au kids)):=by
 rcases h with ⟨g1,rfl,rfl⟩|⟨g1,q,cc,J,rfl,rfl,g2,g3⟩
 ·have hn:kids=[]:=List.eq_nil_of_length_eq_zero g1;refine ⟨1,fun k hk=>?_⟩;obtain ⟨k,rfl⟩:∃j,k=j+1:=⟨k-1,oM⟩;rw [hn];exact fI rfl
 ·obtain ⟨K,hK⟩:=CX kids g3;refine ⟨K+1,fun k hk=>?_⟩;obtain ⟨k,rfl⟩:∃j,k=j+1:=⟨k-1,oM⟩;unfold jJ;rw [show (AV.bU q 35 12 kids.length).pf=false from rfl];simp only [];rw [g2];simp only [];have hlen:=g3.len;rw [if_pos ⟨Nat.zero_le _,by rw [hlen];exact Nat.le_refl _⟩,List.take_of_length_le (by rw [hlen];exact Nat.le_refl _),hK k oM];rfl
def Ob (d:Dc) (kc:AV):List AV:=[cs d.head,.sl d.gM.length (cO d.gM),.bool d.mark,.int .i64 d.root.k,.int .i64 d.root.y,.int .i64 d.root.p,.int .i64 d.root.b,.str d.root.an,.str d.root.tg,.str d.root.tx,kc,cs d.root.lead,cs d.root.ae,.bool d.root.h,.str d.root.tr,cs d.ae]
theorem abR {bx:List (List AV)} {d:Dc} {kc:AV} {I:List Nat} (h:eQ bx d.root.kids kc I):∃k,jJ bx 0 k (.agg (Ob d kc))=some (.agg (rR d)):=by
 obtain ⟨K,hK⟩:=Wp h;refine ⟨K+2,?_⟩;have e1:l8 (jJ bx 0 (K+1)) (Ob d kc)=some (rR d):=by have hs:(AV.sl d.gM.length (cO d.gM)).pf=true:=bE (ek _);simp only [Ob,rR,l8,hK (K+1) oM,fI (FC d.head),fI hs,fI (FC d.ae),fI (FC d.root.lead),fI (FC d.root.ae),fI (v:=.bool d.mark) rfl,fI (v:=.int .i64 d.root.k) rfl,fI (v:=.int .i64 d.root.y) rfl,fI (v:=.int .i64 d.root.p) rfl,fI (v:=.int .i64 d.root.b) rfl,fI (v:=.str d.root.an) rfl,fI (v:=.str d.root.tg) rfl,fI (v:=.str d.root.tx) rfl,fI (v:=.bool d.root.h) rfl,fI (v:=.str d.root.tr) rfl]
 unfold jJ;split
 ·rename_i hp;have hn:kc.pf=true:=by have:AV.wN (Ob d kc)=true:=hp;simp only [Ob,AV.wN,Bool.and_eq_true] at this;exact this.2.2.2.2.2.2.2.2.2.2.1
  have h2:=hK (K+1) oM;rw [fI hn] at h2;cases h2;rfl
 ·show (l8 (jJ bx 0 (K+1)) (Ob d kc)).map AV.agg=_;rw [e1];rfl
def tl1 (c:Code):Code:=
 match c with
 |.seq _ t=>t
 |c=>c
theorem and_eq {a b:Bool} (h1:a=true) (h2:b=true):(a && b)=true:=by rw [h1,h2];rfl
def S13 (d:Dc) (r:AV) (nb:List (List AV)):Prop:=∃kc I,r=.agg (Ob d kc)∧eQ nb d.root.kids kc I
def amb:=fN 13 Tryz.f13 35 [.cell 4 37]
theorem Oa {d:Dc} {bx:List (List AV)} {kc:AV} {I:List Nat} (h:eQ bx d.root.kids kc I):∀v ∈ Ob d kc,v.flat=true∧v.one=true∧wv v=true:=by
 have g:=h.kc;intro v hv;simp only [Ob,List.mem_cons,List.not_mem_nil,or_false] at hv;rcases hv with rfl|rfl|rfl|rfl|rfl|rfl|rfl|rfl|rfl|rfl|rfl|rfl|rfl|rfl|rfl|rfl<;>first|exact ⟨g.2.1,g.1,g.2.2.1⟩|exact ⟨y7 _,rfl,sM _⟩|exact ⟨bB (ek _),rfl,ek _⟩|exact ⟨rfl,rfl,rfl⟩
theorem aer {d:Dc} {kc:AV} {bx:List (List AV)} (h1:bx[1]?=some (Ob d kc)) (hk:kc.bY=kc):qG gW 0 ⟨[(4,.ptr 1 0)],bx⟩ [.cell 4 37]=some [.agg (Ob d kc)]:=by
 have e1:AP gW 0 ⟨[(4,.ptr 1 0)],bx⟩ (.cell 4 37)=some (.agg (Ob d kc)):=by show (eO (bx[1]?) fun c=>_)=_;rw [h1];show some (AV.agg [_,_,_,_,_,_,_,_,_,_,kc.bY,_,_,_,_,_])=_;rw [hk];rfl
 unfold qG;rw [e1];rfl
theorem K8 (blk:Bool) (x:Nd):(aL blk [] [] x).2.length<=iI x:=by have:=mO blk [] [] x;simp only [List.length_nil] at this;omega
theorem Zo {D:Dc} {kc:AV} {I:List Nat} {b9:List (List AV)} (h9:b9[1]?=some (Ob D kc)) (hk:eQ b9 D.root.kids kc I):vB gW [.cell 4 37] 0 (S13 D) .ret ⟨[(4,.ptr 1 0)],b9⟩:=by refine ⟨.inr rfl,_,aer h9 hk.kc.2.2.2,?_,Nat.zero_le _,kc,I,rfl,hk⟩;rw [gZ,gZ,Bool.and_true];show qI (Ob D kc)=true;exact iB.2 fun v hv=>Oa hk v hv
attribute [local irreducible] WQ
theorem aaa {d:Dc} {blk:Bool} (hz:fD d.root<=3210000000) (hc:iI d.root+d.ae.length<=3210000000) (hev:yX d.root=true) (htr:Bh d.root=true) {u:Nat} {kc:AV} {I:List Nat} {bx:List (List AV)} (h0:bx[0]?=some (rR d)) (h1:bx[1]?=some OB) (h2:bx[2]?=some [.bool blk,cs []]) (hcl:xP bx) (hwb:aV bx=true) (hu3:3<=u) (Vb:u ∉ I) (hu:bx[u]?=some (rA d kc (cr d.root.lead))) (hk:eQ bx d.root.kids kc I) (hnd:I.Nodup) (hI:∀i ∈ I,3<=i):pq (U5 (tl1 (Tryz.f13.body.getD .skip))) fun c=>WP Tryz.prog 35 0 c ⟨[(6,.ptr u 0),(5,.ptr 2 0),(4,.ptr 1 0),(2,.ptr 0 0)],bx⟩ (vB gW [.cell 4 37] 0 (S13 (nU blk d))):=by
 obtain ⟨head,gM,mark,⟨k,y,p,bb,an,tg,tx,kids,lead,ae,h,tr⟩,ru⟩:=d;have B:=V.base (af.cons (akk (fD (.mk k y p bb an tg tx kids lead ae h tr))) (af.cons V5 af.nil));have zE:Ev _ _ _ (aH 13) [42] []:=⟨B⟩
 conv=>whnf
 repeat' (first
 |((with_reducible refine (?_:∃c:List AV,_∧_));refine ⟨_,(by first|exact hu4|exact h14|exact hu|exact h2|exact h0|exact h1),?_⟩;(conv=>whnf))
 |((with_reducible refine (?_:∃(blk:Bool),_));refine aR.get ?_)
 |refine nX ?_;conv=>whnf
 |(with_reducible refine (?_:wv _=true->aV _=true->_));intro hwr hwb
 |(with_reducible refine (?_:aV _=true->_));intro hw;conv=>whnf
 |with_reducible assumption
 |((with_reducible intro h);exfalso;simp at h;done)
 |(first|with_reducible refine aX ho ?_|with_reducible refine aQ ho ?_|with_reducible refine aD ho ?_|with_reducible refine ay ho ?_|with_reducible refine az ?_);conv=>whnf
 |with_reducible refine And.intro ?_ ?_
 |exact cL
 |(with_reducible intro h);first|(cases h;done)|(try simp only [lG,reduceCtorEq] at h);first|done|(exfalso;omega)|replace h:=h trivial aZ|replace h:=h aZ|skip
 |fail)
 have hul:=(List.getElem?_eq_some_iff.1 hu).1;refine aR.mk ⟨blk,[],[cs head,.sl gM.length (cO gM),.bool mark],k,y,p,bb,an,tg,tx,kc,lead,ae,h,tr,[.nil],kids,I,⟨hwb,jl.mk fun j c hj hc i hi=>hcl c (List.mem_of_getElem? hc) i hi,h2,⟨hu,rfl⟩,hk,List.nodup_cons.2 ⟨fun e=>?_,List.nodup_cons.2 ⟨Vb,hnd⟩⟩,⟨hev,htr⟩,Nat.le_refl _,(by simp only [List.length_nil];dsimp only at hc;omega),(by dsimp only at hz;omega)⟩,fun b3 hl3 JR hs3 agZ hk3 agW=>?_⟩
 ·rcases List.mem_cons.1 e with e|e
  ·omega
  ·have:=hI 2 e;omega
 have h03:b3[0]?=some (rR ⟨head,gM,mark,.mk k y p bb an tg tx kids lead ae h tr,ru⟩):=(agW 0 dE oM (fun e=>by have:=hI 0 e;omega)).trans h0;have LX:b3[1]?=some OB:=(agW 1 dE oM (fun e=>by have:=hI 1 e;omega)).trans h1;have hset:nU blk ⟨head,gM,mark,.mk k y p bb an tg tx kids lead ae h tr,ru⟩=⟨head,gM,mark,(aL blk [] [] (.mk k y p bb an tg tx kids lead ae h tr)).1,(aL blk [] [] (.mk k y p bb an tg tx kids lead ae h tr)).2++ru⟩:=rfl;have hcb:=K8 blk (.mk k y p bb an tg tx kids lead ae h tr);rw [hset];generalize (aL blk [] [] (.mk k y p bb an tg tx kids lead ae h tr)).1=x' at agZ hk3⊢;generalize (aL blk [] [] (.mk k y p bb an tg tx kids lead ae h tr)).2=c' at hs3 hcb⊢;obtain ⟨k',y',p',bb',PX,OV,OQ,jC,mD,qA,h',EF⟩:=x';have akL:b3[u]?=some [cs head,.sl gM.length (cO gM),.bool mark,.int .i64 k',.int .i64 y',.int .i64 p',.int .i64 bb',.str PX,.str OV,.str OQ,kc,cs mD,cs qA,.bool h',.str EF,.nil]:=agZ.1;replace h0:=h03;replace h1:=LX;replace h2:=hs3;replace hu:=akL;dsimp only at hc;have hk4:=hk3;have Y8:cs (c'++ru)=.sl (oF [c',ru]) (fQ ([c',ru]:List (List Cm)).flatten):=by unfold cs;simp [oF]
 rcases hk3 with ⟨g1,rfl,rfl⟩|⟨g1,q,cc,J,rfl,rfl,g2,g3⟩
 ·skip
  conv=>whnf
  repeat' (first
  |((with_reducible refine (?_:∃c:List AV,_∧_));refine ⟨_,(by first|exact hu4|exact h14|exact hu|exact h2|exact h0|exact h1),?_⟩;(conv=>whnf))
  |refine nX ?_;conv=>whnf
  |(with_reducible refine (?_:wv _=true->aV _=true->_));intro hwr hwb
  |(with_reducible refine (?_:aV _=true->_));intro hw;conv=>whnf
  |with_reducible assumption
  |((with_reducible intro h);exfalso;simp at h;done)
  |((with_reducible refine (?_:∃ts:List (List Cm),_∧_));refine ⟨[c',ru],⟨rfl,rfl⟩,⟨(by simp only [oF];omega),by simp⟩,?_⟩;(conv=>whnf))
  |((with_reducible refine gQ.mk (i:=u) ?_);intro b4 hl4 hu4 hr4;have h14:=(hr4 1 oM).trans h1;(conv=>whnf))
  |((with_reducible refine gQ.mk (i:=1) ?_);intro b9 Ej h9 ug;(conv=>whnf))
  |(exact bE (nS (ts:=[c',ru])))
  |(first|with_reducible refine aX ho ?_|with_reducible refine aQ ho ?_|with_reducible refine aD ho ?_|with_reducible refine ay ho ?_|with_reducible refine az ?_);conv=>whnf
  |with_reducible refine And.intro ?_ ?_
  |exact cL
  |(with_reducible intro h);first|(cases h;done)|(try simp only [lG,reduceCtorEq] at h);first|done|(exfalso;omega)|replace h:=h trivial aZ|replace h:=h aZ|skip
  |fail)
  ·exact .inr rfl
  ·refine (Zo (D:=⟨head,gM,mark,.mk k' y' p' bb' PX OV OQ jC mD qA h' EF,c'++ru⟩) (b9:=b9) ?_ (hk4.fr fun i hi=>(ug i (by have:=hI i hi;omega)).trans (hr4 i (fun e=>Vb (e▸hi))))).2;show b9[1]?=some [cs head,.sl gM.length (cO gM),.bool mark,.int .i64 k',.int .i64 y',.int .i64 p',.int .i64 bb',.str PX,.str OV,.str OQ,_,cs mD,cs qA,.bool h',.str EF,cs (c'++ru)];rw [Y8];exact h9
 ·skip
  conv=>whnf
  repeat' (first
  |((with_reducible refine (?_:∃c:List AV,_∧_));refine ⟨_,(by first|exact hu4|exact h14|exact hu|exact h2|exact h0|exact h1),?_⟩;(conv=>whnf))
  |refine nX ?_;conv=>whnf
  |(with_reducible refine (?_:wv _=true->aV _=true->_));intro hwr hwb
  |(with_reducible refine (?_:aV _=true->_));intro hw;conv=>whnf
  |with_reducible assumption
  |((with_reducible intro h);exfalso;simp at h;done)
  |((with_reducible refine (?_:∃ts:List (List Cm),_∧_));refine ⟨[c',ru],⟨rfl,rfl⟩,⟨(by simp only [oF];omega),by simp⟩,?_⟩;(conv=>whnf))
  |((with_reducible refine gQ.mk (i:=u) ?_);intro b4 hl4 hu4 hr4;have h14:=(hr4 1 oM).trans h1;(conv=>whnf))
  |((with_reducible refine gQ.mk (i:=1) ?_);intro b9 Ej h9 ug;(conv=>whnf))
  |(exact bE (nS (ts:=[c',ru])))
  |(first|with_reducible refine aX ho ?_|with_reducible refine aQ ho ?_|with_reducible refine aD ho ?_|with_reducible refine ay ho ?_|with_reducible refine az ?_);conv=>whnf
  |with_reducible refine And.intro ?_ ?_
  |exact cL
  |(with_reducible intro h);first|(cases h;done)|(try simp only [lG,reduceCtorEq] at h);first|done|(exfalso;omega)|replace h:=h trivial aZ|replace h:=h aZ|skip
  |fail)
  ·exact .inr rfl
  ·refine (Zo (D:=⟨head,gM,mark,.mk k' y' p' bb' PX OV OQ jC mD qA h' EF,c'++ru⟩) (b9:=b9) ?_ (hk4.fr fun i hi=>(ug i (by have:=hI i hi;omega)).trans (hr4 i (fun e=>Vb (e▸hi))))).2;show b9[1]?=some [cs head,.sl gM.length (cO gM),.bool mark,.int .i64 k',.int .i64 y',.int .i64 p',.int .i64 bb',.str PX,.str OV,.str OQ,_,cs mD,cs qA,.bool h',.str EF,cs (c'++ru)];rw [Y8];exact h9
theorem afN {d:Dc} {blk:Bool} (hz:fD d.root<=3210000000) (hc:iI d.root+d.ae.length<=3210000000) (hh:d.head.length<=60000) (hd:d.gM.length<=20000) (hev:yX d.root=true) (htr:Bh d.root=true):rJ Tryz.prog 13 [.agg (rR d),.bool blk] (fun r nb=>S13 (nU blk d) r nb∧wv r=true∧aV nb=true):=by
 refine amb.okS (by rw [gZ,gZ,gZ,Bool.and_true];exact and_eq (bJ (pQ d)) rfl) ?_;have B:=V.base af.nil
 conv=>whnf
 repeat' (first
 |((first|(with_reducible refine (?_:WQ _ _ (.seq (.region 1 _ _) _) _ _))|(with_reducible refine (?_:WQ _ _ (.seq (.region 0 _ _) _) _ _)));refine WQ.seq ?_)
 |((with_reducible refine (?_:WQ _ _ (.seq (.region 2 _ _) _) _ _));refine aR.get ?_)
 |with_reducible refine WP.seq ?_
 |(with_reducible first|refine Go.mk ?_|refine WP.oC B (aH 13) ?_|refine WP.draw B (aH 13) ?_|refine WP.cond ?_|refine WP.exit ?_|refine WP.skip ?_|refine WP.ret ?_);conv=>whnf
 |with_reducible refine WP.block ?_
 |with_reducible assumption
 |with_reducible refine And.intro ?_ ?_
 |exact cL
 |(with_reducible intro h);first|(cases h;done)|(try simp only [lG,reduceCtorEq] at h);first|done|(exfalso;omega)|replace h:=h trivial aZ|replace h:=h aZ|skip
 |fail)
 refine aR.mk ?_;refine WQ.aej ((aeu (d:=d) (blk:=blk) oM oM oM oM).mono ?_);rintro e τ ⟨rfl,hF⟩;refine ⟨rfl,?_⟩;obtain ⟨τ',hr,u,kc,I,bx,rfl,⟨h0,h1,h2⟩,hcl,hwb,⟨hu3,Vb⟩,hu,hk,hnd,hI⟩:=toG hF;refine WQ.jB hr ?_;refine WQ.of ?_;refine WP.Jj h2 (x':=[.bool blk,cs []]) (.cons .refl (.cons (Wv.of Wk.sK) .nil)) rfl fun b2 hl2 h2' hr2=>?_;refine iU (aaa hz hc hev htr ((hr2 0 dE).trans h0) ((hr2 1 dE).trans h1) h2' (hcl.facts hl2 h2' hr2 (fun i hi=>by rw [show AV.aN [AV.bool blk,cs []]=[] from rfl] at hi;cases hi)) ?_ hu3 Vb ((hr2 u oM).trans hu) (hk.fr fun i hi=>hr2 i (by have:=hI i hi;omega)) hnd hI);refine bg.2 fun c hc2=>?_;obtain ⟨j,hj⟩:=List.getElem?_of_mem hc2;by_cases e:j=2
 ·rw [e,h2'] at hj;cases hj;rfl
 ·rw [hr2 j e] at hj;exact bg.1 hwb c (List.mem_of_getElem? hj)
end V
namespace V
open Ab
open Bk (Cm)
theorem ok13:aC.OK Tryz.prog 13 c13:=by
 intro args bx K0 h;unfold c13 at h;split at h
 ·rename_i dc blk;obtain ⟨d,rfl,⟨hz,hc,hh,hd,hev,htr⟩,-⟩:=h;refine ⟨.agg (rR (nU blk d)),[],(afN (d:=d) (blk:=blk) hz hc hh hd hev htr).Qe rfl ?_,bJ (pQ _),rfl,fun K hK=>?_⟩
  ·rintro r nb ⟨⟨kc,I,rfl,hk⟩,-,-⟩;exact ⟨vz fun v hv=>(Oa hk v hv).1,abR hk⟩
  ·obtain ⟨d',e1,-,hK⟩:=hK;have:=Oc e1;subst this;exact hK
 ·exact h.elim
theorem NL {f:Nat} {args:List AV} (h:aW Tryz.prog f args [] (.bool true) []) {vs:List Value} {W:World} {lim:Nat->Nat} (ht:∀b,W.heap.size<=b->lim b=0) (hR:AV.Rs lim [] W args vs) (hf:AV.ak args=true):Calls Tryz.prog f vs.toArray W fun e W'=>e=.returned (.bool true)∧Below W.heap.size W W':=by
 have hl:=AV.fB hR;have hS:∀k,AV.R lim [] W (aS args vs k).1 (aS args vs k).2∧(aS args vs k).1.flat=true:=by
  intro k;show AV.R _ _ _ (args.getD k .bad) (vs.getD k undef)∧(args.getD k .bad).flat=true;rw [List.getD_eq_getElem?_getD,List.getD_eq_getElem?_getD];cases hx:args[k]? with
  |none=>exact ⟨lh _,rfl⟩
  |some x=>
   obtain ⟨v,h1,h2⟩:=kU hR hx;rw [h1];exact ⟨h2,eH hf hx⟩
 have hno:∀p g,¬Ab.Own W [] [] (aS args vs) p g:=by
  intro p g hp;cases p with
  |t k=>
   obtain ⟨h1,-⟩:=hp;rw [kZ (hS k).2] at h1;cases h1
  |b i j=>obtain ⟨b,x,y,v,h1,-⟩:=hp;simp at h1
 have H:aM lim [] W [] (aS args vs) (fun b=>W.heap.size<=b):=
  ⟨rfl,List.nodup_nil,(fun b hb=>by cases hb),(fun b hb=>by cases hb),(fun i b x hi=>by simp at hi),fun k=>(hS k).1,fun k=>by rw [AV.top,(hS k).2];simp,ht,fun p g hp=>absurd hp (hno p g),fun p q g hp=>absurd hp (hno p g)⟩
 refine (h.call lim [] W vs _ hl (fun b hb=>hb) H).mono ?_;rintro e w' ⟨v,lim',bs',rfl,H',hfr,-⟩;have h0:=H'.slot 0;have h0':AV.R lim' bs' w' (.bool true) v:=h0;rw [AV.R] at h0';subst h0';exact ⟨rfl,hfr.qJ.os,hfr.qJ.tape,hfr.qJ.output,hfr.qJ.size,fun k hk=>(hfr.mE k hk oM).1⟩
theorem NN {lim:Nat->Nat} {bs:List Nat} {w:World}:∀ks:List Int,AV.Rs lim bs w (jh ks) (ks.map fun k=>Value.int .i64 k)
 |[]=>by rw [jh,List.map_nil,AV.Rs];rfl
 |k::ks=>by have:=NN (lim:=lim) (bs:=bs) (w:=w) ks;rw [jh] at this;rw [jh,List.map_cons,List.map_cons,AV.Rs];exact ⟨_,_,rfl,by rw [AV.R],this⟩
theorem UO (b o j:Nat):(Addr.mk b o none).add j=⟨b,o+j,none⟩:=by
 unfold Addr.add;split
 ·rename_i h;rw [h];rfl
 ·rfl
theorem SS {W:World} {a:Option Addr} {n c:Nat} {zs:List Int} (h:(a=none∧n=0∧c=0∧zs=[])∨∃x,a=some x∧n<=c∧c<=maxLen∧zs.length=c∧(∀i,i<zs.length->W.cell? (x.add i)=some (.int .i64 (zs.getD i 0)))∧∀n ∈ zs,(Lit.int .i64 n).wf=true):∃(ks:List Int) (lim:Nat->Nat),ks.length=n∧(∀b,W.heap.size<=b->lim b=0)∧AV.R lim [] W (.sl n (jh ks)) (.slice a n c):=by
 rcases h with ⟨rfl,rfl,rfl,rfl⟩|⟨x,rfl,h1,h2,h3,h4,-⟩
 ·refine ⟨[],fun _=>0,rfl,fun _ _=>rfl,?_⟩;rw [AV.R];exact ⟨none,0,rfl,Nat.le_refl _,.inl rfl⟩
 ·by_cases hn:n=0
  ·subst hn;refine ⟨[],fun _=>0,rfl,fun _ _=>rfl,?_⟩;rw [AV.R];exact ⟨some x,c,rfl,h1,.inl rfl⟩
  ·have h0:=h4 0 oM;obtain ⟨b,o,p⟩:=x;rw [show (Addr.mk b o p).add 0=⟨b,o,p⟩ from rfl] at h0;obtain ⟨rfl,hb⟩:p=none∧b<W.heap.size:=by
    unfold World.cell? at h0;dsimp only at h0;split at h0
    ·rename_i cc e1 e2 hh;refine ⟨?_,di hh⟩;cases p with
     |none=>rfl
     |some p=>simp at h0
    ·cases h0
   have hkl:(zs.take n).length=n:=by rw [List.length_take];omega
   refine ⟨zs.take n,fun b'=>if b'<W.heap.size then o+n else 0,hkl,fun b' hb'=>if_neg oM,?_⟩;rw [AV.R];refine ⟨some ⟨b,o,none⟩,c,rfl,h1,.inr ⟨b,o,rfl,hb,?_,nO (NN (zs.take n)) fun j v hj=>?_⟩⟩
   ·rw [if_pos hb,jh,List.length_map,hkl];exact Nat.le_refl _
   ·rw [List.getElem?_map] at hj;cases hz:(zs.take n)[j]? with
    |none=>rw [hz] at hj;cases hj
    |some z=>
     rw [hz] at hj;cases hj;have hjl:=(List.getElem?_eq_some_iff.1 hz).1;rw [hkl] at hjl;have h5:=h4 j oM;rw [UO] at h5;rw [h5];rw [List.getElem?_take,if_pos hjl] at hz;rw [List.getD_eq_getElem?_getD,hz];rfl
theorem law3 {f:Nat} (h:aC.OK Tryz.prog f c3) (s:ByteArray) {a:Option Addr} {n c:Nat} {zs:List Int} (blk:Bool) (W:World) (hi:(a=none∧n=0∧c=0∧zs=[])∨∃x,a=some x∧n<=c∧c<=maxLen∧zs.length=c∧(∀i,i<zs.length->W.cell? (x.add i)=some (.int .i64 (zs.getD i 0)))∧∀n ∈ zs,(Lit.int .i64 n).wf=true):Calls Tryz.prog f #[.string s,.slice a n c,.bool blk] W fun e W'=>e=.returned (.bool true)∧Below W.heap.size W W':=by
 obtain ⟨ks,lim,hk,ht,hR⟩:=SS hi;obtain ⟨r,bx',h1,-,-,h2⟩:=h [.str s,.sl n (jh ks),.bool blk] [] (fun _ _=>True) ⟨⟨ks,hk.symm,rfl⟩,trivial⟩;obtain ⟨rfl,rfl⟩:=h2 (fun r b=>r=.bool true∧b=[]) ⟨⟨ks,hk.symm,rfl⟩,rfl,rfl⟩;refine NL (vs:=[.string s,.slice a n c,.bool blk]) h1 ht ?_ ?_
 ·rw [AV.Rs];refine ⟨_,_,rfl,by rw [AV.R],?_⟩;rw [AV.Rs];refine ⟨_,_,rfl,hR,?_⟩;rw [AV.Rs];refine ⟨_,_,rfl,by rw [AV.R],?_⟩;rw [AV.Rs]
 ·have:=bB (mF ks);simp only [AV.ak,AV.flat,this,Bool.and_self]
end V
end
end Go.Proofs.YtlmjabnkjmfcmaaGreat
