/- Parts of a proof; no condition. -/
import Derived.Test.YtlmjabnkjmfcmaaGreatR38
namespace Go.Proofs.YtlmjabnkjmfcmaaGreat
open Go Go.RowKit Go.PlainAid
set_option linter.unusedVariables false
set_option linter.unusedSimpArgs false
set_option linter.unusedSectionVars false
set_option maxHeartbeats 20000000
set_option linter.defProp false
section
variable [nM]
set_option maxRecDepth 100000
namespace V
open Ab
section
variable {lim lim' : Nat -> Nat} {bs bs' : List Nat} {w w' : World} {P : Program} {T : kZ} {a : Act} {o : Oper} {m : Nat -> Prop} {bx bx' : List (List AV)} {S S' : uP} {K : Act -> World -> Prop} {Q : Exit -> Act -> World -> Prop} {cal : BR} {σ σ' σ1 σ2 : aF}
structure vP (P:Program) (f:Nat) (args:List AV) (S:AV->List (List AV)->Prop):Prop where
 Og:Ent P f
 call:∀(lim:Nat->Nat) (bs:List Nat) (w:World) (vs:List Value) (m:Nat->Prop),vs.length=args.length->(∀b,w.heap.size<=b->m b)->aB lim bs w [] (aS args vs) m->
  Calls P f vs.toArray w fun e w'=>∃r nb v lim' bs',S r nb∧e=.returned v∧aB lim' bs' w' nb (rS r v) m∧Fr m lim w lim' w'
def iC (P:Program) (base:Nat) (ops:Array Oper) (o:Oper) (σ:aF) (M:aF->Prop):Prop:=∀{m:Nat->Prop} {lim:Nat->Nat} {bs:List Nat} {w:World} {a:Act} {K:Act->World->Prop} {Q:Exit->Act->World->Prop},(∀k,o.dst=some k->k<a.tmps.size)->aB lim bs w σ.bx (Sl σ.tm a) m->(∀b,w.heap.size<=b->m b)->(∀τ,M τ->kJ base m lim bs w a τ K)->if Region.wanted o (yielded ops a.tmps)=true then o.wp P a w K Q else K (a.put o.dst undef) w
theorem iC.of {base:Nat} {ops:Array Oper} {M:aF->Prop} (h:aK P base ops o σ σ1) (hM:M σ1):iC P base ops o σ M:=fun hd H hm hK=>h hd H hm (hK σ1 hM)
theorem WX {g:Nat} {cap ys:List AV} {S0:AV->List (List AV)->Prop} (Og:Ent P g)
  (hcall:∀(lim:Nat->Nat) (bs:List Nat) (w:World) (vs:List Value) (m:Nat->Prop),vs.length=ys.length->(∀b,w.heap.size<=b->m b)->aB lim bs w [] (aS ys vs) m->
   Calls P g vs.toArray w fun e w'=>∃r nb v lim' bs',S0 r nb∧e=.returned v∧aB lim' bs' w' nb (rS r v) m∧Fr m lim w lim' w')
  (H:aB lim bs w σ.bx (Sl σ.tm a) m) (hm:∀b,w.heap.size<=b->m b) (hd:∀k,o.dst=some k->k<a.tmps.size) {c:Call} {f:Operand} (ho:o.op=.call c) (hc:c.callee=.value f) (hv:val σ.tm f=.fn g cap) (hcf:AV.aj cap=true)
  (hys:ys=(c.args.toList.map (val σ.tm)).map AV.cO++cap) (hyi:AV.aA ys=[]) (hK:∀r nb,S0 r nb->∀lim' bsn w' v,N9 m lim bs w a ⟨eG σ.tm o.dst (r.bP fun j=>σ.bx.length+j),σ.bx++nb.map (AV.aG fun j=>σ.bx.length+j)⟩ lim' (bs++bsn) w' (a.put o.dst v)->K (a.put o.dst v) w'):o.wp P a w K Q:=by
 have hfr:=(pg H f).1.r;rw [hv,AV.R] at hfr;obtain ⟨vc,hfe,hcap⟩:=hfr;obtain ⟨hargs,yj⟩:=qV H c.args.toList;have hall:AV.Rs lim bs w ys (c.args.toList.map a.eval++vc.toList):=by rw [hys];exact ng hargs hcap
 have hyf:AV.aj ys=true:=by rw [hys];exact fA yj hcf
 have hlen2:(c.args.toList.map a.eval++vc.toList).length=ys.length:=AV.gK hall;have DK:∀(k:Nat) (x:AV) (v:Value),ys[k]?=some x->(c.args.toList.map a.eval++vc.toList)[k]?=some v->AV.R lim (([]:List Nat).map fun i=>bs.getD i 0) w x v:=by
  intro k x v hk hv;obtain ⟨v',h1,h2⟩:=mO hall hk;rw [hv] at h1;cases h1;have hxi:AV.ids x=[]:=by rw [List.eq_nil_iff_forall_not_mem];intro i hi;have:i ∈ AV.aA ys:=AV.jV.2 ⟨x,List.mem_of_getElem? hk,hi⟩;rw [hyi] at this;cases this
  have:=AV.R.bP (f:=fun i=>i) (bs':=([]:List Nat).map fun i=>bs.getD i 0) (fun i hi=>by rw [hxi] at hi;cases hi) h2
  rwa [su (fun i hi=>rfl)] at this
 have DN:∀(k:Nat) (x:AV),ys[k]?=some x->x.flat=true:=fun k x hk=>fJ hyf hk;have hE:=H.enter (ids:=[]) .nil (show bD σ.bx []=some [] from rfl) (fun c hc=>by cases hc) (args:=ys) (vs:=c.args.toList.map a.eval++vc.toList) hlen2 DN DK;obtain ⟨HE,hE1,hE2,hE3⟩:=hE;have hrun:(execOp a.eval o).run P w=.ok (.enter g (c.args.map a.eval++vc)) w:=by unfold execOp;simp only [ho,resolve,hc,hfe,Deferred.ofValue,Sem.run_bind,Sem.run_pure,Result.andThen_ok,invoke,Array.empty_append];exact qh Og _
 have hvs:(c.args.toList.map a.eval++vc.toList).toArray=c.args.map a.eval++vc:=by rw [←Array.toList_inj];simp
 unfold Oper.wp;rw [hrun];show Calls P g (c.args.map a.eval++vc) w _;rw [←hvs];refine (hcall lim _ w _ _ hlen2 (fun b hb=> .inr (.inr hb)) HE).mono ?_;rintro e w' ⟨r,nb,v,lim',bsn,hS,rfl,H',Nl⟩;have hL:=H.leave hm (ids:=[]) .nil (show bD σ.bx []=some [] from rfl) (bx':=nb) (Nat.zero_le _) (r:=r) (v:=v) (Sc:=aS ys (c.args.toList.map a.eval++vc.toList)) (bsc:=([]:List Nat).map fun i=>bs.getD i 0) (bsn:=bsn) (lim':=lim') (w':=w') rfl (fun i hi=>absurd hi (Nat.not_lt_zero _)) hE1 hE2 hE3 H' Nl o.dst;rw [Oz] at hL;simp only [List.length_nil,List.take_zero,List.map_nil,List.drop_zero,aC] at hL;obtain ⟨HL,hfl⟩:=hL;refine hK r nb hS lim' bsn w' v ⟨?_,hfl,fun i b hi=>by rw [List.getElem?_append_left (List.getElem?_eq_some_iff.1 hi).1];exact hi,bY _ _ _,put_defers _ _ _⟩;show aB lim' _ w' _ (Sl (eG σ.tm o.dst _) (a.put o.dst v)) m;rw [jh hd];exact HL
theorem iC.ab5 {base:Nat} {ops:Array Oper} {g:Nat} {cap ys:List AV} {S0:AV->List (List AV)->Prop} {M:aF->Prop} (HC:vP P g ys S0) (hg:o.guard=none) {c:Call} {f:Operand} (ho:o.op=.call c) (hc:c.callee=.value f) (hv:val σ.tm f=.fn g cap) (hcf:AV.aj cap=true)
  (hys:ys=(c.args.toList.map (val σ.tm)).map AV.cO++cap) (hyi:AV.aA ys=[]) (hM:∀r nb,S0 r nb->M ⟨eG σ.tm o.dst (r.bP fun j=>σ.bx.length+j),σ.bx++nb.map (AV.aG fun j=>σ.bx.length+j)⟩):iC P base ops o σ M:=by
 intro m lim bs w a K Q hd H hm hK;rw [if_pos (by simp [Region.wanted,hg])];exact WX HC.Og (fun lim bs w vs m h1 h2 h3=>HC.call lim bs w vs m h1 h2 h3) H hm hd ho hc hv hcf hys hyi (fun r nb hS lim' bsn w' v hg=>hK _ (hM r nb hS) _ _ _ _ hg.B)
theorem aaJ {base:Nat} {ops:Array Oper} {M:List (Nat×Oper)->aF->Prop} (hko:qK ops.toList=true) (hdst:∀o ∈ ops.toList,∀k,o.dst=some k->k<a.tmps.size) {Fin:aF->Prop} (hM0:∀σ,M [] σ->Fin σ)
  (hMs:∀(pre post:List (Nat×Oper)) (i:Nat) (o:Oper) (σ:aF),M (pre++(i,o)::post) σ->ops[i]?=some o->(∀p ∈ pre++(i,o)::post,ops[p.1]?=some p.2)->(pre++(i,o)::post).Pairwise (fun p q=>p.1<q.1)->(∀p ∈ pre++post,((jX [] ops.toList).getD i 0).testBit p.1=false)->iC P base ops o σ (M (pre++post))):
  ∀(n:Nat) (l:List (Nat×Oper)),l.length=n->∀{lim:Nat->Nat} {bs:List Nat} {w:World} {σ:aF} {a1:Act} {listed:Array Bool},listed.size=ops.size->l.Pairwise (fun p q=>p.1<q.1)->(∀p ∈ l,ops[p.1]?=some p.2)->(∀k,listed.getD k true=false↔∃o,(k,o) ∈ l)->
   (∀(j:Nat) (o:Oper),ops[j]?=some o->listed.getD j false=true->∀i ∈ dL o,listed.getD i false=true)->
   a1.tmps.size=a.tmps.size->aB lim bs w σ.bx (Sl σ.tm a1) m->(∀b,w.heap.size<=b->m b)->M l σ->(∀σ',Fin σ'->kJ base m lim bs w a1 σ' (Q .normal))->wpAny P .any ops Q n listed a1 w:=by
 obtain ⟨hk1,hk2⟩:=rO hko;have hall:∀j,ops.toList[j]?=ops[j]?:=fun j=>Array.getElem?_toList;have hpr:∀{o:Oper} {i:Nat},i ∈ dL o↔∃e ∈ o.after,Region.binds .any e=true∧e.on=i:=by
  intro o i;unfold dL;rw [List.mem_filterMap];constructor
  ·rintro ⟨e,h1,h2⟩;split at h2
   ·rename_i hb;cases h2;exact ⟨e,by simpa using h1,hb,rfl⟩
   ·cases h2
  ·rintro ⟨e,h1,h2,rfl⟩;exact ⟨e,by simpa using h1,by rw [if_pos h2]⟩
 intro n
 induction n with
 |zero=>
  intro l hl lim bs w σ a1 listed hsz hs hin hun hdc hts H hm h hK;obtain rfl:=List.eq_nil_of_length_eq_zero hl;have hfin:Fin σ:=hM0 σ h;refine ⟨?_,hK σ hfin lim bs w a1 ⟨H,Fr.refl,fun _ _ _ h=>h,rfl,rfl⟩⟩;rw [List.eq_nil_iff_forall_not_mem];intro i hi;obtain ⟨h0,-⟩:=mem_ready.1 hi;obtain ⟨o,ho⟩:=(hun i).1 h0;cases ho
 |succ n ih=>
  intro l hl lim bs w σ a1 listed hsz hs hin hun hdc hts H hm h hK;refine ⟨fun hr=>?_,fun i hi=>?_⟩
  ·
   exfalso;cases l with
   |nil=>simp at hl
   |cons p l=>
    obtain ⟨k,o⟩:=p;have EM:=hin _ List.mem_cons_self;have:k ∈ Region.ready .any ops listed:=by
     refine mem_ready.2 ⟨(hun k).2 ⟨o,List.mem_cons_self⟩,o,EM,fun e he hb=>?_⟩;have hlt:e.on<k:=hk1 k o (by rw [hall];exact EM) e.on (hpr.2 ⟨e,he,hb,rfl⟩);have ak0:k<ops.size:=(Array.getElem?_eq_some_iff.1 EM).1;have hnot:¬listed.getD e.on true=false:=by
      intro hf;obtain ⟨o2,ho2⟩:=(hun e.on).1 hf;rcases List.mem_cons.1 ho2 with h1|h1
      ·cases h1;omega
      ·have:=(List.pairwise_cons.1 hs).1 _ h1;simp only at this;omega
     have hlt2:e.on<listed.size:=oM;simpa [hlt2] using hnot
    rw [hr] at this;cases this
  ·obtain ⟨h0,o,ho,F6⟩:=mem_ready.1 hi;obtain ⟨o',ho'⟩:=(hun i).1 h0;have:=hin _ ho';simp only [] at this;rw [ho] at this;cases this;obtain ⟨pre,post,rfl⟩:=List.append_of_mem ho';have hs0:=hs;rw [List.pairwise_append] at hs;obtain ⟨s1,s2,s3⟩:=hs;have zG:∀j ∈ dL o,listed.getD j false=true:=by intro j hj;obtain ⟨e,e1,e2,rfl⟩:=hpr.1 hj;exact F6 e e1 e2
   have EL:∀p ∈ pre++post,((jX [] ops.toList).getD i 0).testBit p.1=false:=by
    intro p hp;cases hb:((jX [] ops.toList).getD i 0).testBit p.1 with
    |false=>rfl
    |true=>
     exfalso;have:=NQ (D:=fun k=>listed.getD k false=true) hk1 (fun j o2 hj hD=>hdc j o2 (by rw [←hall];exact hj) hD) (i+1) i o oM (by rw [hall];exact ho) zG p.1 hb;have hpl:p ∈ pre++(i,o)::post:=by
      rcases List.mem_append.1 hp with hp|hp
      ·exact List.mem_append_left _ hp
      ·exact List.mem_append_right _ (List.mem_cons_of_mem _ hp)
     have h2:=BH ((hun p.1).2 ⟨p.2,hpl⟩);rw [h2] at this;cases this
   have g1:iC P base ops o σ (M (pre++post)):=hMs pre post i o σ h ho hin hs0 EL;refine wpOp_step ho fun K' hK'=>?_;refine g1 (fun k hk=>by rw [hts];exact hdst o (List.mem_of_getElem? (by rw [hall];exact ho)) k hk) H hm (fun σ1 g3 eQ mY w1 a2 hg=>hK' a2 w1 ?_);have hlen:(pre++post).length=n:=by rw [List.length_append,List.length_cons] at hl;rw [List.length_append];omega
   refine ih (pre++post) hlen (by simpa using hsz) ?_ (fun p hp=>hin p ?_) (fun k=>?_) (fun j o2 hj hD=>?_) (hg.nt.trans hts) hg.hold (fun b hb=>hm b (Nat.le_trans hg.fr.bel.size hb)) g3 (fun σ' hF jB wR w2 a3 hg2=>hK σ' hF jB wR w2 a3 (hg.trans hg2))
   ·rw [List.pairwise_append];exact ⟨s1,(List.pairwise_cons.1 s2).2,fun p hp q hq=>s3 p hp q (List.mem_cons_of_mem _ hq)⟩
   ·rcases List.mem_append.1 hp with hp|hp
    ·exact List.mem_append_left _ hp
    ·exact List.mem_append_right _ (List.mem_cons_of_mem _ hp)
   ·by_cases hki:k=i
    ·subst hki;have hlt:k<listed.size:=by rw [hsz];exact (Array.getElem?_eq_some_iff.1 ho).1
     constructor
     ·intro h;simp [hlt] at h
     ·rintro ⟨o2,h2⟩;exfalso;rcases List.mem_append.1 h2 with h2|h2
      ·have:=s3 _ h2 (k,o) List.mem_cons_self;simp only [] at this;omega
      ·have:=(List.pairwise_cons.1 s2).1 _ h2;simp only [] at this;omega
    ·rw [getD_set_ne true (Ne.symm hki),hun k];constructor
     ·rintro ⟨o2,h2⟩;refine ⟨o2,?_⟩;rcases List.mem_append.1 h2 with h2|h2
      ·exact List.mem_append_left _ h2
      ·rcases List.mem_cons.1 h2 with e|h2
       ·cases e;exact absurd rfl hki
       ·exact List.mem_append_right _ h2
     ·rintro ⟨o2,h2⟩;refine ⟨o2,?_⟩;rcases List.mem_append.1 h2 with h2|h2
      ·exact List.mem_append_left _ h2
      ·exact List.mem_append_right _ (List.mem_cons_of_mem _ h2)
   ·intro j2 hj2;refine getD_set_true ?_;by_cases hji:j=i
    ·subst hji;rw [ho] at hj;cases hj;exact zG j2 hj2
    ·rw [getD_set_ne false (Ne.symm hji)] at hD;exact hdc j o2 hj hD j2 hj2
theorem TQ {base:Nat} (HT:mM P T) {ops:Array Oper} {M:List (Nat×Oper)->aF->Prop} (hko:qK ops.toList=true) (hdst:∀o ∈ ops.toList,∀k,o.dst=some k->k<a.tmps.size) {id:Nat} {Fin:aF->Prop} (hM0:∀σ,M [] σ->Fin σ)
  (hMs:∀(pre post:List (Nat×Oper)) (i:Nat) (o:Oper) (σ:aF),M (pre++(i,o)::post) σ->ops[i]?=some o->(∀p ∈ pre++(i,o)::post,ops[p.1]?=some p.2)->(pre++(i,o)::post).Pairwise (fun p q=>p.1<q.1)->(∀p ∈ pre++post,((jX [] ops.toList).getD i 0).testBit p.1=false)->iC P base ops o σ (M (pre++post)))
  (H:aB lim bs w σ.bx (Sl σ.tm a) m) (hm:∀b,w.heap.size<=b->m b) (h:M (dR 0 ops.toList) σ) (hK:∀σ',Fin σ'->kJ base m lim bs w a σ' (Q .normal)):(Code.region id ops true).wp P Q a w:=by
 have hfr:Fr m lim w lim {w with drawn:=w.drawn+1}:=Fr.drew;have H2:aB lim bs {w with drawn:=w.drawn+1} σ.bx (Sl σ.tm a) m:=(H.world (hfr.ext (fun _ _ h=>h)) (fun b hb=>⟨rfl,H.free b hb⟩) (fun p g _=>⟨rfl,rfl⟩) (fun b hb=>H.top b hb)).1;refine wp_region_any HT.mix (aaJ hko hdst hM0 hMs ops.size _ (by rw [pO];simp) (by simp) (jP _ _) ?_ ?_ ?_ rfl H2 hm h ?_)
 ·intro p hp;have:=((eF _ _ p.1 p.2).1 hp).2;simpa using this
 ·intro k;constructor
  ·intro hk;have hlt:k<ops.size:=by
    rcases Nat.lt_or_ge k ops.size with h'|h'
    ·exact h'
    ·simp [Array.getD,h'] at hk;omega
   exact ⟨ops[k],(eF _ _ _ _).2 ⟨Nat.zero_le _,by simp [hlt]⟩⟩
  ·rintro ⟨o,ho⟩;have hh:=((eF _ _ _ _).1 ho).2;have hlt:k<ops.size:=by simpa using (List.getElem?_eq_some_iff.1 hh).1
   simp [hlt]
 ·intro j o hj hD;exfalso;rw [Array.getD_eq_getD_getElem?] at hD;cases hh:(Array.replicate ops.size false)[j]? with
  |none=>rw [hh] at hD;cases hD
  |some b=>
   rw [hh] at hD;have:=Array.getElem?_replicate (n:=ops.size) (v:=false) (i:=j);rw [hh] at this;split at this
   ·cases this;cases hD
   ·cases this
 ·intro σ' hF lim' bs' w' a' hg;exact hK σ' hF lim' bs' w' a' ⟨hg.hold,hfr.trans hg.fr,hg.pre,hg.nt,hg.df⟩
def scl:AV->Bool
 |.bool _|.int _ _|.str _=>true
 |_=>false
theorem aiK {x:AV} {v:Value} (h:scl x=true) (hR:AV.R lim bs w x v):AV.R lim' bs' w' x v:=by
 cases x<;>first|(cases h;done)|(rw [AV.R] at hR⊢;exact hR)
theorem RG:∀{l:List AV} {vs:List Value},(∀x ∈ l,scl x=true)->AV.Rs lim bs w l vs->AV.Rs lim' bs' w' l vs
 |[],vs,h,hR=>by rw [AV.Rs] at hR⊢;exact hR
 |x::l,vs,h,hR=>by rw [AV.Rs] at hR⊢;obtain ⟨v,r,e,h1,h2⟩:=hR;exact ⟨v,r,e,aiK (h x List.mem_cons_self) h1,RG (fun y hy=>h y (List.mem_cons_of_mem _ hy)) h2⟩
theorem abw {x:AV} (h:scl x=true):x.isRow=false:=by cases x<;>first|rfl|(cases h;done)
theorem abv {x:AV} (h:scl x=true):x.top=true:=by cases x<;>first|rfl|(cases h;done)
theorem Tu:∀(l:List Bk.Cm),∀x ∈ eU l,scl x=true
 |[],x,h=>by cases h
 |c::l,x,h=>by
  rw [eU] at h;rcases List.mem_cons.1 h with rfl|h
  ·rfl
  ·rcases List.mem_cons.1 h with rfl|h
   ·rfl
   ·exact Tu l x h
theorem aV.boxed {f:Nat} {args:List AV} {e z n:Nat} {l:List AV} (h:aV P f args [] (.row e z n l) []) (hl:∀x ∈ l,scl x=true) (ha:∀x ∈ args,x.isRow=false):vP P f args (fun r nb=>(r=.nil∧n=0∧nb=[])∨(r=.dm 0 e z n∧nb=[l])):=by
 refine ⟨h.Og,fun lim bs w vs m hvl hm H=>?_⟩;have hbs:bs=[]:=List.eq_nil_of_length_eq_zero (by rw [H.len];rfl);subst hbs;have hno:∀p g,¬Ab.Own w [] [] (aS args vs) p g:=by
  intro p g hp;cases p with
  |t k=>
   obtain ⟨h1,-⟩:=hp;have h1':(args.getD k .bad).isRow=true:=h1;rw [List.getD_eq_getElem?_getD] at h1';cases hk:args[k]? with
   |none=>rw [hk] at h1';cases h1'
   |some x=>rw [hk] at h1';have:=ha x (List.mem_of_getElem? hk);rw [show (some x).getD AV.bad=x from rfl,this] at h1';cases h1'
  |b i j=>obtain ⟨b,x,y,v,q1,-⟩:=hp;simp at q1
 have H0:aB lim [] w [] (aS args vs) (fun b=>w.heap.size<=b):=⟨H.len,H.BX,H.free,fun b hb=>(by cases hb),H.box,H.slot,H.kN,H.top,fun p g hp=>(hno p g hp).elim,fun p q g hp=>(hno p g hp).elim⟩;refine (h.call lim [] w vs _ hvl (fun b hb=>hb) H0).mono ?_;rintro e0 w' ⟨v,lim',bs',rfl,H1,hfr,-⟩;have hbs:bs'=[]:=List.eq_nil_of_length_eq_zero (by rw [H1.len];rfl);subst hbs;have hR:AV.R lim' [] w' (.row e z n l) v:=H1.slot 0;have hown:∀g,v.ownBlock=some g->w.heap.size<=g:=fun g hg=>(H1.own (.t 0) g ⟨rfl,hg⟩).1;have hfr2:Fr m lim w lim' w':=hfr.aW fun b hb h=>absurd h oM;rw [AV.R] at hR;obtain ⟨hl1,hl2,hR⟩:=hR;rcases hR with ⟨rfl,rfl⟩|⟨g,c,cur,rfl,hh,hnc,hcm,hcs,hlg,hRm⟩
 ·have Zj:∀p g,¬Ab.Own w' [] [] (rS .nil (.slice none 0 0)) p g:=by
   intro p g hp;cases p with
   |t k=>
    obtain ⟨h1,-⟩:=hp;unfold rS at h1;by_cases hk:k=0
    ·rw [if_pos hk] at h1;cases h1
    ·rw [if_neg hk] at h1;cases h1
   |b i j=>obtain ⟨b,x,y,v,q1,-⟩:=hp;simp at q1
  refine ⟨.nil,[],_,lim',[],.inl ⟨rfl,rfl,rfl⟩,rfl,⟨rfl,.nil,fun b hb=>(by cases hb),fun b hb=>(by cases hb),fun i b x hi=>by simp at hi,fun k=>?_,fun k=>?_,H1.top,fun p g hp=>(Zj p g hp).elim,fun p q g hp=>(Zj p g hp).elim⟩,hfr2⟩
  ·unfold rS;by_cases hk:k=0
   ·rw [if_pos hk];show AV.R _ _ _ .nil _;rw [AV.R]
   ·rw [if_neg hk];exact oV _
  ·unfold rS;by_cases hk:k=0
   ·rw [if_pos hk];rfl
   ·rw [if_neg hk];rfl
 ·have hg:=hown g rfl;have hgw:g<w'.heap.size:=dO hh;obtain ⟨vs',hv1,hv2,hv3⟩:=yf hRm;have hsz:l.length<=cur.size:=by rw [hcs,hl1];exact Nat.mul_le_mul_right z hnc
  have hsplit:(vs'++cur.toList.drop l.length).toArray=cur:=by
   rw [←Array.toList_inj];show vs'++cur.toList.drop l.length=cur.toList;have:vs'=cur.toList.take l.length:=by
    apply List.ext_getElem?;intro j;rw [List.getElem?_take];split
    ·rename_i hj;have hj':j<vs'.length:=oM;have h1:=hv3 j _ (List.getElem?_eq_getElem hj');rw [List.getElem?_eq_getElem hj',←h1,Nat.zero_add];simp [World.cell?,hh]
    ·rename_i hj;exact List.getElem?_eq_none oM
   rw [this,List.take_append_drop]
  obtain ⟨jB,Zl⟩:∃jB:Nat->Nat,jB=fun b=>if b=g then 0 else lim' b:=⟨_,rfl⟩;have akY:∀b,b<w.heap.size->jB b=lim' b:=fun b hb=>by rw [Zl];exact if_neg oM
  have Zj:∀p g',¬Ab.Own w' [g] [l] (rS (.dm 0 e z n) (.slice (some ⟨g,0,none⟩) n c)) p g':=by
   intro p g' hp;cases p with
   |t k=>
    obtain ⟨h1,-⟩:=hp;unfold rS at h1;by_cases hk:k=0
    ·rw [if_pos hk] at h1;cases h1
    ·rw [if_neg hk] at h1;cases h1
   |b i j=>
    obtain ⟨b,x,y,v,q1,q2,q3,q4,-⟩:=hp;cases i with
    |zero=>
     simp at q2;subst q2;rw [abw (hl y (List.mem_of_getElem? q3))] at q4;cases q4
    |succ i=>simp at q2
  refine ⟨.dm 0 e z n,[l],_,jB,[g],.inr ⟨rfl,rfl⟩,rfl,⟨rfl,List.pairwise_singleton _ g,fun b hb=>?_,fun b hb=>?_,fun i b x hi hx=>?_,fun k=>?_,fun k=>?_,fun b hb=>?_,fun p g hp=>(Zj p g hp).elim,fun p q g hp=>(Zj p g hp).elim⟩,⟨hfr2.bel,fun b hb hn=>?_,fun b hb=>?_,hfr2.cell,hfr2.shape⟩⟩
  ·rw [List.mem_singleton.1 hb,Zl];exact if_pos rfl
  ·rw [List.mem_singleton.1 hb];exact hm g hg
  ·cases i with
   |zero=>
    simp at hi hx;subst hi;subst hx;refine ⟨vs',cur.toList.drop l.length,e,by rw [hsplit];exact hh,RG hl hv2,List.all_eq_true.2 fun x hx=>abv (hl x hx)⟩
   |succ i=>simp at hi
  ·unfold rS;by_cases hk:k=0
   ·rw [if_pos hk];show AV.R jB [g] w' (.dm 0 e z n) _;rw [AV.R];exact ⟨g,c,cur,rfl,hh,hcs,hnc,hcm,rfl⟩
   ·rw [if_neg hk];exact oV _
  ·unfold rS;by_cases hk:k=0
   ·rw [if_pos hk];rfl
   ·rw [if_neg hk];rfl
  ·rw [Zl];show (if b=g then 0 else lim' b)=0;split
   ·rfl
   ·exact H1.top b hb
  ·have:=hfr2.pV b hb hn;exact ⟨this.1,by rw [akY b hb];exact this.2⟩
  ·rw [akY b hb];exact hfr2.le b hb
end
variable {P : Program} {T : kZ} {sp : Sp} {n0 : Nat} {σ τ : aF} {Q R : zV -> aF -> Prop} {cal : BR}
def zS (Q:zV->aF->Prop):Zt:=fun m rJ Oh w0 a0 R=>∀e τ,Ok τ->Q e τ->kJ 0 m rJ Oh w0 a0 τ (R (WU e))
def WQ (P:Program) (n0:Nat) (c:Code) (σ:aF) (Q:zV->aF->Prop):Prop:=WZ P n0 0 c σ (zS Q)
theorem WQ.of {c:Code} (h:WP P n0 0 c σ Q):WQ P n0 c σ Q:=WZ.ao8 h fun m rJ Oh w0 a0 R hZ e τ hok hq=>hZ e τ hok hq
theorem WQ.seq {x y:Code} (h:WP P n0 0 x σ (jQ (fun c τ=>WQ P n0 c τ Q) y)):WQ P n0 (.seq x y) σ Q:=WZ.seq (h.mono fun e τ hj=>by
 cases e with
 |normal=>exact hj
 |exit i=>exact hj
 |ret=>exact hj)
theorem WQ.pJ {c:Code} (hr:Rx 0 σ τ) (h:WQ P n0 c τ Q):WQ P n0 c σ Q:=WZ.pJ hr h
theorem WQ.aiJ {x y:Code} (h:WQ P n0 x σ fun e τ=>e=.normal∧WQ P n0 y τ Q):WQ P n0 (.seq x y) σ Q:=by unfold WQ WZ at h;unfold WQ;refine WZ.mk ?_;intro hg hσ m rJ Oh w0 a0 lim bs w a R hn hb hgo hm hZ;rw [jK,Bool.and_eq_true] at hg;refine wp_seq (h hg.1 hσ hn hb ⟨hgo.hold,Fr.refl,fun _ _ _ h=>h,rfl,rfl⟩ hm fun e τ hok hq eQ mY w1 a1 hg1=>?_);obtain ⟨rfl,hq⟩:=hq;exact hq hg.2 hok (by rw [hg1.nt];exact hn) (Nat.zero_le _) (hgo.trans hg1) (fun b hb=>hm b (Nat.le_trans hg1.fr.bel.size hb)) hZ
theorem WQ.mono {c:Code} (h:WQ P n0 c σ Q) (hm:∀e τ,Q e τ->R e τ):WQ P n0 c σ R:=by unfold WQ WZ at h;unfold WQ;refine WZ.mk ?_;intro hg hσ m rJ Oh w0 a0 lim bs w a R hn hb hgo hm' hZ;exact h hg hσ hn hb hgo hm' fun e τ hok hq=>hZ e τ hok (hm e τ hq)
def Sub (σ τ:aF):Prop:=τ.bx=σ.bx∧∀k,get τ.tm k=get σ.tm k∨get τ.tm k=.bad
theorem Sub.hold {σ τ:aF} (h:Sub σ τ) {lim:Nat->Nat} {bs:List Nat} {w:World} {a:Act} {m:Nat->Prop} (H:aB lim bs w σ.bx (Sl σ.tm a) m):aB lim bs w τ.bx (Sl τ.tm a) m:=by
 rw [h.1];refine (H.sub (S':=Sl τ.tm a) fun k=>⟨rfl,?_⟩).1;rcases h.2 k with h|h
 ·exact .inl h
 ·exact .inr (.inr h)
theorem WQ.draw (HT:mM P T) {i:Nat} {ops:Array Oper} {M:List (Nat×Oper)->aF->Prop} (hM0:∀σ,M [] σ->∃τ,Sub σ τ∧Ok τ∧Q .normal τ)
  (hMs:∀(pre post:List (Nat×Oper)) (i:Nat) (o:Oper) (σ:aF),M (pre++(i,o)::post) σ->ops[i]?=some o->(∀p ∈ pre++(i,o)::post,ops[p.1]?=some p.2)->(pre++(i,o)::post).Pairwise (fun p q=>p.1<q.1)->(∀p ∈ pre++post,((jX [] ops.toList).getD i 0).testBit p.1=false)->iC P 0 ops o σ (M (pre++post)))
  (h:M (dR 0 ops.toList) σ):WQ P n0 (.region i ops true) σ Q:=by
 unfold WQ;refine WZ.mk ?_;intro hg hσ m rJ Oh w0 a0 lim bs w a R hn hb hgo hm hZ;have hko:qK ops.toList=true:=by rw [jK,Bool.and_eq_true] at hg;simpa using hg.2
 refine TQ (Fin:=M []) HT hko (rU hg hn) (fun σ h=>h) hMs hgo.hold hm h (fun σ' hF=>?_);obtain ⟨τ,hs,hok,hq⟩:=hM0 σ' hF;exact fun lim' bs' w' a' hg2=>hZ .normal τ hok hq lim' bs' w' a' (hgo.trans ⟨hs.hold hg2.hold,hg2.fr,hg2.pre,hg2.nt,hg2.df⟩)
theorem acK (HT:mM P T) {f:Nat} {fn:Func} {c:Code} (hf:P.funcs[f]?=some fn) (hg:sS fn=true) (hb:fn.body=some c) {args:List AV} (ha:iE args=true) {S:AV->List (List AV)->Prop} (h:WQ P fn.ntmps c ⟨params [] 0 args,[]⟩ (zL T fn.results.toList 0 S)):vP P f args fun r nb=>S r nb∧wv r=true∧aN nb=true:=by
 unfold sS at hg;rw [Bool.and_eq_true] at hg;obtain ⟨hg1,hg2⟩:=hg;rw [hb] at hg2;refine ⟨⟨fn,hf,by simpa using hg1,by rw [hb];rfl⟩,fun lim bs w ws m hl hm H=>?_⟩;refine calls_of_wp hf hb ?_;have hsz:fn.ntmps<=(ws.toArray++Array.replicate (fn.ntmps-ws.toArray.size) undef).size:=kU;unfold WQ WZ at h;refine h hg2 ⟨qE ha rfl,rfl⟩ hsz (Nat.zero_le _) ⟨kW hl H,Fr.refl,fun _ _ _ h=>h,rfl,rfl⟩ hm ?_;intro e τ hok hq lim' bs' w' a' hgo;obtain ⟨he,vs,q1,q2,q3,q4⟩:=hq;obtain ⟨u,u1,u2⟩:=jw (fn:=fn) HT hgo.hold q1;have hpost:a'.defers=[]∧∃v,(results fn a'.tmps).run P w'=.ok v w'∧(∃r nb v' lim' bs',(S r nb∧wv r=true∧aN nb=true)∧Ending.returned v=.returned v'∧aB lim' bs' w' nb (rS r v') m∧Fr m lim w lim' w'):=⟨hgo.df,u,u1,_,_,u,lim',bs',⟨q4,uq q2,hok.bx⟩,rfl,u2,hgo.fr⟩;rcases he with rfl|rfl
 ·exact hpost
 ·exact hpost
theorem Fn.okS {f:Nat} {fn:Func} {c:Code} {n0:Nat} {rs:List ResultVar} (F:Fn Tryz.prog f fn c n0 rs) {args:List AV} {S:AV->List (List AV)->Prop} (ha:iE args=true) (h:PR args fun tm=>sV c fun c=>WQ Tryz.prog n0 c ⟨tm,[]⟩ (zL jJ rs 0 S)):vP Tryz.prog f args fun r nb=>S r nb∧wv r=true∧aN nb=true:=by have h:=jW (Dj h);rw [←F.nt,←F.rs] at h;exact acK tok F.at_ F.jK F.body ha h
end V
namespace V
open Ab
open Bk (Cm)
variable {P : Program} {T : kZ} {sp : Sp} {n0 : Nat} {σ τ : aF} {Q R : zV -> aF -> Prop} {cal : BR}
theorem WQ.aeE (HT:mM P T) {i:Nat} {ops:Array Oper} {M:(Nat->Prop)->aF->Prop} (hM0:∀(D:Nat->Prop) (σ:aF),(∀j,D j)->M D σ->∃τ,Sub σ τ∧Ok τ∧Q .normal τ)
  (hMs:∀(i:Nat) (o:Oper) (D D':Nat->Prop) (σ:aF),ops[i]?=some o->¬D i->(∀j,D' j↔j=i∨D j)->(∀j,((jX [] ops.toList).getD i 0).testBit j=true->j≠i->D j)->M D σ->iC P 0 ops o σ (M D'))
  (h:∀D:Nat->Prop,(∀j,D j↔ops.size<=j)->M D σ):WQ P n0 (.region i ops true) σ Q:=by
 refine WQ.draw (M:=fun l σ=>M (fun j=>∀o,(j,o) ∉ l) σ) HT (fun σ hM=>hM0 _ σ (fun j o ho=>by cases ho) hM) (fun pre post i o σ hM ho hin hs agw=>?_) (h _ fun j=>?_)
 ·rw [List.pairwise_append] at hs;obtain ⟨s1,s2,s3⟩:=hs;refine hMs i o _ _ σ ho (fun hd=>hd o (List.mem_append_right _ List.mem_cons_self)) (fun j=>⟨fun hd=>?_,fun hd o' ho'=>?_⟩) (fun j hj hji o' ho'=>?_) hM
  ·by_cases e:j=i
   ·exact .inl e
   ·refine .inr fun o' ho'=>?_;rcases List.mem_append.1 ho' with h1|h1
    ·exact hd o' (List.mem_append_left _ h1)
    ·rcases List.mem_cons.1 h1 with h2|h2
     ·cases h2;exact e rfl
     ·exact hd o' (List.mem_append_right _ h2)
  ·rcases hd with rfl|hd
   ·rcases List.mem_append.1 ho' with h1|h1
    ·exact absurd (s3 _ h1 (j,o) List.mem_cons_self) (Nat.lt_irrefl _)
    ·exact absurd ((List.pairwise_cons.1 s2).1 _ h1) (Nat.lt_irrefl _)
   ·rcases List.mem_append.1 ho' with h1|h1
    ·exact hd o' (List.mem_append_left _ h1)
    ·exact hd o' (List.mem_append_right _ (List.mem_cons_of_mem _ h1))
  ·have:(j,o') ∈ pre++post:=by
    rcases List.mem_append.1 ho' with h1|h1
    ·exact List.mem_append_left _ h1
    ·rcases List.mem_cons.1 h1 with h2|h2
     ·cases h2;exact absurd rfl hji
     ·exact List.mem_append_right _ h2
   have:=agw _ this;rw [hj] at this;cases this
 ·constructor
  ·intro hd;rcases Nat.lt_or_ge j ops.size with hj|hj
   ·exact absurd ((eF _ _ j ops[j]).2 ⟨Nat.zero_le _,by simp [hj]⟩) (hd _)
   ·exact hj
  ·intro hj o ho;have:=((eF _ _ _ _).1 ho).2;have:=(List.getElem?_eq_some_iff.1 this).1;simp at this;omega
def qx (E:List (Nat×Nat×Nat×AV)) (D:Nat->Prop) (tm:Tm):Prop:=∀e ∈ E,D e.1->¬D e.2.1->get tm e.2.2.1=e.2.2.2
theorem qx.step {E E':List (Nat×Nat×Nat×AV)} {D D':Nat->Prop} {tm tm':Tm} {i:Nat} (h:qx E D tm) (hD:∀j,D' j↔j=i∨D j) (hg:∀e ∈ E',e.1≠i->e.2.1≠i->D e.1->e ∈ E∧get tm' e.2.2.1=get tm e.2.2.1) (hv:∀e ∈ E',e.1=i->get tm' e.2.2.1=e.2.2.2):qx E' D' tm':=by
 intro e he h1 h2;have h3:e.2.1≠i:=fun hh=>h2 ((hD _).2 (.inl hh));have h4:¬D e.2.1:=fun hh=>h2 ((hD _).2 (.inr hh));by_cases h5:e.1=i
 ·exact hv e he h5
 ·have h6:D e.1:=((hD _).1 h1).resolve_left h5;obtain ⟨g1,g2⟩:=hg e he h5 h3 h6;rw [g2];exact h e g1 h6 h4
variable {base : Nat} {ops : Array Oper} {o : Oper}
theorem aK.fa (HT:mM P T) (hg:o.guard=none) {t p f i k dd:Nat} {d:TD} {q:Nat×Nat×Bool} (hd:o.dst=some dd) (hop:o.op=.fieldAddr t (.tmp p) f) (hT:T t=some d) (hf:d.jG[f]?=some q) (hp:get σ.tm p=.ptr i k) (hq:0<q.2.1):aK P base ops o σ ⟨put σ.tm dd (.ptr i (k+q.1)),σ.bx⟩:=by
 refine aK.core (cal:=fun _ _ _=>none) (ids:=[]) (cs:=[]) (out:=⟨.ptr i (k+q.1),[],[],true⟩) HT dD hg ⟨[],[],0⟩ (by rw [hop];rfl) rfl ?_ rfl ?_
 ·rw [hop];show fK (T t) _=_;rw [hT];show fK (d.jG[f]?) _=_;rw [hf];show kE q (get σ.tm p) []=_;rw [hp];show some (Out.mk _ _ _ (decide (0<q.2.1)))=_;rw [decide_eq_true hq]
 ·rw [hop];show _=aF.mk (eG (gu σ.tm []) o.dst _) (σ.bx++[]);rw [hd,List.append_nil];rfl
theorem uy {α:Type} {l:List α} {i:Nat} {x:α} (h:l[i]?=some x):l.set i x=l:=by
 apply List.ext_getElem?;intro j;rw [List.getElem?_set];split
 ·rename_i e;subst e;rw [if_pos (List.getElem?_eq_some_iff.1 h).1,h]
 ·rfl
theorem aK.ld (HT:mM P T) (hg:o.guard=none) {t p i k dd:Nat} {d:TD} {c:List AV} {v:AV} (hd:o.dst=some dd) (hop:o.op=.load t (.tmp p)) (hT:T t=some d) (ha:d.agg=false) (hp:get σ.tm p=.ptr i k) (hb:σ.bx[i]?=some c) (hv:c[k]?=some v):aK P base ops o σ ⟨put σ.tm dd v.cO,σ.bx⟩:=by
 refine aK.core (cal:=fun _ _ _=>none) (ids:=[i]) (cs:=[c]) (out:=⟨v.cO,[c],[],true⟩) HT dD hg ⟨[],[],0⟩ ?_ (by rw [bD,hb];rfl) ?_ rfl ?_
 ·rw [hop];show uS (get σ.tm p)=_;rw [hp];rfl
 ·rw [hop];show fK (T t) _=_;rw [hT];show rV d (jb [] o.dst) (get σ.tm p) [c]=_;rw [hp];unfold rV;rw [ha,hd];show (match c[k]? with|some v=>_|none=>_)=_;rw [hv];rfl
 ·rw [hop];show _=aF.mk (eG (gu σ.tm []) o.dst _) ((σ.bx.set i c)++[]);rw [hd,List.append_nil,uy hb];rfl
theorem aK.ldA (HT:mM P T) (hg:o.guard=none) {t p i k dd:Nat} {d:TD} {c:List AV} (hd:o.dst=some dd) (hop:o.op=.load t (.tmp p)) (hT:T t=some d) (ha:d.agg=true) (hp:get σ.tm p=.ptr i k) (hb:σ.bx[i]?=some c) (hl:k+d.size<=c.length):aK P base ops o σ ⟨put σ.tm dd (.agg (((c.drop k).take d.size).map AV.cO)),σ.bx⟩:=by
 refine aK.core (cal:=fun _ _ _=>none) (ids:=[i]) (cs:=[c]) (out:=⟨.agg (((c.drop k).take d.size).map AV.cO),[c],[],true⟩) HT dD hg ⟨[],[],0⟩ ?_ (by rw [bD,hb];rfl) ?_ rfl ?_
 ·rw [hop];show uS (get σ.tm p)=_;rw [hp];rfl
 ·rw [hop];show fK (T t) _=_;rw [hT];show rV d (jb [] o.dst) (get σ.tm p) [c]=_;rw [hp];unfold rV;simp only [];rw [if_pos ha];show some (Out.mk _ _ _ (decide (k+d.size<=c.length)))=_;rw [decide_eq_true hl]
 ·rw [hop];show _=aF.mk (eG (gu σ.tm []) o.dst _) ((σ.bx.set i c)++[]);rw [hd,List.append_nil,uy hb];rfl
theorem aK.st (HT:mM P T) (hg:o.guard=none) {t p x i k:Nat} {d:TD} {c:List AV} {v:AV} (hd:o.dst=none) (hop:o.op=.store t (.tmp p) (.tmp x)) (hT:T t=some d) (ha:d.agg=false) (hs:d.size=1) (hp:get σ.tm p=.ptr i k) (hx:get σ.tm x=v) (hv:v.one=true) (hvc:Ab.cells v=[v]) (hb:σ.bx[i]?=some c) (hl:k+1<=c.length):aK P base ops o σ ⟨gu σ.tm [x],σ.bx.set i (setAt c k [v])⟩:=by
 refine aK.core (cal:=fun _ _ _=>none) (ids:=[i]) (cs:=[c]) (out:=⟨.bad,[setAt c k [v]],[],true⟩) HT dD hg ⟨[],[],0⟩ ?_ (by rw [bD,hb];rfl) ?_ rfl ?_
 ·rw [hop];show uS (get σ.tm p)=_;rw [hp];rfl
 ·rw [hop];show fK (T t) _=_;rw [hT];show uM T t d (get σ.tm p) (get σ.tm x) [c]=_;rw [hp,hx];unfold uM;rw [hvc,ha,hs];show some (Out.mk _ _ _ _)=_;rw [decide_eq_true hl,show (if false=true then (dZ [v] && AV.aj [v]) else v.one)=v.one from rfl,hv];rfl
 ·rw [hop];show _=aF.mk (eG (gu σ.tm [x]) o.dst _) ((σ.bx.set i (setAt c k [v]))++[]);rw [hd,List.append_nil];rfl
theorem aK.stA (HT:mM P T) (hg:o.guard=none) {t p x i k:Nat} {d:TD} {c l:List AV} (hd:o.dst=none) (hop:o.op=.store t (.tmp p) (.tmp x)) (hT:T t=some d) (ha:d.agg=true) (hs:l.length=d.size) (hp:get σ.tm p=.ptr i k) (hx:get σ.tm x=.agg l) (h1:dZ l=true) (h2:AV.aj l=true) (hb:σ.bx[i]?=some c) (hl:k+d.size<=c.length):aK P base ops o σ ⟨σ.tm,σ.bx.set i (setAt c k l)⟩:=by
 refine aK.core (cal:=fun _ _ _=>none) (ids:=[i]) (cs:=[c]) (out:=⟨.bad,[setAt c k l],[],true⟩) HT dD hg ⟨[],[],0⟩ ?_ (by rw [bD,hb];rfl) ?_ rfl ?_
 ·rw [hop];show uS (get σ.tm p)=_;rw [hp];rfl
 ·rw [hop];show fK (T t) _=_;rw [hT];show uM T t d (get σ.tm p) (get σ.tm x) [c]=_;rw [hp,hx];unfold uM;show some (Out.mk _ [setAt c k l] _ (decide (l.length=d.size) && decide (k+d.size<=c.length) && (if d.agg=true then dZ l && AV.aj l else _)))=_;rw [decide_eq_true hl,decide_eq_true hs,if_pos ha,h1,h2];rfl
 ·rw [hop];show _=aF.mk (eG (gu σ.tm [x]) o.dst _) ((σ.bx.set i (setAt c k l))++[]);rw [hd,List.append_nil,gu,hx];rfl
theorem aK.alloc (HT:mM P T) (hg:o.guard=none) {t dd:Nat} {d:TD} (hd:o.dst=some dd) (hop:o.op=.alloc t) (hT:T t=some d):aK P base ops o σ ⟨put σ.tm dd (.ptr σ.bx.length 0),σ.bx++[d.zero]⟩:=by
 refine aK.core (cal:=fun _ _ _=>none) (ids:=[]) (cs:=[]) (out:=⟨.ptr σ.bx.length 0,[],[d.zero],true⟩) HT dD hg ⟨[],[],0⟩ (by rw [hop];rfl) rfl ?_ rfl ?_
 ·rw [hop];show fK (T t) _=_;rw [hT];rfl
 ·rw [hop,hd];rfl
theorem aK.build (HT:mM P T) (hg:o.guard=none) {t dd:Nat} {ps:Array (Nat×Operand)} {d:TD} {l:List AV} (hd:o.dst=some dd) (hop:o.op=.build t ps) (hT:T t=some d) (hl:pX d.jG d.zero (uB (val σ.tm) ps.toList)=some l) (ha:d.agg=true) (hf:AV.aj l=true):aK P base ops o σ ⟨put σ.tm dd (.agg l),σ.bx⟩:=by
 refine aK.core (cal:=fun _ _ _=>none) (ids:=[]) (cs:=[]) (out:=⟨.agg l,[],[],true⟩) HT dD hg ⟨[],[],0⟩ (by rw [hop];rfl) rfl ?_ rfl ?_
 ·rw [hop];show fK (T t) _=_;rw [hT];show zO d _ []=_;unfold zO;rw [hl];show some (Out.mk _ _ _ (d.agg && AV.aj l))=_;rw [ha,hf];rfl
 ·rw [hop];show _=aF.mk (eG (gu σ.tm []) o.dst _) (σ.bx++[]);rw [hd,List.append_nil];rfl
end V
namespace V
open Ab
open Bk (Cm)
attribute [local irreducible] aK iC
theorem iC.ab4 {P:Program} {σ:aF} {o:Oper} {base:Nat} {ops:Array Oper} {g dd:Nat} {cap ys:List AV} {S0:AV->List (List AV)->Prop} {M:aF->Prop} (HC:vP P g ys S0) (hg:o.guard=none) (hd:o.dst=some dd) {c:Call} {f:Operand} (ho:o.op=.call c) (hc:c.callee=.value f) (hv:val σ.tm f=.fn g cap) (hcf:AV.aj cap=true)
  (hys:ys=(c.args.toList.map (val σ.tm)).map AV.cO++cap) (hyi:AV.aA ys=[]) (hM:∀r nb,S0 r nb->M ⟨put σ.tm dd (r.bP fun j=>σ.bx.length+j),σ.bx++nb.map (AV.aG fun j=>σ.bx.length+j)⟩):iC P base ops o σ M:=
 iC.ab5 HC hg ho hc hv hcf hys hyi fun r nb hS=>by rw [hd];exact hM r nb hS
theorem aK.afS {P:Program} {σ:aF} {o:Oper} {base:Nat} {ops:Array Oper} {g dd:Nat} {cap ys:List AV} {r:AV} (HC:aV P g ys [] r []) (hr:∀f,AV.bP f r=r) (hg:o.guard=none) (hd:o.dst=some dd) {c:Call} {f:Operand} (ho:o.op=.call c) (hc:c.callee=.value f) (hv:val σ.tm f=.fn g cap) (hcf:AV.aj cap=true)
  (hys:ys=(c.args.toList.map (val σ.tm)).map AV.cO++cap) (hyi:AV.aA ys=[]):aK P base ops o σ ⟨put σ.tm dd r,σ.bx⟩:=by
 have:=aK.ab5 (base:=base) (ops:=ops) (σ:=σ) HC hg ho hc hv hcf hys hyi;rw [hd,hr,List.map_nil,List.append_nil] at this;exact this
theorem wG {tm:Tm} {x k:Nat} (h:k≠x):get (gu tm [x]) k=get tm k:=by
 unfold gu;split
 ·rw [gu,ah,if_neg h]
 ·rw [gu]
noncomputable def opsOf (k:Nat):Code->Array Oper
 |.seq (.region i ops _) t=>if i=k then ops else opsOf k t
 |.seq _ t=>opsOf k t
 |_=>#[]
noncomputable def Sr (k:Nat):Array Oper:=opsOf k (Tryz.f41.body.getD .skip)
def mP (l:List Cm) (k:Nat) (L8:AV) (E:List (List AV)):Prop:=(L8=.nil∧l.length=0∧E=[])∨(L8=.dm k 56 2 l.length∧E=[eU l])
def E41 (lead ag:List Cm) (L8:AV):List (Nat×Nat×Nat×AV):=[(0,1,6,.ptr 0 8),(1,2,7,cs lead),(2,7,8,L8),(3,4,9,.ptr 0 9),(4,5,10,cs ag),(5,9,11,cr ag),(6,7,12,.ptr 0 8),(8,9,13,.ptr 0 9)]
def M41 (k y p b:Int) (an tg tx:ByteArray) (kc:AV) (h:Bool) (tr:ByteArray) (lead ag:List Cm) (Z0:List AV) (D:Nat->Prop) (σ:aF):Prop:=∃(L8 A8 A9:AV) (X:List (List AV)),(get σ.tm 1=.ptr 0 0∧get σ.tm 2=.ptr 1 0)∧qx (E41 lead ag L8) D σ.tm∧σ.bx=(Ce.mk k y p b an tg tx kc A8 A9 h tr).l::Z0::X∧((D 2->mP lead 2 L8 X)∧(¬D 2->X=[]))∧((D 7->A8=L8)∧(¬D 7->A8=cs lead))∧((D 9->A9=cr ag)∧(¬D 9->A9=cs ag))∧(D 7->D 1∧D 2)∧(D 9->D 4)
theorem aai (lead:List Cm) (hn:lead.length<=10000000000):vP Tryz.prog 39 [cs lead] (fun r nb=>(r=.nil∧lead.length=0∧nb=[])∨(r=.dm 0 56 2 lead.length∧nb=[eU lead])):=
 aV.boxed (Jh (jM lead) (G7 lead) (lD lead) hn) (Tu lead) (fun x hx=>by rw [List.mem_singleton.1 hx];rfl)
theorem QB (ag:List Cm) (hn:ag.length<=10000000000):aV Tryz.prog 39 [cs ag] [] (cr ag) []:=Jh (jM ag) (G7 ag) (lD ag) hn
theorem d25:∃d:TD,jJ 25=some d∧d.agg=false∧d.size=1:=⟨_,rfl,rfl,rfl⟩
theorem d35:∃d:TD,jJ 35=some d∧d.jG[8]?=some (8,1,false)∧d.jG[9]?=some (9,1,false):=⟨_,rfl,rfl,rfl⟩
theorem Me (f:Nat->Nat) (l:List Cm):AV.aG f (eU l)=eU l:=by have:=xX f l;unfold cs at this;rw [AV.bP] at this;injection this
theorem afi {k y p b:Int} {an tg tx:ByteArray} {kc:AV} {h:Bool} {tr:ByteArray} {lead ag:List Cm} {Z0:List AV} (hn1:lead.length<=10000000000) (hn2:ag.length<=10000000000) (i:Nat) (o:Oper) (D D':Nat->Prop) (σ:aF) (ho:(Sr 1)[i]?=some o) (hi:¬D i) (hD:∀j,D' j↔j=i∨D j) (hA:∀j,((jX [] (Sr 1).toList).getD i 0).testBit j=true->j≠i->D j) (hM:M41 k y p b an tg tx kc h tr lead ag Z0 D σ):iC Tryz.prog 0 (Sr 1) o σ (M41 k y p b an tg tx kc h tr lead ag Z0 D'):=by
 obtain ⟨L8,A8,A9,X,⟨p1,p2⟩,hE,hbx,⟨x1,x2⟩,⟨a1,a2⟩,⟨b1,b2⟩,d7,d9⟩:=hM;obtain ⟨dd,hd1,hd2,hd3⟩:=d25;have h0:σ.bx[0]?=some (Ce.mk k y p b an tg tx kc A8 A9 h tr).l:=by rw [hbx];rfl
 have hlt:i<10:=(Array.getElem?_eq_some_iff.1 ho).1;have edg:∀e ∈ E41 lead ag L8,D e.1->¬D e.2.1->get σ.tm e.2.2.1=e.2.2.2:=hE;simp only [E41,List.forall_mem_cons] at edg;obtain ⟨e0,e1,e2,e3,e4,e5,e6,e8,-⟩:=edg;obtain ⟨df,hf0,hf8,hf9⟩:=d35;rcases i with _|_|_|_|_|_|_|_|_|_|i
 ·
  obtain rfl:_=o:=Option.some.inj ((rfl:some _=(Sr 1)[0]?).trans ho);refine iC.of (aK.fa tok rfl rfl rfl hf0 hf8 p1 dE) ?_;refine ⟨L8,A8,A9,X,⟨(by rw [ah,if_neg dE];exact p1),(by rw [ah,if_neg dE];exact p2)⟩,?_,hbx,(by simpa [hD] using ⟨x1,x2⟩),(by simpa [hD] using ⟨a1,a2⟩),(by simpa [hD] using ⟨b1,b2⟩),(fun hh=>by have:=d7 (by simpa [hD] using hh);simp [hD,this]),(fun hh=>by have:=d9 (by simpa [hD] using hh);simp [hD,this])⟩;refine qx.step hE hD ?_ ?_
  ·exact kR
  ·exact jm
 ·
  obtain rfl:_=o:=Option.some.inj ((rfl:some _=(Sr 1)[1]?).trans ho);refine iC.of (aK.ld (v:=cs lead) tok rfl rfl rfl hd1 hd2 (e0 (hA 0 dK dE) hi) h0 (by rw [←a2 (fun hh=>hi (d7 hh).1)];rfl)) ?_;refine ⟨L8,A8,A9,X,⟨(by rw [ah,if_neg dE];exact p1),(by rw [ah,if_neg dE];exact p2)⟩,?_,hbx,(by simpa [hD] using ⟨x1,x2⟩),(by simpa [hD] using ⟨a1,a2⟩),(by simpa [hD] using ⟨b1,b2⟩),(fun hh=>by have:=d7 (by simpa [hD] using hh);simp [hD,this]),(fun hh=>by have:=d9 (by simpa [hD] using hh);simp [hD,this])⟩;refine qx.step hE hD ?_ ?_
  ·exact kR
  ·exact jm
 ·
  obtain rfl:_=o:=Option.some.inj ((rfl:some _=(Sr 1)[2]?).trans ho);refine iC.ab4 (ys:=[cs lead]) (aai lead hn1) rfl rfl rfl rfl rfl rfl (by show [cs lead]=([get σ.tm 7].map AV.cO)++[];rw [e1 (hA 1 dK dE) hi];rfl) (by rw [AV.aA,dY];rfl) (fun r nb hS=>?_);obtain rfl:=x2 hi;have hlen:σ.bx.length=2:=by rw [hbx];rfl
  have n7:¬D 7:=fun hh=>hi (d7 hh).2;refine ⟨r.bP fun j=>σ.bx.length+j,A8,A9,nb.map (AV.aG fun j=>σ.bx.length+j),⟨(by rw [ah,if_neg dE];exact p1),(by rw [ah,if_neg dE];exact p2)⟩,?_,?_,⟨fun _=>?_,fun hh=>absurd ((hD 2).2 (.inl rfl)) hh⟩,⟨fun hh=>absurd (((hD 7).1 hh).resolve_left dE) n7,fun _=>a2 n7⟩,(by simpa [hD] using ⟨b1,b2⟩),(fun hh=>absurd (((hD 7).1 hh).resolve_left dE) n7),(fun hh=>by have:=d9 (by simpa [hD] using hh);simp [hD,this])⟩
  ·refine qx.step hE hD ?_ ?_
   ·exact kR
   ·exact jm
  ·show σ.bx++_=_;rw [hbx];rfl
  ·rcases hS with ⟨rfl,h1,rfl⟩|⟨rfl,rfl⟩
   ·exact .inl ⟨rfl,h1,rfl⟩
   ·rw [hlen];refine .inr ⟨rfl,?_⟩;rw [List.map_cons,Me];rfl
 ·
  obtain rfl:_=o:=Option.some.inj ((rfl:some _=(Sr 1)[3]?).trans ho);refine iC.of (aK.fa tok rfl rfl rfl hf0 hf9 p1 dE) ?_;refine ⟨L8,A8,A9,X,⟨(by rw [ah,if_neg dE];exact p1),(by rw [ah,if_neg dE];exact p2)⟩,?_,hbx,(by simpa [hD] using ⟨x1,x2⟩),(by simpa [hD] using ⟨a1,a2⟩),(by simpa [hD] using ⟨b1,b2⟩),(fun hh=>by have:=d7 (by simpa [hD] using hh);simp [hD,this]),(fun hh=>by have:=d9 (by simpa [hD] using hh);simp [hD,this])⟩;refine qx.step hE hD ?_ ?_
  ·exact kR
  ·exact jm
 ·
  obtain rfl:_=o:=Option.some.inj ((rfl:some _=(Sr 1)[4]?).trans ho);refine iC.of (aK.ld (v:=cs ag) tok rfl rfl rfl hd1 hd2 (e3 (hA 3 dK dE) hi) h0 (by rw [←b2 (fun hh=>hi (d9 hh))];rfl)) ?_;refine ⟨L8,A8,A9,X,⟨(by rw [ah,if_neg dE];exact p1),(by rw [ah,if_neg dE];exact p2)⟩,?_,hbx,(by simpa [hD] using ⟨x1,x2⟩),(by simpa [hD] using ⟨a1,a2⟩),(by simpa [hD] using ⟨b1,b2⟩),(fun hh=>by have:=d7 (by simpa [hD] using hh);simp [hD,this]),(fun hh=>by have:=d9 (by simpa [hD] using hh);simp [hD,this])⟩;refine qx.step hE hD ?_ ?_
  ·exact kR
  ·exact jm
 ·
  obtain rfl:_=o:=Option.some.inj ((rfl:some _=(Sr 1)[5]?).trans ho);refine iC.of (aK.afS (ys:=[cs ag]) (QB ag hn2) (fun f=>by unfold cr;rw [AV.bP,Me]) rfl rfl rfl rfl rfl rfl (by show [cs ag]=([get σ.tm 10].map AV.cO)++[];rw [e4 (hA 4 dK dE) hi];rfl) (by rw [AV.aA,dY];rfl)) ?_;refine ⟨L8,A8,A9,X,⟨(by rw [ah,if_neg dE];exact p1),(by rw [ah,if_neg dE];exact p2)⟩,?_,hbx,(by simpa [hD] using ⟨x1,x2⟩),(by simpa [hD] using ⟨a1,a2⟩),(by simpa [hD] using ⟨b1,b2⟩),(fun hh=>by have:=d7 (by simpa [hD] using hh);simp [hD,this]),(fun hh=>by have:=d9 (by simpa [hD] using hh);simp [hD,this])⟩;refine qx.step hE hD ?_ ?_
  ·exact kR
  ·exact jm
 ·
  obtain rfl:_=o:=Option.some.inj ((rfl:some _=(Sr 1)[6]?).trans ho);refine iC.of (aK.fa tok rfl rfl rfl hf0 hf8 p1 dE) ?_;refine ⟨L8,A8,A9,X,⟨(by rw [ah,if_neg dE];exact p1),(by rw [ah,if_neg dE];exact p2)⟩,?_,hbx,(by simpa [hD] using ⟨x1,x2⟩),(by simpa [hD] using ⟨a1,a2⟩),(by simpa [hD] using ⟨b1,b2⟩),(fun hh=>by have:=d7 (by simpa [hD] using hh);simp [hD,this]),(fun hh=>by have:=d9 (by simpa [hD] using hh);simp [hD,this])⟩;refine qx.step hE hD ?_ ?_
  ·exact kR
  ·exact jm
 ·
  obtain rfl:_=o:=Option.some.inj ((rfl:some _=(Sr 1)[7]?).trans ho);have g2:=hA 2 dK dE;have hL:=x1 g2;have hx:get σ.tm 8=L8:=e2 g2 hi;have n9:¬D 7:=hi;refine iC.of (aK.st (v:=L8) tok rfl rfl rfl hd1 hd2 hd3 (e6 (hA 6 dK dE) hi) hx (by rcases hL with ⟨rfl,-⟩|⟨rfl,-⟩<;>rfl) (by rcases hL with ⟨rfl,-⟩|⟨rfl,-⟩<;>rfl) h0 (by show 8+1<=12;decide)) ?_;refine ⟨L8,L8,A9,X,⟨(by rw [wG dE];exact p1),(by rw [wG dE];exact p2)⟩,?_,(by show σ.bx.set 0 _=_;rw [hbx];rfl),(by simpa [hD] using ⟨x1,x2⟩),⟨fun _=>rfl,fun hh=>absurd ((hD 7).2 (.inl rfl)) hh⟩,(by simpa [hD] using ⟨b1,b2⟩),(fun hh=>⟨(hD 1).2 (.inr (hA 1 dK dE)),(hD 2).2 (.inr g2)⟩),(fun hh=>by have:=d9 (by simpa [hD] using hh);simp [hD,this])⟩;refine qx.step hE hD ?_ ?_
  ·exact FP
  ·exact jm
 ·
  obtain rfl:_=o:=Option.some.inj ((rfl:some _=(Sr 1)[8]?).trans ho);refine iC.of (aK.fa tok rfl rfl rfl hf0 hf9 p1 dE) ?_;refine ⟨L8,A8,A9,X,⟨(by rw [ah,if_neg dE];exact p1),(by rw [ah,if_neg dE];exact p2)⟩,?_,hbx,(by simpa [hD] using ⟨x1,x2⟩),(by simpa [hD] using ⟨a1,a2⟩),(by simpa [hD] using ⟨b1,b2⟩),(fun hh=>by have:=d7 (by simpa [hD] using hh);simp [hD,this]),(fun hh=>by have:=d9 (by simpa [hD] using hh);simp [hD,this])⟩;refine qx.step hE hD ?_ ?_
  ·exact kR
  ·exact jm
 ·
  obtain rfl:_=o:=Option.some.inj ((rfl:some _=(Sr 1)[9]?).trans ho);have hx:get σ.tm 11=cr ag:=e5 (hA 5 dK dE) hi;refine iC.of (aK.st (v:=cr ag) tok rfl rfl rfl hd1 hd2 hd3 (e8 (hA 8 dK dE) hi) hx rfl rfl h0 (by show 9+1<=12;decide)) ?_;refine ⟨L8,A8,cr ag,X,⟨(by rw [wG dE];exact p1),(by rw [wG dE];exact p2)⟩,?_,(by show σ.bx.set 0 _=_;rw [hbx];rfl),(by simpa [hD] using ⟨x1,x2⟩),(by simpa [hD] using ⟨a1,a2⟩),⟨fun _=>rfl,fun hh=>absurd ((hD 9).2 (.inl rfl)) hh⟩,(fun hh=>by have:=d7 (by simpa [hD] using hh);simp [hD,this]),(fun hh=>(hD 4).2 (.inr (hA 4 dK dE)))⟩;refine qx.step hE hD ?_ ?_
  ·exact FP
  ·exact jm
 ·exact absurd hlt oM
theorem aiW {k y p b:Int} {an tg tx:ByteArray} {kc:AV} {h:Bool} {tr:ByteArray} {lead ag:List Cm} {Z0:List AV} (hn1:lead.length<=10000000000) (hn2:ag.length<=10000000000) (hk:kc.one=true∧kc.flat=true∧wv kc=true) (hZ:gG Z0=true):WQ Tryz.prog 34 (.region 1 (Sr 1) true) ⟨[(2,.ptr 1 0),(1,.ptr 0 0)],[(Ce.mk k y p b an tg tx kc (cs lead) (cs ag) h tr).l,Z0]⟩ (fun e τ=>e=.normal∧∃L8 E,mP lead 2 L8 E∧τ=⟨[(2,.ptr 1 0),(1,.ptr 0 0)],(Ce.mk k y p b an tg tx kc L8 (cr ag) h tr).l::Z0::E⟩):=by
 refine WQ.aeE (M:=M41 k y p b an tg tx kc h tr lead ag Z0) tok (fun D σ hall hM=>?_) (afi hn1 hn2) (fun D hD=>?_)
 ·obtain ⟨L8,A8,A9,X,⟨p1,p2⟩,hE,hbx,⟨x1,x2⟩,⟨a1,a2⟩,⟨b1,b2⟩,d7,d9⟩:=hM;obtain rfl:=a1 (hall 7);obtain rfl:=b1 (hall 9);have hL:=x1 (hall 2);refine ⟨⟨[(2,.ptr 1 0),(1,.ptr 0 0)],(Ce.mk k y p b an tg tx kc A8 (cr ag) h tr).l::Z0::X⟩,⟨hbx.symm,fun j=>?_⟩,⟨rfl,?_⟩,rfl,A8,X,hL,rfl⟩
  ·show get [(2,.ptr 1 0),(1,.ptr 0 0)] j=_∨_;rw [bH,bH];by_cases h2:j=2
   ·subst h2;left;rw [if_pos rfl,p2]
   ·rw [if_neg h2];by_cases h1:j=1
    ·subst h1;left;rw [if_pos rfl,p1]
    ·rw [if_neg h1];right;rfl
  ·rw [aY];intro c hc;rcases List.mem_cons.1 hc with rfl|hc
   ·rw [dP];intro v hv;have hA8:A8.one=true∧wv A8=true:=by rcases hL with ⟨rfl,-⟩|⟨rfl,-⟩<;>exact ⟨rfl,rfl⟩
    simp only [Ce.l,List.mem_cons,List.not_mem_nil,or_false] at hv;rcases hv with rfl|rfl|rfl|rfl|rfl|rfl|rfl|rfl|rfl|rfl|rfl|rfl<;>first|exact ⟨hk.1,hk.2.2⟩|exact hA8|exact ⟨rfl,ay _⟩|exact ⟨rfl,rfl⟩
   ·rcases List.mem_cons.1 hc with rfl|hc
    ·exact hZ
    ·rcases hL with ⟨-,-,rfl⟩|⟨-,rfl⟩
     ·cases hc
     ·rw [List.mem_singleton.1 hc];exact dA (bZ (ay lead))
 ·have hno:∀j,j<10->¬D j:=fun j hj hh=>by have:=(hD j).1 hh;have hs:(Sr 1).size=10:=rfl;omega
  refine ⟨.nil,_,_,[],⟨rfl,rfl⟩,fun e he h1 h2=>?_,rfl,⟨fun hh=>absurd hh (hno 2 dE),fun _=>rfl⟩,⟨fun hh=>absurd hh (hno 7 dE),fun _=>rfl⟩,⟨fun hh=>absurd hh (hno 9 dE),fun _=>rfl⟩,fun hh=>absurd hh (hno 7 dE),fun hh=>absurd hh (hno 9 dE)⟩;simp only [E41,List.mem_cons,List.not_mem_nil,or_false] at he;rcases he with rfl|rfl|rfl|rfl|rfl|rfl|rfl|rfl<;>exact absurd h1 (hno _ (by simp))
end V
namespace V
open Ab
open Bk (Cm)
theorem mP.akE {l:List Cm} {L8:AV} {E:List (List AV)} (h:mP l 2 L8 E) {i:Nat} (hi:i ∈ AV.ids L8):i=2∧E.length=1:=by
 rcases h with ⟨rfl,-,rfl⟩|⟨rfl,rfl⟩
 ·cases hi
 ·rw [AV.ids,List.mem_singleton] at hi;exact ⟨hi,rfl⟩
theorem mP.E {l:List Cm} {k:Nat} {L8:AV} {E:List (List AV)} (h:mP l k L8 E):∀z ∈ E,AV.aA z=[]:=by
 rcases h with ⟨-,-,rfl⟩|⟨-,rfl⟩
 ·intro z hz;cases hz
 ·intro z hz;rw [List.mem_singleton.1 hz];exact jc (bn (ay l))
theorem mP.cell {l:List Cm} {L8:AV} {E:List (List AV)} (hL:mP l 2 L8 E) {k y p b:Int} {an tg tx:ByteArray} {kc:AV} {ag:List Cm} {h:Bool} {tr:ByteArray} {i:Nat} (hi:i ∈ AV.aA (Ce.mk k y p b an tg tx kc L8 (cr ag) h tr).l):i ∈ AV.ids kc∨i<2+E.length:=by
 rw [sG] at hi;simp only [nD,List.append_nil] at hi;rcases List.mem_append.1 hi with hi|hi
 ·exact .inl hi
 ·obtain ⟨rfl,h1⟩:=hL.akE hi;exact .inr oM
theorem mP.lf {l:List Cm} {L8:AV} {E:List (List AV)} (h:mP l 2 L8 E):LF L8 E:=⟨fun hi=>h.cell hi,h.E⟩
theorem vP.aW {P:Program} {f:Nat} {args:List AV} {S S2:AV->List (List AV)->Prop} (h:vP P f args S) (hw:∀r nb,S r nb->∃r2 nb2,Wk r r2∧Bh nb nb2∧wv r2=true∧aN nb2=true∧S2 r2 nb2):vP P f args S2:=by
 refine ⟨h.Og,fun lim bs w vs m hl hm H=>(h.call lim bs w vs m hl hm H).mono ?_⟩;rintro e w' ⟨r,nb,v,lim',bs',hS,rfl,h3,h4⟩;obtain ⟨r2,nb2,hr,hb,h1,h2,h5⟩:=hw r nb hS;refine ⟨r2,nb2,v,lim',bs',h5,rfl,aB.aW h3 hb (fun c hc=>Hy (aY.1 h2 c hc)) (fun k=>?_),h4⟩;unfold rS;by_cases hk:k=0
 ·rw [if_pos hk,if_pos hk];exact ⟨rfl,hr,yK h1⟩
 ·rw [if_neg hk,if_neg hk];exact ⟨rfl,Wk.refl _,rfl⟩
def QR (nd:Nd) (r:AV) (b:List (List AV)):Prop:=∃(L8:AV) (E:List (List AV)) (kc:AV) (I:List Nat),mP nd.lead 2 L8 E∧r=.agg (Ce.mk nd.k nd.y nd.p nd.b nd.an nd.tg nd.tx kc L8 (cs nd.ag) nd.h nd.tr).l∧b[0]?=some (Ce.mk nd.k nd.y nd.p nd.b nd.an nd.tg nd.tx kc L8 (cr nd.ag) nd.h nd.tr).l∧b[1]?=some (Ce.mk nd.k nd.y nd.p nd.b nd.an nd.tg nd.tx kc L8 (cs nd.ag) nd.h nd.tr).l∧fO b nd.kids kc I∧I.Nodup∧(∀i ∈ I,2+E.length<=i)∧BQ b∧(∀(j:Nat) (z:List AV),E[j]?=some z->b[2+j]?=some z)∧(∀(j:Nat) (z:List AV),2+E.length<=j->b[j]?=some z->∀i ∈ AV.aA z,2+E.length<=i)
def S41 (nd:Nd) (r:AV) (b:List (List AV)):Prop:=∃(L8:AV) (E:List (List AV)) (kc:AV) (I:List Nat),mP nd.lead 2 L8 E∧r=.agg (Ce.mk nd.k nd.y nd.p nd.b nd.an nd.tg nd.tx kc L8 (cs nd.ag) nd.h nd.tr).l∧fO b nd.kids kc I∧I.Nodup∧(∀i ∈ I,2+E.length<=i)∧BQ b∧(∀(j:Nat) (z:List AV),E[j]?=some z->b[2+j]?=some z)∧(∀z ∈ b,∀i ∈ AV.aA z,2+E.length<=i)∧aN b=true
theorem mP.facts {l:List Cm} {k:Nat} {L8:AV} {E:List (List AV)} (h:mP l k L8 E):L8.one=true∧L8.flat=true∧wv L8=true∧L8.cO=L8:=by rcases h with ⟨rfl,-,-⟩|⟨rfl,-⟩<;>exact ⟨rfl,rfl,rfl,rfl⟩
theorem aan {k y p b:Int} {an tg tx:ByteArray} {kc L8:AV} {l2:List Cm} {h:Bool} {tr:ByteArray} (g:kc.one=true∧kc.flat=true∧wv kc=true∧kc.cO=kc) (g':L8.one=true∧L8.flat=true∧wv L8=true∧L8.cO=L8):∀v ∈ (Ce.mk k y p b an tg tx kc L8 (cs l2) h tr).l,v.flat=true∧v.one=true∧wv v=true:=by
 intro v hv;simp only [Ce.l,List.mem_cons,List.not_mem_nil,or_false] at hv;rcases hv with rfl|rfl|rfl|rfl|rfl|rfl|rfl|rfl|rfl|rfl|rfl|rfl<;>first|exact ⟨g.2.1,g.1,g.2.2.1⟩|exact ⟨g'.2.1,g'.1,g'.2.2.1⟩|exact ⟨Ea _,rfl,D9 _⟩|exact ⟨rfl,rfl,rfl⟩
theorem afw {k y p b:Int} {an tg tx:ByteArray} {kc L8:AV} {l2:List Cm} {h:Bool} {tr:ByteArray} {bx:List (List AV)} (h1:bx[1]?=some (Ce.mk k y p b an tg tx kc L8 (cs l2) h tr).l) (hk:kc.cO=kc) (hk':L8.cO=L8):uO jJ 0 ⟨[(2,.ptr 1 0)],bx⟩ [.cell 2 35]=some [.agg (Ce.mk k y p b an tg tx kc L8 (cs l2) h tr).l]:=by
 have e1:Gi jJ 0 ⟨[(2,.ptr 1 0)],bx⟩ (.cell 2 35)=some (.agg (Ce.mk k y p b an tg tx kc L8 (cs l2) h tr).l):=by show (fK (bx[1]?) fun c=>_)=_;rw [h1];show some (AV.agg [_,_,_,_,_,_,_,kc.cO,L8.cO,_,_,_])=_;rw [hk,hk'];rfl
 unfold uO;rw [e1];rfl
attribute [local irreducible] WQ
theorem agI {k y p bb:Int} {an tg tx:ByteArray} {kids:List Nd} {lead ag:List Cm} {hh:Bool} {tr:ByteArray} {L8:AV} {E:List (List AV)} (hL:mP lead 2 L8 E) (σ:aF) (hJ:J8R (.mk k y p bb an tg tx kids lead ag hh tr) L8 E σ):WQ Tryz.prog 34 (tl5 (Tryz.f41.body.getD .skip)) σ (zL jJ [.cell 2 35] 0 (QR (.mk k y p bb an tg tx kids lead ag hh tr))):=by
 obtain ⟨kc,z1,bx1,I,rfl,h0,h1,hz1,hk,hnd,hI2,hcl,hEE,hBB⟩:=hJ;refine WQ.of ?_;have B:=V.base ae.nil;have zE:Ev _ _ _ (au 41) [] []:=⟨B⟩;obtain ⟨a1,a2,a3,a4,a5,a6,a7,a8,a9,a10,a11,a12,rfl⟩:∃a1 a2 a3 a4 a5 a6 a7 a8 a9 a10 a11 a12:AV,z1=[a1,a2,a3,a4,a5,a6,a7,a8,a9,a10,a11,a12]:=by
  rcases z1 with _|⟨a1,_|⟨a2,_|⟨a3,_|⟨a4,_|⟨a5,_|⟨a6,_|⟨a7,_|⟨a8,_|⟨a9,_|⟨a10,_|⟨a11,_|⟨a12,_|⟨a13,t⟩⟩⟩⟩⟩⟩⟩⟩⟩⟩⟩⟩⟩<;>first|exact ⟨_,_,_,_,_,_,_,_,_,_,_,_,rfl⟩|(simp at hz1;done)|(simp only [List.length_cons] at hz1;omega)
 have hk0:=hk;have hlf:=hL.facts;have hfin:∀{e:zV} {b9:List (List AV)},e=.normal∨e=.ret->b9.length=bx1.length->b9[1]?=some (Ce.mk k y p bb an tg tx kc L8 (cs ag) hh tr).l->(∀j,j≠1->b9[j]?=bx1[j]?)->zL jJ [.cell 2 35] 0 (QR (.mk k y p bb an tg tx kids lead ag hh tr)) e ⟨[(2,.ptr 1 0)],b9⟩:=by
  intro e b9 he xR h9 qA;have hk9:fO b9 kids kc I:=hk0.fr fun i hi=>qA i (by have:=hI2 i hi;omega);refine ⟨he,_,afw h9 hk9.kc.2.2.2 hlf.2.2.2,?_,Nat.zero_le _,L8,E,kc,I,hL,rfl,(qA 0 dE).trans h0,h9,hk9,hnd,hI2,hcl.facts xR h9 qA fun i hi=>?_,fun j z hj=>(qA (2+j) oM).trans (hEE j z hj),fun j z hj hz=>hBB j z hj ((qA j oM).symm.trans hz)⟩
  ·rw [iE,iE,Bool.and_true];show uX (Ce.mk k y p bb an tg tx kc L8 (cs ag) hh tr).l=true;exact jD.2 fun v hv=>aan hk9.kc hlf v hv
  ·rw [sG] at hi;simp only [dY,List.append_nil] at hi;rcases List.mem_append.1 hi with hi|hi
   ·exact hk0.lt i (hk0.ids i hi)
   ·obtain ⟨rfl,h2⟩:=hL.akE hi;rcases hL with ⟨rfl,-⟩|⟨-,rfl⟩
    ·cases hi
    ·exact (List.getElem?_eq_some_iff.1 (hEE 0 _ rfl)).1
 rcases hL with ⟨rfl,hl1,rfl⟩|⟨rfl,rfl⟩
 ·rcases hk with ⟨g1,rfl,rfl⟩|⟨g1,q,cc,J,rfl,rfl,g2,g3⟩
  ·have key:sV (tl5 (Tryz.f41.body.getD .skip)) fun c=>WP Tryz.prog 34 0 c ⟨[(2,.ptr 1 0),(1,.ptr 0 0)],bx1⟩ (zL jJ [.cell 2 35] 0 (QR (.mk k y p bb an tg tx kids lead ag hh tr))):=by
    conv=>whnf
    repeat' (first
    |((with_reducible refine (?_:∃c:List AV,_∧_));refine ⟨_,(by first|exact h0|exact h1),?_⟩;(conv=>whnf))
    |refine nX ?_;conv=>whnf
    |with_reducible refine fun(hwr:wv _=true)(hwb:aN _=true)=>?_
    |(with_reducible refine fun(hw:aN _=true)=>?_);conv=>whnf
    |with_reducible assumption
    |((with_reducible refine gZ.mk (i:=1) ?_);intro b9 xR h9 qA;(conv=>whnf))
    |with_reducible refine And.intro ?_ ?_
    |exact cL
    |(with_reducible intro h);first|(try simp only [lG,reduceCtorEq] at h);first|done|(exfalso;omega)|replace h:=h trivial aZ|replace h:=h aZ|skip
    |fail)
    ·exact .inr rfl
    ·exact (hfin (e:=.ret) (.inr rfl) xR h9 qA).2
   exact jW key
  ·have key:sV (tl5 (Tryz.f41.body.getD .skip)) fun c=>WP Tryz.prog 34 0 c ⟨[(2,.ptr 1 0),(1,.ptr 0 0)],bx1⟩ (zL jJ [.cell 2 35] 0 (QR (.mk k y p bb an tg tx kids lead ag hh tr))):=by
    conv=>whnf
    repeat' (first
    |((with_reducible refine (?_:∃c:List AV,_∧_));refine ⟨_,(by first|exact h0|exact h1),?_⟩;(conv=>whnf))
    |refine nX ?_;conv=>whnf
    |with_reducible refine fun(hwr:wv _=true)(hwb:aN _=true)=>?_
    |(with_reducible refine fun(hw:aN _=true)=>?_);conv=>whnf
    |with_reducible assumption
    |((with_reducible refine gZ.mk (i:=1) ?_);intro b9 xR h9 qA;(conv=>whnf))
    |with_reducible refine And.intro ?_ ?_
    |exact cL
    |(with_reducible intro h);first|(try simp only [lG,reduceCtorEq] at h);first|done|(exfalso;omega)|replace h:=h trivial aZ|replace h:=h aZ|skip
    |fail)
    ·exact .inr rfl
    ·exact (hfin (e:=.ret) (.inr rfl) xR h9 qA).2
   exact jW key
 ·rcases hk with ⟨g1,rfl,rfl⟩|⟨g1,q,cc,J,rfl,rfl,g2,g3⟩
  ·have key:sV (tl5 (Tryz.f41.body.getD .skip)) fun c=>WP Tryz.prog 34 0 c ⟨[(2,.ptr 1 0),(1,.ptr 0 0)],bx1⟩ (zL jJ [.cell 2 35] 0 (QR (.mk k y p bb an tg tx kids lead ag hh tr))):=by
    conv=>whnf
    repeat' (first
    |((with_reducible refine (?_:∃c:List AV,_∧_));refine ⟨_,(by first|exact h0|exact h1),?_⟩;(conv=>whnf))
    |refine nX ?_;conv=>whnf
    |with_reducible refine fun(hwr:wv _=true)(hwb:aN _=true)=>?_
    |(with_reducible refine fun(hw:aN _=true)=>?_);conv=>whnf
    |with_reducible assumption
    |((with_reducible refine gZ.mk (i:=1) ?_);intro b9 xR h9 qA;(conv=>whnf))
    |with_reducible refine And.intro ?_ ?_
    |exact cL
    |(with_reducible intro h);first|(try simp only [lG,reduceCtorEq] at h);first|done|(exfalso;omega)|replace h:=h trivial aZ|replace h:=h aZ|skip
    |fail)
    ·exact .inr rfl
    ·exact (hfin (e:=.ret) (.inr rfl) xR h9 qA).2
   exact jW key
  ·have key:sV (tl5 (Tryz.f41.body.getD .skip)) fun c=>WP Tryz.prog 34 0 c ⟨[(2,.ptr 1 0),(1,.ptr 0 0)],bx1⟩ (zL jJ [.cell 2 35] 0 (QR (.mk k y p bb an tg tx kids lead ag hh tr))):=by
    conv=>whnf
    repeat' (first
    |((with_reducible refine (?_:∃c:List AV,_∧_));refine ⟨_,(by first|exact h0|exact h1),?_⟩;(conv=>whnf))
    |refine nX ?_;conv=>whnf
    |with_reducible refine fun(hwr:wv _=true)(hwb:aN _=true)=>?_
    |(with_reducible refine fun(hw:aN _=true)=>?_);conv=>whnf
    |with_reducible assumption
    |((with_reducible refine gZ.mk (i:=1) ?_);intro b9 xR h9 qA;(conv=>whnf))
    |with_reducible refine And.intro ?_ ?_
    |exact cL
    |(with_reducible intro h);first|(try simp only [lG,reduceCtorEq] at h);first|done|(exfalso;omega)|replace h:=h trivial aZ|replace h:=h aZ|skip
    |fail)
    ·exact .inr rfl
    ·exact (hfin (e:=.ret) (.inr rfl) xR h9 qA).2
   exact jW key
theorem afN {k y p bb:Int} {an tg tx:ByteArray} {kids:List Nd} {lead ag:List Cm} {hh:Bool} {tr:ByteArray} (hn:lW (.mk k y p bb an tg tx kids lead ag hh tr)<=9000000000) (hz:jT (.mk k y p bb an tg tx kids lead ag hh tr)<=9000000000):vP Tryz.prog 41 [.agg (bV (.mk k y p bb an tg tx kids lead ag hh tr))] fun r nb=>QR (.mk k y p bb an tg tx kids lead ag hh tr) r nb∧wv r=true∧aN nb=true:=by
 refine alp.okS (by rw [iE,iE,Bool.and_true];exact bZ (jg _)) ?_;rw [lW] at hn;rw [jT] at hz;have hn1:lead.length<=10000000000:=oM;have hn2:ag.length<=10000000000:=oM;have B:=V.base ae.nil
 conv=>whnf
 refine WQ.seq ?_
 repeat' (first
 |((with_reducible refine (?_:WQ _ _ (.seq (.region 1 _ _) _) _ _));refine aH.get ?_)
 |with_reducible refine WP.seq ?_
 |(with_reducible first|refine Go.mk ?_|refine WP.qy B (au 41) ?_|refine WP.draw B (au 41) ?_|refine WP.cond ?_|refine WP.exit ?_|refine WP.skip ?_|refine WP.ret ?_);conv=>whnf
 |with_reducible refine WP.block ?_
 |with_reducible assumption
 |with_reducible refine And.intro ?_ ?_
 |exact cL
 |(with_reducible intro h);first|(try simp only [lG,reduceCtorEq] at h);first|done|(exfalso;omega)|replace h:=h trivial aZ|replace h:=h aZ|skip
 |fail)
 refine aH.mk ?_;refine WQ.aiJ ((aiW (k:=k) (y:=y) (p:=p) (b:=bb) (an:=an) (tg:=tg) (tx:=tx) (kc:=.sl kids.length (aO kids)) (h:=hh) (tr:=tr) (lead:=lead) (ag:=ag) (Z0:=[.int .i64 0,.int .i64 0,.int .i64 0,.int .i64 0,.str ByteArray.empty,.str ByteArray.empty,.str ByteArray.empty,.nil,.nil,.nil,.bool false,.str ByteArray.empty]) hn1 hn2 ⟨rfl,bK (ai kids),ai kids⟩ rfl).mono ?_);rintro e τ ⟨rfl,L8,E,hL,rfl⟩;refine ⟨rfl,?_⟩;exact jW (Ui (ajz (eP kids)) (J:=fun c σ=>WQ Tryz.prog 34 c σ (zL jJ [.cell 2 35] 0 (QR (.mk k y p bb an tg tx kids lead ag hh tr)))) (fun x y σ h=>WQ.seq h) hL.lf rfl rfl (Nat.le_refl _) oM oM (fun σ hJ=>agI hL σ hJ))
def nk:AV->AV
 |.dm _ _ _ n=> .sl n []
 |v=>v
theorem aea (v:AV):Wk v (nk v):=by
 cases v<;>first|exact Wk.refl _|skip
 refine ⟨fun lim bs w v hr=>?_,fun h=>by cases h⟩;rw [AV.R] at hr;obtain ⟨b,c,cur,h1,h2,h3,h4,h5,rfl⟩:=hr;show AV.R lim bs w (.sl _ []) _;rw [AV.R];exact ⟨_,_,rfl,h4,.inl rfl⟩
theorem YQ {k y p b:Int} {an tg tx:ByteArray} {kc lc fc:AV} {h:Bool} {tr:ByteArray}:qi (Ce.mk k y p b an tg tx kc lc fc h tr).l (Ce.mk k y p b an tg tx (nk kc) (nk lc) fc h tr).l:=
 ⟨_,_,rfl,Wk.refl _,_,_,rfl,Wk.refl _,_,_,rfl,Wk.refl _,_,_,rfl,Wk.refl _,_,_,rfl,Wk.refl _,_,_,rfl,Wk.refl _,_,_,rfl,Wk.refl _,_,_,rfl,aea _,_,_,rfl,aea _,_,_,rfl,Wk.refl _,_,_,rfl,Wk.refl _,_,_,rfl,Wk.refl _,rfl⟩
theorem YR {b:List (List AV)} {kids:List Nd} {kc:AV} {I:List Nat} (h:fO b kids kc I):AV.ids (nk kc)=[]∧(nk kc).one=true∧wv (nk kc)=true:=by rcases h with ⟨g1,rfl,rfl⟩|⟨g1,q,cc,J,rfl,rfl,g2,g3⟩<;>exact ⟨rfl,rfl,rfl⟩
theorem UW {l:List Cm} {k:Nat} {L8:AV} {E:List (List AV)} (h:mP l k L8 E):AV.ids (nk L8)=[]∧(nk L8).one=true∧wv (nk L8)=true:=by rcases h with ⟨rfl,-,-⟩|⟨rfl,-⟩<;>exact ⟨rfl,rfl,rfl⟩
theorem YS {b:List (List AV)} {kids:List Nd} {I:List Nat} {l:List Cm} {kk:Nat} {L8:AV} {E:List (List AV)} {k y p bb:Int} {an tg tx:ByteArray} {kc fc:AV} {h:Bool} {tr:ByteArray} (hk:fO b kids kc I) (hL:mP l kk L8 E) (hf:AV.ids fc=[]∧fc.one=true∧wv fc=true):AV.aA (Ce.mk k y p bb an tg tx (nk kc) (nk L8) fc h tr).l=[]∧gG (Ce.mk k y p bb an tg tx (nk kc) (nk L8) fc h tr).l=true:=by
 refine ⟨?_,dP.2 fun v hv=>?_⟩
 ·rw [sG];simp only [(YR hk).1,(UW hL).1,hf.1,List.append_nil]
 ·simp only [Ce.l,List.mem_cons,List.not_mem_nil,or_false] at hv;rcases hv with rfl|rfl|rfl|rfl|rfl|rfl|rfl|rfl|rfl|rfl|rfl|rfl<;>first|exact (YR hk).2|exact (UW hL).2|exact hf.2|exact ⟨rfl,rfl⟩
theorem ajy (nd:Nd) (hn:lW nd<=9000000000) (hz:jT nd<=9000000000):vP Tryz.prog 41 [.agg (bV nd)] (S41 nd):=by
 obtain ⟨k,y,p,bb,an,tg,tx,kids,lead,ag,hh,tr⟩:=nd;refine (afN hn hz).aW ?_;rintro r b ⟨⟨L8,E,kc,I,hL,rfl,h0,h1,hk,hnd,hI,hcl,hEE,hBB⟩,hw1,hw2⟩;obtain ⟨b2,hb2⟩:∃b2,b2=(b.set 0 (Ce.mk k y p bb an tg tx (nk kc) (nk L8) (cr ag) hh tr).l).set 1 (Ce.mk k y p bb an tg tx (nk kc) (nk L8) (cs ag) hh tr).l:=⟨_,rfl⟩;have h1':(b.set 0 (Ce.mk k y p bb an tg tx (nk kc) (nk L8) (cr ag) hh tr).l)[1]?=some (Ce.mk k y p bb an tg tx kc L8 (cs ag) hh tr).l:=(List.getElem?_set_ne dE).trans h1;have hl0:=(List.getElem?_eq_some_iff.1 h0).1;obtain ⟨n0,v0⟩:=YS (k:=k) (y:=y) (p:=p) (bb:=bb) (an:=an) (tg:=tg) (tx:=tx) (fc:=cr ag) (h:=hh) (tr:=tr) hk hL ⟨nD _,rfl,ay _⟩;obtain ⟨n1,v1⟩:=YS (k:=k) (y:=y) (p:=p) (bb:=bb) (an:=an) (tg:=tg) (tx:=tx) (fc:=cs ag) (h:=hh) (tr:=tr) hk hL ⟨dY _,rfl,D9 _⟩;have hl1:=(List.getElem?_eq_some_iff.1 h1).1;have hlen:b2.length=b.length:=by rw [hb2,List.length_set,List.length_set]
 have g0:b2[0]?=some (Ce.mk k y p bb an tg tx (nk kc) (nk L8) (cr ag) hh tr).l:=by rw [hb2,List.getElem?_set_ne dE,List.getElem?_set_self hl0]
 have g1:b2[1]?=some (Ce.mk k y p bb an tg tx (nk kc) (nk L8) (cs ag) hh tr).l:=by rw [hb2,List.getElem?_set_self (by rw [List.length_set];exact hl1)]
 have gj:∀j,2<=j->b2[j]?=b[j]?:=fun j hj=>by rw [hb2,List.getElem?_set_ne oM,List.getElem?_set_ne oM]
 have hall:∀z ∈ b2,∀i ∈ AV.aA z,2+E.length<=i:=by
  intro z hz i hi;obtain ⟨j,hj⟩:=List.getElem?_of_mem hz;rcases Nat.lt_or_ge j 2 with h2|h2
  ·have:j=0∨j=1:=oM;rcases this with rfl|rfl
   ·rw [g0] at hj;cases hj;rw [n0] at hi;cases hi
   ·rw [g1] at hj;cases hj;rw [n1] at hi;cases hi
  ·rw [gj j h2] at hj;rcases Nat.lt_or_ge j (2+E.length) with h3|h3
   ·have he:=hEE (j-2) E[j-2] (List.getElem?_eq_getElem oM);rw [show 2+(j-2)=j from by omega,hj] at he;cases he;rw [hL.E _ (List.getElem_mem _)] at hi;cases hi
   ·exact hBB j z h3 hj i hi
 have hwb:aN b2=true:=by rw [hb2];exact oG (oG hw2 v0) v1
 refine ⟨_,b2,Wk.refl _,by rw [hb2];exact (Bh.set h0 YQ).trans (Bh.set h1' YQ),hw1,hwb,L8,E,kc,I,hL,rfl,hk.fr fun i hi=>gj i (by have:=hI i hi;omega),hnd,hI,fun z hz i hi=>?_,fun j z hj=>(gj _ oM).trans (hEE j z hj),hall,hwb⟩;rw [hlen];obtain ⟨j,hj⟩:=List.getElem?_of_mem hz;have h3:=hall z hz i hi;rcases Nat.lt_or_ge j 2 with h2|h2
 ·have:j=0∨j=1:=oM;rcases this with rfl|rfl
  ·rw [g0] at hj;cases hj;rw [n0] at hi;cases hi
  ·rw [g1] at hj;cases hj;rw [n1] at hi;cases hi
 ·rw [gj j h2] at hj;exact hcl z (List.mem_of_getElem? hj) i hi
end V
namespace V
open Ab
open Bk (Cm)
mutual
theorem abP {f:Nat->Nat}:∀(x:AV) {i:Nat},i ∈ AV.ids (AV.bP f x)->∃j ∈ AV.ids x,i=f j
 |.ptr i o,j,h=>by rw [AV.bP,AV.ids,List.mem_singleton] at h;exact ⟨i,by rw [AV.ids];exact List.mem_singleton.2 rfl,h⟩
 |.dm i e z n,j,h=>by rw [AV.bP,AV.ids,List.mem_singleton] at h;exact ⟨i,by rw [AV.ids];exact List.mem_singleton.2 rfl,h⟩
 |.sl n l,j,h=>by rw [AV.bP,AV.ids] at h;rw [AV.ids];exact pG l h
 |.row e z n l,j,h=>by rw [AV.bP,AV.ids] at h;rw [AV.ids];exact pG l h
 |.el l,j,h=>by rw [AV.bP,AV.ids] at h;rw [AV.ids];exact pG l h
 |.agg l,j,h=>by rw [AV.bP,AV.ids] at h;rw [AV.ids];exact pG l h
 |.bW l,j,h=>by rw [AV.bP,AV.ids] at h;rw [AV.ids];exact pG l h
 |.fn g l,j,h=>by rw [AV.bP,AV.ids] at h;rw [AV.ids];exact pG l h
 |.bool _,j,h=>by cases h
 |.int _ _,j,h=>by cases h
 |.str _,j,h=>by cases h
 |.nil,j,h=>by cases h
 |.nz _,j,h=>by cases h
 |.ql _,j,h=>by cases h
 |.low _ _ _,j,h=>by cases h
 |.bad,j,h=>by cases h
theorem pG {f:Nat->Nat}:∀(l:List AV) {i:Nat},i ∈ AV.aA (AV.aG f l)->∃j ∈ AV.aA l,i=f j
 |[],j,h=>by cases h
 |x::l,j,h=>by
  rw [AV.aG,AV.aA,List.mem_append] at h;rcases h with h|h
  ·obtain ⟨k,h1,h2⟩:=abP x h;exact ⟨k,by rw [AV.aA];exact List.mem_append_left _ h1,h2⟩
  ·obtain ⟨k,h1,h2⟩:=pG l h;exact ⟨k,by rw [AV.aA];exact List.mem_append_right _ h1,h2⟩
end
noncomputable def MN (k:Nat):Array Oper:=opsOf k (Tryz.f13.body.getD .skip)
theorem Ig (ts:List ByteArray):AV.ids (.sl ts.length (bM ts))=[]:=by rw [AV.ids];exact jc (bn (dN ts))
theorem abr (ts:List ByteArray):AV.ids (.row 9 1 ts.length (bM ts))=[]:=by rw [AV.ids];exact jc (bn (dN ts))
theorem OO:∀ts:List ByteArray,dZ (bM ts)=true
 |[]=>rfl
 |t::ts=>by have:=OO ts;rw [bM] at this;rw [bM,List.map_cons,dZ,this];rfl
theorem aag (ts:List ByteArray) (hn:ts.length<=10000000000):aV Tryz.prog 40 [.sl ts.length (bM ts)] [] (.row 9 1 ts.length (bM ts)) []:=aah (by rw [bM,List.length_map,Nat.mul_one]) (OO ts) (bK (dN ts)) hn
theorem ac2 (f:Nat->Nat) {k y p b:Int} {an tg tx:ByteArray} {kc lc:AV} {l2:List Cm} {h:Bool} {tr:ByteArray}:AV.aG f (Ce.mk k y p b an tg tx kc lc (cs l2) h tr).l=(Ce.mk k y p b an tg tx (AV.bP f kc) (AV.bP f lc) (cs l2) h tr).l:=by simp only [Ce.l,AV.aG,xX,AV.bP]
def rtC (x:Nd) (kc L8:AV):List AV:=(Ce.mk x.k x.y x.p x.b x.an x.tg x.tx kc L8 (cs x.ag) x.h x.tr).l
def vN (d:Dc) (kc L8:AV):List AV:=[cs d.head,.sl d.jL.length (bM d.jL),.bool d.mark,.int .i64 d.root.k,.int .i64 d.root.y,.int .i64 d.root.p,.int .i64 d.root.b,.str d.root.an,.str d.root.tg,.str d.root.tx,kc,L8,cs d.root.ag,.bool d.root.h,.str d.root.tr,.nil]
def VN:List AV:=[.nil,.nil,.bool false,.int .i64 0,.int .i64 0,.int .i64 0,.int .i64 0,.str ByteArray.empty,.str ByteArray.empty,.str ByteArray.empty,.nil,.nil,.nil,.bool false,.str ByteArray.empty,.nil]
def Rt (x:Nd) (bx:List (List AV)) (kc L8:AV) (q:Nat) (I:List Nat):Prop:=fO bx x.kids kc I∧I.Nodup∧(∀i ∈ I,3<=i∧i≠q)∧((L8=.nil∧x.lead.length=0∧q=0)∨(L8=.dm q 56 2 x.lead.length∧3<=q∧bx[q]?=some (eU x.lead)))
theorem Rt.facts {x:Nd} {bx:List (List AV)} {kc L8:AV} {q:Nat} {I:List Nat} (h:Rt x bx kc L8 q I):L8.one=true∧L8.flat=true∧wv L8=true∧L8.cO=L8:=by rcases h.2.2.2 with ⟨rfl,-⟩|⟨rfl,-⟩<;>exact ⟨rfl,rfl,rfl,rfl⟩
theorem RJ {d:Dc} {bx:List (List AV)} {kc L8:AV} {q:Nat} {I:List Nat} (h:Rt d.root bx kc L8 q I):∀v ∈ vN d kc L8,v.flat=true∧v.one=true∧wv v=true:=by
 have g:=h.1.kc;have g':=h.facts;intro v hv;simp only [vN,List.mem_cons,List.not_mem_nil,or_false] at hv;rcases hv with rfl|rfl|rfl|rfl|rfl|rfl|rfl|rfl|rfl|rfl|rfl|rfl|rfl|rfl|rfl|rfl<;>first|exact ⟨g.2.1,g.1,g.2.2.1⟩|exact ⟨g'.2.1,g'.1,g'.2.2.1⟩|exact ⟨Ea _,rfl,D9 _⟩|exact ⟨bK (dN _),rfl,dN _⟩|exact ⟨rfl,rfl,rfl⟩
theorem zK:∀{l:List AV},(∀v ∈ l,v.flat=true)->AV.aj l=true
 |[],_=>rfl
 |v::l,h=>by rw [AV.aj,h v List.mem_cons_self,zK fun w hw=>h w (List.mem_cons_of_mem _ hw)];rfl
theorem MJ:∀{l:List AV},(∀v ∈ l,v.one=true)->dZ l=true
 |[],_=>rfl
 |v::l,h=>by rw [dZ,h v List.mem_cons_self,MJ fun w hw=>h w (List.mem_cons_of_mem _ hw)];rfl
theorem GN {d:Dc} {bx:List (List AV)} {kc L8:AV} {q:Nat} {I:List Nat} (h:Rt d.root bx kc L8 q I):AV.aj (rtC d.root kc L8)=true∧dZ (rtC d.root kc L8)=true∧AV.aj (vN d kc L8)=true:=by have hc:∀v ∈ rtC d.root kc L8,v.flat=true∧v.one=true∧wv v=true:=aan h.1.kc h.facts;exact ⟨zK fun v hv=>(hc v hv).1,MJ fun v hv=>(hc v hv).2.1,zK fun v hv=>(RJ h v hv).1⟩
theorem abE {d:Dc} {bx:List (List AV)} {kc L8:AV} {q:Nat} {I:List Nat} (h:Rt d.root bx kc L8 q I):dZ (vN d kc L8)=true:=MJ fun v hv=>(RJ h v hv).2.1
theorem afu {d:Dc} {bx:List (List AV)} {kc L8:AV} {q:Nat} {I:List Nat} (h:Rt d.root bx kc L8 q I):gG (vN d kc L8)=true:=dP.2 fun v hv=>(RJ h v hv).2
theorem Hf (d:Dc) (kc L8:AV):AV.aA (vN d kc L8)=AV.ids kc++AV.ids L8:=by have h1:=dY d.head;have h2:=Ig d.jL;have h3:=dY d.root.ag;simp only [vN,AV.aA,h1,h2,h3,List.nil_append,List.append_nil];simp only [AV.ids,List.nil_append,List.append_nil]
theorem afv {d:Dc} {bx:List (List AV)} {kc L8:AV} {q:Nat} {I:List Nat} (h:Rt d.root bx kc L8 q I) (i:Nat) (hi:i ∈ AV.aA (vN d kc L8)):i ∈ AV.ids kc∨i<bx.length:=by
 rw [Hf] at hi;rcases List.mem_append.1 hi with hi|hi
 ·exact .inl hi
 ·rcases h.2.2.2 with ⟨rfl,-⟩|⟨rfl,-,h3⟩
  ·cases hi
  ·rw [AV.ids,List.mem_singleton] at hi;rw [hi];exact .inr (List.getElem?_eq_some_iff.1 h3).1
theorem D32:∃d:TD,jJ 32=some d∧d.agg=false:=⟨_,rfl,rfl⟩
theorem D4:∃d:TD,jJ 4=some d∧d.agg=false:=⟨_,rfl,rfl⟩
theorem D35:∃d:TD,jJ 35=some d∧d.agg=true∧d.size=12:=⟨_,rfl,rfl,rfl⟩
theorem D37:∃d:TD,(jJ 37=some d∧d.agg=true∧d.zero=VN∧∀(x:Dc) (kc L8:AV),AV.aj (rtC x.root kc L8)=true->dZ (rtC x.root kc L8)=true->pX d.jG d.zero [(0,(cr x.head).cO),(1,(AV.row 9 1 x.jL.length (bM x.jL)).cO),(2,(AV.bool x.mark).cO),(3,(AV.agg (rtC x.root kc L8)).cO)]=some (vN x kc L8))∧(d.jG[0]?=some (0,1,false)∧d.jG[1]?=some (1,1,false)∧d.jG[2]?=some (2,1,false)∧d.jG[3]?=some (3,12,true))∧d.size=16:=by refine ⟨_,⟨rfl,rfl,rfl,fun x kc L8 h1 h2=>?_⟩,⟨rfl,rfl,rfl,rfl⟩,rfl⟩;unfold pX;show (if _ then _ else _)=_;rw [if_pos ⟨rfl,Nat.le_of_ble_eq_true rfl,Ea _,rfl⟩];unfold pX;show (if _ then _ else _)=_;rw [if_pos ⟨rfl,Nat.le_of_ble_eq_true rfl,bK (dN _),rfl⟩];unfold pX;show (if _ then _ else _)=_;rw [if_pos ⟨rfl,Nat.le_of_ble_eq_true rfl,rfl,rfl⟩];unfold pX;show (if _ then _ else _)=_;rw [if_pos ⟨rfl,Nat.le_of_ble_eq_true rfl,h1,h2⟩];rfl
def E13 (d:Dc) (kc L8:AV):List (Nat×Nat×Nat×AV):=[(0,1,10,.ptr 0 0),(1,2,11,cs d.head),(2,11,12,cr d.head),(3,4,13,.ptr 0 1),(4,5,14,.sl d.jL.length (bM d.jL)),(5,11,15,.row 9 1 d.jL.length (bM d.jL)),(6,7,16,.ptr 0 2),(7,11,17,.bool d.mark),(8,9,18,.ptr 0 3),(9,10,19,.agg (bV d.root)),(10,11,20,.agg (rtC d.root kc L8)),(11,13,21,.agg (vN d kc L8))]
def M13 (d:Dc) (blk:Bool) (D:Nat->Prop) (σ:aF):Prop:=∃(u q:Nat) (kc L8:AV) (I:List Nat),(get σ.tm 2=.ptr 0 0∧get σ.tm 4=.ptr 1 0∧get σ.tm 5=.ptr 2 0)∧qx (E13 d kc L8) D σ.tm∧(σ.bx[0]?=some (wJ d)∧σ.bx[1]?=some VN∧σ.bx[2]?=some [.bool blk,.nil])∧BQ σ.bx∧aN σ.bx=true∧(D 12->get σ.tm 6=.ptr u 0∧3<=u∧u<σ.bx.length∧(D 10->u ∉ I∧u≠q))∧(D 12->¬D 13->σ.bx[u]?=some VN)∧(D 13->σ.bx[u]?=some (vN d kc L8)∧D 12∧D 10)∧(D 10->Rt d.root σ.bx kc L8 q I)∧(D 10->∀(j:Nat) (z:List AV),σ.bx[j]?=some z->(D 13∧j=u)∨q ∉ AV.aA z)∧(¬D 10->∀(j:Nat) (z:List AV),σ.bx[j]?=some z->AV.aA z=[])∧(D 11->D 10)
attribute [local irreducible] aK iC
theorem afj {d:Dc} {blk:Bool} (hn1:d.head.length<=10000000000) (hn2:d.jL.length<=10000000000) (hn3:lW d.root<=9000000000) (hn4:jT d.root<=9000000000) (i:Nat) (o:Oper) (D D':Nat->Prop) (σ:aF) (ho:(MN 2)[i]?=some o) (hi:¬D i) (hD:∀j,D' j↔j=i∨D j) (hA:∀j,((jX [] (MN 2).toList).getD i 0).testBit j=true->j≠i->D j) (hM:M13 d blk D σ):iC Tryz.prog 0 (MN 2) o σ (M13 d blk D'):=by
 obtain ⟨u,q,kc,L8,I,⟨p2,p4,p5⟩,hE,hb,hcl,hwb,g12,gz,gw,gr,gn,gq,g11⟩:=hM;obtain ⟨auG,hd25⟩:=d25;obtain ⟨auF,hd32⟩:=D32;obtain ⟨dd4,hd4⟩:=D4;obtain ⟨auE,acz⟩:=D35;obtain ⟨acS,JK,hf,aen⟩:=D37;have hf0:=JK.1;replace hd25:=And.intro hd25.1 hd25.2.1;have hlt:i<14:=(Array.getElem?_eq_some_iff.1 ho).1;have edg:∀e ∈ E13 d kc L8,D e.1->¬D e.2.1->get σ.tm e.2.2.1=e.2.2.2:=hE;simp only [E13,List.forall_mem_cons] at edg;obtain ⟨e0,e1,e2,e3,e4,e5,e6,e7,e8,e9,e10,e11,-⟩:=edg;rcases i with _|_|_|_|_|_|_|_|_|_|_|_|_|_|i
 ·
  obtain rfl:_=o:=Option.some.inj ((rfl:some _=(MN 2)[0]?).trans ho);refine iC.of (aK.fa tok rfl rfl rfl hf0 hf.1 p2 dE) ?_;refine ⟨u,q,kc,L8,I,⟨(by rw [ah,if_neg dE];exact p2),(by rw [ah,if_neg dE];exact p4),(by rw [ah,if_neg dE];exact p5)⟩,?_,hb,hcl,hwb,(fun hh=>by obtain ⟨k1,k2,k3,k4⟩:=g12 (by simpa [hD] using hh);exact ⟨(by rw [ah,if_neg dE];exact k1),k2,k3,fun hh=>k4 (by simpa [hD] using hh)⟩),(by simpa [hD] using gz),(fun hh=>by have:=gw (by simpa [hD] using hh);simpa [hD] using this),(fun hh=>gr (by simpa [hD] using hh)),(fun hh j z hz=>by have:=gn (by simpa [hD] using hh) j z hz;simpa [hD] using this),(fun hh=>gq (by simpa [hD] using hh)),(fun hh=>by have:=g11 (by simpa [hD] using hh);simp [hD,this])⟩;refine qx.step hE hD ?_ ?_
  ·exact fZ
  ·exact fV
 ·
  obtain rfl:_=o:=Option.some.inj ((rfl:some _=(MN 2)[1]?).trans ho);refine iC.of (aK.ld (v:=cs d.head) tok rfl rfl rfl hd25.1 hd25.2 (e0 (hA 0 dK dE) hi) hb.1 rfl) ?_;refine ⟨u,q,kc,L8,I,⟨(by rw [ah,if_neg dE];exact p2),(by rw [ah,if_neg dE];exact p4),(by rw [ah,if_neg dE];exact p5)⟩,?_,hb,hcl,hwb,(fun hh=>by obtain ⟨k1,k2,k3,k4⟩:=g12 (by simpa [hD] using hh);exact ⟨(by rw [ah,if_neg dE];exact k1),k2,k3,fun hh=>k4 (by simpa [hD] using hh)⟩),(by simpa [hD] using gz),(fun hh=>by have:=gw (by simpa [hD] using hh);simpa [hD] using this),(fun hh=>gr (by simpa [hD] using hh)),(fun hh j z hz=>by have:=gn (by simpa [hD] using hh) j z hz;simpa [hD] using this),(fun hh=>gq (by simpa [hD] using hh)),(fun hh=>by have:=g11 (by simpa [hD] using hh);simp [hD,this])⟩;refine qx.step hE hD ?_ ?_
  ·exact fZ
  ·exact fV
 ·
  obtain rfl:_=o:=Option.some.inj ((rfl:some _=(MN 2)[2]?).trans ho);refine iC.of (aK.afS (ys:=[cs d.head]) (QB d.head hn1) (fun f=>xX.Ah (nD _)) rfl rfl rfl rfl rfl rfl (by show [cs d.head]=([get σ.tm 11].map AV.cO)++[];rw [e1 (hA 1 dK dE) hi];rfl) (by rw [AV.aA,dY];rfl)) ?_;refine ⟨u,q,kc,L8,I,⟨(by rw [ah,if_neg dE];exact p2),(by rw [ah,if_neg dE];exact p4),(by rw [ah,if_neg dE];exact p5)⟩,?_,hb,hcl,hwb,(fun hh=>by obtain ⟨k1,k2,k3,k4⟩:=g12 (by simpa [hD] using hh);exact ⟨(by rw [ah,if_neg dE];exact k1),k2,k3,fun hh=>k4 (by simpa [hD] using hh)⟩),(by simpa [hD] using gz),(fun hh=>by have:=gw (by simpa [hD] using hh);simpa [hD] using this),(fun hh=>gr (by simpa [hD] using hh)),(fun hh j z hz=>by have:=gn (by simpa [hD] using hh) j z hz;simpa [hD] using this),(fun hh=>gq (by simpa [hD] using hh)),(fun hh=>by have:=g11 (by simpa [hD] using hh);simp [hD,this])⟩;refine qx.step hE hD ?_ ?_
  ·exact fZ
  ·exact fV
 ·
  obtain rfl:_=o:=Option.some.inj ((rfl:some _=(MN 2)[3]?).trans ho);refine iC.of (aK.fa tok rfl rfl rfl hf0 hf.2.1 p2 dE) ?_;refine ⟨u,q,kc,L8,I,⟨(by rw [ah,if_neg dE];exact p2),(by rw [ah,if_neg dE];exact p4),(by rw [ah,if_neg dE];exact p5)⟩,?_,hb,hcl,hwb,(fun hh=>by obtain ⟨k1,k2,k3,k4⟩:=g12 (by simpa [hD] using hh);exact ⟨(by rw [ah,if_neg dE];exact k1),k2,k3,fun hh=>k4 (by simpa [hD] using hh)⟩),(by simpa [hD] using gz),(fun hh=>by have:=gw (by simpa [hD] using hh);simpa [hD] using this),(fun hh=>gr (by simpa [hD] using hh)),(fun hh j z hz=>by have:=gn (by simpa [hD] using hh) j z hz;simpa [hD] using this),(fun hh=>gq (by simpa [hD] using hh)),(fun hh=>by have:=g11 (by simpa [hD] using hh);simp [hD,this])⟩;refine qx.step hE hD ?_ ?_
  ·exact fZ
  ·exact fV
 ·
  obtain rfl:_=o:=Option.some.inj ((rfl:some _=(MN 2)[4]?).trans ho);refine iC.of (aK.ld (v:=.sl d.jL.length (bM d.jL)) tok rfl rfl rfl hd32.1 hd32.2 (e3 (hA 3 dK dE) hi) hb.1 rfl) ?_;refine ⟨u,q,kc,L8,I,⟨(by rw [ah,if_neg dE];exact p2),(by rw [ah,if_neg dE];exact p4),(by rw [ah,if_neg dE];exact p5)⟩,?_,hb,hcl,hwb,(fun hh=>by obtain ⟨k1,k2,k3,k4⟩:=g12 (by simpa [hD] using hh);exact ⟨(by rw [ah,if_neg dE];exact k1),k2,k3,fun hh=>k4 (by simpa [hD] using hh)⟩),(by simpa [hD] using gz),(fun hh=>by have:=gw (by simpa [hD] using hh);simpa [hD] using this),(fun hh=>gr (by simpa [hD] using hh)),(fun hh j z hz=>by have:=gn (by simpa [hD] using hh) j z hz;simpa [hD] using this),(fun hh=>gq (by simpa [hD] using hh)),(fun hh=>by have:=g11 (by simpa [hD] using hh);simp [hD,this])⟩;refine qx.step hE hD ?_ ?_
  ·exact fZ
  ·exact fV
 ·
  obtain rfl:_=o:=Option.some.inj ((rfl:some _=(MN 2)[5]?).trans ho);refine iC.of (aK.afS (ys:=[.sl d.jL.length (bM d.jL)]) (aag d.jL hn2) (fun f=>xX.Ah (abr _)) rfl rfl rfl rfl rfl rfl (by show [AV.sl d.jL.length (bM d.jL)]=([get σ.tm 14].map AV.cO)++[];rw [e4 (hA 4 dK dE) hi];rfl) (by rw [AV.aA,Ig];rfl)) ?_;refine ⟨u,q,kc,L8,I,⟨(by rw [ah,if_neg dE];exact p2),(by rw [ah,if_neg dE];exact p4),(by rw [ah,if_neg dE];exact p5)⟩,?_,hb,hcl,hwb,(fun hh=>by obtain ⟨k1,k2,k3,k4⟩:=g12 (by simpa [hD] using hh);exact ⟨(by rw [ah,if_neg dE];exact k1),k2,k3,fun hh=>k4 (by simpa [hD] using hh)⟩),(by simpa [hD] using gz),(fun hh=>by have:=gw (by simpa [hD] using hh);simpa [hD] using this),(fun hh=>gr (by simpa [hD] using hh)),(fun hh j z hz=>by have:=gn (by simpa [hD] using hh) j z hz;simpa [hD] using this),(fun hh=>gq (by simpa [hD] using hh)),(fun hh=>by have:=g11 (by simpa [hD] using hh);simp [hD,this])⟩;refine qx.step hE hD ?_ ?_
  ·exact fZ
  ·exact fV
 ·
  obtain rfl:_=o:=Option.some.inj ((rfl:some _=(MN 2)[6]?).trans ho);refine iC.of (aK.fa tok rfl rfl rfl hf0 hf.2.2.1 p2 dE) ?_;refine ⟨u,q,kc,L8,I,⟨(by rw [ah,if_neg dE];exact p2),(by rw [ah,if_neg dE];exact p4),(by rw [ah,if_neg dE];exact p5)⟩,?_,hb,hcl,hwb,(fun hh=>by obtain ⟨k1,k2,k3,k4⟩:=g12 (by simpa [hD] using hh);exact ⟨(by rw [ah,if_neg dE];exact k1),k2,k3,fun hh=>k4 (by simpa [hD] using hh)⟩),(by simpa [hD] using gz),(fun hh=>by have:=gw (by simpa [hD] using hh);simpa [hD] using this),(fun hh=>gr (by simpa [hD] using hh)),(fun hh j z hz=>by have:=gn (by simpa [hD] using hh) j z hz;simpa [hD] using this),(fun hh=>gq (by simpa [hD] using hh)),(fun hh=>by have:=g11 (by simpa [hD] using hh);simp [hD,this])⟩;refine qx.step hE hD ?_ ?_
  ·exact fZ
  ·exact fV
 ·
  obtain rfl:_=o:=Option.some.inj ((rfl:some _=(MN 2)[7]?).trans ho);refine iC.of (aK.ld (v:=.bool d.mark) tok rfl rfl rfl hd4.1 hd4.2 (e6 (hA 6 dK dE) hi) hb.1 rfl) ?_;refine ⟨u,q,kc,L8,I,⟨(by rw [ah,if_neg dE];exact p2),(by rw [ah,if_neg dE];exact p4),(by rw [ah,if_neg dE];exact p5)⟩,?_,hb,hcl,hwb,(fun hh=>by obtain ⟨k1,k2,k3,k4⟩:=g12 (by simpa [hD] using hh);exact ⟨(by rw [ah,if_neg dE];exact k1),k2,k3,fun hh=>k4 (by simpa [hD] using hh)⟩),(by simpa [hD] using gz),(fun hh=>by have:=gw (by simpa [hD] using hh);simpa [hD] using this),(fun hh=>gr (by simpa [hD] using hh)),(fun hh j z hz=>by have:=gn (by simpa [hD] using hh) j z hz;simpa [hD] using this),(fun hh=>gq (by simpa [hD] using hh)),(fun hh=>by have:=g11 (by simpa [hD] using hh);simp [hD,this])⟩;refine qx.step hE hD ?_ ?_
  ·exact fZ
  ·exact fV
 ·
  obtain rfl:_=o:=Option.some.inj ((rfl:some _=(MN 2)[8]?).trans ho);refine iC.of (aK.fa tok rfl rfl rfl hf0 hf.2.2.2 p2 dE) ?_;refine ⟨u,q,kc,L8,I,⟨(by rw [ah,if_neg dE];exact p2),(by rw [ah,if_neg dE];exact p4),(by rw [ah,if_neg dE];exact p5)⟩,?_,hb,hcl,hwb,(fun hh=>by obtain ⟨k1,k2,k3,k4⟩:=g12 (by simpa [hD] using hh);exact ⟨(by rw [ah,if_neg dE];exact k1),k2,k3,fun hh=>k4 (by simpa [hD] using hh)⟩),(by simpa [hD] using gz),(fun hh=>by have:=gw (by simpa [hD] using hh);simpa [hD] using this),(fun hh=>gr (by simpa [hD] using hh)),(fun hh j z hz=>by have:=gn (by simpa [hD] using hh) j z hz;simpa [hD] using this),(fun hh=>gq (by simpa [hD] using hh)),(fun hh=>by have:=g11 (by simpa [hD] using hh);simp [hD,this])⟩;refine qx.step hE hD ?_ ?_
  ·exact fZ
  ·exact fV
 ·
  obtain rfl:_=o:=Option.some.inj ((rfl:some _=(MN 2)[9]?).trans ho);refine iC.of (aK.ldA tok rfl rfl rfl acz.1 acz.2.1 (e8 (hA 8 dK dE) hi) hb.1 (by rw [acz.2.2];show 3+12<=16;decide)) ?_;rw [acz.2.2];refine ⟨u,q,kc,L8,I,⟨(by rw [ah,if_neg dE];exact p2),(by rw [ah,if_neg dE];exact p4),(by rw [ah,if_neg dE];exact p5)⟩,?_,hb,hcl,hwb,(fun hh=>by obtain ⟨k1,k2,k3,k4⟩:=g12 (by simpa [hD] using hh);exact ⟨(by rw [ah,if_neg dE];exact k1),k2,k3,fun hh=>k4 (by simpa [hD] using hh)⟩),(by simpa [hD] using gz),(fun hh=>by have:=gw (by simpa [hD] using hh);simpa [hD] using this),(fun hh=>gr (by simpa [hD] using hh)),(fun hh j z hz=>by have:=gn (by simpa [hD] using hh) j z hz;simpa [hD] using this),(fun hh=>gq (by simpa [hD] using hh)),(fun hh=>by have:=g11 (by simpa [hD] using hh);simp [hD,this])⟩;refine qx.step hE hD ?_ ?_
  ·exact fZ
  ·exact fV
 ·
  obtain rfl:_=o:=Option.some.inj ((rfl:some _=(MN 2)[10]?).trans ho);refine iC.ab4 (ys:=[.agg (bV d.root)]) (ajy d.root hn3 hn4) rfl rfl rfl rfl rfl rfl (by show [AV.agg (bV d.root)]=([get σ.tm 19].map AV.cO)++[];rw [e9 (hA 9 dK dE) hi];rfl) (by rw [AV.aA,AV.ids,xN];rfl) (fun r nb hS=>?_);obtain ⟨L9,E,kc9,I9,hL,rfl,hk,hnd,hI,apI,hEE,hall,aps⟩:=hS;have n13:¬D 13:=fun hh=>hi (gw hh).2.2;have n11:¬D' 13:=fun hh=>n13 (((hD 13).1 hh).resolve_left dE);have hlen:3<=σ.bx.length:=by have:=(List.getElem?_eq_some_iff.1 hb.2.2).1;omega
  have hnb:∀(j:Nat) (z:List AV),nb[j]?=some z->(σ.bx++nb.map (AV.aG fun j=>σ.bx.length+j))[σ.bx.length+j]?=some (AV.aG (fun j=>σ.bx.length+j) z):=fun j z hj=>by rw [List.getElem?_append_right oM,show σ.bx.length+j-σ.bx.length=j from by omega,List.getElem?_map,hj];rfl
  have hold:∀(j:Nat) (z:List AV),σ.bx[j]?=some z->(σ.bx++nb.map (AV.aG fun j=>σ.bx.length+j))[j]?=some z:=fun j z hj=>by rw [List.getElem?_append_left (List.getElem?_eq_some_iff.1 hj).1];exact hj
  obtain ⟨Q,hQ⟩:∃Q:Nat,(L9=.nil∧d.root.lead.length=0∧Q=0)∨(L9=.dm 2 56 2 d.root.lead.length∧E=[eU d.root.lead]∧Q=σ.bx.length+2):=by
   rcases hL with ⟨h1,h2,-⟩|⟨h1,h2⟩
   ·exact ⟨0,.inl ⟨h1,h2,rfl⟩⟩
   ·exact ⟨_,.inr ⟨h1,h2,rfl⟩⟩
  refine ⟨u,Q,kc9.bP fun j=>σ.bx.length+j,L9.bP fun j=>σ.bx.length+j,I9.map fun j=>σ.bx.length+j,⟨(by rw [ah,if_neg dE];exact p2),(by rw [ah,if_neg dE];exact p4),(by rw [ah,if_neg dE];exact p5)⟩,?_,⟨hold _ _ hb.1,hold _ _ hb.2.1,hold _ _ hb.2.2⟩,hcl.app apI,lX hwb (Hz aps),(fun hh=>?_),(fun hh h2=>hold _ _ (gz (((hD 12).1 hh).resolve_left dE) n13)),(fun hh=>absurd hh n11),(fun _=>⟨hk.mv hnb,EG _ hnd,fun i hi=>?_,?_⟩),(fun _ j z hz=> .inr fun hq=>?_),(fun hh=>absurd ((hD 10).2 (.inl rfl)) hh),(fun _=>(hD 10).2 (.inl rfl))⟩
  ·rw [show (AV.agg (Ce.mk d.root.k d.root.y d.root.p d.root.b d.root.an d.root.tg d.root.tx kc9 L9 (cs d.root.ag) d.root.h d.root.tr).l).bP (fun j=>σ.bx.length+j)=AV.agg (rtC d.root (kc9.bP fun j=>σ.bx.length+j) (L9.bP fun j=>σ.bx.length+j)) from by rw [AV.bP,ac2];rfl];refine qx.step hE hD ?_ ?_
   ·exact fZ
   ·exact fV
  ·obtain ⟨k1,k2,k3,-⟩:=g12 (((hD 12).1 hh).resolve_left dE);refine ⟨(by rw [ah,if_neg dE];exact k1),k2,by rw [List.length_append];omega,fun _=>⟨fun hm=>?_,?_⟩⟩
   ·obtain ⟨j,-,rfl⟩:=List.mem_map.1 hm;omega
   ·rcases hQ with ⟨-,-,h⟩|⟨-,-,h⟩<;>omega
  ·obtain ⟨j,hj,rfl⟩:=List.mem_map.1 hi;have hj2:=hI j hj;refine ⟨oM,?_⟩;rcases hQ with ⟨-,-,h⟩|⟨-,hE1,h⟩
   ·omega
   ·rw [hE1,List.length_singleton] at hj2;omega
  ·rcases hQ with ⟨h1,h2,h⟩|⟨h1,h2,h⟩
   ·exact .inl ⟨by rw [h1];rfl,h2,h⟩
   ·refine .inr ⟨by rw [h1,h];rfl,oM,?_⟩;have:=hnb 2 (eU d.root.lead) (by have:=hEE 0 (eU d.root.lead) (by rw [h2];rfl);simpa using this);rw [Me] at this;rw [h];exact this
  ·rcases hQ with ⟨-,-,h⟩|⟨-,hE1,h⟩
   ·subst h;by_cases hj:j<σ.bx.length
    ·rw [List.getElem?_append_left hj] at hz;rw [gq hi j z hz] at hq;cases hq
    ·rw [List.getElem?_append_right oM,List.getElem?_map] at hz;cases hz0:nb[j-σ.bx.length]? with
     |none=>rw [hz0] at hz;cases hz
     |some z0=>
      rw [hz0] at hz;cases hz;have:=qX (f:=fun j=>σ.bx.length+j) (L:=σ.bx.length) (fun j=>by omega) z0 _ hq;omega
   ·by_cases hj:j<σ.bx.length
    ·rw [List.getElem?_append_left hj] at hz;have:=hcl z (List.mem_of_getElem? hz) _ hq;omega
    ·rw [List.getElem?_append_right oM,List.getElem?_map] at hz;cases hz0:nb[j-σ.bx.length]? with
     |none=>rw [hz0] at hz;cases hz
     |some z0=>
      rw [hz0] at hz;cases hz;obtain ⟨j0,h5,h6⟩:=pG z0 hq;have:=hall z0 (List.mem_of_getElem? hz0) j0 h5;rw [hE1,List.length_singleton] at this;omega
 ·
  obtain rfl:_=o:=Option.some.inj ((rfl:some _=(MN 2)[11]?).trans ho);have hr:=gr (hA 10 dK dE);refine iC.of (aK.build (l:=vN d kc L8) tok rfl rfl rfl JK.1 (by
   show pX acS.jG acS.zero [(0,(get σ.tm 12).cO),(1,(get σ.tm 15).cO),(2,(get σ.tm 17).cO),(3,(get σ.tm 20).cO)]=_;rw [e2 (hA 2 dK dE) hi,e5 (hA 5 dK dE) hi,e7 (hA 7 dK dE) hi,e10 (hA 10 dK dE) hi];exact JK.2.2.2 d kc L8 (GN hr).1 (GN hr).2.1) JK.2.1 (GN hr).2.2) ?_
  refine ⟨u,q,kc,L8,I,⟨(by rw [ah,if_neg dE];exact p2),(by rw [ah,if_neg dE];exact p4),(by rw [ah,if_neg dE];exact p5)⟩,?_,hb,hcl,hwb,(fun hh=>by obtain ⟨k1,k2,k3,k4⟩:=g12 (by simpa [hD] using hh);exact ⟨(by rw [ah,if_neg dE];exact k1),k2,k3,fun hh=>k4 (by simpa [hD] using hh)⟩),(by simpa [hD] using gz),(fun hh=>by have:=gw (by simpa [hD] using hh);simpa [hD] using this),(fun hh=>gr (by simpa [hD] using hh)),(fun hh j z hz=>by have:=gn (by simpa [hD] using hh) j z hz;simpa [hD] using this),(fun hh=>gq (by simpa [hD] using hh)),(fun _=>(hD 10).2 (.inr (hA 10 dK dE)))⟩;refine qx.step hE hD ?_ ?_
  ·exact fZ
  ·exact fV
 ·
  obtain rfl:_=o:=Option.some.inj ((rfl:some _=(MN 2)[12]?).trans ho);have n13:¬D 13:=fun hh=>hi (gw hh).2.1;have n11:¬D' 13:=fun hh=>n13 (((hD 13).1 hh).resolve_left dE);refine iC.of (aK.alloc tok rfl rfl rfl JK.1) ?_;have hold:∀(j:Nat) (z:List AV),σ.bx[j]?=some z->(σ.bx++[acS.zero])[j]?=some z:=fun j z hj=>by rw [List.getElem?_append_left (List.getElem?_eq_some_iff.1 hj).1];exact hj
  have hlen:3<=σ.bx.length:=by have:=(List.getElem?_eq_some_iff.1 hb.2.2).1;omega
  have hnew:(σ.bx++[acS.zero])[σ.bx.length]?=some VN:=by rw [List.getElem?_append_right (Nat.le_refl _),Nat.sub_self,JK.2.2.1];rfl
  refine ⟨σ.bx.length,q,kc,L8,I,⟨(by rw [ah,if_neg dE];exact p2),(by rw [ah,if_neg dE];exact p4),(by rw [ah,if_neg dE];exact p5)⟩,?_,⟨hold _ _ hb.1,hold _ _ hb.2.1,hold _ _ hb.2.2⟩,hcl.one (by rw [JK.2.2.1];intro i hi;cases hi),lX hwb (by rw [JK.2.2.1];rfl),(fun _=>⟨by rw [ah,if_pos rfl],hlen,by rw [List.length_append];exact Nat.lt_succ_self _,fun hh=>?_⟩),(fun _ _=>hnew),(fun hh=>absurd hh n11),(fun hh=>?_),(fun hh j z hz=> .inr fun hq=>?_),(fun hh j z hz=>?_),(fun hh=>by have:=g11 (by simpa [hD] using hh);simp [hD,this])⟩
  ·refine qx.step hE hD ?_ ?_
   ·exact fZ
   ·exact fV
  ·have hr:=gr (((hD 10).1 hh).resolve_left dE);refine ⟨fun hm=>Nat.lt_irrefl _ (hr.1.lt _ hm),fun e=>?_⟩;rcases hr.2.2.2 with ⟨h1,-,h3⟩|⟨-,-,h3⟩
   ·omega
   ·have:=(List.getElem?_eq_some_iff.1 h3).1;omega
  ·have hr:=gr (((hD 10).1 hh).resolve_left dE);refine ⟨hr.1.fr fun i hi=>List.getElem?_append_left (hr.1.lt i hi),hr.2.1,hr.2.2.1,hr.2.2.2.imp id fun h=>⟨h.1,h.2.1,hold _ _ h.2.2⟩⟩
  ·by_cases hj:j<σ.bx.length
   ·rw [List.getElem?_append_left hj] at hz;rcases gn (((hD 10).1 hh).resolve_left dE) j z hz with ⟨h1,-⟩|h1
    ·exact n13 h1
    ·exact h1 hq
   ·have hjl:=(List.getElem?_eq_some_iff.1 hz).1;rw [List.length_append,List.length_singleton] at hjl;rw [show j=σ.bx.length from by omega,hnew] at hz;cases hz;rw [show AV.aA VN=[] from rfl] at hq;cases hq
  ·by_cases hj:j<σ.bx.length
   ·rw [List.getElem?_append_left hj] at hz;exact gq (fun h=>hh ((hD 10).2 (.inr h))) j z hz
   ·have hjl:=(List.getElem?_eq_some_iff.1 hz).1;rw [List.length_append,List.length_singleton] at hjl;rw [show j=σ.bx.length from by omega,hnew] at hz;cases hz;rfl
 ·
  obtain rfl:_=o:=Option.some.inj ((rfl:some _=(MN 2)[13]?).trans ho);have d12:=hA 12 dK dE;have d10:=hA 10 dK dE;obtain ⟨k1,k2,k3,k4⟩:=g12 d12;obtain ⟨k5,k6⟩:=k4 d10;have hr:=gr d10;have apx:=gz d12 hi;refine iC.of (aK.stA (l:=vN d kc L8) tok rfl rfl rfl JK.1 JK.2.1 (by rw [aen];rfl) k1 (e11 (hA 11 dK dE) hi) (abE hr) (GN hr).2.2 apx (by rw [aen];exact Nat.le_refl 16)) ?_;have hset:∀j,j≠u->(σ.bx.set u (setAt VN 0 (vN d kc L8)))[j]?=σ.bx[j]?:=fun j hj=>List.getElem?_set_ne fun e=>hj e.symm;have hself:(σ.bx.set u (setAt VN 0 (vN d kc L8)))[u]?=some (vN d kc L8):=by rw [List.getElem?_set_self k3];rfl
  have hlen:3<=σ.bx.length:=by have:=(List.getElem?_eq_some_iff.1 hb.2.2).1;omega
  refine ⟨u,q,kc,L8,I,⟨p2,p4,p5⟩,?_,⟨(hset 0 oM).trans hb.1,(hset 1 oM).trans hb.2.1,(hset 2 oM).trans hb.2.2⟩,hcl.set (fun i hi=>?_),oG hwb (by show gG (vN d kc L8)=true;exact afu hr),(fun _=>⟨k1,k2,by rw [List.length_set];exact k3,fun _=>⟨k5,k6⟩⟩),(fun _ hh=>absurd ((hD 13).2 (.inl rfl)) hh),(fun _=>⟨hself,(hD 12).2 (.inr d12),(hD 10).2 (.inr d10)⟩),(fun _=>⟨hr.1.fr fun i hi=>hset i (fun e=>k5 (e▸hi)),hr.2.1,hr.2.2.1,hr.2.2.2.imp id fun h=>⟨h.1,h.2.1,(hset q (Ne.symm k6)).trans h.2.2⟩⟩),(fun _ j z hz=>?_),(fun hh=>absurd ((hD 10).2 (.inr d10)) hh),(fun _=>(hD 10).2 (.inr d10))⟩
  ·intro e he;simp only [E13,List.mem_cons,List.not_mem_nil,or_false] at he;rcases he with rfl|rfl|rfl|rfl|rfl|rfl|rfl|rfl|rfl|rfl|rfl|rfl<;>(intro h1 h2;first|exact absurd ((hD _).2 (.inl rfl)) h2|exact hE _ (by simp only [E13,List.mem_cons,true_or,or_true]) (((hD _).1 h1).resolve_left dE) (fun hh=>h2 ((hD _).2 (.inr hh)))|(exact hE _ (by simp only [E13,List.mem_cons,true_or,or_true]) (((hD _).1 h1).resolve_left (by simp)) (fun hh=>h2 ((hD _).2 (.inr hh)))))
  ·rcases afv hr i hi with h|h
   ·exact hr.1.lt i (hr.1.ids i h)
   ·exact h
  ·by_cases hj:j=u
   ·exact .inl ⟨(hD 13).2 (.inl rfl),hj⟩
   ·rw [hset j hj] at hz;rcases gn d10 j z hz with ⟨h1,-⟩|h1
    ·exact absurd h1 hi
    ·exact .inr h1
 ·exact absurd hlt oM
end V
namespace V
open Ab
open Bk (Cm)
def dn (q i:Nat):Nat:=if i<q then i else i-1
def Fb (q i:Nat):Nat:=if i<q then i else i+1
theorem Rl (q i:Nat):Fb q i≠q:=by unfold Fb;split<;>omega
theorem abk {q i j:Nat} (h:Fb q i=Fb q j):i=j:=by unfold Fb at h;split at h<;>split at h<;>omega
theorem Ia {q i:Nat} (h:i≠q):Fb q (dn q i)=i:=by
 unfold Fb dn;by_cases hi:i<q
 ·rw [if_pos hi,if_pos hi]
 ·rw [if_neg hi,if_neg oM];omega
theorem agL {q i:Nat}:dn q (Fb q i)=i:=by
 unfold Fb dn;by_cases hi:i<q
 ·rw [if_pos hi,if_pos hi]
 ·rw [if_neg hi,if_neg oM];omega
theorem qN {α:Type} (l:List α) (q i:Nat):(l.eraseIdx q)[i]?=l[Fb q i]?:=by rw [List.getElem?_eraseIdx];unfold Fb;split<;>rfl
theorem Wl:∀{l:List AV},(∀x ∈ l,scl x=true)->AV.aj l=true:=fun h=>zK fun v hv=>by
 have:=h v hv;cases v<;>first|rfl|(cases this;done)
theorem aB.unbox {lim:Nat->Nat} {bs:List Nat} {w:World} {bx:List (List AV)} {S:uP} {m:Nat->Prop} (H:aB lim bs w bx S m) {q u:Nat} {pre post l:List AV} {e z n:Nat} (hbq:bx[q]?=some l) (hu:bx[u]?=some (pre++AV.dm q e z n::post)) (huq:u≠q) (hl:l.length=n*z) (hs:∀x ∈ l,scl x=true) (hpre:q ∉ AV.aA pre) (hpost:q ∉ AV.aA post) (hoth:∀(j:Nat) (y:List AV),bx[j]?=some y->j≠u->j≠q->q ∉ AV.aA y) (hS:∀k,q ∉ (S k).1.ids):
  ∃lim',aB lim' (bs.eraseIdx q) w (((bx.set u (pre++AV.row e z n l::post)).eraseIdx q).map (AV.aG (dn q))) (fun k=>((S k).1.bP (dn q),(S k).2)) m∧Fr m lim w lim' w:=by
 have hql:q<bs.length:=by rw [H.len];exact (List.getElem?_eq_some_iff.1 hbq).1
 have hul:=(List.getElem?_eq_some_iff.1 hu).1;obtain ⟨g,hq⟩:∃g,bs[q]?=some g:=⟨_,List.getElem?_eq_getElem hql⟩;have hgm:g ∈ bs:=List.mem_of_getElem? hq;have hg0:=H.free g hgm;obtain ⟨bu,hbu⟩:∃b,bs[u]?=some b:=⟨_,List.getElem?_eq_getElem (show u<bs.length by rw [H.len];exact hul)⟩;obtain ⟨cu,tlu,tu,hhu,hRu,htu⟩:=H.box u bu _ hbu hu;obtain ⟨v0,hv0,hR0⟩:=mO (j:=pre.length) (y:=AV.dm q e z n) hRu (by rw [List.getElem?_append_right (Nat.le_refl _),Nat.sub_self];rfl);rw [AV.R] at hR0;obtain ⟨b',c',cur,h1,h2,h3,h4,h5,rfl⟩:=hR0;rw [hq] at h1;cases h1;obtain ⟨cq,tlq,tq,hhq,hRq,-⟩:=H.box q g l hq hbq;obtain ⟨lim',hlim⟩:∃lim':Nat->Nat,lim'=fun b=>if b=g then l.length else lim b:=⟨_,rfl⟩;have hlg:lim' g=l.length:=by rw [hlim];exact if_pos rfl
 have hln:∀b,b≠g->lim' b=lim b:=fun b hb=>by rw [hlim];exact if_neg hb
 have hle:∀b,lim b<=lim' b:=fun b=>by
  by_cases hb:b=g
  ·rw [hb,hg0];exact Nat.zero_le _
  ·rw [hln b hb];exact Nat.le_refl _
 have qm:AV.Ext lim bs w lim' bs w:=⟨fun _ _ h=>h,Nat.le_refl _,fun b _=>hle b,fun _ _ _ _=>rfl,fun b cur e p h=>⟨cur,h,rfl⟩⟩;have hfr:Fr m lim w lim' w:=⟨Below.refl _ _,fun b hb hm=>⟨rfl,hln b (fun e=>hm (e▸H.mb g hgm))⟩,fun b _=>hle b,fun _ _ _ _=>rfl,fun b cur e p h=>⟨cur,h,rfl⟩⟩;have hrow:AV.R lim' (bs.eraseIdx q) w (AV.row e z n l) (.slice (some ⟨g,0,none⟩) n c'):=by rw [AV.R];refine ⟨hl,Wl hs,.inr ⟨g,c',cur,rfl,h2,h4,h5,h3,hlg,qW (RG hs hRq) fun j v hj=>?_⟩⟩;rw [Nat.zero_add];exact dV hhq hj
 have hval:∀{x:AV} {v:Value},x.top=true->q ∉ x.ids->AV.R lim bs w x v->(∀g',x.isRow=true->v.ownBlock=some g'->g' ∉ bs)->AV.R lim' (bs.eraseIdx q) w (x.bP (dn q)) v:=by intro x v ht hx hR hr;refine AV.R.bP (fun i hi b hb=>?_) (AV.R.pV qm ht (fun g' k1 k2=>⟨rfl,hln g' (fun e=>hr g' k1 k2 (e▸hgm))⟩) hR);rw [qN,Ia (i:=i) (fun e:i=q=>hx (by rw [←e];exact hi))];exact hb
 have hsub:∀b ∈ bs.eraseIdx q,b ∈ bs:=fun b hb=>(List.eraseIdx_sublist bs q).subset hb;have hgn:g ∉ bs.eraseIdx q:=fun h=>by obtain ⟨i,hi⟩:=List.getElem?_of_mem h;rw [qN] at hi;exact Rl q i (gm H.BX hi hq)
 have acu:AV.bP (dn q) (AV.row e z n l)=AV.row e z n l:=by
  refine su fun i hi=>?_;rw [AV.ids] at hi;exfalso;obtain ⟨x,hx,hxi⟩:=AV.jV.1 hi;have:=hs x hx;cases x<;>first|(cases this;done)|(cases hxi;done)
 have hcell:∀(i j:Nat) (x:List AV) (a:AV),(((bx.set u (pre++AV.row e z n l::post)).eraseIdx q).map (AV.aG (dn q)))[i]?=some x->x[j]?=some a->(Fb q i=u∧j=pre.length∧a=AV.row e z n l)∨∃(y:List AV) (a0:AV),bx[Fb q i]?=some y∧y[j]?=some a0∧a=a0.bP (dn q)∧q ∉ a0.ids:=by
  intro i j x a hx ha;rw [List.getElem?_map,qN] at hx;cases hy:(bx.set u (pre++AV.row e z n l::post))[Fb q i]? with
  |none=>rw [hy] at hx;cases hx
  |some y=>
   rw [hy] at hx;cases hx;rw [AV.wu,List.getElem?_map] at ha;cases ha0:y[j]? with
   |none=>rw [ha0] at ha;cases ha
   |some a0=>
    rw [ha0] at ha;cases ha;by_cases hiu:Fb q i=u
    ·rw [hiu,List.getElem?_set_self hul] at hy;cases hy;by_cases hj:j<pre.length
     ·rw [List.getElem?_append_left hj] at ha0;refine .inr ⟨_,a0,by rw [hiu];exact hu,by rw [List.getElem?_append_left hj];exact ha0,rfl,fun hh=>hpre (AV.jV.2 ⟨a0,List.mem_of_getElem? ha0,hh⟩)⟩
     ·by_cases hj2:j=pre.length
      ·subst hj2;rw [List.getElem?_append_right (Nat.le_refl _),Nat.sub_self] at ha0;cases ha0;exact .inl ⟨hiu,rfl,acu⟩
      ·obtain ⟨t,ht⟩:∃t,j-pre.length=t+1:=⟨j-pre.length-1,oM⟩;rw [List.getElem?_append_right oM,ht,List.getElem?_cons_succ] at ha0;refine .inr ⟨_,a0,by rw [hiu];exact hu,by rw [List.getElem?_append_right oM,ht,List.getElem?_cons_succ];exact ha0,rfl,fun hh=>hpost (AV.jV.2 ⟨a0,List.mem_of_getElem? ha0,hh⟩)⟩
    ·rw [List.getElem?_set_ne (fun e=>hiu e.symm)] at hy;exact .inr ⟨y,a0,hy,ha0,rfl,fun hh=>hoth _ y hy hiu (Rl q i) (AV.jV.2 ⟨a0,List.mem_of_getElem? ha0,hh⟩)⟩
 have hown:∀p g',Ab.Own w (bs.eraseIdx q) (((bx.set u (pre++AV.row e z n l::post)).eraseIdx q).map (AV.aG (dn q))) (fun k=>((S k).1.bP (dn q),(S k).2)) p g'->(p=.b (dn q u) pre.length∧g'=g)∨∃p0,Ab.Own w bs bx S p0 g'∧((∃k,p=.t k∧p0=.t k)∨∃i j,p=.b i j∧p0=.b (Fb q i) j):=by
  intro p g' hp;cases p with
  |t k=>
   obtain ⟨k1,k2⟩:=hp;exact .inr ⟨.t k,⟨by rw [←AV.oO (dn q)];exact k1,k2⟩,.inl ⟨k,rfl,rfl⟩⟩
  |b i j=>
   obtain ⟨b,x,y,v,q1,q2,q3,q4,q5,q6⟩:=hp;rw [qN] at q1;rcases hcell i j x y q2 q3 with ⟨r1,r2,r3⟩|⟨y0,a0,r1,r2,r3,r4⟩
   ·left;rw [r1,hbu] at q1;cases q1;refine ⟨by rw [←r1,agL,r2],?_⟩;rw [r2,dV hhu hv0] at q5;cases q5;simpa [Value.ownBlock] using q6.symm
   ·right;refine ⟨.b (Fb q i) j,⟨b,y0,a0,v,q1,r1,r2,?_,q5,q6⟩,.inr ⟨i,j,rfl,rfl⟩⟩;rw [r3,AV.oO] at q4;exact q4
 refine ⟨lim',⟨?_,H.BX.sublist (List.eraseIdx_sublist bs q),fun b hb=>?_,fun b hb=>H.mb b (hsub b hb),fun i b x hi hx=>?_,fun k=>hval (H.kN k) (hS k) (H.slot k) (fun g' k1 k2=>(H.own (.t k) g' ⟨k1,k2⟩).2),fun k=>?_,fun b hb=>?_,fun p g' hp=>?_,fun p p' g' hp hp'=>?_⟩,hfr⟩
 ·rw [List.length_map,List.length_eraseIdx,List.length_eraseIdx,List.length_set,H.len]
 ·rw [hln b (fun e=>hgn (e▸hb))];exact H.free b (hsub b hb)
 ·have hi0:=hi;rw [qN] at hi;have hx0:=hx;rw [List.getElem?_map,qN] at hx;cases hy:(bx.set u (pre++AV.row e z n l::post))[Fb q i]? with
  |none=>rw [hy] at hx;cases hx
  |some y=>
   rw [hy] at hx;have hxy:x=AV.aG (dn q) y:=by cases hx;rfl
   obtain ⟨y1,hy1,hlen1⟩:∃y1,bx[Fb q i]?=some y1∧y1.length=y.length:=by
    by_cases hiu:Fb q i=u
    ·rw [hiu,List.getElem?_set_self hul] at hy;cases hy;exact ⟨_,by rw [hiu];exact hu,by simp⟩
    ·rw [List.getElem?_set_ne (fun e=>hiu e.symm)] at hy;exact ⟨y,hy,rfl⟩
   obtain ⟨c,tl,t,g1,g2,g3⟩:=H.box (Fb q i) b y1 hi hy1;have hone:∀(j:Nat) (a:AV) (v:Value),x[j]?=some a->c[j]?=some v->AV.R lim' (bs.eraseIdx q) w a v∧a.top=true:=by
    intro j a v ha hv;rcases hcell i j x a hx0 ha with ⟨r1,r2,r3⟩|⟨y0,a0,r1,r2,r3,r4⟩
    ·rw [r1,hbu] at hi;cases hi;have e1:=dV g1 hv;rw [r2,dV hhu hv0] at e1;cases e1;rw [r3];exact ⟨hrow,by rw [AV.top];rfl⟩
    ·rw [hy1] at r1;cases r1;obtain ⟨v2,hv2,hR2⟩:=mO g2 r2;rw [hv] at hv2;cases hv2;have ht:=List.all_eq_true.1 g3 a0 (List.mem_of_getElem? r2);rw [r3];exact ⟨hval ht r4 hR2 (fun g' k1 k2=>(H.own (.b (Fb q i) j) g' ⟨b,_,a0,v,hi,hy1,r2,k1,dV g1 hv,k2⟩).2),by rw [AV.zY];exact ht⟩
   have hcl:c.length=x.length:=by rw [AV.gK g2,hlen1,hxy,AV.yY]
   refine ⟨c,tl,t,g1,wW hcl (fun j a v ha hv=>(hone j a v ha hv).1),List.all_eq_true.2 fun a ha=>?_⟩;obtain ⟨j,hj⟩:=List.getElem?_of_mem ha;have hjc:j<c.length:=by rw [hcl];exact (List.getElem?_eq_some_iff.1 hj).1
   exact (hone j a _ hj (List.getElem?_eq_getElem hjc)).2
 ·show ((S k).1.bP _).top=true;rw [AV.zY];exact H.kN k
 ·rw [hln b (fun e=>by have:=lU H hgm;omega)];exact H.top b hb
 ·rcases hown p g' hp with ⟨-,rfl⟩|⟨p0,k1,-⟩
  ·exact ⟨H.mb _ hgm,hgn⟩
  ·exact ⟨(H.own p0 g' k1).1,fun h=>(H.own p0 g' k1).2 (hsub g' h)⟩
 ·rcases hown p g' hp with ⟨e1,rfl⟩|⟨p0,k1,k2⟩
  ·rcases hown p' g' hp' with ⟨e2,-⟩|⟨p0',k1',-⟩
   ·rw [e1,e2]
   ·exact absurd hgm (H.own p0' _ k1').2
  ·rcases hown p' g' hp' with ⟨-,rfl⟩|⟨p0',k1',k2'⟩
   ·exact absurd hgm (H.own p0 _ k1).2
   ·have he:=H.qO p0 p0' g' k1 k1';rcases k2 with ⟨k,rfl,rfl⟩|⟨i,j,rfl,rfl⟩
    ·rcases k2' with ⟨k',rfl,rfl⟩|⟨i',j',rfl,rfl⟩
     ·exact he
     ·cases he
    ·rcases k2' with ⟨k',rfl,rfl⟩|⟨i',j',rfl,rfl⟩
     ·cases he
     ·simp only [Loc.b.injEq] at he;obtain ⟨h7,rfl⟩:=he;rw [abk h7]
def F13 (d:Dc) (blk:Bool) (τ:aF):Prop:=∃(u q:Nat) (kc L8:AV) (I:List Nat) (bx:List (List AV)),τ=⟨[(6,.ptr u 0),(5,.ptr 2 0),(4,.ptr 1 0),(2,.ptr 0 0)],bx⟩∧(bx[0]?=some (wJ d)∧bx[1]?=some VN∧bx[2]?=some [.bool blk,.nil])∧BQ bx∧aN bx=true∧(3<=u∧u ∉ I∧u≠q)∧bx[u]?=some (vN d kc L8)∧Rt d.root bx kc L8 q I∧∀(j:Nat) (z:List AV),bx[j]?=some z->j=u∨q ∉ AV.aA z
def G13 (d:Dc) (blk:Bool) (τ:aF):Prop:=∃(u:Nat) (kc:AV) (I:List Nat) (bx:List (List AV)),τ=⟨[(6,.ptr u 0),(5,.ptr 2 0),(4,.ptr 1 0),(2,.ptr 0 0)],bx⟩∧(bx[0]?=some (wJ d)∧bx[1]?=some VN∧bx[2]?=some [.bool blk,.nil])∧BQ bx∧aN bx=true∧(3<=u∧u ∉ I)∧bx[u]?=some (vN d kc (cr d.root.lead))∧fO bx d.root.kids kc I∧I.Nodup∧∀i ∈ I,3<=i
theorem aiV {d:Dc} {blk:Bool} (hn1:d.head.length<=10000000000) (hn2:d.jL.length<=10000000000) (hn3:lW d.root<=9000000000) (hn4:jT d.root<=9000000000):WQ Tryz.prog 35 (.region 2 (MN 2) true) ⟨[(5,.ptr 2 0),(4,.ptr 1 0),(2,.ptr 0 0)],[wJ d,VN,[.bool blk,.nil]]⟩ (fun e τ=>e=.normal∧F13 d blk τ):=by
 refine WQ.aeE (M:=M13 d blk) tok (fun D σ hall hM=>?_) (afj hn1 hn2 hn3 hn4) (fun D hD=>?_)
 ·obtain ⟨u,q,kc,L8,I,⟨p2,p4,p5⟩,hE,hb,hcl,hwb,g12,gz,gw,gr,gn,gq,g11⟩:=hM;obtain ⟨k1,k2,k3,k4⟩:=g12 (hall 12);obtain ⟨k5,k6⟩:=k4 (hall 10);refine ⟨⟨[(6,.ptr u 0),(5,.ptr 2 0),(4,.ptr 1 0),(2,.ptr 0 0)],σ.bx⟩,⟨rfl,fun j=>?_⟩,⟨rfl,hwb⟩,rfl,u,q,kc,L8,I,σ.bx,rfl,hb,hcl,hwb,⟨k2,k5,k6⟩,(gw (hall 13)).1,gr (hall 10),fun j z hz=>(gn (hall 10) j z hz).imp And.right id⟩;show get [(6,.ptr u 0),(5,.ptr 2 0),(4,.ptr 1 0),(2,.ptr 0 0)] j=_∨_;rw [bH,bH,bH,bH];by_cases h6:j=6
  ·subst h6;left;rw [if_pos rfl,k1]
  ·rw [if_neg h6];by_cases h5:j=5
   ·subst h5;left;rw [if_pos rfl,p5]
   ·rw [if_neg h5];by_cases h4:j=4
    ·subst h4;left;rw [if_pos rfl,p4]
    ·rw [if_neg h4];by_cases h2:j=2
     ·subst h2;left;rw [if_pos rfl,p2]
     ·rw [if_neg h2];right;rfl
 ·have hno:∀j,j<14->¬D j:=fun j hj hh=>by have:=(hD j).1 hh;have hs:(MN 2).size=14:=rfl;omega
  have hi0:AV.aA (wJ d)=[]:=jc (bn (qY d));have tX:∀(j:Nat) (z:List AV),[wJ d,VN,[AV.bool blk,AV.nil]][j]?=some z->AV.aA z=[]:=by
   intro j z hz;rcases j with _|_|_|j
   ·cases hz;exact hi0
   ·cases hz;rfl
   ·cases hz;rfl
   ·simp at hz
  refine ⟨0,0,.nil,.nil,[],⟨rfl,rfl,rfl⟩,fun e he h1 h2=>?_,⟨rfl,rfl,rfl⟩,fun z hz i hi=>?_,?_,fun hh=>absurd hh (hno 12 dE),fun hh=>absurd hh (hno 12 dE),fun hh=>absurd hh (hno 13 dE),fun hh=>absurd hh (hno 10 dE),fun hh=>absurd hh (hno 10 dE),fun _=>tX,fun hh=>absurd hh (hno 11 dE)⟩
  ·simp only [E13,List.mem_cons,List.not_mem_nil,or_false] at he;rcases he with rfl|rfl|rfl|rfl|rfl|rfl|rfl|rfl|rfl|rfl|rfl|rfl<;>exact absurd h1 (hno _ (by simp))
  ·obtain ⟨j,hj⟩:=List.getElem?_of_mem hz;rw [tX j z hj] at hi;cases hi
  ·rw [aN,dA (bZ (qY d))];rfl
theorem abO (f:Nat->Nat) (d:Dc):AV.aG f (wJ d)=wJ d:=by
 have h:AV.ids (.sl 0 (wJ d))=[]:=by rw [AV.ids];exact jc (bn (qY d))
 have:=xX.Ah (f:=f) h;rw [AV.bP] at this;injection this
theorem adv (f:Nat->Nat) (d:Dc) (kc:AV) (l:List Cm):AV.aG f (vN d kc (cr l))=vN d (AV.bP f kc) (cr l):=by have h2:AV.bP f (.sl d.jL.length (bM d.jL))=.sl d.jL.length (bM d.jL):=xX.Ah (Ig d.jL);have h3:AV.bP f (cr l)=cr l:=xX.Ah (nD l);simp only [vN,AV.aG,xX,h2,h3];simp only [AV.bP]
theorem NU {d:Dc} {kc:AV} (h:kc.one=true∧kc.flat=true∧wv kc=true∧kc.cO=kc) (l:List Cm):gG (vN d kc (cr l))=true:=dP.2 fun v hv=>by
 simp only [vN,List.mem_cons,List.not_mem_nil,or_false] at hv;rcases hv with rfl|rfl|rfl|rfl|rfl|rfl|rfl|rfl|rfl|rfl|rfl|rfl|rfl|rfl|rfl|rfl<;>first|exact ⟨h.1,h.2.2.1⟩|exact ⟨rfl,ay _⟩|exact ⟨rfl,dN _⟩|exact ⟨rfl,rfl⟩
theorem toG {d:Dc} {blk:Bool} {τ:aF} (h:F13 d blk τ):∃τ',Rx 0 τ τ'∧G13 d blk τ':=by
 obtain ⟨u,q,kc,L8,I,bx,rfl,⟨h0,h1,h2⟩,hcl,hwb,⟨hu3,huI,huq⟩,hu,hr,hno⟩:=h;obtain ⟨hk,hnd,hI,hL⟩:=hr;have hul:=(List.getElem?_eq_some_iff.1 hu).1;have hkc:=hk.kc;rcases hL with ⟨rfl,hl0,rfl⟩|⟨rfl,hq3,hql⟩
 ·
  have hlead:d.root.lead=[]:=List.eq_nil_of_length_eq_zero hl0;have hset:∀j,j≠u->(bx.set u (vN d kc (cr d.root.lead)))[j]?=bx[j]?:=fun j hj=>List.getElem?_set_ne fun e=>hj e.symm;refine ⟨⟨[(6,.ptr u 0),(5,.ptr 2 0),(4,.ptr 1 0),(2,.ptr 0 0)],bx.set u (vN d kc (cr d.root.lead))⟩,fun hσ=>Rx.wv (QQ.toB hu ?_) (WvT.same _) ⟨rfl,oG hσ.bx (NU hkc _)⟩ hσ,u,kc,I,_,rfl,⟨(hset 0 oM).trans h0,(hset 1 oM).trans h1,(hset 2 oM).trans h2⟩,hcl.set (fun i hi=>?_),oG hwb (NU hkc _),⟨hu3,huI⟩,List.getElem?_set_self hul,hk.fr (fun i hi=>hset i (fun e=>huI (e▸hi))),hnd,fun i hi=>(hI i hi).1⟩
  ·rw [hlead];exact .cons .refl (.cons .refl (.cons .refl (.cons .refl (.cons .refl (.cons .refl (.cons .refl (.cons .refl (.cons .refl (.cons .refl (.cons .refl (.cons Wv.lM (.cons .refl (.cons .refl (.cons .refl (.cons .refl .nil)))))))))))))))
  ·rw [Hf,nD,List.append_nil] at hi;exact hk.lt i (hk.ids i hi)
 ·
  have hqb:=(List.getElem?_eq_some_iff.1 hql).1;have hqI:q ∉ I:=fun hh=>(hI q hh).2 rfl;obtain ⟨uU,hbx2⟩:∃uU,uU=((bx.set u (vN d kc (cr d.root.lead))).eraseIdx q).map (AV.aG (dn q)):=⟨_,rfl⟩;have hget:∀j,uU[j]?=((bx.set u (vN d kc (cr d.root.lead)))[Fb q j]?).map (AV.aG (dn q)):=fun j=>by rw [hbx2,List.getElem?_map,qN]
  have hset:∀j,j≠u->(bx.set u (vN d kc (cr d.root.lead)))[j]?=bx[j]?:=fun j hj=>List.getElem?_set_ne fun e=>hj e.symm;have hself:(bx.set u (vN d kc (cr d.root.lead)))[u]?=some (vN d kc (cr d.root.lead)):=List.getElem?_set_self hul;have hlow:∀j,j<q->j≠u->uU[j]?=(bx[j]?).map (AV.aG (dn q)):=fun j hj hju=>by rw [hget j,show Fb q j=j from if_pos hj,hset j hju]
  have hlen2:uU.length=bx.length-1:=by rw [hbx2,List.length_map,List.length_eraseIdx,List.length_set,if_pos hqb]
  have agn:∀i ∈ AV.ids kc,i ∈ I:=hk.ids;have e0:uU[0]?=some (wJ d):=by rw [hlow 0 oM oM,h0];show some (AV.aG _ _)=_;rw [abO]
  have e1:uU[1]?=some VN:=by rw [hlow 1 oM oM,h1];rfl
  have e2:uU[2]?=some [.bool blk,.nil]:=by rw [hlow 2 oM oM,h2];rfl
  have eu:uU[dn q u]?=some (vN d (AV.bP (dn q) kc) (cr d.root.lead)):=by rw [hget,Ia huq,hself];show some (AV.aG _ _)=_;rw [adv]
  have tX:∀(j:Nat) (z:List AV),j≠q->(bx.set u (vN d kc (cr d.root.lead)))[j]?=some z->∀i ∈ AV.aA z,i≠q∧i<bx.length:=fun j z hjq hz i hi=>by
   by_cases hju:j=u
   ·rw [hju,hself] at hz;cases hz;rw [Hf,nD,List.append_nil] at hi;exact ⟨(hI i (agn i hi)).2,hk.lt i (agn i hi)⟩
   ·rw [hset j hju] at hz;refine ⟨fun e=>?_,hcl z (List.mem_of_getElem? hz) i hi⟩;rcases hno j z hz with h|h
    ·exact hju h
    ·exact h (e▸hi)
  have IZ:BQ uU:=by
   intro z hz i hi;obtain ⟨j,hj⟩:=List.getElem?_of_mem hz;rw [hget j] at hj;cases hy:(bx.set u (vN d kc (cr d.root.lead)))[Fb q j]? with
   |none=>rw [hy] at hj;cases hj
   |some y=>
    rw [hy] at hj;cases hj;obtain ⟨i0,k1,rfl⟩:=pG y hi;obtain ⟨k2,k3⟩:=tX _ y (Rl q j) hy i0 k1;rw [hlen2];unfold dn;split<;>omega
  have akJ:aN uU=true:=by rw [hbx2];refine aY.2 fun c hc=>?_;obtain ⟨z,hz,rfl⟩:=List.mem_map.1 hc;have hz2:=(List.eraseIdx_sublist _ q).subset hz;exact Gy (aY.1 (oG hwb (NU hkc _)) z hz2)
  have hq1:dn q (q-1)=q-1:=if_pos oM;have hq2:dn q q=q-1:=if_neg (Nat.lt_irrefl q);have hk2:fO uU d.root.kids (AV.bP (dn q) kc) (I.map (dn q)):=by
   refine fO.mv (b:=(bx.set u (vN d kc (cr d.root.lead))).set q (((bx.set u (vN d kc (cr d.root.lead)))[q-1]?).getD [])) (f:=dn q) (fun j z hj=>?_) (hk.fr fun i hi=>?_)
   ·by_cases hjq:j=q
    ·rw [hjq,List.getElem?_set_self (by rw [List.length_set];exact hqb)] at hj;cases hj;rw [hjq,hq2,hget,show Fb q (q-1)=q-1 from if_pos oM];have hlt:q-1<(bx.set u (vN d kc (cr d.root.lead))).length:=by rw [List.length_set];omega
     rw [List.getElem?_eq_getElem hlt];rfl
    ·rw [List.getElem?_set_ne (fun e=>hjq e.symm)] at hj;rw [hget,Ia hjq,hj];rfl
   ·rw [List.getElem?_set_ne (fun e:q=i=>hqI (by rw [e];exact hi))];exact hset i (fun e=>huI (e▸hi))
  have aem:∀i j,i≠q->j≠q->dn q i=dn q j->i=j:=fun i j h3 h4 h5=>by rw [←Ia h3,←Ia h4,h5]
  refine ⟨⟨[(6,.ptr (dn q u) 0),(5,.ptr 2 0),(4,.ptr 1 0),(2,.ptr 0 0)],uU⟩,fun hσ=>⟨⟨rfl,akJ⟩,fun {m lim bs w a} hbl H=>?_⟩,dn q u,AV.bP (dn q) kc,I.map (dn q),uU,rfl,⟨e0,e1,e2⟩,IZ,akJ,⟨?_,fun hm=>?_⟩,eu,hk2,?_,fun i hi=>?_⟩
  ·have hin:∀x ∈ vN d kc (cr d.root.lead),q ∉ AV.ids x:=fun x hx hxi=>by have hi:q ∈ AV.aA (vN d kc (cr d.root.lead)):=AV.jV.2 ⟨x,hx,hxi⟩;rw [Hf,nD,List.append_nil] at hi;exact hqI (agn q hi)
   have s1:q ∉ AV.aA ((vN d kc (cr d.root.lead)).take 11):=fun hh=>by obtain ⟨x,hx,hxi⟩:=AV.jV.1 hh;exact hin x (List.mem_of_mem_take hx) hxi
   have s2:q ∉ AV.aA ((vN d kc (cr d.root.lead)).drop 12):=fun hh=>by obtain ⟨x,hx,hxi⟩:=AV.jV.1 hh;exact hin x (List.mem_of_mem_drop hx) hxi
   have s3:∀(j:Nat) (y:List AV),bx[j]?=some y->j≠u->j≠q->q ∉ AV.aA y:=fun j y hj hju hjq hh=>by
    rcases hno j y hj with h|h
    ·exact hju h
    ·exact h hh
   have s4:∀k,q ∉ (Sl [(6,AV.ptr u 0),(5,.ptr 2 0),(4,.ptr 1 0),(2,.ptr 0 0)] a k).1.ids:=fun k hh=>by
    have hh':q ∈ (get [(6,AV.ptr u 0),(5,.ptr 2 0),(4,.ptr 1 0),(2,.ptr 0 0)] k).ids:=hh;rw [bH,bH,bH,bH] at hh';split at hh'
    ·rw [AV.ids,List.mem_singleton] at hh';exact huq hh'.symm
    ·split at hh'
     ·rw [AV.ids,List.mem_singleton] at hh';omega
     ·split at hh'
      ·rw [AV.ids,List.mem_singleton] at hh';omega
      ·split at hh'
       ·rw [AV.ids,List.mem_singleton] at hh';omega
       ·cases hh'
   obtain ⟨lim',H2,hfr⟩:=aB.unbox H (q:=q) (u:=u) (pre:=(vN d kc (cr d.root.lead)).take 11) (post:=(vN d kc (cr d.root.lead)).drop 12) (l:=eU d.root.lead) (e:=56) (z:=2) (n:=d.root.lead.length) hql hu huq (jM _) (Tu _) s1 s2 s3 s4;refine ⟨lim',bs.eraseIdx q,?_,hfr,fun i b hi=>absurd hi (Nat.not_lt_zero _)⟩;have hS:(fun k=>((Sl [(6,AV.ptr u 0),(5,.ptr 2 0),(4,.ptr 1 0),(2,.ptr 0 0)] a k).1.bP (dn q),(Sl [(6,AV.ptr u 0),(5,.ptr 2 0),(4,.ptr 1 0),(2,.ptr 0 0)] a k).2))=Sl [(6,AV.ptr (dn q u) 0),(5,.ptr 2 0),(4,.ptr 1 0),(2,.ptr 0 0)] a:=by
    funext k;unfold Sl;rw [bH,bH,bH,bH,bH,bH,bH,bH];split
    ·rfl
    ·split
     ·show (AV.ptr (dn q 2) 0,_)=_;rw [show dn q 2=2 from if_pos oM]
     ·split
      ·show (AV.ptr (dn q 1) 0,_)=_;rw [show dn q 1=1 from if_pos oM]
      ·split
       ·show (AV.ptr (dn q 0) 0,_)=_;rw [show dn q 0=0 from if_pos oM]
       ·rfl
   rw [hS] at H2;rw [hbx2];exact H2
  ·unfold dn;split<;>omega
  ·obtain ⟨j,hj,he⟩:=List.mem_map.1 hm;have:=aem j u (hI j hj).2 huq he;exact huI (this▸hj)
  ·refine List.Pairwise.map _ (fun a b hab=>hab) ?_;refine hnd.imp_of_mem fun {a b} ha hb hne he=>hne (aem a b (hI a ha).2 (hI b hb).2 he)
  ·obtain ⟨j,hj,rfl⟩:=List.mem_map.1 hi;have:=hI j hj;unfold dn;split<;>omega
theorem vP.Xu {P:Program} {f:Nat} {args:List AV} {S:AV->List (List AV)->Prop} {r0:AV} (h:vP P f args S) (hr:r0.isRow=false) (hS:∀r nb,S r nb->r.flat=true∧∃k,lh nb 0 k r=some r0):aV P f args [] r0 []:=by
 refine ⟨h.Og,Nat.le_refl _,fun lim bs w vs m hl hm H=>(h.call lim bs w vs m hl hm H).mono ?_⟩;rintro e w' ⟨r,nb,v,lim',bs',hSr,rfl,H1,hfr⟩;obtain ⟨hf,k,hk⟩:=hS r nb hSr;have hR:AV.R lim' bs' w' r v:=H1.slot 0;obtain ⟨g1,g2,g3⟩:=Aw H1 k hf hk hR;rw [List.take_zero] at g1;have wF:∀b,b ∉ bs'->vU lim' bs' 0 w' b=lim' b:=fun b hb=>by unfold vU;rw [if_neg (by rw [List.drop_zero];exact hb)]
 refine ⟨v,vU lim' bs' 0 w',[],rfl,aB.res (fun b hb=>?_) g1 (by rw [AV.top,g2];simp) (fun g h1=>by rw [hr] at h1;cases h1),?_,fun i hi=>absurd hi (Nat.not_lt_zero _)⟩
 ·rw [wF b (fun hb'=>by have:=lU H1 hb';omega)];exact H1.top b hb
 ·have h2:Fr m lim' w' (vU lim' bs' 0 w') w':=⟨Below.refl _ _,fun b hb hm'=>⟨rfl,wF b (fun hb'=>hm' (H1.mb b hb'))⟩,fun b _=>Dt H1 0 b,fun _ _ _ _=>rfl,fun b cur e p h=>⟨cur,h,rfl⟩⟩;exact hfr.trans h2
theorem Qa {g:AV->Option AV}:∀{a b a' b':List AV},oZ g a=some a'->oZ g b=some b'->oZ g (a++b)=some (a'++b')
 |[],b,a',b',h,h2=>by rw [oZ] at h;cases h;exact h2
 |x::a,b,a',b',h,h2=>by
  rw [oZ] at h;split at h
  ·rename_i y r hy hr;cases h;rw [List.cons_append,oZ,hy,Qa hr h2];rfl
  ·cases h
theorem gX {bx:List (List AV)} {n k:Nat} {v:AV} (h:v.pf=true):lh bx n (k+1) v=some v:=by unfold lh;rw [h]
theorem La (l:List Cm):(cs l).pf=true:=bn (ay l)
theorem agQ {bx:List (List AV)} {k:Nat} {x:Nd} {kc Za:AV} (hd:kc.cO=kc) (h:lh bx 0 (k+1) kc=some Za):oZ (lh bx 0 (k+1)) ((x.ce kc).l.map AV.cO)=some (x.ce Za).l:=by obtain ⟨k0,y,p,b,an,tg,tx,kids,lead,ag,hh,tr⟩:=x;show oZ (lh bx 0 (k+1)) [.int .i64 k0,.int .i64 y,.int .i64 p,.int .i64 b,.str an,.str tg,.str tx,kc.cO,cs lead,cs ag,.bool hh,.str tr]=some [.int .i64 k0,.int .i64 y,.int .i64 p,.int .i64 b,.str an,.str tg,.str tx,Za,cs lead,cs ag,.bool hh,.str tr];rw [hd];simp only [oZ,h,gX (La lead),gX (La ag),gX (v:=.int .i64 k0) rfl,gX (v:=.int .i64 y) rfl,gX (v:=.int .i64 p) rfl,gX (v:=.int .i64 b) rfl,gX (v:=.str an) rfl,gX (v:=.str tg) rfl,gX (v:=.str tx) rfl,gX (v:=.bool hh) rfl,gX (v:=.str tr) rfl]
mutual
theorem Y8 {bx:List (List AV)}:∀(x:Nd) {c:List AV} {I:List Nat},qw bx x c I->∃K,∀k,K<=k->oZ (lh bx 0 k) (c.map AV.cO)=some (YX x)
 |.mk k0 y p b an tg tx kids lead ag h tr,c,I,hh=>by
  obtain ⟨kc,rfl,hk⟩:=iW.1 hh;have hk0:=hk;replace hk:fO bx kids kc I:=hk;have key:∃K,∀k,K<=k->lh bx 0 k kc=some (.sl kids.length (aO kids)):=by
   rcases hk with ⟨g1,rfl,rfl⟩|⟨g1,q,cc,J,rfl,rfl,g2,g3⟩
   ·have hn:kids=[]:=List.eq_nil_of_length_eq_zero g1;refine ⟨1,fun k hk=>?_⟩;obtain ⟨k,rfl⟩:∃j,k=j+1:=⟨k-1,oM⟩;rw [hn];exact gX rfl
   ·obtain ⟨K,hK⟩:=IU kids g3;refine ⟨K+1,fun k hk=>?_⟩;obtain ⟨k,rfl⟩:∃j,k=j+1:=⟨k-1,oM⟩;unfold lh;rw [show (AV.dm q 35 12 kids.length).pf=false from rfl];simp only [];rw [g2];simp only [];have hlen:=g3.len;rw [if_pos ⟨Nat.zero_le _,by rw [hlen];exact Nat.le_refl _⟩,List.take_of_length_le (by rw [hlen];exact Nat.le_refl _),hK k oM];rfl
  obtain ⟨K,hK⟩:=key;refine ⟨K+1,fun k hk=>?_⟩;obtain ⟨k,rfl⟩:∃j,k=j+1:=⟨k-1,oM⟩;rw [agQ hk0.kc.2.2.2 (hK (k+1) oM),YX];rfl
theorem IU {bx:List (List AV)}:∀(l:List Nd) {c:List AV} {J:List Nat},fG bx l c J->∃K,∀k,K<=k->oZ (lh bx 0 k) (c.map AV.cO)=some (aO l)
 |[],c,J,h=>by obtain ⟨rfl,-⟩:=gY.1 h;exact ⟨0,fun k _=>rfl⟩
 |x::l,c,J,h=>by obtain ⟨c1,c2,J1,J2,rfl,-,h1,h2⟩:=dI.1 h;obtain ⟨K1,hK1⟩:=Y8 x h1;obtain ⟨K2,hK2⟩:=IU l h2;refine ⟨K1+K2,fun k hk=>?_⟩;rw [List.map_append,aO];exact Qa (hK1 k oM) (hK2 k oM)
end
theorem acg {bx:List (List AV)} {kids:List Nd} {kc:AV} {I:List Nat} (h:fO bx kids kc I):∃K,∀k,K<=k->lh bx 0 k kc=some (.sl kids.length (aO kids)):=by
 rcases h with ⟨g1,rfl,rfl⟩|⟨g1,q,cc,J,rfl,rfl,g2,g3⟩
 ·have hn:kids=[]:=List.eq_nil_of_length_eq_zero g1;refine ⟨1,fun k hk=>?_⟩;obtain ⟨k,rfl⟩:∃j,k=j+1:=⟨k-1,oM⟩;rw [hn];exact gX rfl
 ·obtain ⟨K,hK⟩:=IU kids g3;refine ⟨K+1,fun k hk=>?_⟩;obtain ⟨k,rfl⟩:∃j,k=j+1:=⟨k-1,oM⟩;unfold lh;rw [show (AV.dm q 35 12 kids.length).pf=false from rfl];simp only [];rw [g2];simp only [];have hlen:=g3.len;rw [if_pos ⟨Nat.zero_le _,by rw [hlen];exact Nat.le_refl _⟩,List.take_of_length_le (by rw [hlen];exact Nat.le_refl _),hK k oM];rfl
def Vq (d:Dc) (kc:AV):List AV:=[cs d.head,.sl d.jL.length (bM d.jL),.bool d.mark,.int .i64 d.root.k,.int .i64 d.root.y,.int .i64 d.root.p,.int .i64 d.root.b,.str d.root.an,.str d.root.tg,.str d.root.tx,kc,cs d.root.lead,cs d.root.ag,.bool d.root.h,.str d.root.tr,cs d.ag]
theorem agN {bx:List (List AV)} {d:Dc} {kc:AV} {I:List Nat} (h:fO bx d.root.kids kc I):∃k,lh bx 0 k (.agg (Vq d kc))=some (.agg (wJ d)):=by
 obtain ⟨K,hK⟩:=acg h;refine ⟨K+2,?_⟩;have e1:oZ (lh bx 0 (K+1)) (Vq d kc)=some (wJ d):=by have hs:(AV.sl d.jL.length (bM d.jL)).pf=true:=bn (dN _);simp only [Vq,wJ,oZ,hK (K+1) oM,gX (La d.head),gX hs,gX (La d.ag),gX (La d.root.lead),gX (La d.root.ag),gX (v:=.bool d.mark) rfl,gX (v:=.int .i64 d.root.k) rfl,gX (v:=.int .i64 d.root.y) rfl,gX (v:=.int .i64 d.root.p) rfl,gX (v:=.int .i64 d.root.b) rfl,gX (v:=.str d.root.an) rfl,gX (v:=.str d.root.tg) rfl,gX (v:=.str d.root.tx) rfl,gX (v:=.bool d.root.h) rfl,gX (v:=.str d.root.tr) rfl]
 unfold lh;split
 ·rename_i hp;have hn:kc.pf=true:=by have:AV.y8 (Vq d kc)=true:=hp;simp only [Vq,AV.y8,Bool.and_eq_true] at this;exact this.2.2.2.2.2.2.2.2.2.2.1
  have h2:=hK (K+1) oM;rw [gX hn] at h2;cases h2;rfl
 ·show (oZ (lh bx 0 (K+1)) (Vq d kc)).map AV.agg=_;rw [e1];rfl
end V
end
end Go.Proofs.YtlmjabnkjmfcmaaGreat
