/- Parts of a proof; no condition. -/
import Derived.Test.YtlmjabnkjmfcmaaGreatR39
import Derived.Lib.AtoiErrMem
namespace Go.Proofs.YtlmjabnkjmfcmaaGreat
open Go Go.RowKit Go.PlainAid
set_option linter.unusedVariables false
set_option linter.unusedSimpArgs false
set_option linter.unusedSectionVars false
set_option maxHeartbeats 20000000
set_option linter.defProp false
section
variable [nM]
set_option maxRecDepth 100000
namespace V
open Ab
open Bk (Cm)
def tl1 (c:Code):Code:=
 match c with
 |.seq _ t=>t
 |c=>c
theorem and_eq {a b:Bool} (h1:a=true) (h2:b=true):(a && b)=true:=by rw [h1,h2];rfl
def S13 (d:Dc) (r:AV) (nb:List (List AV)):Prop:=∃kc I,r=.agg (Vq d kc)∧fO nb d.root.kids kc I
def aqP:=fN 13 Tryz.f13 35 [.cell 4 37]
theorem Vp {d:Dc} {bx:List (List AV)} {kc:AV} {I:List Nat} (h:fO bx d.root.kids kc I):∀v ∈ Vq d kc,v.flat=true∧v.one=true∧wv v=true:=by
 have g:=h.kc;intro v hv;simp only [Vq,List.mem_cons,List.not_mem_nil,or_false] at hv;rcases hv with rfl|rfl|rfl|rfl|rfl|rfl|rfl|rfl|rfl|rfl|rfl|rfl|rfl|rfl|rfl|rfl<;>first|exact ⟨g.2.1,g.1,g.2.2.1⟩|exact ⟨Ea _,rfl,D9 _⟩|exact ⟨bK (dN _),rfl,dN _⟩|exact ⟨rfl,rfl,rfl⟩
theorem aiR {d:Dc} {kc:AV} {bx:List (List AV)} (h1:bx[1]?=some (Vq d kc)) (hk:kc.cO=kc):uO jJ 0 ⟨[(4,.ptr 1 0)],bx⟩ [.cell 4 37]=some [.agg (Vq d kc)]:=by
 have e1:Gi jJ 0 ⟨[(4,.ptr 1 0)],bx⟩ (.cell 4 37)=some (.agg (Vq d kc)):=by show (fK (bx[1]?) fun c=>_)=_;rw [h1];show some (AV.agg [_,_,_,_,_,_,_,_,_,_,kc.cO,_,_,_,_,_])=_;rw [hk];rfl
 unfold uO;rw [e1];rfl
theorem RD (blk:Bool) (x:Nd):(bJ blk [] [] x).2.length<=lW x:=by have:=GZ blk [] [] x;simp only [List.length_nil] at this;omega
theorem amu {D:Dc} {kc:AV} {I:List Nat} {b9:List (List AV)} (h9:b9[1]?=some (Vq D kc)) (hk:fO b9 D.root.kids kc I):zL jJ [.cell 4 37] 0 (S13 D) .ret ⟨[(4,.ptr 1 0)],b9⟩:=by refine ⟨.inr rfl,_,aiR h9 hk.kc.2.2.2,?_,Nat.zero_le _,kc,I,rfl,hk⟩;rw [iE,iE,Bool.and_true];show uX (Vq D kc)=true;exact jD.2 fun v hv=>Vp hk v hv
attribute [local irreducible] WQ
theorem afe {d:Dc} {blk:Bool} (hz:jT d.root<=3210000000) (hc:lW d.root+d.ag.length<=3210000000) (hev:Vj d.root=true) (htr:LU d.root=true) {u:Nat} {kc:AV} {I:List Nat} {bx:List (List AV)} (h0:bx[0]?=some (wJ d)) (h1:bx[1]?=some VN) (h2:bx[2]?=some [.bool blk,cs []]) (hcl:BQ bx) (hwb:aN bx=true) (hu3:3<=u) (huI:u ∉ I) (hu:bx[u]?=some (vN d kc (cr d.root.lead))) (hk:fO bx d.root.kids kc I) (hnd:I.Nodup) (hI:∀i ∈ I,3<=i):sV (tl2 (tl1 (Tryz.f13.body.getD .skip))) fun c=>WP Tryz.prog 35 0 c ⟨[(6,.ptr u 0),(5,.ptr 2 0),(4,.ptr 1 0),(2,.ptr 0 0)],bx⟩ (zL jJ [.cell 4 37] 0 (S13 (pF blk d))):=by
 obtain ⟨head,jL,mark,⟨k,y,p,bb,an,tg,tx,kids,lead,ag,h,tr⟩,yl⟩:=d;have B:=V.base (ae.cons (aoT (jT (.mk k y p bb an tg tx kids lead ag h tr))) (ae.cons abY ae.nil));have zE:Ev _ _ _ (au 13) [42] []:=⟨B⟩
 conv=>whnf
 repeat' (first
 |((with_reducible refine (?_:∃c:List AV,_∧_));refine ⟨_,(by first|exact hu4|exact h14|exact hu|exact h2|exact h0|exact h1),?_⟩;(conv=>whnf))
 |((with_reducible refine (?_:∃(blk:Bool),_));refine aH.get ?_)
 |refine nX ?_;conv=>whnf
 |with_reducible refine fun(hwr:wv _=true)(hwb:aN _=true)=>?_
 |(with_reducible refine fun(hw:aN _=true)=>?_);conv=>whnf
 |with_reducible assumption
 |((with_reducible intro h);exfalso;simp at h;done)
 |with_reducible refine And.intro ?_ ?_
 |exact cL
 |(with_reducible intro h);first|(try simp only [lG,reduceCtorEq] at h);first|done|(exfalso;omega)|replace h:=h trivial aZ|replace h:=h aZ|skip
 |fail)
 have hul:=(List.getElem?_eq_some_iff.1 hu).1;refine aH.mk ⟨blk,[],[cs head,.sl jL.length (bM jL),.bool mark],k,y,p,bb,an,tg,tx,kc,lead,ag,h,tr,[.nil],kids,I,⟨hwb,gB.mk fun j c hj hc i hi=>hcl c (List.mem_of_getElem? hc) i hi,h2,⟨hu,rfl⟩,hk,List.nodup_cons.2 ⟨fun e=>?_,List.nodup_cons.2 ⟨huI,hnd⟩⟩,⟨hev,htr⟩,Nat.le_refl _,(by simp only [List.length_nil];dsimp only at hc;omega),(by dsimp only at hz;omega)⟩,fun b3 hl3 DT hs3 ak9 hk3 hfr3=>?_⟩
 ·rcases List.mem_cons.1 e with e|e
  ·omega
  ·have:=hI 2 e;omega
 have h03:b3[0]?=some (wJ ⟨head,jL,mark,.mk k y p bb an tg tx kids lead ag h tr,yl⟩):=(hfr3 0 dE oM (fun e=>by have:=hI 0 e;omega)).trans h0;have h13:b3[1]?=some VN:=(hfr3 1 dE oM (fun e=>by have:=hI 1 e;omega)).trans h1;have hset:pF blk ⟨head,jL,mark,.mk k y p bb an tg tx kids lead ag h tr,yl⟩=⟨head,jL,mark,(bJ blk [] [] (.mk k y p bb an tg tx kids lead ag h tr)).1,(bJ blk [] [] (.mk k y p bb an tg tx kids lead ag h tr)).2++yl⟩:=rfl;have hcb:=RD blk (.mk k y p bb an tg tx kids lead ag h tr);rw [hset];generalize (bJ blk [] [] (.mk k y p bb an tg tx kids lead ag h tr)).1=x' at ak9 hk3⊢;generalize (bJ blk [] [] (.mk k y p bb an tg tx kids lead ag h tr)).2=c' at hs3 hcb⊢;obtain ⟨k',y',p',bb',an',X6,XV,kids',F5,F9,h',V7⟩:=x';have apt:b3[u]?=some [cs head,.sl jL.length (bM jL),.bool mark,.int .i64 k',.int .i64 y',.int .i64 p',.int .i64 bb',.str an',.str X6,.str XV,kc,cs F5,cs F9,.bool h',.str V7,.nil]:=ak9.1;replace h0:=h03;replace h1:=h13;replace h2:=hs3;replace hu:=apt;dsimp only at hc;have hk4:=hk3;have ak5:cs (c'++yl)=.sl (rY [c',yl]) (eU ([c',yl]:List (List Cm)).flatten):=by unfold cs;simp [rY]
 rcases hk3 with ⟨g1,rfl,rfl⟩|⟨g1,q,cc,J,rfl,rfl,g2,g3⟩
 ·skip
  conv=>whnf
  repeat' (first
  |((with_reducible refine (?_:∃c:List AV,_∧_));refine ⟨_,(by first|exact hu4|exact h14|exact hu|exact h2|exact h0|exact h1),?_⟩;(conv=>whnf))
  |refine nX ?_;conv=>whnf
  |with_reducible refine fun(hwr:wv _=true)(hwb:aN _=true)=>?_
  |(with_reducible refine fun(hw:aN _=true)=>?_);conv=>whnf
  |with_reducible assumption
  |((with_reducible intro h);exfalso;simp at h;done)
  |((with_reducible refine (?_:∃ts:List (List Cm),_∧_));refine ⟨[c',yl],⟨rfl,rfl⟩,⟨(by simp only [rY];omega),by simp⟩,?_⟩;(conv=>whnf))
  |((with_reducible refine gZ.mk (i:=u) ?_);intro b4 hl4 hu4 hr4;have h14:=(hr4 1 oM).trans h1;(conv=>whnf))
  |((with_reducible refine gZ.mk (i:=1) ?_);intro b9 xR h9 qA;(conv=>whnf))
  |(exact bn (qZ (ts:=[c',yl])))
  |with_reducible refine And.intro ?_ ?_
  |exact cL
  |(with_reducible intro h);first|(try simp only [lG,reduceCtorEq] at h);first|done|(exfalso;omega)|replace h:=h trivial aZ|replace h:=h aZ|skip
  |fail)
  ·exact .inr rfl
  ·exact FO
 ·skip
  conv=>whnf
  repeat' (first
  |((with_reducible refine (?_:∃c:List AV,_∧_));refine ⟨_,(by first|exact hu4|exact h14|exact hu|exact h2|exact h0|exact h1),?_⟩;(conv=>whnf))
  |refine nX ?_;conv=>whnf
  |with_reducible refine fun(hwr:wv _=true)(hwb:aN _=true)=>?_
  |(with_reducible refine fun(hw:aN _=true)=>?_);conv=>whnf
  |with_reducible assumption
  |((with_reducible intro h);exfalso;simp at h;done)
  |((with_reducible refine (?_:∃ts:List (List Cm),_∧_));refine ⟨[c',yl],⟨rfl,rfl⟩,⟨(by simp only [rY];omega),by simp⟩,?_⟩;(conv=>whnf))
  |((with_reducible refine gZ.mk (i:=u) ?_);intro b4 hl4 hu4 hr4;have h14:=(hr4 1 oM).trans h1;(conv=>whnf))
  |((with_reducible refine gZ.mk (i:=1) ?_);intro b9 xR h9 qA;(conv=>whnf))
  |(exact bn (qZ (ts:=[c',yl])))
  |with_reducible refine And.intro ?_ ?_
  |exact cL
  |(with_reducible intro h);first|(try simp only [lG,reduceCtorEq] at h);first|done|(exfalso;omega)|replace h:=h trivial aZ|replace h:=h aZ|skip
  |fail)
  ·exact .inr rfl
  ·exact FO
theorem ajV {d:Dc} {blk:Bool} (hz:jT d.root<=3210000000) (hc:lW d.root+d.ag.length<=3210000000) (hh:d.head.length<=60000) (hd:d.jL.length<=20000) (hev:Vj d.root=true) (htr:LU d.root=true):vP Tryz.prog 13 [.agg (wJ d),.bool blk] (fun r nb=>S13 (pF blk d) r nb∧wv r=true∧aN nb=true):=by
 refine aqP.okS (by rw [iE,iE,iE,Bool.and_true];exact and_eq (bZ (qY d)) rfl) ?_;have B:=V.base ae.nil
 conv=>whnf
 repeat' (first
 |((first|(with_reducible refine (?_:WQ _ _ (.seq (.region 1 _ _) _) _ _))|(with_reducible refine (?_:WQ _ _ (.seq (.region 0 _ _) _) _ _)));refine WQ.seq ?_)
 |((with_reducible refine (?_:WQ _ _ (.seq (.region 2 _ _) _) _ _));refine aH.get ?_)
 |with_reducible refine WP.seq ?_
 |(with_reducible first|refine Go.mk ?_|refine WP.qy B (au 13) ?_|refine WP.draw B (au 13) ?_|refine WP.cond ?_|refine WP.exit ?_|refine WP.skip ?_|refine WP.ret ?_);conv=>whnf
 |with_reducible refine WP.block ?_
 |with_reducible assumption
 |with_reducible refine And.intro ?_ ?_
 |exact cL
 |(with_reducible intro h);first|(try simp only [lG,reduceCtorEq] at h);first|done|(exfalso;omega)|replace h:=h trivial aZ|replace h:=h aZ|skip
 |fail)
 refine aH.mk ?_;refine WQ.aiJ ((aiV (d:=d) (blk:=blk) oM oM oM oM).mono ?_);rintro e τ ⟨rfl,hF⟩;refine ⟨rfl,?_⟩;obtain ⟨τ',hr,u,kc,I,bx,rfl,⟨h0,h1,h2⟩,hcl,hwb,⟨hu3,huI⟩,hu,hk,hnd,hI⟩:=toG hF;refine WQ.pJ hr ?_;refine WQ.of ?_;refine WP.CY h2 (x':=[.bool blk,cs []]) (.cons .refl (.cons (Wv.of Wk.wO) .nil)) rfl fun b2 hl2 h2' hr2=>?_;refine jW (afe hz hc hev htr ((hr2 0 dE).trans h0) ((hr2 1 dE).trans h1) h2' (hcl.facts hl2 h2' hr2 (fun i hi=>by rw [show AV.aA [AV.bool blk,cs []]=[] from rfl] at hi;cases hi)) ?_ hu3 huI ((hr2 u oM).trans hu) (hk.fr fun i hi=>hr2 i (by have:=hI i hi;omega)) hnd hI);refine aY.2 fun c hc2=>?_;obtain ⟨j,hj⟩:=List.getElem?_of_mem hc2;by_cases e:j=2
 ·rw [e,h2'] at hj;cases hj;rfl
 ·rw [hr2 j e] at hj;exact aY.1 hwb c (List.mem_of_getElem? hj)
end V
namespace V
open Ab
open Bk (Cm)
theorem ao5:az.OK Tryz.prog 13 c13:=by
 intro args bx K0 h;unfold c13 at h;split at h
 ·rename_i dc blk;obtain ⟨d,rfl,⟨hz,hc,hh,hd,hev,htr⟩,-⟩:=h;refine ⟨.agg (wJ (pF blk d)),[],(ajV (d:=d) (blk:=blk) hz hc hh hd hev htr).Xu rfl ?_,bZ (qY _),rfl,fun K hK=>?_⟩
  ·rintro r nb ⟨⟨kc,I,rfl,hk⟩,-,-⟩;exact ⟨zK fun v hv=>(Vp hk v hv).1,agN hk⟩
  ·obtain ⟨d',e1,-,hK⟩:=hK;have:=Vr e1;subst this;exact hK
 ·exact h.elim
theorem U5 {f:Nat} {args:List AV} (h:aV Tryz.prog f args [] (.bool true) []) {vs:List Value} {W:World} {lim:Nat->Nat} (ht:∀b,W.heap.size<=b->lim b=0) (hR:AV.Rs lim [] W args vs) (hf:AV.aj args=true):Calls Tryz.prog f vs.toArray W fun e W'=>e=.returned (.bool true)∧Below W.heap.size W W':=by
 have hl:=AV.gK hR;have hS:∀k,AV.R lim [] W (aS args vs k).1 (aS args vs k).2∧(aS args vs k).1.flat=true:=by
  intro k;show AV.R _ _ _ (args.getD k .bad) (vs.getD k undef)∧(args.getD k .bad).flat=true;rw [List.getD_eq_getElem?_getD,List.getD_eq_getElem?_getD];cases hx:args[k]? with
  |none=>exact ⟨oV _,rfl⟩
  |some x=>
   obtain ⟨v,h1,h2⟩:=mO hR hx;rw [h1];exact ⟨h2,fJ hf hx⟩
 have hno:∀p g,¬Ab.Own W [] [] (aS args vs) p g:=by
  intro p g hp;cases p with
  |t k=>
   obtain ⟨h1,-⟩:=hp;rw [nJ (hS k).2] at h1;cases h1
  |b i j=>obtain ⟨b,x,y,v,h1,-⟩:=hp;simp at h1
 have H:aB lim [] W [] (aS args vs) (fun b=>W.heap.size<=b):=
  ⟨rfl,List.nodup_nil,(fun b hb=>by cases hb),(fun b hb=>by cases hb),(fun i b x hi=>by simp at hi),fun k=>(hS k).1,fun k=>by rw [AV.top,(hS k).2];simp,ht,fun p g hp=>absurd hp (hno p g),fun p q g hp=>absurd hp (hno p g)⟩
 refine (h.call lim [] W vs _ hl (fun b hb=>hb) H).mono ?_;rintro e w' ⟨v,lim',bs',rfl,H',hfr,-⟩;have h0:=H'.slot 0;have h0':AV.R lim' bs' w' (.bool true) v:=h0;rw [AV.R] at h0';subst h0';exact ⟨rfl,hfr.bel.os,hfr.bel.tape,hfr.bel.output,hfr.bel.size,fun k hk=>(hfr.pV k hk oM).1⟩
theorem U7 {lim:Nat->Nat} {bs:List Nat} {w:World}:∀ks:List Int,AV.Rs lim bs w (kT ks) (ks.map fun k=>Value.int .i64 k)
 |[]=>by rw [kT,List.map_nil,AV.Rs];rfl
 |k::ks=>by have:=U7 (lim:=lim) (bs:=bs) (w:=w) ks;rw [kT] at this;rw [kT,List.map_cons,List.map_cons,AV.Rs];exact ⟨_,_,rfl,by rw [AV.R],this⟩
theorem aaM (b o j:Nat):(Addr.mk b o none).add j=⟨b,o+j,none⟩:=by
 unfold Addr.add;split
 ·rename_i h;rw [h];rfl
 ·rfl
theorem agb {W:World} {a:Option Addr} {n c:Nat} {zs:List Int} (h:(a=none∧n=0∧c=0∧zs=[])∨∃x,a=some x∧n<=c∧c<=maxLen∧zs.length=c∧(∀i,i<zs.length->W.cell? (x.add i)=some (.int .i64 (zs.getD i 0)))∧∀n ∈ zs,(Lit.int .i64 n).wf=true):∃(ks:List Int) (lim:Nat->Nat),ks.length=n∧(∀b,W.heap.size<=b->lim b=0)∧AV.R lim [] W (.sl n (kT ks)) (.slice a n c):=by
 rcases h with ⟨rfl,rfl,rfl,rfl⟩|⟨x,rfl,h1,h2,h3,h4,-⟩
 ·refine ⟨[],fun _=>0,rfl,fun _ _=>rfl,?_⟩;rw [AV.R];exact ⟨none,0,rfl,Nat.le_refl _,.inl rfl⟩
 ·by_cases hn:n=0
  ·subst hn;refine ⟨[],fun _=>0,rfl,fun _ _=>rfl,?_⟩;rw [AV.R];exact ⟨some x,c,rfl,h1,.inl rfl⟩
  ·have h0:=h4 0 oM;obtain ⟨b,o,p⟩:=x;rw [show (Addr.mk b o p).add 0=⟨b,o,p⟩ from rfl] at h0;obtain ⟨rfl,hb⟩:p=none∧b<W.heap.size:=by
    unfold World.cell? at h0;dsimp only at h0;split at h0
    ·rename_i cc e1 e2 hh;refine ⟨?_,dO hh⟩;cases p with
     |none=>rfl
     |some p=>simp at h0
    ·cases h0
   have hkl:(zs.take n).length=n:=by rw [List.length_take];omega
   refine ⟨zs.take n,fun b'=>if b'<W.heap.size then o+n else 0,hkl,fun b' hb'=>if_neg oM,?_⟩;rw [AV.R];refine ⟨some ⟨b,o,none⟩,c,rfl,h1,.inr ⟨b,o,rfl,hb,?_,qW (U7 (zs.take n)) fun j v hj=>?_⟩⟩
   ·rw [if_pos hb,kT,List.length_map,hkl];exact Nat.le_refl _
   ·rw [List.getElem?_map] at hj;cases hz:(zs.take n)[j]? with
    |none=>rw [hz] at hj;cases hj
    |some z=>
     rw [hz] at hj;cases hj;have hjl:=(List.getElem?_eq_some_iff.1 hz).1;rw [hkl] at hjl;have h5:=h4 j oM;rw [aaM] at h5;rw [h5];rw [List.getElem?_take,if_pos hjl] at hz;rw [List.getD_eq_getElem?_getD,hz];rfl
theorem ape {f:Nat} (h:az.OK Tryz.prog f c3) (s:ByteArray) (hs:s.size<=1000000000) {a:Option Addr} {n c:Nat} {zs:List Int} (blk:Bool) (W:World) (hi:(a=none∧n=0∧c=0∧zs=[])∨∃x,a=some x∧n<=c∧c<=maxLen∧zs.length=c∧(∀i,i<zs.length->W.cell? (x.add i)=some (.int .i64 (zs.getD i 0)))∧∀n ∈ zs,(Lit.int .i64 n).wf=true):Calls Tryz.prog f #[.string s,.slice a n c,.bool blk] W fun e W'=>e=.returned (.bool true)∧Below W.heap.size W W':=by
 obtain ⟨ks,lim,hk,ht,hR⟩:=agb hi;obtain ⟨r,bx',h1,-,-,h2⟩:=h [.str s,.sl n (kT ks),.bool blk] [] (fun _ _=>True) ⟨⟨ks,hk.symm,rfl⟩,trivial⟩;obtain ⟨rfl,rfl⟩:=h2 (fun r b=>r=.bool true∧b=[]) ⟨⟨ks,hk.symm,rfl⟩,rfl,rfl⟩;refine U5 (vs:=[.string s,.slice a n c,.bool blk]) h1 ht ?_ ?_
 ·rw [AV.Rs];refine ⟨_,_,rfl,by rw [AV.R];exact ⟨rfl,Nat.le_trans hs nM.lo⟩,?_⟩;rw [AV.Rs];refine ⟨_,_,rfl,hR,?_⟩;rw [AV.Rs];refine ⟨_,_,rfl,by rw [AV.R],?_⟩;rw [AV.Rs]
 ·have:=bK (Dz ks);simp only [AV.aj,AV.flat,this,Bool.and_self]
end V
end
namespace V
open Ab
theorem agZ (W:World):Calls Tryz.prog 10 #[] W fun e W'=>e=.returned (.bool true)∧Below W.heap.size W W':=
 @U5 ⟨true⟩ 10 [] (@QJ ⟨true⟩) [] W (fun _=>0) (fun _ _=>rfl) (by unfold AV.Rs;rfl) rfl
theorem abJ (s:ByteArray) (hs:¬s.size<=120) (hs0:s.size<=maxLen) (a:Option Addr) (n c:Nat) (blk:Bool) (W:World):Calls Tryz.prog 9 #[.string s,.slice a n c,.bool blk] W fun e W'=>e=.returned (.bool true)∧Below W.heap.size W W':=by
 unfold maxLen at hs0
 go_enter Tryz.func9,Tryz.ntmps9
 go_wp2_with (go_at_call 10;refine (agZ _).mono ?_;rintro e w' ⟨rfl,hb⟩)
 go_ret
 exact ⟨rfl,hb⟩
theorem lawR (s:ByteArray) (hs0:s.size<=maxLen) {a:Option Addr} {n c:Nat} {zs:List Int} (blk:Bool) (W:World) (hi:(a=none∧n=0∧c=0∧zs=[])∨∃x,a=some x∧n<=c∧c<=maxLen∧zs.length=c∧(∀i,i<zs.length->W.cell? (x.add i)=some (.int .i64 (zs.getD i 0)))∧∀n ∈ zs,(Lit.int .i64 n).wf=true):Calls Tryz.prog 9 #[.string s,.slice a n c,.bool blk] W fun e W'=>e=.returned (.bool true)∧Below W.heap.size W W':=by
 by_cases hs:s.size<=120
 ·exact @ape ⟨true⟩ 9 (@ok9 ⟨true⟩ dE (@ao5 ⟨true⟩)) s (Nat.le_trans hs dE) a n c zs blk W hi
 ·exact abJ s hs hs0 a n c blk W
end V
end Go.Proofs.YtlmjabnkjmfcmaaGreat
