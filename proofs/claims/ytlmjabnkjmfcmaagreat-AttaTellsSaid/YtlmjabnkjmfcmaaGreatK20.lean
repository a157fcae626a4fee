/- Own texts, joined and shortened by a program; no condition. -/
import Derived.Test.YtlmjabnkjmfcmaaGreatK19
namespace Go.Proofs.YtlmjabnkjmfcmaaGreat
open Go Go.RowKit Go.PlainAid
set_option linter.unusedVariables false
set_option linter.unusedSimpArgs false
set_option maxHeartbeats 20000000
set_option linter.defProp false
section
set_option maxRecDepth 100000
namespace V
open Ab
open Bk (Cm)
theorem jl.Z5 {n s b q:Nat} {bx bx':List (List AV)} {zs zb zb' zq zq':List AV} (h:jl n bx) (ho:∀j,j≠s->j≠b->j≠q->bx'[j]?=bx[j]?) (hs:bx'[s]?=some zs) (is:AV.aN zs=[]) (hb:bx[b]?=some zb) (hb':bx'[b]?=some zb') (ib:∀i ∈ AV.aN zb',i ∈ AV.aN zb) (hq:bx[q]?=some zq) (hq':bx'[q]?=some zq') (iq:∀i ∈ AV.aN zq',i ∈ AV.aN zq):jl n bx':=.mk fun j z hj hz i hi=>by
 by_cases e1:j=s
 ·subst e1;rw [hs] at hz;cases hz;rw [is] at hi;cases hi
 ·by_cases e2:j=b
  ·subst e2;rw [hb'] at hz;cases hz;exact h.out j _ hj hb i (ib i hi)
  ·by_cases e3:j=q
   ·subst e3;rw [hq'] at hz;cases hz;exact h.out j _ hj hq i (iq i hi)
   ·rw [ho j e1 e2 e3] at hz;exact h.out j z hj hz i hi
theorem Ce.sD {x x':Ce} {pre post:List AV} (hk:x'.kc=x.kc) (h1:AV.ids x'.lc=[]) (h2:AV.ids x'.fc=[]):∀i ∈ AV.aN (pre++(x'.l++post)),i ∈ AV.aN (pre++(x.l++post)):=by
 intro i hi;rw [dA,dA,oN,h1,h2,hk] at hi;rw [dA,dA,oN];simp only [List.mem_append,List.append_nil] at hi⊢;rcases hi with hi|hi|hi
 ·exact .inl hi
 ·exact .inr (.inl (.inl hi))
 ·exact .inr (.inr hi)
theorem eQ.of {bx:List (List AV)} {q n:Nat} {z:Nd} {zs:List Nd} {U9:AV} {z2:List AV} {J1 J2:List Nat} (hn:(z::zs).length=n) (hq:bx[q]?=some ((z.ce U9).l++z2)) (hk:eQ bx z.kids U9 J1) (hz:eF bx zs z2 J2):eQ bx (z::zs) (.bU q 35 12 n) (q::(J1++J2)):=by subst hn;exact .inr ⟨by simp,q,_,J1++J2,rfl,rfl,hq,dm.2 ⟨_,z2,J1,J2,rfl,rfl,gF.2 ⟨U9,rfl,hk⟩,hz⟩⟩
theorem MF (blk:Bool) (l:List Cm):AV.aN [.bool blk,cs l]=[]:=by rw [AV.aN,AV.aN,AV.aN,dM];rfl
theorem ae9 {m s b o:Nat} {blk:Bool} {c:List Cm} {pre post:List AV} {k y p bb:Int} {an tg tx tr:ByteArray} {kc:AV} {lead ae:List Cm} {hh:Bool} {kids:List Nd} {I:List Nat} {bx:List (List AV)} (hk:¬(k=3∨k=4)) (hw:aV bx=true) (hcl:jl bx.length bx) (hs:bx[s]?=some [.bool blk,cs c]) (hx:wZ bx b o pre ⟨k,y,p,bb,an,tg,tx,kc,cr lead,cs ae,hh,tr⟩ post) (hki:eQ bx kids kc I) (hsb:s≠b) (hbI:b ∉ I):
  ∃r bx',aW Tryz.prog 42 [.ptr s 0,.ptr b o] bx r bx'∧wv r=true∧aV bx'=true∧∀K,Om (m+1) [.ptr s 0,.ptr b o] bx K->K r bx':=by
 have hb:bx[b]?=some (pre++(.int .i64 k::.int .i64 y::.int .i64 p::.int .i64 bb::.str an::.str tg::.str tx::kc::cr lead::cs ae::.bool hh::.str tr::post)):=hx.1;have ho:=hx.2;have hs0:=hs;have hb0:=hb;refine abI.U8 rfl hw ?_;have B:=V.base (af.nil);have zE:Ev _ _ _ (aH 42) [] []:=⟨B⟩
 conv=>whnf
 repeat' (first
 |((with_reducible refine (?_:∃c:List AV,_∧_));refine ⟨_,(by first|exact hb|exact hs),?_⟩;(conv=>whnf))
 |((with_reducible refine (?_:∃(blk:Bool),_));refine aR.get ?_)
 |refine nX ?_;conv=>whnf
 |(with_reducible refine (?_:wv _=true->aV _=true->_));intro hwr hwb
 |(with_reducible refine (?_:aV _=true->_));intro hw;conv=>whnf
 |with_reducible assumption
 |((with_reducible intro h);exfalso;simp at h;done)
 |(first|with_reducible refine aX ho ?_|with_reducible refine aQ ho ?_|with_reducible refine aD ho ?_|with_reducible refine ay ho ?_|with_reducible refine az ?_);conv=>whnf
 |with_reducible refine And.intro ?_ ?_
 |exact cL
 |(with_reducible intro h);first|(cases h;done)|(try simp only [lG,reduceCtorEq] at h);first|done|(exfalso;omega)|replace h:=h trivial aZ|replace h:=h aZ|skip
 |fail)
 all_goals
  refine ag.node hwb hx (Wk.cr _) (.refl _) fun b2 hw2 hl2 hx2 hr2=>?_;replace hl2:b2.length=bx.length:=hl2;replace hr2:∀j,j≠b->b2[j]?=bx[j]?:=hr2;refine ag.mk hwr hw2 fun K hK=>?_;refine JW hK hs0 hx hki (zF hk) oM (hcl.KR (q:=b) (fun j _ hne=>hr2 j hne) hb0 hx2.1 (fun i hi=>?_)) ((hr2 s hsb).trans hs) ⟨by rw [List.nil_append];exact hx2.1,ho⟩ (hki.fr fun i hi=>hr2 i (fun e=>hbI (e▸hi))) (fun j g1 g2 _=>hr2 j g2);rw [dA,dA,oN] at hi;simp only [dM,List.append_nil] at hi;rw [dA];simpa only [AV.aN,AV.ids,dM,kS,List.nil_append,List.append_nil] using hi
theorem afb {m s b o q:Nat} (h71:aC.OK Tryz.prog 71 (Zw m)) {blk:Bool} {c:List Cm} {pre post:List AV} {k y p bb:Int} {an tg tx tr:ByteArray} {lead ae:List Cm} {hh:Bool} {kids:List Nd} {cc:List AV} {J:List Nat} {bx:List (List AV)} (hk:k=3∨k=4) (hyb:(y=7∧blk=true)∨(y=7∧blk=false)∨y=6) (hw:aV bx=true) (hcl:jl bx.length bx) (hs:bx[s]?=some [.bool blk,cs c]) (hx:wZ bx b o pre ⟨k,y,p,bb,an,tg,tx,.bU q 35 12 kids.length,cr lead,cs ae,hh,tr⟩ post) (hq:bx[q]?=some cc) (hF:eF bx kids cc J) (hnd:(s::b::q::J).Nodup)
  (hpos:0<kids.length) (he:k=3∨k=4∧kids.length % 2=0) (hev:uK kids=true) (htr:zD kids=true) (hht:(hh||decide (tr=ByteArray.empty))=true) (hm:bS kids<=m) (hn:c.length+(lead.length+cK kids+ae.length+(kg hh tr).length)<=9000000000) (hz:bS kids<=9000000000):
  ∃r bx',aW Tryz.prog 42 [.ptr s 0,.ptr b o] bx r bx'∧wv r=true∧aV bx'=true∧∀K,Om (m+1) [.ptr s 0,.ptr b o] bx K->K r bx':=by
 have hb:bx[b]?=some (pre++(.int .i64 k::.int .i64 y::.int .i64 p::.int .i64 bb::.str an::.str tg::.str tx::.bU q 35 12 kids.length::cr lead::cs ae::.bool hh::.str tr::post)):=hx.1;have ho:=hx.2;have hs0:=hs;have hb0:=hb;have hq0:=hq;have abo:=hnd;rw [List.nodup_cons,List.nodup_cons,List.nodup_cons] at hnd;obtain ⟨n1,n2,n3,hnJ⟩:=hnd;have hsb:s≠b:=fun e=>n1 (by rw [e];exact List.mem_cons_self);have zu:s≠q:=fun e=>n1 (by rw [e];exact List.mem_cons_of_mem _ List.mem_cons_self);have hsJ:s ∉ J:=fun e=>n1 (List.mem_cons_of_mem _ (List.mem_cons_of_mem _ e));have hbq:b≠q:=fun e=>n2 (by rw [e];exact List.mem_cons_self);have Pj:b ∉ J:=fun e=>n2 (List.mem_cons_of_mem _ e);have hJl:=hF.lt;have hbl:=(List.getElem?_eq_some_iff.1 hb).1;have hsl:=(List.getElem?_eq_some_iff.1 hs).1;have Gz:=(List.getElem?_eq_some_iff.1 hq).1;have hzl:=sw kids;have hki:eQ bx kids (.bU q 35 12 kids.length) (q::J):=.inr ⟨hpos,q,cc,J,rfl,rfl,hq,hF⟩;refine abI.U8 rfl hw ?_;have B:=V.base (af.cons h71 (af.cons aaL (af.cons V5 af.nil)));have zE:Ev _ _ _ (aH 42) [71] [72]:=⟨B⟩;rcases hyb with ⟨rfl,rfl⟩|⟨rfl,rfl⟩|rfl
 ·have hn43:∀c5:List Cm,c5.length<=c.length+cK kids->oF [c5,ae,kg hh tr]<=10000000000:=fun c5 h=>by simp only [oF];omega
  have hoff:Ce.off (Ce.mk k 6 p bb an tg tx (.bU q 35 12 kids.length) (cr lead) (cs ae) hh tr)=⟨k,6,p,bb,an,tg,tx,.bU q 35 12 kids.length,cr lead,cs ae,false,ByteArray.empty⟩:=by
   cases hh with
   |true=>rfl
   |false=>
    simp only [Bool.false_or,decide_eq_true_eq] at hht;rw [hht];rfl
  conv=>whnf
  repeat' (first
  |((with_reducible refine (?_:∃c:List AV,_∧_));refine ⟨_,(by first|exact hb|exact hq|exact hs),?_⟩;(conv=>whnf))
  |((with_reducible refine (?_:∃(blk:Bool),_));refine aR.get ?_)
  |((with_reducible refine (?_:_∧jl _ _∧_));refine aR.get ?_)
  |refine nX ?_;conv=>whnf
  |(with_reducible refine (?_:wv _=true->aV _=true->_));intro hwr hwb
  |(with_reducible refine (?_:aV _=true->_));intro hw;conv=>whnf
  |with_reducible assumption
  |((with_reducible intro h);exfalso;simp at h;done)
  |(first|with_reducible refine aX ho ?_|with_reducible refine aQ ho ?_|with_reducible refine aD ho ?_|with_reducible refine ay ho ?_|with_reducible refine az ?_);conv=>whnf
  |with_reducible refine And.intro ?_ ?_
  |exact cL
  |(with_reducible intro h);first|(cases h;done)|(try simp only [lG,reduceCtorEq] at h);first|done|(exfalso;omega)|replace h:=h trivial aZ|replace h:=h aZ|skip
  |fail)
  all_goals
   refine aR.mk ⟨true,c,pre,k,7,p,bb,an,tg,tx,q,cr lead,cs ae,hh,tr,post,kids,cc,J,⟨hw,hcl,hs,hx,hq,hF,abo,he,⟨hev,htr⟩,hm,oM,hz⟩,?_⟩;clear hs hq hb;have hRl:=zP (blk:=true) (k:=k) (c:=c) (kids:=kids);have TC:=zR (blk:=true) (k:=k) (c:=c) (kids:=kids);have hset:=Cn (blk:=true) (c:=c) (y:=7) (p:=p) (b:=bb) (an:=an) (tg:=tg) (tx:=tx) (lead:=lead) (ae:=ae) (h:=hh) (tr:=tr) hk hpos;generalize hR:lX true k c kids=R at hRl TC hset;obtain ⟨kl,c5⟩:=R;intro b5 cc5 hl5 mX hs hq TF yR;replace hs:b5[s]?=some [.bool true,cs c5]:=hs;replace TF:eF b5 kl cc5 J:=TF;replace hl5:b5.length=bx.length:=hl5;replace mX:jl bx.length b5:=mX;replace yR:∀j,j≠s->j≠q->j ∉ J->b5[j]?=bx[j]?:=yR;have hb:=(yR b (Ne.symm hsb) hbq Pj).trans hb0;simp only at hRl TC hset;rcases kl with _|⟨zz,zs⟩
   ·rw [List.length_nil] at hRl;omega
   obtain ⟨z1,z2,J1,J2,rfl,rfl,hZ,hZs⟩:=dm.1 TF;obtain ⟨kz,yz,pz,qz,UL,QO,QC,LD,yK,vw,hz1,QG⟩:=zz;obtain ⟨U9,rfl,hkz⟩:=gF.1 hZ;rw [cK,iI] at TC;have hs5:=hs;have hb5:=hb;have hq5:=hq;have hl:b5.length=bx.length:=hl5;have hag:∀j,j≠s->j≠b->j≠q->b5[j]?=b5[j]?:=fun _ _ _ _=>rfl
   conv=>whnf
   repeat' (first
   |((with_reducible refine (?_:∃c:List AV,_∧_));refine ⟨_,(by first|exact hb|exact hq|exact hs),?_⟩;(conv=>whnf))
   |((with_reducible refine (?_:∃(blk:Bool),_));refine aR.get ?_)
   |((with_reducible refine (?_:_∧jl _ _∧_));refine aR.get ?_)
   |refine nX ?_;conv=>whnf
   |(with_reducible refine (?_:wv _=true->aV _=true->_));intro hwr hwb
   |(with_reducible refine (?_:aV _=true->_));intro hw;conv=>whnf
   |with_reducible assumption
   |((with_reducible intro h);exfalso;simp at h;done)
   |((with_reducible refine (?_:FT _ _));refine FT.mld (by simp only [List.length_append];rfl) ?_;rw [jW ho,jW ho];rfl)
   |((with_reducible refine gQ.mk (i:=b) ?_);intro b1 hl1 hb hr1;replace hl:=hl1.trans hl;replace hs:=(hr1 s hsb).trans hs;replace hq:=(hr1 q (Ne.symm hbq)).trans hq;replace hag:=(fun j g1 g2 g3=>(hr1 j g2).trans (hag j g1 g2 g3));(conv=>whnf))
   |((with_reducible refine gQ.mk (i:=s) ?_);intro b1 hl1 hs hr1;replace hl:=hl1.trans hl;replace hb:=(hr1 b (Ne.symm hsb)).trans hb;replace hq:=(hr1 q (Ne.symm zu)).trans hq;replace hag:=(fun j g1 g2 g3=>(hr1 j g1).trans (hag j g1 g2 g3));(conv=>whnf))
   |((with_reducible refine gQ.mk (i:=q) ?_);intro b1 hl1 hq hr1;replace hl:=hl1.trans hl;replace hs:=(hr1 s zu).trans hs;replace hb:=(hr1 b hbq).trans hb;replace hag:=(fun j g1 g2 g3=>(hr1 j g3).trans (hag j g1 g2 g3));(conv=>whnf))
   |(first|with_reducible refine aX ho ?_|with_reducible refine aQ ho ?_|with_reducible refine aD ho ?_|with_reducible refine ay ho ?_|with_reducible refine az ?_);conv=>whnf
   |with_reducible refine And.intro ?_ ?_
   |exact cL
   |(with_reducible intro h);first|(cases h;done)|(try simp only [lG,reduceCtorEq] at h);first|done|(exfalso;omega)|replace h:=h trivial aZ|replace h:=h aZ|skip
   |fail)
   replace hl:b1.length=bx.length:=hl;replace hag:∀j,j≠s->j≠b->j≠q->b1[j]?=b5[j]?:=hag;replace hr1:∀j,j≠b->b1[j]?=b5[j]?:=hr1;replace hb:b1[b]?=some (pre++((Ce.mk k 6 p bb an tg tx (.bU q 35 12 kids.length) (cr lead) (cs ae) hh tr).l++post)):=hb;have Pm:b5[b]?=some (pre++((Ce.mk k 7 p bb an tg tx (.bU q 35 12 kids.length) (cr lead) (cs ae) hh tr).l++post)):=hb5;have Tv:jl bx.length b1:=mX.KR (q:=b) (fun j _ hne=>hr1 j hne) Pm hb (Ce.sD rfl (kS _) (dM _));have hbo:=hb;have hso:=hs;have hqo:=hq;refine aR.mk ⟨by show bx.length<=b1.length;omega,Tv,?_⟩
   conv=>whnf
   refine ⟨wR.ptr hbl,?_⟩;intro b0 hl0 hr0 hw0;replace hr0:∀j,j<bx.length->b0[j]?=b1[j]?:=hr0;replace hl0:b0.length=bx.length:=hl0
   conv=>whnf
   refine ⟨pre,_,post,⟨hw0,(hr0 b hbl).trans hbo,ho⟩,?_⟩;intro b7 hl7 hx7 Y5;refine ⟨hl7.trans hl0,?_⟩;intro b8 Y6 yM ug;replace Y6:b8.length=b1.length:=Y6;replace yM:∀j,j<bx.length->b8[j]?=b7[j]?:=yM;clear hs hb hq;rw [hoff] at hx7;have hb:=(yM b hbl).trans hx7.1;have hs:=(yM s hsl).trans ((Y5 s hsb).trans ((hr0 s hsl).trans hso));have hq:=(yM q Gz).trans ((Y5 q (Ne.symm hbq)).trans ((hr0 q Gz).trans hqo));have ak9:∀j,j≠s->j≠b->j≠q->b8[j]?=b5[j]?:=fun j g1 g2 g3=>by
    by_cases hjl:j<bx.length
    ·exact (yM j hjl).trans ((Y5 j g2).trans ((hr0 j hjl).trans (hag j g1 g2 g3)))
    ·rw [List.getElem?_eq_none oM,List.getElem?_eq_none oM]
   replace hl:b8.length=bx.length:=oM;clear hag;have hag:=ak9;clear hr1 hl1
   conv=>whnf
   repeat' (first
   |((with_reducible refine (?_:∃c:List AV,_∧_));refine ⟨_,(by first|exact hb|exact hq|exact hs),?_⟩;(conv=>whnf))
   |((with_reducible refine (?_:∃(blk:Bool),_));refine aR.get ?_)
   |((with_reducible refine (?_:_∧jl _ _∧_));refine aR.get ?_)
   |refine nX ?_;conv=>whnf
   |(with_reducible refine (?_:wv _=true->aV _=true->_));intro hwr hwb
   |(with_reducible refine (?_:aV _=true->_));intro hw;conv=>whnf
   |with_reducible assumption
   |((with_reducible intro h);exfalso;simp at h;done)
   |((with_reducible refine (?_:FT _ _));refine FT.mld (by simp only [List.length_append];rfl) ?_;rw [jW ho,jW ho];rfl)
   |((with_reducible refine gQ.mk (i:=b) ?_);intro b1 hl1 hb hr1;replace hl:=hl1.trans hl;replace hs:=(hr1 s hsb).trans hs;replace hq:=(hr1 q (Ne.symm hbq)).trans hq;replace hag:=(fun j g1 g2 g3=>(hr1 j g2).trans (hag j g1 g2 g3));(conv=>whnf))
   |((with_reducible refine gQ.mk (i:=s) ?_);intro b1 hl1 hs hr1;replace hl:=hl1.trans hl;replace hb:=(hr1 b (Ne.symm hsb)).trans hb;replace hq:=(hr1 q (Ne.symm zu)).trans hq;replace hag:=(fun j g1 g2 g3=>(hr1 j g1).trans (hag j g1 g2 g3));(conv=>whnf))
   |((with_reducible refine gQ.mk (i:=q) ?_);intro b1 hl1 hq hr1;replace hl:=hl1.trans hl;replace hs:=(hr1 s zu).trans hs;replace hb:=(hr1 b hbq).trans hb;replace hag:=(fun j g1 g2 g3=>(hr1 j g3).trans (hag j g1 g2 g3));(conv=>whnf))
   |((with_reducible refine (?_:l6 _ _ _ _));first|(refine l6.ld hsl hso ((yM s hsl).trans ((Y5 s hsb).trans ((hr0 s hsl).trans hso))) rfl rfl)|(refine l6.ld hbl hbo ((yM b hbl).trans hx7.1) (by simp only [List.length_append];rfl) ?_;rw [jW ho,jW ho];rfl))
   |((with_reducible refine (?_:∃ts:List (List Cm),_∧_));refine ⟨[c5,ae,kg hh tr],⟨rfl,rfl⟩,⟨hn43 c5 oM,by simp⟩,?_⟩;(conv=>whnf))
   |(exact bE (nS (ts:=[c5,ae,kg hh tr])))
   |(first|with_reducible refine aX ho ?_|with_reducible refine aQ ho ?_|with_reducible refine aD ho ?_|with_reducible refine ay ho ?_|with_reducible refine az ?_);conv=>whnf
   |with_reducible refine And.intro ?_ ?_
   |exact cL
   |(with_reducible intro h);first|(cases h;done)|(try simp only [lG,reduceCtorEq] at h);first|done|(exfalso;omega)|replace h:=h trivial aZ|replace h:=h aZ|skip
   |fail)
   replace hl:b1.length=bx.length:=hl;replace hag:∀j,j≠s->j≠b->j≠q->b1[j]?=b5[j]?:=hag;replace hs:b1[s]?=some ([.bool true]++ .row 56 2 (oF [c5,ae,kg hh tr]) (fQ [c5,ae,kg hh tr].flatten)::[]):=hs;rw [T9] at hs;have hx1:wZ b1 b o pre ⟨k,6,p,bb,an,tg,tx,.bU q 35 12 kids.length,.row 56 2 (lead.length+yK.length) (fQ lead++fQ yK),.nil,false,ByteArray.empty⟩ post:=⟨hb,ho⟩;have hx2:wZ b1 q 0 [] ⟨kz,yz,pz,qz,UL,QO,QC,U9,.nil,cs vw,hz1,QG⟩ z2:=⟨hq,rfl⟩;rw [Ad] at hx1;refine ag.node (l2:=[]) hwb hx1 (Wk.cr _) Wk.sK fun b2 hw2 hl2 hx3 hr2=>?_;replace hl2:b2.length=b1.length:=hl2;replace hr2:∀j,j≠b->b2[j]?=b1[j]?:=hr2;refine ag.node (l1:=[]) hw2 (⟨(hr2 q (Ne.symm hbq)).trans hx2.1,rfl⟩:wZ b2 q 0 [] ⟨kz,yz,pz,qz,UL,QO,QC,U9,.nil,cs vw,hz1,QG⟩ z2) Wk.sK (.refl _) fun b3 hw3 hl3 hx4 hr3=>?_;replace hl3:b3.length=b2.length:=hl3;refine ag.cell hw3 (x:=cr (c5++ae++kg hh tr)) (y:=cs (c5++ae++kg hh tr)) ((hr3 s zu).trans ((hr2 s hsb).trans hs)) (Wk.cr _) (vD _) fun bf hw4 hl4 hs4 hr4=>?_;replace hl4:bf.length=b3.length:=hl4;refine ag.mk hwr hw4 fun K hK=>?_;have hR2:aL true [] c (.mk k 7 p bb an tg tx kids lead ae hh tr)=(.mk k 6 p bb an tg tx (.mk kz yz pz qz UL QO QC LD [] vw hz1 QG::zs) (lead++yK) [] false ByteArray.empty,c5++ae++kg hh tr):=by rw [hset];simp [bC,mK,Nd.ld,Nd.lead]
   have om:∀j,j≠s->j≠b->j≠q->bf[j]?=b5[j]?:=fun j g1 g2 g3=>(hr4 j g1).trans ((hr3 j g3).trans ((hr2 j g2).trans (hag j g1 g2 g3)));have hxf:bf[b]?=_:=(hr4 b (Ne.symm hsb)).trans ((hr3 b hbq).trans hx3.1);have hqf:bf[q]?=_:=(hr4 q (Ne.symm zu)).trans hx4.1;have hsf:bf[s]?=some [.bool true,cs (c5++ae++kg hh tr)]:=hs4;have hJs:∀i ∈ J1++J2,bf[i]?=b5[i]?:=fun i hi=>om i (fun e=>hsJ (e▸hi)) (fun e=>Pj (e▸hi)) (fun e=>n3 (e▸hi));refine JW hK hs0 hx hki hR2 oM (mX.Z5 om hsf (MF _ _) Pm hxf (Ce.sD rfl (dM _) (dM _)) hq5 hqf (Ce.sD (pre:=[]) rfl (dM _) (dM _))) hsf ⟨hxf,ho⟩ (eQ.of (z:=.mk kz yz pz qz UL QO QC LD [] vw hz1 QG) (by rw [←hRl];rfl) hqf (hkz.fr fun i hi=>hJs i (List.mem_append_left _ hi)) (hZs.fr fun i hi=>hJs i (List.mem_append_right _ hi))) (fun j g1 g2 g3=>(om j g1 g2 (fun e=>g3 (by rw [e];exact List.mem_cons_self))).trans (yR j g1 (fun e=>g3 (by rw [e];exact List.mem_cons_self)) (fun e=>g3 (List.mem_cons_of_mem _ e))))
 ·have hn43:∀c5:List Cm,c5.length<=c.length+cK kids->oF [c5,ae]<=10000000000:=fun c5 h=>by simp only [oF];omega
  conv=>whnf
  repeat' (first
  |((with_reducible refine (?_:∃c:List AV,_∧_));refine ⟨_,(by first|exact hb|exact hq|exact hs),?_⟩;(conv=>whnf))
  |((with_reducible refine (?_:∃(blk:Bool),_));refine aR.get ?_)
  |((with_reducible refine (?_:_∧jl _ _∧_));refine aR.get ?_)
  |refine nX ?_;conv=>whnf
  |(with_reducible refine (?_:wv _=true->aV _=true->_));intro hwr hwb
  |(with_reducible refine (?_:aV _=true->_));intro hw;conv=>whnf
  |with_reducible assumption
  |((with_reducible intro h);exfalso;simp at h;done)
  |(first|with_reducible refine aX ho ?_|with_reducible refine aQ ho ?_|with_reducible refine aD ho ?_|with_reducible refine ay ho ?_|with_reducible refine az ?_);conv=>whnf
  |with_reducible refine And.intro ?_ ?_
  |exact cL
  |(with_reducible intro h);first|(cases h;done)|(try simp only [lG,reduceCtorEq] at h);first|done|(exfalso;omega)|replace h:=h trivial aZ|replace h:=h aZ|skip
  |fail)
  all_goals
   refine aR.mk ⟨false,c,pre,k,7,p,bb,an,tg,tx,q,cr lead,cs ae,hh,tr,post,kids,cc,J,⟨hw,hcl,hs,hx,hq,hF,abo,he,⟨hev,htr⟩,hm,oM,hz⟩,?_⟩;clear hs hq hb;have hRl:=zP (blk:=false) (k:=k) (c:=c) (kids:=kids);have TC:=zR (blk:=false) (k:=k) (c:=c) (kids:=kids);have hset:=Cn (blk:=false) (c:=c) (y:=7) (p:=p) (b:=bb) (an:=an) (tg:=tg) (tx:=tx) (lead:=lead) (ae:=ae) (h:=hh) (tr:=tr) hk hpos;generalize hR:lX false k c kids=R at hRl TC hset;obtain ⟨kl,c5⟩:=R;intro b5 cc5 hl5 mX hs hq TF yR;replace hs:b5[s]?=some [.bool false,cs c5]:=hs;replace TF:eF b5 kl cc5 J:=TF;replace hl5:b5.length=bx.length:=hl5;replace mX:jl bx.length b5:=mX;replace yR:∀j,j≠s->j≠q->j ∉ J->b5[j]?=bx[j]?:=yR;have hb:=(yR b (Ne.symm hsb) hbq Pj).trans hb0;simp only at hRl TC hset;rcases kl with _|⟨zz,zs⟩
   ·rw [List.length_nil] at hRl;omega
   obtain ⟨z1,z2,J1,J2,rfl,rfl,hZ,hZs⟩:=dm.1 TF;obtain ⟨kz,yz,pz,qz,UL,QO,QC,LD,yK,vw,hz1,QG⟩:=zz;obtain ⟨U9,rfl,hkz⟩:=gF.1 hZ;rw [cK,iI] at TC;have hs5:=hs;have hb5:=hb;have hq5:=hq;have hl:b5.length=bx.length:=hl5;have hag:∀j,j≠s->j≠b->j≠q->b5[j]?=b5[j]?:=fun _ _ _ _=>rfl
   conv=>whnf
   repeat' (first
   |((with_reducible refine (?_:∃c:List AV,_∧_));refine ⟨_,(by first|exact hb|exact hq|exact hs),?_⟩;(conv=>whnf))
   |((with_reducible refine (?_:∃(blk:Bool),_));refine aR.get ?_)
   |((with_reducible refine (?_:_∧jl _ _∧_));refine aR.get ?_)
   |refine nX ?_;conv=>whnf
   |(with_reducible refine (?_:wv _=true->aV _=true->_));intro hwr hwb
   |(with_reducible refine (?_:aV _=true->_));intro hw;conv=>whnf
   |with_reducible assumption
   |((with_reducible intro h);exfalso;simp at h;done)
   |((with_reducible refine gQ.mk (i:=b) ?_);intro b1 hl1 hb hr1;replace hl:=hl1.trans hl;replace hs:=(hr1 s hsb).trans hs;replace hq:=(hr1 q (Ne.symm hbq)).trans hq;replace hag:=(fun j g1 g2 g3=>(hr1 j g2).trans (hag j g1 g2 g3));(conv=>whnf))
   |((with_reducible refine gQ.mk (i:=s) ?_);intro b1 hl1 hs hr1;replace hl:=hl1.trans hl;replace hb:=(hr1 b (Ne.symm hsb)).trans hb;replace hq:=(hr1 q (Ne.symm zu)).trans hq;replace hag:=(fun j g1 g2 g3=>(hr1 j g1).trans (hag j g1 g2 g3));(conv=>whnf))
   |((with_reducible refine (?_:∃ts:List (List Cm),_∧_));refine ⟨[c5,ae],⟨rfl,rfl⟩,⟨hn43 c5 oM,by simp⟩,?_⟩;(conv=>whnf))
   |(exact bE (nS (ts:=[c5,ae])))
   |(first|with_reducible refine aX ho ?_|with_reducible refine aQ ho ?_|with_reducible refine aD ho ?_|with_reducible refine ay ho ?_|with_reducible refine az ?_);conv=>whnf
   |with_reducible refine And.intro ?_ ?_
   |exact cL
   |(with_reducible intro h);first|(cases h;done)|(try simp only [lG,reduceCtorEq] at h);first|done|(exfalso;omega)|replace h:=h trivial aZ|replace h:=h aZ|skip
   |fail)
   replace hl:b1.length=bx.length:=hl;replace hag:∀j,j≠s->j≠b->j≠q->b1[j]?=b5[j]?:=hag;replace hs:b1[s]?=some ([.bool false]++ .nil::[]):=hs;have hx1:wZ b1 b o pre ⟨k,7,p,bb,an,tg,tx,.bU q 35 12 kids.length,cr lead,.row 56 2 (oF [c5,ae]) (fQ [c5,ae].flatten),hh,tr⟩ post:=⟨hb,ho⟩;rw [GU] at hx1;refine ag.node hwb hx1 (Wk.cr _) (Wk.cr _) fun b2 hw2 hl2 hx2 hr2=>?_;replace hl2:b2.length=b1.length:=hl2;replace hr2:∀j,j≠b->b2[j]?=b1[j]?:=hr2;refine ag.cell hw2 (x:=.nil) (y:=cs []) ((hr2 s hsb).trans hs) Wk.sK (vD _) fun b3 hw3 hl3 hs3 hr3=>?_;refine ag.mk hwr hw3 fun K hK=>?_;have hR2:aL false [] c (.mk k 7 p bb an tg tx kids lead ae hh tr)=(.mk k 7 p bb an tg tx (.mk kz yz pz qz UL QO QC LD yK vw hz1 QG::zs) lead (c5++ae) hh tr,[]):=by rw [hset];simp [bC,mK]
   have om:∀j,j≠s->j≠b->j≠q->b3[j]?=b5[j]?:=fun j g1 g2 g3=>(hr3 j g1).trans ((hr2 j g2).trans (hag j g1 g2 g3));have hx3:b3[b]?=_:=(hr3 b (Ne.symm hsb)).trans hx2.1;have hq3:b3[q]?=_:=(hr3 q (Ne.symm zu)).trans ((hr2 q (Ne.symm hbq)).trans hq);have Pm:b5[b]?=some (pre++((Ce.mk k 7 p bb an tg tx (.bU q 35 12 kids.length) (cr lead) (cs ae) hh tr).l++post)):=hb5;have hJs:∀i ∈ J1++J2,b3[i]?=b5[i]?:=fun i hi=>om i (fun e=>hsJ (e▸hi)) (fun e=>Pj (e▸hi)) (fun e=>n3 (e▸hi));refine JW hK hs0 hx hki hR2 oM (mX.Z5 om hs3 (MF _ _) Pm hx3 (Ce.sD rfl (dM _) (dM _)) hq5 hq3 (fun i hi=>hi)) hs3 ⟨hx3,ho⟩ (eQ.of hRl hq3 (hkz.fr fun i hi=>hJs i (List.mem_append_left _ hi)) (hZs.fr fun i hi=>hJs i (List.mem_append_right _ hi))) (fun j g1 g2 g3=>(om j g1 g2 (fun e=>g3 (by rw [e];exact List.mem_cons_self))).trans (yR j g1 (fun e=>g3 (by rw [e];exact List.mem_cons_self)) (fun e=>g3 (List.mem_cons_of_mem _ e))))
 ·conv=>whnf
  repeat' (first
  |((with_reducible refine (?_:∃c:List AV,_∧_));refine ⟨_,(by first|exact hb|exact hq|exact hs),?_⟩;(conv=>whnf))
  |((with_reducible refine (?_:∃(blk:Bool),_));refine aR.get ?_)
  |((with_reducible refine (?_:_∧jl _ _∧_));refine aR.get ?_)
  |refine nX ?_;conv=>whnf
  |(with_reducible refine (?_:wv _=true->aV _=true->_));intro hwr hwb
  |(with_reducible refine (?_:aV _=true->_));intro hw;conv=>whnf
  |with_reducible assumption
  |((with_reducible intro h);exfalso;simp at h;done)
  |(first|with_reducible refine aX ho ?_|with_reducible refine aQ ho ?_|with_reducible refine aD ho ?_|with_reducible refine ay ho ?_|with_reducible refine az ?_);conv=>whnf
  |with_reducible refine And.intro ?_ ?_
  |exact cL
  |(with_reducible intro h);first|(cases h;done)|(try simp only [lG,reduceCtorEq] at h);first|done|(exfalso;omega)|replace h:=h trivial aZ|replace h:=h aZ|skip
  |fail)
  all_goals
   refine aR.mk ⟨blk,c,pre,k,6,p,bb,an,tg,tx,q,cr lead,cs ae,hh,tr,post,kids,cc,J,⟨hw,hcl,hs,hx,hq,hF,abo,he,⟨hev,htr⟩,hm,oM,hz⟩,?_⟩;clear hs hq hb;have hRl:=zP (blk:=blk) (k:=k) (c:=c) (kids:=kids);have TC:=zR (blk:=blk) (k:=k) (c:=c) (kids:=kids);have hset:=Cn (blk:=blk) (c:=c) (y:=6) (p:=p) (b:=bb) (an:=an) (tg:=tg) (tx:=tx) (lead:=lead) (ae:=ae) (h:=hh) (tr:=tr) hk hpos;generalize hR:lX blk k c kids=R at hRl TC hset;obtain ⟨kl,c5⟩:=R;intro b5 cc5 hl5 mX hs hq TF yR;replace hs:b5[s]?=some [.bool blk,cs c5]:=hs;replace TF:eF b5 kl cc5 J:=TF;replace hl5:b5.length=bx.length:=hl5;replace mX:jl bx.length b5:=mX;replace yR:∀j,j≠s->j≠q->j ∉ J->b5[j]?=bx[j]?:=yR;have hb:=(yR b (Ne.symm hsb) hbq Pj).trans hb0;simp only at hRl TC hset;rcases kl with _|⟨zz,zs⟩
   ·rw [List.length_nil] at hRl;omega
   obtain ⟨z1,z2,J1,J2,rfl,rfl,hZ,hZs⟩:=dm.1 TF;obtain ⟨kz,yz,pz,qz,UL,QO,QC,LD,yK,vw,hz1,QG⟩:=zz;obtain ⟨U9,rfl,hkz⟩:=gF.1 hZ;rw [cK,iI] at TC;have hs5:=hs;have hb5:=hb;have hq5:=hq;have hl:b5.length=bx.length:=hl5;have hag:∀j,j≠s->j≠b->j≠q->b5[j]?=b5[j]?:=fun _ _ _ _=>rfl
   conv=>whnf
   repeat' (first
   |((with_reducible refine (?_:∃c:List AV,_∧_));refine ⟨_,(by first|exact hb|exact hq|exact hs),?_⟩;(conv=>whnf))
   |((with_reducible refine (?_:∃(blk:Bool),_));refine aR.get ?_)
   |((with_reducible refine (?_:_∧jl _ _∧_));refine aR.get ?_)
   |refine nX ?_;conv=>whnf
   |(with_reducible refine (?_:wv _=true->aV _=true->_));intro hwr hwb
   |(with_reducible refine (?_:aV _=true->_));intro hw;conv=>whnf
   |with_reducible assumption
   |((with_reducible intro h);exfalso;simp at h;done)
   |((with_reducible refine (?_:FT _ _));refine FT.mld (by simp only [List.length_append];rfl) ?_;rw [jW ho,jW ho];rfl)
   |((with_reducible refine gQ.mk (i:=b) ?_);intro b1 hl1 hb hr1;replace hl:=hl1.trans hl;replace hs:=(hr1 s hsb).trans hs;replace hq:=(hr1 q (Ne.symm hbq)).trans hq;replace hag:=(fun j g1 g2 g3=>(hr1 j g2).trans (hag j g1 g2 g3));(conv=>whnf))
   |((with_reducible refine gQ.mk (i:=s) ?_);intro b1 hl1 hs hr1;replace hl:=hl1.trans hl;replace hb:=(hr1 b (Ne.symm hsb)).trans hb;replace hq:=(hr1 q (Ne.symm zu)).trans hq;replace hag:=(fun j g1 g2 g3=>(hr1 j g1).trans (hag j g1 g2 g3));(conv=>whnf))
   |((with_reducible refine gQ.mk (i:=q) ?_);intro b1 hl1 hq hr1;replace hl:=hl1.trans hl;replace hs:=(hr1 s zu).trans hs;replace hb:=(hr1 b hbq).trans hb;replace hag:=(fun j g1 g2 g3=>(hr1 j g3).trans (hag j g1 g2 g3));(conv=>whnf))
   |(first|with_reducible refine aX ho ?_|with_reducible refine aQ ho ?_|with_reducible refine aD ho ?_|with_reducible refine ay ho ?_|with_reducible refine az ?_);conv=>whnf
   |with_reducible refine And.intro ?_ ?_
   |exact cL
   |(with_reducible intro h);first|(cases h;done)|(try simp only [lG,reduceCtorEq] at h);first|done|(exfalso;omega)|replace h:=h trivial aZ|replace h:=h aZ|skip
   |fail)
   replace hl:b1.length=bx.length:=hl;replace hag:∀j,j≠s->j≠b->j≠q->b1[j]?=b5[j]?:=hag;have hx1:wZ b1 b o pre ⟨k,6,p,bb,an,tg,tx,.bU q 35 12 kids.length,.row 56 2 (lead.length+yK.length) (fQ lead++fQ yK),cs ae,hh,tr⟩ post:=⟨hb,ho⟩;have hx2:wZ b1 q 0 [] ⟨kz,yz,pz,qz,UL,QO,QC,U9,.nil,cs vw,hz1,QG⟩ z2:=⟨hq,rfl⟩;rw [Ad] at hx1;refine ag.node hwb hx1 (Wk.cr _) (.refl _) fun b2 hw2 hl2 hx3 hr2=>?_;replace hl2:b2.length=b1.length:=hl2;replace hr2:∀j,j≠b->b2[j]?=b1[j]?:=hr2;refine ag.node (l1:=[]) hw2 (⟨(hr2 q (Ne.symm hbq)).trans hx2.1,rfl⟩:wZ b2 q 0 [] ⟨kz,yz,pz,qz,UL,QO,QC,U9,.nil,cs vw,hz1,QG⟩ z2) Wk.sK (.refl _) fun bf hw3 hl3 hx4 hr3=>?_;replace hl3:bf.length=b2.length:=hl3;refine ag.mk hwr hw3 fun K hK=>?_;have hR2:aL blk [] c (.mk k 6 p bb an tg tx kids lead ae hh tr)=(.mk k 6 p bb an tg tx (.mk kz yz pz qz UL QO QC LD [] vw hz1 QG::zs) (lead++yK) ae hh tr,c5):=by rw [hset];simp [bC,mK,Nd.ld,Nd.lead]
   have om:∀j,j≠s->j≠b->j≠q->bf[j]?=b5[j]?:=fun j g1 g2 g3=>(hr3 j g3).trans ((hr2 j g2).trans (hag j g1 g2 g3));have hxf:bf[b]?=_:=(hr3 b hbq).trans hx3.1;have hqf:bf[q]?=_:=hx4.1;have hsf:bf[s]?=some [.bool blk,cs c5]:=(hr3 s zu).trans ((hr2 s hsb).trans hs);have Pm:b5[b]?=some (pre++((Ce.mk k 6 p bb an tg tx (.bU q 35 12 kids.length) (cr lead) (cs ae) hh tr).l++post)):=hb5;have hJs:∀i ∈ J1++J2,bf[i]?=b5[i]?:=fun i hi=>om i (fun e=>hsJ (e▸hi)) (fun e=>Pj (e▸hi)) (fun e=>n3 (e▸hi));refine JW hK hs0 hx hki hR2 oM (mX.Z5 om hsf (MF _ _) Pm hxf (Ce.sD rfl (dM _) (dM _)) hq5 hqf (Ce.sD (pre:=[]) rfl (dM _) (dM _))) hsf ⟨hxf,ho⟩ (eQ.of (z:=.mk kz yz pz qz UL QO QC LD [] vw hz1 QG) (by rw [←hRl];rfl) hqf (hkz.fr fun i hi=>hJs i (List.mem_append_left _ hi)) (hZs.fr fun i hi=>hJs i (List.mem_append_right _ hi))) (fun j g1 g2 g3=>(om j g1 g2 (fun e=>g3 (by rw [e];exact List.mem_cons_self))).trans (yR j g1 (fun e=>g3 (by rw [e];exact List.mem_cons_self)) (fun e=>g3 (List.mem_cons_of_mem _ e))))
theorem ae8 {m:Nat} (h71:aC.OK Tryz.prog 71 (Zw m)):aC.OK Tryz.prog 42 (Om (m+1)):=by
 intro args bx K0 h;unfold Om at h;split at h
 ·rename_i s b o;obtain ⟨blk,c,pre,k,y,p,bb,an,tg,tx,kc,lead,ae,h,tr,post,kids,I,⟨h1,h2,h3,h4,h5,h6,⟨h7,h8⟩,h9,h10,h11⟩,-⟩:=h;have hsb:s≠b:=fun e=>(List.nodup_cons.1 h6).1 (by rw [e];exact List.mem_cons_self);have hbI:b ∉ I:=(List.nodup_cons.1 (List.nodup_cons.1 h6).2).1;rw [iI] at h10;rw [fD] at h9 h11;by_cases hk:k=3∨k=4
  ·have hki:=h5;rcases h5 with ⟨g1,rfl,rfl⟩|⟨g1,q,cc,J,rfl,rfl,g2,g3⟩
   ·have Tg:=List.eq_nil_of_length_eq_zero g1;subst Tg;obtain ⟨r,bx',e1,e2,e3,e4⟩:=afa (m:=m) hk h1 h2 h3 h4 hsb oM;exact ⟨r,bx',e1,e2,e3,e4⟩
   ·rw [yX] at h7;rw [Bh] at h8;simp only [Bool.and_eq_true,Bool.or_eq_true,Bool.not_eq_true',decide_eq_true_eq,decide_eq_false_iff_not,Bool.or_eq_false_iff] at h7 h8;obtain ⟨⟨e1,e2⟩,e3⟩:=h7;have hy:y=6∨y=7:=by
     rcases e2 with e2|e2
     ·omega
     ·exact e2
    have hyb:(y=7∧blk=true)∨(y=7∧blk=false)∨y=6:=by
     rcases hy with e|e
     ·exact .inr (.inr e)
     ·cases blk
      ·exact .inr (.inl ⟨e,rfl⟩)
      ·exact .inl ⟨e,rfl⟩
    have he:k=3∨k=4∧kids.length % 2=0:=by
     rcases hk with e|e
     ·exact .inl e
     ·rcases e1 with e1|e1
      ·exact absurd e e1
      ·exact .inr ⟨e,e1⟩
    have h8':(h||decide (tr=ByteArray.empty))=true:=by
     rcases h8.1 with e|e
     ·rw [e];rfl
     ·rw [decide_eq_true e,Bool.or_true]
    exact afb h71 hk hyb h1 h2 h3 h4 g2 g3 h6 g1 he e3 h8.2 h8' oM h10 oM
  ·exact ae9 hk h1 h2 h3 h4 h5 hsb hbI
 ·exact h.elim
theorem YM:aC.OK Tryz.prog 42 (Om 0):=by
 intro args bx K0 h;unfold Om at h;split at h
 ·obtain ⟨blk,c,pre,k,y,p,bb,an,tg,tx,kc,lead,ae,h,tr,post,kids,I,⟨-,-,-,-,-,-,-,h9,-⟩,-⟩:=h;rw [fD] at h9;omega
 ·exact h.elim
theorem Sg:aC.OK Tryz.prog 101 (G6 0):=by
 intro args bx K0 h;unfold G6 at h;split at h
 ·obtain ⟨blk,c,pre,x1,x2,uN,zT,post,I1,I2,⟨-,-,-,-,-,-,-,-,-,-,-,h9,-⟩,-⟩:=h;cases x1;rw [fD] at h9;omega
 ·exact h.elim
theorem ag8:∀m,aC.OK Tryz.prog 42 (Om m)∧aC.OK Tryz.prog 101 (G6 m)∧aC.OK Tryz.prog 71 (Zw m)
 |0=>⟨YM,Sg,aeX YM Sg⟩
 |m+1=>by obtain ⟨h1,h2,h3⟩:=ag8 m;have g1:=ae8 h3;have g2:=af9 m h1;exact ⟨g1,g2,aeX g1 g2⟩
theorem akk (m:Nat):aC.OK Tryz.prog 42 (Om m):=(ag8 m).1
section
variable {lim lim' : Nat -> Nat} {bs bs' : List Nat} {w w' : World} {P : Program} {T : jL} {a : Act} {o : Oper} {m : Nat -> Prop} {bx bx' : List (List AV)} {S S' : rE} {K : Act -> World -> Prop} {Q : Exit -> Act -> World -> Prop} {cal : xR} {σ σ' σ1 σ2 : aJ}
theorem Ij {L:Nat}:ic [] L=fun j=>L+j:=by funext j;unfold ic;simp
theorem PD {g:Nat} {cap ys:List AV} {r:AV} {nb:List (List AV)} {X:List Nat->Value->World->Prop} (H5:X8 P g)
  (hcall:∀(lim:Nat->Nat) (bs:List Nat) (w:World) (vs:List Value) (m:Nat->Prop),vs.length=ys.length->(∀b,w.heap.size<=b->m b)->aM lim bs w [] (aS ys vs) m->
   Calls P g vs.toArray w fun e w'=>∃v lim' bs',e=.returned v∧aM lim' bs' w' nb (rS r v) m∧Fr m lim w lim' w'∧X bs' v w')
  (H:aM lim bs w σ.bx (Sl σ.tm a) m) (hm:∀b,w.heap.size<=b->m b) (hd:∀k,o.dst=some k->k<a.tmps.size) {c:Call} {f:Operand} (ho:o.op=.call c) (hc:c.callee=.value f) (hv:val σ.tm f=.fn g cap) (hcf:AV.ak cap=true)
  (hys:ys=(c.args.toList.map (val σ.tm)).map AV.bY++cap) (hyi:AV.aN ys=[]) (hK:∀lim' bsn w' v,Hu m lim bs w a ⟨dW σ.tm o.dst (r.bK fun j=>σ.bx.length+j),σ.bx++nb.map (AV.aO fun j=>σ.bx.length+j)⟩ lim' (bs++bsn) w' (a.put o.dst v)->X bsn v w'->bsn.length=nb.length->K (a.put o.dst v) w'):o.wp P a w K Q:=by
 have hfr:=(nC H f).1.r;rw [hv,AV.R] at hfr;obtain ⟨vc,hfe,hcap⟩:=hfr;obtain ⟨hargs,uG⟩:=nN H c.args.toList;have hall:AV.Rs lim bs w ys (c.args.toList.map a.eval++vc.toList):=by rw [hys];exact kP hargs hcap
 have Wu:AV.ak ys=true:=by rw [hys];exact dX uG hcf
 have kX:(c.args.toList.map a.eval++vc.toList).length=ys.length:=AV.fB hall;have yN:∀(k:Nat) (x:AV) (v:Value),ys[k]?=some x->(c.args.toList.map a.eval++vc.toList)[k]?=some v->AV.R lim (([]:List Nat).map fun i=>bs.getD i 0) w x v:=by
  intro k x v hk hv;obtain ⟨v',h1,h2⟩:=kU hall hk;rw [hv] at h1;cases h1;have hxi:AV.ids x=[]:=by rw [List.eq_nil_iff_forall_not_mem];intro i hi;have:i ∈ AV.aN ys:=AV.iT.2 ⟨x,List.mem_of_getElem? hk,hi⟩;rw [hyi] at this;cases this
  have:=AV.R.bK (f:=fun i=>i) (bs':=([]:List Nat).map fun i=>bs.getD i 0) (fun i hi=>by rw [hxi] at hi;cases hi) h2
  rwa [oH (fun i hi=>rfl)] at this
 have yO:∀(k:Nat) (x:AV),ys[k]?=some x->x.flat=true:=fun k x hk=>eH Wu hk;have hE:=H.enter (ids:=[]) .nil (show bn σ.bx []=some [] from rfl) (fun c hc=>by cases hc) (args:=ys) (vs:=c.args.toList.map a.eval++vc.toList) kX yO yN;obtain ⟨HE,hE1,hE2,Xc⟩:=hE;have hrun:(execOp a.eval o).run P w=.ok (.enter g (c.args.map a.eval++vc)) w:=by unfold execOp;simp only [ho,resolve,hc,hfe,Deferred.ofValue,Sem.run_bind,Sem.run_pure,Result.andThen_ok,invoke,Array.empty_append];exact mP H5 _
 have hvs:(c.args.toList.map a.eval++vc.toList).toArray=c.args.map a.eval++vc:=by rw [←Array.toList_inj];simp
 unfold Oper.wp;rw [hrun];show Calls P g (c.args.map a.eval++vc) w _;rw [←hvs];refine (hcall lim _ w _ _ kX (fun b hb=> .inr (.inr hb)) HE).mono ?_;rintro e w' ⟨v,lim',bsn,rfl,H',GD,hX⟩;have hL:=H.leave hm (ids:=[]) .nil (show bn σ.bx []=some [] from rfl) (bx':=nb) (Nat.zero_le _) (r:=r) (v:=v) (Sc:=aS ys (c.args.toList.map a.eval++vc.toList)) (bsc:=([]:List Nat).map fun i=>bs.getD i 0) (bsn:=bsn) (lim':=lim') (w':=w') rfl (fun i hi=>absurd hi (Nat.not_lt_zero _)) hE1 hE2 Xc H' GD o.dst;rw [Ij] at hL;simp only [List.length_nil,List.take_zero,List.map_nil,List.drop_zero,aK] at hL;obtain ⟨HL,hfl⟩:=hL;refine hK lim' bsn w' v ⟨?_,hfl,fun i b hi=>by rw [List.getElem?_append_left (List.getElem?_eq_some_iff.1 hi).1];exact hi,bL _ _ _,put_defers _ _ _⟩ hX H'.len;show aM lim' _ w' _ (Sl (dW σ.tm o.dst _) (a.put o.dst v)) m;rw [iE hd];exact HL
theorem aT.We {base:Nat} {ops:Array Oper} {g:Nat} {cap ys:List AV} {r:AV} {nb:List (List AV)} (HC:aW P g ys [] r nb) (hg:o.guard=none) {c:Call} {f:Operand} (ho:o.op=.call c) (hc:c.callee=.value f) (hv:val σ.tm f=.fn g cap) (hcf:AV.ak cap=true)
  (hys:ys=(c.args.toList.map (val σ.tm)).map AV.bY++cap) (hyi:AV.aN ys=[]):aT P base ops o σ ⟨dW σ.tm o.dst (r.bK fun j=>σ.bx.length+j),σ.bx++nb.map (AV.aO fun j=>σ.bx.length+j)⟩:=by
 intro m lim bs w a K Q hd H hm hK;rw [if_pos (by simp [Region.wanted,hg])];refine PD (X:=fun _ _ _=>True) HC.H5 (fun lim bs w vs m h1 h2 h3=>(HC.call lim bs w vs m h1 h2 h3).mono ?_) H hm hd ho hc hv hcf hys hyi (fun lim' bsn w' v hg _ _=>hK _ _ _ _ hg.B);rintro e w' ⟨v,lim',bs',e1,e2,e3,-⟩;exact ⟨v,lim',bs',e1,e2,e3,trivial⟩
theorem Gt (HT:kN P T) (H:aM lim bs w σ.bx (Sl σ.tm a) m) (hm:∀b,w.heap.size<=b->m b) (hd:∀k,o.dst=some k->k<a.tmps.size) {t e:Nat} {d:TD} {n c:Operand} (ho:o.op=.makeSlice t n c) (ht:vC T t=some (e,d)) {kn kc:IntKind} {c':Int} (hn1:a.eval n=.int kn 0) (hc1:a.eval c=.int kc c') (k2:0<=c') (k3:c'<=10000000000) (k5:d.size<=100) (k6:d.bytes<=1000) (k4:0<d.size) (hK:vM m lim bs w a ⟨dW σ.tm o.dst (.row e d.size 0 []),σ.bx⟩ K):o.wp P a w K Q:=by
 have Qc:c'.toNat<=maxLen:=by have:(10000000000:Nat)<=maxLen:=dE;omega
 obtain ⟨hu,he⟩:=pO HT ht;obtain ⟨i,z,hi,hs,hby,hz,hzc,Y1⟩:=HT.info e d he;have hrun:(execOp a.eval o).run P w=.ok (.value (.slice (some ⟨w.heap.size,0,none⟩) 0 c'.toNat)) (w.alloc (.cells (madeCells z.cells (c'.toNat*i.size)) e)):=by
  unfold execOp;simp only [ho,hn1,hc1];have hb:(i.bytes:Int)*c'<=281474976710656:=by
   have h1:(i.bytes:Int)<=1000:=by rw [hby];omega
   have h2:(i.bytes:Int)*c'<=1000*c':=Int.mul_le_mul_of_nonneg_right h1 k2;omega
  rw [Sem.run_bind,run_make w t e i z hu hi hz kn kc 0 c' (Int.le_refl _) k2 hb oM];rfl
 obtain ⟨H2,hfr,hown⟩:=H.grow (w':=w.alloc (.cells (madeCells z.cells (c'.toNat*i.size)) e)) (g:=w.heap.size) (n:=0) (fun hb=>Nat.lt_irrefl _ (jX H hb)) (hm _ (Nat.le_refl _)) (by rw [je];omega) (by rw [je];omega) (wI w _) (fun k hk _=>alloc_old w _ hk) (fun p hp=>Nat.lt_irrefl _ (Own.lt H hp)) (.inr ⟨rfl,je w _⟩) (by rw [H.top _ (Nat.le_refl _)];omega) (fun j hj=>absurd hj (Nat.lt_irrefl _)) (fun cur e p hh=>absurd (di hh) (Nat.lt_irrefl _));refine gp hrun (hK _ bs _ _ ⟨?_,hfr,fun _ _ h=>h,bL _ _ _,put_defers _ _ _⟩);show aM _ bs _ σ.bx (Sl (dW σ.tm o.dst (.row e d.size 0 [])) (a.put o.dst _)) m;rw [iE hd];refine H2.dW (ES (Nat.zero_mul _).symm rfl (qc w _) (Nat.zero_le _) ?_ (by rw [size_madeCells,hs]) (by simp) ⟨[],by rw [AV.Rs],by rw [Nat.zero_mul,List.take_zero]⟩) (by rw [AV.top];rfl) (fun k g _ _ hg=>?_)
 ·exact Qc
 ·have hg':w.heap.size=g:=by simpa [Value.ownBlock] using hg
  subst hg';exact ⟨hm _ (Nat.le_refl _),fun hb=>Nat.lt_irrefl _ (jX H hb),fun p hp=>absurd (Own.lt H (hown p _ hp)) (Nat.lt_irrefl _)⟩
theorem aT.msl {base:Nat} {ops:Array Oper} (HT:kN P T) (hg:o.guard=none) {t e:Nat} {d:TD} {n c:Operand} (ho:o.op=.makeSlice t n c) (ht:vC T t=some (e,d)) {kn kc:IntKind} {c':Int} (hn1:val σ.tm n=.int kn 0) (hc1:val σ.tm c=.int kc c') (k2:0<=c') (k3:c'<=10000000000) (k5:d.size<=100) (k6:d.bytes<=1000) (k4:0<d.size):aT P base ops o σ ⟨dW σ.tm o.dst (.row e d.size 0 []),σ.bx⟩:=by intro m lim bs w a K Q hd H hm hK;rw [if_pos (by simp [Region.wanted,hg])];have h1:=(nC H n).1.r;have h2:=(nC H c).1.r;rw [hn1,AV.R] at h1;rw [hc1,AV.R] at h2;exact Gt HT H hm hd ho ht h1 h2 k2 k3 k5 k6 k4 (fun dN jZ w1 a2 hg=>hK _ _ _ _ hg.B)
end
variable {P : Program} {T : jL} {sp : Sp} {n0 base : Nat} {σ τ : aJ} {Q : wL -> aJ -> Prop} {cal : xR}
def Steps (P:Program) (base:Nat) (ops:Array Oper):List Oper->aJ->aJ->Prop
 |[],σ,τ=>σ=τ
 |o::r,σ,τ=>∃σ1,aT P base ops o σ σ1∧Steps P base ops r σ1 τ
theorem Steps.go {ops:Array Oper} {m:Nat->Prop}:∀(l:List Oper) {σ τ:aJ} {lim:Nat->Nat} {bs:List Nat} {w:World} {a:Act} {Q:Exit->Act->World->Prop},Steps P base ops l σ τ->(∀o ∈ l,∀k,o.dst=some k->k<a.tmps.size)->aM lim bs w σ.bx (Sl σ.tm a) m->(∀b,w.heap.size<=b->m b)->jE base m lim bs w a τ (Q .normal)->wpList P ops Q l a w
 |[],σ,τ,lim,bs,w,a,Q,h,hd,H,hm,hK=>by obtain rfl:σ=τ:=h;exact wpList_nil (hK _ _ _ _ ⟨H,Fr.refl,fun _ _ _ h=>h,rfl,rfl⟩)
 |o::l,σ,τ,lim,bs,w,a,Q,h,hd,H,hm,hK=>by obtain ⟨σ1,h1,h2⟩:=h;refine wpList_step fun K' hK'=>?_;refine h1 (fun k hk=>hd o List.mem_cons_self k hk) H hm (fun dN jZ w1 a2 hg=>hK' a2 w1 ?_);exact Steps.go l h2 (fun o ho k hk=>by rw [hg.nt];exact hd o (List.mem_cons_of_mem _ ho) k hk) hg.hold (fun b hb=>hm b (Nat.le_trans hg.fr.qJ.size hb)) (fun gI qN w2 a3 hg2=>hK gI qN w2 a3 (hg.trans hg2))
theorem WP.steps (an:zy) {i:Nat} {ops:Array Oper} (h:Steps P base ops ops.toList σ τ) (hok:Ok σ->Ok ⟨prune (an.live.getD i []) τ.tm,τ.bx⟩) (hq:Q .normal ⟨prune (an.live.getD i []) τ.tm,τ.bx⟩):WP P n0 base (.region i ops false) σ Q:=by refine WP.mk fun hg hσ=>?_;refine ⟨.normal,⟨prune (an.live.getD i []) τ.tm,τ.bx⟩,fun hn hb H hm hK=>?_,hok hσ,hq⟩;exact wp_region_list (Steps.go ops.toList h (qx hg hn) H hm fun lim' bs' w' a' hgo=>hK lim' bs' w' a' ⟨hgo.hold.prune _,hgo.fr,hgo.pre,hgo.nt,hgo.df⟩)
abbrev Zt:=(Nat->Prop)->(Nat->Nat)->List Nat->World->Act->(Exit->Act->World->Prop)->Prop
def WZ (P:Program) (n0 base:Nat) (c:Code) (σ:aJ) (Z:Zt):Prop:=jA n0 c=true->Ok σ->∀{m:Nat->Prop} {nY:Nat->Nat} {H6:List Nat} {w0:World} {a0:Act} {lim:Nat->Nat} {bs:List Nat} {w:World} {a:Act} {Q:Exit->Act->World->Prop},n0<=a.tmps.size->base<=σ.bx.length->oz base m nY H6 w0 a0 σ lim bs w a->(∀b,w.heap.size<=b->m b)->Z m nY H6 w0 a0 Q->c.wp P Q a w
def zQ (P:Program) (n0 base:Nat) (y:Code) (Z:Zt) (e:wL) (τ:aJ):Prop:=
 match e with
 |.normal=>WZ P n0 base y τ Z
 |_=>False
theorem WZ.seq {x y:Code} {Z:Zt} (h:WP P n0 base x σ (zQ P n0 base y Z)):WZ P n0 base (.seq x y) σ Z:=by
 intro hg hσ m nY H6 w0 a0 lim bs w a R hn hb hgo hm hZ;rw [jA,Bool.and_eq_true] at hg;obtain ⟨e,τ,h1,h2,h3⟩:=WP.out h hg.1 hσ;cases e with
 |normal=>
  refine wp_seq (h1 hn hb hgo.hold hm fun dN jZ w1 a1 hg1=>?_);exact h3 hg.2 h2 (by rw [hg1.nt];exact hn) (hlen hb hgo.hold hg1) (hgo.trans hg1) (fun b hb=>hm b (Nat.le_trans hg1.fr.qJ.size hb)) hZ
 |exit i=>exact h3.elim
 |ret=>exact h3.elim
theorem WZ.akq {c:Code} {Z:Zt} {R:wL->aJ->Prop} (h:WP P n0 base c σ R) (hz:∀(m:Nat->Prop) (nY:Nat->Nat) (H6:List Nat) (w0:World) (a0:Act) (Q:Exit->Act->World->Prop),Z m nY H6 w0 a0 Q->∀e τ,Ok τ->R e τ->jE base m nY H6 w0 a0 τ (Q (Py e))):WZ P n0 base c σ Z:=by intro hg hσ m nY H6 w0 a0 lim bs w a Q hn hb hgo hm hZ;obtain ⟨e,τ,h1,h2,h3⟩:=WP.out h hg hσ;exact h1 hn hb hgo.hold hm fun dN jZ w1 a1 hg1=>hz m nY H6 w0 a0 Q hZ e τ h2 h3 dN jZ w1 a1 (hgo.trans hg1)
theorem WZ.jB {c:Code} {Z:Zt} (hr:Rx base σ τ) (h:WZ P n0 base c τ Z):WZ P n0 base c σ Z:=by intro hg hσ m nY H6 w0 a0 lim bs w a Q hn hb hgo hm hZ;obtain ⟨r1,r2⟩:=hr hσ;obtain ⟨lim',bs',g1,g2,g3⟩:=r2 hb hgo.hold;have Tk:oz base _ _ _ _ _ τ lim' bs' _ _:=⟨g1,g2,g3,rfl,rfl⟩;exact h hg r1 hn (hlen hb hgo.hold Tk) (hgo.trans Tk) hm hZ
theorem WZ.mk {c:Code} {Z:Zt} (h:jA n0 c=true->Ok σ->∀{m:Nat->Prop} {nY:Nat->Nat} {H6:List Nat} {w0:World} {a0:Act} {lim:Nat->Nat} {bs:List Nat} {w:World} {a:Act} {Q:Exit->Act->World->Prop},n0<=a.tmps.size->base<=σ.bx.length->oz base m nY H6 w0 a0 σ lim bs w a->(∀b,w.heap.size<=b->m b)->Z m nY H6 w0 a0 Q->c.wp P Q a w):WZ P n0 base c σ Z:=h
attribute [irreducible] WZ
theorem uj (f:Nat->Nat) (l:List Cm):AV.bK f (cs l)=cs l:=vX (dM l)
where
 vX {f:Nat->Nat} {x:AV} (h:AV.ids x=[]):AV.bK f x=x:=by
  have e:∀i ∈ AV.ids x,f i=i:=fun i hi=>by rw [h] at hi;cases hi
  exact oH e
theorem Ji (f:Nat->Nat):∀(a b:List AV),AV.aO f (a++b)=AV.aO f a++AV.aO f b
 |[],b=>rfl
 |x::a,b=>by rw [List.cons_append,AV.aO,AV.aO,Ji f a b,List.cons_append]
theorem Um (f:Nat->Nat) (x:Nd) (kc:AV):AV.aO f (x.ce kc).l=(x.ce (AV.bK f kc)).l:=by cases x;simp only [Nd.ce,Ce.l,AV.aO,uj,AV.bK]
mutual
theorem mZ.mv {b bx:List (List AV)} {f:Nat->Nat} (hb:∀(j:Nat) (z:List AV),b[j]?=some z->bx[f j]?=some (AV.aO f z)):∀{x:Nd} {c:List AV} {I:List Nat},mZ b x c I->mZ bx x (AV.aO f c) (I.map f)
 |.mk k y p bb an tg tx kids lead ae h tr,c,I,hh=>by
  rw [mZ] at hh;obtain ⟨kc,h1,h2⟩:=hh;have h1':c=((Nd.mk k y p bb an tg tx kids lead ae h tr).ce kc).l:=h1;rw [mZ];refine ⟨AV.bK f kc,by rw [h1',Um];rfl,?_⟩;rcases h2 with ⟨g1,rfl,rfl⟩|⟨g1,q,cc,J,rfl,rfl,g2,g3⟩
  ·exact .inl ⟨g1,rfl,rfl⟩
  ·exact .inr ⟨g1,f q,AV.aO f cc,J.map f,rfl,rfl,hb _ _ g2,eF.mv hb g3⟩
theorem eF.mv {b bx:List (List AV)} {f:Nat->Nat} (hb:∀(j:Nat) (z:List AV),b[j]?=some z->bx[f j]?=some (AV.aO f z)):∀{l:List Nd} {c:List AV} {J:List Nat},eF b l c J->eF bx l (AV.aO f c) (J.map f)
 |[],c,J,h=>by obtain ⟨rfl,rfl⟩:=fJ.1 h;exact fJ.2 ⟨rfl,rfl⟩
 |x::l,c,J,h=>by obtain ⟨c1,c2,J1,J2,rfl,rfl,h1,h2⟩:=dm.1 h;exact dm.2 ⟨AV.aO f c1,AV.aO f c2,J1.map f,J2.map f,Ji f c1 c2,List.map_append,mZ.mv hb h1,eF.mv hb h2⟩
end
end V
namespace V
open Ab
open Bk (Cm)
def c39:aC:=fun args bx K=>match args,bx with
 |[.sl n l],[]=>∃t:List Cm,(n=t.length∧l=fQ t)∧t.length<=10000000000∧K (.row 56 2 n l) []
 |_,_=>False
theorem BC:∀l:List Cm,dI (fQ l)=true
 |[]=>rfl
 |c::l=>by have:=BC l;rw [fQ];simpa [dI,AV.one] using this
theorem akl:aC.OK Tryz.prog 39 c39:=by
 intro args bx K0 h;unfold c39 at h;split at h
 ·obtain ⟨t,⟨rfl,rfl⟩,h2,-⟩:=h;refine ⟨_,_,Du (kT t) (BC t) (jv t) h2,?_,rfl,fun K hK=>?_⟩
  ·exact aA t
  ·obtain ⟨t',⟨-,-⟩,-,hK⟩:=hK;exact hK
 ·exact h.elim
theorem aT.akt {P:Program} {T:jL} {σ τ:aJ} {o:Oper} {base:Nat} {ops:Array Oper} (HT:kN P T) (hg:o.guard=none) {t e:Nat} {d:TD} {n c:Operand} (ho:o.op=.makeSlice t n c) (ht:vC T t=some (e,d)) {kn kc:IntKind} {c':Int} (hn1:val σ.tm n=.int kn 0) (hc1:val σ.tm c=.int kc c') (k2:0<=c') (k3:c'<=10000000000) (k5:d.size<=100∧d.bytes<=1000∧0<d.size) (hτ:τ=⟨dW σ.tm o.dst (.row e d.size 0 []),σ.bx⟩):aT P base ops o σ τ:=by subst hτ;exact aT.msl HT hg ho ht hn1 hc1 k2 k3 k5.1 k5.2.1 k5.2.2
theorem amf:∃d:TD,vC gW 33=some (35,d)∧(d.size<=100∧d.bytes<=1000∧0<d.size)∧d.size=12:=⟨_,rfl,dE,rfl⟩
theorem aT.core {P:Program} {T:jL} {cal:xR} {σ τ:aJ} {o:Oper} {base:Nat} {ops:Array Oper} (HT:kN P T) (HC:eT P cal) (hg:o.guard=none) (md:Md) {ids:List Nat} {cs:List (List AV)} {out:Out} (ht:dS (val σ.tm) σ.bx o.op=ids) (hcs:bn σ.bx ids=some cs) (hc:Ab.core cal T (gJ md.ad o.dst) (gJ md.arr o.dst) σ.bx.length (val σ.tm) cs ids o.type o.op=some out) (hok:out.ok=true) (hτ:τ=fin o.dst out ids (jD (gJ md.ad o.dst) o.op) σ):aT P base ops o σ τ:=by subst hτ;subst ht;intro m lim bs w a K Q hd H hm hK;rw [if_pos (by simp [Region.wanted,hg])];refine Jt HT HC H hm hd (md:=md) ?_ (fun dN jZ w1 a2 hg=>hK _ _ _ _ hg.B);unfold OA wQ;rw [hcs];simp only [];rw [hc];simp only [];rw [if_pos hok]
theorem aT.app {P:Program} {T:jL} {σ τ:aJ} {o:Oper} {base:Nat} {ops:Array Oper} (HT:kN P T) (hg:o.guard=none) {dd:Nat} (hdst:o.dst=some dd) {c:Call} {t:Nat} {s x:Operand} (ho:o.op=.call c) (AY:c.callee=.builtin .append) (hargs:c.args=#[s,x]) (LK:c.argTypes=#[t,t]) (md:Md) (hb:md.base=base) (h:vJ T md dd σ s x t=some τ):aT P base ops o σ τ:=by subst hb;intro m lim bs w a K Q hd H hm hK;rw [if_pos (by simp [Region.wanted,hg])];exact Ov HT H hm (hd dd hdst) hdst ho AY hargs LK h hK
theorem XQ {md:Md} {d x y:Nat} {k:List AV} {σ:aJ} (hx:get σ.tm x=.row 35 12 0 []) (hy:get σ.tm y=.row 35 12 1 k) (hk:k.length=12) (h1:dI k=true) (h2:AV.ak k=true):vJ gW md d σ (.tmp x) (.tmp y) 33=some ⟨put (eZ σ.tm [x]) d (.bU σ.bx.length 35 12 1),σ.bx++[k]⟩:=by unfold vJ;rw [show vC gW 33=some (35,_) from rfl];simp only [];rw [show val σ.tm (.tmp y)=.row 35 12 1 k from hy];rw [show elems (.row 35 12 1 k)=some (1,k) from rfl];simp only [];rw [if_pos ⟨dE,by rw [hk],dE,dE,h1,h2⟩];rw [show val σ.tm (.tmp x)=.row 35 12 0 [] from hx];simp only [];rw [if_pos (by refine ⟨dE,?_⟩;first|trivial|exact ⟨rfl,dE⟩|(constructor<;>first|rfl|decide))];rfl
theorem XT {md:Md} {d x y q n:Nat} {c k:List AV} {σ:aJ} (hx:get σ.tm x=.bU q 35 12 n) (hy:get σ.tm y=.row 35 12 1 k) (hk:k.length=12) (h1:dI k=true) (h2:AV.ak k=true) (hc:σ.bx[q]?=some c) (hb:md.base<=q) (hn:n+1<=10000000000) (hl:c.length=n*12) (hi:q ∉ AV.aN (c++k)) (hf:AV.ak c=true):vJ gW md d σ (.tmp x) (.tmp y) 33=some ⟨put (kill q σ).tm d (.bU q 35 12 (n+1)),(kill q σ).bx.set q (c++k)⟩:=by
 unfold vJ;rw [show vC gW 33=some (35,_) from rfl];simp only [];rw [show val σ.tm (.tmp y)=.row 35 12 1 k from hy];rw [show elems (.row 35 12 1 k)=some (1,k) from rfl];simp only [];rw [if_pos ⟨dE,by rw [hk],dE,dE,h1,h2⟩];rw [show val σ.tm (.tmp x)=.bU q 35 12 n from hx];simp only [];rw [hc];simp only [];have hm:mem q (AV.aN (c++k))=false:=by
  cases hh:mem q (AV.aN (c++k)) with
  |false=>rfl
  |true=>exact absurd (mem_iff.1 hh) hi
 rw [if_pos (by first|exact ⟨hb,rfl,rfl,hn,hl,hm,hf⟩|(refine ⟨hb,?_,?_,hn,hl,hm,hf⟩<;>trivial))]
theorem nZ {q:Nat} {v:AV} (h:q ∉ v.ids):eB q v=v:=by
 unfold eB;cases hh:mem q v.ids with
 |false=>rfl
 |true=>exact absurd (mem_iff.1 hh) h
theorem aa6 {q:Nat} {σ:aJ} (h:∀z ∈ σ.bx,q ∉ AV.aN z):(kill q σ).bx=σ.bx:=by unfold kill;simp only [];refine (List.map_congr_left fun c hc=>?_).trans (List.map_id _);refine (List.map_congr_left fun v hv=>nZ fun e=>h c hc (AV.iT.2 ⟨v,hv,e⟩)).trans (List.map_id _)
mutual
theorem Lg {f:Nat->Nat} {L:Nat} (hf:∀j,L<=f j):∀(x:AV),∀i ∈ AV.ids (AV.bK f x),L<=i
 |.ptr i o,j,h=>by rw [AV.bK,AV.ids,List.mem_singleton] at h;rw [h];exact hf i
 |.bU i e z n,j,h=>by rw [AV.bK,AV.ids,List.mem_singleton] at h;rw [h];exact hf i
 |.sl n l,j,h=>by rw [AV.bK,AV.ids] at h;exact nQ hf l j h
 |.row e z n l,j,h=>by rw [AV.bK,AV.ids] at h;exact nQ hf l j h
 |.el l,j,h=>by rw [AV.bK,AV.ids] at h;exact nQ hf l j h
 |.agg l,j,h=>by rw [AV.bK,AV.ids] at h;exact nQ hf l j h
 |.bX l,j,h=>by rw [AV.bK,AV.ids] at h;exact nQ hf l j h
 |.fn g l,j,h=>by rw [AV.bK,AV.ids] at h;exact nQ hf l j h
 |.bool _,j,h=>by cases h
 |.int _ _,j,h=>by cases h
 |.str _,j,h=>by cases h
 |.nil,j,h=>by cases h
 |.nz _,j,h=>by cases h
 |.nP _,j,h=>by cases h
 |.low _ _ _,j,h=>by cases h
 |.bad,j,h=>by cases h
theorem nQ {f:Nat->Nat} {L:Nat} (hf:∀j,L<=f j):∀(l:List AV),∀i ∈ AV.aN (AV.aO f l),L<=i
 |[],j,h=>by cases h
 |x::l,j,h=>by
  rw [AV.aO,AV.aN,List.mem_append] at h;rcases h with h|h
  ·exact Lg hf x j h
  ·exact nQ hf l j h
end
theorem eQ.mv {b bx:List (List AV)} {f:Nat->Nat} (hb:∀(j:Nat) (z:List AV),b[j]?=some z->bx[f j]?=some (AV.aO f z)) {kids:List Nd} {kc:AV} {I:List Nat} (h:eQ b kids kc I):eQ bx kids (AV.bK f kc) (I.map f):=by
 rcases h with ⟨g1,rfl,rfl⟩|⟨g1,q,cc,J,rfl,rfl,g2,g3⟩
 ·exact .inl ⟨g1,rfl,rfl⟩
 ·exact .inr ⟨g1,f q,AV.aO f cc,J.map f,rfl,rfl,hb _ _ g2,eF.mv hb g3⟩
theorem eQ.kc {b:List (List AV)} {kids:List Nd} {kc:AV} {I:List Nat} (h:eQ b kids kc I):kc.one=true∧kc.flat=true∧wv kc=true∧kc.bY=kc:=by rcases h with ⟨g1,rfl,rfl⟩|⟨g1,q,cc,J,rfl,rfl,g2,g3⟩<;>exact ⟨rfl,rfl,rfl,rfl⟩
mutual
theorem aaz {f:Nat->Nat} {n:Nat}:∀(x:AV),(∀j ∈ AV.ids x,f j<n)->∀i ∈ AV.ids (AV.bK f x),i<n
 |.ptr i o,hf,j,h=>by rw [AV.bK,AV.ids,List.mem_singleton] at h;rw [h];exact hf i (by rw [AV.ids];exact List.mem_singleton.2 rfl)
 |.bU i e z n,hf,j,h=>by rw [AV.bK,AV.ids,List.mem_singleton] at h;rw [h];exact hf i (by rw [AV.ids];exact List.mem_singleton.2 rfl)
 |.sl n l,hf,j,h=>by rw [AV.bK,AV.ids] at h;rw [AV.ids] at hf;exact qU l hf j h
 |.row e z n l,hf,j,h=>by rw [AV.bK,AV.ids] at h;rw [AV.ids] at hf;exact qU l hf j h
 |.el l,hf,j,h=>by rw [AV.bK,AV.ids] at h;rw [AV.ids] at hf;exact qU l hf j h
 |.agg l,hf,j,h=>by rw [AV.bK,AV.ids] at h;rw [AV.ids] at hf;exact qU l hf j h
 |.bX l,hf,j,h=>by rw [AV.bK,AV.ids] at h;rw [AV.ids] at hf;exact qU l hf j h
 |.fn g l,hf,j,h=>by rw [AV.bK,AV.ids] at h;rw [AV.ids] at hf;exact qU l hf j h
 |.bool _,hf,j,h=>by cases h
 |.int _ _,hf,j,h=>by cases h
 |.str _,hf,j,h=>by cases h
 |.nil,hf,j,h=>by cases h
 |.nz _,hf,j,h=>by cases h
 |.nP _,hf,j,h=>by cases h
 |.low _ _ _,hf,j,h=>by cases h
 |.bad,hf,j,h=>by cases h
theorem qU {f:Nat->Nat} {n:Nat}:∀(l:List AV),(∀j ∈ AV.aN l,f j<n)->∀i ∈ AV.aN (AV.aO f l),i<n
 |[],hf,j,h=>by cases h
 |x::l,hf,j,h=>by
  rw [AV.aO,AV.aN,List.mem_append] at h;rcases h with h|h
  ·exact aaz x (fun k hk=>hf k (by rw [AV.aN];exact List.mem_append_left _ hk)) j h
  ·exact qU l (fun k hk=>hf k (by rw [AV.aN];exact List.mem_append_right _ hk)) j h
end
def xP (b:List (List AV)):Prop:=∀z ∈ b,∀i ∈ AV.aN z,i<b.length
theorem zN {l:List Nat} (L:Nat) (h:l.Nodup):(l.map fun j=>L+j).Nodup:=List.Pairwise.map _ (fun a b hn e=>hn oM) h
theorem xP.app {a b:List (List AV)} (ha:xP a) (hb:xP b):xP (a++b.map (AV.aO fun j=>a.length+j)):=by
 intro z hz i hi;rw [List.length_append,List.length_map];rcases List.mem_append.1 hz with hz|hz
 ·have:=ha z hz i hi;omega
 ·obtain ⟨y,hy,rfl⟩:=List.mem_map.1 hz;exact qU y (fun j hj=>by have:=hb y hy j hj;omega) i hi
theorem xP.one {a:List (List AV)} {c:List AV} (ha:xP a) (hc:∀i ∈ AV.aN c,i<a.length):xP (a++[c]):=by
 intro z hz i hi;rw [List.length_append,List.length_singleton];rcases List.mem_append.1 hz with hz|hz
 ·have:=ha z hz i hi;omega
 ·rw [List.mem_singleton.1 hz] at hi;have:=hc i hi;omega
theorem xP.set {a:List (List AV)} {q:Nat} {c:List AV} (ha:xP a) (hc:∀i ∈ AV.aN c,i<a.length):xP (a.set q c):=by
 intro z hz i hi;rw [List.length_set];rcases List.mem_or_eq_of_mem_set hz with hz|rfl
 ·exact ha z hz i hi
 ·exact hc i hi
theorem xP.facts {a b:List (List AV)} {q:Nat} {c:List AV} (ha:xP a) (hl:b.length=a.length) (hq:b[q]?=some c) (ho:∀j,j≠q->b[j]?=a[j]?) (hc:∀i ∈ AV.aN c,i<a.length):xP b:=by
 intro z hz i hi;rw [hl];obtain ⟨j,hj⟩:=List.getElem?_of_mem hz;by_cases e:j=q
 ·rw [e,hq] at hj;cases hj;exact hc i hi
 ·rw [ho j e] at hj;exact ha z (List.mem_of_getElem? hj) i hi
theorem xP.more {a b:List (List AV)} {c:List AV} (ha:xP a) (hl:b.length=a.length+1) (hq:b[a.length]?=some c) (ho:∀j,j<a.length->b[j]?=a[j]?) (hc:∀i ∈ AV.aN c,i<a.length):xP b:=by
 intro z hz i hi;rw [hl];obtain ⟨j,hj⟩:=List.getElem?_of_mem hz;have hjl:=(List.getElem?_eq_some_iff.1 hj).1;by_cases e:j=a.length
 ·rw [e,hq] at hj;cases hj;have:=hc i hi;omega
 ·rw [ho j oM] at hj;have:=ha z (List.mem_of_getElem? hj) i hi;omega
theorem GZ {k y p b:Int} {an tg tx:ByteArray} {kc lc fc:AV} {h:Bool} {tr:ByteArray} (h1:AV.ids lc=[]) (h2:AV.ids fc=[]):AV.aN (Ce.mk k y p b an tg tx kc lc fc h tr).l=AV.ids kc:=by rw [oN];simp only [h1,h2,List.append_nil]
theorem ajf {a b c d:Bool} (h1:a=true) (h2:b=true) (h3:c=true) (h4:d=true):(((a && b) && c) && d)=true:=by rw [h1,h2,h3,h4];rfl
theorem y7 (l:List Cm):(cs l).flat=true:=jv l
theorem Ms {k y p b:Int} {an tg tx:ByteArray} {kc:AV} {l1 l2:List Cm} {h:Bool} {tr:ByteArray} (g1:kc.one=true) (g2:kc.flat=true) (g3:wv kc=true):dI (Ce.mk k y p b an tg tx kc (cs l1) (cs l2) h tr).l=true∧AV.ak (Ce.mk k y p b an tg tx kc (cs l1) (cs l2) h tr).l=true∧dQ (Ce.mk k y p b an tg tx kc (cs l1) (cs l2) h tr).l=true:=by
 have h1:(cs l1).one=true:=rfl;have h2:(cs l2).one=true:=rfl;refine ⟨?_,?_,?_⟩
 ·simp only [Ce.l,dI,g1,h1,h2];rfl
 ·simp only [Ce.l,AV.ak,AV.flat,g2,y7,Bool.and_self]
 ·rw [dB];intro v hv;simp only [Ce.l,List.mem_cons,List.not_mem_nil,or_false] at hv;rcases hv with rfl|rfl|rfl|rfl|rfl|rfl|rfl|rfl|rfl|rfl|rfl|rfl<;>first|exact ⟨g1,g3⟩|exact ⟨rfl,sM _⟩|exact ⟨rfl,rfl⟩
theorem aT.YZ {P:Program} {σ τ:aJ} {o:Oper} {base:Nat} {ops:Array Oper} {g:Nat} {cap ys:List AV} {r:AV} {nb:List (List AV)} (HC:aW P g ys [] r nb) (hg:o.guard=none) {c:Call} {f:Operand} (ho:o.op=.call c) (hc:c.callee=.value f) (hv:val σ.tm f=.fn g cap) (hcf:AV.ak cap=true)
  (hys:ys=(c.args.toList.map (val σ.tm)).map AV.bY++cap) (hyi:AV.aN ys=[]) (hτ:τ=⟨dW σ.tm o.dst (r.bK fun j=>σ.bx.length+j),σ.bx++nb.map (AV.aO fun j=>σ.bx.length+j)⟩):aT P base ops o σ τ:=by
 subst hτ;exact aT.We HC hg ho hc hv hcf hys hyi
theorem eF.ak {b:List (List AV)}:∀{l:List Nd} {c:List AV} {J:List Nat},eF b l c J->AV.ak c=true
 |[],c,J,h=>by obtain ⟨rfl,-⟩:=fJ.1 h;rfl
 |x::l,c,J,h=>by obtain ⟨c1,c2,J1,J2,rfl,-,h1,h2⟩:=dm.1 h;obtain ⟨kc,rfl,hk⟩:=gF.1 h1;cases x;exact dX (Ms hk.kc.1 hk.kc.2.1 hk.kc.2.2.1).2.1 (eF.ak h2)
theorem BX {f:Nat->Nat} {b:List (List AV)} (h:aV b=true):aV (b.map (AV.aO f))=true:=bg.2 fun c hc=>by obtain ⟨z,hz,rfl⟩:=List.mem_map.1 hc;exact Bf (bg.1 h z hz)
theorem tY (x:Nd):AV.aN (bF x)=[]:=jr (bE (jk x))
def Uu (m:Nat):aC:=fun args bx K=>match args,bx with
 |[.agg c0],[]=>∃nd:Nd,c0=bF nd∧(fD nd<=m∧iI nd<=9000000000∧fD nd<=9000000000)∧∀(kc:AV) (b:List (List AV)) (I:List Nat),eQ b nd.kids kc I->I.Nodup->xP b->K (.agg (nd.ce kc).l) b
 |_,_=>False
def J8 (nd:Nd) (σ:aJ):Prop:=∃(kc:AV) (z1:List AV) (bx1:List (List AV)) (I:List Nat),σ=⟨[(2,.ptr 1 0),(1,.ptr 0 0)],bx1⟩∧bx1[0]?=some (Ce.mk nd.k nd.y nd.p nd.b nd.an nd.tg nd.tx kc (cr nd.lead) (cr nd.ae) nd.h nd.tr).l∧bx1[1]?=some z1∧z1.length=12∧eQ bx1 nd.kids kc I∧I.Nodup∧(∀i ∈ I,2<=i)∧xP bx1
def Vx (c:Code):Code:=
 match c with
 |.seq _ (.seq _ (.seq _ (.seq _ (.seq _ t))))=>t
 |c=>c
def jQ (J:Code->aJ->Prop) (y:Code) (e:wL) (τ:aJ):Prop:=
 match e with
 |.normal=>J y τ
 |_=>False
def U5 (c:Code):Code:=
 match c with
 |.seq _ (.seq _ t)=>t
 |c=>c
structure LF (L8:AV) (E:List (List AV)):Prop where
 cell:∀{k y p b:Int} {an tg tx:ByteArray} {kc:AV} {ae:List Cm} {h:Bool} {tr:ByteArray} {i:Nat},i ∈ AV.aN (Ce.mk k y p b an tg tx kc L8 (cr ae) h tr).l->i ∈ AV.ids kc∨i<2+E.length
 E:∀z ∈ E,AV.aN z=[]
theorem LF.row (l:List Cm):LF (cr l) []:=⟨fun hi=>by rw [GZ (kS _) (kS _)] at hi;exact .inl hi,fun z hz=>by cases hz⟩
def ahh:=fN 41 Tryz.f41 34 [.cell 2 35]
def J8R (nd:Nd) (L8:AV) (E:List (List AV)) (σ:aJ):Prop:=∃(kc:AV) (z1:List AV) (bx1:List (List AV)) (I:List Nat),σ=⟨[(2,.ptr 1 0),(1,.ptr 0 0)],bx1⟩∧bx1[0]?=some (Ce.mk nd.k nd.y nd.p nd.b nd.an nd.tg nd.tx kc L8 (cr nd.ae) nd.h nd.tr).l∧bx1[1]?=some z1∧z1.length=12∧eQ bx1 nd.kids kc I∧I.Nodup∧(∀i ∈ I,2+E.length<=i)∧xP bx1∧(∀(j:Nat) (z:List AV),E[j]?=some z->bx1[2+j]?=some z)∧(∀(j:Nat) (z:List AV),2+E.length<=j->bx1[j]?=some z->∀i ∈ AV.aN z,2+E.length<=i)
def CIR (kids:List Nd) (N Z1:List AV) (E:List (List AV)) (j:Nat) (τ:aJ):Prop:=∃(a r:List Nd) (v3:AV) (bx1:List (List AV)),kids=a++r∧j=r.length∧τ=⟨[(21,.int .i64 a.length),(20,.int .i64 kids.length),(19,.sl kids.length (au kids)),(3,v3),(2,.ptr 1 0),(1,.ptr 0 0)],bx1⟩∧bx1[0]?=some N∧bx1[1]?=some Z1∧xP bx1∧
 ((a=[]∧v3=.row 35 12 0 [])∨(0<a.length∧∃q ca J,v3=.bU q 35 12 a.length∧2+E.length<=q∧bx1[q]?=some ca∧eF bx1 a ca J∧(q::J).Nodup∧(∀i ∈ J,2+E.length<=i)∧∀z ∈ bx1,q ∉ AV.aN z))∧2+E.length<=bx1.length∧(∀(j:Nat) (z:List AV),E[j]?=some z->bx1[2+j]?=some z)∧(∀(j:Nat) (z:List AV),2+E.length<=j->bx1[j]?=some z->∀i ∈ AV.aN z,2+E.length<=i)
theorem M0 {m:Nat} (ih:aC.OK Tryz.prog 41 (Uu m)) {J:Code->aJ->Prop} (hseq:∀(x y:Code) (σ:aJ),WP Tryz.prog 34 0 x σ (jQ J y)->J (.seq x y) σ) {k y p bb:Int} {an tg tx:ByteArray} {kids:List Nd} {lead ae:List Cm} {hh:Bool} {tr:ByteArray} {L8:AV} {E:List (List AV)} (hL:LF L8 E) {Z0:List AV} (hZl:Z0.length=12) (hZi:AV.aN Z0=[]) (hm:bS kids<=m) (hn:cK kids<=9000000000) (hz:bS kids<=9000000000)
  (hend:∀σ,J8R (.mk k y p bb an tg tx kids lead ae hh tr) L8 E σ->J (Vx (Tryz.f41.body.getD .skip)) σ):pq (U5 (Tryz.f41.body.getD .skip)) fun c=>J c ⟨[(2,.ptr 1 0),(1,.ptr 0 0)],(Ce.mk k y p bb an tg tx (.sl kids.length (au kids)) L8 (cr ae) hh tr).l::Z0::E⟩:=by
 have B:=V.base af.nil;have zE:Ev _ _ _ (aH 41) [] []:=⟨B⟩;have hzl:=sw kids;obtain ⟨d,hd1,hd2,hd3⟩:=amf;have akS:AV.ids (.sl kids.length (au kids))=[]:=by rw [AV.ids];exact jr (bE (ai kids))
 have hP0:2+E.length<=((Ce.mk k y p bb an tg tx (.sl kids.length (au kids)) L8 (cr ae) hh tr).l::Z0::E).length:=by rw [List.length_cons,List.length_cons];omega
 have hE0:∀(j:Nat) (z:List AV),E[j]?=some z->((Ce.mk k y p bb an tg tx (.sl kids.length (au kids)) L8 (cr ae) hh tr).l::Z0::E)[2+j]?=some z:=fun j z h=>by rw [show 2+j=j+1+1 from by omega,List.getElem?_cons_succ,List.getElem?_cons_succ];exact h
 have hB0:∀(j:Nat) (z:List AV),2+E.length<=j->((Ce.mk k y p bb an tg tx (.sl kids.length (au kids)) L8 (cr ae) hh tr).l::Z0::E)[j]?=some z->∀i ∈ AV.aN z,2+E.length<=i:=fun j z hj hz=>by have:=(List.getElem?_eq_some_iff.1 hz).1;rw [List.length_cons,List.length_cons] at this;omega
 have hcl0:xP ((Ce.mk k y p bb an tg tx (.sl kids.length (au kids)) L8 (cr ae) hh tr).l::Z0::E):=by
  intro z hz i hi;rw [List.length_cons,List.length_cons];rcases List.mem_cons.1 hz with rfl|hz
  ·rcases hL.cell hi with h|h
   ·rw [akS] at h;cases h
   ·omega
  ·rcases List.mem_cons.1 hz with rfl|hz
   ·rw [hZi] at hi;cases hi
   ·rw [hL.E z hz] at hi;cases hi
 conv=>whnf
 refine hseq _ _ _ ?_;refine WP.steps (aH 41) (τ:=⟨[(17,.sl 0 []),(16,.int .i64 kids.length),(15,.sl kids.length (au kids)),(14,.ptr 0 7),(3,.row 35 12 0 []),(2,.ptr 1 0),(1,.ptr 0 0)],((Ce.mk k y p bb an tg tx (.sl kids.length (au kids)) L8 (cr ae) hh tr).l::Z0::E)⟩) ⟨⟨[(14,.ptr 0 7),(2,.ptr 1 0),(1,.ptr 0 0)],((Ce.mk k y p bb an tg tx (.sl kids.length (au kids)) L8 (cr ae) hh tr).l::Z0::E)⟩,aT.core tok bM rfl ⟨[],[],0⟩ (ids:=[]) (cs:=[]) rfl rfl rfl rfl (by unfold fin;simp only [aK,List.append_nil];rfl),⟨[(15,.sl kids.length (au kids)),(14,.ptr 0 7),(2,.ptr 1 0),(1,.ptr 0 0)],((Ce.mk k y p bb an tg tx (.sl kids.length (au kids)) L8 (cr ae) hh tr).l::Z0::E)⟩,aT.core tok bM rfl ⟨[],[],0⟩ (ids:=[0]) (cs:=[(Ce.mk k y p bb an tg tx (.sl kids.length (au kids)) L8 (cr ae) hh tr).l]) rfl rfl rfl rfl (by unfold fin;simp only [List.append_nil];rfl),⟨[(16,.int .i64 kids.length),(15,.sl kids.length (au kids)),(14,.ptr 0 7),(2,.ptr 1 0),(1,.ptr 0 0)],((Ce.mk k y p bb an tg tx (.sl kids.length (au kids)) L8 (cr ae) hh tr).l::Z0::E)⟩,aT.core tok bM rfl ⟨[],[],0⟩ (ids:=[]) (cs:=[]) rfl rfl rfl rfl (by unfold fin;simp only [aK,List.append_nil];rfl),⟨[(17,.row 35 12 0 []),(16,.int .i64 kids.length),(15,.sl kids.length (au kids)),(14,.ptr 0 7),(2,.ptr 1 0),(1,.ptr 0 0)],((Ce.mk k y p bb an tg tx (.sl kids.length (au kids)) L8 (cr ae) hh tr).l::Z0::E)⟩,aT.akt (kn:=.i64) (kc:=.i64) (c':=kids.length) tok rfl rfl hd1 rfl rfl oM oM hd2 (by rw [hd3];rfl),⟨[(17,.sl 0 []),(16,.int .i64 kids.length),(15,.sl kids.length (au kids)),(14,.ptr 0 7),(3,.row 35 12 0 []),(2,.ptr 1 0),(1,.ptr 0 0)],((Ce.mk k y p bb an tg tx (.sl kids.length (au kids)) L8 (cr ae) hh tr).l::Z0::E)⟩,aT.core tok bM rfl ⟨[],[],0⟩ (ids:=[]) (cs:=[]) rfl rfl rfl rfl (by unfold fin;simp only [aK,List.append_nil];rfl),rfl⟩ (fun hσ=>⟨by rfl,hσ.bx⟩) ?_;have h00:((Ce.mk k y p bb an tg tx (.sl kids.length (au kids)) L8 (cr ae) hh tr).l::Z0::E)[0]?=some (Ce.mk k y p bb an tg tx (.sl kids.length (au kids)) L8 (cr ae) hh tr).l:=rfl;have h01:((Ce.mk k y p bb an tg tx (.sl kids.length (au kids)) L8 (cr ae) hh tr).l::Z0::E)[1]?=some Z0:=rfl;generalize ((Ce.mk k y p bb an tg tx (.sl kids.length (au kids)) L8 (cr ae) hh tr).l::Z0::E)=bx0 at hP0 hE0 hB0 hcl0 h00 h01⊢
 conv=>whnf
 repeat' (first
 |(with_reducible refine hseq _ _ _ ?_)
 |((with_reducible refine (?_:∃c:List AV,_∧_));refine ⟨_,h00,?_⟩;(conv=>whnf))
 |((with_reducible refine (?_:∀(k:Nat) (τ:aJ),CIR _ _ _ _ k τ->_));refine aR.get ?_)
 |refine nX ?_;conv=>whnf
 |(with_reducible refine (?_:wv _=true->aV _=true->_));intro hwr hwb
 |(with_reducible refine (?_:aV _=true->_));intro hw;conv=>whnf
 |with_reducible assumption
 |((with_reducible refine (?_:WP _ _ _ (.loop _) _ _));refine WP.loop (CIR kids (Ce.mk k y p bb an tg tx (.sl kids.length (au kids)) L8 (cr ae) hh tr).l Z0 E) ⟨[],kids,_,_,rfl,rfl,rfl,h00,h01,hcl0,.inl ⟨rfl,rfl⟩,hP0,hE0,hB0⟩ ?_)
 |(first|with_reducible refine aX ho ?_|with_reducible refine aQ ho ?_|with_reducible refine aD ho ?_|with_reducible refine ay ho ?_|with_reducible refine az ?_);conv=>whnf
 |with_reducible refine And.intro ?_ ?_
 |exact cL
 |(with_reducible intro h);first|(cases h;done)|(try simp only [lG,reduceCtorEq] at h);first|done|(exfalso;omega)|replace h:=h trivial aZ|replace h:=h aZ|skip
 |fail)
 refine aR.mk ?_;rintro j τ ⟨a,r,v3,bx1,hkk,rfl,rfl,h0,h1,Tv,hc,hPl,Qd,Zf⟩;have hkl:kids.length=a.length+r.length:=by rw [hkk,List.length_append]
 rcases r with _|⟨x,r⟩
 ·rw [List.append_nil] at hkk;subst hkk;have hl1:=(List.getElem?_eq_some_iff.1 h1).1;rcases hc with ⟨rfl,rfl⟩|⟨ha,q,ca,J',rfl,hq2,hq,hF,hnd,hJ2,hno⟩
  ·skip
   repeat' (first
   |((with_reducible refine (?_:J (.seq (.region 9 _ _) _) _));refine hend _ ?_)
   |(with_reducible refine hseq _ _ _ ?_)
   |((with_reducible refine (?_:∃c:List AV,_∧_));refine ⟨_,(by first|exact h0|exact h1|exact hL),?_⟩;(conv=>whnf))
   |((with_reducible refine (?_:WP _ _ _ (.region 6 _ _) _ _));refine aR.get ?_)
   |refine nX ?_;conv=>whnf
   |(with_reducible refine (?_:wv _=true->aV _=true->_));intro hwr hwb
   |(with_reducible refine (?_:aV _=true->_));intro hw;conv=>whnf
   |with_reducible assumption
   |((with_reducible intro h);exfalso;simp at h;done)
   |((with_reducible refine gQ.mk (i:=0) ?_);intro b9 Ej h9 ug;(conv=>whnf))
   |(first|with_reducible refine aX ho ?_|with_reducible refine aQ ho ?_|with_reducible refine aD ho ?_|with_reducible refine ay ho ?_|with_reducible refine az ?_);conv=>whnf
   |with_reducible refine And.intro ?_ ?_
   |exact cL
   |(with_reducible intro h);first|(cases h;done)|(try simp only [lG,reduceCtorEq] at h);first|done|(exfalso;omega)|replace h:=h trivial aZ|replace h:=h aZ|skip
   |fail)
   replace h9:b9[0]?=some (Ce.mk k y p bb an tg tx (.sl 0 []) L8 (cr ae) hh tr).l:=h9;refine ⟨.sl 0 [],Z0,b9,[],rfl,h9,(ug 1 dE).trans h1,hZl,.inl ⟨rfl,rfl,rfl⟩,.nil,fun i hi=>(by cases hi),Tv.facts Ej h9 ug (fun i hi=>?_),fun j z hj=>(ug (2+j) oM).trans (Qd j z hj),fun j z hj hz=>Zf j z hj ((ug j oM).symm.trans hz)⟩;rcases hL.cell (kc:=.sl 0 []) hi with h|h
   ·cases h
   ·omega
  ·skip
   repeat' (first
   |((with_reducible refine (?_:J (.seq (.region 9 _ _) _) _));refine hend _ ?_)
   |(with_reducible refine hseq _ _ _ ?_)
   |((with_reducible refine (?_:∃c:List AV,_∧_));refine ⟨_,(by first|exact h0|exact h1|exact hL),?_⟩;(conv=>whnf))
   |((with_reducible refine (?_:WP _ _ _ (.region 6 _ _) _ _));refine aR.get ?_)
   |refine nX ?_;conv=>whnf
   |(with_reducible refine (?_:wv _=true->aV _=true->_));intro hwr hwb
   |(with_reducible refine (?_:aV _=true->_));intro hw;conv=>whnf
   |with_reducible assumption
   |((with_reducible intro h);exfalso;simp at h;done)
   |((with_reducible refine gQ.mk (i:=0) ?_);intro b9 Ej h9 ug;(conv=>whnf))
   |(first|with_reducible refine aX ho ?_|with_reducible refine aQ ho ?_|with_reducible refine aD ho ?_|with_reducible refine ay ho ?_|with_reducible refine az ?_);conv=>whnf
   |with_reducible refine And.intro ?_ ?_
   |exact cL
   |(with_reducible intro h);first|(cases h;done)|(try simp only [lG,reduceCtorEq] at h);first|done|(exfalso;omega)|replace h:=h trivial aZ|replace h:=h aZ|skip
   |fail)
   replace ug:∀j,j≠0->b9[j]?=bx1[j]?:=ug;replace h9:b9[0]?=some (Ce.mk k y p bb an tg tx (.bU q 35 12 kids.length) L8 (cr ae) hh tr).l:=h9;have Gz:=(List.getElem?_eq_some_iff.1 hq).1;refine ⟨.bU q 35 12 kids.length,Z0,b9,q::J',rfl,h9,(ug 1 dE).trans h1,hZl,.inr ⟨ha,q,ca,J',rfl,rfl,(ug q oM).trans hq,hF.fr fun i hi=>ug i (by have:=hJ2 i hi;omega)⟩,hnd,fun i hi=>?_,Tv.facts Ej h9 ug (fun i hi=>?_),fun j z hj=>(ug (2+j) oM).trans (Qd j z hj),fun j z hj hz=>Zf j z hj ((ug j oM).symm.trans hz)⟩
   ·rcases List.mem_cons.1 hi with rfl|hi
    ·exact hq2
    ·exact hJ2 i hi
   ·rcases hL.cell (kc:=.bU q 35 12 kids.length) hi with h|h
    ·rw [AV.ids,List.mem_singleton] at h;omega
    ·omega
 ·rw [List.length_cons] at hkl;have hl1:=(List.getElem?_eq_some_iff.1 h1).1;have hcn:cK kids=cK a+(iI x+cK r):=by rw [hkk,iV,cK]
  have hsz:bS kids=bS a+(fD x+bS r):=by rw [hkk,gB,bS]
  repeat' (first
  |(with_reducible refine hseq _ _ _ ?_)
  |((with_reducible refine (?_:∃c:List AV,_∧_));refine ⟨_,(by first|exact h0|exact h1|exact hL),?_⟩;(conv=>whnf))
  |((with_reducible refine (?_:WP _ _ _ (.region 6 _ _) _ _));refine aR.get ?_)
  |refine nX ?_;conv=>whnf
  |(with_reducible refine (?_:wv _=true->aV _=true->_));intro hwr hwb
  |(with_reducible refine (?_:aV _=true->_));intro hw;conv=>whnf
  |with_reducible assumption
  |((with_reducible intro h);exfalso;simp at h;done)
  |((with_reducible refine (?_:∃x r,List.drop _ (au _)=x++r∧_));refine ⟨bF x,au r,(by show List.drop _ (au kids)=_;rw [hkk];exact iA oM),rfl,?_⟩)
  |((with_reducible refine (?_:_<List.length (au _)));rw [bT];omega)
  |((with_reducible refine Kr.mk ?_);intro b5 hl5 hL AU;(conv=>whnf))
  |((with_reducible refine gQ.mk (i:=bx1.length) ?_);intro b6 NS hL6 xD;(conv=>whnf))
  |(first|with_reducible refine aX ho ?_|with_reducible refine aQ ho ?_|with_reducible refine aD ho ?_|with_reducible refine ay ho ?_|with_reducible refine az ?_);conv=>whnf
  |with_reducible refine And.intro ?_ ?_
  |exact cL
  |(with_reducible intro h);first|(cases h;done)|(try simp only [lG,reduceCtorEq] at h);first|done|(exfalso;omega)|replace h:=h trivial aZ|replace h:=h aZ|skip
  |fail)
  replace NS:b6.length=b5.length:=NS;replace xD:∀j,j≠bx1.length->b6[j]?=b5[j]?:=xD;replace hL6:b6[bx1.length]?=some (bF x):=hL6;have h06:=((xD 0 oM).trans (AU 0 oM)).trans h0;have h16:=((xD 1 oM).trans (AU 1 oM)).trans h1;refine aR.mk ?_;obtain ⟨rr,nb,hcall,apj,agx,hKK⟩:=ih [.agg (bF x)] [] (fun _ _=>True) ⟨x,rfl,⟨oM,oM,oM⟩,fun _ _ _ _ _ _=>trivial⟩;obtain ⟨qZ,Ix,rfl,hkx,agL,ak1⟩:=hKK (fun r b=>∃kc I,r=.agg (x.ce kc).l∧eQ b x.kids kc I∧I.Nodup∧xP b) ⟨x,rfl,⟨oM,oM,oM⟩,fun kc b I g1 g2 g3=>⟨kc,I,rfl,g1,g2,g3⟩⟩;have hL5:bx1.length<b6.length:=oM;obtain ⟨xk,xy,xp,xb,lC,lv,lq,kQ,bZ,cz,xh,lu⟩:=x;have hcon:bn b6 [bx1.length]=some [bF (Nd.mk xk xy xp xb lC lv lq kQ bZ cz xh lu)]:=by rw [bn,hL6];rfl
  have agF:AV.bK (fun j=>b6.length+j) (.agg ((Nd.mk xk xy xp xb lC lv lq kQ bZ cz xh lu).ce qZ).l)=.agg (Ce.mk xk xy xp xb lC lv lq (AV.bK (fun j=>b6.length+j) qZ) (cs bZ) (cs cz) xh lu).l:=by rw [AV.bK,Um];rfl
  have akT:∀(j:Nat) (z:List AV),nb[j]?=some z->(b6++nb.map (AV.aO fun j=>b6.length+j))[b6.length+j]?=some (AV.aO (fun j=>b6.length+j) z):=fun j z hj=>by rw [List.getElem?_append_right oM,show b6.length+j-b6.length=j from by omega,List.getElem?_map,hj];rfl
  have WK:=hkx.mv (bx:=(b6++nb.map (AV.aO fun j=>b6.length+j))) (f:=fun j=>b6.length+j) akT;obtain ⟨hC1,hC2,hC3⟩:=Ms (k:=xk) (y:=xy) (p:=xp) (b:=xb) (an:=lC) (tg:=lv) (tx:=lq) (l1:=bZ) (l2:=cz) (h:=xh) (tr:=lu) WK.kc.1 WK.kc.2.1 WK.kc.2.2.1;have Ph:xP b6:=(Tv.more hl5 hL AU (fun i hi=>by cases hi)).facts oM hL6 xD (fun i hi=>by rw [tY] at hi;cases hi);have WV:xP (b6++nb.map (AV.aO fun j=>b6.length+j)):=Ph.app ak1;have hCl:∀i ∈ AV.aN (Ce.mk xk xy xp xb lC lv lq (AV.bK (fun j=>b6.length+j) qZ) (cs bZ) (cs cz) xh lu).l,i<(b6++nb.map (AV.aO fun j=>b6.length+j)).length:=fun i hi=>by rw [GZ (dM _) (dM _)] at hi;exact WK.lt i (WK.ids i hi)
  have h7:∀j,j<b6.length->(b6++nb.map (AV.aO fun j=>b6.length+j))[j]?=b6[j]?:=fun j hj=>List.getElem?_append_left hj;have hI7:∀i ∈ Ix.map (fun j=>b6.length+j),b6.length<=i:=fun i hi=>by obtain ⟨j,-,rfl⟩:=List.mem_map.1 hi;omega
  have hCi:∀i ∈ AV.aN (Ce.mk xk xy xp xb lC lv lq (AV.bK (fun j=>b6.length+j) qZ) (cs bZ) (cs cz) xh lu).l,b6.length<=i:=fun i hi=>by rw [oN] at hi;simp only [dM,List.append_nil] at hi;exact Lg (fun j=>by omega) qZ i hi
  have S9:∀j,j<bx1.length->b6[j]?=bx1[j]?:=fun j hj=>(xD j oM).trans (AU j hj);have hB7:∀(j:Nat) (z:List AV),2+E.length<=j->(b6++nb.map (AV.aO fun j=>b6.length+j))[j]?=some z->∀i ∈ AV.aN z,2+E.length<=i:=fun j z hj hz i hi=>by
   by_cases hj6:j<b6.length
   ·rw [List.getElem?_append_left hj6] at hz;by_cases hjb:j=bx1.length
    ·rw [hjb,hL6] at hz;cases hz;rw [tY] at hi;cases hi
    ·rw [S9 j oM] at hz;exact Zf j z hj hz i hi
   ·rw [List.getElem?_append_right oM,List.getElem?_map] at hz;cases hz0:nb[j-b6.length]? with
    |none=>rw [hz0] at hz;cases hz
    |some z0=>
     rw [hz0] at hz;cases hz;have:=nQ (f:=fun j=>b6.length+j) (L:=b6.length) (fun j=>by omega) z0 i hi;omega
  rcases hc with ⟨rfl,rfl⟩|⟨ha,q,ca,J',rfl,hq2,hq,hF,hnd,hJ2,hno⟩
  ·skip
   refine WP.steps (aH 41) (τ:=⟨[(29,.bU (b6++nb.map (AV.aO fun j=>b6.length+j)).length 35 12 1),(28,.row 35 12 1 (Ce.mk xk xy xp xb lC lv lq (AV.bK (fun j=>b6.length+j) qZ) (cs bZ) (cs cz) xh lu).l),(27,.agg (Ce.mk xk xy xp xb lC lv lq (AV.bK (fun j=>b6.length+j) qZ) (cs bZ) (cs cz) xh lu).l),(26,.agg (bF (Nd.mk xk xy xp xb lC lv lq kQ bZ cz xh lu))),(25,.sl 0 []),(21,.int .i64 ([]:List Nd).length),(20,.int .i64 kids.length),(19,.sl kids.length (au kids)),(5,.ptr bx1.length 0),(3,.bU (b6++nb.map (AV.aO fun j=>b6.length+j)).length 35 12 1),(2,.ptr 1 0),(1,.ptr 0 0)],((b6++nb.map (AV.aO fun j=>b6.length+j))++[(Ce.mk xk xy xp xb lC lv lq (AV.bK (fun j=>b6.length+j) qZ) (cs bZ) (cs cz) xh lu).l])⟩) ⟨⟨[(25,.row 35 12 0 []),(21,.int .i64 ([]:List Nd).length),(20,.int .i64 kids.length),(19,.sl kids.length (au kids)),(5,.ptr bx1.length 0),(3,.sl 0 []),(2,.ptr 1 0),(1,.ptr 0 0)],b6⟩,aT.core tok bM rfl ⟨[25],[29],0⟩ (ids:=[]) (cs:=[]) rfl rfl rfl rfl (by unfold fin;simp only [aK,List.append_nil];rfl),⟨[(26,.agg (bF (Nd.mk xk xy xp xb lC lv lq kQ bZ cz xh lu))),(25,.row 35 12 0 []),(21,.int .i64 ([]:List Nd).length),(20,.int .i64 kids.length),(19,.sl kids.length (au kids)),(5,.ptr bx1.length 0),(3,.sl 0 []),(2,.ptr 1 0),(1,.ptr 0 0)],b6⟩,aT.core tok bM rfl ⟨[25],[29],0⟩ (ids:=[bx1.length]) (cs:=[bF (Nd.mk xk xy xp xb lC lv lq kQ bZ cz xh lu)]) rfl hcon rfl rfl (by unfold fin;simp only [uk hcon,List.append_nil];rfl),⟨[(27,.agg (Ce.mk xk xy xp xb lC lv lq (AV.bK (fun j=>b6.length+j) qZ) (cs bZ) (cs cz) xh lu).l),(26,.agg (bF (Nd.mk xk xy xp xb lC lv lq kQ bZ cz xh lu))),(25,.row 35 12 0 []),(21,.int .i64 ([]:List Nd).length),(20,.int .i64 kids.length),(19,.sl kids.length (au kids)),(5,.ptr bx1.length 0),(3,.sl 0 []),(2,.ptr 1 0),(1,.ptr 0 0)],(b6++nb.map (AV.aO fun j=>b6.length+j))⟩,aT.YZ (ys:=[.agg (bF (Nd.mk xk xy xp xb lC lv lq kQ bZ cz xh lu))]) hcall rfl rfl rfl rfl rfl rfl (by rw [AV.aN,AV.ids,tY];rfl) (by rw [agF];rfl),⟨[(28,.row 35 12 1 (Ce.mk xk xy xp xb lC lv lq (AV.bK (fun j=>b6.length+j) qZ) (cs bZ) (cs cz) xh lu).l),(27,.agg (Ce.mk xk xy xp xb lC lv lq (AV.bK (fun j=>b6.length+j) qZ) (cs bZ) (cs cz) xh lu).l),(26,.agg (bF (Nd.mk xk xy xp xb lC lv lq kQ bZ cz xh lu))),(25,.row 35 12 0 []),(21,.int .i64 ([]:List Nd).length),(20,.int .i64 kids.length),(19,.sl kids.length (au kids)),(5,.ptr bx1.length 0),(3,.sl 0 []),(2,.ptr 1 0),(1,.ptr 0 0)],(b6++nb.map (AV.aO fun j=>b6.length+j))⟩,aT.core tok bM rfl ⟨[25],[29],0⟩ (ids:=[]) (cs:=[]) rfl rfl rfl (ajf rfl hC1 hC2 rfl) (by unfold fin;simp only [aK];exact congrArg (aJ.mk _) (List.append_nil _).symm),⟨[(29,.bU (b6++nb.map (AV.aO fun j=>b6.length+j)).length 35 12 1),(28,.row 35 12 1 (Ce.mk xk xy xp xb lC lv lq (AV.bK (fun j=>b6.length+j) qZ) (cs bZ) (cs cz) xh lu).l),(27,.agg (Ce.mk xk xy xp xb lC lv lq (AV.bK (fun j=>b6.length+j) qZ) (cs bZ) (cs cz) xh lu).l),(26,.agg (bF (Nd.mk xk xy xp xb lC lv lq kQ bZ cz xh lu))),(25,.sl 0 []),(21,.int .i64 ([]:List Nd).length),(20,.int .i64 kids.length),(19,.sl kids.length (au kids)),(5,.ptr bx1.length 0),(3,.sl 0 []),(2,.ptr 1 0),(1,.ptr 0 0)],((b6++nb.map (AV.aO fun j=>b6.length+j))++[(Ce.mk xk xy xp xb lC lv lq (AV.bK (fun j=>b6.length+j) qZ) (cs bZ) (cs cz) xh lu).l])⟩,aT.app tok rfl (dd:=29) rfl rfl rfl rfl rfl ⟨[25],[29],0⟩ rfl ((XQ rfl rfl rfl hC1 hC2).trans (by rfl)),⟨[(29,.bU (b6++nb.map (AV.aO fun j=>b6.length+j)).length 35 12 1),(28,.row 35 12 1 (Ce.mk xk xy xp xb lC lv lq (AV.bK (fun j=>b6.length+j) qZ) (cs bZ) (cs cz) xh lu).l),(27,.agg (Ce.mk xk xy xp xb lC lv lq (AV.bK (fun j=>b6.length+j) qZ) (cs bZ) (cs cz) xh lu).l),(26,.agg (bF (Nd.mk xk xy xp xb lC lv lq kQ bZ cz xh lu))),(25,.sl 0 []),(21,.int .i64 ([]:List Nd).length),(20,.int .i64 kids.length),(19,.sl kids.length (au kids)),(5,.ptr bx1.length 0),(3,.bU (b6++nb.map (AV.aO fun j=>b6.length+j)).length 35 12 1),(2,.ptr 1 0),(1,.ptr 0 0)],((b6++nb.map (AV.aO fun j=>b6.length+j))++[(Ce.mk xk xy xp xb lC lv lq (AV.bK (fun j=>b6.length+j) qZ) (cs bZ) (cs cz) xh lu).l])⟩,aT.core tok bM rfl ⟨[25],[29],0⟩ (ids:=[]) (cs:=[]) rfl rfl rfl rfl (by unfold fin;simp only [aK,List.append_nil];rfl),rfl⟩ ?_ ?_
   ·intro hσ;refine ⟨?_,ko (ko hσ.bx (BX agx)) (by rw [aV,hC3];rfl)⟩;show ni [(21,.int .i64 ([]:List Nd).length),(20,.int .i64 kids.length),(19,.sl kids.length (au kids)),(3,.bU (b6++nb.map (AV.aO fun j=>b6.length+j)).length 35 12 1),(2,.ptr 1 0),(1,.ptr 0 0)]=true;simp [ni,wv,ai]
   ·conv=>whnf
    repeat' (first
    |(with_reducible refine hseq _ _ _ ?_)
    |((with_reducible refine (?_:∃c:List AV,_∧_));refine ⟨_,(by first|exact h0|exact h1|exact hL),?_⟩;(conv=>whnf))
    |refine nX ?_;conv=>whnf
    |(with_reducible refine (?_:wv _=true->aV _=true->_));intro hwr hwb
    |(with_reducible refine (?_:aV _=true->_));intro hw;conv=>whnf
    |with_reducible assumption
    |((with_reducible intro h);exfalso;simp at h;done)
    |((with_reducible refine (?_:∃(j:Nat) (τ':aJ),_));refine aR.get ?_)
    |(first|with_reducible refine aX ho ?_|with_reducible refine aQ ho ?_|with_reducible refine aD ho ?_|with_reducible refine ay ho ?_|with_reducible refine az ?_);conv=>whnf
    |with_reducible refine And.intro ?_ ?_
    |exact cL
    |(with_reducible intro h);first|(cases h;done)|(try simp only [lG,reduceCtorEq] at h);first|done|(exfalso;omega)|replace h:=h trivial aZ|replace h:=h aZ|skip
    |fail)
    have hBl:(b6++nb.map (AV.aO fun j=>b6.length+j)).length=b6.length+nb.length:=by rw [List.length_append,List.length_map]
    refine aR.mk ⟨r.length,_,by simp,Rx.prune [1,2,3,19,20,21],[(Nd.mk xk xy xp xb lC lv lq kQ bZ cz xh lu)],r,.bU (b6++nb.map (AV.aO fun j=>b6.length+j)).length 35 12 1,(b6++nb.map (AV.aO fun j=>b6.length+j))++[(Ce.mk xk xy xp xb lC lv lq (AV.bK (fun j=>b6.length+j) qZ) (cs bZ) (cs cz) xh lu).l],by rw [hkk];rfl,rfl,rfl,?_,?_,WV.one hCl,.inr ⟨by simp,(b6++nb.map (AV.aO fun j=>b6.length+j)).length,(Ce.mk xk xy xp xb lC lv lq (AV.bK (fun j=>b6.length+j) qZ) (cs bZ) (cs cz) xh lu).l,Ix.map (fun j=>b6.length+j),rfl,oM,?_,eF.one (gF.2 ⟨_,rfl,WK.fr fun i hi=>List.getElem?_append_left (WK.lt i hi)⟩),List.nodup_cons.2 ⟨fun e=>?_,?_⟩,fun i hi=>by have:=hI7 i hi;omega,?_⟩,by rw [List.length_append];omega,fun j z hj=>?_,fun j z hj hz i hi=>?_⟩
    ·rw [List.getElem?_append_left oM,h7 0 oM];exact h06
    ·rw [List.getElem?_append_left oM,h7 1 oM];exact h16
    ·rw [List.getElem?_append_right (Nat.le_refl _),Nat.sub_self];rfl
    ·have:=WK.lt _ e;omega
    ·exact zN _ agL
    ·intro z hz e;rcases List.mem_append.1 hz with hz|hz
     ·have:=WV z hz _ e;omega
     ·rw [List.mem_singleton.1 hz] at e;have:=hCl _ e;omega
    ·have hjl:=(List.getElem?_eq_some_iff.1 hj).1;rw [List.getElem?_append_left oM,h7 _ oM];exact (S9 _ oM).trans (Qd j z hj)
    ·by_cases hjb:j<(b6++nb.map (AV.aO fun j=>b6.length+j)).length
     ·rw [List.getElem?_append_left hjb] at hz;exact hB7 j z hj hz i hi
     ·have hjl:=(List.getElem?_eq_some_iff.1 hz).1;rw [List.length_append,List.length_singleton] at hjl;rw [List.getElem?_append_right oM,show j-(b6++nb.map (AV.aO fun j=>b6.length+j)).length=0 from by omega] at hz;cases hz;have:=hCi i hi;omega
  ·have Gz:=(List.getElem?_eq_some_iff.1 hq).1;have hq6:b6[q]?=some ca:=((xD q oM).trans (AU q Gz)).trans hq;have hq7:(b6++nb.map (AV.aO fun j=>b6.length+j))[q]?=some ca:=(h7 q oM).trans hq6;have hCi:∀i ∈ AV.aN (Ce.mk xk xy xp xb lC lv lq (AV.bK (fun j=>b6.length+j) qZ) (cs bZ) (cs cz) xh lu).l,b6.length<=i:=fun i hi=>by rw [oN] at hi;simp only [dM,List.append_nil] at hi;exact Lg (fun j=>by omega) qZ i hi
   have hqn:q ∉ AV.aN (ca++(Ce.mk xk xy xp xb lC lv lq (AV.bK (fun j=>b6.length+j) qZ) (cs bZ) (cs cz) xh lu).l):=fun e=>by
    rw [dA] at e;rcases List.mem_append.1 e with e|e
    ·exact hno ca (List.mem_of_getElem? hq) e
    ·have:=hCi q e;omega
   have ak4:=hF.ak;have agJ:∀z ∈ (b6++nb.map (AV.aO fun j=>b6.length+j)),q ∉ AV.aN z:=fun z hz e=>by
    rcases List.mem_append.1 hz with hz|hz
    ·obtain ⟨j,hj⟩:=List.getElem?_of_mem hz;have hj6:=(List.getElem?_eq_some_iff.1 hj).1;by_cases ej:j=bx1.length
     ·rw [ej,hL6] at hj;cases hj;rw [tY] at e;cases e
     ·rw [xD j ej,AU j oM] at hj;exact hno z (List.mem_of_getElem? hj) e
    ·obtain ⟨z0,-,rfl⟩:=List.mem_map.1 hz;have:=nQ (f:=fun j=>b6.length+j) (L:=b6.length) (fun j=>by omega) z0 q e;omega
   have hk1:eB q (.row 35 12 1 (Ce.mk xk xy xp xb lC lv lq (AV.bK (fun j=>b6.length+j) qZ) (cs bZ) (cs cz) xh lu).l)=.row 35 12 1 (Ce.mk xk xy xp xb lC lv lq (AV.bK (fun j=>b6.length+j) qZ) (cs bZ) (cs cz) xh lu).l:=nZ (by rw [AV.ids];exact fun e=>by have:=hCi q e;omega);have hk2:eB q (.agg (Ce.mk xk xy xp xb lC lv lq (AV.bK (fun j=>b6.length+j) qZ) (cs bZ) (cs cz) xh lu).l)=.agg (Ce.mk xk xy xp xb lC lv lq (AV.bK (fun j=>b6.length+j) qZ) (cs bZ) (cs cz) xh lu).l:=nZ (by rw [AV.ids];exact fun e=>by have:=hCi q e;omega);have hk3:eB q (.agg (bF (Nd.mk xk xy xp xb lC lv lq kQ bZ cz xh lu)))=.agg (bF (Nd.mk xk xy xp xb lC lv lq kQ bZ cz xh lu)):=nZ (by rw [AV.ids,tY];exact fun e=>by cases e);have hk4:eB q (.sl kids.length (au kids))=.sl kids.length (au kids):=nZ (by rw [AV.ids,jr (bE (ai kids))];exact fun e=>by cases e);have hk5:eB q (.ptr bx1.length 0)=.ptr bx1.length 0:=nZ (by rw [AV.ids,List.mem_singleton];omega);have hk6:eB q (.bU q 35 12 a.length)=.bad:=by unfold eB;rw [AV.ids];simp [mem]
   have hk8:eB q (.ptr 1 0)=.ptr 1 0:=nZ (by rw [AV.ids,List.mem_singleton];omega);have Ti:eB q (.ptr 0 0)=.ptr 0 0:=nZ (by rw [AV.ids,List.mem_singleton];omega);refine WP.steps (aH 41) (τ:=⟨[(29,.bU q 35 12 (a.length+1)),(28,.row 35 12 1 (Ce.mk xk xy xp xb lC lv lq (AV.bK (fun j=>b6.length+j) qZ) (cs bZ) (cs cz) xh lu).l),(27,.agg (Ce.mk xk xy xp xb lC lv lq (AV.bK (fun j=>b6.length+j) qZ) (cs bZ) (cs cz) xh lu).l),(26,.agg (bF (Nd.mk xk xy xp xb lC lv lq kQ bZ cz xh lu))),(25,.bad),(21,.int .i64 a.length),(20,.int .i64 kids.length),(19,.sl kids.length (au kids)),(5,.ptr bx1.length 0),(3,.bU q 35 12 (a.length+1)),(2,.ptr 1 0),(1,.ptr 0 0)],((b6++nb.map (AV.aO fun j=>b6.length+j)).set q (ca++(Ce.mk xk xy xp xb lC lv lq (AV.bK (fun j=>b6.length+j) qZ) (cs bZ) (cs cz) xh lu).l))⟩) ⟨⟨[(25,.bU q 35 12 a.length),(21,.int .i64 a.length),(20,.int .i64 kids.length),(19,.sl kids.length (au kids)),(5,.ptr bx1.length 0),(3,.bU q 35 12 a.length),(2,.ptr 1 0),(1,.ptr 0 0)],b6⟩,aT.core tok bM rfl ⟨[25],[29],0⟩ (ids:=[]) (cs:=[]) rfl rfl rfl rfl (by unfold fin;simp only [aK,List.append_nil];rfl),⟨[(26,.agg (bF (Nd.mk xk xy xp xb lC lv lq kQ bZ cz xh lu))),(25,.bU q 35 12 a.length),(21,.int .i64 a.length),(20,.int .i64 kids.length),(19,.sl kids.length (au kids)),(5,.ptr bx1.length 0),(3,.bU q 35 12 a.length),(2,.ptr 1 0),(1,.ptr 0 0)],b6⟩,aT.core tok bM rfl ⟨[25],[29],0⟩ (ids:=[bx1.length]) (cs:=[bF (Nd.mk xk xy xp xb lC lv lq kQ bZ cz xh lu)]) rfl hcon rfl rfl (by unfold fin;simp only [uk hcon,List.append_nil];rfl),⟨[(27,.agg (Ce.mk xk xy xp xb lC lv lq (AV.bK (fun j=>b6.length+j) qZ) (cs bZ) (cs cz) xh lu).l),(26,.agg (bF (Nd.mk xk xy xp xb lC lv lq kQ bZ cz xh lu))),(25,.bU q 35 12 a.length),(21,.int .i64 a.length),(20,.int .i64 kids.length),(19,.sl kids.length (au kids)),(5,.ptr bx1.length 0),(3,.bU q 35 12 a.length),(2,.ptr 1 0),(1,.ptr 0 0)],(b6++nb.map (AV.aO fun j=>b6.length+j))⟩,aT.YZ (ys:=[.agg (bF (Nd.mk xk xy xp xb lC lv lq kQ bZ cz xh lu))]) hcall rfl rfl rfl rfl rfl rfl (by rw [AV.aN,AV.ids,tY];rfl) (by rw [agF];rfl),⟨[(28,.row 35 12 1 (Ce.mk xk xy xp xb lC lv lq (AV.bK (fun j=>b6.length+j) qZ) (cs bZ) (cs cz) xh lu).l),(27,.agg (Ce.mk xk xy xp xb lC lv lq (AV.bK (fun j=>b6.length+j) qZ) (cs bZ) (cs cz) xh lu).l),(26,.agg (bF (Nd.mk xk xy xp xb lC lv lq kQ bZ cz xh lu))),(25,.bU q 35 12 a.length),(21,.int .i64 a.length),(20,.int .i64 kids.length),(19,.sl kids.length (au kids)),(5,.ptr bx1.length 0),(3,.bU q 35 12 a.length),(2,.ptr 1 0),(1,.ptr 0 0)],(b6++nb.map (AV.aO fun j=>b6.length+j))⟩,aT.core tok bM rfl ⟨[25],[29],0⟩ (ids:=[]) (cs:=[]) rfl rfl rfl (ajf rfl hC1 hC2 rfl) (by unfold fin;simp only [aK];exact congrArg (aJ.mk _) (List.append_nil _).symm),⟨[(29,.bU q 35 12 (a.length+1)),(28,.row 35 12 1 (Ce.mk xk xy xp xb lC lv lq (AV.bK (fun j=>b6.length+j) qZ) (cs bZ) (cs cz) xh lu).l),(27,.agg (Ce.mk xk xy xp xb lC lv lq (AV.bK (fun j=>b6.length+j) qZ) (cs bZ) (cs cz) xh lu).l),(26,.agg (bF (Nd.mk xk xy xp xb lC lv lq kQ bZ cz xh lu))),(25,.bad),(21,.int .i64 a.length),(20,.int .i64 kids.length),(19,.sl kids.length (au kids)),(5,.ptr bx1.length 0),(3,.bad),(2,.ptr 1 0),(1,.ptr 0 0)],((b6++nb.map (AV.aO fun j=>b6.length+j)).set q (ca++(Ce.mk xk xy xp xb lC lv lq (AV.bK (fun j=>b6.length+j) qZ) (cs bZ) (cs cz) xh lu).l))⟩,aT.app tok rfl (dd:=29) rfl rfl rfl rfl rfl ⟨[25],[29],0⟩ rfl ((XT (n:=a.length) rfl rfl rfl hC1 hC2 hq7 (Nat.zero_le _) oM hF.len hqn ak4).trans (by rw [aa6 agJ];simp only [kill,List.map_cons,List.map_nil,hk1,hk2,hk3,hk4,hk5,hk6,hk8,Ti];rfl)),⟨[(29,.bU q 35 12 (a.length+1)),(28,.row 35 12 1 (Ce.mk xk xy xp xb lC lv lq (AV.bK (fun j=>b6.length+j) qZ) (cs bZ) (cs cz) xh lu).l),(27,.agg (Ce.mk xk xy xp xb lC lv lq (AV.bK (fun j=>b6.length+j) qZ) (cs bZ) (cs cz) xh lu).l),(26,.agg (bF (Nd.mk xk xy xp xb lC lv lq kQ bZ cz xh lu))),(25,.bad),(21,.int .i64 a.length),(20,.int .i64 kids.length),(19,.sl kids.length (au kids)),(5,.ptr bx1.length 0),(3,.bU q 35 12 (a.length+1)),(2,.ptr 1 0),(1,.ptr 0 0)],((b6++nb.map (AV.aO fun j=>b6.length+j)).set q (ca++(Ce.mk xk xy xp xb lC lv lq (AV.bK (fun j=>b6.length+j) qZ) (cs bZ) (cs cz) xh lu).l))⟩,aT.core tok bM rfl ⟨[25],[29],0⟩ (ids:=[]) (cs:=[]) rfl rfl rfl rfl (by unfold fin;simp only [aK,List.append_nil];rfl),rfl⟩ ?_ ?_
   ·intro hσ;refine ⟨?_,lT (ko hσ.bx (BX agx)) (bH (KP hσ.bx hq6) hC3)⟩;show ni [(21,.int .i64 a.length),(20,.int .i64 kids.length),(19,.sl kids.length (au kids)),(3,.bU q 35 12 (a.length+1)),(2,.ptr 1 0),(1,.ptr 0 0)]=true;simp [ni,wv,ai]
   ·conv=>whnf
    repeat' (first
    |(with_reducible refine hseq _ _ _ ?_)
    |((with_reducible refine (?_:∃c:List AV,_∧_));refine ⟨_,(by first|exact h0|exact h1|exact hL),?_⟩;(conv=>whnf))
    |refine nX ?_;conv=>whnf
    |(with_reducible refine (?_:wv _=true->aV _=true->_));intro hwr hwb
    |(with_reducible refine (?_:aV _=true->_));intro hw;conv=>whnf
    |with_reducible assumption
    |((with_reducible intro h);exfalso;simp at h;done)
    |((with_reducible refine (?_:∃(j:Nat) (τ':aJ),_));refine aR.get ?_)
    |(first|with_reducible refine aX ho ?_|with_reducible refine aQ ho ?_|with_reducible refine aD ho ?_|with_reducible refine ay ho ?_|with_reducible refine az ?_);conv=>whnf
    |with_reducible refine And.intro ?_ ?_
    |exact cL
    |(with_reducible intro h);first|(cases h;done)|(try simp only [lG,reduceCtorEq] at h);first|done|(exfalso;omega)|replace h:=h trivial aZ|replace h:=h aZ|skip
    |fail)
    have hBl:(b6++nb.map (AV.aO fun j=>b6.length+j)).length=b6.length+nb.length:=by rw [List.length_append,List.length_map]
    have hset:∀j,j≠q->((b6++nb.map (AV.aO fun j=>b6.length+j)).set q (ca++(Ce.mk xk xy xp xb lC lv lq (AV.bK (fun j=>b6.length+j) qZ) (cs bZ) (cs cz) xh lu).l))[j]?=(b6++nb.map (AV.aO fun j=>b6.length+j))[j]?:=fun j hj=>List.getElem?_set_ne fun e=>hj e.symm;have hqs:((b6++nb.map (AV.aO fun j=>b6.length+j)).set q (ca++(Ce.mk xk xy xp xb lC lv lq (AV.bK (fun j=>b6.length+j) qZ) (cs bZ) (cs cz) xh lu).l))[q]?=some (ca++(Ce.mk xk xy xp xb lC lv lq (AV.bK (fun j=>b6.length+j) qZ) (cs bZ) (cs cz) xh lu).l):=List.getElem?_set_self oM;have hJq:q ∉ J':=(List.nodup_cons.1 hnd).1;have hJl:=hF.lt;have hold:∀j,j<bx1.length->(b6++nb.map (AV.aO fun j=>b6.length+j))[j]?=bx1[j]?:=fun j hj=>(h7 j oM).trans ((xD j oM).trans (AU j hj));refine aR.mk ⟨r.length,_,by simp,Rx.prune [1,2,3,19,20,21],a++[(Nd.mk xk xy xp xb lC lv lq kQ bZ cz xh lu)],r,.bU q 35 12 (a.length+1),(b6++nb.map (AV.aO fun j=>b6.length+j)).set q (ca++(Ce.mk xk xy xp xb lC lv lq (AV.bK (fun j=>b6.length+j) qZ) (cs bZ) (cs cz) xh lu).l),by rw [hkk,List.append_assoc];rfl,rfl,by rw [List.length_append];rfl,?_,?_,WV.set (fun i hi=>?_),.inr ⟨by simp,q,ca++(Ce.mk xk xy xp xb lC lv lq (AV.bK (fun j=>b6.length+j) qZ) (cs bZ) (cs cz) xh lu).l,J'++Ix.map (fun j=>b6.length+j),by rw [List.length_append];rfl,hq2,hqs,sS.2 ⟨ca,(Ce.mk xk xy xp xb lC lv lq (AV.bK (fun j=>b6.length+j) qZ) (cs bZ) (cs cz) xh lu).l,J',_,rfl,rfl,hF.fr fun i hi=>?_,eF.one (gF.2 ⟨_,rfl,WK.fr fun i hi=>hset i (by have:=hI7 i hi;omega)⟩)⟩,List.nodup_cons.2 ⟨fun e=>?_,List.nodup_append.2 ⟨(List.nodup_cons.1 hnd).2,zN _ agL,fun i hi j hj e=>?_⟩⟩,fun i hi=>?_,?_⟩,by rw [List.length_set];omega,fun j z hj=>?_,fun j z hj hz i hi=>?_⟩
    ·rw [hset 0 oM,h7 0 oM];exact h06
    ·rw [hset 1 oM,h7 1 oM];exact h16
    ·rw [dA] at hi;rcases List.mem_append.1 hi with hi|hi
     ·exact WV ca (List.mem_of_getElem? hq7) i hi
     ·exact hCl i hi
    ·exact (hset i (fun e=>hJq (e▸hi))).trans (hold i (hJl i hi))
    ·rcases List.mem_append.1 e with e|e
     ·exact hJq e
     ·have:=hI7 q e;omega
    ·have:=hJl i hi;have:=hI7 j hj;omega
    ·rcases List.mem_append.1 hi with hi|hi
     ·exact hJ2 i hi
     ·have:=hI7 i hi;omega
    ·intro z hz e;rcases List.mem_or_eq_of_mem_set hz with hz|rfl
     ·exact agJ z hz e
     ·exact hqn e
    ·have hjl:=(List.getElem?_eq_some_iff.1 hj).1;rw [hset _ oM,h7 _ oM];exact (S9 _ oM).trans (Qd j z hj)
    ·by_cases hjq:j=q
     ·rw [hjq,hqs] at hz;cases hz;rw [dA] at hi;rcases List.mem_append.1 hi with hi|hi
      ·exact Zf q ca hq2 hq i hi
      ·have:=hCi i hi;omega
     ·rw [hset j hjq] at hz;exact hB7 j z hj hz i hi
theorem ZZ {m:Nat} (ih:aC.OK Tryz.prog 41 (Uu m)) {J:Code->aJ->Prop} (hseq:∀(x y:Code) (σ:aJ),WP Tryz.prog 34 0 x σ (jQ J y)->J (.seq x y) σ) {k y p bb:Int} {an tg tx:ByteArray} {kids:List Nd} {lead ae:List Cm} {hh:Bool} {tr:ByteArray} (hm:fD (.mk k y p bb an tg tx kids lead ae hh tr)<=m+1) (hn:iI (.mk k y p bb an tg tx kids lead ae hh tr)<=9000000000) (hz:fD (.mk k y p bb an tg tx kids lead ae hh tr)<=9000000000)
  (hend:∀σ,J8 (.mk k y p bb an tg tx kids lead ae hh tr) σ->J (Vx (Tryz.f41.body.getD .skip)) σ):Jo [.agg (bF (.mk k y p bb an tg tx kids lead ae hh tr))] fun tm=>pq (Tryz.f41.body.getD .skip) fun c=>J c ⟨tm,[]⟩:=by
 rw [fD] at hm hz;rw [iI] at hn;have hn1:lead.length<=10000000000:=oM;have hn2:ae.length<=10000000000:=oM;have B:=V.base (af.cons akl af.nil)
 conv=>whnf
 repeat' (first
 |((with_reducible refine (?_:J (.seq (.region 2 _ _) _) _));refine aR.get ?_)
 |(with_reducible refine hseq _ _ _ ?_)
 |((with_reducible refine (?_:∃t:List Cm,(_∧_)∧_));(first|refine ⟨lead,⟨rfl,rfl⟩,hn1,?_⟩|refine ⟨ae,⟨rfl,rfl⟩,hn2,?_⟩);(conv=>whnf))
 |with_reducible refine WP.seq ?_
 |(with_reducible first|refine Go.mk ?_|refine WP.oC B (aH 41) ?_|refine WP.draw B (aH 41) ?_|refine WP.cond ?_|refine WP.exit ?_|refine WP.skip ?_|refine WP.ret ?_);conv=>whnf
 |with_reducible refine WP.block ?_
 |with_reducible assumption
 |with_reducible refine And.intro ?_ ?_
 |exact cL
 |(with_reducible intro h);first|(cases h;done)|(try simp only [lG,reduceCtorEq] at h);first|done|(exfalso;omega)|replace h:=h trivial aZ|replace h:=h aZ|skip
 |fail)
 refine aR.mk ?_;exact iU (M0 (k:=k) (y:=y) (p:=p) (bb:=bb) (an:=an) (tg:=tg) (tx:=tx) (kids:=kids) (lead:=lead) (ae:=ae) (hh:=hh) (tr:=tr) ih hseq (LF.row lead) (Z0:=[.int .i64 0,.int .i64 0,.int .i64 0,.int .i64 0,.str ByteArray.empty,.str ByteArray.empty,.str ByteArray.empty,.nil,.nil,.nil,.bool false,.str ByteArray.empty]) rfl rfl oM oM oM fun σ hJ=>hend σ (by
  obtain ⟨kc,z1,bx1,I,q1,q2,q3,q4,q5,q6,q7,q8,-,-⟩:=hJ;exact ⟨kc,z1,bx1,I,q1,q2,q3,q4,q5,q6,q7,q8⟩))
variable {P : Program} {T : jL} {sp : Sp} {n0 base : Nat} {σ τ : aJ} {Q : wL -> aJ -> Prop} {cal : xR}
def vB (T:jL) (rs:List ResultVar) (n:Nat) (G:AV->List (List AV)->Prop) (e:wL) (τ:aJ):Prop:=(e=.normal∨e=.ret)∧∃vs,qG T n τ rs=some vs∧gZ vs=true∧n<=τ.bx.length∧G (jg vs) τ.bx
theorem Xh (HT:kN P T) {f:Nat} {fn:Func} {c:Code} (hf:P.funcs[f]?=some fn) (hg:o9 fn=true) (hb:fn.body=some c) {args:List AV} {bx:List (List AV)} (ha:gZ args=true) (hbx:aV bx=true) {G:AV->List (List AV)->Prop} (h:WP P fn.ntmps bx.length c ⟨params [] 0 args,bx⟩ (vB T fn.results.toList bx.length G)):∃r bx',aW P f args bx r bx'∧wv r=true∧aV bx'=true∧G r bx':=by
 unfold o9 at hg;rw [Bool.and_eq_true] at hg;obtain ⟨hg1,hg2⟩:=hg;rw [hb] at hg2;obtain ⟨e,σ,h1,h2,he,vs,q1,q2,q3,q4⟩:=WP.out h hg2 ⟨nA ha rfl,hbx⟩;refine ⟨jg vs,σ.bx,?_,qd q2,h2.bx,q4⟩;refine ⟨⟨fn,hf,by simpa using hg1,by rw [hb];rfl⟩,q3,fun lim bs w ws m hl hm H=>?_⟩;refine calls_of_wp hf hb ?_;have hsz:fn.ntmps<=(ws.toArray++Array.replicate (fn.ntmps-ws.toArray.size) undef).size:=iw;have hbs:bs.length=bx.length:=H.len;refine h1 (m:=m) hsz (Nat.le_refl _) (iy hl H) hm fun lim' bs' w' a' hgo=>?_;obtain ⟨u,u1,u2⟩:=eU (fn:=fn) HT hgo.hold q1;have hpost:a'.defers=[]∧∃v,(results fn a'.tmps).run P w'=.ok v w'∧(∃v' lim' bs',Ending.returned v=.returned v'∧aM lim' bs' w' σ.bx (rS (jg vs) v') m∧Fr m lim w lim' w'∧∀i,i<bx.length->bs'[i]?=bs[i]?):=by refine ⟨hgo.df,u,u1,u,lim',bs',rfl,u2,hgo.fr,fun i hi=>?_⟩;have hib:i<bs.length:=oM;rw [hgo.pre i _ hi (List.getElem?_eq_getElem hib),List.getElem?_eq_getElem hib]
 rcases he with rfl|rfl
 ·exact hpost
 ·exact hpost
theorem Fn.okN {f:Nat} {fn:Func} {c:Code} {n0:Nat} {rs:List ResultVar} (F:Fn Tryz.prog f fn c n0 rs) {mY:aC} {args:List AV} {bx:List (List AV)} (ha:gZ args=true) (hbx:aV bx=true) (h:Jo args fun tm=>pq c fun c=>WP Tryz.prog n0 bx.length c ⟨tm,bx⟩ (vB gW rs bx.length fun r b=>∀K,mY args bx K->K r b)):∃r bx',aW Tryz.prog f args bx r bx'∧wv r=true∧aV bx'=true∧∀K,mY args bx K->K r bx':=by have h:=iU (yD h);rw [←F.nt,←F.rs] at h;exact Xh tok F.at_ F.jA F.body ha hbx h
theorem Wt {J:Code->aJ->Prop} {y:Code} (h:∀τ,J y τ->WP P n0 base y τ Q) {e:wL} {τ:aJ} (hj:jQ J y e τ):QN P n0 base y Q e τ:=by
 cases e with
 |normal=>exact h τ hj
 |exit i=>exact hj.elim
 |ret=>exact hj.elim
theorem aeq {kc:AV} {x:Nd} {bx:List (List AV)} (h1:bx[1]?=some (x.ce kc).l) (hk:kc.bY=kc):qG gW 0 ⟨[(2,.ptr 1 0)],bx⟩ [.cell 2 35]=some [.agg (x.ce kc).l]:=by
 obtain ⟨k,y,p,b,an,tg,tx,kids,lead,ae,h,tr⟩:=x;have e1:AP gW 0 ⟨[(2,.ptr 1 0)],bx⟩ (.cell 2 35)=some (.agg ((Nd.mk k y p b an tg tx kids lead ae h tr).ce kc).l):=by show (eO (bx[1]?) fun c=>_)=_;rw [h1];show some (AV.agg [_,_,_,_,_,_,_,kc.bY,_,_,_,_])=_;rw [hk];rfl
 unfold qG;rw [e1];rfl
theorem afc {m:Nat} (ih:aC.OK Tryz.prog 41 (Uu m)):aC.OK Tryz.prog 41 (Uu (m+1)):=by
 intro args bx K0 Dh;unfold Uu at Dh;split at Dh
 ·rename_i c0;obtain ⟨nd,rfl,⟨hm,hn,hz⟩,-⟩:=Dh;obtain ⟨k,y,p,bb,an,tg,tx,kids,lead,ae,hh,tr⟩:=nd;refine ahh.okN (by rw [gZ,gZ,Bool.and_true];exact bJ (jk _)) rfl ?_;refine ZZ ih (J:=fun c σ=>WP Tryz.prog 34 0 c σ (vB gW [.cell 2 35] 0 fun r b=>∀K,Uu (m+1) [.agg (bF (.mk k y p bb an tg tx kids lead ae hh tr))] [] K->K r b)) (fun x y σ h=>WP.seq (h.mono fun e τ hj=>Wt (fun τ h=>h) hj)) hm hn hz ?_;rintro σ ⟨kc,z1,bx1,I,rfl,h0,h1,hz1,hk,hnd,hI2,hcl⟩;have B:=V.base af.nil;have zE:Ev _ _ _ (aH 41) [] []:=⟨B⟩;have hz:=hz1;obtain ⟨a1,a2,a3,a4,a5,a6,a7,a8,a9,P8,a11,a12,rfl⟩:∃a1 a2 a3 a4 a5 a6 a7 a8 a9 P8 a11 a12:AV,z1=[a1,a2,a3,a4,a5,a6,a7,a8,a9,P8,a11,a12]:=by
   rcases z1 with _|⟨a1,_|⟨a2,_|⟨a3,_|⟨a4,_|⟨a5,_|⟨a6,_|⟨a7,_|⟨a8,_|⟨a9,_|⟨P8,_|⟨a11,_|⟨a12,_|⟨a13,t⟩⟩⟩⟩⟩⟩⟩⟩⟩⟩⟩⟩⟩<;>first|exact ⟨_,_,_,_,_,_,_,_,_,_,_,_,rfl⟩|(simp at hz1;done)|(simp only [List.length_cons] at hz1;omega)
  have hk0:=hk;have hfin:∀{e:wL} {b9:List (List AV)},e=.normal∨e=.ret->b9.length=bx1.length->b9[1]?=some ((Nd.mk k y p bb an tg tx kids lead ae hh tr).ce kc).l->(∀j,j≠1->b9[j]?=bx1[j]?)->vB gW [.cell 2 35] 0 (fun r b=>∀K,Uu (m+1) [.agg (bF (.mk k y p bb an tg tx kids lead ae hh tr))] [] K->K r b) e ⟨[(2,.ptr 1 0)],b9⟩:=by
   intro e b9 he Ej h9 ug;have Ti:eQ b9 kids kc I:=hk0.fr fun i hi=>ug i (by have:=hI2 i hi;omega);refine ⟨he,_,aeq h9 Ti.kc.2.2.2,?_,Nat.zero_le _,fun K hK=>?_⟩
   ·have e2:=(Ms (k:=k) (y:=y) (p:=p) (b:=bb) (an:=an) (tg:=tg) (tx:=tx) (l1:=lead) (l2:=ae) (h:=hh) (tr:=tr) Ti.kc.1 Ti.kc.2.1 Ti.kc.2.2.1);rw [gZ,gZ,Bool.and_true];show qI (Ce.mk k y p bb an tg tx kc (cs lead) (cs ae) hh tr).l=true;exact iB.2 fun v hv=>⟨(by obtain ⟨i,hi⟩:=List.getElem?_of_mem hv;exact eH e2.2.1 hi),(dB.1 e2.2.2 v hv).1,(dB.1 e2.2.2 v hv).2⟩
   ·obtain ⟨nd',e1,-,hK⟩:=hK;have e3:=tX e1;subst e3;refine hK kc b9 I Ti hnd (hcl.facts Ej h9 ug fun i hi=>?_);rw [show (((Nd.mk k y p bb an tg tx kids lead ae hh tr).ce kc).l)=(Ce.mk k y p bb an tg tx kc (cs lead) (cs ae) hh tr).l from rfl,GZ (dM _) (dM _)] at hi;exact hk0.lt i (hk0.ids i hi)
  rcases hk with ⟨g1,rfl,rfl⟩|⟨g1,q,cc,J,rfl,rfl,g2,g3⟩
  ·have key:pq (Vx (Tryz.f41.body.getD .skip)) fun c=>WP Tryz.prog 34 0 c ⟨[(2,.ptr 1 0),(1,.ptr 0 0)],bx1⟩ (vB gW [.cell 2 35] 0 fun r b=>∀K,Uu (m+1) [.agg (bF (.mk k y p bb an tg tx kids lead ae hh tr))] [] K->K r b):=by
    conv=>whnf
    repeat' (first
    |((with_reducible refine (?_:∃c:List AV,_∧_));refine ⟨_,(by first|exact h0|exact h1),?_⟩;(conv=>whnf))
    |refine nX ?_;conv=>whnf
    |(with_reducible refine (?_:wv _=true->aV _=true->_));intro hwr hwb
    |(with_reducible refine (?_:aV _=true->_));intro hw;conv=>whnf
    |with_reducible assumption
    |((with_reducible refine gQ.mk (i:=1) ?_);intro b9 Ej h9 ug;(conv=>whnf))
    |(first|with_reducible refine aX ho ?_|with_reducible refine aQ ho ?_|with_reducible refine aD ho ?_|with_reducible refine ay ho ?_|with_reducible refine az ?_);conv=>whnf
    |with_reducible refine And.intro ?_ ?_
    |exact cL
    |(with_reducible intro h);first|(cases h;done)|(try simp only [lG,reduceCtorEq] at h);first|done|(exfalso;omega)|replace h:=h trivial aZ|replace h:=h aZ|skip
    |fail)
    ·exact .inr rfl
    ·exact (hfin (e:=.ret) (.inr rfl) Ej h9 ug).2
   exact iU key
  ·have key:pq (Vx (Tryz.f41.body.getD .skip)) fun c=>WP Tryz.prog 34 0 c ⟨[(2,.ptr 1 0),(1,.ptr 0 0)],bx1⟩ (vB gW [.cell 2 35] 0 fun r b=>∀K,Uu (m+1) [.agg (bF (.mk k y p bb an tg tx kids lead ae hh tr))] [] K->K r b):=by
    conv=>whnf
    repeat' (first
    |((with_reducible refine (?_:∃c:List AV,_∧_));refine ⟨_,(by first|exact h0|exact h1),?_⟩;(conv=>whnf))
    |refine nX ?_;conv=>whnf
    |(with_reducible refine (?_:wv _=true->aV _=true->_));intro hwr hwb
    |(with_reducible refine (?_:aV _=true->_));intro hw;conv=>whnf
    |with_reducible assumption
    |((with_reducible refine gQ.mk (i:=1) ?_);intro b9 Ej h9 ug;(conv=>whnf))
    |(first|with_reducible refine aX ho ?_|with_reducible refine aQ ho ?_|with_reducible refine aD ho ?_|with_reducible refine ay ho ?_|with_reducible refine az ?_);conv=>whnf
    |with_reducible refine And.intro ?_ ?_
    |exact cL
    |(with_reducible intro h);first|(cases h;done)|(try simp only [lG,reduceCtorEq] at h);first|done|(exfalso;omega)|replace h:=h trivial aZ|replace h:=h aZ|skip
    |fail)
    ·exact .inr rfl
    ·exact (hfin (e:=.ret) (.inr rfl) Ej h9 ug).2
   exact iU key
 ·exact Dh.elim
theorem afe:∀m,aC.OK Tryz.prog 41 (Uu m)
 |0=>by
  intro args bx K0 h;unfold Uu at h;split at h
  ·obtain ⟨nd,-,⟨h1,-⟩,-⟩:=h;cases nd;rw [fD] at h1;omega
  ·exact h.elim
 |m+1=>afc (afe m)
end V
namespace V
open Ab
section
variable {lim lim' : Nat -> Nat} {bs bs' : List Nat} {w w' : World} {P : Program} {T : jL} {a : Act} {o : Oper} {m : Nat -> Prop} {bx bx' : List (List AV)} {S S' : rE} {K : Act -> World -> Prop} {Q : Exit -> Act -> World -> Prop} {cal : xR} {σ σ' σ1 σ2 : aJ}
structure rJ (P:Program) (f:Nat) (args:List AV) (S:AV->List (List AV)->Prop):Prop where
 H5:X8 P f
 call:∀(lim:Nat->Nat) (bs:List Nat) (w:World) (vs:List Value) (m:Nat->Prop),vs.length=args.length->(∀b,w.heap.size<=b->m b)->aM lim bs w [] (aS args vs) m->
  Calls P f vs.toArray w fun e w'=>∃r nb v lim' bs',S r nb∧e=.returned v∧aM lim' bs' w' nb (rS r v) m∧Fr m lim w lim' w'
def fM (P:Program) (base:Nat) (ops:Array Oper) (o:Oper) (σ:aJ) (M:aJ->Prop):Prop:=∀{m:Nat->Prop} {lim:Nat->Nat} {bs:List Nat} {w:World} {a:Act} {K:Act->World->Prop} {Q:Exit->Act->World->Prop},(∀k,o.dst=some k->k<a.tmps.size)->aM lim bs w σ.bx (Sl σ.tm a) m->(∀b,w.heap.size<=b->m b)->(∀τ,M τ->jE base m lim bs w a τ K)->if Region.wanted o (yielded ops a.tmps)=true then o.wp P a w K Q else K (a.put o.dst undef) w
theorem fM.of {base:Nat} {ops:Array Oper} {M:aJ->Prop} (h:aT P base ops o σ σ1) (hM:M σ1):fM P base ops o σ M:=fun hd H hm hK=>h hd H hm (hK σ1 hM)
theorem PE {g:Nat} {cap ys:List AV} {S0:AV->List (List AV)->Prop} (H5:X8 P g)
  (hcall:∀(lim:Nat->Nat) (bs:List Nat) (w:World) (vs:List Value) (m:Nat->Prop),vs.length=ys.length->(∀b,w.heap.size<=b->m b)->aM lim bs w [] (aS ys vs) m->
   Calls P g vs.toArray w fun e w'=>∃r nb v lim' bs',S0 r nb∧e=.returned v∧aM lim' bs' w' nb (rS r v) m∧Fr m lim w lim' w')
  (H:aM lim bs w σ.bx (Sl σ.tm a) m) (hm:∀b,w.heap.size<=b->m b) (hd:∀k,o.dst=some k->k<a.tmps.size) {c:Call} {f:Operand} (ho:o.op=.call c) (hc:c.callee=.value f) (hv:val σ.tm f=.fn g cap) (hcf:AV.ak cap=true)
  (hys:ys=(c.args.toList.map (val σ.tm)).map AV.bY++cap) (hyi:AV.aN ys=[]) (hK:∀r nb,S0 r nb->∀lim' bsn w' v,Hu m lim bs w a ⟨dW σ.tm o.dst (r.bK fun j=>σ.bx.length+j),σ.bx++nb.map (AV.aO fun j=>σ.bx.length+j)⟩ lim' (bs++bsn) w' (a.put o.dst v)->K (a.put o.dst v) w'):o.wp P a w K Q:=by
 have hfr:=(nC H f).1.r;rw [hv,AV.R] at hfr;obtain ⟨vc,hfe,hcap⟩:=hfr;obtain ⟨hargs,uG⟩:=nN H c.args.toList;have hall:AV.Rs lim bs w ys (c.args.toList.map a.eval++vc.toList):=by rw [hys];exact kP hargs hcap
 have Wu:AV.ak ys=true:=by rw [hys];exact dX uG hcf
 have kX:(c.args.toList.map a.eval++vc.toList).length=ys.length:=AV.fB hall;have yN:∀(k:Nat) (x:AV) (v:Value),ys[k]?=some x->(c.args.toList.map a.eval++vc.toList)[k]?=some v->AV.R lim (([]:List Nat).map fun i=>bs.getD i 0) w x v:=by
  intro k x v hk hv;obtain ⟨v',h1,h2⟩:=kU hall hk;rw [hv] at h1;cases h1;have hxi:AV.ids x=[]:=by rw [List.eq_nil_iff_forall_not_mem];intro i hi;have:i ∈ AV.aN ys:=AV.iT.2 ⟨x,List.mem_of_getElem? hk,hi⟩;rw [hyi] at this;cases this
  have:=AV.R.bK (f:=fun i=>i) (bs':=([]:List Nat).map fun i=>bs.getD i 0) (fun i hi=>by rw [hxi] at hi;cases hi) h2
  rwa [oH (fun i hi=>rfl)] at this
 have yO:∀(k:Nat) (x:AV),ys[k]?=some x->x.flat=true:=fun k x hk=>eH Wu hk;have hE:=H.enter (ids:=[]) .nil (show bn σ.bx []=some [] from rfl) (fun c hc=>by cases hc) (args:=ys) (vs:=c.args.toList.map a.eval++vc.toList) kX yO yN;obtain ⟨HE,hE1,hE2,Xc⟩:=hE;have hrun:(execOp a.eval o).run P w=.ok (.enter g (c.args.map a.eval++vc)) w:=by unfold execOp;simp only [ho,resolve,hc,hfe,Deferred.ofValue,Sem.run_bind,Sem.run_pure,Result.andThen_ok,invoke,Array.empty_append];exact mP H5 _
 have hvs:(c.args.toList.map a.eval++vc.toList).toArray=c.args.map a.eval++vc:=by rw [←Array.toList_inj];simp
 unfold Oper.wp;rw [hrun];show Calls P g (c.args.map a.eval++vc) w _;rw [←hvs];refine (hcall lim _ w _ _ kX (fun b hb=> .inr (.inr hb)) HE).mono ?_;rintro e w' ⟨r,nb,v,lim',bsn,hS,rfl,H',GD⟩;have hL:=H.leave hm (ids:=[]) .nil (show bn σ.bx []=some [] from rfl) (bx':=nb) (Nat.zero_le _) (r:=r) (v:=v) (Sc:=aS ys (c.args.toList.map a.eval++vc.toList)) (bsc:=([]:List Nat).map fun i=>bs.getD i 0) (bsn:=bsn) (lim':=lim') (w':=w') rfl (fun i hi=>absurd hi (Nat.not_lt_zero _)) hE1 hE2 Xc H' GD o.dst;rw [Ij] at hL;simp only [List.length_nil,List.take_zero,List.map_nil,List.drop_zero,aK] at hL;obtain ⟨HL,hfl⟩:=hL;refine hK r nb hS lim' bsn w' v ⟨?_,hfl,fun i b hi=>by rw [List.getElem?_append_left (List.getElem?_eq_some_iff.1 hi).1];exact hi,bL _ _ _,put_defers _ _ _⟩;show aM lim' _ w' _ (Sl (dW σ.tm o.dst _) (a.put o.dst v)) m;rw [iE hd];exact HL
theorem fM.We {base:Nat} {ops:Array Oper} {g:Nat} {cap ys:List AV} {S0:AV->List (List AV)->Prop} {M:aJ->Prop} (HC:rJ P g ys S0) (hg:o.guard=none) {c:Call} {f:Operand} (ho:o.op=.call c) (hc:c.callee=.value f) (hv:val σ.tm f=.fn g cap) (hcf:AV.ak cap=true)
  (hys:ys=(c.args.toList.map (val σ.tm)).map AV.bY++cap) (hyi:AV.aN ys=[]) (hM:∀r nb,S0 r nb->M ⟨dW σ.tm o.dst (r.bK fun j=>σ.bx.length+j),σ.bx++nb.map (AV.aO fun j=>σ.bx.length+j)⟩):fM P base ops o σ M:=by
 intro m lim bs w a K Q hd H hm hK;rw [if_pos (by simp [Region.wanted,hg])];exact PE HC.H5 (fun lim bs w vs m h1 h2 h3=>HC.call lim bs w vs m h1 h2 h3) H hm hd ho hc hv hcf hys hyi (fun r nb hS lim' bsn w' v hg=>hK _ (hM r nb hS) _ _ _ _ hg.B)
theorem UM {base:Nat} {ops:Array Oper} {M:List (Nat×Oper)->aJ->Prop} (hko:nH ops.toList=true) (hdst:∀o ∈ ops.toList,∀k,o.dst=some k->k<a.tmps.size) {Fin:aJ->Prop} (hM0:∀σ,M [] σ->Fin σ)
  (hMs:∀(pre post:List (Nat×Oper)) (i:Nat) (o:Oper) (σ:aJ),M (pre++(i,o)::post) σ->ops[i]?=some o->(∀p ∈ pre++(i,o)::post,ops[p.1]?=some p.2)->(pre++(i,o)::post).Pairwise (fun p q=>p.1<q.1)->(∀p ∈ pre++post,((iW [] ops.toList).getD i 0).testBit p.1=false)->fM P base ops o σ (M (pre++post))):
  ∀(n:Nat) (l:List (Nat×Oper)),l.length=n->∀{lim:Nat->Nat} {bs:List Nat} {w:World} {σ:aJ} {a1:Act} {listed:Array Bool},listed.size=ops.size->l.Pairwise (fun p q=>p.1<q.1)->(∀p ∈ l,ops[p.1]?=some p.2)->(∀k,listed.getD k true=false↔∃o,(k,o) ∈ l)->
   (∀(j:Nat) (o:Oper),ops[j]?=some o->listed.getD j false=true->∀i ∈ dx o,listed.getD i false=true)->
   a1.tmps.size=a.tmps.size->aM lim bs w σ.bx (Sl σ.tm a1) m->(∀b,w.heap.size<=b->m b)->M l σ->(∀σ',Fin σ'->jE base m lim bs w a1 σ' (Q .normal))->wpAny P .any ops Q n listed a1 w:=by
 obtain ⟨hk1,hk2⟩:=og hko;have hall:∀j,ops.toList[j]?=ops[j]?:=fun j=>Array.getElem?_toList;have hpr:∀{o:Oper} {i:Nat},i ∈ dx o↔∃e ∈ o.after,Region.binds .any e=true∧e.on=i:=by
  intro o i;unfold dx;rw [List.mem_filterMap];constructor
  ·rintro ⟨e,h1,h2⟩;split at h2
   ·rename_i hb;cases h2;exact ⟨e,by simpa using h1,hb,rfl⟩
   ·cases h2
  ·rintro ⟨e,h1,h2,rfl⟩;exact ⟨e,by simpa using h1,by rw [if_pos h2]⟩
 intro n
 induction n with
 |zero=>
  intro l hl lim bs w σ a1 listed hsz hs hin hun Tt hts H hm h hK;obtain rfl:=List.eq_nil_of_length_eq_zero hl;have hfin:Fin σ:=hM0 σ h;refine ⟨?_,hK σ hfin lim bs w a1 ⟨H,Fr.refl,fun _ _ _ h=>h,rfl,rfl⟩⟩;rw [List.eq_nil_iff_forall_not_mem];intro i hi;obtain ⟨h0,-⟩:=mem_ready.1 hi;obtain ⟨o,ho⟩:=(hun i).1 h0;cases ho
 |succ n ih=>
  intro l hl lim bs w σ a1 listed hsz hs hin hun Tt hts H hm h hK;refine ⟨fun hr=>?_,fun i hi=>?_⟩
  ·
   exfalso;cases l with
   |nil=>simp at hl
   |cons p l=>
    obtain ⟨k,o⟩:=p;have zV:=hin _ List.mem_cons_self;have:k ∈ Region.ready .any ops listed:=by
     refine mem_ready.2 ⟨(hun k).2 ⟨o,List.mem_cons_self⟩,o,zV,fun e he hb=>?_⟩;have hlt:e.on<k:=hk1 k o (by rw [hall];exact zV) e.on (hpr.2 ⟨e,he,hb,rfl⟩);have agR:k<ops.size:=(Array.getElem?_eq_some_iff.1 zV).1;have hnot:¬listed.getD e.on true=false:=by
      intro hf;obtain ⟨o2,ho2⟩:=(hun e.on).1 hf;rcases List.mem_cons.1 ho2 with h1|h1
      ·cases h1;omega
      ·have:=(List.pairwise_cons.1 hs).1 _ h1;simp only at this;omega
     have hlt2:e.on<listed.size:=oM;simpa [hlt2] using hnot
    rw [hr] at this;cases this
  ·obtain ⟨h0,o,ho,AA⟩:=mem_ready.1 hi;obtain ⟨o',ho'⟩:=(hun i).1 h0;have:=hin _ ho';simp only [] at this;rw [ho] at this;cases this;obtain ⟨pre,post,rfl⟩:=List.append_of_mem ho';have hs0:=hs;rw [List.pairwise_append] at hs;obtain ⟨s1,s2,s3⟩:=hs;have vk:∀j ∈ dx o,listed.getD j false=true:=by intro j hj;obtain ⟨e,e1,e2,rfl⟩:=hpr.1 hj;exact AA e e1 e2
   have zU:∀p ∈ pre++post,((iW [] ops.toList).getD i 0).testBit p.1=false:=by
    intro p hp;cases hb:((iW [] ops.toList).getD i 0).testBit p.1 with
    |false=>rfl
    |true=>
     exfalso;have:=Hd (D:=fun k=>listed.getD k false=true) hk1 (fun j o2 hj hD=>Tt j o2 (by rw [←hall];exact hj) hD) (i+1) i o oM (by rw [hall];exact ho) vk p.1 hb;have hpl:p ∈ pre++(i,o)::post:=by
      rcases List.mem_append.1 hp with hp|hp
      ·exact List.mem_append_left _ hp
      ·exact List.mem_append_right _ (List.mem_cons_of_mem _ hp)
     have h2:=xG ((hun p.1).2 ⟨p.2,hpl⟩);rw [h2] at this;cases this
   have g1:fM P base ops o σ (M (pre++post)):=hMs pre post i o σ h ho hin hs0 zU;refine wpOp_step ho fun K' hK'=>?_;refine g1 (fun k hk=>by rw [hts];exact hdst o (List.mem_of_getElem? (by rw [hall];exact ho)) k hk) H hm (fun σ1 g3 dN jZ w1 a2 hg=>hK' a2 w1 ?_);have hlen:(pre++post).length=n:=by rw [List.length_append,List.length_cons] at hl;rw [List.length_append];omega
   refine ih (pre++post) hlen (by simpa using hsz) ?_ (fun p hp=>hin p ?_) (fun k=>?_) (fun j o2 hj hD=>?_) (hg.nt.trans hts) hg.hold (fun b hb=>hm b (Nat.le_trans hg.fr.qJ.size hb)) g3 (fun σ' hF gI qN w2 a3 hg2=>hK σ' hF gI qN w2 a3 (hg.trans hg2))
   ·rw [List.pairwise_append];exact ⟨s1,(List.pairwise_cons.1 s2).2,fun p hp q hq=>s3 p hp q (List.mem_cons_of_mem _ hq)⟩
   ·rcases List.mem_append.1 hp with hp|hp
    ·exact List.mem_append_left _ hp
    ·exact List.mem_append_right _ (List.mem_cons_of_mem _ hp)
   ·by_cases hki:k=i
    ·subst hki;have hlt:k<listed.size:=by rw [hsz];exact (Array.getElem?_eq_some_iff.1 ho).1
     constructor
     ·intro h;simp [hlt] at h
     ·rintro ⟨o2,h2⟩;exfalso;rcases List.mem_append.1 h2 with h2|h2
      ·have:=s3 _ h2 (k,o) List.mem_cons_self;simp only [] at this;omega
      ·have:=(List.pairwise_cons.1 s2).1 _ h2;simp only [] at this;omega
    ·rw [getD_set_ne true (Ne.symm hki),hun k];constructor
     ·rintro ⟨o2,h2⟩;refine ⟨o2,?_⟩;rcases List.mem_append.1 h2 with h2|h2
      ·exact List.mem_append_left _ h2
      ·rcases List.mem_cons.1 h2 with e|h2
       ·cases e;exact absurd rfl hki
       ·exact List.mem_append_right _ h2
     ·rintro ⟨o2,h2⟩;refine ⟨o2,?_⟩;rcases List.mem_append.1 h2 with h2|h2
      ·exact List.mem_append_left _ h2
      ·exact List.mem_append_right _ (List.mem_cons_of_mem _ h2)
   ·intro j2 hj2;refine getD_set_true ?_;by_cases hji:j=i
    ·subst hji;rw [ho] at hj;cases hj;exact vk j2 hj2
    ·rw [getD_set_ne false (Ne.symm hji)] at hD;exact Tt j o2 hj hD j2 hj2
theorem MJ {base:Nat} (HT:kN P T) {ops:Array Oper} {M:List (Nat×Oper)->aJ->Prop} (hko:nH ops.toList=true) (hdst:∀o ∈ ops.toList,∀k,o.dst=some k->k<a.tmps.size) {id:Nat} {Fin:aJ->Prop} (hM0:∀σ,M [] σ->Fin σ)
  (hMs:∀(pre post:List (Nat×Oper)) (i:Nat) (o:Oper) (σ:aJ),M (pre++(i,o)::post) σ->ops[i]?=some o->(∀p ∈ pre++(i,o)::post,ops[p.1]?=some p.2)->(pre++(i,o)::post).Pairwise (fun p q=>p.1<q.1)->(∀p ∈ pre++post,((iW [] ops.toList).getD i 0).testBit p.1=false)->fM P base ops o σ (M (pre++post)))
  (H:aM lim bs w σ.bx (Sl σ.tm a) m) (hm:∀b,w.heap.size<=b->m b) (h:M (dD 0 ops.toList) σ) (hK:∀σ',Fin σ'->jE base m lim bs w a σ' (Q .normal)):(Code.region id ops true).wp P Q a w:=by
 have hfr:Fr m lim w lim {w with drawn:=w.drawn+1}:=Fr.drew;have H2:aM lim bs {w with drawn:=w.drawn+1} σ.bx (Sl σ.tm a) m:=(H.world (hfr.ext (fun _ _ h=>h)) (fun b hb=>⟨rfl,H.free b hb⟩) (fun p g _=>⟨rfl,rfl⟩) (fun b hb=>H.top b hb)).1;refine wp_region_any HT.mix (UM hko hdst hM0 hMs ops.size _ (by rw [mi];simp) (by simp) (iM _ _) ?_ ?_ ?_ rfl H2 hm h ?_)
 ·intro p hp;have:=((dR _ _ p.1 p.2).1 hp).2;simpa using this
 ·intro k;constructor
  ·intro hk;have hlt:k<ops.size:=by
    rcases Nat.lt_or_ge k ops.size with h'|h'
    ·exact h'
    ·simp [Array.getD,h'] at hk;omega
   exact ⟨ops[k],(dR _ _ _ _).2 ⟨Nat.zero_le _,by simp [hlt]⟩⟩
  ·rintro ⟨o,ho⟩;have hh:=((dR _ _ _ _).1 ho).2;have hlt:k<ops.size:=by simpa using (List.getElem?_eq_some_iff.1 hh).1
   simp [hlt]
 ·intro j o hj hD;exfalso;rw [Array.getD_eq_getD_getElem?] at hD;cases hh:(Array.replicate ops.size false)[j]? with
  |none=>rw [hh] at hD;cases hD
  |some b=>
   rw [hh] at hD;have:=Array.getElem?_replicate (n:=ops.size) (v:=false) (i:=j);rw [hh] at this;split at this
   ·cases this;cases hD
   ·cases this
 ·intro σ' hF lim' bs' w' a' hg;exact hK σ' hF lim' bs' w' a' ⟨hg.hold,hfr.trans hg.fr,hg.pre,hg.nt,hg.df⟩
def YD:AV->Bool
 |.bool _|.int _ _|.str _=>true
 |_=>false
theorem aek {x:AV} {v:Value} (h:YD x=true) (hR:AV.R lim bs w x v):AV.R lim' bs' w' x v:=by
 cases x<;>first|(cases h;done)|(rw [AV.R] at hR⊢;exact hR)
theorem La:∀{l:List AV} {vs:List Value},(∀x ∈ l,YD x=true)->AV.Rs lim bs w l vs->AV.Rs lim' bs' w' l vs
 |[],vs,h,hR=>by rw [AV.Rs] at hR⊢;exact hR
 |x::l,vs,h,hR=>by rw [AV.Rs] at hR⊢;obtain ⟨v,r,e,h1,h2⟩:=hR;exact ⟨v,r,e,aek (h x List.mem_cons_self) h1,La (fun y hy=>h y (List.mem_cons_of_mem _ hy)) h2⟩
theorem VG {x:AV} (h:YD x=true):x.isRow=false:=by cases x<;>first|rfl|(cases h;done)
theorem VF {x:AV} (h:YD x=true):x.top=true:=by cases x<;>first|rfl|(cases h;done)
theorem Mr:∀(l:List Bk.Cm),∀x ∈ fQ l,YD x=true
 |[],x,h=>by cases h
 |c::l,x,h=>by
  rw [fQ] at h;rcases List.mem_cons.1 h with rfl|h
  ·rfl
  ·rcases List.mem_cons.1 h with rfl|h
   ·rfl
   ·exact Mr l x h
theorem aW.boxed {f:Nat} {args:List AV} {e z n:Nat} {l:List AV} (h:aW P f args [] (.row e z n l) []) (hl:∀x ∈ l,YD x=true) (ha:∀x ∈ args,x.isRow=false):rJ P f args (fun r nb=>(r=.nil∧n=0∧nb=[])∨(r=.bU 0 e z n∧nb=[l])):=by
 refine ⟨h.H5,fun lim bs w vs m hvl hm H=>?_⟩;have hbs:bs=[]:=List.eq_nil_of_length_eq_zero (by rw [H.len];rfl);subst hbs;have hno:∀p g,¬Ab.Own w [] [] (aS args vs) p g:=by
  intro p g hp;cases p with
  |t k=>
   obtain ⟨h1,-⟩:=hp;have h1':(args.getD k .bad).isRow=true:=h1;rw [List.getD_eq_getElem?_getD] at h1';cases hk:args[k]? with
   |none=>rw [hk] at h1';cases h1'
   |some x=>rw [hk] at h1';have:=ha x (List.mem_of_getElem? hk);rw [show (some x).getD AV.bad=x from rfl,this] at h1';cases h1'
  |b i j=>obtain ⟨b,x,y,v,q1,-⟩:=hp;simp at q1
 have H0:aM lim [] w [] (aS args vs) (fun b=>w.heap.size<=b):=⟨H.len,H.xV,H.free,fun b hb=>(by cases hb),H.box,H.slot,H.jm,H.top,fun p g hp=>(hno p g hp).elim,fun p q g hp=>(hno p g hp).elim⟩;refine (h.call lim [] w vs _ hvl (fun b hb=>hb) H0).mono ?_;rintro e0 w' ⟨v,lim',bs',rfl,H1,hfr,-⟩;have hbs:bs'=[]:=List.eq_nil_of_length_eq_zero (by rw [H1.len];rfl);subst hbs;have hR:AV.R lim' [] w' (.row e z n l) v:=H1.slot 0;have hown:∀g,v.ownBlock=some g->w.heap.size<=g:=fun g hg=>(H1.own (.t 0) g ⟨rfl,hg⟩).1;have hfr2:Fr m lim w lim' w':=hfr.aU fun b hb h=>absurd h oM;rw [AV.R] at hR;obtain ⟨hl1,hl2,hR⟩:=hR;rcases hR with ⟨rfl,rfl⟩|⟨g,c,cur,rfl,hh,hnc,hcm,hcs,WJ,hRm⟩
 ·have Ta:∀p g,¬Ab.Own w' [] [] (rS .nil (.slice none 0 0)) p g:=by
   intro p g hp;cases p with
   |t k=>
    obtain ⟨h1,-⟩:=hp;unfold rS at h1;by_cases hk:k=0
    ·rw [if_pos hk] at h1;cases h1
    ·rw [if_neg hk] at h1;cases h1
   |b i j=>obtain ⟨b,x,y,v,q1,-⟩:=hp;simp at q1
  refine ⟨.nil,[],_,lim',[],.inl ⟨rfl,rfl,rfl⟩,rfl,⟨rfl,.nil,fun b hb=>(by cases hb),fun b hb=>(by cases hb),fun i b x hi=>by simp at hi,fun k=>?_,fun k=>?_,H1.top,fun p g hp=>(Ta p g hp).elim,fun p q g hp=>(Ta p g hp).elim⟩,hfr2⟩
  ·unfold rS;by_cases hk:k=0
   ·rw [if_pos hk];show AV.R _ _ _ .nil _;rw [AV.R]
   ·rw [if_neg hk];exact lh _
  ·unfold rS;by_cases hk:k=0
   ·rw [if_pos hk];rfl
   ·rw [if_neg hk];rfl
 ·have hg:=hown g rfl;have hgw:g<w'.heap.size:=di hh;obtain ⟨vs',hv1,hv2,hv3⟩:=uw hRm;have hsz:l.length<=cur.size:=by rw [hcs,hl1];exact Nat.mul_le_mul_right z hnc
  have hsplit:(vs'++cur.toList.drop l.length).toArray=cur:=by
   rw [←Array.toList_inj];show vs'++cur.toList.drop l.length=cur.toList;have:vs'=cur.toList.take l.length:=by
    apply List.ext_getElem?;intro j;rw [List.getElem?_take];split
    ·rename_i hj;have hj':j<vs'.length:=oM;have h1:=hv3 j _ (List.getElem?_eq_getElem hj');rw [List.getElem?_eq_getElem hj',←h1,Nat.zero_add];simp [World.cell?,hh]
    ·rename_i hj;exact List.getElem?_eq_none oM
   rw [this,List.take_append_drop]
  obtain ⟨gI,Te⟩:∃gI:Nat->Nat,gI=fun b=>if b=g then 0 else lim' b:=⟨_,rfl⟩;have agQ:∀b,b<w.heap.size->gI b=lim' b:=fun b hb=>by rw [Te];exact if_neg oM
  have Ta:∀p g',¬Ab.Own w' [g] [l] (rS (.bU 0 e z n) (.slice (some ⟨g,0,none⟩) n c)) p g':=by
   intro p g' hp;cases p with
   |t k=>
    obtain ⟨h1,-⟩:=hp;unfold rS at h1;by_cases hk:k=0
    ·rw [if_pos hk] at h1;cases h1
    ·rw [if_neg hk] at h1;cases h1
   |b i j=>
    obtain ⟨b,x,y,v,q1,q2,q3,q4,-⟩:=hp;cases i with
    |zero=>
     simp at q2;subst q2;rw [VG (hl y (List.mem_of_getElem? q3))] at q4;cases q4
    |succ i=>simp at q2
  refine ⟨.bU 0 e z n,[l],_,gI,[g],.inr ⟨rfl,rfl⟩,rfl,⟨rfl,List.pairwise_singleton _ g,fun b hb=>?_,fun b hb=>?_,fun i b x hi hx=>?_,fun k=>?_,fun k=>?_,fun b hb=>?_,fun p g hp=>(Ta p g hp).elim,fun p q g hp=>(Ta p g hp).elim⟩,⟨hfr2.qJ,fun b hb hn=>?_,fun b hb=>?_,hfr2.cell,hfr2.shape⟩⟩
  ·rw [List.mem_singleton.1 hb,Te];exact if_pos rfl
  ·rw [List.mem_singleton.1 hb];exact hm g hg
  ·cases i with
   |zero=>
    simp at hi hx;subst hi;subst hx;refine ⟨vs',cur.toList.drop l.length,e,by rw [hsplit];exact hh,La hl hv2,List.all_eq_true.2 fun x hx=>VF (hl x hx)⟩
   |succ i=>simp at hi
  ·unfold rS;by_cases hk:k=0
   ·rw [if_pos hk];show AV.R gI [g] w' (.bU 0 e z n) _;rw [AV.R];exact ⟨g,c,cur,rfl,hh,hcs,hnc,hcm,rfl⟩
   ·rw [if_neg hk];exact lh _
  ·unfold rS;by_cases hk:k=0
   ·rw [if_pos hk];rfl
   ·rw [if_neg hk];rfl
  ·rw [Te];show (if b=g then 0 else lim' b)=0;split
   ·rfl
   ·exact H1.top b hb
  ·have:=hfr2.mE b hb hn;exact ⟨this.1,by rw [agQ b hb];exact this.2⟩
  ·rw [agQ b hb];exact hfr2.le b hb
end
variable {P : Program} {T : jL} {sp : Sp} {n0 : Nat} {σ τ : aJ} {Q R : wL -> aJ -> Prop} {cal : xR}
def zS (Q:wL->aJ->Prop):Zt:=fun m nY H6 w0 a0 R=>∀e τ,Ok τ->Q e τ->jE 0 m nY H6 w0 a0 τ (R (Py e))
def WQ (P:Program) (n0:Nat) (c:Code) (σ:aJ) (Q:wL->aJ->Prop):Prop:=WZ P n0 0 c σ (zS Q)
theorem WQ.of {c:Code} (h:WP P n0 0 c σ Q):WQ P n0 c σ Q:=WZ.akq h fun m nY H6 w0 a0 R hZ e τ hok hq=>hZ e τ hok hq
theorem WQ.seq {x y:Code} (h:WP P n0 0 x σ (jQ (fun c τ=>WQ P n0 c τ Q) y)):WQ P n0 (.seq x y) σ Q:=WZ.seq (h.mono fun e τ hj=>by
 cases e with
 |normal=>exact hj
 |exit i=>exact hj
 |ret=>exact hj)
theorem WQ.jB {c:Code} (hr:Rx 0 σ τ) (h:WQ P n0 c τ Q):WQ P n0 c σ Q:=WZ.jB hr h
theorem WQ.aej {x y:Code} (h:WQ P n0 x σ fun e τ=>e=.normal∧WQ P n0 y τ Q):WQ P n0 (.seq x y) σ Q:=by unfold WQ WZ at h;unfold WQ;refine WZ.mk ?_;intro hg hσ m nY H6 w0 a0 lim bs w a R hn hb hgo hm hZ;rw [jA,Bool.and_eq_true] at hg;refine wp_seq (h hg.1 hσ hn hb ⟨hgo.hold,Fr.refl,fun _ _ _ h=>h,rfl,rfl⟩ hm fun e τ hok hq dN jZ w1 a1 hg1=>?_);obtain ⟨rfl,hq⟩:=hq;exact hq hg.2 hok (by rw [hg1.nt];exact hn) (Nat.zero_le _) (hgo.trans hg1) (fun b hb=>hm b (Nat.le_trans hg1.fr.qJ.size hb)) hZ
theorem WQ.mono {c:Code} (h:WQ P n0 c σ Q) (hm:∀e τ,Q e τ->R e τ):WQ P n0 c σ R:=by unfold WQ WZ at h;unfold WQ;refine WZ.mk ?_;intro hg hσ m nY H6 w0 a0 lim bs w a R hn hb hgo hm' hZ;exact h hg hσ hn hb hgo hm' fun e τ hok hq=>hZ e τ hok (hm e τ hq)
def Sub (σ τ:aJ):Prop:=τ.bx=σ.bx∧∀k,get τ.tm k=get σ.tm k∨get τ.tm k=.bad
theorem Sub.hold {σ τ:aJ} (h:Sub σ τ) {lim:Nat->Nat} {bs:List Nat} {w:World} {a:Act} {m:Nat->Prop} (H:aM lim bs w σ.bx (Sl σ.tm a) m):aM lim bs w τ.bx (Sl τ.tm a) m:=by
 rw [h.1];refine (H.sub (S':=Sl τ.tm a) fun k=>⟨rfl,?_⟩).1;rcases h.2 k with h|h
 ·exact .inl h
 ·exact .inr (.inr h)
theorem WQ.draw (HT:kN P T) {i:Nat} {ops:Array Oper} {M:List (Nat×Oper)->aJ->Prop} (hM0:∀σ,M [] σ->∃τ,Sub σ τ∧Ok τ∧Q .normal τ)
  (hMs:∀(pre post:List (Nat×Oper)) (i:Nat) (o:Oper) (σ:aJ),M (pre++(i,o)::post) σ->ops[i]?=some o->(∀p ∈ pre++(i,o)::post,ops[p.1]?=some p.2)->(pre++(i,o)::post).Pairwise (fun p q=>p.1<q.1)->(∀p ∈ pre++post,((iW [] ops.toList).getD i 0).testBit p.1=false)->fM P 0 ops o σ (M (pre++post)))
  (h:M (dD 0 ops.toList) σ):WQ P n0 (.region i ops true) σ Q:=by
 unfold WQ;refine WZ.mk ?_;intro hg hσ m nY H6 w0 a0 lim bs w a R hn hb hgo hm hZ;have hko:nH ops.toList=true:=by rw [jA,Bool.and_eq_true] at hg;simpa using hg.2
 refine MJ (Fin:=M []) HT hko (qx hg hn) (fun σ h=>h) hMs hgo.hold hm h (fun σ' hF=>?_);obtain ⟨τ,hs,hok,hq⟩:=hM0 σ' hF;exact fun lim' bs' w' a' hg2=>hZ .normal τ hok hq lim' bs' w' a' (hgo.trans ⟨hs.hold hg2.hold,hg2.fr,hg2.pre,hg2.nt,hg2.df⟩)
theorem Xg (HT:kN P T) {f:Nat} {fn:Func} {c:Code} (hf:P.funcs[f]?=some fn) (hg:o9 fn=true) (hb:fn.body=some c) {args:List AV} (ha:gZ args=true) {S:AV->List (List AV)->Prop} (h:WQ P fn.ntmps c ⟨params [] 0 args,[]⟩ (vB T fn.results.toList 0 S)):rJ P f args fun r nb=>S r nb∧wv r=true∧aV nb=true:=by
 unfold o9 at hg;rw [Bool.and_eq_true] at hg;obtain ⟨hg1,hg2⟩:=hg;rw [hb] at hg2;refine ⟨⟨fn,hf,by simpa using hg1,by rw [hb];rfl⟩,fun lim bs w ws m hl hm H=>?_⟩;refine calls_of_wp hf hb ?_;have hsz:fn.ntmps<=(ws.toArray++Array.replicate (fn.ntmps-ws.toArray.size) undef).size:=iw;unfold WQ WZ at h;refine h hg2 ⟨nA ha rfl,rfl⟩ hsz (Nat.zero_le _) ⟨iy hl H,Fr.refl,fun _ _ _ h=>h,rfl,rfl⟩ hm ?_;intro e τ hok hq lim' bs' w' a' hgo;obtain ⟨he,vs,q1,q2,q3,q4⟩:=hq;obtain ⟨u,u1,u2⟩:=eU (fn:=fn) HT hgo.hold q1;have hpost:a'.defers=[]∧∃v,(results fn a'.tmps).run P w'=.ok v w'∧(∃r nb v' lim' bs',(S r nb∧wv r=true∧aV nb=true)∧Ending.returned v=.returned v'∧aM lim' bs' w' nb (rS r v') m∧Fr m lim w lim' w'):=⟨hgo.df,u,u1,_,_,u,lim',bs',⟨q4,qd q2,hok.bx⟩,rfl,u2,hgo.fr⟩;rcases he with rfl|rfl
 ·exact hpost
 ·exact hpost
theorem Fn.okS {f:Nat} {fn:Func} {c:Code} {n0:Nat} {rs:List ResultVar} (F:Fn Tryz.prog f fn c n0 rs) {args:List AV} {S:AV->List (List AV)->Prop} (ha:gZ args=true) (h:Jo args fun tm=>pq c fun c=>WQ Tryz.prog n0 c ⟨tm,[]⟩ (vB gW rs 0 S)):rJ Tryz.prog f args fun r nb=>S r nb∧wv r=true∧aV nb=true:=by have h:=iU (yD h);rw [←F.nt,←F.rs] at h;exact Xg tok F.at_ F.jA F.body ha h
end V
end
end Go.Proofs.YtlmjabnkjmfcmaaGreat
