/- Parts of a proof; no condition. -/
import Derived.Test.YtlmjabnkjmfcmaaGreatR37
namespace Go.Proofs.YtlmjabnkjmfcmaaGreat
open Go Go.RowKit Go.PlainAid
set_option linter.unusedVariables false
set_option linter.unusedSimpArgs false
set_option linter.unusedSectionVars false
set_option maxHeartbeats 20000000
set_option linter.defProp false
section
variable [nM]
set_option maxRecDepth 100000
namespace V
open Ab
open Bk (Cm)
theorem acf (x:Nd) (l:List Cm):(x.ld l).kids=x.kids:=by cases x;rfl
def MqI (bx:List (List AV)) (s b o q:Nat) (blk:Bool) (c:List Cm) (kids:List Nd) (J:List Nat) (j:Nat) (τ:aF):Prop:=∃(a r:List Nd) (ca Xw:List AV) (Ja Jr:List Nat) (bx1:List (List AV)) (i:Int),kids=a++r∧a.length % 2=0∧(i=a.length∨(i=a.length+1∧2<=r.length))∧j=(kids.length-i).toNat∧τ=⟨[(10,.int .i64 i),(9,.int .i64 kids.length),(1,.ptr b o),(0,.ptr s 0)],bx1⟩∧bx1.length=bx.length∧bx1[s]?=some [.bool blk,cs (iU blk c a).2]∧bx1[q]?=some (ca++Xw)∧fG bx1 (iU blk c a).1 ca Ja∧fG bx1 r Xw Jr∧J=Ja++Jr∧(∀j,j≠s->j≠q->j ∉ J->bx1[j]?=bx[j]?)∧gB bx.length bx1
theorem ajk {m:Nat} (h42:az.OK Tryz.prog 42 (VD m)) (agz:az.OK Tryz.prog 101 (NI m)) {s b o:Nat} {bx:List (List AV)} {blk:Bool} {c:List Cm} {pre:List AV} {y p bb:Int} {an tg tx:ByteArray} {q:Nat} {lc fc:AV} {hh:Bool} {tr:ByteArray} {post:List AV} {kids:List Nd} {cc:List AV} {J:List Nat}
  (hw:aN bx=true) (hcl:gB bx.length bx) (hs:bx[s]?=some [.bool blk,cs c]) (hx:Bi bx b o pre ⟨4,y,p,bb,an,tg,tx,.dm q 35 12 kids.length,lc,fc,hh,tr⟩ post) (hq:bx[q]?=some cc) (hF:fG bx kids cc J) (hnd:(s::b::q::J).Nodup) (he2:kids.length % 2=0) (hev:Oe kids=true) (htr:Jv kids=true) (hm:eP kids<=m) (hn:c.length+fD kids<=9000000000) (hz:eP kids<=9000000000):
  ∃r bx',aV Tryz.prog 71 [.ptr s 0,.ptr b o] bx r bx'∧wv r=true∧aN bx'=true∧∀K,c71 m [.ptr s 0,.ptr b o] bx K->K r bx':=by
 have hb:bx[b]?=some (pre++(.int .i64 4::.int .i64 y::.int .i64 p::.int .i64 bb::.str an::.str tg::.str tx::.dm q 35 12 kids.length::lc::fc::.bool hh::.str tr::post)):=hx.1;have ho:=hx.2;have hs0:=hs;have hb0:=hb;have hq0:=hq;rw [List.nodup_cons,List.nodup_cons,List.nodup_cons] at hnd;obtain ⟨n1,n2,n3,hnJ⟩:=hnd;have hsb:s≠b:=fun e=>n1 (by rw [e];exact List.mem_cons_self);have En:s≠q:=fun e=>n1 (by rw [e];exact List.mem_cons_of_mem _ List.mem_cons_self);have hsJ:s ∉ J:=fun e=>n1 (List.mem_cons_of_mem _ (List.mem_cons_of_mem _ e));have hbq:b≠q:=fun e=>n2 (by rw [e];exact List.mem_cons_self);have WI:b ∉ J:=fun e=>n2 (List.mem_cons_of_mem _ e);have hJl:=hF.lt;have hzl:=wz kids;refine aln.UK rfl hw ?_;have B:=V.base (ae.cons agz (ae.cons h42 (ae.cons YN ae.nil)));have zE:Ev _ _ _ (au 71) [100,42,101] []:=⟨B⟩
 conv=>whnf
 repeat' (first
 |((with_reducible refine (?_:∃c:List AV,_∧_));refine ⟨_,(by first|exact hb|exact hq|exact hs),?_⟩;(conv=>whnf))
 |refine nX ?_;conv=>whnf
 |with_reducible refine fun(hwr:wv _=true)(hwb:aN _=true)=>?_
 |(with_reducible refine fun(hw:aN _=true)=>?_);conv=>whnf
 |with_reducible assumption
 |((with_reducible refine (?_:WP _ _ _ (.loop _) _ _));refine WP.loop (MqI bx s b o q blk c kids J) ⟨[],kids,[],cc,[],J,bx,0,rfl,rfl,.inl rfl,rfl,rfl,rfl,(by rw [iU];exact hs),hq,(by rw [iU];exact gY.2 ⟨rfl,rfl⟩),hF,rfl,fun j _ _ _=>rfl,hcl⟩ ?_;clear hs hq hb)
 |((with_reducible refine (?_:∀(k:Nat) (τ:aF),MqI _ _ _ _ _ _ _ _ _ k τ->_));refine aH.get ?_)
 |(with_reducible first|refine bU ho ?_|refine bF ho ?_|refine aQ ho ?_|refine aJ ho ?_|refine aI ?_);conv=>whnf
 |with_reducible refine And.intro ?_ ?_
 |exact cL
 |(with_reducible intro h);first|(try simp only [lG,reduceCtorEq] at h);first|done|(exfalso;omega)|replace h:=h trivial aZ|replace h:=h aZ|skip
 |fail)
 refine aH.mk ?_;rintro j τ ⟨a,r,ca,Xw,Ja,Jr,bx1,i,hkk,ha2,hi,rfl,rfl,hl,hs,hq,hA,hR,hJ,hag,vV⟩;have hb:=(hag b (Ne.symm hsb) hbq WI).trans hb0;have hca:=hA.len;rw [MV] at hca;have hkl:kids.length=a.length+r.length:=by rw [hkk,List.length_append]
 rcases r with _|⟨x,r⟩
 ·have hi2:i=a.length:=by
   rcases hi with e|⟨-,e⟩
   ·exact e
   ·simp at e
  subst hi2;rw [List.append_nil] at hkk;obtain ⟨rfl,rfl⟩:=gY.1 hR;subst hkk;rw [List.append_nil] at hq hJ
  repeat' (first
  |((with_reducible refine (?_:∃c:List AV,_∧_));refine ⟨_,(by first|exact hb|exact hq|exact hs),?_⟩;(conv=>whnf))
  |refine nX ?_;conv=>whnf
  |with_reducible refine fun(hwr:wv _=true)(hwb:aN _=true)=>?_
  |(with_reducible refine fun(hw:aN _=true)=>?_);conv=>whnf
  |with_reducible assumption
  |((with_reducible intro h);exfalso;simp at h;done)
  |(with_reducible first|refine bU ho ?_|refine bF ho ?_|refine aQ ho ?_|refine aJ ho ?_|refine aI ?_);conv=>whnf
  |with_reducible refine And.intro ?_ ?_
  |exact cL
  |(with_reducible intro h);first|(try simp only [lG,reduceCtorEq] at h);first|done|(exfalso;omega)|replace h:=h trivial aZ|replace h:=h aZ|skip
  |fail)
  refine af.mk hwr hwb fun K hK=>?_;exact aeB hK hs0 hx hq0 hF hl vV (by rw [oN,if_neg dE];exact hs) hq (by rw [oN,if_neg dE,hJ];exact hA) hag
 ·rcases r with _|⟨v,r⟩
  ·rw [hkl] at he2;simp only [lL] at he2;omega
  ·simp only [List.length_cons] at hkl;rcases hi with rfl|⟨rfl,-⟩
   ·have acv:(a.length:Int).tmod 2=0:=by rw [Int.tmod_eq_emod_of_nonneg oM];omega
    repeat' (first
    |((with_reducible refine (?_:∃c:List AV,_∧_));refine ⟨_,(by first|exact hb|exact hq|exact hs),?_⟩;(conv=>whnf))
    |((with_reducible refine (?_:∃(blk:Bool),_));refine aH.get ?_)
    |refine nX ?_;conv=>whnf
    |with_reducible refine fun(hwr:wv _=true)(hwb:aN _=true)=>?_
    |(with_reducible refine fun(hw:aN _=true)=>?_);conv=>whnf
    |with_reducible assumption
    |((with_reducible intro h);exfalso;simp only [acv,decide_eq_true_eq,decide_eq_false_iff_not] at h;first|done|omega|exact h rfl)
    |((with_reducible intro h);exfalso;simp at h;done)
    |((with_reducible refine (?_:∃(j:Nat) (τ':aF),_));refine aH.get ?_)
    |(with_reducible first|refine bU ho ?_|refine bF ho ?_|refine aQ ho ?_|refine aJ ho ?_|refine aI ?_);conv=>whnf
    |with_reducible refine And.intro ?_ ?_
    |exact cL
    |(with_reducible intro h);first|(try simp only [lG,reduceCtorEq] at h);first|done|(exfalso;omega)|replace h:=h trivial aZ|replace h:=h aZ|skip
    |fail)
    refine aH.mk ⟨_,_,?_,Rx.prune [0,1,9,10],a,x::v::r,ca,Xw,Ja,Jr,bx1,a.length+1,hkk,ha2,.inr ⟨rfl,by simp⟩,rfl,rfl,hl,hs,hq,hA,hR,hJ,hag,vV⟩;omega
   ·have acv:((a.length:Int)+1).tmod 2=1:=by rw [Int.tmod_eq_emod_of_nonneg oM];omega
    obtain ⟨c1,c2,J1,J2,rfl,rfl,hX,hR2⟩:=dI.1 hR;obtain ⟨d1,d2,K1,K2,rfl,rfl,hV,hR3⟩:=dI.1 hR2;obtain ⟨yF,rfl,hk1⟩:=iW.1 hX;obtain ⟨EK,rfl,hk2⟩:=iW.1 hV;have hcn:fD kids=fD a+(lW x+(lW v+fD r)):=by rw [hkk,uK,fD,fD]
    have hsz:eP kids=eP a+(jT x+(jT v+eP r)):=by rw [hkk,uF,eP,eP]
    have ak8:=G6 blk c a;have hev1:Vj v=true:=by rw [hkk,Nv,Oe,Oe] at hev;simp only [Bool.and_eq_true] at hev;exact hev.2.2.1
    have acr:LU x=true∧LU v=true:=by rw [hkk,GG,Jv,Jv] at htr;simp only [Bool.and_eq_true] at htr;exact ⟨htr.2.1,htr.2.2.1⟩
    have hJn:=hnJ;rw [hJ,List.nodup_append] at hJn;obtain ⟨hn1,hn2,hn3⟩:=hJn;rw [List.nodup_append] at hn2;obtain ⟨hn4,hn5,hn6⟩:=hn2;rw [List.nodup_append] at hn5;have DV:∀i ∈ J1,i ∈ J:=fun i hi=>by rw [hJ];exact List.mem_append_right _ (List.mem_append_left _ hi)
    have agy:∀i ∈ K1,i ∈ J:=fun i hi=>by rw [hJ];exact List.mem_append_right _ (List.mem_append_right _ (List.mem_append_left _ hi))
    have apT:∀i ∈ K2,i ∈ J:=fun i hi=>by rw [hJ];exact List.mem_append_right _ (List.mem_append_right _ (List.mem_append_right _ hi))
    have apU:∀i ∈ Ja,i ∈ J:=fun i hi=>by rw [hJ];exact List.mem_append_left _ hi
    have hnd1:(s::q::(J1++K1)).Nodup:=List.nodup_cons.2 ⟨fun e=>by
     rcases List.mem_cons.1 e with e|e
     ·exact En e
     ·rcases List.mem_append.1 e with e|e
      ·exact hsJ (DV _ e)
      ·exact hsJ (agy _ e),List.nodup_cons.2 ⟨fun e=>by
      rcases List.mem_append.1 e with e|e
      ·exact n3 (DV _ e)
      ·exact n3 (agy _ e),List.nodup_append.2 ⟨hn4,hn5.1,fun i hi j hj=>hn6 i hi j (List.mem_append_left _ hj)⟩⟩⟩
    repeat' (first
    |((with_reducible refine (?_:∃c:List AV,_∧_));refine ⟨_,(by first|exact hb|exact hq|exact hs),?_⟩;(conv=>whnf))
    |((with_reducible refine (?_:∃(blk:Bool),_));refine aH.get ?_)
    |refine nX ?_;conv=>whnf
    |with_reducible refine fun(hwr:wv _=true)(hwb:aN _=true)=>?_
    |(with_reducible refine fun(hw:aN _=true)=>?_);conv=>whnf
    |with_reducible assumption
    |((with_reducible intro h);exfalso;simp only [acv,decide_eq_true_eq,decide_eq_false_iff_not] at h;first|done|omega|exact h rfl)
    |((with_reducible intro h);exfalso;simp at h;done)
    |((with_reducible refine (?_:∃(j:Nat) (τ':aF),_));refine aH.get ?_)
    |(with_reducible first|refine bU ho ?_|refine bF ho ?_|refine aQ ho ?_|refine aJ ho ?_|refine aI ?_);conv=>whnf
    |with_reducible refine And.intro ?_ ?_
    |exact cL
    |(with_reducible intro h);first|(try simp only [lG,reduceCtorEq] at h);first|done|(exfalso;omega)|replace h:=h trivial aZ|replace h:=h aZ|skip
    |fail)
    have Zu:gB bx1.length bx1:=by rw [hl];exact vV
    refine aH.mk ⟨blk,(iU blk c a).2,ca,x,v,yF,EK,d2,J1,K1,⟨hw,Zu,hs,rfl,hq,oM,oM,hk1,hk2,hnd1,⟨hev1,acr.1,acr.2⟩,oM,oM,oM⟩,?_⟩;clear hs;intro b5 hl5 qo hs5 hx5 hk5 hk6 Ar;replace hl5:b5.length=bx1.length:=hl5;replace qo:gB bx1.length b5:=qo;replace Ar:∀j,j≠s->j≠q->j ∉ J1->j ∉ K1->b5[j]?=bx1[j]?:=Ar
    conv=>whnf
    repeat' (first
    |((with_reducible refine (?_:∃c:List AV,_∧_));refine ⟨_,(by first|exact hb|exact hq|exact hs),?_⟩;(conv=>whnf))
    |((with_reducible refine (?_:∃(blk:Bool),_));refine aH.get ?_)
    |refine nX ?_;conv=>whnf
    |with_reducible refine fun(hwr:wv _=true)(hwb:aN _=true)=>?_
    |(with_reducible refine fun(hw:aN _=true)=>?_);conv=>whnf
    |with_reducible assumption
    |((with_reducible intro h);exfalso;simp only [acv,decide_eq_true_eq,decide_eq_false_iff_not] at h;first|done|omega|exact h rfl)
    |((with_reducible intro h);exfalso;simp at h;done)
    |((with_reducible refine (?_:∃(j:Nat) (τ':aF),_));refine aH.get ?_)
    |(with_reducible first|refine bU ho ?_|refine bF ho ?_|refine aQ ho ?_|refine aJ ho ?_|refine aI ?_);conv=>whnf
    |with_reducible refine And.intro ?_ ?_
    |exact cL
    |(with_reducible intro h);first|(try simp only [lG,reduceCtorEq] at h);first|done|(exfalso;omega)|replace h:=h trivial aZ|replace h:=h aZ|skip
    |fail)
    have hsn:=P8 blk x v c a ha2;refine aH.mk ⟨_,_,?_,Rx.prune [0,1,9,10],a++[x,v],r,ca++((((aX x).1.ld ((iU blk c a).2++x.lead)).ce yF).l++(((lV (bJ blk (aX x).2 [] v).1 (bJ blk (aX x).2 [] v).2).1.ce EK).l)),d2,Ja++(J1++K1),K2,b5,a.length+1+1,by rw [hkk,List.append_assoc];rfl,by simp only [lL];omega,.inl ?_,rfl,rfl,oM,by rw [hsn];exact hs5,by rw [hx5,List.append_assoc,List.append_assoc],?_,?_,by rw [hJ,List.append_assoc,List.append_assoc],?_,by rw [hl] at qo;exact qo⟩
    ·omega
    ·simp only [lL];omega
    ·rw [hsn];refine wY.2 ⟨ca,_,Ja,_,rfl,rfl,hA.fr fun i hi=>?_,dI.2 ⟨_,_,J1,K1,rfl,rfl,iW.2 ⟨yF,rfl,by rw [acf];exact hk5⟩,fG.one (iW.2 ⟨EK,rfl,hk6⟩)⟩⟩;have KP:=apU i hi;exact Ar i (fun e=>hsJ (e▸KP)) (fun e=>n3 (e▸KP)) (fun e=>hn3 i hi i (List.mem_append_left _ e) rfl) (fun e=>hn3 i hi i (List.mem_append_right _ (List.mem_append_left _ e)) rfl)
    ·refine hR3.fr fun i hi=>?_;have KP:=apT i hi;exact Ar i (fun e=>hsJ (e▸KP)) (fun e=>n3 (e▸KP)) (fun e=>hn6 i e i (List.mem_append_right _ hi) rfl) (fun e=>hn5.2.2 i e i hi rfl)
    ·intro j g1 g2 g3;exact (Ar j g1 g2 (fun e=>g3 (DV j e)) (fun e=>g3 (agy j e))).trans (hag j g1 g2 g3)
theorem ajl {m:Nat} (h42:az.OK Tryz.prog 42 (VD m)) (agz:az.OK Tryz.prog 101 (NI m)):az.OK Tryz.prog 71 (c71 m):=by
 intro args bx K0 h;unfold c71 at h;split at h
 ·obtain ⟨blk,c,pre,k,y,p,bb,an,tg,tx,q,lc,fc,h,tr,post,kids,cc,J,⟨h1,h2,h3,h4,h5,h6,h7,h8,⟨h9,h10⟩,h11,h12,h13⟩,-⟩:=h;rcases h8 with rfl|⟨rfl,h8⟩
  ·exact ajj h42 h1 h2 h3 h4 h5 h6 h7 h9 h10 h11 h12 h13
  ·exact ajk h42 agz h1 h2 h3 h4 h5 h6 h7 h8 h9 h10 h11 h12 h13
 ·exact h.elim
theorem Ij {blk:Bool} {c:List Cm} {k y p b:Int} {an tg tx:ByteArray} {kids:List Nd} {lead ag:List Cm} {h:Bool} {tr:ByteArray} (hk:k=3∨k=4) (hne:0<kids.length):bJ blk [] c (.mk k y p b an tg tx kids lead ag h tr)=uT blk k y p b an tg tx (mD (decide (y=6)||(blk && decide (y=7))) (oN blk k c kids).1).1 (lead++(mD (decide (y=6)||(blk && decide (y=7))) (oN blk k c kids).1).2) ag h tr (oN blk k c kids).2:=by
 cases kids with
 |nil=>simp at hne
 |cons x l=>
  rw [bJ,if_pos hk];simp only [List.nil_append,oN]
theorem Yd {blk:Bool} {c:List Cm} {k y p b:Int} {an tg tx:ByteArray} {lead ag:List Cm} {h:Bool} {tr:ByteArray} (hk:k=3∨k=4):bJ blk [] c (.mk k y p b an tg tx [] lead ag h tr)=(.mk k y p b an tg tx [] (lead++ag) [] h tr,c):=by rw [bJ,if_pos hk];simp only [List.nil_append]
theorem EI {blk:Bool} {k:Int} {c:List Cm} {kids:List Nd}:(oN blk k c kids).1.length=kids.length:=by
 unfold oN;split
 ·exact LX blk c kids
 ·exact MV blk c kids
theorem EJ {blk:Bool} {k:Int} {c:List Cm} {kids:List Nd}:fD (oN blk k c kids).1+(oN blk k c kids).2.length<=c.length+fD kids:=by
 unfold oN;split
 ·exact G5 blk c kids
 ·exact G6 blk c kids
theorem af.node {rf:az} {args:List AV} {bx:List (List AV)} {r:AV} {b:List (List AV)} {i o:Nat} {pre post:List AV} {k y p bb:Int} {an tg tx:ByteArray} {kc lc fc:AV} {h:Bool} {tr:ByteArray} {l1 l2:List Cm} (hb:aN b=true) (hx:Bi b i o pre ⟨k,y,p,bb,an,tg,tx,kc,lc,fc,h,tr⟩ post) (h1:Wk lc (cs l1)) (h2:Wk fc (cs l2))
  (hh:∀b2:List (List AV),aN b2=true->b2.length=b.length->Bi b2 i o pre ⟨k,y,p,bb,an,tg,tx,kc,cs l1,cs l2,h,tr⟩ post->(∀j,j≠i->b2[j]?=b[j]?)->af rf args bx r b2):af rf args bx r b:=by
 have hx1:=hx.1;refine af.box hb hx1 (c':=pre++((Ce.mk k y p bb an tg tx kc (cs l1) (cs l2) h tr).l++post)) (qi.app (.refl pre) (qi.app ?_ (.refl post))) ?_ (fun b2 g1 g2 g3 g4=>hh b2 g1 g2 ⟨g3,hx.2⟩ g4)
 ·exact .cons (.refl _) (.cons (.refl _) (.cons (.refl _) (.cons (.refl _) (.cons (.refl _) (.cons (.refl _) (.cons (.refl _) (.cons (.refl _) (.cons h1 (.cons h2 (.refl _))))))))))
 ·have h0:=Rk hb hx1;rw [dP] at h0⊢;intro v hv;rcases List.mem_append.1 hv with hv|hv
  ·exact h0 v (List.mem_append_left _ hv)
  ·rcases List.mem_append.1 hv with hv|hv
   ·have hc:∀l:List Cm,(cs l).one=true∧wv (cs l)=true:=fun l=>⟨rfl,D9 l⟩;have hkc:=h0 kc (List.mem_append_right _ (List.mem_append_left _ (by simp [Ce.l])));simp only [Ce.l,List.mem_cons,List.not_mem_nil,or_false] at hv;rcases hv with rfl|rfl|rfl|rfl|rfl|rfl|rfl|rfl|rfl|rfl|rfl|rfl<;>first|exact hkc|exact hc _|exact ⟨rfl,rfl⟩
   ·exact h0 v (List.mem_append_right _ (List.mem_append_right _ hv))
theorem Qv {m s b o:Nat} {blk:Bool} {c:List Cm} {pre post:List AV} {k y p bb:Int} {an tg tx tr:ByteArray} {kc:AV} {lead ag:List Cm} {h:Bool} {kids:List Nd} {I:List Nat} {bx bx':List (List AV)} {K:AV->List (List AV)->Prop} (hK:VD m [.ptr s 0,.ptr b o] bx K) (hs:bx[s]?=some [.bool blk,cs c]) (hx:Bi bx b o pre ⟨k,y,p,bb,an,tg,tx,kc,cr lead,cs ag,h,tr⟩ post) (hk:fO bx kids kc I) {R:Nd×List Cm} (hR:bJ blk [] c (.mk k y p bb an tg tx kids lead ag h tr)=R)
  (d1:bx'.length=bx.length) (d2:gB bx.length bx') (d3:bx'[s]?=some [.bool blk,cs R.2]) (d4:Bi bx' b o pre (R.1.ce kc) post) (d5:fO bx' R.1.kids kc I) (d6:∀j,j≠s->j≠b->j ∉ I->bx'[j]?=bx[j]?):K (.bW []) bx':=by
 subst hR;obtain ⟨blk',c',pre',k',y',p',bb',an',X6,XV,Za,F5,F9,h',V7,post',kids',I',⟨-,-,hs',hx',hk',-⟩,hK⟩:=hK;rw [hs,Option.some.injEq,List.cons.injEq,List.cons.injEq,AV.bool.injEq] at hs';obtain ⟨rfl,e2,-⟩:=hs';obtain rfl:=sF e2;obtain ⟨rfl,e,rfl⟩:=hx.inj hx';simp only [Ce.mk.injEq] at e;obtain ⟨rfl,rfl,rfl,rfl,rfl,rfl,rfl,rfl,e3,e4,rfl,rfl⟩:=e;obtain rfl:=Z7 e3;obtain rfl:=sF e4;obtain ⟨rfl,rfl⟩:=fO.inj hk hk';exact hK bx' d1 d2 d3 d4 d5 d6
theorem LH.mld {k k2 i c0 n:Nat} {wr wr2 al al2:Bool} {JJ:List Nat} {c c':List AV} {ch2:List (Nat×List AV×List AV)} (h1:c.length=c'.length) (h2:(c.drop c0).take n=(c'.drop c0).take n):LH ⟨k,[i],wr,al,none,[(i,c,c')]⟩ ⟨k2,JJ,wr2,al2,some (i,c0,n),ch2⟩:=LH.yu (by
 unfold zo;simp only [assoc,Nat.beq_refl];exact ⟨h1,h2⟩)
def agD:=fN 42 Tryz.f42 123 []
theorem ajv {m s b o:Nat} {blk:Bool} {c:List Cm} {pre post:List AV} {k y p bb:Int} {an tg tx tr:ByteArray} {lead ag:List Cm} {hh:Bool} {bx:List (List AV)} (hk:k=3∨k=4) (hw:aN bx=true) (hcl:gB bx.length bx) (hs:bx[s]?=some [.bool blk,cs c]) (hx:Bi bx b o pre ⟨k,y,p,bb,an,tg,tx,.sl 0 [],cr lead,cs ag,hh,tr⟩ post) (hsb:s≠b) (hn:lead.length+ag.length<=10000000000):
  ∃r bx',aV Tryz.prog 42 [.ptr s 0,.ptr b o] bx r bx'∧wv r=true∧aN bx'=true∧∀K,VD (m+1) [.ptr s 0,.ptr b o] bx K->K r bx':=by
 have hb:bx[b]?=some (pre++(.int .i64 k::.int .i64 y::.int .i64 p::.int .i64 bb::.str an::.str tg::.str tx::.sl 0 []::cr lead::cs ag::.bool hh::.str tr::post)):=hx.1;have ho:=hx.2;have hs0:=hs;have hb0:=hb;have hl:bx.length=bx.length:=rfl;have hag:∀j,j≠s->j≠b->bx[j]?=bx[j]?:=fun _ _ _=>rfl;refine agD.UK rfl hw ?_;have B:=V.base (ae.nil);have zE:Ev _ _ _ (au 42) [] []:=⟨B⟩
 conv=>whnf
 repeat' (first
 |((with_reducible refine (?_:∃c:List AV,_∧_));refine ⟨_,(by first|exact hb|exact hs),?_⟩;(conv=>whnf))
 |((with_reducible refine (?_:∃(blk:Bool),_));refine aH.get ?_)
 |refine nX ?_;conv=>whnf
 |with_reducible refine fun(hwr:wv _=true)(hwb:aN _=true)=>?_
 |(with_reducible refine fun(hw:aN _=true)=>?_);conv=>whnf
 |with_reducible assumption
 |((with_reducible intro h);exfalso;simp at h;done)
 |((with_reducible refine (?_:LH _ _));refine LH.mld (by simp only [List.length_append];rfl) ?_;rw [lT ho,lT ho];rfl)
 |((with_reducible refine gZ.mk (i:=b) ?_);intro b1 hl1 hb hr1;replace hl:=hl1.trans hl;replace hs:=(hr1 s hsb).trans hs;replace hag:=(fun j g1 g2=>(hr1 j g2).trans (hag j g1 g2));(conv=>whnf))
 |(with_reducible first|refine bU ho ?_|refine bF ho ?_|refine aQ ho ?_|refine aJ ho ?_|refine aI ?_);conv=>whnf
 |with_reducible refine And.intro ?_ ?_
 |exact cL
 |(with_reducible intro h);first|(try simp only [lG,reduceCtorEq] at h);first|done|(exfalso;omega)|replace h:=h trivial aZ|replace h:=h aZ|skip
 |fail)
 all_goals
  replace hl:b1.length=bx.length:=hl;replace hag:∀j,j≠s->j≠b->b1[j]?=bx[j]?:=hag;have hx1:Bi b1 b o pre ⟨k,y,p,bb,an,tg,tx,.sl 0 [],.row 56 2 (lead.length+ag.length) (eU lead++eU ag),.nil,hh,tr⟩ post:=⟨hb,ho⟩;rw [EU] at hx1;refine af.node hwb hx1 (Wk.cr _) Wk.wO fun b2 hw2 hl2 hx2 hr2=>?_;replace hl2:b2.length=b1.length:=hl2;replace hr2:∀j,j≠b->b2[j]?=b1[j]?:=hr2;refine af.mk hwr hw2 fun K hK=>?_;refine Qv hK hs0 hx (I:=[]) (kids:=[]) (.inl ⟨rfl,rfl,rfl⟩) (Yd hk) oM (hcl.Rn (q:=b) (fun j _ hne=>?_) hb0 hx2.1 (fun i hi=>?_)) ((hr2 s hsb).trans hs) hx2 (.inl ⟨rfl,rfl,rfl⟩) (fun j g1 g2 _=>(hr2 j g2).trans (hag j g1 g2))
  ·by_cases e:j=s
   ·rw [e,hr2 s hsb,hs0];exact hs
   ·exact (hr2 j hne).trans (hag j e hne)
  ·rw [dF,dF,sG] at hi;simp only [dY,AV.ids,AV.aA,List.append_nil,List.nil_append] at hi;rw [dF];simpa only [AV.aA,AV.ids,dY,nD,List.nil_append,List.append_nil] using hi
theorem gB.afa {n s b q:Nat} {bx bx':List (List AV)} {zs zb zb' zq zq':List AV} (h:gB n bx) (ho:∀j,j≠s->j≠b->j≠q->bx'[j]?=bx[j]?) (hs:bx'[s]?=some zs) (is:AV.aA zs=[]) (hb:bx[b]?=some zb) (hb':bx'[b]?=some zb') (ib:∀i ∈ AV.aA zb',i ∈ AV.aA zb) (hq:bx[q]?=some zq) (hq':bx'[q]?=some zq') (iq:∀i ∈ AV.aA zq',i ∈ AV.aA zq):gB n bx':=.mk fun j z hj hz i hi=>by
 by_cases e1:j=s
 ·subst e1;rw [hs] at hz;cases hz;rw [is] at hi;cases hi
 ·by_cases e2:j=b
  ·subst e2;rw [hb'] at hz;cases hz;exact h.out j _ hj hb i (ib i hi)
  ·by_cases e3:j=q
   ·subst e3;rw [hq'] at hz;cases hz;exact h.out j _ hj hq i (iq i hi)
   ·rw [ho j e1 e2 e3] at hz;exact h.out j z hj hz i hi
theorem Ce.wC {x x':Ce} {pre post:List AV} (hk:x'.kc=x.kc) (h1:AV.ids x'.lc=[]) (h2:AV.ids x'.fc=[]):∀i ∈ AV.aA (pre++(x'.l++post)),i ∈ AV.aA (pre++(x.l++post)):=by
 intro i hi;rw [dF,dF,sG,h1,h2,hk] at hi;rw [dF,dF,sG];simp only [List.mem_append,List.append_nil] at hi⊢;rcases hi with hi|hi|hi
 ·exact .inl hi
 ·exact .inr (.inl (.inl hi))
 ·exact .inr (.inr hi)
theorem fO.of {bx:List (List AV)} {q n:Nat} {z:Nd} {zs:List Nd} {kcz:AV} {z2:List AV} {J1 J2:List Nat} (hn:(z::zs).length=n) (hq:bx[q]?=some ((z.ce kcz).l++z2)) (hk:fO bx z.kids kcz J1) (hz:fG bx zs z2 J2):fO bx (z::zs) (.dm q 35 12 n) (q::(J1++J2)):=by subst hn;exact .inr ⟨by simp,q,_,J1++J2,rfl,rfl,hq,dI.2 ⟨_,z2,J1,J2,rfl,rfl,iW.2 ⟨kcz,rfl,hk⟩,hz⟩⟩
theorem TJ (blk:Bool) (l:List Cm):AV.aA [.bool blk,cs l]=[]:=by rw [AV.aA,AV.aA,AV.aA,dY];rfl
theorem aju {m s b o:Nat} {blk:Bool} {c:List Cm} {pre post:List AV} {k y p bb:Int} {an tg tx tr:ByteArray} {kc:AV} {lead ag:List Cm} {hh:Bool} {kids:List Nd} {I:List Nat} {bx:List (List AV)} (hk:¬(k=3∨k=4)) (hw:aN bx=true) (hcl:gB bx.length bx) (hs:bx[s]?=some [.bool blk,cs c]) (hx:Bi bx b o pre ⟨k,y,p,bb,an,tg,tx,kc,cr lead,cs ag,hh,tr⟩ post) (hki:fO bx kids kc I) (hsb:s≠b) (hbI:b ∉ I):
  ∃r bx',aV Tryz.prog 42 [.ptr s 0,.ptr b o] bx r bx'∧wv r=true∧aN bx'=true∧∀K,VD (m+1) [.ptr s 0,.ptr b o] bx K->K r bx':=by
 have hb:bx[b]?=some (pre++(.int .i64 k::.int .i64 y::.int .i64 p::.int .i64 bb::.str an::.str tg::.str tx::kc::cr lead::cs ag::.bool hh::.str tr::post)):=hx.1;have ho:=hx.2;have hs0:=hs;have hb0:=hb;refine agD.UK rfl hw ?_;have B:=V.base (ae.nil);have zE:Ev _ _ _ (au 42) [] []:=⟨B⟩
 conv=>whnf
 repeat' (first
 |((with_reducible refine (?_:∃c:List AV,_∧_));refine ⟨_,(by first|exact hb|exact hs),?_⟩;(conv=>whnf))
 |((with_reducible refine (?_:∃(blk:Bool),_));refine aH.get ?_)
 |refine nX ?_;conv=>whnf
 |with_reducible refine fun(hwr:wv _=true)(hwb:aN _=true)=>?_
 |(with_reducible refine fun(hw:aN _=true)=>?_);conv=>whnf
 |with_reducible assumption
 |((with_reducible intro h);exfalso;simp at h;done)
 |(with_reducible first|refine bU ho ?_|refine bF ho ?_|refine aQ ho ?_|refine aJ ho ?_|refine aI ?_);conv=>whnf
 |with_reducible refine And.intro ?_ ?_
 |exact cL
 |(with_reducible intro h);first|(try simp only [lG,reduceCtorEq] at h);first|done|(exfalso;omega)|replace h:=h trivial aZ|replace h:=h aZ|skip
 |fail)
 all_goals
  refine af.node hwb hx (Wk.cr _) (.refl _) fun b2 hw2 hl2 hx2 hr2=>?_;replace hl2:b2.length=bx.length:=hl2;replace hr2:∀j,j≠b->b2[j]?=bx[j]?:=hr2;refine af.mk hwr hw2 fun K hK=>?_;refine Qv hK hs0 hx hki (Eu hk) oM (hcl.Rn (q:=b) (fun j _ hne=>hr2 j hne) hb0 hx2.1 (fun i hi=>?_)) ((hr2 s hsb).trans hs) ⟨by rw [List.nil_append];exact hx2.1,ho⟩ (hki.fr fun i hi=>hr2 i (fun e=>hbI (e▸hi))) (fun j g1 g2 _=>hr2 j g2);rw [dF,dF,sG] at hi;simp only [dY,List.append_nil] at hi;rw [dF];simpa only [AV.aA,AV.ids,dY,nD,List.nil_append,List.append_nil] using hi
theorem ajw {m s b o q:Nat} (h71:az.OK Tryz.prog 71 (c71 m)) {blk:Bool} {c:List Cm} {pre post:List AV} {k y p bb:Int} {an tg tx tr:ByteArray} {lead ag:List Cm} {hh:Bool} {kids:List Nd} {cc:List AV} {J:List Nat} {bx:List (List AV)} (hk:k=3∨k=4) (hyb:(y=7∧blk=true)∨(y=7∧blk=false)∨y=6) (hw:aN bx=true) (hcl:gB bx.length bx) (hs:bx[s]?=some [.bool blk,cs c]) (hx:Bi bx b o pre ⟨k,y,p,bb,an,tg,tx,.dm q 35 12 kids.length,cr lead,cs ag,hh,tr⟩ post) (hq:bx[q]?=some cc) (hF:fG bx kids cc J) (hnd:(s::b::q::J).Nodup)
  (hpos:0<kids.length) (he:k=3∨k=4∧kids.length % 2=0) (hev:Oe kids=true) (htr:Jv kids=true) (hht:(hh||decide (tr=ByteArray.empty))=true) (hm:eP kids<=m) (hn:c.length+(lead.length+fD kids+ag.length+(mQ hh tr).length)<=9000000000) (hz:eP kids<=9000000000):
  ∃r bx',aV Tryz.prog 42 [.ptr s 0,.ptr b o] bx r bx'∧wv r=true∧aN bx'=true∧∀K,VD (m+1) [.ptr s 0,.ptr b o] bx K->K r bx':=by
 have hb:bx[b]?=some (pre++(.int .i64 k::.int .i64 y::.int .i64 p::.int .i64 bb::.str an::.str tg::.str tx::.dm q 35 12 kids.length::cr lead::cs ag::.bool hh::.str tr::post)):=hx.1;have ho:=hx.2;have hs0:=hs;have hb0:=hb;have hq0:=hq;have agm:=hnd;rw [List.nodup_cons,List.nodup_cons,List.nodup_cons] at hnd;obtain ⟨n1,n2,n3,hnJ⟩:=hnd;have hsb:s≠b:=fun e=>n1 (by rw [e];exact List.mem_cons_self);have En:s≠q:=fun e=>n1 (by rw [e];exact List.mem_cons_of_mem _ List.mem_cons_self);have hsJ:s ∉ J:=fun e=>n1 (List.mem_cons_of_mem _ (List.mem_cons_of_mem _ e));have hbq:b≠q:=fun e=>n2 (by rw [e];exact List.mem_cons_self);have WI:b ∉ J:=fun e=>n2 (List.mem_cons_of_mem _ e);have hJl:=hF.lt;have hbl:=(List.getElem?_eq_some_iff.1 hb).1;have hsl:=(List.getElem?_eq_some_iff.1 hs).1;have hql:=(List.getElem?_eq_some_iff.1 hq).1;have hzl:=wz kids;have hki:fO bx kids (.dm q 35 12 kids.length) (q::J):=.inr ⟨hpos,q,cc,J,rfl,rfl,hq,hF⟩;refine agD.UK rfl hw ?_;have B:=V.base (ae.cons h71 (ae.cons afL (ae.cons abY ae.nil)));have zE:Ev _ _ _ (au 42) [71] [72]:=⟨B⟩;rcases hyb with ⟨rfl,rfl⟩|⟨rfl,rfl⟩|rfl
 ·have hn43:∀c5:List Cm,c5.length<=c.length+fD kids->rY [c5,ag,mQ hh tr]<=10000000000:=fun c5 h=>by simp only [rY];omega
  have hoff:Ce.off (Ce.mk k 6 p bb an tg tx (.dm q 35 12 kids.length) (cr lead) (cs ag) hh tr)=⟨k,6,p,bb,an,tg,tx,.dm q 35 12 kids.length,cr lead,cs ag,false,ByteArray.empty⟩:=by
   cases hh with
   |true=>rfl
   |false=>
    simp only [Bool.false_or,decide_eq_true_eq] at hht;rw [hht];rfl
  conv=>whnf
  repeat' (first
  |((with_reducible refine (?_:∃c:List AV,_∧_));refine ⟨_,(by first|exact hb|exact hq|exact hs),?_⟩;(conv=>whnf))
  |((with_reducible refine (?_:∃(blk:Bool),_));refine aH.get ?_)
  |((with_reducible refine (?_:_∧gB _ _∧_));refine aH.get ?_)
  |refine nX ?_;conv=>whnf
  |with_reducible refine fun(hwr:wv _=true)(hwb:aN _=true)=>?_
  |(with_reducible refine fun(hw:aN _=true)=>?_);conv=>whnf
  |with_reducible assumption
  |((with_reducible intro h);exfalso;simp at h;done)
  |(with_reducible first|refine bU ho ?_|refine bF ho ?_|refine aQ ho ?_|refine aJ ho ?_|refine aI ?_);conv=>whnf
  |with_reducible refine And.intro ?_ ?_
  |exact cL
  |(with_reducible intro h);first|(try simp only [lG,reduceCtorEq] at h);first|done|(exfalso;omega)|replace h:=h trivial aZ|replace h:=h aZ|skip
  |fail)
  all_goals
   refine aH.mk ⟨true,c,pre,k,7,p,bb,an,tg,tx,q,cr lead,cs ag,hh,tr,post,kids,cc,J,⟨hw,hcl,hs,hx,hq,hF,agm,he,⟨hev,htr⟩,hm,oM,hz⟩,?_⟩;clear hs hq hb;have hRl:=EI (blk:=true) (k:=k) (c:=c) (kids:=kids);have Zx:=EJ (blk:=true) (k:=k) (c:=c) (kids:=kids);have hset:=Ij (blk:=true) (c:=c) (y:=7) (p:=p) (b:=bb) (an:=an) (tg:=tg) (tx:=tx) (lead:=lead) (ag:=ag) (h:=hh) (tr:=tr) hk hpos;generalize hR:oN true k c kids=R at hRl Zx hset;obtain ⟨kl,c5⟩:=R;intro b5 cc5 hl5 qo hs hq Zz DU;replace hs:b5[s]?=some [.bool true,cs c5]:=hs;replace Zz:fG b5 kl cc5 J:=Zz;replace hl5:b5.length=bx.length:=hl5;replace qo:gB bx.length b5:=qo;replace DU:∀j,j≠s->j≠q->j ∉ J->b5[j]?=bx[j]?:=DU;have hb:=(DU b (Ne.symm hsb) hbq WI).trans hb0;simp only at hRl Zx hset;rcases kl with _|⟨zz,zs⟩
   ·rw [List.length_nil] at hRl;omega
   obtain ⟨z1,z2,J1,J2,rfl,rfl,hZ,hZs⟩:=dI.1 Zz;obtain ⟨kz,yz,pz,qz,anz,X5,XU,SG,Dw,zJ,hz1,XW⟩:=zz;obtain ⟨kcz,rfl,hkz⟩:=iW.1 hZ;rw [fD,lW] at Zx;have hs5:=hs;have hb5:=hb;have hq5:=hq;have hl:b5.length=bx.length:=hl5;have hag:∀j,j≠s->j≠b->j≠q->b5[j]?=b5[j]?:=fun _ _ _ _=>rfl
   conv=>whnf
   repeat' (first
   |((with_reducible refine (?_:∃c:List AV,_∧_));refine ⟨_,(by first|exact hb|exact hq|exact hs),?_⟩;(conv=>whnf))
   |((with_reducible refine (?_:∃(blk:Bool),_));refine aH.get ?_)
   |((with_reducible refine (?_:_∧gB _ _∧_));refine aH.get ?_)
   |refine nX ?_;conv=>whnf
   |with_reducible refine fun(hwr:wv _=true)(hwb:aN _=true)=>?_
   |(with_reducible refine fun(hw:aN _=true)=>?_);conv=>whnf
   |with_reducible assumption
   |((with_reducible intro h);exfalso;simp at h;done)
   |((with_reducible refine (?_:LH _ _));refine LH.mld (by simp only [List.length_append];rfl) ?_;rw [lT ho,lT ho];rfl)
   |((with_reducible refine gZ.mk (i:=b) ?_);intro b1 hl1 hb hr1;replace hl:=hl1.trans hl;replace hs:=(hr1 s hsb).trans hs;replace hq:=(hr1 q (Ne.symm hbq)).trans hq;replace hag:=(fun j g1 g2 g3=>(hr1 j g2).trans (hag j g1 g2 g3));(conv=>whnf))
   |((with_reducible refine gZ.mk (i:=s) ?_);intro b1 hl1 hs hr1;replace hl:=hl1.trans hl;replace hb:=(hr1 b (Ne.symm hsb)).trans hb;replace hq:=(hr1 q (Ne.symm En)).trans hq;replace hag:=(fun j g1 g2 g3=>(hr1 j g1).trans (hag j g1 g2 g3));(conv=>whnf))
   |((with_reducible refine gZ.mk (i:=q) ?_);intro b1 hl1 hq hr1;replace hl:=hl1.trans hl;replace hs:=(hr1 s En).trans hs;replace hb:=(hr1 b hbq).trans hb;replace hag:=(fun j g1 g2 g3=>(hr1 j g3).trans (hag j g1 g2 g3));(conv=>whnf))
   |(with_reducible first|refine bU ho ?_|refine bF ho ?_|refine aQ ho ?_|refine aJ ho ?_|refine aI ?_);conv=>whnf
   |with_reducible refine And.intro ?_ ?_
   |exact cL
   |(with_reducible intro h);first|(try simp only [lG,reduceCtorEq] at h);first|done|(exfalso;omega)|replace h:=h trivial aZ|replace h:=h aZ|skip
   |fail)
   replace hl:b1.length=bx.length:=hl;replace hag:∀j,j≠s->j≠b->j≠q->b1[j]?=b5[j]?:=hag;replace hr1:∀j,j≠b->b1[j]?=b5[j]?:=hr1;replace hb:b1[b]?=some (pre++((Ce.mk k 6 p bb an tg tx (.dm q 35 12 kids.length) (cr lead) (cs ag) hh tr).l++post)):=hb;have WJ:b5[b]?=some (pre++((Ce.mk k 7 p bb an tg tx (.dm q 35 12 kids.length) (cr lead) (cs ag) hh tr).l++post)):=hb5;have Zp:gB bx.length b1:=qo.Rn (q:=b) (fun j _ hne=>hr1 j hne) WJ hb (Ce.wC rfl (nD _) (dY _));have hbo:=hb;have hso:=hs;have hqo:=hq;refine aH.mk ⟨by show bx.length<=b1.length;omega,Zp,?_⟩
   conv=>whnf
   refine ⟨uV.ptr hbl,?_⟩;intro b0 hl0 hr0 hw0;replace hr0:∀j,j<bx.length->b0[j]?=b1[j]?:=hr0;replace hl0:b0.length=bx.length:=hl0
   conv=>whnf
   refine ⟨pre,_,post,⟨hw0,(hr0 b hbl).trans hbo,ho⟩,?_⟩;intro b7 hl7 hx7 hr7;refine ⟨hl7.trans hl0,?_⟩;intro b8 hl8 DC qA;replace hl8:b8.length=b1.length:=hl8;replace DC:∀j,j<bx.length->b8[j]?=b7[j]?:=DC;clear hs hb hq;rw [hoff] at hx7;have hb:=(DC b hbl).trans hx7.1;have hs:=(DC s hsl).trans ((hr7 s hsb).trans ((hr0 s hsl).trans hso));have hq:=(DC q hql).trans ((hr7 q (Ne.symm hbq)).trans ((hr0 q hql).trans hqo));have apN:∀j,j≠s->j≠b->j≠q->b8[j]?=b5[j]?:=fun j g1 g2 g3=>by
    by_cases hjl:j<bx.length
    ·exact (DC j hjl).trans ((hr7 j g2).trans ((hr0 j hjl).trans (hag j g1 g2 g3)))
    ·rw [List.getElem?_eq_none oM,List.getElem?_eq_none oM]
   replace hl:b8.length=bx.length:=oM;clear hag;have hag:=apN;clear hr1 hl1
   conv=>whnf
   repeat' (first
   |((with_reducible refine (?_:∃c:List AV,_∧_));refine ⟨_,(by first|exact hb|exact hq|exact hs),?_⟩;(conv=>whnf))
   |((with_reducible refine (?_:∃(blk:Bool),_));refine aH.get ?_)
   |((with_reducible refine (?_:_∧gB _ _∧_));refine aH.get ?_)
   |refine nX ?_;conv=>whnf
   |with_reducible refine fun(hwr:wv _=true)(hwb:aN _=true)=>?_
   |(with_reducible refine fun(hw:aN _=true)=>?_);conv=>whnf
   |with_reducible assumption
   |((with_reducible intro h);exfalso;simp at h;done)
   |((with_reducible refine (?_:LH _ _));refine LH.mld (by simp only [List.length_append];rfl) ?_;rw [lT ho,lT ho];rfl)
   |((with_reducible refine gZ.mk (i:=b) ?_);intro b1 hl1 hb hr1;replace hl:=hl1.trans hl;replace hs:=(hr1 s hsb).trans hs;replace hq:=(hr1 q (Ne.symm hbq)).trans hq;replace hag:=(fun j g1 g2 g3=>(hr1 j g2).trans (hag j g1 g2 g3));(conv=>whnf))
   |((with_reducible refine gZ.mk (i:=s) ?_);intro b1 hl1 hs hr1;replace hl:=hl1.trans hl;replace hb:=(hr1 b (Ne.symm hsb)).trans hb;replace hq:=(hr1 q (Ne.symm En)).trans hq;replace hag:=(fun j g1 g2 g3=>(hr1 j g1).trans (hag j g1 g2 g3));(conv=>whnf))
   |((with_reducible refine gZ.mk (i:=q) ?_);intro b1 hl1 hq hr1;replace hl:=hl1.trans hl;replace hs:=(hr1 s En).trans hs;replace hb:=(hr1 b hbq).trans hb;replace hag:=(fun j g1 g2 g3=>(hr1 j g3).trans (hag j g1 g2 g3));(conv=>whnf))
   |((with_reducible refine (?_:oU _ _ _ _));first|(refine oU.ld hsl hso ((DC s hsl).trans ((hr7 s hsb).trans ((hr0 s hsl).trans hso))) rfl rfl)|(refine oU.ld hbl hbo ((DC b hbl).trans hx7.1) (by simp only [List.length_append];rfl) ?_;rw [lT ho,lT ho];rfl))
   |((with_reducible refine (?_:∃ts:List (List Cm),_∧_));refine ⟨[c5,ag,mQ hh tr],⟨rfl,rfl⟩,⟨hn43 c5 oM,by simp⟩,?_⟩;(conv=>whnf))
   |(exact bn (qZ (ts:=[c5,ag,mQ hh tr])))
   |(with_reducible first|refine bU ho ?_|refine bF ho ?_|refine aQ ho ?_|refine aJ ho ?_|refine aI ?_);conv=>whnf
   |with_reducible refine And.intro ?_ ?_
   |exact cL
   |(with_reducible intro h);first|(try simp only [lG,reduceCtorEq] at h);first|done|(exfalso;omega)|replace h:=h trivial aZ|replace h:=h aZ|skip
   |fail)
   replace hl:b1.length=bx.length:=hl;replace hag:∀j,j≠s->j≠b->j≠q->b1[j]?=b5[j]?:=hag;replace hs:b1[s]?=some ([.bool true]++ .row 56 2 (rY [c5,ag,mQ hh tr]) (eU [c5,ag,mQ hh tr].flatten)::[]):=hs;rw [ZZ] at hs;have hx1:Bi b1 b o pre ⟨k,6,p,bb,an,tg,tx,.dm q 35 12 kids.length,.row 56 2 (lead.length+Dw.length) (eU lead++eU Dw),.nil,false,ByteArray.empty⟩ post:=⟨hb,ho⟩;have hx2:Bi b1 q 0 [] ⟨kz,yz,pz,qz,anz,X5,XU,kcz,.nil,cs zJ,hz1,XW⟩ z2:=⟨hq,rfl⟩;rw [EU] at hx1;refine af.node (l2:=[]) hwb hx1 (Wk.cr _) Wk.wO fun b2 hw2 hl2 hx3 hr2=>?_;replace hl2:b2.length=b1.length:=hl2;replace hr2:∀j,j≠b->b2[j]?=b1[j]?:=hr2;refine af.node (l1:=[]) hw2 (⟨(hr2 q (Ne.symm hbq)).trans hx2.1,rfl⟩:Bi b2 q 0 [] ⟨kz,yz,pz,qz,anz,X5,XU,kcz,.nil,cs zJ,hz1,XW⟩ z2) Wk.wO (.refl _) fun b3 hw3 hl3 hx4 hr3=>?_;replace hl3:b3.length=b2.length:=hl3;refine af.cell hw3 (x:=cr (c5++ag++mQ hh tr)) (y:=cs (c5++ag++mQ hh tr)) ((hr3 s En).trans ((hr2 s hsb).trans hs)) (Wk.cr _) (zM _) fun bf hw4 hl4 hs4 hr4=>?_;replace hl4:bf.length=b3.length:=hl4;refine af.mk hwr hw4 fun K hK=>?_;have hR2:bJ true [] c (.mk k 7 p bb an tg tx kids lead ag hh tr)=(.mk k 6 p bb an tg tx (.mk kz yz pz qz anz X5 XU SG [] zJ hz1 XW::zs) (lead++Dw) [] false ByteArray.empty,c5++ag++mQ hh tr):=by rw [hset];simp [mD,uT,Nd.ld,Nd.lead]
   have rQ:∀j,j≠s->j≠b->j≠q->bf[j]?=b5[j]?:=fun j g1 g2 g3=>(hr4 j g1).trans ((hr3 j g3).trans ((hr2 j g2).trans (hag j g1 g2 g3)));have hxf:bf[b]?=_:=(hr4 b (Ne.symm hsb)).trans ((hr3 b hbq).trans hx3.1);have hqf:bf[q]?=_:=(hr4 q (Ne.symm En)).trans hx4.1;have hsf:bf[s]?=some [.bool true,cs (c5++ag++mQ hh tr)]:=hs4;have hJs:∀i ∈ J1++J2,bf[i]?=b5[i]?:=fun i hi=>rQ i (fun e=>hsJ (e▸hi)) (fun e=>WI (e▸hi)) (fun e=>n3 (e▸hi));refine Qv hK hs0 hx hki hR2 oM (qo.afa rQ hsf (TJ _ _) WJ hxf (Ce.wC rfl (dY _) (dY _)) hq5 hqf (Ce.wC (pre:=[]) rfl (dY _) (dY _))) hsf ⟨hxf,ho⟩ (fO.of (z:=.mk kz yz pz qz anz X5 XU SG [] zJ hz1 XW) (by rw [←hRl];rfl) hqf (hkz.fr fun i hi=>hJs i (List.mem_append_left _ hi)) (hZs.fr fun i hi=>hJs i (List.mem_append_right _ hi))) (fun j g1 g2 g3=>(rQ j g1 g2 (fun e=>g3 (by rw [e];exact List.mem_cons_self))).trans (DU j g1 (fun e=>g3 (by rw [e];exact List.mem_cons_self)) (fun e=>g3 (List.mem_cons_of_mem _ e))))
 ·have hn43:∀c5:List Cm,c5.length<=c.length+fD kids->rY [c5,ag]<=10000000000:=fun c5 h=>by simp only [rY];omega
  conv=>whnf
  repeat' (first
  |((with_reducible refine (?_:∃c:List AV,_∧_));refine ⟨_,(by first|exact hb|exact hq|exact hs),?_⟩;(conv=>whnf))
  |((with_reducible refine (?_:∃(blk:Bool),_));refine aH.get ?_)
  |((with_reducible refine (?_:_∧gB _ _∧_));refine aH.get ?_)
  |refine nX ?_;conv=>whnf
  |with_reducible refine fun(hwr:wv _=true)(hwb:aN _=true)=>?_
  |(with_reducible refine fun(hw:aN _=true)=>?_);conv=>whnf
  |with_reducible assumption
  |((with_reducible intro h);exfalso;simp at h;done)
  |(with_reducible first|refine bU ho ?_|refine bF ho ?_|refine aQ ho ?_|refine aJ ho ?_|refine aI ?_);conv=>whnf
  |with_reducible refine And.intro ?_ ?_
  |exact cL
  |(with_reducible intro h);first|(try simp only [lG,reduceCtorEq] at h);first|done|(exfalso;omega)|replace h:=h trivial aZ|replace h:=h aZ|skip
  |fail)
  all_goals
   refine aH.mk ⟨false,c,pre,k,7,p,bb,an,tg,tx,q,cr lead,cs ag,hh,tr,post,kids,cc,J,⟨hw,hcl,hs,hx,hq,hF,agm,he,⟨hev,htr⟩,hm,oM,hz⟩,?_⟩;clear hs hq hb;have hRl:=EI (blk:=false) (k:=k) (c:=c) (kids:=kids);have Zx:=EJ (blk:=false) (k:=k) (c:=c) (kids:=kids);have hset:=Ij (blk:=false) (c:=c) (y:=7) (p:=p) (b:=bb) (an:=an) (tg:=tg) (tx:=tx) (lead:=lead) (ag:=ag) (h:=hh) (tr:=tr) hk hpos;generalize hR:oN false k c kids=R at hRl Zx hset;obtain ⟨kl,c5⟩:=R;intro b5 cc5 hl5 qo hs hq Zz DU;replace hs:b5[s]?=some [.bool false,cs c5]:=hs;replace Zz:fG b5 kl cc5 J:=Zz;replace hl5:b5.length=bx.length:=hl5;replace qo:gB bx.length b5:=qo;replace DU:∀j,j≠s->j≠q->j ∉ J->b5[j]?=bx[j]?:=DU;have hb:=(DU b (Ne.symm hsb) hbq WI).trans hb0;simp only at hRl Zx hset;rcases kl with _|⟨zz,zs⟩
   ·rw [List.length_nil] at hRl;omega
   obtain ⟨z1,z2,J1,J2,rfl,rfl,hZ,hZs⟩:=dI.1 Zz;obtain ⟨kz,yz,pz,qz,anz,X5,XU,SG,Dw,zJ,hz1,XW⟩:=zz;obtain ⟨kcz,rfl,hkz⟩:=iW.1 hZ;rw [fD,lW] at Zx;have hs5:=hs;have hb5:=hb;have hq5:=hq;have hl:b5.length=bx.length:=hl5;have hag:∀j,j≠s->j≠b->j≠q->b5[j]?=b5[j]?:=fun _ _ _ _=>rfl
   conv=>whnf
   repeat' (first
   |((with_reducible refine (?_:∃c:List AV,_∧_));refine ⟨_,(by first|exact hb|exact hq|exact hs),?_⟩;(conv=>whnf))
   |((with_reducible refine (?_:∃(blk:Bool),_));refine aH.get ?_)
   |((with_reducible refine (?_:_∧gB _ _∧_));refine aH.get ?_)
   |refine nX ?_;conv=>whnf
   |with_reducible refine fun(hwr:wv _=true)(hwb:aN _=true)=>?_
   |(with_reducible refine fun(hw:aN _=true)=>?_);conv=>whnf
   |with_reducible assumption
   |((with_reducible intro h);exfalso;simp at h;done)
   |((with_reducible refine gZ.mk (i:=b) ?_);intro b1 hl1 hb hr1;replace hl:=hl1.trans hl;replace hs:=(hr1 s hsb).trans hs;replace hq:=(hr1 q (Ne.symm hbq)).trans hq;replace hag:=(fun j g1 g2 g3=>(hr1 j g2).trans (hag j g1 g2 g3));(conv=>whnf))
   |((with_reducible refine gZ.mk (i:=s) ?_);intro b1 hl1 hs hr1;replace hl:=hl1.trans hl;replace hb:=(hr1 b (Ne.symm hsb)).trans hb;replace hq:=(hr1 q (Ne.symm En)).trans hq;replace hag:=(fun j g1 g2 g3=>(hr1 j g1).trans (hag j g1 g2 g3));(conv=>whnf))
   |((with_reducible refine (?_:∃ts:List (List Cm),_∧_));refine ⟨[c5,ag],⟨rfl,rfl⟩,⟨hn43 c5 oM,by simp⟩,?_⟩;(conv=>whnf))
   |(exact bn (qZ (ts:=[c5,ag])))
   |(with_reducible first|refine bU ho ?_|refine bF ho ?_|refine aQ ho ?_|refine aJ ho ?_|refine aI ?_);conv=>whnf
   |with_reducible refine And.intro ?_ ?_
   |exact cL
   |(with_reducible intro h);first|(try simp only [lG,reduceCtorEq] at h);first|done|(exfalso;omega)|replace h:=h trivial aZ|replace h:=h aZ|skip
   |fail)
   replace hl:b1.length=bx.length:=hl;replace hag:∀j,j≠s->j≠b->j≠q->b1[j]?=b5[j]?:=hag;replace hs:b1[s]?=some ([.bool false]++ .nil::[]):=hs;have hx1:Bi b1 b o pre ⟨k,7,p,bb,an,tg,tx,.dm q 35 12 kids.length,cr lead,.row 56 2 (rY [c5,ag]) (eU [c5,ag].flatten),hh,tr⟩ post:=⟨hb,ho⟩;rw [Nz] at hx1;refine af.node hwb hx1 (Wk.cr _) (Wk.cr _) fun b2 hw2 hl2 hx2 hr2=>?_;replace hl2:b2.length=b1.length:=hl2;replace hr2:∀j,j≠b->b2[j]?=b1[j]?:=hr2;refine af.cell hw2 (x:=.nil) (y:=cs []) ((hr2 s hsb).trans hs) Wk.wO (zM _) fun b3 hw3 hl3 hs3 hr3=>?_;refine af.mk hwr hw3 fun K hK=>?_;have hR2:bJ false [] c (.mk k 7 p bb an tg tx kids lead ag hh tr)=(.mk k 7 p bb an tg tx (.mk kz yz pz qz anz X5 XU SG Dw zJ hz1 XW::zs) lead (c5++ag) hh tr,[]):=by rw [hset];simp [mD,uT]
   have rQ:∀j,j≠s->j≠b->j≠q->b3[j]?=b5[j]?:=fun j g1 g2 g3=>(hr3 j g1).trans ((hr2 j g2).trans (hag j g1 g2 g3));have hx3:b3[b]?=_:=(hr3 b (Ne.symm hsb)).trans hx2.1;have hq3:b3[q]?=_:=(hr3 q (Ne.symm En)).trans ((hr2 q (Ne.symm hbq)).trans hq);have WJ:b5[b]?=some (pre++((Ce.mk k 7 p bb an tg tx (.dm q 35 12 kids.length) (cr lead) (cs ag) hh tr).l++post)):=hb5;have hJs:∀i ∈ J1++J2,b3[i]?=b5[i]?:=fun i hi=>rQ i (fun e=>hsJ (e▸hi)) (fun e=>WI (e▸hi)) (fun e=>n3 (e▸hi));refine Qv hK hs0 hx hki hR2 oM (qo.afa rQ hs3 (TJ _ _) WJ hx3 (Ce.wC rfl (dY _) (dY _)) hq5 hq3 (fun i hi=>hi)) hs3 ⟨hx3,ho⟩ (fO.of hRl hq3 (hkz.fr fun i hi=>hJs i (List.mem_append_left _ hi)) (hZs.fr fun i hi=>hJs i (List.mem_append_right _ hi))) (fun j g1 g2 g3=>(rQ j g1 g2 (fun e=>g3 (by rw [e];exact List.mem_cons_self))).trans (DU j g1 (fun e=>g3 (by rw [e];exact List.mem_cons_self)) (fun e=>g3 (List.mem_cons_of_mem _ e))))
 ·conv=>whnf
  repeat' (first
  |((with_reducible refine (?_:∃c:List AV,_∧_));refine ⟨_,(by first|exact hb|exact hq|exact hs),?_⟩;(conv=>whnf))
  |((with_reducible refine (?_:∃(blk:Bool),_));refine aH.get ?_)
  |((with_reducible refine (?_:_∧gB _ _∧_));refine aH.get ?_)
  |refine nX ?_;conv=>whnf
  |with_reducible refine fun(hwr:wv _=true)(hwb:aN _=true)=>?_
  |(with_reducible refine fun(hw:aN _=true)=>?_);conv=>whnf
  |with_reducible assumption
  |((with_reducible intro h);exfalso;simp at h;done)
  |(with_reducible first|refine bU ho ?_|refine bF ho ?_|refine aQ ho ?_|refine aJ ho ?_|refine aI ?_);conv=>whnf
  |with_reducible refine And.intro ?_ ?_
  |exact cL
  |(with_reducible intro h);first|(try simp only [lG,reduceCtorEq] at h);first|done|(exfalso;omega)|replace h:=h trivial aZ|replace h:=h aZ|skip
  |fail)
  all_goals
   refine aH.mk ⟨blk,c,pre,k,6,p,bb,an,tg,tx,q,cr lead,cs ag,hh,tr,post,kids,cc,J,⟨hw,hcl,hs,hx,hq,hF,agm,he,⟨hev,htr⟩,hm,oM,hz⟩,?_⟩;clear hs hq hb;have hRl:=EI (blk:=blk) (k:=k) (c:=c) (kids:=kids);have Zx:=EJ (blk:=blk) (k:=k) (c:=c) (kids:=kids);have hset:=Ij (blk:=blk) (c:=c) (y:=6) (p:=p) (b:=bb) (an:=an) (tg:=tg) (tx:=tx) (lead:=lead) (ag:=ag) (h:=hh) (tr:=tr) hk hpos;generalize hR:oN blk k c kids=R at hRl Zx hset;obtain ⟨kl,c5⟩:=R;intro b5 cc5 hl5 qo hs hq Zz DU;replace hs:b5[s]?=some [.bool blk,cs c5]:=hs;replace Zz:fG b5 kl cc5 J:=Zz;replace hl5:b5.length=bx.length:=hl5;replace qo:gB bx.length b5:=qo;replace DU:∀j,j≠s->j≠q->j ∉ J->b5[j]?=bx[j]?:=DU;have hb:=(DU b (Ne.symm hsb) hbq WI).trans hb0;simp only at hRl Zx hset;rcases kl with _|⟨zz,zs⟩
   ·rw [List.length_nil] at hRl;omega
   obtain ⟨z1,z2,J1,J2,rfl,rfl,hZ,hZs⟩:=dI.1 Zz;obtain ⟨kz,yz,pz,qz,anz,X5,XU,SG,Dw,zJ,hz1,XW⟩:=zz;obtain ⟨kcz,rfl,hkz⟩:=iW.1 hZ;rw [fD,lW] at Zx;have hs5:=hs;have hb5:=hb;have hq5:=hq;have hl:b5.length=bx.length:=hl5;have hag:∀j,j≠s->j≠b->j≠q->b5[j]?=b5[j]?:=fun _ _ _ _=>rfl
   conv=>whnf
   repeat' (first
   |((with_reducible refine (?_:∃c:List AV,_∧_));refine ⟨_,(by first|exact hb|exact hq|exact hs),?_⟩;(conv=>whnf))
   |((with_reducible refine (?_:∃(blk:Bool),_));refine aH.get ?_)
   |((with_reducible refine (?_:_∧gB _ _∧_));refine aH.get ?_)
   |refine nX ?_;conv=>whnf
   |with_reducible refine fun(hwr:wv _=true)(hwb:aN _=true)=>?_
   |(with_reducible refine fun(hw:aN _=true)=>?_);conv=>whnf
   |with_reducible assumption
   |((with_reducible intro h);exfalso;simp at h;done)
   |((with_reducible refine (?_:LH _ _));refine LH.mld (by simp only [List.length_append];rfl) ?_;rw [lT ho,lT ho];rfl)
   |((with_reducible refine gZ.mk (i:=b) ?_);intro b1 hl1 hb hr1;replace hl:=hl1.trans hl;replace hs:=(hr1 s hsb).trans hs;replace hq:=(hr1 q (Ne.symm hbq)).trans hq;replace hag:=(fun j g1 g2 g3=>(hr1 j g2).trans (hag j g1 g2 g3));(conv=>whnf))
   |((with_reducible refine gZ.mk (i:=s) ?_);intro b1 hl1 hs hr1;replace hl:=hl1.trans hl;replace hb:=(hr1 b (Ne.symm hsb)).trans hb;replace hq:=(hr1 q (Ne.symm En)).trans hq;replace hag:=(fun j g1 g2 g3=>(hr1 j g1).trans (hag j g1 g2 g3));(conv=>whnf))
   |((with_reducible refine gZ.mk (i:=q) ?_);intro b1 hl1 hq hr1;replace hl:=hl1.trans hl;replace hs:=(hr1 s En).trans hs;replace hb:=(hr1 b hbq).trans hb;replace hag:=(fun j g1 g2 g3=>(hr1 j g3).trans (hag j g1 g2 g3));(conv=>whnf))
   |(with_reducible first|refine bU ho ?_|refine bF ho ?_|refine aQ ho ?_|refine aJ ho ?_|refine aI ?_);conv=>whnf
   |with_reducible refine And.intro ?_ ?_
   |exact cL
   |(with_reducible intro h);first|(try simp only [lG,reduceCtorEq] at h);first|done|(exfalso;omega)|replace h:=h trivial aZ|replace h:=h aZ|skip
   |fail)
   replace hl:b1.length=bx.length:=hl;replace hag:∀j,j≠s->j≠b->j≠q->b1[j]?=b5[j]?:=hag;have hx1:Bi b1 b o pre ⟨k,6,p,bb,an,tg,tx,.dm q 35 12 kids.length,.row 56 2 (lead.length+Dw.length) (eU lead++eU Dw),cs ag,hh,tr⟩ post:=⟨hb,ho⟩;have hx2:Bi b1 q 0 [] ⟨kz,yz,pz,qz,anz,X5,XU,kcz,.nil,cs zJ,hz1,XW⟩ z2:=⟨hq,rfl⟩;rw [EU] at hx1;refine af.node hwb hx1 (Wk.cr _) (.refl _) fun b2 hw2 hl2 hx3 hr2=>?_;replace hl2:b2.length=b1.length:=hl2;replace hr2:∀j,j≠b->b2[j]?=b1[j]?:=hr2;refine af.node (l1:=[]) hw2 (⟨(hr2 q (Ne.symm hbq)).trans hx2.1,rfl⟩:Bi b2 q 0 [] ⟨kz,yz,pz,qz,anz,X5,XU,kcz,.nil,cs zJ,hz1,XW⟩ z2) Wk.wO (.refl _) fun bf hw3 hl3 hx4 hr3=>?_;replace hl3:bf.length=b2.length:=hl3;refine af.mk hwr hw3 fun K hK=>?_;have hR2:bJ blk [] c (.mk k 6 p bb an tg tx kids lead ag hh tr)=(.mk k 6 p bb an tg tx (.mk kz yz pz qz anz X5 XU SG [] zJ hz1 XW::zs) (lead++Dw) ag hh tr,c5):=by rw [hset];simp [mD,uT,Nd.ld,Nd.lead]
   have rQ:∀j,j≠s->j≠b->j≠q->bf[j]?=b5[j]?:=fun j g1 g2 g3=>(hr3 j g3).trans ((hr2 j g2).trans (hag j g1 g2 g3));have hxf:bf[b]?=_:=(hr3 b hbq).trans hx3.1;have hqf:bf[q]?=_:=hx4.1;have hsf:bf[s]?=some [.bool blk,cs c5]:=(hr3 s En).trans ((hr2 s hsb).trans hs);have WJ:b5[b]?=some (pre++((Ce.mk k 6 p bb an tg tx (.dm q 35 12 kids.length) (cr lead) (cs ag) hh tr).l++post)):=hb5;have hJs:∀i ∈ J1++J2,bf[i]?=b5[i]?:=fun i hi=>rQ i (fun e=>hsJ (e▸hi)) (fun e=>WI (e▸hi)) (fun e=>n3 (e▸hi));refine Qv hK hs0 hx hki hR2 oM (qo.afa rQ hsf (TJ _ _) WJ hxf (Ce.wC rfl (dY _) (dY _)) hq5 hqf (Ce.wC (pre:=[]) rfl (dY _) (dY _))) hsf ⟨hxf,ho⟩ (fO.of (z:=.mk kz yz pz qz anz X5 XU SG [] zJ hz1 XW) (by rw [←hRl];rfl) hqf (hkz.fr fun i hi=>hJs i (List.mem_append_left _ hi)) (hZs.fr fun i hi=>hJs i (List.mem_append_right _ hi))) (fun j g1 g2 g3=>(rQ j g1 g2 (fun e=>g3 (by rw [e];exact List.mem_cons_self))).trans (DU j g1 (fun e=>g3 (by rw [e];exact List.mem_cons_self)) (fun e=>g3 (List.mem_cons_of_mem _ e))))
theorem ajt {m:Nat} (h71:az.OK Tryz.prog 71 (c71 m)):az.OK Tryz.prog 42 (VD (m+1)):=by
 intro args bx K0 h;unfold VD at h;split at h
 ·rename_i s b o;obtain ⟨blk,c,pre,k,y,p,bb,an,tg,tx,kc,lead,ag,h,tr,post,kids,I,⟨h1,h2,h3,h4,h5,h6,⟨h7,h8⟩,h9,h10,h11⟩,-⟩:=h;have hsb:s≠b:=fun e=>(List.nodup_cons.1 h6).1 (by rw [e];exact List.mem_cons_self);have hbI:b ∉ I:=(List.nodup_cons.1 (List.nodup_cons.1 h6).2).1;rw [lW] at h10;rw [jT] at h9 h11;by_cases hk:k=3∨k=4
  ·have hki:=h5;rcases h5 with ⟨g1,rfl,rfl⟩|⟨g1,q,cc,J,rfl,rfl,g2,g3⟩
   ·have hkids:=List.eq_nil_of_length_eq_zero g1;subst hkids;obtain ⟨r,bx',e1,e2,e3,e4⟩:=ajv (m:=m) hk h1 h2 h3 h4 hsb oM;exact ⟨r,bx',e1,e2,e3,e4⟩
   ·rw [Vj] at h7;rw [LU] at h8;simp only [Bool.and_eq_true,Bool.or_eq_true,Bool.not_eq_true',decide_eq_true_eq,decide_eq_false_iff_not,Bool.or_eq_false_iff] at h7 h8;obtain ⟨⟨e1,e2⟩,e3⟩:=h7;have hy:y=6∨y=7:=by
     rcases e2 with e2|e2
     ·omega
     ·exact e2
    have hyb:(y=7∧blk=true)∨(y=7∧blk=false)∨y=6:=by
     rcases hy with e|e
     ·exact .inr (.inr e)
     ·cases blk
      ·exact .inr (.inl ⟨e,rfl⟩)
      ·exact .inl ⟨e,rfl⟩
    have he:k=3∨k=4∧kids.length % 2=0:=by
     rcases hk with e|e
     ·exact .inl e
     ·rcases e1 with e1|e1
      ·exact absurd e e1
      ·exact .inr ⟨e,e1⟩
    have h8':(h||decide (tr=ByteArray.empty))=true:=by
     rcases h8.1 with e|e
     ·rw [e];rfl
     ·rw [decide_eq_true e,Bool.or_true]
    exact ajw h71 hk hyb h1 h2 h3 h4 g2 g3 h6 g1 he e3 h8.2 h8' oM h10 oM
  ·exact aju hk h1 h2 h3 h4 h5 hsb hbI
 ·exact h.elim
theorem adX:az.OK Tryz.prog 42 (VD 0):=by
 intro args bx K0 h;unfold VD at h;split at h
 ·obtain ⟨blk,c,pre,k,y,p,bb,an,tg,tx,kc,lead,ag,h,tr,post,kids,I,⟨-,-,-,-,-,-,-,h9,-⟩,-⟩:=h;rw [jT] at h9;omega
 ·exact h.elim
theorem YM:az.OK Tryz.prog 101 (NI 0):=by
 intro args bx K0 h;unfold NI at h;split at h
 ·obtain ⟨blk,c,pre,x1,x2,yF,EK,post,I1,I2,⟨-,-,-,-,-,-,-,-,-,-,-,h9,-⟩,-⟩:=h;cases x1;rw [jT] at h9;omega
 ·exact h.elim
theorem alh:∀m,az.OK Tryz.prog 42 (VD m)∧az.OK Tryz.prog 101 (NI m)∧az.OK Tryz.prog 71 (c71 m)
 |0=>⟨adX,YM,ajl adX YM⟩
 |m+1=>by obtain ⟨h1,h2,h3⟩:=alh m;have g1:=ajt h3;have g2:=akl m h1;exact ⟨g1,g2,ajl g1 g2⟩
theorem aoT (m:Nat):az.OK Tryz.prog 42 (VD m):=(alh m).1
section
variable {lim lim' : Nat -> Nat} {bs bs' : List Nat} {w w' : World} {P : Program} {T : kZ} {a : Act} {o : Oper} {m : Nat -> Prop} {bx bx' : List (List AV)} {S S' : uP} {K : Act -> World -> Prop} {Q : Exit -> Act -> World -> Prop} {cal : BR} {σ σ' σ1 σ2 : aF}
theorem Oz {L:Nat}:jr [] L=fun j=>L+j:=by funext j;unfold jr;simp
theorem WW {g:Nat} {cap ys:List AV} {r:AV} {nb:List (List AV)} {X:List Nat->Value->World->Prop} (Og:Ent P g)
  (hcall:∀(lim:Nat->Nat) (bs:List Nat) (w:World) (vs:List Value) (m:Nat->Prop),vs.length=ys.length->(∀b,w.heap.size<=b->m b)->aB lim bs w [] (aS ys vs) m->
   Calls P g vs.toArray w fun e w'=>∃v lim' bs',e=.returned v∧aB lim' bs' w' nb (rS r v) m∧Fr m lim w lim' w'∧X bs' v w')
  (H:aB lim bs w σ.bx (Sl σ.tm a) m) (hm:∀b,w.heap.size<=b->m b) (hd:∀k,o.dst=some k->k<a.tmps.size) {c:Call} {f:Operand} (ho:o.op=.call c) (hc:c.callee=.value f) (hv:val σ.tm f=.fn g cap) (hcf:AV.aj cap=true)
  (hys:ys=(c.args.toList.map (val σ.tm)).map AV.cO++cap) (hyi:AV.aA ys=[]) (hK:∀lim' bsn w' v,N9 m lim bs w a ⟨eG σ.tm o.dst (r.bP fun j=>σ.bx.length+j),σ.bx++nb.map (AV.aG fun j=>σ.bx.length+j)⟩ lim' (bs++bsn) w' (a.put o.dst v)->X bsn v w'->bsn.length=nb.length->K (a.put o.dst v) w'):o.wp P a w K Q:=by
 have hfr:=(pg H f).1.r;rw [hv,AV.R] at hfr;obtain ⟨vc,hfe,hcap⟩:=hfr;obtain ⟨hargs,yj⟩:=qV H c.args.toList;have hall:AV.Rs lim bs w ys (c.args.toList.map a.eval++vc.toList):=by rw [hys];exact ng hargs hcap
 have hyf:AV.aj ys=true:=by rw [hys];exact fA yj hcf
 have hlen2:(c.args.toList.map a.eval++vc.toList).length=ys.length:=AV.gK hall;have DK:∀(k:Nat) (x:AV) (v:Value),ys[k]?=some x->(c.args.toList.map a.eval++vc.toList)[k]?=some v->AV.R lim (([]:List Nat).map fun i=>bs.getD i 0) w x v:=by
  intro k x v hk hv;obtain ⟨v',h1,h2⟩:=mO hall hk;rw [hv] at h1;cases h1;have hxi:AV.ids x=[]:=by rw [List.eq_nil_iff_forall_not_mem];intro i hi;have:i ∈ AV.aA ys:=AV.jV.2 ⟨x,List.mem_of_getElem? hk,hi⟩;rw [hyi] at this;cases this
  have:=AV.R.bP (f:=fun i=>i) (bs':=([]:List Nat).map fun i=>bs.getD i 0) (fun i hi=>by rw [hxi] at hi;cases hi) h2
  rwa [su (fun i hi=>rfl)] at this
 have DN:∀(k:Nat) (x:AV),ys[k]?=some x->x.flat=true:=fun k x hk=>fJ hyf hk;have hE:=H.enter (ids:=[]) .nil (show bD σ.bx []=some [] from rfl) (fun c hc=>by cases hc) (args:=ys) (vs:=c.args.toList.map a.eval++vc.toList) hlen2 DN DK;obtain ⟨HE,hE1,hE2,hE3⟩:=hE;have hrun:(execOp a.eval o).run P w=.ok (.enter g (c.args.map a.eval++vc)) w:=by unfold execOp;simp only [ho,resolve,hc,hfe,Deferred.ofValue,Sem.run_bind,Sem.run_pure,Result.andThen_ok,invoke,Array.empty_append];exact qh Og _
 have hvs:(c.args.toList.map a.eval++vc.toList).toArray=c.args.map a.eval++vc:=by rw [←Array.toList_inj];simp
 unfold Oper.wp;rw [hrun];show Calls P g (c.args.map a.eval++vc) w _;rw [←hvs];refine (hcall lim _ w _ _ hlen2 (fun b hb=> .inr (.inr hb)) HE).mono ?_;rintro e w' ⟨v,lim',bsn,rfl,H',Nl,hX⟩;have hL:=H.leave hm (ids:=[]) .nil (show bD σ.bx []=some [] from rfl) (bx':=nb) (Nat.zero_le _) (r:=r) (v:=v) (Sc:=aS ys (c.args.toList.map a.eval++vc.toList)) (bsc:=([]:List Nat).map fun i=>bs.getD i 0) (bsn:=bsn) (lim':=lim') (w':=w') rfl (fun i hi=>absurd hi (Nat.not_lt_zero _)) hE1 hE2 hE3 H' Nl o.dst;rw [Oz] at hL;simp only [List.length_nil,List.take_zero,List.map_nil,List.drop_zero,aC] at hL;obtain ⟨HL,hfl⟩:=hL;refine hK lim' bsn w' v ⟨?_,hfl,fun i b hi=>by rw [List.getElem?_append_left (List.getElem?_eq_some_iff.1 hi).1];exact hi,bY _ _ _,put_defers _ _ _⟩ hX H'.len;show aB lim' _ w' _ (Sl (eG σ.tm o.dst _) (a.put o.dst v)) m;rw [jh hd];exact HL
theorem aK.ab5 {base:Nat} {ops:Array Oper} {g:Nat} {cap ys:List AV} {r:AV} {nb:List (List AV)} (HC:aV P g ys [] r nb) (hg:o.guard=none) {c:Call} {f:Operand} (ho:o.op=.call c) (hc:c.callee=.value f) (hv:val σ.tm f=.fn g cap) (hcf:AV.aj cap=true)
  (hys:ys=(c.args.toList.map (val σ.tm)).map AV.cO++cap) (hyi:AV.aA ys=[]):aK P base ops o σ ⟨eG σ.tm o.dst (r.bP fun j=>σ.bx.length+j),σ.bx++nb.map (AV.aG fun j=>σ.bx.length+j)⟩:=by
 intro m lim bs w a K Q hd H hm hK;rw [if_pos (by simp [Region.wanted,hg])];refine WW (X:=fun _ _ _=>True) HC.Og (fun lim bs w vs m h1 h2 h3=>(HC.call lim bs w vs m h1 h2 h3).mono ?_) H hm hd ho hc hv hcf hys hyi (fun lim' bsn w' v hg _ _=>hK _ _ _ _ hg.B);rintro e w' ⟨v,lim',bs',e1,e2,e3,-⟩;exact ⟨v,lim',bs',e1,e2,e3,trivial⟩
theorem MS (HT:mM P T) (H:aB lim bs w σ.bx (Sl σ.tm a) m) (hm:∀b,w.heap.size<=b->m b) (hd:∀k,o.dst=some k->k<a.tmps.size) {t e:Nat} {d:TD} {n c:Operand} (ho:o.op=.makeSlice t n c) (ht:AA T t=some (e,d)) {kn kc:IntKind} {c':Int} (hn1:a.eval n=.int kn 0) (hc1:a.eval c=.int kc c') (k2:0<=c') (k3:c'<=10000000000) (k5:d.size<=100) (k6:d.bytes<=1000) (k4:0<d.size) (hK:yA m lim bs w a ⟨eG σ.tm o.dst (.row e d.size 0 []),σ.bx⟩ K):o.wp P a w K Q:=by
 have hml:c'.toNat<=maxLen:=by have:(10000000000:Nat)<=maxLen:=dE;omega
 obtain ⟨hu,he⟩:=tY HT ht;obtain ⟨i,z,hi,hs,hby,hz,hzc,hzr⟩:=HT.info e d he;have hrun:(execOp a.eval o).run P w=.ok (.value (.slice (some ⟨w.heap.size,0,none⟩) 0 c'.toNat)) (w.alloc (.cells (madeCells z.cells (c'.toNat*i.size)) e)):=by
  unfold execOp;simp only [ho,hn1,hc1];have hb:(i.bytes:Int)*c'<=281474976710656:=by
   have h1:(i.bytes:Int)<=1000:=by rw [hby];omega
   have h2:(i.bytes:Int)*c'<=1000*c':=Int.mul_le_mul_of_nonneg_right h1 k2;omega
  rw [Sem.run_bind,run_make w t e i z hu hi hz kn kc 0 c' (Int.le_refl _) k2 hb oM];rfl
 obtain ⟨H2,hfr,hown⟩:=H.grow (w':=w.alloc (.cells (madeCells z.cells (c'.toNat*i.size)) e)) (g:=w.heap.size) (n:=0) (fun hb=>Nat.lt_irrefl _ (lU H hb)) (hm _ (Nat.le_refl _)) (by rw [kG];omega) (by rw [kG];omega) (AP w _) (fun k hk _=>alloc_old w _ hk) (fun p hp=>Nat.lt_irrefl _ (Own.lt H hp)) (.inr ⟨rfl,kG w _⟩) (by rw [H.top _ (Nat.le_refl _)];omega) (fun j hj=>absurd hj (Nat.lt_irrefl _)) (fun cur e p hh=>absurd (dO hh) (Nat.lt_irrefl _));refine jq hrun (hK _ bs _ _ ⟨?_,hfr,fun _ _ h=>h,bY _ _ _,put_defers _ _ _⟩);show aB _ bs _ σ.bx (Sl (eG σ.tm o.dst (.row e d.size 0 [])) (a.put o.dst _)) m;rw [jh hd];refine H2.eG (Px (Nat.zero_mul _).symm rfl (uo w _) (Nat.zero_le _) ?_ (by rw [size_madeCells,hs]) (by simp) ⟨[],by rw [AV.Rs],by rw [Nat.zero_mul,List.take_zero]⟩) (by rw [AV.top];rfl) (fun k g _ _ hg=>?_)
 ·exact hml
 ·have hg':w.heap.size=g:=by simpa [Value.ownBlock] using hg
  subst hg';exact ⟨hm _ (Nat.le_refl _),fun hb=>Nat.lt_irrefl _ (lU H hb),fun p hp=>absurd (Own.lt H (hown p _ hp)) (Nat.lt_irrefl _)⟩
theorem aK.msl {base:Nat} {ops:Array Oper} (HT:mM P T) (hg:o.guard=none) {t e:Nat} {d:TD} {n c:Operand} (ho:o.op=.makeSlice t n c) (ht:AA T t=some (e,d)) {kn kc:IntKind} {c':Int} (hn1:val σ.tm n=.int kn 0) (hc1:val σ.tm c=.int kc c') (k2:0<=c') (k3:c'<=10000000000) (k5:d.size<=100) (k6:d.bytes<=1000) (k4:0<d.size):aK P base ops o σ ⟨eG σ.tm o.dst (.row e d.size 0 []),σ.bx⟩:=by intro m lim bs w a K Q hd H hm hK;rw [if_pos (by simp [Region.wanted,hg])];have h1:=(pg H n).1.r;have h2:=(pg H c).1.r;rw [hn1,AV.R] at h1;rw [hc1,AV.R] at h2;exact MS HT H hm hd ho ht h1 h2 k2 k3 k5 k6 k4 (fun eQ mY w1 a2 hg=>hK _ _ _ _ hg.B)
end
variable {P : Program} {T : kZ} {sp : Sp} {n0 base : Nat} {σ τ : aF} {Q : zV -> aF -> Prop} {cal : BR}
def Steps (P:Program) (base:Nat) (ops:Array Oper):List Oper->aF->aF->Prop
 |[],σ,τ=>σ=τ
 |o::r,σ,τ=>∃σ1,aK P base ops o σ σ1∧Steps P base ops r σ1 τ
theorem Steps.go {ops:Array Oper} {m:Nat->Prop}:∀(l:List Oper) {σ τ:aF} {lim:Nat->Nat} {bs:List Nat} {w:World} {a:Act} {Q:Exit->Act->World->Prop},Steps P base ops l σ τ->(∀o ∈ l,∀k,o.dst=some k->k<a.tmps.size)->aB lim bs w σ.bx (Sl σ.tm a) m->(∀b,w.heap.size<=b->m b)->kJ base m lim bs w a τ (Q .normal)->wpList P ops Q l a w
 |[],σ,τ,lim,bs,w,a,Q,h,hd,H,hm,hK=>by obtain rfl:σ=τ:=h;exact wpList_nil (hK _ _ _ _ ⟨H,Fr.refl,fun _ _ _ h=>h,rfl,rfl⟩)
 |o::l,σ,τ,lim,bs,w,a,Q,h,hd,H,hm,hK=>by obtain ⟨σ1,h1,h2⟩:=h;refine wpList_step fun K' hK'=>?_;refine h1 (fun k hk=>hd o List.mem_cons_self k hk) H hm (fun eQ mY w1 a2 hg=>hK' a2 w1 ?_);exact Steps.go l h2 (fun o ho k hk=>by rw [hg.nt];exact hd o (List.mem_cons_of_mem _ ho) k hk) hg.hold (fun b hb=>hm b (Nat.le_trans hg.fr.bel.size hb)) (fun jB wR w2 a3 hg2=>hK jB wR w2 a3 (hg.trans hg2))
theorem WP.steps (an:Gm) {i:Nat} {ops:Array Oper} (h:Steps P base ops ops.toList σ τ) (hok:Ok σ->Ok ⟨prune (an.live.getD i []) τ.tm,τ.bx⟩) (hq:Q .normal ⟨prune (an.live.getD i []) τ.tm,τ.bx⟩):WP P n0 base (.region i ops false) σ Q:=by refine WP.mk fun hg hσ=>?_;refine ⟨.normal,⟨prune (an.live.getD i []) τ.tm,τ.bx⟩,fun hn hb H hm hK=>?_,hok hσ,hq⟩;exact wp_region_list (Steps.go ops.toList h (rU hg hn) H hm fun lim' bs' w' a' hgo=>hK lim' bs' w' a' ⟨hgo.hold.prune _,hgo.fr,hgo.pre,hgo.nt,hgo.df⟩)
abbrev Zt:=(Nat->Prop)->(Nat->Nat)->List Nat->World->Act->(Exit->Act->World->Prop)->Prop
def WZ (P:Program) (n0 base:Nat) (c:Code) (σ:aF) (Z:Zt):Prop:=jK n0 c=true->Ok σ->∀{m:Nat->Prop} {rJ:Nat->Nat} {Oh:List Nat} {w0:World} {a0:Act} {lim:Nat->Nat} {bs:List Nat} {w:World} {a:Act} {Q:Exit->Act->World->Prop},n0<=a.tmps.size->base<=σ.bx.length->rW base m rJ Oh w0 a0 σ lim bs w a->(∀b,w.heap.size<=b->m b)->Z m rJ Oh w0 a0 Q->c.wp P Q a w
def zQ (P:Program) (n0 base:Nat) (y:Code) (Z:Zt) (e:zV) (τ:aF):Prop:=
 match e with
 |.normal=>WZ P n0 base y τ Z
 |_=>False
theorem WZ.seq {x y:Code} {Z:Zt} (h:WP P n0 base x σ (zQ P n0 base y Z)):WZ P n0 base (.seq x y) σ Z:=by
 intro hg hσ m rJ Oh w0 a0 lim bs w a R hn hb hgo hm hZ;rw [jK,Bool.and_eq_true] at hg;obtain ⟨e,τ,h1,h2,h3⟩:=WP.out h hg.1 hσ;cases e with
 |normal=>
  refine wp_seq (h1 hn hb hgo.hold hm fun eQ mY w1 a1 hg1=>?_);exact h3 hg.2 h2 (by rw [hg1.nt];exact hn) (hlen hb hgo.hold hg1) (hgo.trans hg1) (fun b hb=>hm b (Nat.le_trans hg1.fr.bel.size hb)) hZ
 |exit i=>exact h3.elim
 |ret=>exact h3.elim
theorem WZ.ao8 {c:Code} {Z:Zt} {R:zV->aF->Prop} (h:WP P n0 base c σ R) (hz:∀(m:Nat->Prop) (rJ:Nat->Nat) (Oh:List Nat) (w0:World) (a0:Act) (Q:Exit->Act->World->Prop),Z m rJ Oh w0 a0 Q->∀e τ,Ok τ->R e τ->kJ base m rJ Oh w0 a0 τ (Q (WU e))):WZ P n0 base c σ Z:=by intro hg hσ m rJ Oh w0 a0 lim bs w a Q hn hb hgo hm hZ;obtain ⟨e,τ,h1,h2,h3⟩:=WP.out h hg hσ;exact h1 hn hb hgo.hold hm fun eQ mY w1 a1 hg1=>hz m rJ Oh w0 a0 Q hZ e τ h2 h3 eQ mY w1 a1 (hgo.trans hg1)
theorem WZ.pJ {c:Code} {Z:Zt} (hr:Rx base σ τ) (h:WZ P n0 base c τ Z):WZ P n0 base c σ Z:=by intro hg hσ m rJ Oh w0 a0 lim bs w a Q hn hb hgo hm hZ;obtain ⟨r1,r2⟩:=hr hσ;obtain ⟨lim',bs',g1,g2,g3⟩:=r2 hb hgo.hold;have Zn:rW base _ _ _ _ _ τ lim' bs' _ _:=⟨g1,g2,g3,rfl,rfl⟩;exact h hg r1 hn (hlen hb hgo.hold Zn) (hgo.trans Zn) hm hZ
theorem WZ.mk {c:Code} {Z:Zt} (h:jK n0 c=true->Ok σ->∀{m:Nat->Prop} {rJ:Nat->Nat} {Oh:List Nat} {w0:World} {a0:Act} {lim:Nat->Nat} {bs:List Nat} {w:World} {a:Act} {Q:Exit->Act->World->Prop},n0<=a.tmps.size->base<=σ.bx.length->rW base m rJ Oh w0 a0 σ lim bs w a->(∀b,w.heap.size<=b->m b)->Z m rJ Oh w0 a0 Q->c.wp P Q a w):WZ P n0 base c σ Z:=h
attribute [irreducible] WZ
theorem xX (f:Nat->Nat) (l:List Cm):AV.bP f (cs l)=cs l:=Ah (dY l)
where
 Ah {f:Nat->Nat} {x:AV} (h:AV.ids x=[]):AV.bP f x=x:=by
  have e:∀i ∈ AV.ids x,f i=i:=fun i hi=>by rw [h] at hi;cases hi
  exact su e
theorem PE (f:Nat->Nat):∀(a b:List AV),AV.aG f (a++b)=AV.aG f a++AV.aG f b
 |[],b=>rfl
 |x::a,b=>by rw [List.cons_append,AV.aG,AV.aG,PE f a b,List.cons_append]
theorem aak (f:Nat->Nat) (x:Nd) (kc:AV):AV.aG f (x.ce kc).l=(x.ce (AV.bP f kc)).l:=by cases x;simp only [Nd.ce,Ce.l,AV.aG,xX,AV.bP]
mutual
theorem qw.mv {b bx:List (List AV)} {f:Nat->Nat} (hb:∀(j:Nat) (z:List AV),b[j]?=some z->bx[f j]?=some (AV.aG f z)):∀{x:Nd} {c:List AV} {I:List Nat},qw b x c I->qw bx x (AV.aG f c) (I.map f)
 |.mk k y p bb an tg tx kids lead ag h tr,c,I,hh=>by
  rw [qw] at hh;obtain ⟨kc,h1,h2⟩:=hh;have h1':c=((Nd.mk k y p bb an tg tx kids lead ag h tr).ce kc).l:=h1;rw [qw];refine ⟨AV.bP f kc,by rw [h1',aak];rfl,?_⟩;rcases h2 with ⟨g1,rfl,rfl⟩|⟨g1,q,cc,J,rfl,rfl,g2,g3⟩
  ·exact .inl ⟨g1,rfl,rfl⟩
  ·exact .inr ⟨g1,f q,AV.aG f cc,J.map f,rfl,rfl,hb _ _ g2,fG.mv hb g3⟩
theorem fG.mv {b bx:List (List AV)} {f:Nat->Nat} (hb:∀(j:Nat) (z:List AV),b[j]?=some z->bx[f j]?=some (AV.aG f z)):∀{l:List Nd} {c:List AV} {J:List Nat},fG b l c J->fG bx l (AV.aG f c) (J.map f)
 |[],c,J,h=>by obtain ⟨rfl,rfl⟩:=gY.1 h;exact gY.2 ⟨rfl,rfl⟩
 |x::l,c,J,h=>by obtain ⟨c1,c2,J1,J2,rfl,rfl,h1,h2⟩:=dI.1 h;exact dI.2 ⟨AV.aG f c1,AV.aG f c2,J1.map f,J2.map f,PE f c1 c2,List.map_append,qw.mv hb h1,fG.mv hb h2⟩
end
end V
namespace V
open Ab
open Bk (Cm)
def c39:az:=fun args bx K=>match args,bx with
 |[.sl n l],[]=>∃t:List Cm,(n=t.length∧l=eU t)∧t.length<=10000000000∧K (.row 56 2 n l) []
 |_,_=>False
theorem G7:∀l:List Cm,dZ (eU l)=true
 |[]=>rfl
 |c::l=>by have:=G7 l;rw [eU];simpa [dZ,AV.one] using this
theorem aoU:az.OK Tryz.prog 39 c39:=by
 intro args bx K0 h;unfold c39 at h;split at h
 ·obtain ⟨t,⟨rfl,rfl⟩,h2,-⟩:=h;refine ⟨_,_,Jh (jM t) (G7 t) (lD t) h2,?_,rfl,fun K hK=>?_⟩
  ·exact ay t
  ·obtain ⟨t',⟨-,-⟩,-,hK⟩:=hK;exact hK
 ·exact h.elim
theorem aK.apa {P:Program} {T:kZ} {σ τ:aF} {o:Oper} {base:Nat} {ops:Array Oper} (HT:mM P T) (hg:o.guard=none) {t e:Nat} {d:TD} {n c:Operand} (ho:o.op=.makeSlice t n c) (ht:AA T t=some (e,d)) {kn kc:IntKind} {c':Int} (hn1:val σ.tm n=.int kn 0) (hc1:val σ.tm c=.int kc c') (k2:0<=c') (k3:c'<=10000000000) (k5:d.size<=100∧d.bytes<=1000∧0<d.size) (hτ:τ=⟨eG σ.tm o.dst (.row e d.size 0 []),σ.bx⟩):aK P base ops o σ τ:=by subst hτ;exact aK.msl HT hg ho ht hn1 hc1 k2 k3 k5.1 k5.2.1 k5.2.2
theorem aqS:∃d:TD,AA jJ 33=some (35,d)∧(d.size<=100∧d.bytes<=1000∧0<d.size)∧d.size=12:=⟨_,rfl,dE,rfl⟩
theorem aK.core {P:Program} {T:kZ} {cal:BR} {σ τ:aF} {o:Oper} {base:Nat} {ops:Array Oper} (HT:mM P T) (HC:fB P cal) (hg:o.guard=none) (md:Md) {ids:List Nat} {cs:List (List AV)} {out:Out} (ht:eH (val σ.tm) σ.bx o.op=ids) (hcs:bD σ.bx ids=some cs) (hc:Ab.core cal T (jb md.ad o.dst) (jb md.arr o.dst) σ.bx.length (val σ.tm) cs ids o.type o.op=some out) (hok:out.ok=true) (hτ:τ=fin o.dst out ids (kS (jb md.ad o.dst) o.op) σ):aK P base ops o σ τ:=by subst hτ;subst ht;intro m lim bs w a K Q hd H hm hK;rw [if_pos (by simp [Region.wanted,hg])];refine PV HT HC H hm hd (md:=md) ?_ (fun eQ mY w1 a2 hg=>hK _ _ _ _ hg.B);unfold VM Bc;rw [hcs];simp only [];rw [hc];simp only [];rw [if_pos hok]
theorem aK.app {P:Program} {T:kZ} {σ τ:aF} {o:Oper} {base:Nat} {ops:Array Oper} (HT:mM P T) (hg:o.guard=none) {dd:Nat} (hdst:o.dst=some dd) {c:Call} {t:Nat} {s x:Operand} (ho:o.op=.call c) (Gp:c.callee=.builtin .append) (hargs:c.args=#[s,x]) (SL:c.argTypes=#[t,t]) (md:Md) (hb:md.base=base) (h:E8 T md dd σ s x t=some τ):aK P base ops o σ τ:=by subst hb;intro m lim bs w a K Q hd H hm hK;rw [if_pos (by simp [Region.wanted,hg])];exact VI HT H hm (hd dd hdst) hdst ho Gp hargs SL h hK
theorem adm {md:Md} {d x y:Nat} {k:List AV} {σ:aF} (hx:get σ.tm x=.row 35 12 0 []) (hy:get σ.tm y=.row 35 12 1 k) (hk:k.length=12) (h1:dZ k=true) (h2:AV.aj k=true):E8 jJ md d σ (.tmp x) (.tmp y) 33=some ⟨put (gu σ.tm [x]) d (.dm σ.bx.length 35 12 1),σ.bx++[k]⟩:=by unfold E8;rw [show AA jJ 33=some (35,_) from rfl];simp only [];rw [show val σ.tm (.tmp y)=.row 35 12 1 k from hy];rw [show elems (.row 35 12 1 k)=some (1,k) from rfl];simp only [];rw [if_pos ⟨dE,by rw [hk],dE,dE,h1,h2⟩];rw [show val σ.tm (.tmp x)=.row 35 12 0 [] from hx];simp only [];rw [if_pos (by refine ⟨dE,?_⟩;first|trivial|exact ⟨rfl,dE⟩|(constructor<;>first|rfl|decide))];rfl
theorem adn {md:Md} {d x y q n:Nat} {c k:List AV} {σ:aF} (hx:get σ.tm x=.dm q 35 12 n) (hy:get σ.tm y=.row 35 12 1 k) (hk:k.length=12) (h1:dZ k=true) (h2:AV.aj k=true) (hc:σ.bx[q]?=some c) (hb:md.base<=q) (hn:n+1<=10000000000) (hl:c.length=n*12) (hi:q ∉ AV.aA (c++k)) (hf:AV.aj c=true):E8 jJ md d σ (.tmp x) (.tmp y) 33=some ⟨put (kill q σ).tm d (.dm q 35 12 (n+1)),(kill q σ).bx.set q (c++k)⟩:=by
 unfold E8;rw [show AA jJ 33=some (35,_) from rfl];simp only [];rw [show val σ.tm (.tmp y)=.row 35 12 1 k from hy];rw [show elems (.row 35 12 1 k)=some (1,k) from rfl];simp only [];rw [if_pos ⟨dE,by rw [hk],dE,dE,h1,h2⟩];rw [show val σ.tm (.tmp x)=.dm q 35 12 n from hx];simp only [];rw [hc];simp only [];have hm:mem q (AV.aA (c++k))=false:=by
  cases hh:mem q (AV.aA (c++k)) with
  |false=>rfl
  |true=>exact absurd (mem_iff.1 hh) hi
 rw [if_pos (by first|exact ⟨hb,rfl,rfl,hn,hl,hm,hf⟩|(refine ⟨hb,?_,?_,hn,hl,hm,hf⟩<;>trivial))]
theorem rM {q:Nat} {v:AV} (h:q ∉ v.ids):fC q v=v:=by
 unfold fC;cases hh:mem q v.ids with
 |false=>rfl
 |true=>exact absurd (mem_iff.1 hh) h
theorem af6 {q:Nat} {σ:aF} (h:∀z ∈ σ.bx,q ∉ AV.aA z):(kill q σ).bx=σ.bx:=by unfold kill;simp only [];refine (List.map_congr_left fun c hc=>?_).trans (List.map_id _);refine (List.map_congr_left fun v hv=>rM fun e=>h c hc (AV.jV.2 ⟨v,hv,e⟩)).trans (List.map_id _)
mutual
theorem RS {f:Nat->Nat} {L:Nat} (hf:∀j,L<=f j):∀(x:AV),∀i ∈ AV.ids (AV.bP f x),L<=i
 |.ptr i o,j,h=>by rw [AV.bP,AV.ids,List.mem_singleton] at h;rw [h];exact hf i
 |.dm i e z n,j,h=>by rw [AV.bP,AV.ids,List.mem_singleton] at h;rw [h];exact hf i
 |.sl n l,j,h=>by rw [AV.bP,AV.ids] at h;exact qX hf l j h
 |.row e z n l,j,h=>by rw [AV.bP,AV.ids] at h;exact qX hf l j h
 |.el l,j,h=>by rw [AV.bP,AV.ids] at h;exact qX hf l j h
 |.agg l,j,h=>by rw [AV.bP,AV.ids] at h;exact qX hf l j h
 |.bW l,j,h=>by rw [AV.bP,AV.ids] at h;exact qX hf l j h
 |.fn g l,j,h=>by rw [AV.bP,AV.ids] at h;exact qX hf l j h
 |.bool _,j,h=>by cases h
 |.int _ _,j,h=>by cases h
 |.str _,j,h=>by cases h
 |.nil,j,h=>by cases h
 |.nz _,j,h=>by cases h
 |.ql _,j,h=>by cases h
 |.low _ _ _,j,h=>by cases h
 |.bad,j,h=>by cases h
theorem qX {f:Nat->Nat} {L:Nat} (hf:∀j,L<=f j):∀(l:List AV),∀i ∈ AV.aA (AV.aG f l),L<=i
 |[],j,h=>by cases h
 |x::l,j,h=>by
  rw [AV.aG,AV.aA,List.mem_append] at h;rcases h with h|h
  ·exact RS hf x j h
  ·exact qX hf l j h
end
theorem fO.mv {b bx:List (List AV)} {f:Nat->Nat} (hb:∀(j:Nat) (z:List AV),b[j]?=some z->bx[f j]?=some (AV.aG f z)) {kids:List Nd} {kc:AV} {I:List Nat} (h:fO b kids kc I):fO bx kids (AV.bP f kc) (I.map f):=by
 rcases h with ⟨g1,rfl,rfl⟩|⟨g1,q,cc,J,rfl,rfl,g2,g3⟩
 ·exact .inl ⟨g1,rfl,rfl⟩
 ·exact .inr ⟨g1,f q,AV.aG f cc,J.map f,rfl,rfl,hb _ _ g2,fG.mv hb g3⟩
theorem fO.kc {b:List (List AV)} {kids:List Nd} {kc:AV} {I:List Nat} (h:fO b kids kc I):kc.one=true∧kc.flat=true∧wv kc=true∧kc.cO=kc:=by rcases h with ⟨g1,rfl,rfl⟩|⟨g1,q,cc,J,rfl,rfl,g2,g3⟩<;>exact ⟨rfl,rfl,rfl,rfl⟩
mutual
theorem afx {f:Nat->Nat} {n:Nat}:∀(x:AV),(∀j ∈ AV.ids x,f j<n)->∀i ∈ AV.ids (AV.bP f x),i<n
 |.ptr i o,hf,j,h=>by rw [AV.bP,AV.ids,List.mem_singleton] at h;rw [h];exact hf i (by rw [AV.ids];exact List.mem_singleton.2 rfl)
 |.dm i e z n,hf,j,h=>by rw [AV.bP,AV.ids,List.mem_singleton] at h;rw [h];exact hf i (by rw [AV.ids];exact List.mem_singleton.2 rfl)
 |.sl n l,hf,j,h=>by rw [AV.bP,AV.ids] at h;rw [AV.ids] at hf;exact vw l hf j h
 |.row e z n l,hf,j,h=>by rw [AV.bP,AV.ids] at h;rw [AV.ids] at hf;exact vw l hf j h
 |.el l,hf,j,h=>by rw [AV.bP,AV.ids] at h;rw [AV.ids] at hf;exact vw l hf j h
 |.agg l,hf,j,h=>by rw [AV.bP,AV.ids] at h;rw [AV.ids] at hf;exact vw l hf j h
 |.bW l,hf,j,h=>by rw [AV.bP,AV.ids] at h;rw [AV.ids] at hf;exact vw l hf j h
 |.fn g l,hf,j,h=>by rw [AV.bP,AV.ids] at h;rw [AV.ids] at hf;exact vw l hf j h
 |.bool _,hf,j,h=>by cases h
 |.int _ _,hf,j,h=>by cases h
 |.str _,hf,j,h=>by cases h
 |.nil,hf,j,h=>by cases h
 |.nz _,hf,j,h=>by cases h
 |.ql _,hf,j,h=>by cases h
 |.low _ _ _,hf,j,h=>by cases h
 |.bad,hf,j,h=>by cases h
theorem vw {f:Nat->Nat} {n:Nat}:∀(l:List AV),(∀j ∈ AV.aA l,f j<n)->∀i ∈ AV.aA (AV.aG f l),i<n
 |[],hf,j,h=>by cases h
 |x::l,hf,j,h=>by
  rw [AV.aG,AV.aA,List.mem_append] at h;rcases h with h|h
  ·exact afx x (fun k hk=>hf k (by rw [AV.aA];exact List.mem_append_left _ hk)) j h
  ·exact vw l (fun k hk=>hf k (by rw [AV.aA];exact List.mem_append_right _ hk)) j h
end
def BQ (b:List (List AV)):Prop:=∀z ∈ b,∀i ∈ AV.aA z,i<b.length
theorem EG {l:List Nat} (L:Nat) (h:l.Nodup):(l.map fun j=>L+j).Nodup:=List.Pairwise.map _ (fun a b hn e=>hn oM) h
theorem BQ.app {a b:List (List AV)} (ha:BQ a) (hb:BQ b):BQ (a++b.map (AV.aG fun j=>a.length+j)):=by
 intro z hz i hi;rw [List.length_append,List.length_map];rcases List.mem_append.1 hz with hz|hz
 ·have:=ha z hz i hi;omega
 ·obtain ⟨y,hy,rfl⟩:=List.mem_map.1 hz;exact vw y (fun j hj=>by have:=hb y hy j hj;omega) i hi
theorem BQ.one {a:List (List AV)} {c:List AV} (ha:BQ a) (hc:∀i ∈ AV.aA c,i<a.length):BQ (a++[c]):=by
 intro z hz i hi;rw [List.length_append,List.length_singleton];rcases List.mem_append.1 hz with hz|hz
 ·have:=ha z hz i hi;omega
 ·rw [List.mem_singleton.1 hz] at hi;have:=hc i hi;omega
theorem BQ.set {a:List (List AV)} {q:Nat} {c:List AV} (ha:BQ a) (hc:∀i ∈ AV.aA c,i<a.length):BQ (a.set q c):=by
 intro z hz i hi;rw [List.length_set];rcases List.mem_or_eq_of_mem_set hz with hz|rfl
 ·exact ha z hz i hi
 ·exact hc i hi
theorem BQ.facts {a b:List (List AV)} {q:Nat} {c:List AV} (ha:BQ a) (hl:b.length=a.length) (hq:b[q]?=some c) (ho:∀j,j≠q->b[j]?=a[j]?) (hc:∀i ∈ AV.aA c,i<a.length):BQ b:=by
 intro z hz i hi;rw [hl];obtain ⟨j,hj⟩:=List.getElem?_of_mem hz;by_cases e:j=q
 ·rw [e,hq] at hj;cases hj;exact hc i hi
 ·rw [ho j e] at hj;exact ha z (List.mem_of_getElem? hj) i hi
theorem BQ.more {a b:List (List AV)} {c:List AV} (ha:BQ a) (hl:b.length=a.length+1) (hq:b[a.length]?=some c) (ho:∀j,j<a.length->b[j]?=a[j]?) (hc:∀i ∈ AV.aA c,i<a.length):BQ b:=by
 intro z hz i hi;rw [hl];obtain ⟨j,hj⟩:=List.getElem?_of_mem hz;have hjl:=(List.getElem?_eq_some_iff.1 hj).1;by_cases e:j=a.length
 ·rw [e,hq] at hj;cases hj;have:=hc i hi;omega
 ·rw [ho j oM] at hj;have:=ha z (List.mem_of_getElem? hj) i hi;omega
theorem NG {k y p b:Int} {an tg tx:ByteArray} {kc lc fc:AV} {h:Bool} {tr:ByteArray} (h1:AV.ids lc=[]) (h2:AV.ids fc=[]):AV.aA (Ce.mk k y p b an tg tx kc lc fc h tr).l=AV.ids kc:=by rw [sG];simp only [h1,h2,List.append_nil]
theorem anC {a b c d:Bool} (h1:a=true) (h2:b=true) (h3:c=true) (h4:d=true):(((a && b) && c) && d)=true:=by rw [h1,h2,h3,h4];rfl
theorem Ea (l:List Cm):(cs l).flat=true:=lD l
theorem Tv {k y p b:Int} {an tg tx:ByteArray} {kc:AV} {l1 l2:List Cm} {h:Bool} {tr:ByteArray} (g1:kc.one=true) (g2:kc.flat=true) (g3:wv kc=true):dZ (Ce.mk k y p b an tg tx kc (cs l1) (cs l2) h tr).l=true∧AV.aj (Ce.mk k y p b an tg tx kc (cs l1) (cs l2) h tr).l=true∧gG (Ce.mk k y p b an tg tx kc (cs l1) (cs l2) h tr).l=true:=by
 have h1:(cs l1).one=true:=rfl;have h2:(cs l2).one=true:=rfl;refine ⟨?_,?_,?_⟩
 ·simp only [Ce.l,dZ,g1,h1,h2];rfl
 ·simp only [Ce.l,AV.aj,AV.flat,g2,Ea,Bool.and_self]
 ·rw [dP];intro v hv;simp only [Ce.l,List.mem_cons,List.not_mem_nil,or_false] at hv;rcases hv with rfl|rfl|rfl|rfl|rfl|rfl|rfl|rfl|rfl|rfl|rfl|rfl<;>first|exact ⟨g1,g3⟩|exact ⟨rfl,D9 _⟩|exact ⟨rfl,rfl⟩
theorem aK.aeb {P:Program} {σ τ:aF} {o:Oper} {base:Nat} {ops:Array Oper} {g:Nat} {cap ys:List AV} {r:AV} {nb:List (List AV)} (HC:aV P g ys [] r nb) (hg:o.guard=none) {c:Call} {f:Operand} (ho:o.op=.call c) (hc:c.callee=.value f) (hv:val σ.tm f=.fn g cap) (hcf:AV.aj cap=true)
  (hys:ys=(c.args.toList.map (val σ.tm)).map AV.cO++cap) (hyi:AV.aA ys=[]) (hτ:τ=⟨eG σ.tm o.dst (r.bP fun j=>σ.bx.length+j),σ.bx++nb.map (AV.aG fun j=>σ.bx.length+j)⟩):aK P base ops o σ τ:=by
 subst hτ;exact aK.ab5 HC hg ho hc hv hcf hys hyi
theorem fG.aj {b:List (List AV)}:∀{l:List Nd} {c:List AV} {J:List Nat},fG b l c J->AV.aj c=true
 |[],c,J,h=>by obtain ⟨rfl,-⟩:=gY.1 h;rfl
 |x::l,c,J,h=>by obtain ⟨c1,c2,J1,J2,rfl,-,h1,h2⟩:=dI.1 h;obtain ⟨kc,rfl,hk⟩:=iW.1 h1;cases x;exact fA (Tv hk.kc.1 hk.kc.2.1 hk.kc.2.2.1).2.1 (fG.aj h2)
theorem Hz {f:Nat->Nat} {b:List (List AV)} (h:aN b=true):aN (b.map (AV.aG f))=true:=aY.2 fun c hc=>by obtain ⟨z,hz,rfl⟩:=List.mem_map.1 hc;exact Gy (aY.1 h z hz)
theorem xN (x:Nd):AV.aA (bV x)=[]:=jc (bn (jg x))
def c41 (m:Nat):az:=fun args bx K=>match args,bx with
 |[.agg c0],[]=>∃nd:Nd,c0=bV nd∧(jT nd<=m∧lW nd<=9000000000∧jT nd<=9000000000)∧∀(kc:AV) (b:List (List AV)) (I:List Nat),fO b nd.kids kc I->I.Nodup->BQ b->K (.agg (nd.ce kc).l) b
 |_,_=>False
def J8 (nd:Nd) (σ:aF):Prop:=∃(kc:AV) (z1:List AV) (bx1:List (List AV)) (I:List Nat),σ=⟨[(2,.ptr 1 0),(1,.ptr 0 0)],bx1⟩∧bx1[0]?=some (Ce.mk nd.k nd.y nd.p nd.b nd.an nd.tg nd.tx kc (cr nd.lead) (cr nd.ag) nd.h nd.tr).l∧bx1[1]?=some z1∧z1.length=12∧fO bx1 nd.kids kc I∧I.Nodup∧(∀i ∈ I,2<=i)∧BQ bx1
def tl5 (c:Code):Code:=
 match c with
 |.seq _ (.seq _ (.seq _ (.seq _ (.seq _ t))))=>t
 |c=>c
def jQ (J:Code->aF->Prop) (y:Code) (e:zV) (τ:aF):Prop:=
 match e with
 |.normal=>J y τ
 |_=>False
def tl2 (c:Code):Code:=
 match c with
 |.seq _ (.seq _ t)=>t
 |c=>c
structure LF (L8:AV) (E:List (List AV)):Prop where
 cell:∀{k y p b:Int} {an tg tx:ByteArray} {kc:AV} {ag:List Cm} {h:Bool} {tr:ByteArray} {i:Nat},i ∈ AV.aA (Ce.mk k y p b an tg tx kc L8 (cr ag) h tr).l->i ∈ AV.ids kc∨i<2+E.length
 E:∀z ∈ E,AV.aA z=[]
theorem LF.row (l:List Cm):LF (cr l) []:=⟨fun hi=>by rw [NG (nD _) (nD _)] at hi;exact .inl hi,fun z hz=>by cases hz⟩
def alp:=fN 41 Tryz.f41 34 [.cell 2 35]
def J8R (nd:Nd) (L8:AV) (E:List (List AV)) (σ:aF):Prop:=∃(kc:AV) (z1:List AV) (bx1:List (List AV)) (I:List Nat),σ=⟨[(2,.ptr 1 0),(1,.ptr 0 0)],bx1⟩∧bx1[0]?=some (Ce.mk nd.k nd.y nd.p nd.b nd.an nd.tg nd.tx kc L8 (cr nd.ag) nd.h nd.tr).l∧bx1[1]?=some z1∧z1.length=12∧fO bx1 nd.kids kc I∧I.Nodup∧(∀i ∈ I,2+E.length<=i)∧BQ bx1∧(∀(j:Nat) (z:List AV),E[j]?=some z->bx1[2+j]?=some z)∧(∀(j:Nat) (z:List AV),2+E.length<=j->bx1[j]?=some z->∀i ∈ AV.aA z,2+E.length<=i)
def CIR (kids:List Nd) (N Z1:List AV) (E:List (List AV)) (j:Nat) (τ:aF):Prop:=∃(a r:List Nd) (v3:AV) (bx1:List (List AV)),kids=a++r∧j=r.length∧τ=⟨[(21,.int .i64 a.length),(20,.int .i64 kids.length),(19,.sl kids.length (aO kids)),(3,v3),(2,.ptr 1 0),(1,.ptr 0 0)],bx1⟩∧bx1[0]?=some N∧bx1[1]?=some Z1∧BQ bx1∧
 ((a=[]∧v3=.row 35 12 0 [])∨(0<a.length∧∃q ca J,v3=.dm q 35 12 a.length∧2+E.length<=q∧bx1[q]?=some ca∧fG bx1 a ca J∧(q::J).Nodup∧(∀i ∈ J,2+E.length<=i)∧∀z ∈ bx1,q ∉ AV.aA z))∧2+E.length<=bx1.length∧(∀(j:Nat) (z:List AV),E[j]?=some z->bx1[2+j]?=some z)∧(∀(j:Nat) (z:List AV),2+E.length<=j->bx1[j]?=some z->∀i ∈ AV.aA z,2+E.length<=i)
theorem Ui {m:Nat} (ih:az.OK Tryz.prog 41 (c41 m)) {J:Code->aF->Prop} (hseq:∀(x y:Code) (σ:aF),WP Tryz.prog 34 0 x σ (jQ J y)->J (.seq x y) σ) {k y p bb:Int} {an tg tx:ByteArray} {kids:List Nd} {lead ag:List Cm} {hh:Bool} {tr:ByteArray} {L8:AV} {E:List (List AV)} (hL:LF L8 E) {Z0:List AV} (hZl:Z0.length=12) (hZi:AV.aA Z0=[]) (hm:eP kids<=m) (hn:fD kids<=9000000000) (hz:eP kids<=9000000000)
  (hend:∀σ,J8R (.mk k y p bb an tg tx kids lead ag hh tr) L8 E σ->J (tl5 (Tryz.f41.body.getD .skip)) σ):sV (tl2 (Tryz.f41.body.getD .skip)) fun c=>J c ⟨[(2,.ptr 1 0),(1,.ptr 0 0)],(Ce.mk k y p bb an tg tx (.sl kids.length (aO kids)) L8 (cr ag) hh tr).l::Z0::E⟩:=by
 have B:=V.base ae.nil;have zE:Ev _ _ _ (au 41) [] []:=⟨B⟩;have hzl:=wz kids;obtain ⟨d,hd1,hd2,hd3⟩:=aqS;have apz:AV.ids (.sl kids.length (aO kids))=[]:=by rw [AV.ids];exact jc (bn (ai kids))
 have hP0:2+E.length<=((Ce.mk k y p bb an tg tx (.sl kids.length (aO kids)) L8 (cr ag) hh tr).l::Z0::E).length:=by rw [List.length_cons,List.length_cons];omega
 have hE0:∀(j:Nat) (z:List AV),E[j]?=some z->((Ce.mk k y p bb an tg tx (.sl kids.length (aO kids)) L8 (cr ag) hh tr).l::Z0::E)[2+j]?=some z:=fun j z h=>by rw [show 2+j=j+1+1 from by omega,List.getElem?_cons_succ,List.getElem?_cons_succ];exact h
 have hB0:∀(j:Nat) (z:List AV),2+E.length<=j->((Ce.mk k y p bb an tg tx (.sl kids.length (aO kids)) L8 (cr ag) hh tr).l::Z0::E)[j]?=some z->∀i ∈ AV.aA z,2+E.length<=i:=fun j z hj hz=>by have:=(List.getElem?_eq_some_iff.1 hz).1;rw [List.length_cons,List.length_cons] at this;omega
 have hcl0:BQ ((Ce.mk k y p bb an tg tx (.sl kids.length (aO kids)) L8 (cr ag) hh tr).l::Z0::E):=by
  intro z hz i hi;rw [List.length_cons,List.length_cons];rcases List.mem_cons.1 hz with rfl|hz
  ·rcases hL.cell hi with h|h
   ·rw [apz] at h;cases h
   ·omega
  ·rcases List.mem_cons.1 hz with rfl|hz
   ·rw [hZi] at hi;cases hi
   ·rw [hL.E z hz] at hi;cases hi
 conv=>whnf
 refine hseq _ _ _ ?_;refine WP.steps (au 41) (τ:=⟨[(17,.sl 0 []),(16,.int .i64 kids.length),(15,.sl kids.length (aO kids)),(14,.ptr 0 7),(3,.row 35 12 0 []),(2,.ptr 1 0),(1,.ptr 0 0)],((Ce.mk k y p bb an tg tx (.sl kids.length (aO kids)) L8 (cr ag) hh tr).l::Z0::E)⟩) ⟨⟨[(14,.ptr 0 7),(2,.ptr 1 0),(1,.ptr 0 0)],((Ce.mk k y p bb an tg tx (.sl kids.length (aO kids)) L8 (cr ag) hh tr).l::Z0::E)⟩,aK.core tok dD rfl ⟨[],[],0⟩ (ids:=[]) (cs:=[]) rfl rfl rfl rfl (by unfold fin;simp only [aC,List.append_nil];rfl),⟨[(15,.sl kids.length (aO kids)),(14,.ptr 0 7),(2,.ptr 1 0),(1,.ptr 0 0)],((Ce.mk k y p bb an tg tx (.sl kids.length (aO kids)) L8 (cr ag) hh tr).l::Z0::E)⟩,aK.core tok dD rfl ⟨[],[],0⟩ (ids:=[0]) (cs:=[(Ce.mk k y p bb an tg tx (.sl kids.length (aO kids)) L8 (cr ag) hh tr).l]) rfl rfl rfl rfl (by unfold fin;simp only [List.append_nil];rfl),⟨[(16,.int .i64 kids.length),(15,.sl kids.length (aO kids)),(14,.ptr 0 7),(2,.ptr 1 0),(1,.ptr 0 0)],((Ce.mk k y p bb an tg tx (.sl kids.length (aO kids)) L8 (cr ag) hh tr).l::Z0::E)⟩,aK.core tok dD rfl ⟨[],[],0⟩ (ids:=[]) (cs:=[]) rfl rfl rfl rfl (by unfold fin;simp only [aC,List.append_nil];rfl),⟨[(17,.row 35 12 0 []),(16,.int .i64 kids.length),(15,.sl kids.length (aO kids)),(14,.ptr 0 7),(2,.ptr 1 0),(1,.ptr 0 0)],((Ce.mk k y p bb an tg tx (.sl kids.length (aO kids)) L8 (cr ag) hh tr).l::Z0::E)⟩,aK.apa (kn:=.i64) (kc:=.i64) (c':=kids.length) tok rfl rfl hd1 rfl rfl oM oM hd2 (by rw [hd3];rfl),⟨[(17,.sl 0 []),(16,.int .i64 kids.length),(15,.sl kids.length (aO kids)),(14,.ptr 0 7),(3,.row 35 12 0 []),(2,.ptr 1 0),(1,.ptr 0 0)],((Ce.mk k y p bb an tg tx (.sl kids.length (aO kids)) L8 (cr ag) hh tr).l::Z0::E)⟩,aK.core tok dD rfl ⟨[],[],0⟩ (ids:=[]) (cs:=[]) rfl rfl rfl rfl (by unfold fin;simp only [aC,List.append_nil];rfl),rfl⟩ (fun hσ=>⟨by rfl,hσ.bx⟩) ?_;have h00:((Ce.mk k y p bb an tg tx (.sl kids.length (aO kids)) L8 (cr ag) hh tr).l::Z0::E)[0]?=some (Ce.mk k y p bb an tg tx (.sl kids.length (aO kids)) L8 (cr ag) hh tr).l:=rfl;have h01:((Ce.mk k y p bb an tg tx (.sl kids.length (aO kids)) L8 (cr ag) hh tr).l::Z0::E)[1]?=some Z0:=rfl;generalize ((Ce.mk k y p bb an tg tx (.sl kids.length (aO kids)) L8 (cr ag) hh tr).l::Z0::E)=bx0 at hP0 hE0 hB0 hcl0 h00 h01⊢
 conv=>whnf
 repeat' (first
 |(with_reducible refine hseq _ _ _ ?_)
 |((with_reducible refine (?_:∃c:List AV,_∧_));refine ⟨_,h00,?_⟩;(conv=>whnf))
 |((with_reducible refine (?_:∀(k:Nat) (τ:aF),CIR _ _ _ _ k τ->_));refine aH.get ?_)
 |refine nX ?_;conv=>whnf
 |with_reducible refine fun(hwr:wv _=true)(hwb:aN _=true)=>?_
 |(with_reducible refine fun(hw:aN _=true)=>?_);conv=>whnf
 |with_reducible assumption
 |((with_reducible refine (?_:WP _ _ _ (.loop _) _ _));refine WP.loop (CIR kids (Ce.mk k y p bb an tg tx (.sl kids.length (aO kids)) L8 (cr ag) hh tr).l Z0 E) ⟨[],kids,_,_,rfl,rfl,rfl,h00,h01,hcl0,.inl ⟨rfl,rfl⟩,hP0,hE0,hB0⟩ ?_)
 |with_reducible refine And.intro ?_ ?_
 |exact cL
 |(with_reducible intro h);first|(try simp only [lG,reduceCtorEq] at h);first|done|(exfalso;omega)|replace h:=h trivial aZ|replace h:=h aZ|skip
 |fail)
 refine aH.mk ?_;rintro j τ ⟨a,r,v3,bx1,hkk,rfl,rfl,h0,h1,Zp,hc,hPl,hEE,hBB⟩;have hkl:kids.length=a.length+r.length:=by rw [hkk,List.length_append]
 rcases r with _|⟨x,r⟩
 ·rw [List.append_nil] at hkk;subst hkk;have hl1:=(List.getElem?_eq_some_iff.1 h1).1;rcases hc with ⟨rfl,rfl⟩|⟨ha,q,ca,J',rfl,hq2,hq,hF,hnd,hJ2,hno⟩
  ·skip
   repeat' (first
   |((with_reducible refine (?_:J (.seq (.region 9 _ _) _) _));refine hend _ ?_)
   |(with_reducible refine hseq _ _ _ ?_)
   |((with_reducible refine (?_:∃c:List AV,_∧_));refine ⟨_,(by first|exact h0|exact h1|exact hL),?_⟩;(conv=>whnf))
   |((with_reducible refine (?_:WP _ _ _ (.region 6 _ _) _ _));refine aH.get ?_)
   |refine nX ?_;conv=>whnf
   |with_reducible refine fun(hwr:wv _=true)(hwb:aN _=true)=>?_
   |(with_reducible refine fun(hw:aN _=true)=>?_);conv=>whnf
   |with_reducible assumption
   |((with_reducible intro h);exfalso;simp at h;done)
   |((with_reducible refine gZ.mk (i:=0) ?_);intro b9 xR h9 qA;(conv=>whnf))
   |with_reducible refine And.intro ?_ ?_
   |exact cL
   |(with_reducible intro h);first|(try simp only [lG,reduceCtorEq] at h);first|done|(exfalso;omega)|replace h:=h trivial aZ|replace h:=h aZ|skip
   |fail)
   replace h9:b9[0]?=some (Ce.mk k y p bb an tg tx (.sl 0 []) L8 (cr ag) hh tr).l:=h9;refine ⟨.sl 0 [],Z0,b9,[],rfl,h9,(qA 1 dE).trans h1,hZl,.inl ⟨rfl,rfl,rfl⟩,.nil,fun i hi=>(by cases hi),Zp.facts xR h9 qA (fun i hi=>?_),fun j z hj=>(qA (2+j) oM).trans (hEE j z hj),fun j z hj hz=>hBB j z hj ((qA j oM).symm.trans hz)⟩;rcases hL.cell (kc:=.sl 0 []) hi with h|h
   ·cases h
   ·omega
  ·skip
   repeat' (first
   |((with_reducible refine (?_:J (.seq (.region 9 _ _) _) _));refine hend _ ?_)
   |(with_reducible refine hseq _ _ _ ?_)
   |((with_reducible refine (?_:∃c:List AV,_∧_));refine ⟨_,(by first|exact h0|exact h1|exact hL),?_⟩;(conv=>whnf))
   |((with_reducible refine (?_:WP _ _ _ (.region 6 _ _) _ _));refine aH.get ?_)
   |refine nX ?_;conv=>whnf
   |with_reducible refine fun(hwr:wv _=true)(hwb:aN _=true)=>?_
   |(with_reducible refine fun(hw:aN _=true)=>?_);conv=>whnf
   |with_reducible assumption
   |((with_reducible intro h);exfalso;simp at h;done)
   |((with_reducible refine gZ.mk (i:=0) ?_);intro b9 xR h9 qA;(conv=>whnf))
   |with_reducible refine And.intro ?_ ?_
   |exact cL
   |(with_reducible intro h);first|(try simp only [lG,reduceCtorEq] at h);first|done|(exfalso;omega)|replace h:=h trivial aZ|replace h:=h aZ|skip
   |fail)
   replace qA:∀j,j≠0->b9[j]?=bx1[j]?:=qA;replace h9:b9[0]?=some (Ce.mk k y p bb an tg tx (.dm q 35 12 kids.length) L8 (cr ag) hh tr).l:=h9;have hql:=(List.getElem?_eq_some_iff.1 hq).1;refine ⟨.dm q 35 12 kids.length,Z0,b9,q::J',rfl,h9,(qA 1 dE).trans h1,hZl,.inr ⟨ha,q,ca,J',rfl,rfl,(qA q oM).trans hq,hF.fr fun i hi=>qA i (by have:=hJ2 i hi;omega)⟩,hnd,fun i hi=>?_,Zp.facts xR h9 qA (fun i hi=>?_),fun j z hj=>(qA (2+j) oM).trans (hEE j z hj),fun j z hj hz=>hBB j z hj ((qA j oM).symm.trans hz)⟩
   ·rcases List.mem_cons.1 hi with rfl|hi
    ·exact hq2
    ·exact hJ2 i hi
   ·rcases hL.cell (kc:=.dm q 35 12 kids.length) hi with h|h
    ·rw [AV.ids,List.mem_singleton] at h;omega
    ·omega
 ·rw [List.length_cons] at hkl;have hl1:=(List.getElem?_eq_some_iff.1 h1).1;have hcn:fD kids=fD a+(lW x+fD r):=by rw [hkk,uK,fD]
  have hsz:eP kids=eP a+(jT x+eP r):=by rw [hkk,uF,eP]
  repeat' (first
  |(with_reducible refine hseq _ _ _ ?_)
  |((with_reducible refine (?_:∃c:List AV,_∧_));refine ⟨_,(by first|exact h0|exact h1|exact hL),?_⟩;(conv=>whnf))
  |((with_reducible refine (?_:WP _ _ _ (.region 6 _ _) _ _));refine aH.get ?_)
  |refine nX ?_;conv=>whnf
  |with_reducible refine fun(hwr:wv _=true)(hwb:aN _=true)=>?_
  |(with_reducible refine fun(hw:aN _=true)=>?_);conv=>whnf
  |with_reducible assumption
  |((with_reducible intro h);exfalso;simp at h;done)
  |((with_reducible refine (?_:∃x r,List.drop _ (aO _)=x++r∧_));refine ⟨bV x,aO r,(by show List.drop _ (aO kids)=_;rw [hkk];exact lC oM),rfl,?_⟩)
  |((with_reducible refine (?_:_<List.length (aO _)));rw [eY];omega)
  |((with_reducible refine wX.mk ?_);intro b5 hl5 hL Ar;(conv=>whnf))
  |((with_reducible refine gZ.mk (i:=bx1.length) ?_);intro b6 Vb hL6 BD;(conv=>whnf))
  |with_reducible refine And.intro ?_ ?_
  |exact cL
  |(with_reducible intro h);first|(try simp only [lG,reduceCtorEq] at h);first|done|(exfalso;omega)|replace h:=h trivial aZ|replace h:=h aZ|skip
  |fail)
  replace Vb:b6.length=b5.length:=Vb;replace BD:∀j,j≠bx1.length->b6[j]?=b5[j]?:=BD;replace hL6:b6[bx1.length]?=some (bV x):=hL6;have h06:=((BD 0 oM).trans (Ar 0 oM)).trans h0;have h16:=((BD 1 oM).trans (Ar 1 oM)).trans h1;refine aH.mk ?_;obtain ⟨rr,nb,hcall,atY,akK,hKK⟩:=ih [.agg (bV x)] [] (fun _ _=>True) ⟨x,rfl,⟨oM,oM,oM⟩,fun _ _ _ _ _ _=>trivial⟩;obtain ⟨vH,Ix,rfl,hkx,akT,apG⟩:=hKK (fun r b=>∃kc I,r=.agg (x.ce kc).l∧fO b x.kids kc I∧I.Nodup∧BQ b) ⟨x,rfl,⟨oM,oM,oM⟩,fun kc b I g1 g2 g3=>⟨kc,I,rfl,g1,g2,g3⟩⟩;have hL5:bx1.length<b6.length:=oM;obtain ⟨xk,xy,xp,xb,nR,nP,nN,ni,cZ,dh,xh,nO⟩:=x;have hcon:bD b6 [bx1.length]=some [bV (Nd.mk xk xy xp xb nR nP nN ni cZ dh xh nO)]:=by rw [bD,hL6];rfl
  have akQ:AV.bP (fun j=>b6.length+j) (.agg ((Nd.mk xk xy xp xb nR nP nN ni cZ dh xh nO).ce vH).l)=.agg (Ce.mk xk xy xp xb nR nP nN (AV.bP (fun j=>b6.length+j) vH) (cs cZ) (cs dh) xh nO).l:=by rw [AV.bP,aak];rfl
  have apA:∀(j:Nat) (z:List AV),nb[j]?=some z->(b6++nb.map (AV.aG fun j=>b6.length+j))[b6.length+j]?=some (AV.aG (fun j=>b6.length+j) z):=fun j z hj=>by rw [List.getElem?_append_right oM,show b6.length+j-b6.length=j from by omega,List.getElem?_map,hj];rfl
  have hk7:=hkx.mv (bx:=(b6++nb.map (AV.aG fun j=>b6.length+j))) (f:=fun j=>b6.length+j) apA;obtain ⟨hC1,hC2,hC3⟩:=Tv (k:=xk) (y:=xy) (p:=xp) (b:=xb) (an:=nR) (tg:=nP) (tx:=nN) (l1:=cZ) (l2:=dh) (h:=xh) (tr:=nO) hk7.kc.1 hk7.kc.2.1 hk7.kc.2.2.1;have WH:BQ b6:=(Zp.more hl5 hL Ar (fun i hi=>by cases hi)).facts oM hL6 BD (fun i hi=>by rw [xN] at hi;cases hi);have acB:BQ (b6++nb.map (AV.aG fun j=>b6.length+j)):=WH.app apG;have hCl:∀i ∈ AV.aA (Ce.mk xk xy xp xb nR nP nN (AV.bP (fun j=>b6.length+j) vH) (cs cZ) (cs dh) xh nO).l,i<(b6++nb.map (AV.aG fun j=>b6.length+j)).length:=fun i hi=>by rw [NG (dY _) (dY _)] at hi;exact hk7.lt i (hk7.ids i hi)
  have h7:∀j,j<b6.length->(b6++nb.map (AV.aG fun j=>b6.length+j))[j]?=b6[j]?:=fun j hj=>List.getElem?_append_left hj;have hI7:∀i ∈ Ix.map (fun j=>b6.length+j),b6.length<=i:=fun i hi=>by obtain ⟨j,-,rfl⟩:=List.mem_map.1 hi;omega
  have hCi:∀i ∈ AV.aA (Ce.mk xk xy xp xb nR nP nN (AV.bP (fun j=>b6.length+j) vH) (cs cZ) (cs dh) xh nO).l,b6.length<=i:=fun i hi=>by rw [sG] at hi;simp only [dY,List.append_nil] at hi;exact RS (fun j=>by omega) vH i hi
  have Zi:∀j,j<bx1.length->b6[j]?=bx1[j]?:=fun j hj=>(BD j oM).trans (Ar j hj);have hB7:∀(j:Nat) (z:List AV),2+E.length<=j->(b6++nb.map (AV.aG fun j=>b6.length+j))[j]?=some z->∀i ∈ AV.aA z,2+E.length<=i:=fun j z hj hz i hi=>by
   by_cases hj6:j<b6.length
   ·rw [List.getElem?_append_left hj6] at hz;by_cases hjb:j=bx1.length
    ·rw [hjb,hL6] at hz;cases hz;rw [xN] at hi;cases hi
    ·rw [Zi j oM] at hz;exact hBB j z hj hz i hi
   ·rw [List.getElem?_append_right oM,List.getElem?_map] at hz;cases hz0:nb[j-b6.length]? with
    |none=>rw [hz0] at hz;cases hz
    |some z0=>
     rw [hz0] at hz;cases hz;have:=qX (f:=fun j=>b6.length+j) (L:=b6.length) (fun j=>by omega) z0 i hi;omega
  rcases hc with ⟨rfl,rfl⟩|⟨ha,q,ca,J',rfl,hq2,hq,hF,hnd,hJ2,hno⟩
  ·skip
   refine WP.steps (au 41) (τ:=⟨[(29,.dm (b6++nb.map (AV.aG fun j=>b6.length+j)).length 35 12 1),(28,.row 35 12 1 (Ce.mk xk xy xp xb nR nP nN (AV.bP (fun j=>b6.length+j) vH) (cs cZ) (cs dh) xh nO).l),(27,.agg (Ce.mk xk xy xp xb nR nP nN (AV.bP (fun j=>b6.length+j) vH) (cs cZ) (cs dh) xh nO).l),(26,.agg (bV (Nd.mk xk xy xp xb nR nP nN ni cZ dh xh nO))),(25,.sl 0 []),(21,.int .i64 ([]:List Nd).length),(20,.int .i64 kids.length),(19,.sl kids.length (aO kids)),(5,.ptr bx1.length 0),(3,.dm (b6++nb.map (AV.aG fun j=>b6.length+j)).length 35 12 1),(2,.ptr 1 0),(1,.ptr 0 0)],((b6++nb.map (AV.aG fun j=>b6.length+j))++[(Ce.mk xk xy xp xb nR nP nN (AV.bP (fun j=>b6.length+j) vH) (cs cZ) (cs dh) xh nO).l])⟩) ⟨⟨[(25,.row 35 12 0 []),(21,.int .i64 ([]:List Nd).length),(20,.int .i64 kids.length),(19,.sl kids.length (aO kids)),(5,.ptr bx1.length 0),(3,.sl 0 []),(2,.ptr 1 0),(1,.ptr 0 0)],b6⟩,aK.core tok dD rfl ⟨[25],[29],0⟩ (ids:=[]) (cs:=[]) rfl rfl rfl rfl (by unfold fin;simp only [aC,List.append_nil];rfl),⟨[(26,.agg (bV (Nd.mk xk xy xp xb nR nP nN ni cZ dh xh nO))),(25,.row 35 12 0 []),(21,.int .i64 ([]:List Nd).length),(20,.int .i64 kids.length),(19,.sl kids.length (aO kids)),(5,.ptr bx1.length 0),(3,.sl 0 []),(2,.ptr 1 0),(1,.ptr 0 0)],b6⟩,aK.core tok dD rfl ⟨[25],[29],0⟩ (ids:=[bx1.length]) (cs:=[bV (Nd.mk xk xy xp xb nR nP nN ni cZ dh xh nO)]) rfl hcon rfl rfl (by unfold fin;simp only [xY hcon,List.append_nil];rfl),⟨[(27,.agg (Ce.mk xk xy xp xb nR nP nN (AV.bP (fun j=>b6.length+j) vH) (cs cZ) (cs dh) xh nO).l),(26,.agg (bV (Nd.mk xk xy xp xb nR nP nN ni cZ dh xh nO))),(25,.row 35 12 0 []),(21,.int .i64 ([]:List Nd).length),(20,.int .i64 kids.length),(19,.sl kids.length (aO kids)),(5,.ptr bx1.length 0),(3,.sl 0 []),(2,.ptr 1 0),(1,.ptr 0 0)],(b6++nb.map (AV.aG fun j=>b6.length+j))⟩,aK.aeb (ys:=[.agg (bV (Nd.mk xk xy xp xb nR nP nN ni cZ dh xh nO))]) hcall rfl rfl rfl rfl rfl rfl (by rw [AV.aA,AV.ids,xN];rfl) (by rw [akQ];rfl),⟨[(28,.row 35 12 1 (Ce.mk xk xy xp xb nR nP nN (AV.bP (fun j=>b6.length+j) vH) (cs cZ) (cs dh) xh nO).l),(27,.agg (Ce.mk xk xy xp xb nR nP nN (AV.bP (fun j=>b6.length+j) vH) (cs cZ) (cs dh) xh nO).l),(26,.agg (bV (Nd.mk xk xy xp xb nR nP nN ni cZ dh xh nO))),(25,.row 35 12 0 []),(21,.int .i64 ([]:List Nd).length),(20,.int .i64 kids.length),(19,.sl kids.length (aO kids)),(5,.ptr bx1.length 0),(3,.sl 0 []),(2,.ptr 1 0),(1,.ptr 0 0)],(b6++nb.map (AV.aG fun j=>b6.length+j))⟩,aK.core tok dD rfl ⟨[25],[29],0⟩ (ids:=[]) (cs:=[]) rfl rfl rfl (anC rfl hC1 hC2 rfl) (by unfold fin;simp only [aC];exact congrArg (aF.mk _) (List.append_nil _).symm),⟨[(29,.dm (b6++nb.map (AV.aG fun j=>b6.length+j)).length 35 12 1),(28,.row 35 12 1 (Ce.mk xk xy xp xb nR nP nN (AV.bP (fun j=>b6.length+j) vH) (cs cZ) (cs dh) xh nO).l),(27,.agg (Ce.mk xk xy xp xb nR nP nN (AV.bP (fun j=>b6.length+j) vH) (cs cZ) (cs dh) xh nO).l),(26,.agg (bV (Nd.mk xk xy xp xb nR nP nN ni cZ dh xh nO))),(25,.sl 0 []),(21,.int .i64 ([]:List Nd).length),(20,.int .i64 kids.length),(19,.sl kids.length (aO kids)),(5,.ptr bx1.length 0),(3,.sl 0 []),(2,.ptr 1 0),(1,.ptr 0 0)],((b6++nb.map (AV.aG fun j=>b6.length+j))++[(Ce.mk xk xy xp xb nR nP nN (AV.bP (fun j=>b6.length+j) vH) (cs cZ) (cs dh) xh nO).l])⟩,aK.app tok rfl (dd:=29) rfl rfl rfl rfl rfl ⟨[25],[29],0⟩ rfl ((adm rfl rfl rfl hC1 hC2).trans (by rfl)),⟨[(29,.dm (b6++nb.map (AV.aG fun j=>b6.length+j)).length 35 12 1),(28,.row 35 12 1 (Ce.mk xk xy xp xb nR nP nN (AV.bP (fun j=>b6.length+j) vH) (cs cZ) (cs dh) xh nO).l),(27,.agg (Ce.mk xk xy xp xb nR nP nN (AV.bP (fun j=>b6.length+j) vH) (cs cZ) (cs dh) xh nO).l),(26,.agg (bV (Nd.mk xk xy xp xb nR nP nN ni cZ dh xh nO))),(25,.sl 0 []),(21,.int .i64 ([]:List Nd).length),(20,.int .i64 kids.length),(19,.sl kids.length (aO kids)),(5,.ptr bx1.length 0),(3,.dm (b6++nb.map (AV.aG fun j=>b6.length+j)).length 35 12 1),(2,.ptr 1 0),(1,.ptr 0 0)],((b6++nb.map (AV.aG fun j=>b6.length+j))++[(Ce.mk xk xy xp xb nR nP nN (AV.bP (fun j=>b6.length+j) vH) (cs cZ) (cs dh) xh nO).l])⟩,aK.core tok dD rfl ⟨[25],[29],0⟩ (ids:=[]) (cs:=[]) rfl rfl rfl rfl (by unfold fin;simp only [aC,List.append_nil];rfl),rfl⟩ ?_ ?_
   ·intro hσ;refine ⟨?_,lX (lX hσ.bx (Hz akK)) (by rw [aN,hC3];rfl)⟩;show uh [(21,.int .i64 ([]:List Nd).length),(20,.int .i64 kids.length),(19,.sl kids.length (aO kids)),(3,.dm (b6++nb.map (AV.aG fun j=>b6.length+j)).length 35 12 1),(2,.ptr 1 0),(1,.ptr 0 0)]=true;simp [uh,wv,ai]
   ·conv=>whnf
    repeat' (first
    |(with_reducible refine hseq _ _ _ ?_)
    |((with_reducible refine (?_:∃c:List AV,_∧_));refine ⟨_,(by first|exact h0|exact h1|exact hL),?_⟩;(conv=>whnf))
    |refine nX ?_;conv=>whnf
    |with_reducible refine fun(hwr:wv _=true)(hwb:aN _=true)=>?_
    |(with_reducible refine fun(hw:aN _=true)=>?_);conv=>whnf
    |with_reducible assumption
    |((with_reducible intro h);exfalso;simp at h;done)
    |((with_reducible refine (?_:∃(j:Nat) (τ':aF),_));refine aH.get ?_)
    |with_reducible refine And.intro ?_ ?_
    |exact cL
    |(with_reducible intro h);first|(try simp only [lG,reduceCtorEq] at h);first|done|(exfalso;omega)|replace h:=h trivial aZ|replace h:=h aZ|skip
    |fail)
    have hBl:(b6++nb.map (AV.aG fun j=>b6.length+j)).length=b6.length+nb.length:=by rw [List.length_append,List.length_map]
    refine aH.mk ⟨r.length,_,by simp,Rx.prune [1,2,3,19,20,21],[(Nd.mk xk xy xp xb nR nP nN ni cZ dh xh nO)],r,.dm (b6++nb.map (AV.aG fun j=>b6.length+j)).length 35 12 1,(b6++nb.map (AV.aG fun j=>b6.length+j))++[(Ce.mk xk xy xp xb nR nP nN (AV.bP (fun j=>b6.length+j) vH) (cs cZ) (cs dh) xh nO).l],by rw [hkk];rfl,rfl,rfl,?_,?_,acB.one hCl,.inr ⟨by simp,(b6++nb.map (AV.aG fun j=>b6.length+j)).length,(Ce.mk xk xy xp xb nR nP nN (AV.bP (fun j=>b6.length+j) vH) (cs cZ) (cs dh) xh nO).l,Ix.map (fun j=>b6.length+j),rfl,oM,?_,fG.one (iW.2 ⟨_,rfl,hk7.fr fun i hi=>List.getElem?_append_left (hk7.lt i hi)⟩),List.nodup_cons.2 ⟨fun e=>?_,?_⟩,fun i hi=>by have:=hI7 i hi;omega,?_⟩,by rw [List.length_append];omega,fun j z hj=>?_,fun j z hj hz i hi=>?_⟩
    ·rw [List.getElem?_append_left oM,h7 0 oM];exact h06
    ·rw [List.getElem?_append_left oM,h7 1 oM];exact h16
    ·rw [List.getElem?_append_right (Nat.le_refl _),Nat.sub_self];rfl
    ·have:=hk7.lt _ e;omega
    ·exact EG _ akT
    ·intro z hz e;rcases List.mem_append.1 hz with hz|hz
     ·have:=acB z hz _ e;omega
     ·rw [List.mem_singleton.1 hz] at e;have:=hCl _ e;omega
    ·have hjl:=(List.getElem?_eq_some_iff.1 hj).1;rw [List.getElem?_append_left oM,h7 _ oM];exact (Zi _ oM).trans (hEE j z hj)
    ·by_cases hjb:j<(b6++nb.map (AV.aG fun j=>b6.length+j)).length
     ·rw [List.getElem?_append_left hjb] at hz;exact hB7 j z hj hz i hi
     ·have hjl:=(List.getElem?_eq_some_iff.1 hz).1;rw [List.length_append,List.length_singleton] at hjl;rw [List.getElem?_append_right oM,show j-(b6++nb.map (AV.aG fun j=>b6.length+j)).length=0 from by omega] at hz;cases hz;have:=hCi i hi;omega
  ·have hql:=(List.getElem?_eq_some_iff.1 hq).1;have hq6:b6[q]?=some ca:=((BD q oM).trans (Ar q hql)).trans hq;have hq7:(b6++nb.map (AV.aG fun j=>b6.length+j))[q]?=some ca:=(h7 q oM).trans hq6;have hCi:∀i ∈ AV.aA (Ce.mk xk xy xp xb nR nP nN (AV.bP (fun j=>b6.length+j) vH) (cs cZ) (cs dh) xh nO).l,b6.length<=i:=fun i hi=>by rw [sG] at hi;simp only [dY,List.append_nil] at hi;exact RS (fun j=>by omega) vH i hi
   have hqn:q ∉ AV.aA (ca++(Ce.mk xk xy xp xb nR nP nN (AV.bP (fun j=>b6.length+j) vH) (cs cZ) (cs dh) xh nO).l):=fun e=>by
    rw [dF] at e;rcases List.mem_append.1 e with e|e
    ·exact hno ca (List.mem_of_getElem? hq) e
    ·have:=hCi q e;omega
   have apJ:=hF.aj;have akR:∀z ∈ (b6++nb.map (AV.aG fun j=>b6.length+j)),q ∉ AV.aA z:=fun z hz e=>by
    rcases List.mem_append.1 hz with hz|hz
    ·obtain ⟨j,hj⟩:=List.getElem?_of_mem hz;have hj6:=(List.getElem?_eq_some_iff.1 hj).1;by_cases ej:j=bx1.length
     ·rw [ej,hL6] at hj;cases hj;rw [xN] at e;cases e
     ·rw [BD j ej,Ar j oM] at hj;exact hno z (List.mem_of_getElem? hj) e
    ·obtain ⟨z0,-,rfl⟩:=List.mem_map.1 hz;have:=qX (f:=fun j=>b6.length+j) (L:=b6.length) (fun j=>by omega) z0 q e;omega
   have hk1:fC q (.row 35 12 1 (Ce.mk xk xy xp xb nR nP nN (AV.bP (fun j=>b6.length+j) vH) (cs cZ) (cs dh) xh nO).l)=.row 35 12 1 (Ce.mk xk xy xp xb nR nP nN (AV.bP (fun j=>b6.length+j) vH) (cs cZ) (cs dh) xh nO).l:=rM (by rw [AV.ids];exact fun e=>by have:=hCi q e;omega);have hk2:fC q (.agg (Ce.mk xk xy xp xb nR nP nN (AV.bP (fun j=>b6.length+j) vH) (cs cZ) (cs dh) xh nO).l)=.agg (Ce.mk xk xy xp xb nR nP nN (AV.bP (fun j=>b6.length+j) vH) (cs cZ) (cs dh) xh nO).l:=rM (by rw [AV.ids];exact fun e=>by have:=hCi q e;omega);have hk3:fC q (.agg (bV (Nd.mk xk xy xp xb nR nP nN ni cZ dh xh nO)))=.agg (bV (Nd.mk xk xy xp xb nR nP nN ni cZ dh xh nO)):=rM (by rw [AV.ids,xN];exact fun e=>by cases e);have hk4:fC q (.sl kids.length (aO kids))=.sl kids.length (aO kids):=rM (by rw [AV.ids,jc (bn (ai kids))];exact fun e=>by cases e);have hk5:fC q (.ptr bx1.length 0)=.ptr bx1.length 0:=rM (by rw [AV.ids,List.mem_singleton];omega);have hk6:fC q (.dm q 35 12 a.length)=.bad:=by unfold fC;rw [AV.ids];simp [mem]
   have hk8:fC q (.ptr 1 0)=.ptr 1 0:=rM (by rw [AV.ids,List.mem_singleton];omega);have hk9:fC q (.ptr 0 0)=.ptr 0 0:=rM (by rw [AV.ids,List.mem_singleton];omega);refine WP.steps (au 41) (τ:=⟨[(29,.dm q 35 12 (a.length+1)),(28,.row 35 12 1 (Ce.mk xk xy xp xb nR nP nN (AV.bP (fun j=>b6.length+j) vH) (cs cZ) (cs dh) xh nO).l),(27,.agg (Ce.mk xk xy xp xb nR nP nN (AV.bP (fun j=>b6.length+j) vH) (cs cZ) (cs dh) xh nO).l),(26,.agg (bV (Nd.mk xk xy xp xb nR nP nN ni cZ dh xh nO))),(25,.bad),(21,.int .i64 a.length),(20,.int .i64 kids.length),(19,.sl kids.length (aO kids)),(5,.ptr bx1.length 0),(3,.dm q 35 12 (a.length+1)),(2,.ptr 1 0),(1,.ptr 0 0)],((b6++nb.map (AV.aG fun j=>b6.length+j)).set q (ca++(Ce.mk xk xy xp xb nR nP nN (AV.bP (fun j=>b6.length+j) vH) (cs cZ) (cs dh) xh nO).l))⟩) ⟨⟨[(25,.dm q 35 12 a.length),(21,.int .i64 a.length),(20,.int .i64 kids.length),(19,.sl kids.length (aO kids)),(5,.ptr bx1.length 0),(3,.dm q 35 12 a.length),(2,.ptr 1 0),(1,.ptr 0 0)],b6⟩,aK.core tok dD rfl ⟨[25],[29],0⟩ (ids:=[]) (cs:=[]) rfl rfl rfl rfl (by unfold fin;simp only [aC,List.append_nil];rfl),⟨[(26,.agg (bV (Nd.mk xk xy xp xb nR nP nN ni cZ dh xh nO))),(25,.dm q 35 12 a.length),(21,.int .i64 a.length),(20,.int .i64 kids.length),(19,.sl kids.length (aO kids)),(5,.ptr bx1.length 0),(3,.dm q 35 12 a.length),(2,.ptr 1 0),(1,.ptr 0 0)],b6⟩,aK.core tok dD rfl ⟨[25],[29],0⟩ (ids:=[bx1.length]) (cs:=[bV (Nd.mk xk xy xp xb nR nP nN ni cZ dh xh nO)]) rfl hcon rfl rfl (by unfold fin;simp only [xY hcon,List.append_nil];rfl),⟨[(27,.agg (Ce.mk xk xy xp xb nR nP nN (AV.bP (fun j=>b6.length+j) vH) (cs cZ) (cs dh) xh nO).l),(26,.agg (bV (Nd.mk xk xy xp xb nR nP nN ni cZ dh xh nO))),(25,.dm q 35 12 a.length),(21,.int .i64 a.length),(20,.int .i64 kids.length),(19,.sl kids.length (aO kids)),(5,.ptr bx1.length 0),(3,.dm q 35 12 a.length),(2,.ptr 1 0),(1,.ptr 0 0)],(b6++nb.map (AV.aG fun j=>b6.length+j))⟩,aK.aeb (ys:=[.agg (bV (Nd.mk xk xy xp xb nR nP nN ni cZ dh xh nO))]) hcall rfl rfl rfl rfl rfl rfl (by rw [AV.aA,AV.ids,xN];rfl) (by rw [akQ];rfl),⟨[(28,.row 35 12 1 (Ce.mk xk xy xp xb nR nP nN (AV.bP (fun j=>b6.length+j) vH) (cs cZ) (cs dh) xh nO).l),(27,.agg (Ce.mk xk xy xp xb nR nP nN (AV.bP (fun j=>b6.length+j) vH) (cs cZ) (cs dh) xh nO).l),(26,.agg (bV (Nd.mk xk xy xp xb nR nP nN ni cZ dh xh nO))),(25,.dm q 35 12 a.length),(21,.int .i64 a.length),(20,.int .i64 kids.length),(19,.sl kids.length (aO kids)),(5,.ptr bx1.length 0),(3,.dm q 35 12 a.length),(2,.ptr 1 0),(1,.ptr 0 0)],(b6++nb.map (AV.aG fun j=>b6.length+j))⟩,aK.core tok dD rfl ⟨[25],[29],0⟩ (ids:=[]) (cs:=[]) rfl rfl rfl (anC rfl hC1 hC2 rfl) (by unfold fin;simp only [aC];exact congrArg (aF.mk _) (List.append_nil _).symm),⟨[(29,.dm q 35 12 (a.length+1)),(28,.row 35 12 1 (Ce.mk xk xy xp xb nR nP nN (AV.bP (fun j=>b6.length+j) vH) (cs cZ) (cs dh) xh nO).l),(27,.agg (Ce.mk xk xy xp xb nR nP nN (AV.bP (fun j=>b6.length+j) vH) (cs cZ) (cs dh) xh nO).l),(26,.agg (bV (Nd.mk xk xy xp xb nR nP nN ni cZ dh xh nO))),(25,.bad),(21,.int .i64 a.length),(20,.int .i64 kids.length),(19,.sl kids.length (aO kids)),(5,.ptr bx1.length 0),(3,.bad),(2,.ptr 1 0),(1,.ptr 0 0)],((b6++nb.map (AV.aG fun j=>b6.length+j)).set q (ca++(Ce.mk xk xy xp xb nR nP nN (AV.bP (fun j=>b6.length+j) vH) (cs cZ) (cs dh) xh nO).l))⟩,aK.app tok rfl (dd:=29) rfl rfl rfl rfl rfl ⟨[25],[29],0⟩ rfl ((adn (n:=a.length) rfl rfl rfl hC1 hC2 hq7 (Nat.zero_le _) oM hF.len hqn apJ).trans (by rw [af6 akR];simp only [kill,List.map_cons,List.map_nil,hk1,hk2,hk3,hk4,hk5,hk6,hk8,hk9];rfl)),⟨[(29,.dm q 35 12 (a.length+1)),(28,.row 35 12 1 (Ce.mk xk xy xp xb nR nP nN (AV.bP (fun j=>b6.length+j) vH) (cs cZ) (cs dh) xh nO).l),(27,.agg (Ce.mk xk xy xp xb nR nP nN (AV.bP (fun j=>b6.length+j) vH) (cs cZ) (cs dh) xh nO).l),(26,.agg (bV (Nd.mk xk xy xp xb nR nP nN ni cZ dh xh nO))),(25,.bad),(21,.int .i64 a.length),(20,.int .i64 kids.length),(19,.sl kids.length (aO kids)),(5,.ptr bx1.length 0),(3,.dm q 35 12 (a.length+1)),(2,.ptr 1 0),(1,.ptr 0 0)],((b6++nb.map (AV.aG fun j=>b6.length+j)).set q (ca++(Ce.mk xk xy xp xb nR nP nN (AV.bP (fun j=>b6.length+j) vH) (cs cZ) (cs dh) xh nO).l))⟩,aK.core tok dD rfl ⟨[25],[29],0⟩ (ids:=[]) (cs:=[]) rfl rfl rfl rfl (by unfold fin;simp only [aC,List.append_nil];rfl),rfl⟩ ?_ ?_
   ·intro hσ;refine ⟨?_,oG (lX hσ.bx (Hz akK)) (bT (Rk hσ.bx hq6) hC3)⟩;show uh [(21,.int .i64 a.length),(20,.int .i64 kids.length),(19,.sl kids.length (aO kids)),(3,.dm q 35 12 (a.length+1)),(2,.ptr 1 0),(1,.ptr 0 0)]=true;simp [uh,wv,ai]
   ·conv=>whnf
    repeat' (first
    |(with_reducible refine hseq _ _ _ ?_)
    |((with_reducible refine (?_:∃c:List AV,_∧_));refine ⟨_,(by first|exact h0|exact h1|exact hL),?_⟩;(conv=>whnf))
    |refine nX ?_;conv=>whnf
    |with_reducible refine fun(hwr:wv _=true)(hwb:aN _=true)=>?_
    |(with_reducible refine fun(hw:aN _=true)=>?_);conv=>whnf
    |with_reducible assumption
    |((with_reducible intro h);exfalso;simp at h;done)
    |((with_reducible refine (?_:∃(j:Nat) (τ':aF),_));refine aH.get ?_)
    |with_reducible refine And.intro ?_ ?_
    |exact cL
    |(with_reducible intro h);first|(try simp only [lG,reduceCtorEq] at h);first|done|(exfalso;omega)|replace h:=h trivial aZ|replace h:=h aZ|skip
    |fail)
    have hBl:(b6++nb.map (AV.aG fun j=>b6.length+j)).length=b6.length+nb.length:=by rw [List.length_append,List.length_map]
    have hset:∀j,j≠q->((b6++nb.map (AV.aG fun j=>b6.length+j)).set q (ca++(Ce.mk xk xy xp xb nR nP nN (AV.bP (fun j=>b6.length+j) vH) (cs cZ) (cs dh) xh nO).l))[j]?=(b6++nb.map (AV.aG fun j=>b6.length+j))[j]?:=fun j hj=>List.getElem?_set_ne fun e=>hj e.symm;have hqs:((b6++nb.map (AV.aG fun j=>b6.length+j)).set q (ca++(Ce.mk xk xy xp xb nR nP nN (AV.bP (fun j=>b6.length+j) vH) (cs cZ) (cs dh) xh nO).l))[q]?=some (ca++(Ce.mk xk xy xp xb nR nP nN (AV.bP (fun j=>b6.length+j) vH) (cs cZ) (cs dh) xh nO).l):=List.getElem?_set_self oM;have hJq:q ∉ J':=(List.nodup_cons.1 hnd).1;have hJl:=hF.lt;have hold:∀j,j<bx1.length->(b6++nb.map (AV.aG fun j=>b6.length+j))[j]?=bx1[j]?:=fun j hj=>(h7 j oM).trans ((BD j oM).trans (Ar j hj));refine aH.mk ⟨r.length,_,by simp,Rx.prune [1,2,3,19,20,21],a++[(Nd.mk xk xy xp xb nR nP nN ni cZ dh xh nO)],r,.dm q 35 12 (a.length+1),(b6++nb.map (AV.aG fun j=>b6.length+j)).set q (ca++(Ce.mk xk xy xp xb nR nP nN (AV.bP (fun j=>b6.length+j) vH) (cs cZ) (cs dh) xh nO).l),by rw [hkk,List.append_assoc];rfl,rfl,by rw [List.length_append];rfl,?_,?_,acB.set (fun i hi=>?_),.inr ⟨by simp,q,ca++(Ce.mk xk xy xp xb nR nP nN (AV.bP (fun j=>b6.length+j) vH) (cs cZ) (cs dh) xh nO).l,J'++Ix.map (fun j=>b6.length+j),by rw [List.length_append];rfl,hq2,hqs,wY.2 ⟨ca,(Ce.mk xk xy xp xb nR nP nN (AV.bP (fun j=>b6.length+j) vH) (cs cZ) (cs dh) xh nO).l,J',_,rfl,rfl,hF.fr fun i hi=>?_,fG.one (iW.2 ⟨_,rfl,hk7.fr fun i hi=>hset i (by have:=hI7 i hi;omega)⟩)⟩,List.nodup_cons.2 ⟨fun e=>?_,List.nodup_append.2 ⟨(List.nodup_cons.1 hnd).2,EG _ akT,fun i hi j hj e=>?_⟩⟩,fun i hi=>?_,?_⟩,by rw [List.length_set];omega,fun j z hj=>?_,fun j z hj hz i hi=>?_⟩
    ·rw [hset 0 oM,h7 0 oM];exact h06
    ·rw [hset 1 oM,h7 1 oM];exact h16
    ·rw [dF] at hi;rcases List.mem_append.1 hi with hi|hi
     ·exact acB ca (List.mem_of_getElem? hq7) i hi
     ·exact hCl i hi
    ·exact (hset i (fun e=>hJq (e▸hi))).trans (hold i (hJl i hi))
    ·rcases List.mem_append.1 e with e|e
     ·exact hJq e
     ·have:=hI7 q e;omega
    ·have:=hJl i hi;have:=hI7 j hj;omega
    ·rcases List.mem_append.1 hi with hi|hi
     ·exact hJ2 i hi
     ·have:=hI7 i hi;omega
    ·intro z hz e;rcases List.mem_or_eq_of_mem_set hz with hz|rfl
     ·exact akR z hz e
     ·exact hqn e
    ·have hjl:=(List.getElem?_eq_some_iff.1 hj).1;rw [hset _ oM,h7 _ oM];exact (Zi _ oM).trans (hEE j z hj)
    ·by_cases hjq:j=q
     ·rw [hjq,hqs] at hz;cases hz;rw [dF] at hi;rcases List.mem_append.1 hi with hi|hi
      ·exact hBB q ca hq2 hq i hi
      ·have:=hCi i hi;omega
     ·rw [hset j hjq] at hz;exact hB7 j z hj hz i hi
theorem ae8 {m:Nat} (ih:az.OK Tryz.prog 41 (c41 m)) {J:Code->aF->Prop} (hseq:∀(x y:Code) (σ:aF),WP Tryz.prog 34 0 x σ (jQ J y)->J (.seq x y) σ) {k y p bb:Int} {an tg tx:ByteArray} {kids:List Nd} {lead ag:List Cm} {hh:Bool} {tr:ByteArray} (hm:jT (.mk k y p bb an tg tx kids lead ag hh tr)<=m+1) (hn:lW (.mk k y p bb an tg tx kids lead ag hh tr)<=9000000000) (hz:jT (.mk k y p bb an tg tx kids lead ag hh tr)<=9000000000)
  (hend:∀σ,J8 (.mk k y p bb an tg tx kids lead ag hh tr) σ->J (tl5 (Tryz.f41.body.getD .skip)) σ):PR [.agg (bV (.mk k y p bb an tg tx kids lead ag hh tr))] fun tm=>sV (Tryz.f41.body.getD .skip) fun c=>J c ⟨tm,[]⟩:=by
 rw [jT] at hm hz;rw [lW] at hn;have hn1:lead.length<=10000000000:=oM;have hn2:ag.length<=10000000000:=oM;have B:=V.base (ae.cons aoU ae.nil)
 conv=>whnf
 repeat' (first
 |((with_reducible refine (?_:J (.seq (.region 2 _ _) _) _));refine aH.get ?_)
 |(with_reducible refine hseq _ _ _ ?_)
 |((with_reducible refine (?_:∃t:List Cm,(_∧_)∧_));(first|refine ⟨lead,⟨rfl,rfl⟩,hn1,?_⟩|refine ⟨ag,⟨rfl,rfl⟩,hn2,?_⟩);(conv=>whnf))
 |with_reducible refine WP.seq ?_
 |(with_reducible first|refine Go.mk ?_|refine WP.qy B (au 41) ?_|refine WP.draw B (au 41) ?_|refine WP.cond ?_|refine WP.exit ?_|refine WP.skip ?_|refine WP.ret ?_);conv=>whnf
 |with_reducible refine WP.block ?_
 |with_reducible assumption
 |with_reducible refine And.intro ?_ ?_
 |exact cL
 |(with_reducible intro h);first|(try simp only [lG,reduceCtorEq] at h);first|done|(exfalso;omega)|replace h:=h trivial aZ|replace h:=h aZ|skip
 |fail)
 refine aH.mk ?_;exact jW (Ui (k:=k) (y:=y) (p:=p) (bb:=bb) (an:=an) (tg:=tg) (tx:=tx) (kids:=kids) (lead:=lead) (ag:=ag) (hh:=hh) (tr:=tr) ih hseq (LF.row lead) (Z0:=[.int .i64 0,.int .i64 0,.int .i64 0,.int .i64 0,.str ByteArray.empty,.str ByteArray.empty,.str ByteArray.empty,.nil,.nil,.nil,.bool false,.str ByteArray.empty]) rfl rfl oM oM oM fun σ hJ=>hend σ (by
  obtain ⟨kc,z1,bx1,I,q1,q2,q3,q4,q5,q6,q7,q8,-,-⟩:=hJ;exact ⟨kc,z1,bx1,I,q1,q2,q3,q4,q5,q6,q7,q8⟩))
variable {P : Program} {T : kZ} {sp : Sp} {n0 base : Nat} {σ τ : aF} {Q : zV -> aF -> Prop} {cal : BR}
def zL (T:kZ) (rs:List ResultVar) (n:Nat) (G:AV->List (List AV)->Prop) (e:zV) (τ:aF):Prop:=(e=.normal∨e=.ret)∧∃vs,uO T n τ rs=some vs∧iE vs=true∧n<=τ.bx.length∧G (kH vs) τ.bx
theorem acL (HT:mM P T) {f:Nat} {fn:Func} {c:Code} (hf:P.funcs[f]?=some fn) (hg:sS fn=true) (hb:fn.body=some c) {args:List AV} {bx:List (List AV)} (ha:iE args=true) (hbx:aN bx=true) {G:AV->List (List AV)->Prop} (h:WP P fn.ntmps bx.length c ⟨params [] 0 args,bx⟩ (zL T fn.results.toList bx.length G)):∃r bx',aV P f args bx r bx'∧wv r=true∧aN bx'=true∧G r bx':=by
 unfold sS at hg;rw [Bool.and_eq_true] at hg;obtain ⟨hg1,hg2⟩:=hg;rw [hb] at hg2;obtain ⟨e,σ,h1,h2,he,vs,q1,q2,q3,q4⟩:=WP.out h hg2 ⟨qE ha rfl,hbx⟩;refine ⟨kH vs,σ.bx,?_,uq q2,h2.bx,q4⟩;refine ⟨⟨fn,hf,by simpa using hg1,by rw [hb];rfl⟩,q3,fun lim bs w ws m hl hm H=>?_⟩;refine calls_of_wp hf hb ?_;have hsz:fn.ntmps<=(ws.toArray++Array.replicate (fn.ntmps-ws.toArray.size) undef).size:=kU;have hbs:bs.length=bx.length:=H.len;refine h1 (m:=m) hsz (Nat.le_refl _) (kW hl H) hm fun lim' bs' w' a' hgo=>?_;obtain ⟨u,u1,u2⟩:=jw (fn:=fn) HT hgo.hold q1;have hpost:a'.defers=[]∧∃v,(results fn a'.tmps).run P w'=.ok v w'∧(∃v' lim' bs',Ending.returned v=.returned v'∧aB lim' bs' w' σ.bx (rS (kH vs) v') m∧Fr m lim w lim' w'∧∀i,i<bx.length->bs'[i]?=bs[i]?):=by refine ⟨hgo.df,u,u1,u,lim',bs',rfl,u2,hgo.fr,fun i hi=>?_⟩;have hib:i<bs.length:=oM;rw [hgo.pre i _ hi (List.getElem?_eq_getElem hib),List.getElem?_eq_getElem hib]
 rcases he with rfl|rfl
 ·exact hpost
 ·exact hpost
theorem Fn.okN {f:Nat} {fn:Func} {c:Code} {n0:Nat} {rs:List ResultVar} (F:Fn Tryz.prog f fn c n0 rs) {rf:az} {args:List AV} {bx:List (List AV)} (ha:iE args=true) (hbx:aN bx=true) (h:PR args fun tm=>sV c fun c=>WP Tryz.prog n0 bx.length c ⟨tm,bx⟩ (zL jJ rs bx.length fun r b=>∀K,rf args bx K->K r b)):∃r bx',aV Tryz.prog f args bx r bx'∧wv r=true∧aN bx'=true∧∀K,rf args bx K->K r bx':=by have h:=jW (Dj h);rw [←F.nt,←F.rs] at h;exact acL tok F.at_ F.jK F.body ha hbx h
theorem acj {J:Code->aF->Prop} {y:Code} (h:∀τ,J y τ->WP P n0 base y τ Q) {e:zV} {τ:aF} (hj:jQ J y e τ):X4 P n0 base y Q e τ:=by
 cases e with
 |normal=>exact h τ hj
 |exit i=>exact hj.elim
 |ret=>exact hj.elim
theorem aiQ {kc:AV} {x:Nd} {bx:List (List AV)} (h1:bx[1]?=some (x.ce kc).l) (hk:kc.cO=kc):uO jJ 0 ⟨[(2,.ptr 1 0)],bx⟩ [.cell 2 35]=some [.agg (x.ce kc).l]:=by
 obtain ⟨k,y,p,b,an,tg,tx,kids,lead,ag,h,tr⟩:=x;have e1:Gi jJ 0 ⟨[(2,.ptr 1 0)],bx⟩ (.cell 2 35)=some (.agg ((Nd.mk k y p b an tg tx kids lead ag h tr).ce kc).l):=by show (fK (bx[1]?) fun c=>_)=_;rw [h1];show some (AV.agg [_,_,_,_,_,_,_,kc.cO,_,_,_,_])=_;rw [hk];rfl
 unfold uO;rw [e1];rfl
theorem ajx {m:Nat} (ih:az.OK Tryz.prog 41 (c41 m)):az.OK Tryz.prog 41 (c41 (m+1)):=by
 intro args bx K0 hK0;unfold c41 at hK0;split at hK0
 ·rename_i c0;obtain ⟨nd,rfl,⟨hm,hn,hz⟩,-⟩:=hK0;obtain ⟨k,y,p,bb,an,tg,tx,kids,lead,ag,hh,tr⟩:=nd;refine alp.okN (by rw [iE,iE,Bool.and_true];exact bZ (jg _)) rfl ?_;refine ae8 ih (J:=fun c σ=>WP Tryz.prog 34 0 c σ (zL jJ [.cell 2 35] 0 fun r b=>∀K,c41 (m+1) [.agg (bV (.mk k y p bb an tg tx kids lead ag hh tr))] [] K->K r b)) (fun x y σ h=>WP.seq (h.mono fun e τ hj=>acj (fun τ h=>h) hj)) hm hn hz ?_;rintro σ ⟨kc,z1,bx1,I,rfl,h0,h1,hz1,hk,hnd,hI2,hcl⟩;have B:=V.base ae.nil;have zE:Ev _ _ _ (au 41) [] []:=⟨B⟩;have hz:=hz1;obtain ⟨a1,a2,a3,a4,a5,a6,a7,a8,a9,a10,a11,a12,rfl⟩:∃a1 a2 a3 a4 a5 a6 a7 a8 a9 a10 a11 a12:AV,z1=[a1,a2,a3,a4,a5,a6,a7,a8,a9,a10,a11,a12]:=by
   rcases z1 with _|⟨a1,_|⟨a2,_|⟨a3,_|⟨a4,_|⟨a5,_|⟨a6,_|⟨a7,_|⟨a8,_|⟨a9,_|⟨a10,_|⟨a11,_|⟨a12,_|⟨a13,t⟩⟩⟩⟩⟩⟩⟩⟩⟩⟩⟩⟩⟩<;>first|exact ⟨_,_,_,_,_,_,_,_,_,_,_,_,rfl⟩|(simp at hz1;done)|(simp only [List.length_cons] at hz1;omega)
  have hk0:=hk;have hfin:∀{e:zV} {b9:List (List AV)},e=.normal∨e=.ret->b9.length=bx1.length->b9[1]?=some ((Nd.mk k y p bb an tg tx kids lead ag hh tr).ce kc).l->(∀j,j≠1->b9[j]?=bx1[j]?)->zL jJ [.cell 2 35] 0 (fun r b=>∀K,c41 (m+1) [.agg (bV (.mk k y p bb an tg tx kids lead ag hh tr))] [] K->K r b) e ⟨[(2,.ptr 1 0)],b9⟩:=by
   intro e b9 he xR h9 qA;have hk9:fO b9 kids kc I:=hk0.fr fun i hi=>qA i (by have:=hI2 i hi;omega);refine ⟨he,_,aiQ h9 hk9.kc.2.2.2,?_,Nat.zero_le _,fun K hK=>?_⟩
   ·have e2:=(Tv (k:=k) (y:=y) (p:=p) (b:=bb) (an:=an) (tg:=tg) (tx:=tx) (l1:=lead) (l2:=ag) (h:=hh) (tr:=tr) hk9.kc.1 hk9.kc.2.1 hk9.kc.2.2.1);rw [iE,iE,Bool.and_true];show uX (Ce.mk k y p bb an tg tx kc (cs lead) (cs ag) hh tr).l=true;exact jD.2 fun v hv=>⟨(by obtain ⟨i,hi⟩:=List.getElem?_of_mem hv;exact fJ e2.2.1 hi),(dP.1 e2.2.2 v hv).1,(dP.1 e2.2.2 v hv).2⟩
   ·obtain ⟨nd',e1,-,hK⟩:=hK;have e3:=tN e1;subst e3;refine hK kc b9 I hk9 hnd (hcl.facts xR h9 qA fun i hi=>?_);rw [show (((Nd.mk k y p bb an tg tx kids lead ag hh tr).ce kc).l)=(Ce.mk k y p bb an tg tx kc (cs lead) (cs ag) hh tr).l from rfl,NG (dY _) (dY _)] at hi;exact hk0.lt i (hk0.ids i hi)
  rcases hk with ⟨g1,rfl,rfl⟩|⟨g1,q,cc,J,rfl,rfl,g2,g3⟩
  ·have key:sV (tl5 (Tryz.f41.body.getD .skip)) fun c=>WP Tryz.prog 34 0 c ⟨[(2,.ptr 1 0),(1,.ptr 0 0)],bx1⟩ (zL jJ [.cell 2 35] 0 fun r b=>∀K,c41 (m+1) [.agg (bV (.mk k y p bb an tg tx kids lead ag hh tr))] [] K->K r b):=by
    conv=>whnf
    repeat' (first
    |((with_reducible refine (?_:∃c:List AV,_∧_));refine ⟨_,(by first|exact h0|exact h1),?_⟩;(conv=>whnf))
    |refine nX ?_;conv=>whnf
    |with_reducible refine fun(hwr:wv _=true)(hwb:aN _=true)=>?_
    |(with_reducible refine fun(hw:aN _=true)=>?_);conv=>whnf
    |with_reducible assumption
    |((with_reducible refine gZ.mk (i:=1) ?_);intro b9 xR h9 qA;(conv=>whnf))
    |with_reducible refine And.intro ?_ ?_
    |exact cL
    |(with_reducible intro h);first|(try simp only [lG,reduceCtorEq] at h);first|done|(exfalso;omega)|replace h:=h trivial aZ|replace h:=h aZ|skip
    |fail)
    ·exact .inr rfl
    ·exact (hfin (e:=.ret) (.inr rfl) xR h9 qA).2
   exact jW key
  ·have key:sV (tl5 (Tryz.f41.body.getD .skip)) fun c=>WP Tryz.prog 34 0 c ⟨[(2,.ptr 1 0),(1,.ptr 0 0)],bx1⟩ (zL jJ [.cell 2 35] 0 fun r b=>∀K,c41 (m+1) [.agg (bV (.mk k y p bb an tg tx kids lead ag hh tr))] [] K->K r b):=by
    conv=>whnf
    repeat' (first
    |((with_reducible refine (?_:∃c:List AV,_∧_));refine ⟨_,(by first|exact h0|exact h1),?_⟩;(conv=>whnf))
    |refine nX ?_;conv=>whnf
    |with_reducible refine fun(hwr:wv _=true)(hwb:aN _=true)=>?_
    |(with_reducible refine fun(hw:aN _=true)=>?_);conv=>whnf
    |with_reducible assumption
    |((with_reducible refine gZ.mk (i:=1) ?_);intro b9 xR h9 qA;(conv=>whnf))
    |with_reducible refine And.intro ?_ ?_
    |exact cL
    |(with_reducible intro h);first|(try simp only [lG,reduceCtorEq] at h);first|done|(exfalso;omega)|replace h:=h trivial aZ|replace h:=h aZ|skip
    |fail)
    ·exact .inr rfl
    ·exact (hfin (e:=.ret) (.inr rfl) xR h9 qA).2
   exact jW key
 ·exact hK0.elim
theorem ajz:∀m,az.OK Tryz.prog 41 (c41 m)
 |0=>by
  intro args bx K0 h;unfold c41 at h;split at h
  ·obtain ⟨nd,-,⟨h1,-⟩,-⟩:=h;cases nd;rw [jT] at h1;omega
  ·exact h.elim
 |m+1=>ajx (ajz m)
end V
end
end Go.Proofs.YtlmjabnkjmfcmaaGreat
