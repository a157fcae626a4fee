/- Own texts, joined and shortened by a program; no condition. -/
import Derived.Test.YtlmjabnkjmfcmaaGreatK19
import Derived.Deep.AppendLies
import Derived.BigQuiet
import Derived.Shelf.Strings.Repeat
import Derived.Shelf.Strings.LastIndex
import Derived.Shelf.Strings.Search1
import Derived.Lib.Builder
import Derived.Lib.IndexLaws
import Derived.Test.YtlmjabnkjmfcmaaGreatProg
import Derived.WalkKit
import Derived.WalkSpells
import Derived.WalkLawsBesides
import Derived.PlainAid
import Derived.Handy
import Derived.Outline
import Derived.Lib.Hide
import Derived.Laws.RangeAny
import Derived.Lib.AppendZerosOnto
import Derived.Deep.RegionLaw
import Derived.Laws.AppendOwnNone
import Derived.Laws.Cover3
import Derived.LoopN
import Derived.Laws.Sem
import Derived.RegionTactic
import Derived.Orders
import Derived.Laws.CopyOwn
import Derived.Deep.MidRow
import Derived.Laws.Tables
import Derived.Laws.Entries
import Derived.Great.BuildSlice
import Derived.Laws.StructEq
import Derived.Below
import Derived.Deep.DeepCutAuto
import Derived.Laws.BytesArg
import Derived.Laws.BitsLemmas
import Derived.Deep.QuietTactic
namespace Go.Proofs.YtlmjabnkjmfcmaaGreat
open Go Go.RowKit Go.PlainAid
set_option linter.unusedVariables false
set_option linter.unusedSimpArgs false
set_option maxHeartbeats 20000000
set_option linter.defProp false
namespace V
open Ab
open Bk (Cm)
mutual
def iX:Nd->List Cm
 |.mk _ _ _ _ _ _ _ kids lead ae h tr=>lead++jf kids++ae++kg h tr
def jf:List Nd->List Cm
 |[]=>[]
 |x::l=>iX x++jf l
end
mutual
theorem BK:∀x:Nd,(iX x).length=iI x
 |.mk _ _ _ _ _ _ _ kids lead ae h tr=>by have:=zm kids;rw [iX,iI];simp only [List.length_append];omega
theorem zm:∀l:List Nd,(jf l).length=cK l
 |[]=>rfl
 |x::l=>by rw [jf,cK,List.length_append,BK x,zm l]
end
theorem DU:∀a b:List Nd,jf (a++b)=jf a++jf b
 |[],b=>rfl
 |x::a,b=>by rw [List.cons_append,jf,jf,DU a b,List.append_assoc]
theorem ace (x:Nd) (l:List Cm):x.lead++(iX (x.ld l)).drop l.length=iX x∧iX (x.ld l)=l++(iX (x.ld l)).drop l.length:=by cases x;rw [Nd.ld,iX,iX,Nd.lead];simp [List.append_assoc]
mutual
theorem Ah:∀x:Nd,x.lead++(aj x).2=iX x∧∀l,iX ((aj x).1.ld l)=l
 |.mk k y p b an tg tx kids lead ae h tr=>by
  obtain ⟨h1,h2⟩:=DT kids;rw [aj];constructor
  ·rw [Nd.lead,iX,←h1];simp [List.append_assoc]
  ·intro l;show iX (.mk k y p b an tg tx (aP kids).1 l [] false ByteArray.empty)=l;rw [iX,h2];simp [kg]
theorem DT:∀l:List Nd,(aP l).2=jf l∧jf (aP l).1=[]
 |[]=>⟨rfl,rfl⟩
 |x::l=>by obtain ⟨h1,h2⟩:=Ah x;obtain ⟨h3,h4⟩:=DT l;rw [aP,jf];simp only [];rw [jf,h1,h3,h4,h2];exact ⟨rfl,rfl⟩
end
theorem UN (b:Bool) (l:List Nd):(bC b l).2++jf (bC b l).1=jf l:=by
 unfold bC;split
 ·rename_i x r;rw [jf,jf,←List.append_assoc];congr 1;have h:=ace x [];simp only [List.length_nil,List.drop_zero,List.nil_append] at h;exact h.1
 ·rfl
theorem XW {blk:Bool} {k y p b:Int} {an tg tx:ByteArray} {kids:List Nd} {lead ae:List Cm} {h:Bool} {tr:ByteArray} {c:List Cm} (hs:y=7∨y=6∧ae=[]∧h=false):iX (mK blk k y p b an tg tx kids lead ae h tr c).1++(mK blk k y p b an tg tx kids lead ae h tr c).2=lead++jf kids++c++ae++kg h tr:=by
 unfold mK;split
 ·rw [iX];simp [kg,List.append_assoc]
 ·split
  ·rw [iX];simp [List.append_assoc]
  ·rename_i h7;rcases hs with e|⟨-,rfl,rfl⟩
   ·exact absurd e h7
   ·rw [iX];simp [kg,List.append_assoc]
theorem SH {blk:Bool} {pre:List Cm} {x:Nd} (hk:x.k=1) (hg:gN x):aL blk pre [] x=(x.ld (pre++x.lead),[])∧x.kids=[]∧x.ae=[]:=by
 obtain ⟨k,y,p,b,an,tg,tx,kids,lead,ae,h,tr⟩:=x;have hk:k=1:=hk;rw [gN] at hg;have h1:kids=[]∧ae=[]:=by
  rcases hg.1.kind with ⟨-,-,-,e,f⟩|⟨e,-⟩|⟨e,-⟩
  ·exact ⟨e,f⟩
  ·omega
  ·omega
 obtain ⟨rfl,rfl⟩:=h1;rw [aL,if_neg oM];exact ⟨rfl,rfl,rfl⟩
theorem aei (blk:Bool) (pre c:List Cm) (x:Nd):(aL blk pre c x).1.k=x.k:=by
 obtain ⟨k,y,p,b,an,tg,tx,kids,lead,ae,h,tr⟩:=x;cases kids with
 |nil=>
  rw [aL];split<;>rfl
 |cons z l=>
  rw [aL];split
  ·simp only [];unfold mK;split
   ·rfl
   ·split<;>rfl
  ·rfl
theorem XV {blk:Bool} {pre:List Cm} {x:Nd} (hg:gN x):iX (gY (aL blk pre [] x).1 (aL blk pre [] x).2).1++(gY (aL blk pre [] x).1 (aL blk pre [] x).2).2=iX (aL blk pre [] x).1++(aL blk pre [] x).2:=by
 unfold gY;split
 ·rename_i m l h1 h2;have hk:=(of_decide_eq_true h1).1;rw [aei] at hk;obtain ⟨e1,e2,e3⟩:=SH (blk:=blk) (pre:=pre) hk hg;rw [e1] at h2⊢;simp only [] at h2⊢;obtain ⟨k,y,p,b,an,tg,tx,kids,lead,ae,h,tr⟩:=x;have e2:kids=[]:=e2;have e3:ae=[]:=e3;subst e2 e3;have h2:pre++lead=m::l:=h2;show iX (.mk k y p b an tg tx [] [] [] false ByteArray.empty)++((m::l)++kg h tr)=iX (.mk k y p b an tg tx [] (pre++lead) [] h tr)++[];rw [iX,iX,h2,jf];simp [kg]
 ·rfl
mutual
theorem He (blk:Bool):∀(pre:List Cm) (x:Nd),gN x->iX (aL blk pre [] x).1++(aL blk pre [] x).2=pre++iX x
 |pre,.mk k y p b an tg tx [] lead ae h tr,hg=>by
  rw [aL];split
  ·rw [iX,iX,jf];simp [List.append_assoc]
  ·rw [iX,iX,jf];simp [List.append_assoc]
 |pre,.mk k y p b an tg tx (x::l) lead ae h tr,hg=>by
  rw [gN] at hg;rw [aL];split
  ·rename_i hk;simp only [];have hs:(y=7∨y=6∧ae=[]∧h=false)∧(k=3∨k=4∧(x::l).length % 2=0):=by
    rcases hg.1.kind with ⟨-,-,-,e,-⟩|⟨-,-,e,-⟩|⟨e1,e⟩
    ·cases e
    ·cases e
    ·exact ⟨e,e1⟩
   rw [XW hs.1];have hh:=UN (decide (y=6)||(blk && decide (y=7))) (if k=3 then bP blk [] (x::l) else bO blk [] (x::l)).1;have hc:jf (if k=3 then bP blk [] (x::l) else bO blk [] (x::l)).1++(if k=3 then bP blk [] (x::l) else bO blk [] (x::l)).2=jf (x::l):=by
    split
    ·exact Oy blk [] (x::l) hg.2
    ·rename_i h3;exact all_map blk [] (x::l) hg.2 ((hs.2.resolve_left h3).2)
   rw [iX,←hc,←hh];simp [List.append_assoc]
  ·rw [iX,iX];simp [List.append_assoc]
theorem Oy (blk:Bool):∀(c:List Cm) (l:List Nd),gL l->jf (bP blk c l).1++(bP blk c l).2=c++jf l
 |c,[],_=>by rw [bP];simp [jf]
 |c,x::l,hg=>by rw [gL] at hg;rw [bP];simp only [];rw [jf,jf,List.append_assoc,Oy blk _ l hg.2,←List.append_assoc,He blk c x hg.1,List.append_assoc]
theorem all_map (blk:Bool):∀(c:List Cm) (l:List Nd),gL l->l.length % 2=0->jf (bO blk c l).1++(bO blk c l).2=c++jf l
 |c,[],_,_=>by rw [bO];simp [jf]
 |c,[x],_,he=>by simp at he
 |c,x::v::l,hg,he=>by rw [gL,gL] at hg;rw [bO];simp only [];have h1:=XV (blk:=blk) (pre:=(aj x).2) hg.2.1;have h2:=He blk (aj x).2 v hg.2.1;have h3:=all_map blk (gY (aL blk (aj x).2 [] v).1 (aL blk (aj x).2 [] v).2).2 l hg.2.2 (by simp only [List.length_cons] at he;omega);rw [jf,jf,jf,jf,(Ah x).2,←(Ah x).1];simp only [List.append_assoc];rw [h3];have h12:=h1.trans h2;rw [←List.append_assoc (iX (gY (aL blk (aj x).2 [] v).1 (aL blk (aj x).2 [] v).2).1) _ (jf l),h12,List.append_assoc]
end
theorem Ru (blk:Bool) (x:Nd) (ae:List Cm) (hg:gN x):iX (aL blk [] [] x).1++((aL blk [] [] x).2++ae)=iX x++ae:=by rw [←List.append_assoc,He blk [] x hg];rfl
end V
section
set_option maxRecDepth 100000
namespace V
open Ab
open Bk (Cm)
def c21 (m:Nat):aC:=fun args bx K=>match args,bx with
 |[.agg xc],[]=>∃x:Nd,xc=bF x∧((fD x<=m∧fD x<=4000000000∧iI x<=4000000000)∧K (.row 56 2 (iX x).length (fQ (iX x))) [])
 |_,_=>False
def U2 (kids:List Nd) (lead:List Cm) (C:List AV) (j:Nat) (τ:aJ):Prop:=∃a r:List Nd,kids=a++r∧j=r.length∧τ=⟨[(4,.int .i64 a.length),(3,.row 56 2 (lead++jf a).length (fQ (lead++jf a))),(1,.ptr 0 0)],[C]⟩
theorem U2.mk {kids a r:List Nd} {lead:List Cm} {C Cc:List AV} {N:Nat} {i:Int} {j:Nat} (hk:kids=a++r) (hj:j=r.length) (hi:i=a.length) (hC:dC N Cc (lead++jf a)):U2 kids lead C j ⟨[(4,.int .i64 i),(3,.row 56 2 N Cc),(1,.ptr 0 0)],[C]⟩:=by obtain ⟨rfl,rfl⟩:=hC;subst hi;exact ⟨a,r,hk,hj,rfl⟩
theorem SB {mY:aC} {args:List AV} {N:Nat} {C:List AV} {L:List Cm} (h:∀K,mY args [] K->K (.row 56 2 L.length (fQ L)) []) (hC:dC N C L):ag mY args [] (.row 56 2 N C) []:=by obtain ⟨rfl,rfl⟩:=hC;exact ag.mk (aA _) rfl h
def amy:zy:=⟨NI 21,[],false,[],[36]⟩
def al4:=fN 21 Tryz.f21 37 [.tmp 2]
theorem acN.xt {p:Prop} (g:p:=by ((first|((with_reducible intro h);exfalso;simp at h;first|done|fail)|exact rX|exact IM|exact QX|exact uT|exact II|((with_reducible refine (?_:(_:Nat)<=_));(try simp only [lL,BK,zm] at*);omega)|((with_reducible refine (?_:WP _ _ _ (.loop _) _ _));(apply WP.loop (U2 kids lead _));(case h0=>exact U2.mk (a:=[]) (r:=kids) rfl rfl rfl ⟨by simp [jf],by simp [jf]⟩);(case' h=>(rintro j τ ⟨a,r,hk,rfl,rfl⟩;have e1:kids.length=a.length+r.length:=(by rw [hk,List.length_append]);have e2:=congrArg cK hk;have e3:=congrArg bS hk;rw [iV] at e2;rw [gB] at e3;have e4:=zm a;rcases r with _|⟨x0,post⟩;all_goals (first|(rw [List.length_cons,bS,cK] at*;have e5:=BK x0)|(rw [List.length_nil] at e1;rw [cK] at e2)))))|((with_reducible refine (?_:∃(j:Nat) (τ':aJ),j<_∧Rx 0 _ τ'∧_));(refine ⟨post.length,_,?_,Rx.refl,U2.mk (a:=a++[x0]) (r:=post) (by rw [hk];simp) rfl (by rw [List.length_append];rfl) ?_⟩);(focus ((try simp only [List.length_cons]);omega));exact ⟨by simp [DU,jf];omega,by simp [DU,jf,vE]⟩)|((with_reducible refine (?_:ag _ _ _ (.row 56 2 _ _) _));refine SB hfin ?_;(rw [List.append_nil] at hk;subst hk);exact ⟨by simp [iX,kg];first|done|omega,by simp [iX,kg,vE];first|done|rfl⟩)|((with_reducible refine (?_:ag _ _ _ (.row 56 2 _ _) _));refine SB hfin ?_;(rw [List.append_nil] at hk;subst hk);exact ⟨by simp [iX,kg],by simp [iX,kg,vE]⟩)|fail);(repeat' (first|exact bN|fail));first|done|fail)):p:=g
theorem afk {m:Nat} (ih:aC.OK Tryz.prog 21 (c21 m)):aC.OK Tryz.prog 21 (c21 (m+1)):=by
 intro args bx K0 h;unfold c21 at h;split at h
 ·rename_i xc;obtain ⟨x,rfl,⟨h1,h2,h3⟩,-⟩:=h;obtain ⟨kd,y,p,b,an,tg,tx,kids,lead,ae,hh,tr⟩:=x;rw [fD] at h1 h2;rw [iI] at h3;have hl2:=jq kids;have hfin:∀K,c21 (m+1) [.agg (bF (.mk kd y p b an tg tx kids lead ae hh tr))] [] K->K (.row 56 2 (iX (.mk kd y p b an tg tx kids lead ae hh tr)).length (fQ (iX (.mk kd y p b an tg tx kids lead ae hh tr)))) []:=fun K hK=>(HZ (x:=.mk kd y p b an tg tx kids lead ae hh tr) rfl hK).2;unfold bF;simp only [Nd.k,Nd.y,Nd.p,Nd.b,Nd.an,Nd.tg,Nd.tx,Nd.kids,Nd.lead,Nd.ae,Nd.h,Nd.tr];have B:=V.base (af.cons ih af.nil);cases hh
  all_goals
   refine al4.okW (base:=0) rfl uI uI ?_
   conv=>whnf
   let zA:=amy
   open acN in exact bN
 ·exact h.elim
theorem afl:aC.OK Tryz.prog 21 (c21 0):=fun args bx K0 h=>by
 unfold c21 at h;split at h
 ·obtain ⟨x,-,⟨h1,-⟩,-⟩:=h;cases x;rw [fD] at h1;omega
 ·exact h.elim
theorem afm:∀m:Nat,aC.OK Tryz.prog 21 (c21 m)
 |0=>afl
 |m+1=>afk (afm m)
theorem abb {n:Nat} {l:List AV} {L M:List Cm} (h:M=L) (hM:dC n l M):dC n l L:=by rw [←h];exact hM
def fn7:=fN 7 Tryz.f7 71 [.tmp 6]
theorem acM.xt {p:Prop} (g:p:=by ((first|((with_reducible intro h);exfalso;simp at h;first|done|fail)|exact Ao|((with_reducible refine (?_:dC _ _ _));first|exact abb (Ru blk d0.root d0.ae q1) (dC.app (dC.mk _) (dC.mk _))|exact dC.mk _)|exact IL|exact Yn|exact Yp|exact Q4|exact Yo|exact mf|exact uT|exact QY|exact II|((with_reducible refine (?_:(_:Nat)<=_));(try simp only [List.length_append,BK]);omega)|exact Q3|exact Q5|(exact q6)|(exact q7)|exact Q0|exact IK|exact IJ|fail);(repeat' (first|exact bN|fail));first|done|fail)):p:=g
theorem ok7 (LX:aC.OK Tryz.prog 13 c13):aC.OK Tryz.prog 7 c3:=by
 intro args bx K0 h;unfold c3 at h;split at h
 ·rename_i s n l blk;obtain ⟨⟨ks,⟨rfl,rfl⟩⟩,-⟩:=h;refine fn7.okW (base:=0) rfl (by simp [gZ,wv,mF]) uI ?_;have B:=V.base (af.cons LX (af.cons (afm 4000000000) (af.cons Sj (af.cons Sb (af.cons R6 (af.cons V6 af.nil))))))
  conv=>whnf
  let zA:=(aH 7)
  open acM in exact bN
 ·exact h.elim
end V
end
end Go.Proofs.YtlmjabnkjmfcmaaGreat
