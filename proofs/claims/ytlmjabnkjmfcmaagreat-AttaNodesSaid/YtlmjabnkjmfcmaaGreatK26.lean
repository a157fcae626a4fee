/- Own texts, joined and shortened by a program; no condition. -/
import Derived.Test.YtlmjabnkjmfcmaaGreatK24
import Derived.Deep.AppendLies
import Derived.BigQuiet
import Derived.Shelf.Strings.Repeat
import Derived.Shelf.Strings.LastIndex
import Derived.Shelf.Strings.Search1
import Derived.Lib.Builder
import Derived.Lib.IndexLaws
import Derived.Test.YtlmjabnkjmfcmaaGreatProg
import Derived.WalkKit
import Derived.WalkSpells
import Derived.WalkLawsBesides
import Derived.PlainAid
import Derived.Handy
import Derived.Outline
import Derived.Lib.Hide
import Derived.Laws.RangeAny
import Derived.Lib.AppendZerosOnto
import Derived.Deep.RegionLaw
import Derived.Laws.AppendOwnNone
import Derived.Laws.Cover3
import Derived.LoopN
import Derived.Laws.Sem
import Derived.RegionTactic
import Derived.Orders
import Derived.Laws.CopyOwn
import Derived.Deep.MidRow
import Derived.Laws.Tables
import Derived.Laws.Entries
import Derived.Great.BuildSlice
import Derived.Laws.StructEq
import Derived.Below
import Derived.Deep.DeepCutAuto
import Derived.Laws.BytesArg
import Derived.Laws.BitsLemmas
import Derived.Deep.QuietTactic
namespace Go.Proofs.YtlmjabnkjmfcmaaGreat
open Go Go.RowKit Go.PlainAid
set_option linter.unusedVariables false
set_option linter.unusedSimpArgs false
set_option maxHeartbeats 20000000
set_option linter.defProp false
namespace V
open Ab
open Bk (Cm)
def Vu (blk:Bool) (y:Int) (kids:List Nd):Int:=if blk=true∧y=7∧kids≠[] then 6 else y
inductive Tu:Bool->Nd->Nd->Prop
 |mk {blk:Bool} {k y p b:Int} {an tg tx:ByteArray} {kids:List Nd} {lead ae:List Cm} {h:Bool} {tr:ByteArray} {jC:List Nd} {mD qA:List Cm} {h':Bool} {EF:ByteArray} {y':Int} (hy:y'=Vu blk y kids) (hl:jC.length=kids.length) (hk:∀(i:Nat) (a c:Nd),kids[i]?=some a->jC[i]?=some c->Tu (blk && (!decide (k=4)||decide (i % 2=1))) a c):Tu blk (.mk k y p b an tg tx kids lead ae h tr) (.mk k y' p b an tg tx jC mD qA h' EF)
theorem Tu.ld {blk:Bool} {x y:Nd} {l:List Cm} (h:Tu blk x y):Tu blk x (y.ld l):=by
 cases h with
 |mk hy hl hk=>exact .mk hy hl hk
theorem Tu.bare {blk:Bool} {x y:Nd} (h:Tu blk x y):Tu blk x y.bare:=by
 cases h with
 |mk hy hl hk=>exact .mk hy hl hk
theorem Tu.off {blk:Bool} {x y:Nd} {c:List Cm} (h:Tu blk x y):Tu blk x (gY y c).1:=by
 unfold gY;split
 ·exact h.bare
 ·exact h
theorem Yk {y:Int} {kids:List Nd}:Vu false y kids=y:=by unfold Vu;rw [if_neg (by simp)]
mutual
theorem M4:∀x:Nd,Tu false x x
 |.mk k y p b an tg tx kids lead ae h tr=> .mk Yk.symm rfl fun i a c h1 h2=>by rw [h1] at h2;cases h2;rw [Bool.false_and];exact Il kids i a h1
theorem Il:∀(l:List Nd) (i:Nat) (a:Nd),l[i]?=some a->Tu false a a
 |[],i,a,h=>by simp at h
 |x::l,0,a,h=>by
  have:x=a:=by simpa using h
  rw [←this];exact M4 x
 |x::l,i+1,a,h=>Il l i a (by simpa using h)
end
mutual
theorem Io:∀x:Nd,Tu false x (aj x).1
 |.mk k y p b an tg tx kids lead ae h tr=>by rw [aj];refine .mk Yk.symm (xq kids) fun i a c h1 h2=>?_;rw [Bool.false_and];exact ED kids i a c h1 h2
theorem ED:∀(l:List Nd) (i:Nat) (a c:Nd),l[i]?=some a->(aP l).1[i]?=some c->Tu false a c
 |[],i,a,c,h,_=>by simp at h
 |x::l,0,a,c,h,h2=>by
  have e:x=a:=by simpa using h
  rw [aP] at h2;have e2:(aj x).1.ld []=c:=by simpa using h2
  rw [←e,←e2];exact (Io x).ld
 |x::l,i+1,a,c,h,h2=>by rw [aP] at h2;exact ED l i a c (by simpa using h) (by simpa using h2)
end
theorem Vt {b:Bool} {l l2:List Nd} {p:Nat->Bool} (h:∀(i:Nat) (a c:Nd),l[i]?=some a->l2[i]?=some c->Tu (p i) a c):∀(i:Nat) (a c:Nd),l[i]?=some a->(bC b l2).1[i]?=some c->Tu (p i) a c:=by
 intro i a c h1 h2;unfold bC at h2;split at h2
 ·rename_i x r;cases i with
  |zero=>
   have e:x.ld []=c:=by simpa using h2
   rw [←e];exact (h 0 a x h1 (by simp)).ld
  |succ i=>exact h (i+1) a c h1 (by simpa using h2)
 ·exact h i a c h1 h2
theorem Z6 {blk:Bool} {k y p b:Int} {an tg tx:ByteArray} {kids jC:List Nd} {lead mD ae:List Cm} {h:Bool} {tr:ByteArray} {c:List Cm} (hne:kids≠[]) (hl:jC.length=kids.length) (hk:∀(i:Nat) (a c:Nd),kids[i]?=some a->jC[i]?=some c->Tu (blk && (!decide (k=4)||decide (i % 2=1))) a c):Tu blk (.mk k y p b an tg tx kids lead ae h tr) (mK blk k y p b an tg tx jC mD ae h tr c).1:=by
 unfold mK;split
 ·rename_i hc;exact .mk (by unfold Vu;rw [if_pos ⟨hc.1,hc.2,hne⟩]) hl hk
 ·rename_i hc;have hy:y=Vu blk y kids:=by unfold Vu;rw [if_neg (fun e=>hc ⟨e.1,e.2.1⟩)]
  split
  ·exact .mk hy hl hk
  ·exact .mk hy hl hk
mutual
theorem KW (blk:Bool):∀(pre c:List Cm) (x:Nd),gN x->Tu blk x (aL blk pre c x).1
 |pre,c,.mk k y p b an tg tx [] lead ae h tr,hg=>by
  have hy:y=Vu blk y []:=by unfold Vu;rw [if_neg (fun e=>e.2.2 rfl)]
  rw [aL];split
  ·exact .mk hy rfl fun i a c h1=>by simp at h1
  ·exact .mk hy rfl fun i a c h1=>by simp at h1
 |pre,c,.mk k y p b an tg tx (x::l) lead ae h tr,hg=>by
  rw [gN] at hg;rw [aL];split
  ·rename_i hk;simp only [];refine Z6 (by simp) ?_ (Vt ?_)
   ·rw [eY];split
    ·exact jS blk c _
    ·exact iQ blk c _
   ·split
    ·rename_i h3;intro i a z h1 h2;have:=QE blk c (x::l) hg.2 i a z h1 h2;rw [h3];have e:(blk && (!decide ((3:Int)=4)||decide (i % 2=1)))=blk:=by cases blk<;>rfl
     rw [e];exact this
    ·rename_i h3;have h4:k=4:=oM;intro i a z h1 h2;have:=QF blk c (x::l) hg.2 i a z h1 h2;rw [h4];exact this
  ·rename_i hk;exfalso;rcases hg.1.kind with ⟨-,-,-,e,-⟩|⟨-,-,e,-⟩|⟨e,-⟩
   ·cases e
   ·cases e
   ·exact hk oM
theorem QE (blk:Bool):∀(c:List Cm) (l:List Nd),gL l->∀(i:Nat) (a z:Nd),l[i]?=some a->(bP blk c l).1[i]?=some z->Tu blk a z
 |c,[],_,i,a,z,h,_=>by simp at h
 |c,x::l,hg,0,a,z,h,h2=>by
  rw [gL] at hg;rw [bP] at h2;have e:x=a:=by simpa using h
  have e2:(aL blk c [] x).1=z:=by simpa using h2
  rw [←e,←e2];exact KW blk c [] x hg.1
 |c,x::l,hg,i+1,a,z,h,h2=>by rw [gL] at hg;rw [bP] at h2;exact QE blk _ l hg.2 i a z (by simpa using h) (by simpa using h2)
theorem QF (blk:Bool):∀(c:List Cm) (l:List Nd),gL l->∀(i:Nat) (a z:Nd),l[i]?=some a->(bO blk c l).1[i]?=some z->Tu (blk && decide (i % 2=1)) a z
 |c,[],_,i,a,z,h,_=>by simp at h
 |c,[x],hg,i,a,z,h,h2=>by
  rw [bO] at h2;have h2:[x][i]?=some z:=h2;rw [h] at h2;cases h2;cases i with
  |zero=>
   have e:x=a:=by simpa using h
   rw [←e];rw [show (blk && decide (0 % 2=1))=false from by cases blk<;>rfl];exact M4 x
  |succ i=>simp at h
 |c,x::v::l,hg,0,a,z,h,h2=>by
  rw [bO] at h2;have e:x=a:=by simpa using h
  have e2:(aj x).1.ld (c++x.lead)=z:=by simpa using h2
  rw [←e,←e2];rw [show (blk && decide (0 % 2=1))=false from by cases blk<;>rfl];exact (Io x).ld
 |c,x::v::l,hg,1,a,z,h,h2=>by
  rw [gL,gL] at hg;rw [bO] at h2;have e:v=a:=by simpa using h
  have e2:(gY (aL blk (aj x).2 [] v).1 (aL blk (aj x).2 [] v).2).1=z:=by simpa using h2
  rw [←e,←e2];rw [show (blk && decide (1 % 2=1))=blk from by cases blk<;>rfl];exact (KW blk _ [] v hg.2.1).off
 |c,x::v::l,hg,i+2,a,z,h,h2=>by rw [gL,gL] at hg;rw [bO] at h2;have:=QF blk _ l hg.2.2 i a z (by simpa using h) (by simpa using h2);rw [show (i+2) % 2=i % 2 by omega];exact this
end
end V
section
set_option maxRecDepth 100000
namespace V
open Ab
open Bk (Cm)
theorem aim {n:Nat}:decide (((n:Int)).tmod 2=1)=decide (n % 2=1):=by
 have:((n:Int)).tmod 2=((n % 2:Nat):Int):=by rw [Int.tmod_eq_emod_of_nonneg oM];omega
 rw [this];by_cases h:n % 2=1
 ·rw [h];rfl
 ·rw [decide_eq_false h,decide_eq_false oM]
theorem QU {l:List Nd} {i:Nat} (h:i<l.length):∃(a:List Nd) (x:Nd) (r:List Nd),l=a++x::r∧a.length=i∧l[i]?=some x:=by
 refine ⟨l.take i,l[i],l.drop (i+1),?_,?_,List.getElem?_eq_getElem h⟩
 ·rw [←List.drop_eq_getElem_cons h,List.take_append_drop]
 ·rw [List.length_take];omega
def c19 (m:Nat):aC:=fun args bx K=>match args,bx with
 |[.agg xc,.agg yc,.bool blk],[]=>∃x:Nd,xc=bF x∧(∃y:Nd,yc=bF y∧((fD x<=m∧fD x<=4000000000∧Tu blk x y)∧K (.bool true) []))
 |_,_=>False
def TUL (kids:List Nd) (C D:List AV) (blk:Bool) (j:Nat) (τ:aJ):Prop:=∃a r:List Nd,kids=a++r∧j=r.length∧τ=⟨[(8,.int .i64 a.length),(4,.ptr 1 0),(3,.ptr 0 0),(2,.bool blk)],[C,D]⟩
def al6:=fN 19 Tryz.f19 107 [.tmp 6]
theorem acS.xt {p:Prop} (g:p:=by ((first|((with_reducible intro h);exfalso;simp at h;first|done|fail)|((with_reducible refine (?_:∃x:Nd,_=bF x∧_));first|(refine ⟨x0,rfl,?_⟩)|(refine ⟨y0,rfl,?_⟩))|((with_reducible refine (?_:∃x r,List.drop _ (au kids)=x++r∧_));refine ⟨bF x0,au post,(by show List.drop _ (au kids)=_;rw [hk];exact iA oM),rfl,?_⟩)|((with_reducible refine (?_:∃x r,List.drop _ (au jC)=x++r∧_));refine ⟨bF y0,au post',(by show List.drop _ (au jC)=_;rw [hk'];exact iA oM),rfl,?_⟩)|exact uT|exact Na|((with_reducible refine (?_:Tu _ _ _));first|exact hT|(simpa [h4,aim] using hT)|(simpa [aim] using hT))|((with_reducible refine (?_:WP _ _ _ (.loop _) _ _));(apply WP.loop (TUL kids _ _ _));(case h0=>exact ⟨[],kids,rfl,rfl,rfl⟩);(case' h=>(rintro j τ ⟨a,r,hk,rfl,rfl⟩;have e1:=congrArg List.length hk;have e3:=congrArg bS hk;rw [List.length_append] at e1;rw [gB] at e3;rcases r with _|⟨x0,post⟩;all_goals (first|(rw [List.length_cons,bS] at*;obtain ⟨a',y0,post',hk',ha',hat⟩:=QU (l:=jC) (i:=a.length) oM;have hT:=hkk _ _ _ (vI hk) hat)|(rw [List.length_nil] at e1)))))|exact Q9|exact QZ|fail);(repeat' (first|exact bN|fail));first|done|fail)):p:=g
theorem afq {m:Nat} (ih:aC.OK Tryz.prog 19 (c19 m)):aC.OK Tryz.prog 19 (c19 (m+1)):=by
 intro args bx K0 h;unfold c19 at h;split at h
 ·rename_i xc yc blk;obtain ⟨x,rfl,y,rfl,⟨h1,h2,h3⟩,-⟩:=h;obtain @⟨_,kd,yy,p,b,an,tg,tx,kids,lead,ae,hh,tr,jC,mD,qA,hh',EF,y',hy,hl,hkk⟩:=h3;rw [fD] at h1 h2;have hl2:=jq kids;unfold bF;simp only [Nd.k,Nd.y,Nd.p,Nd.b,Nd.an,Nd.tg,Nd.tx,Nd.kids,Nd.lead,Nd.ae,Nd.h,Nd.tr];have B:=V.base (af.cons ih af.nil);have hfin:∀K,c19 (m+1) [.agg (bF (.mk kd yy p b an tg tx kids lead ae hh tr)),.agg (bF (.mk kd y' p b an tg tx jC mD qA hh' EF)),.bool blk] [] K->K (.bool true) []:=fun K hK=>(HZ (x:=.mk kd y' p b an tg tx jC mD qA hh' EF) rfl (HZ (x:=.mk kd yy p b an tg tx kids lead ae hh tr) rfl hK)).2;have hcase:(blk=false∧y'=yy)∨(blk=true∧yy≠7∧y'=yy)∨(blk=true∧yy=7∧kids.length=0∧y'=7)∨(blk=true∧yy=7∧0<kids.length∧y'=6):=by
   unfold Vu at hy;cases blk with
   |false=>rw [if_neg (by simp)] at hy;exact .inl ⟨rfl,hy⟩
   |true=>
    by_cases h7:yy=7
    ·cases kids with
     |nil=>rw [if_neg (by simp)] at hy;exact .inr (.inr (.inl ⟨rfl,h7,rfl,by rw [hy,h7]⟩))
     |cons z l=>rw [if_pos ⟨rfl,h7,by simp⟩] at hy;exact .inr (.inr (.inr ⟨rfl,h7,by simp,hy⟩))
    ·rw [if_neg (fun e=>h7 e.2.1)] at hy;exact .inr (.inl ⟨rfl,h7,hy⟩)
  by_cases h4:kd=4
  all_goals
   (try subst h4)
   rcases hcase with ⟨rfl,rfl⟩|⟨rfl,h7,rfl⟩|⟨rfl,rfl,h8,rfl⟩|⟨rfl,rfl,h8,rfl⟩
   all_goals
    refine al6.okW (base:=0) rfl uI uI ?_
    conv=>whnf
    let zA:=(aH 19)
    open acS in exact bN
 ·exact h.elim
theorem afr:aC.OK Tryz.prog 19 (c19 0):=fun args bx K0 h=>by
 unfold c19 at h;split at h
 ·obtain ⟨x,-,y,-,⟨h1,-⟩,-⟩:=h;cases x;rw [fD] at h1;omega
 ·exact h.elim
theorem afs:∀m:Nat,aC.OK Tryz.prog 19 (c19 m)
 |0=>afr
 |m+1=>afq (afs m)
def fn5:=fN 5 Tryz.f5 97 [.tmp 8]
theorem acR.xt {p:Prop} (g:p:=by ((first|((with_reducible intro h);exfalso;simp at h;first|done|fail)|((with_reducible refine (?_:ag _ _ _ (.bool false) _));exact absurd rfl (‹¬(nU blk d0).mark=d0.mark›))|exact Ao|((with_reducible refine (?_:∃ts:List ByteArray,Ku _ _ ts∧_));refine ⟨d0.gM,⟨rfl,rfl⟩,?_⟩)|exact Yo|exact Yn|exact Yp|((with_reducible refine (?_:∃v r,List.drop _ (jY _)=v::r∧_));refine ⟨_,_,(by rw [hk,N8 oM];rfl),?_⟩)|exact IL|exact Yr|((with_reducible refine (?_:_=rR _));rfl)|exact mf|exact uT|exact Na|exact QY|(first|exact dC.mk _|(exact (⟨rfl,rfl⟩:Ku _ _ _))|exact q6|exact q7|exact KW blk [] [] d0.root q1|exact Nat.le_trans q4 dE|exact Nat.le_trans q5 dE)|exact Yq|((with_reducible refine (?_:WP _ _ _ (.loop _) _ _));(apply WP.loop (LU2 t (.int .i64 aa) (.int .u8 bb) blk i _ _));(case h0=>first|exact ⟨(by intro d hd;simp at hd),[],[],rfl,rfl,rfl⟩|exact ⟨Di aZ,[],_,(List.nil_append _).symm,rfl,rfl⟩);(case' h=>(rintro j τ ⟨hds,a,r,hk,rfl,rfl⟩;have e1:=congrArg List.length hk;rw [List.length_append] at e1;rcases r with _|⟨d0,post⟩;all_goals (first|(rw [List.length_cons] at*;obtain ⟨q1,q2,q3,q4,q5⟩:=GI hds hk;obtain ⟨q6,q7⟩:=NU _ q1)|(rw [List.length_nil] at e1)))))|exact Q0|exact IK|exact IJ|fail);(repeat' (first|exact bN|fail));first|done|fail)):p:=g
theorem ok5 (LX:aC.OK Tryz.prog 13 c13) (h16:aC.OK Tryz.prog 16 c16):aC.OK Tryz.prog 5 c4:=by
 intro args bx K0 h;unfold c4 at h;split at h
 ·rename_i n l aa bb blk;obtain ⟨⟨ks,⟨rfl,rfl⟩⟩,-⟩:=h;refine fn5.okW (base:=0) rfl (by simp [gZ,wv,mF]) uI ?_;have B:=V.base (af.cons LX (af.cons h16 (af.cons (afs 4000000000) (af.cons Sj (af.cons Sb (af.cons R6 (af.cons V6 (af.cons aft af.nil))))))))
  conv=>whnf
  let zA:=(aH 5)
  open acR in exact bN
 ·exact h.elim
end V
end
end Go.Proofs.YtlmjabnkjmfcmaaGreat
