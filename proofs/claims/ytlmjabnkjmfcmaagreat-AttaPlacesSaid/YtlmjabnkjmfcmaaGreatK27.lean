/- Own texts, joined and shortened by a program; no condition. -/
import Derived.Test.YtlmjabnkjmfcmaaGreatK19
import Derived.Deep.AppendLies
import Derived.BigQuiet
import Derived.Shelf.Strings.Repeat
import Derived.Shelf.Strings.LastIndex
import Derived.Shelf.Strings.Search1
import Derived.Lib.Builder
import Derived.Lib.IndexLaws
import Derived.Test.YtlmjabnkjmfcmaaGreatProg
import Derived.WalkKit
import Derived.WalkSpells
import Derived.WalkLawsBesides
import Derived.PlainAid
import Derived.Handy
import Derived.Outline
import Derived.Lib.Hide
import Derived.Laws.RangeAny
import Derived.Lib.AppendZerosOnto
import Derived.Deep.RegionLaw
import Derived.Laws.AppendOwnNone
import Derived.Laws.Cover3
import Derived.LoopN
import Derived.Laws.Sem
import Derived.RegionTactic
import Derived.Orders
import Derived.Laws.CopyOwn
import Derived.Deep.MidRow
import Derived.Laws.Tables
import Derived.Laws.Entries
import Derived.Great.BuildSlice
import Derived.Laws.StructEq
import Derived.Below
import Derived.Deep.DeepCutAuto
import Derived.Laws.BytesArg
import Derived.Laws.BitsLemmas
import Derived.Deep.QuietTactic
namespace Go.Proofs.YtlmjabnkjmfcmaaGreat
open Go Go.RowKit Go.PlainAid
set_option linter.unusedVariables false
set_option linter.unusedSimpArgs false
set_option maxHeartbeats 20000000
set_option linter.defProp false
namespace V
open Ab
open Bk (Cm)
inductive Ba:Nd->Prop
 |mk {k y p b:Int} {an tg tx:ByteArray} {kids:List Nd} {lead ae:List Cm} {h:Bool} {tr:ByteArray} (h1:ae=[]) (h2:h=false) (h3:∀(i:Nat) (z:Nd),kids[i]?=some z->z.lead=[]) (h4:∀(i:Nat) (z:Nd),kids[i]?=some z->Ba z):Ba (.mk k y p b an tg tx kids lead ae h tr)
theorem Ba.ld {x:Nd} {l:List Cm} (h:Ba x):Ba (x.ld l):=by
 cases h with
 |mk h1 h2 h3 h4=>exact .mk h1 h2 h3 h4
mutual
theorem Ki:∀x:Nd,Ba (aj x).1
 |.mk k y p b an tg tx kids lead ae h tr=>by rw [aj];exact .mk rfl rfl (fun i z h=>(Ag kids i z h).1) (fun i z h=>(Ag kids i z h).2)
theorem Ag:∀(l:List Nd) (i:Nat) (z:Nd),(aP l).1[i]?=some z->z.lead=[]∧Ba z
 |[],i,z,h=>by rw [aP] at h;simp at h
 |x::l,0,z,h=>by
  rw [aP] at h;have e:(aj x).1.ld []=z:=by simpa using h
  rw [←e];exact ⟨wB _ _,(Ki x).ld⟩
 |x::l,i+1,z,h=>by rw [aP] at h;exact Ag l i z (by simpa using h)
end
inductive Sa (blk:Bool):Nd->Prop
 |mk {k y p b:Int} {an tg tx:ByteArray} {kids:List Nd} {lead ae:List Cm} {h:Bool} {tr:ByteArray} (h1:y=6->ae=[]∧h=false) (h2:kids=[]->ae=[]) (h3:¬(blk=true∧y=7∧kids≠[])) (h4:y=6->∀z,kids[0]?=some z->z.lead=[]) (h5:∀(i:Nat) (z:Nd),kids[i]?=some z->k=4->i % 2=0->Ba z) (h6:∀(i:Nat) (z:Nd),kids[i]?=some z->k=4->i % 2=1->oU z=true->z.lead=[]) (h7:∀(i:Nat) (z:Nd),kids[i]?=some z->¬(k=4∧i % 2=0)->Sa blk z):Sa blk (.mk k y p b an tg tx kids lead ae h tr)
theorem Sa.ld {blk:Bool} {x:Nd} {l:List Cm} (h:Sa blk x):Sa blk (x.ld l):=by
 cases h with
 |mk h1 h2 h3 h4 h5 h6 h7=>exact .mk h1 h2 h3 h4 h5 h6 h7
theorem Sa.bare {blk:Bool} {x:Nd} (h:Sa blk x) (hv:oU x=true):Sa blk x.bare:=by
 cases h with
 |mk h1 h2 h3 h4 h5 h6 h7=>
  have hy:=(of_decide_eq_true hv).2.1;simp only [Nd.y] at hy;subst hy;exact .mk (fun e=>absurd e dE) h2 (fun e=>absurd e.2.1 dE) (fun e=>absurd e dE) h5 h6 h7
theorem Sa.off {blk:Bool} {x:Nd} {c:List Cm} (h:Sa blk x):Sa blk (gY x c).1∧(oU (gY x c).1=true->(gY x c).1.lead=[]):=by
 unfold gY;split
 ·rename_i m l h1 h2;exact ⟨h.bare h1,fun _=>EC h1⟩
 ·rename_i hn;refine ⟨h,fun hv=>?_⟩;cases hl:x.lead with
  |nil=>rfl
  |cons m l=>exact (hn m l hv hl).elim
theorem yP {b:Bool} {l:List Nd} {i:Nat} {z:Nd} (h:(bC b l).1[i]?=some z):∃w,l[i]?=some w∧(z=w∨z=w.ld [])∧(b=true->i=0->z.lead=[]):=by
 unfold bC at h;split at h
 ·rename_i x r;cases i with
  |zero=>
   have e:x.ld []=z:=by simpa using h
   exact ⟨x,by simp,.inr e.symm,fun _ _=>by rw [←e];exact wB _ _⟩
  |succ i=>exact ⟨z,by simpa using h,.inl rfl,fun _ e=>by omega⟩
 ·rename_i hn;refine ⟨z,h,.inl rfl,fun hb e=>?_⟩;subst hb e;cases l with
  |nil=>simp at h
  |cons x r=>exact (hn x r rfl rfl).elim
theorem aam {blk:Bool} {k y p b:Int} {an tg tx:ByteArray} {kids:List Nd} {lead ae:List Cm} {h:Bool} {tr:ByteArray} {c:List Cm} (hne:kids≠[]) (hs:y=7∨y=6∧ae=[]∧h=false) (h4:(decide (y=6)||(blk && decide (y=7)))=true->∀z,kids[0]?=some z->z.lead=[]) (h5:∀(i:Nat) (z:Nd),kids[i]?=some z->k=4->i % 2=0->Ba z) (h6:∀(i:Nat) (z:Nd),kids[i]?=some z->k=4->i % 2=1->oU z=true->z.lead=[]) (h7:∀(i:Nat) (z:Nd),kids[i]?=some z->¬(k=4∧i % 2=0)->Sa blk z):Sa blk (mK blk k y p b an tg tx kids lead ae h tr c).1:=by
 unfold mK;split
 ·rename_i hc;exact .mk (fun _=>⟨rfl,rfl⟩) (fun e=>absurd e hne) (fun e=>absurd e.2.1 dE) (fun _=>h4 (by rw [hc.1,hc.2];decide)) h5 h6 h7
 ·rename_i hc;split
  ·rename_i h8;exact .mk (fun e=>by omega) (fun e=>absurd e hne) (fun e=>hc ⟨e.1,e.2.1⟩) (fun e=>by omega) h5 h6 h7
  ·rename_i h8;rcases hs with hs|⟨hs,hf,hh⟩
   ·exact absurd hs h8
   ·exact .mk (fun _=>⟨hf,hh⟩) (fun e=>absurd e hne) (fun e=>hc ⟨e.1,e.2.1⟩) (fun e=>h4 (by rw [e];simp)) h5 h6 h7
mutual
theorem Lb (blk:Bool):∀(pre c:List Cm) (x:Nd),gN x->Sa blk (aL blk pre c x).1
 |pre,c,.mk k y p b an tg tx [] lead ae h tr,hg=>by
  rw [gN] at hg;rw [aL];split
  ·rename_i hk;refine .mk (fun e=>⟨rfl,?_⟩) (fun _=>rfl) (fun e=>e.2.2 rfl) (fun _ z hz=>by simp at hz) (fun i z hz=>by simp at hz) (fun i z hz=>by simp at hz) (fun i z hz=>by simp at hz);rcases hg.1.kind with ⟨e1,-⟩|⟨e1,-⟩|⟨-,e1|⟨-,-,e1⟩⟩
   ·omega
   ·omega
   ·omega
   ·exact e1
  ·rename_i hk;refine .mk (fun e=>?_) (fun _=>?_) (fun e=>e.2.2 rfl) (fun _ z hz=>by simp at hz) (fun i z hz=>by simp at hz) (fun i z hz=>by simp at hz) (fun i z hz=>by simp at hz)
   ·rcases hg.1.kind with ⟨-,-,e2,-⟩|⟨-,e2,-⟩|⟨e2,-⟩
    ·omega
    ·omega
    ·exact absurd oM hk
   ·rcases hg.1.kind with ⟨-,-,-,-,e2⟩|⟨-,-,-,e2⟩|⟨e2,-⟩
    ·exact e2
    ·exact e2
    ·exact absurd oM hk
 |pre,c,.mk k y p b an tg tx (x::l) lead ae h tr,hg=>by
  rw [gN] at hg;rw [aL];split
  ·rename_i hk;simp only [];have hs:y=7∨y=6∧ae=[]∧h=false:=by
    rcases hg.1.kind with ⟨-,-,-,e,-⟩|⟨-,-,e,-⟩|⟨-,e⟩
    ·cases e
    ·cases e
    ·exact e
   refine aam ?_ hs (fun hb z hz=>?_) (fun i z hz h4 h5=>?_) (fun i z hz h4 h5 h6=>?_) (fun i z hz h4=>?_)
   ·intro e;have:=eY (decide (y=6)||(blk && decide (y=7))) (if k=3 then bP blk c (x::l) else bO blk c (x::l)).1;rw [e] at this;split at this
    ·rw [jS] at this;simp at this
    ·rw [iQ] at this;simp at this
   ·obtain ⟨w,-,-,h3⟩:=yP hz;exact h3 hb rfl
   ·obtain ⟨w,h1,h2,-⟩:=yP hz;rw [if_neg oM] at h1;have hev:(x::l).length % 2=0:=by
     rcases hg.1.kind with ⟨-,-,-,e,-⟩|⟨-,-,e,-⟩|⟨e,-⟩
     ·cases e
     ·cases e
     ·rcases e with e|e
      ·omega
      ·exact e.2
    have:=(F4 blk c (x::l) hg.2 i w h1).1 h5 hev;rcases h2 with rfl|rfl
    ·exact this
    ·exact this.ld
   ·obtain ⟨w,h1,h2,-⟩:=yP hz;rw [if_neg oM] at h1;rcases h2 with rfl|rfl
    ·exact ((F4 blk c (x::l) hg.2 i z h1).2 h5).2 h6
    ·exact wB _ _
   ·obtain ⟨w,h1,h2,-⟩:=yP hz;have:Sa blk w:=by
     split at h1
     ·exact RB blk c (x::l) hg.2 i w h1
     ·exact ((F4 blk c (x::l) hg.2 i w h1).2 oM).1
    rcases h2 with rfl|rfl
    ·exact this
    ·exact this.ld
  ·rename_i hk;exfalso;rcases hg.1.kind with ⟨-,-,-,e,-⟩|⟨-,-,e,-⟩|⟨e,-⟩
   ·cases e
   ·cases e
   ·exact hk oM
theorem RB (blk:Bool):∀(c:List Cm) (l:List Nd),gL l->∀(i:Nat) (z:Nd),(bP blk c l).1[i]?=some z->Sa blk z
 |c,[],_,i,z,h=>by rw [bP] at h;simp at h
 |c,x::l,hg,0,z,h=>by
  rw [gL] at hg;rw [bP] at h;have e:(aL blk c [] x).1=z:=by simpa using h
  rw [←e];exact Lb blk c [] x hg.1
 |c,x::l,hg,i+1,z,h=>by rw [gL] at hg;rw [bP] at h;exact RB blk _ l hg.2 i z (by simpa using h)
theorem F4 (blk:Bool):∀(c:List Cm) (l:List Nd),gL l->∀(i:Nat) (z:Nd),(bO blk c l).1[i]?=some z->(i % 2=0->l.length % 2=0->Ba z)∧(i % 2=1->Sa blk z∧(oU z=true->z.lead=[]))
 |c,[],_,i,z,h=>by rw [bO] at h;simp at h
 |c,[x],_,i,z,h=>by
  rw [bO] at h;have h:[x][i]?=some z:=h;cases i with
  |zero=>exact ⟨fun _ e=>absurd e (by simp),fun e=>absurd e dE⟩
  |succ i=>simp at h
 |c,x::v::l,hg,0,z,h=>by
  rw [bO] at h;have e:(aj x).1.ld (c++x.lead)=z:=by simpa using h
  rw [←e];exact ⟨fun _ _=>(Ki x).ld,fun e=>absurd e dE⟩
 |c,x::v::l,hg,1,z,h=>by
  rw [gL,gL] at hg;rw [bO] at h;have e:(gY (aL blk (aj x).2 [] v).1 (aL blk (aj x).2 [] v).2).1=z:=by simpa using h
  rw [←e];exact ⟨fun e=>absurd e dE,fun _=>(Lb blk _ [] v hg.2.1).off⟩
 |c,x::v::l,hg,i+2,z,h=>by rw [gL,gL] at hg;rw [bO] at h;have:=F4 blk _ l hg.2.2 i z (by simpa using h);refine ⟨fun e e2=>this.1 oM (by simp only [List.length_cons] at e2;omega),fun e=>this.2 oM⟩
end
end V
section
set_option maxRecDepth 100000
namespace V
open Ab
open Bk (Cm)
def c53 (m:Nat):aC:=fun args bx K=>match args,bx with
 |[.agg xc],[]=>∃x:Nd,xc=bF x∧((fD x<=m∧fD x<=4000000000∧Ba x)∧K (.bool true) [])
 |_,_=>False
def BAL (kids:List Nd) (C:List AV) (j:Nat) (τ:aJ):Prop:=∃a r:List Nd,kids=a++r∧j=r.length∧τ=⟨[(3,.int .i64 a.length),(1,.ptr 0 0)],[C]⟩
def alQ:=fN 53 Tryz.f53 36 [.tmp 2]
theorem acQ.xt {p:Prop} (g:p:=by ((first|((with_reducible intro h);exfalso;simp at h;first|done|fail)|exact IM|((with_reducible refine (?_:∃v r,List.drop _ (List.drop _ (au _))=v::r∧_));refine ⟨cs x0.lead,_,(by show List.drop _ (List.drop _ (au kids))=_;rw [hk,iA oM];rfl),?_⟩)|exact QX|exact uT|exact II|(exact hba _ _ (vI hk))|((with_reducible refine (?_:WP _ _ _ (.loop _) _ _));(apply WP.loop (BAL kids _));(case h0=>exact ⟨[],kids,rfl,rfl,rfl⟩);(case' h=>(rintro j τ ⟨a,r,hk,rfl,rfl⟩;have e1:kids.length=a.length+r.length:=(by rw [hk,List.length_append]);have e3:=congrArg bS hk;rw [gB] at e3;rcases r with _|⟨x0,post⟩;all_goals (first|(rw [List.length_cons,bS] at*;have hz:=congrArg List.length (hl0 _ _ (vI hk));rw [List.length_nil] at hz)|(rw [List.length_nil] at e1;have e1':((Nd.mk kd y p b an tg tx kids lead [] false tr).kids.length)=a.length+0:=e1)))))|exact Q9|((with_reducible refine (?_:ag _ _ _ (.bool false) _));exfalso;omega)|exact QZ|fail);(repeat' (first|exact bN|fail));first|done|fail)):p:=g
theorem aeZ {m:Nat} (ih:aC.OK Tryz.prog 53 (c53 m)):aC.OK Tryz.prog 53 (c53 (m+1)):=by
 intro args bx K0 h;unfold c53 at h;split at h
 ·rename_i xc;obtain ⟨x,rfl,⟨h1,h2,h3⟩,-⟩:=h;obtain @⟨kd,y,p,b,an,tg,tx,kids,lead,ae,hh,tr,rfl,rfl,hl0,hba⟩:=h3;rw [fD] at h1 h2;have hl2:=jq kids;have hfin:∀K,c53 (m+1) [.agg (bF (.mk kd y p b an tg tx kids lead [] false tr))] [] K->K (.bool true) []:=fun K hK=>(HZ (x:=.mk kd y p b an tg tx kids lead [] false tr) rfl hK).2;refine alQ.okW (base:=0) rfl uI uI ?_;have B:=V.base (af.cons ih af.nil)
  conv=>whnf
  let zA:=(aH 53)
  open acQ in exact bN
 ·exact h.elim
theorem ae0:aC.OK Tryz.prog 53 (c53 0):=fun args bx K0 h=>by
 unfold c53 at h;split at h
 ·obtain ⟨x,-,⟨h1,-⟩,-⟩:=h;cases x;rw [fD] at h1;omega
 ·exact h.elim
theorem ae1:∀m:Nat,aC.OK Tryz.prog 53 (c53 m)
 |0=>ae0
 |m+1=>aeZ (ae1 m)
def c20 (m:Nat):aC:=fun args bx K=>match args,bx with
 |[.agg xc,.bool blk],[]=>∃x:Nd,xc=bF x∧((fD x<=m∧fD x<=4000000000∧Sa blk x)∧K (.bool true) [])
 |_,_=>False
def SAL (kids:List Nd) (C:List AV) (blk:Bool) (j:Nat) (τ:aJ):Prop:=∃a r:List Nd,kids=a++r∧j=r.length∧τ=⟨[(5,.int .i64 a.length),(2,.ptr 0 0),(1,.bool blk)],[C]⟩
theorem tm0 {n:Nat} (h:((n:Int)).tmod 2=0):n % 2=0:=by rw [Int.tmod_eq_emod_of_nonneg oM] at h;omega
theorem tm1 {n:Nat} (h:¬((n:Int)).tmod 2=0):n % 2=1:=by rw [Int.tmod_eq_emod_of_nonneg oM] at h;omega
def al5:=fN 20 Tryz.f20 113 [.tmp 4]
theorem acP.xt {p:Prop} (g:p:=by ((first|((with_reducible intro h);exfalso;simp at h;first|done|fail)|exact IM|exact QX|((with_reducible refine (?_:Sa _ _));first|exact f8a aZ|exact f8b aZ)|((with_reducible refine (?_:Ba _));exact f6 (by first|assumption|rfl) aZ)|exact uT|exact II|((with_reducible refine (?_:WP _ _ _ (.loop _) _ _));(apply WP.loop (SAL kids _ _));(case h0=>exact ⟨[],kids,rfl,rfl,rfl⟩);(case' h=>(rintro j τ ⟨a,r,hk,rfl,rfl⟩;have e1:kids.length=a.length+r.length:=(by rw [hk,List.length_append]);have e3:=congrArg bS hk;rw [gB] at e3;rcases r with _|⟨x0,post⟩;all_goals (first|(rw [List.length_cons,bS] at*;have f5:a.length=0->y=6->x0.lead.length=0:=(fun e e2=>by rw [g4 e2 x0 (by rw [←e];exact vI hk)];rfl);have f6:kd=4->((a.length:Int)).tmod 2=0->Ba x0:=(fun e e2=>g5 _ _ (vI hk) e (tm0 e2));have f7:kd=4->¬((a.length:Int)).tmod 2=0->x0.k=1->x0.y=1->x0.tx=ByteArray.empty->x0.lead.length=0:=(fun e e2 e3 e4 e5=>by rw [g6 _ _ (vI hk) e (tm1 e2) (decide_eq_true ⟨e3,e4,e5⟩)];rfl);have f8a:¬kd=4->Sa _ x0:=(fun e=>g7 _ _ (vI hk) (fun e2=>e e2.1));have f8b:¬((a.length:Int)).tmod 2=0->Sa _ x0:=(fun e=>g7 _ _ (vI hk) (fun e2=>by have:=tm1 e;omega)))|(rw [List.length_nil] at e1)))))|((with_reducible refine (?_:∃(j:Nat) (τ':aJ),j<_∧Rx 0 _ τ'∧_));(refine ⟨post.length,_,?_,Zu ?_ rfl ?_,a++[x0],post,(by rw [hk];simp),rfl,(by rw [List.length_append];rfl)⟩);(focus ((try simp only [List.length_cons]);omega));(focus (simp [iY]));(repeat' (first|exact ny.nil|refine ny.cons ?_ ?_|exact Pk.same rfl|exact Pk.ptr rfl));done)|((with_reducible refine (?_:ag _ _ _ (.bool false) _));exfalso;omega)|((with_reducible refine (?_:ag _ _ _ (.bool false) _));exfalso;exact absurd (f7 (by first|assumption|rfl) aZ aZ aZ aZ) oM)|exact QZ|fail);(repeat' (first|exact bN|fail));first|done|fail)):p:=g
theorem afn {m:Nat} (ih:aC.OK Tryz.prog 20 (c20 m)):aC.OK Tryz.prog 20 (c20 (m+1)):=by
 intro args bx K0 h;unfold c20 at h;split at h
 ·rename_i xc blk;obtain ⟨x,rfl,⟨h1,h2,h3⟩,-⟩:=h;obtain @⟨kd,y,p,b,an,tg,tx,kids,lead,ae,hh,tr,g1,g2,g3,g4,g5,g6,g7⟩:=h3;rw [fD] at h1 h2;have hl2:=jq kids;have hfin:∀K,c20 (m+1) [.agg (bF (.mk kd y p b an tg tx kids lead ae hh tr)),.bool blk] [] K->K (.bool true) []:=fun K hK=>(HZ (x:=.mk kd y p b an tg tx kids lead ae hh tr) rfl hK).2;have k1:y=6->ae.length=0:=fun e=>by rw [(g1 e).1];rfl
  have k2:hh=true->y≠6:=fun e e2=>by rw [(g1 e2).2] at e;cases e
  have k3:kids.length=0->ae.length=0:=fun e=>by rw [g2 (List.eq_nil_of_length_eq_zero e)];rfl
  have k4:blk=true->y=7->kids.length=0:=fun e e2=>by
   cases kids with
   |nil=>rfl
   |cons z l=>exact absurd ⟨e,e2,by simp⟩ g3
  unfold bF;simp only [Nd.k,Nd.y,Nd.p,Nd.b,Nd.an,Nd.tg,Nd.tx,Nd.kids,Nd.lead,Nd.ae,Nd.h,Nd.tr];have B:=V.base (af.cons ih (af.cons (ae1 m) af.nil));cases blk<;>cases hh
  all_goals
   (try have k2:=k2 rfl)
   (try have k4:=k4 rfl)
   refine al5.okW (base:=0) rfl uI uI ?_
   conv=>whnf
   let zA:=(aH 20)
   open acP in exact bN
 ·exact h.elim
theorem afo:aC.OK Tryz.prog 20 (c20 0):=fun args bx K0 h=>by
 unfold c20 at h;split at h
 ·obtain ⟨x,-,⟨h1,-⟩,-⟩:=h;cases x;rw [fD] at h1;omega
 ·exact h.elim
theorem afp:∀m:Nat,aC.OK Tryz.prog 20 (c20 m)
 |0=>afo
 |m+1=>afn (afp m)
def fn6:=fN 6 Tryz.f6 52 [.tmp 6]
theorem acO.xt {p:Prop} (g:p:=by ((first|((with_reducible intro h);exfalso;simp at h;first|done|fail)|exact IL|exact Q4|((with_reducible refine (?_:∃x:Nd,_=bF x∧_));refine ⟨(nU blk d0).root,rfl,?_⟩)|exact mf|exact uT|exact QY|exact II|(exact Lb blk [] [] d0.root q1)|exact Q3|exact Q5|(exact q6)|(exact q7)|exact Yt|exact IK|exact IJ|fail);(repeat' (first|exact bN|fail));first|done|fail)):p:=g
theorem ok6 (LX:aC.OK Tryz.prog 13 c13):aC.OK Tryz.prog 6 c3:=by
 intro args bx K0 h;unfold c3 at h;split at h
 ·rename_i s n l blk;obtain ⟨⟨ks,⟨rfl,rfl⟩⟩,-⟩:=h;refine fn6.okW (base:=0) rfl (by simp [gZ,wv,mF]) uI ?_;have B:=V.base (af.cons LX (af.cons (afp 4000000000) (af.cons Sj (af.cons Sb (af.cons R6 af.nil)))))
  conv=>whnf
  let zA:=(aH 6)
  open acO in exact bN
 ·exact h.elim
end V
end
end Go.Proofs.YtlmjabnkjmfcmaaGreat
