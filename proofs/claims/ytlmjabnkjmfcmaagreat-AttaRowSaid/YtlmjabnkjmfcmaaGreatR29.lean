/- Parts of a proof; no condition. -/
import Derived.Test.YtlmjabnkjmfcmaaGreatR24
import Derived.Test.YtlmjabnkjmfcmaaGreatR28
namespace Go.Proofs.YtlmjabnkjmfcmaaGreat
open Go Go.RowKit Go.PlainAid
set_option linter.unusedVariables false
set_option linter.unusedSimpArgs false
set_option linter.unusedSectionVars false
set_option maxHeartbeats 20000000
set_option linter.defProp false
section
variable [nM]
set_option maxRecDepth 100000
namespace V
open Ab
open Bk (Cm)
structure Dc where
 head:List Cm
 jL:List ByteArray
 mark:Bool
 root:Nd
 ag:List Cm
def wJ (d:Dc):List AV:=[cs d.head,.sl d.jL.length (bM d.jL),.bool d.mark,.int .i64 d.root.k,.int .i64 d.root.y,.int .i64 d.root.p,.int .i64 d.root.b,.str d.root.an,.str d.root.tg,.str d.root.tx,.sl d.root.kids.length (aO d.root.kids),cs d.root.lead,cs d.root.ag,.bool d.root.h,.str d.root.tr,cs d.ag]
def fF:List Dc->List AV
 |[]=>[]
 |d::l=>wJ d++fF l
theorem qY (d:Dc):mi (wJ d)=true:=by simp [wJ,mi,wv,AV.flat,AV.pf,AV.one,cs,ay,ai,dN,bK (ay _),bK (ai _),bK (dN _),bn (ay _),bn (ai _),bn (dN _)]
theorem kX:∀l:List Dc,mi (fF l)=true
 |[]=>rfl
 |d::l=>iH (qY d) (kX l)
theorem D7:∀l m:List Dc,fF (l++m)=fF l++fF m
 |[],_=>rfl
 |d::l,m=>by rw [List.cons_append,fF,fF,D7 l m,List.append_assoc]
theorem Vo {d:Dc}:fF [d]=wJ d:=by rw [fF,fF,List.append_nil]
theorem qf:∀l:List Dc,(fF l).length=l.length*16
 |[]=>rfl
 |d::l=>by rw [fF,List.length_append,qf l,List.length_cons];show 16+_=_;omega
def DW (d:Dc):Prop:=BW d.root∧(wt d.root+d.ag.length<=3210000000∧d.head.length<=60000∧d.jL.length<=20000)
theorem OH {s:ByteArray} {k:Nat} {c:Int} (hc:c≠10) (h:Bk.lS s (Bk.bI s k) c=true):Bk.bI s k+3<=Bk.oI s k:=by
 unfold Bk.lS Bk.wK at h;simp only [Bool.and_eq_true,decide_eq_true_eq,beq_iff_eq] at h;have h1:=Bk.iF s k;have h2:=Bk.vS s k;rcases Nat.lt_or_ge (Bk.oI s k) (Bk.bI s k+3) with hlt|hge
 ·have h3:bt s (Bk.oI s k)=10:=Bk.LV oM;have:Bk.oI s k=Bk.bI s k∨Bk.oI s k=Bk.bI s k+1∨Bk.oI s k=Bk.bI s k+2:=oM;rcases this with e|e|e<;>rw [e] at h3<;>omega
 ·exact hge
theorem IV {s:ByteArray} {k:Nat} (h:Bk.fE s k=3∨Bk.fE s k=4):Bk.bI s k+3<=Bk.oI s k:=by
 unfold Bk.fE at h;by_cases h1:Bk.lS s (Bk.bI s k) 45=true
 ·exact OH dE h1
 ·rw [if_neg h1] at h;by_cases h2:Bk.lS s (Bk.bI s k) 46=true
  ·exact OH dE h2
  ·rw [if_neg h2] at h;split at h
   ·omega
   ·split at h<;>omega
end V
end
section
variable [nM]
namespace V
open Ab
open Bk (Cm)
theorem afd {h:Bool} {tr:ByteArray}:(mQ h tr).length<=1:=by
 cases h
 ·exact Nat.zero_le _
 ·exact Nat.le_refl 1
mutual
theorem ND:∀x:Nd,lW x<=wt x∧jT x<=wt x
 |.mk k y p b an tg tx kids lead ag h tr=>by have h1:=Vu kids;have h2:=afd (h:=h) (tr:=tr);rw [lW,jT,yL];simp only [Nd.lead,Nd.ag,Nd.kids];omega
theorem Vu:∀l:List Nd,fD l<=iJ l∧eP l<=iJ l
 |[]=>⟨Nat.le_refl _,Nat.le_refl _⟩
 |x::l=>by have h1:=ND x;have h2:=Vu l;rw [fD,eP,iJ];omega
end
structure GNc (k y:Int) (kids:List Nd) (ag:List Cm) (h:Bool) (tr:ByteArray):Prop where
 kind:(k=1∧1<=y∧y<=5∧kids=[]∧ag=[])∨(k=2∧y=0∧kids=[]∧ag=[])∨(k=3∨k=4∧kids.length % 2=0)∧(y=7∨y=6∧ag=[]∧h=false)
 tr:h=false->tr=ByteArray.empty
theorem JS.gn {k y:Int} {kids:List Nd} {ag:List Cm} {h:Bool} {tr:ByteArray} (hb:JS k y kids ag h tr):GNc k y kids ag h tr∧∀z ∈ kids,BW z:=by
 cases hb with
 |flow hf=>
  obtain ⟨⟨h1,h2⟩,h3⟩:=hf.out;refine ⟨⟨?_,h2⟩,fun z hz=> .flow (h3 z hz)⟩;rcases h1 with h1|h1|h1|h1
  ·exact .inl h1
  ·exact .inr (.inl h1)
  ·exact .inr (.inr ⟨.inl h1.1,.inl h1.2⟩)
  ·exact .inr (.inr ⟨.inr ⟨h1.1,h1.2.2⟩,.inl h1.2.1⟩)
 |blk h hk=>exact ⟨⟨.inr (.inr ⟨h,.inr ⟨rfl,rfl,rfl⟩⟩),fun _=>rfl⟩,hk⟩
mutual
def gN:Nd->Prop
 |.mk k y _ _ _ _ _ kids _ ag h tr=>GNc k y kids ag h tr∧gL kids
def gL:List Nd->Prop
 |[]=>True
 |x::l=>gN x∧gL l
end
mutual
theorem aet:∀x:Nd,BW x->gN x
 |.mk k y p b an tg tx kids lead ag h tr,hb=>by have h1:=JS.gn (k:=k) (y:=y) (kids:=kids) (ag:=ag) (h:=h) (tr:=tr) hb;rw [gN];exact ⟨h1.1,aev kids h1.2⟩
theorem aev:∀l:List Nd,(∀z ∈ l,BW z)->gL l
 |[],_=>by rw [gL];trivial
 |x::l,hb=>by rw [gL];exact ⟨aet x (hb x (by simp)),aev l fun z hz=>hb z (by simp [hz])⟩
end
mutual
theorem aeu:∀x:Nd,gN x->Vj x=true∧LU x=true
 |.mk k y p b an tg tx kids lead ag h tr,hg=>by
  rw [gN] at hg;obtain ⟨⟨h1,h2⟩,h3⟩:=hg;obtain ⟨h4,h5⟩:=aew kids h3;rw [Vj,LU,h4,h5,Bool.and_true,Bool.and_true];constructor
  ·rcases h1 with ⟨rfl,-⟩|⟨rfl,-⟩|⟨h1,h6⟩
   ·rfl
   ·rfl
   ·have h7:(decide (y=6)||decide (y=7))=true:=by rcases h6 with rfl|⟨rfl,-⟩<;>rfl
    rw [h7,Bool.or_true,Bool.and_true];rcases h1 with rfl|⟨rfl,h1⟩
    ·rfl
    ·rw [decide_eq_true h1,Bool.or_true]
  ·cases h with
   |true=>rfl
   |false=>rw [h2 rfl];rfl
theorem aew:∀l:List Nd,gL l->Oe l=true∧Jv l=true
 |[],_=>⟨by rw [Oe],by rw [Jv]⟩
 |x::l,hg=>by rw [gL] at hg;obtain ⟨h1,h2⟩:=aeu x hg.1;obtain ⟨h3,h4⟩:=aew l hg.2;rw [Oe,Jv,h1,h2,h3,h4];exact ⟨rfl,rfl⟩
end
structure wZ (d:Dc):Prop where
 g:gN d.root
 nz:jT d.root<=3210000000
 ct:lW d.root+d.ag.length<=3210000000
 hd:d.head.length<=60000
 ds:d.jL.length<=20000
theorem DW.jK {d:Dc} (h:DW d):wZ d:=by obtain ⟨h1,h2,h3,h4⟩:=h;have:=ND d.root;exact ⟨aet _ h1,oM,oM,h3,h4⟩
mutual
def jC:Nd->List Cm
 |.mk _ _ _ _ _ _ _ kids lead ag h tr=>lead++lN kids++ag++mQ h tr
def lN:List Nd->List Cm
 |[]=>[]
 |x::l=>jC x++lN l
end
mutual
theorem adr:∀x:Nd,(jC x).length=lW x
 |.mk _ _ _ _ _ _ _ kids lead ag h tr=>by have:=QN kids;rw [jC,lW];simp only [List.length_append];omega
theorem QN:∀l:List Nd,(lN l).length=fD l
 |[]=>rfl
 |x::l=>by rw [lN,fD,List.length_append,adr x,QN l]
end
theorem ag1 (x:Nd) (l:List Cm):x.lead++(jC (x.ld l)).drop l.length=jC x∧jC (x.ld l)=l++(jC (x.ld l)).drop l.length:=by cases x;rw [Nd.ld,jC,jC,Nd.lead];simp [List.append_assoc]
mutual
theorem E5:∀x:Nd,x.lead++(aX x).2=jC x∧∀l,jC ((aX x).1.ld l)=l
 |.mk k y p b an tg tx kids lead ag h tr=>by
  obtain ⟨h1,h2⟩:=Jt kids;rw [aX];constructor
  ·rw [Nd.lead,jC,←h1];simp [List.append_assoc]
  ·intro l;show jC (.mk k y p b an tg tx (aU kids).1 l [] false ByteArray.empty)=l;rw [jC,h2];simp [mQ]
theorem Jt:∀l:List Nd,(aU l).2=lN l∧lN (aU l).1=[]
 |[]=>⟨rfl,rfl⟩
 |x::l=>by obtain ⟨h1,h2⟩:=E5 x;obtain ⟨h3,h4⟩:=Jt l;rw [aU,lN];simp only [];rw [lN,h1,h3,h4,h2];exact ⟨rfl,rfl⟩
end
theorem aaL (b:Bool) (l:List Nd):(mD b l).2++lN (mD b l).1=lN l:=by
 unfold mD;split
 ·rename_i x r;rw [lN,lN,←List.append_assoc];congr 1;have h:=ag1 x [];simp only [List.length_nil,List.drop_zero,List.nil_append] at h;exact h.1
 ·rfl
theorem adq {blk:Bool} {k y p b:Int} {an tg tx:ByteArray} {kids:List Nd} {lead ag:List Cm} {h:Bool} {tr:ByteArray} {c:List Cm} (hs:y=7∨y=6∧ag=[]∧h=false):jC (uT blk k y p b an tg tx kids lead ag h tr c).1++(uT blk k y p b an tg tx kids lead ag h tr c).2=lead++lN kids++c++ag++mQ h tr:=by
 unfold uT;split
 ·rw [jC];simp [mQ,List.append_assoc]
 ·split
  ·rw [jC];simp [List.append_assoc]
  ·rename_i h7;rcases hs with e|⟨-,rfl,rfl⟩
   ·exact absurd e h7
   ·rw [jC];simp [mQ,List.append_assoc]
theorem Qh {blk:Bool} {pre:List Cm} {x:Nd} (hk:x.k=1) (hg:gN x):bJ blk pre [] x=(x.ld (pre++x.lead),[])∧x.kids=[]∧x.ag=[]:=by
 obtain ⟨k,y,p,b,an,tg,tx,kids,lead,ag,h,tr⟩:=x;have hk:k=1:=hk;rw [gN] at hg;have h1:kids=[]∧ag=[]:=by
  rcases hg.1.kind with ⟨-,-,-,e,f⟩|⟨e,-⟩|⟨e,-⟩
  ·exact ⟨e,f⟩
  ·omega
  ·omega
 obtain ⟨rfl,rfl⟩:=h1;rw [bJ,if_neg oM];exact ⟨rfl,rfl,rfl⟩
theorem adL (blk:Bool) (pre c:List Cm) (x:Nd):(bJ blk pre c x).1.k=x.k:=by
 obtain ⟨k,y,p,b,an,tg,tx,kids,lead,ag,h,tr⟩:=x;cases kids with
 |nil=>
  rw [bJ];split<;>rfl
 |cons z l=>
  rw [bJ];split
  ·simp only [];unfold uT;split
   ·rfl
   ·split<;>rfl
  ·rfl
theorem adp {blk:Bool} {pre:List Cm} {x:Nd} (hg:gN x):jC (lV (bJ blk pre [] x).1 (bJ blk pre [] x).2).1++(lV (bJ blk pre [] x).1 (bJ blk pre [] x).2).2=jC (bJ blk pre [] x).1++(bJ blk pre [] x).2:=by
 unfold lV;split
 ·rename_i m l h1 h2;have hk:=(of_decide_eq_true h1).1;rw [adL] at hk;obtain ⟨e1,e2,e3⟩:=Qh (blk:=blk) (pre:=pre) hk hg;rw [e1] at h2⊢;simp only [] at h2⊢;obtain ⟨k,y,p,b,an,tg,tx,kids,lead,ag,h,tr⟩:=x;have e2:kids=[]:=e2;have e3:ag=[]:=e3;subst e2 e3;have h2:pre++lead=m::l:=h2;show jC (.mk k y p b an tg tx [] [] [] false ByteArray.empty)++((m::l)++mQ h tr)=jC (.mk k y p b an tg tx [] (pre++lead) [] h tr)++[];rw [jC,jC,h2,lN];simp [mQ]
 ·rfl
mutual
theorem NR (blk:Bool):∀(pre:List Cm) (x:Nd),gN x->jC (bJ blk pre [] x).1++(bJ blk pre [] x).2=pre++jC x
 |pre,.mk k y p b an tg tx [] lead ag h tr,hg=>by
  rw [bJ];split
  ·rw [jC,jC,lN];simp [List.append_assoc]
  ·rw [jC,jC,lN];simp [List.append_assoc]
 |pre,.mk k y p b an tg tx (x::l) lead ag h tr,hg=>by
  rw [gN] at hg;rw [bJ];split
  ·rename_i hk;simp only [];have hs:(y=7∨y=6∧ag=[]∧h=false)∧(k=3∨k=4∧(x::l).length % 2=0):=by
    rcases hg.1.kind with ⟨-,-,-,e,-⟩|⟨-,-,e,-⟩|⟨e1,e⟩
    ·cases e
    ·cases e
    ·exact ⟨e,e1⟩
   rw [adq hs.1];have hh:=aaL (decide (y=6)||(blk && decide (y=7))) (if k=3 then iG blk [] (x::l) else iU blk [] (x::l)).1;have hc:lN (if k=3 then iG blk [] (x::l) else iU blk [] (x::l)).1++(if k=3 then iG blk [] (x::l) else iU blk [] (x::l)).2=lN (x::l):=by
    split
    ·exact VK blk [] (x::l) hg.2
    ·rename_i h3;exact all_map blk [] (x::l) hg.2 ((hs.2.resolve_left h3).2)
   rw [jC,←hc,←hh];simp [List.append_assoc]
  ·rw [jC,jC];simp [List.append_assoc]
theorem VK (blk:Bool):∀(c:List Cm) (l:List Nd),gL l->lN (iG blk c l).1++(iG blk c l).2=c++lN l
 |c,[],_=>by rw [iG];simp [lN]
 |c,x::l,hg=>by rw [gL] at hg;rw [iG];simp only [];rw [lN,lN,List.append_assoc,VK blk _ l hg.2,←List.append_assoc,NR blk c x hg.1,List.append_assoc]
theorem all_map (blk:Bool):∀(c:List Cm) (l:List Nd),gL l->l.length % 2=0->lN (iU blk c l).1++(iU blk c l).2=c++lN l
 |c,[],_,_=>by rw [iU];simp [lN]
 |c,[x],_,he=>by simp at he
 |c,x::v::l,hg,he=>by rw [gL,gL] at hg;rw [iU];simp only [];have h1:=adp (blk:=blk) (pre:=(aX x).2) hg.2.1;have h2:=NR blk (aX x).2 v hg.2.1;have h3:=all_map blk (lV (bJ blk (aX x).2 [] v).1 (bJ blk (aX x).2 [] v).2).2 l hg.2.2 (by simp only [List.length_cons] at he;omega);rw [lN,lN,lN,lN,(E5 x).2,←(E5 x).1];simp only [List.append_assoc];rw [h3];have h12:=h1.trans h2;rw [←List.append_assoc (jC (lV (bJ blk (aX x).2 [] v).1 (bJ blk (aX x).2 [] v).2).1) _ (lN l),h12,List.append_assoc]
end
theorem O0 (blk:Bool) (x:Nd) (ag:List Cm) (hg:gN x):jC (bJ blk [] [] x).1++((bJ blk [] [] x).2++ag)=jC x++ag:=by rw [←List.append_assoc,NR blk [] x hg];rfl
def nT (c:Cm):ByteArray:={data:=#[35]}++c.t
def jE (l:List Cm):List ByteArray:=l.map nT
def Qe (k:Int) (tx:ByteArray):List ByteArray:=if k=2 then [{data:=#[42]}++tx] else if k=1∧¬tx=ByteArray.empty then [{data:=#[61]}++tx] else []
theorem kM (a b:List Cm):jE (a++b)=jE a++jE b:=List.map_append
mutual
def l9:Nd->List ByteArray
 |.mk k _ _ _ _ _ tx kids lead ag h tr=>jE lead++(Qe k tx++(nG kids++(jE ag++jE (mQ h tr))))
def nG:List Nd->List ByteArray
 |[]=>[]
 |x::l=>l9 x++nG l
end
mutual
def Ap:Nd->List ByteArray
 |.mk k _ _ _ _ _ tx kids _ _ _ _=>Qe k tx++EH kids
def EH:List Nd->List ByteArray
 |[]=>[]
 |x::l=>Ap x++EH l
end
theorem Y2 (x:Nd) (l:List Cm):Ap (x.ld l)=Ap x:=by cases x;rw [Nd.ld,Ap,Ap]
mutual
theorem Qc:∀x:Nd,Ap (aX x).1=Ap x
 |.mk k y p b an tg tx kids lead ag h tr=>by rw [aX,Ap,Ap,KI kids]
theorem KI:∀l:List Nd,EH (aU l).1=EH l
 |[]=>rfl
 |x::l=>by rw [aU,EH,EH,Y2,Qc x,KI l]
end
theorem ab8 (b:Bool) (l:List Nd):EH (mD b l).1=EH l:=by
 unfold mD;split
 ·rw [EH,EH,Y2]
 ·rfl
theorem afV {blk:Bool} {k y p b:Int} {an tg tx:ByteArray} {kids:List Nd} {lead ag:List Cm} {h:Bool} {tr:ByteArray} {c:List Cm}:Ap (uT blk k y p b an tg tx kids lead ag h tr c).1=Qe k tx++EH kids:=by
 unfold uT;split
 ·rw [Ap]
 ·split<;>rw [Ap]
theorem ab9 (x:Nd):Ap x.bare=Ap x:=by cases x;rw [Nd.bare,Ap,Ap]
theorem afU (x:Nd) (c:List Cm):Ap (lV x c).1=Ap x:=by
 unfold lV;split
 ·exact ab9 x
 ·rfl
mutual
theorem MW (blk:Bool):∀(pre c:List Cm) (x:Nd),Ap (bJ blk pre c x).1=Ap x
 |pre,c,.mk k y p b an tg tx [] lead ag h tr=>by rw [bJ];split<;>rw [Ap,Ap]
 |pre,c,.mk k y p b an tg tx (x::l) lead ag h tr=>by
  rw [bJ];split
  ·simp only [];rw [afV,ab8,Ap];congr 1;split
   ·exact Y0 blk c (x::l)
   ·exact Y1 blk c (x::l)
  ·rw [Ap,Ap]
theorem Y0 (blk:Bool):∀(c:List Cm) (l:List Nd),EH (iG blk c l).1=EH l
 |c,[]=>by rw [iG]
 |c,x::l=>by rw [iG];simp only [];rw [EH,EH,MW blk c [] x,Y0 blk _ l]
theorem Y1 (blk:Bool):∀(c:List Cm) (l:List Nd),EH (iU blk c l).1=EH l
 |c,[]=>by rw [iU]
 |c,[x]=>by rw [iU]
 |c,x::v::l=>by rw [iU];simp only [];rw [EH,EH,EH,EH,Y2,Qc,afU,MW blk _ [] v,Y1 blk _ l]
end
def QW (x:Nd):Bool:=!(aX x).2.isEmpty
mutual
def uH:Nd->Bool
 |.mk k _ _ _ _ _ _ kids _ _ _ _=>Bg (decide (k=4)) true kids
def Bg:Bool->Bool->List Nd->Bool
 |_,_,[]=>false
 |m,e,x::l=>(m && e && QW x||uH x)||Bg m (!e) l
end
theorem Ze (x:Nd) (l:List Cm):uH (x.ld l)=uH x:=by cases x;rw [Nd.ld,uH,uH]
theorem akm (x:Nd) (l:List Cm):QW (x.ld l)=QW x:=by cases x;unfold QW;rw [Nd.ld,aX,aX]
mutual
theorem Et:∀x:Nd,∀l,(aX ((aX x).1.ld l)).2=[]
 |.mk k y p b an tg tx kids lead ag h tr,l=>by rw [aX];show (aX (.mk k y p b an tg tx (aU kids).1 l [] false ByteArray.empty)).2=[];rw [aX,Ie kids];rfl
theorem Ie:∀l:List Nd,(aU (aU l).1).2=[]
 |[]=>rfl
 |x::l=>by rw [aU];simp only [];rw [aU];simp only [];rw [Et x [],Ie l];cases (aX x).1;rfl
end
mutual
theorem Qm:∀x:Nd,uH (aX x).1=false
 |.mk k y p b an tg tx kids lead ag h tr=>by rw [aX,uH];exact KO kids _ _
theorem KO:∀(l:List Nd) (m e:Bool),Bg m e (aU l).1=false
 |[],m,e=>by rw [aU,Bg]
 |x::l,m,e=>by
  rw [aU];simp only [];rw [Bg,KO l,Ze,Qm x];have:QW ((aX x).1.ld [])=false:=by unfold QW;rw [Et];rfl
  rw [this];cases m<;>cases e<;>rfl
end
theorem ack (m e b:Bool) (l:List Nd):Bg m e (mD b l).1=Bg m e l:=by
 unfold mD;split
 ·rw [Bg,Bg,akm,Ze]
 ·rfl
theorem age {blk:Bool} {k y p b:Int} {an tg tx:ByteArray} {kids:List Nd} {lead ag:List Cm} {h:Bool} {tr:ByteArray} {c:List Cm}:uH (uT blk k y p b an tg tx kids lead ag h tr c).1=Bg (decide (k=4)) true kids:=by
 unfold uT;split
 ·rw [uH]
 ·split<;>rw [uH]
theorem acn (x:Nd):uH x.bare=uH x:=by cases x;rw [Nd.bare,uH,uH]
theorem agd (x:Nd) (c:List Cm):uH (lV x c).1=uH x:=by
 unfold lV;split
 ·exact acn x
 ·rfl
mutual
theorem SK (blk:Bool):∀(pre c:List Cm) (x:Nd),gN x->uH (bJ blk pre c x).1=false
 |pre,c,.mk k y p b an tg tx [] lead ag h tr,hg=>by rw [bJ];split<;>rw [uH,Bg]
 |pre,c,.mk k y p b an tg tx (x::l) lead ag h tr,hg=>by
  rw [gN] at hg;have hs:(k=3∨k=4∧(x::l).length % 2=0):=by
   rcases hg.1.kind with ⟨-,-,-,e,-⟩|⟨-,-,e,-⟩|⟨e1,e⟩
   ·cases e
   ·cases e
   ·exact e1
  rw [bJ,if_pos oM];simp only [];rw [age,ack];split
  ·rename_i h3;rw [show decide (k=4)=false from decide_eq_false oM];exact Zc blk c (x::l) true hg.2
  ·rename_i h3;rw [show decide (k=4)=true from decide_eq_true oM];exact Zd blk c (x::l) hg.2 (hs.resolve_left h3).2
theorem Zc (blk:Bool):∀(c:List Cm) (l:List Nd) (e:Bool),gL l->Bg false e (iG blk c l).1=false
 |c,[],e,_=>by rw [iG,Bg]
 |c,x::l,e,hg=>by rw [gL] at hg;rw [iG];simp only [];rw [Bg,SK blk c [] x hg.1,Zc blk _ l _ hg.2];rfl
theorem Zd (blk:Bool):∀(c:List Cm) (l:List Nd),gL l->l.length % 2=0->Bg true true (iU blk c l).1=false
 |c,[],_,_=>by rw [iU,Bg]
 |c,[x],_,he=>by simp at he
 |c,x::v::l,hg,he=>by
  rw [gL,gL] at hg;rw [iU];simp only [];rw [Bg,Bg,Ze,Qm,agd,SK blk _ [] v hg.2.1];have h3:=Zd blk (lV (bJ blk (aX x).2 [] v).1 (bJ blk (aX x).2 [] v).2).2 l hg.2.2 (by simp only [List.length_cons] at he;omega);have:QW ((aX x).1.ld (c++x.lead))=false:=by unfold QW;rw [Et];rfl
  rw [this];simpa using h3
end
mutual
theorem Kq:∀x:Nd,(aX x).2=[]->∀l,l9 ((aX x).1.ld l)=l9 (x.ld l)
 |.mk k y p b an tg tx kids lead ag h tr,hx,l=>by
  rw [aX] at hx⊢;have h1:(aU kids).2=[]∧ag=[]∧mQ h tr=[]:=by simpa [List.append_eq_nil_iff,and_assoc] using hx
  show l9 (.mk k y p b an tg tx (aU kids).1 l [] false ByteArray.empty)=l9 (.mk k y p b an tg tx kids l ag h tr);rw [l9,l9,Ip kids h1.1,h1.2.1,h1.2.2];rfl
theorem Ip:∀l:List Nd,(aU l).2=[]->nG (aU l).1=nG l
 |[],_=>rfl
 |x::l,hx=>by
  rw [aU] at hx⊢;have h1:x.lead=[]∧(aX x).2=[]∧(aU l).2=[]:=by simpa [List.append_eq_nil_iff,and_assoc] using hx
  simp only [];rw [nG,nG,Kq x h1.2.1,Ip l h1.2.2];congr 2;obtain ⟨k,y,p,b,an,tg,tx,kids,lead,ag,h,tr⟩:=x;have e:lead=[]:=h1.1;rw [e,Nd.ld]
end
theorem Yp (x:Nd):∃R,∀l,l9 (x.ld l)=jE l++R:=by cases x;exact ⟨_,fun l=>by rw [Nd.ld,l9]⟩
theorem U4 (x:Nd):x.ld x.lead=x:=by cases x;rfl
theorem UB (x:Nd) (l:List Cm):l9 (x.ld (l++x.lead))=jE l++l9 x:=by obtain ⟨R,h⟩:=Yp x;have h2:=h x.lead;rw [U4] at h2;rw [h,h2,kM,List.append_assoc]
theorem Yq (b:Bool) (l:List Nd):jE (mD b l).2++nG (mD b l).1=nG l:=by
 unfold mD;split
 ·rename_i x r;rw [nG,nG,←List.append_assoc];congr 1;have h:=UB (x.ld []) x.lead;obtain ⟨R,h2⟩:=Yp x;have h3:=h2 x.lead;rw [U4] at h3;rw [h2,h3];simp [jE]
 ·rfl
theorem Dv {k:Int} {tx:ByteArray} (h:k=3∨k=4):Qe k tx=[]:=by unfold Qe;rw [if_neg oM,if_neg oM]
theorem abI {blk:Bool} {k y p b:Int} {an tg tx:ByteArray} {kids:List Nd} {lead ag:List Cm} {h:Bool} {tr:ByteArray} {c:List Cm} (hk:k=3∨k=4) (hs:y=7∨y=6∧ag=[]∧h=false):l9 (uT blk k y p b an tg tx kids lead ag h tr c).1++jE (uT blk k y p b an tg tx kids lead ag h tr c).2=jE lead++(nG kids++(jE c++(jE ag++jE (mQ h tr)))):=by
 unfold uT;split
 ·rw [l9,Dv hk];simp [mQ,jE,List.append_assoc]
 ·split
  ·rw [l9,Dv hk];simp [jE,List.append_assoc]
  ·rename_i h7;rcases hs with e|⟨-,rfl,rfl⟩
   ·exact absurd e h7
   ·rw [l9,Dv hk];simp [mQ,jE,List.append_assoc]
theorem abH {blk:Bool} {pre:List Cm} {x:Nd} (hg:gN x):l9 (lV (bJ blk pre [] x).1 (bJ blk pre [] x).2).1++jE (lV (bJ blk pre [] x).1 (bJ blk pre [] x).2).2=l9 (bJ blk pre [] x).1++jE (bJ blk pre [] x).2:=by
 unfold lV;split
 ·rename_i m l h1 h2;have hv:=of_decide_eq_true h1;have hk:=hv.1;rw [adL] at hk;obtain ⟨e1,e2,e3⟩:=Qh (blk:=blk) (pre:=pre) hk hg;rw [e1] at h2 hv⊢;simp only [] at h2 hv⊢;obtain ⟨k,y,p,b,an,tg,tx,kids,lead,ag,h,tr⟩:=x;have e2:kids=[]:=e2;have e3:ag=[]:=e3;have e4:tx=ByteArray.empty:=hv.2.2;have e5:k=1:=hk;subst e2 e3 e4 e5;have h2:pre++lead=m::l:=h2;show l9 (.mk 1 y p b an tg ByteArray.empty [] [] [] false ByteArray.empty)++jE ((m::l)++mQ h tr)=l9 (.mk 1 y p b an tg ByteArray.empty [] (pre++lead) [] h tr)++jE [];have e:Qe 1 ByteArray.empty=[]:=by unfold Qe;rw [if_neg dE,if_neg (fun h=>h.2 rfl)]
  rw [l9,l9,e,h2,nG];simp [mQ,jE]
 ·rfl
mutual
theorem GR (blk:Bool):∀(pre:List Cm) (x:Nd),gN x->uH x=false->l9 (bJ blk pre [] x).1++jE (bJ blk pre [] x).2=jE pre++l9 x
 |pre,.mk k y p b an tg tx [] lead ag h tr,hg,hi=>by
  rw [bJ];split
  ·rename_i hk;rw [l9,l9,nG,Dv hk];simp [jE,List.append_assoc]
  ·rw [l9,l9,nG];simp [jE,List.append_assoc]
 |pre,.mk k y p b an tg tx (x::l) lead ag h tr,hg,hi=>by
  rw [gN] at hg;rw [uH] at hi;rw [bJ];split
  ·rename_i hk;simp only [];have hs:(y=7∨y=6∧ag=[]∧h=false)∧(k=3∨k=4∧(x::l).length % 2=0):=by
    rcases hg.1.kind with ⟨-,-,-,e,-⟩|⟨-,-,e,-⟩|⟨e1,e⟩
    ·cases e
    ·cases e
    ·exact ⟨e,e1⟩
   rw [abI hk hs.1];have hh:=Yq (decide (y=6)||(blk && decide (y=7))) (if k=3 then iG blk [] (x::l) else iU blk [] (x::l)).1;have hc:nG (if k=3 then iG blk [] (x::l) else iU blk [] (x::l)).1++jE (if k=3 then iG blk [] (x::l) else iU blk [] (x::l)).2=nG (x::l):=by
    split
    ·rename_i h3;rw [show decide (k=4)=false from decide_eq_false oM] at hi;exact UA blk [] (x::l) true hg.2 hi
    ·rename_i h3;rw [show decide (k=4)=true from decide_eq_true oM] at hi;exact UC blk [] (x::l) hg.2 ((hs.2.resolve_left h3).2) hi
   rw [l9,←hc,←hh,Dv hk];simp only [kM,List.append_assoc,List.nil_append]
  ·rw [l9,l9];simp [jE,List.append_assoc]
theorem UA (blk:Bool):∀(c:List Cm) (l:List Nd) (e:Bool),gL l->Bg false e l=false->nG (iG blk c l).1++jE (iG blk c l).2=jE c++nG l
 |c,[],e,_,_=>by rw [iG];simp [nG]
 |c,x::l,e,hg,hi=>by
  rw [gL] at hg;rw [Bg] at hi;have hi:uH x=false∧Bg false (!e) l=false:=by simpa using hi
  rw [iG];simp only [];rw [nG,nG,List.append_assoc,UA blk _ l _ hg.2 hi.2,←List.append_assoc,GR blk c x hg.1 hi.1,List.append_assoc]
theorem UC (blk:Bool):∀(c:List Cm) (l:List Nd),gL l->l.length % 2=0->Bg true true l=false->nG (iU blk c l).1++jE (iU blk c l).2=jE c++nG l
 |c,[],_,_,_=>by rw [iU];simp [nG]
 |c,[x],_,he,_=>by simp at he
 |c,x::v::l,hg,he,hi=>by
  rw [gL,gL] at hg;rw [Bg,Bg] at hi;have hi:(QW x=false∧uH x=false)∧uH v=false∧Bg true true l=false:=by simpa using hi
  have hn:(aX x).2=[]:=by have:=hi.1.1;unfold QW at this;simpa using this
  rw [iU];simp only [];rw [hn];have h1:=abH (blk:=blk) (pre:=[]) hg.2.1;have h2:=GR blk [] v hg.2.1 hi.2.1;have h3:=UC blk (lV (bJ blk [] [] v).1 (bJ blk [] [] v).2).2 l hg.2.2 (by simp only [List.length_cons] at he;omega) hi.2.2;rw [nG,nG,nG,nG,Kq x hn,UB];simp only [List.append_assoc];rw [h3];have h12:=h1.trans h2;rw [←List.append_assoc (l9 (lV (bJ blk [] [] v).1 (bJ blk [] [] v).2).1) _ (nG l),h12];simp [jE]
end
def ad (ts:List ByteArray):AV->AV
 |.row e z n l=> .row e z (n+ts.length) (l++bM ts)
 |.bool b=> .bool (b||!ts.isEmpty)
 |v=>v
theorem CQ:∀l:List ByteArray,AV.aA (bM l)=[]
 |[]=>rfl
 |t::l=>by show AV.ids (.str t)++AV.aA (bM l)=[];rw [CQ l];rfl
def lg (q:Nat) (N:Nat) (v:AV):Prop:=if q=2 then ∃b,v=.bool b else ∃n l,v=.row 9 1 n l∧n+N<=10000000000∧AV.aA l=[]
theorem ag2 {q N:Nat} {v:AV} (h:lg q N v):ad [] v=v:=by
 unfold lg at h;split at h
 ·obtain ⟨b,rfl⟩:=h;simp [ad]
 ·obtain ⟨n,l,rfl,-,-⟩:=h;simp [ad,bM]
theorem anK {q N:Nat} {v:AV} (h:lg q N v) (a b:List ByteArray):ad b (ad a v)=ad (a++b) v:=by
 unfold lg at h;split at h
 ·obtain ⟨c,rfl⟩:=h;cases a<;>cases b<;>simp [ad]
 ·obtain ⟨n,l,rfl,-,-⟩:=h;simp [ad,bM,Nat.add_assoc]
theorem FY {q N M:Nat} {v:AV} {a:List ByteArray} (h:lg q N v) (hn:a.length+M<=N):lg q M (ad a v):=by
 unfold lg at h⊢;split
 ·rename_i hq;rw [if_pos hq] at h;obtain ⟨c,rfl⟩:=h;exact ⟨_,rfl⟩
 ·rename_i hq;rw [if_neg hq] at h;obtain ⟨n,l,rfl,h1,h2⟩:=h;exact ⟨_,_,rfl,oM,(by rw [dF,h2,CQ];rfl)⟩
theorem Y6 {q N:Nat} {v:AV} (h:lg q N v) (ts:List ByteArray):AV.aA [ad ts v]=[]:=by
 unfold lg at h;split at h
 ·obtain ⟨c,rfl⟩:=h;rfl
 ·obtain ⟨n,l,rfl,h1,h2⟩:=h;show AV.aA (l++bM ts)++[]=[];rw [dF,h2,CQ];rfl
def Wg (b0:List (List AV)) (b:Nat) (v:AV) (P:List ByteArray) (B:List (List AV)):Prop:=b<b0.length∧b0.length<=B.length∧B[b]?=some [ad P v]∧(∀j,j<b0.length->j≠b->B[j]?=b0[j]?)∧gB B.length B
variable {b0 B b1 : List (List AV)} {b i q N : Nat} {v : AV} {P ts : List ByteArray} {c : List AV}
theorem Wg.at (h:Wg b0 b v P B):B[b]?=some [ad P v]:=h.2.2.1
theorem Wg.le (h:Wg b0 b v P B):b0.length<=B.length:=h.2.1
theorem Wg.cl (h:Wg b0 b v P B):gB B.length B:=h.2.2.2.2
theorem Wg.get (h:Wg b0 b v P B) (hc:b0[i]?=some c) (hn:i≠b):B[i]?=some c:=(h.2.2.2.1 i (List.getElem?_eq_some_iff.1 hc).1 hn).trans hc
theorem Wg.same (h:Wg b0 b v P B):∀j,j<b0.length->j≠b->B[j]?=b0[j]?:=h.2.2.2.1
theorem Wg.beg (h:gB b0.length b0) (hb:b0[b]?=some [v]) (hg:lg q N v):Wg b0 b v [] b0:=⟨(List.getElem?_eq_some_iff.1 hb).1,Nat.le_refl _,by rw [ag2 hg];exact hb,fun _ _ _=>rfl,h⟩
theorem gB.new (h:gB B.length B) (hl:b1.length=B.length+1) (hc:b1[B.length]?=some c) (hr:∀j,j<B.length->b1[j]?=B[j]?) (hi:∀i ∈ AV.aA c,i<B.length+1):gB b1.length b1:=by
 refine .mk fun j d hj hd i hid=>?_;by_cases e:j=B.length
 ·subst e;rw [hc] at hd;cases hd;rw [hl];exact hi i hid
 ·rw [hr j oM] at hd;have:=h.out j d oM hd i hid;omega
theorem gB.put (h:gB B.length B) (hl:b1.length=B.length) (hc:b1[i]?=some c) (hr:∀j,j≠i->b1[j]?=B[j]?) (hi:AV.aA c=[]):gB b1.length b1:=by
 refine .mk fun j d hj hd k hid=>?_;by_cases e:j=i
 ·subst e;rw [hc] at hd;cases hd;rw [hi] at hid;cases hid
 ·rw [hr j e] at hd;rw [hl];exact h.out j d oM hd k hid
theorem Wg.new (h:Wg b0 b v P B) (hl:b1.length=B.length+1) (hc:b1[B.length]?=some c) (hr:∀j,j<B.length->b1[j]?=B[j]?) (hi:AV.aA c=[]):Wg b0 b v P b1:=by obtain ⟨h0,h1,h2,h3,h4⟩:=h;exact ⟨h0,oM,(hr b oM).trans h2,fun j g1 g2=>(hr j oM).trans (h3 j g1 g2),h4.new hl hc hr (fun i hi'=>by rw [hi] at hi';cases hi')⟩
theorem Wg.put (h:Wg b0 b v P B) (hl:b1.length=B.length) (hc:b1[i]?=some c) (hr:∀j,j≠i->b1[j]?=B[j]?) (hi:AV.aA c=[]) (hn:b0.length<=i):Wg b0 b v P b1:=by obtain ⟨h0,h1,h2,h3,h4⟩:=h;exact ⟨h0,oM,(hr b oM).trans h2,fun j g1 g2=>(hr j oM).trans (h3 j g1 g2),h4.put hl hc hr hi⟩
theorem Wg.call (h:Wg b0 b v P B) (hg:lg q N v) (hl:b1.length=B.length) (hc:b1[b]?=some [ad ts (ad P v)]) (hr:∀j,j≠b->b1[j]?=B[j]?):Wg b0 b v (P++ts) b1:=by obtain ⟨h0,h1,h2,h3,h4⟩:=h;rw [anK hg] at hc;exact ⟨h0,oM,hc,fun j g1 g2=>(hr j g2).trans (h3 j g1 g2),h4.put hl hc hr (Y6 hg _)⟩
theorem Wg.to (h:Wg b0 b v P B) {P':List ByteArray} (e:P=P'):Wg b0 b v P' B:=e▸h
theorem Wg.fin {n:Nat} {bx:List (List AV)} (h:Wg b0 b v P B) (hg:lg q N v) (hb:b<n) (hn:n<=b0.length) (hs:∀j,j<n->b0[j]?=bx[j]?) (hcl:gB n bx):gB n B:=by
 obtain ⟨h0,h1,h2,h3,h4⟩:=h;refine .mk fun j d hj hd k hid=>?_;by_cases e:j=b
 ·subst e;rw [h2] at hd;cases hd;rw [Y6 hg] at hid;cases hid
 ·rw [h3 j oM e,hs j hj] at hd;exact hcl.out j d hj hd k hid
def Ob (q:Nat) (k:Int) (tx:ByteArray):List ByteArray:=if q=0 then Qe k tx else []
mutual
def yU (q:Nat):Nd->List ByteArray
 |.mk k _ _ _ _ _ tx kids lead ag h tr=>jE lead++(Ob q k tx++(yE q kids++(jE ag++jE (mQ h tr))))
def yE (q:Nat):List Nd->List ByteArray
 |[]=>[]
 |x::l=>yU q x++yE q l
end
mutual
theorem RH:∀x:Nd,yU 0 x=l9 x
 |.mk k _ _ _ _ _ tx kids lead ag h tr=>by rw [yU,l9,Uu kids];rfl
theorem Uu:∀l:List Nd,yE 0 l=nG l
 |[]=>by rw [yE,nG]
 |x::l=>by rw [yE,nG,RH x,Uu l]
end
theorem CU (q:Nat):∀a b:List Nd,yE q (a++b)=yE q a++yE q b
 |[],b=>by rw [yE];rfl
 |x::a,b=>by rw [List.cons_append,yE,yE,CU q a b,List.append_assoc]
def Ba (l:List ByteArray):Prop:=∀t ∈ l,t.size<=1000000001
theorem dH {a b:List ByteArray}:Ba (a++b)↔Ba a∧Ba b:=by unfold Ba;simp only [List.mem_append];exact ⟨fun h=>⟨fun t ht=>h t (.inl ht),fun t ht=>h t (.inr ht)⟩,fun h t ht=>ht.elim (h.1 t) (h.2 t)⟩
theorem aaE {t:ByteArray} {b:List ByteArray}:Ba (t::b)↔t.size<=1000000001∧Ba b:=by unfold Ba;simp only [List.mem_cons];exact ⟨fun h=>⟨h t (.inl rfl),fun u hu=>h u (.inr hu)⟩,fun h u hu=>hu.elim (fun e=>e▸h.1) (h.2 u)⟩
theorem MR (c:Cm):(nT c).size=1+c.t.size:=by unfold nT;rw [ByteArray.size_append];rfl
theorem zh {b:UInt8} (s:ByteArray):(({data:=#[b]}:ByteArray)++s).size=1+s.size:=by rw [ByteArray.size_append];rfl
theorem P5 (c:Cm) (l:List Cm):jE (c::l)=nT c::jE l:=rfl
theorem jf (l:List Cm):(jE l).length=l.length:=List.length_map _
theorem acb (q:Nat) (k:Int) (tx:ByteArray):(Ob q k tx).length<=1:=by
 unfold Ob Qe;split
 ·split
  ·exact Nat.le_refl _
  ·split
   ·exact Nat.le_refl _
   ·exact Nat.zero_le _
 ·exact Nat.zero_le _
mutual
theorem Yj (q:Nat):∀x:Nd,(yU q x).length<=lW x+jT x
 |.mk k _ _ _ _ _ tx kids lead ag h tr=>by have h1:=Uy q kids;have h2:=acb q k tx;rw [yU,lW,jT];simp only [List.length_append,jf];omega
theorem Uy (q:Nat):∀l:List Nd,(yE q l).length<=fD l+eP l
 |[]=>by rw [yE];exact Nat.zero_le _
 |x::l=>by have h1:=Yj q x;have h2:=Uy q l;rw [yE,fD,eP,List.length_append];omega
end
end V
set_option maxRecDepth 100000
namespace V
open Ab
open Bk (Cm)
def hsh (s:ByteArray):ByteArray:={data:=#[35]}++s
def cNt (q:Nat):az:=fun args bx K=>match args with
 |[.str s,.ptr b 0]=>∃v:AV,(aN bx=true∧bx[b]?=some [v]∧lg q 1 v∧s.size<=1000000000)∧∀bx':List (List AV),bx'.length=bx.length->bx'[b]?=some [ad [hsh s] v]->(∀j,j≠b->bx'[j]?=bx[j]?)->K (.bW []) bx'
 |_=>False
def cLf:az:=fun args bx K=>match args with
 |[.str s,.ptr b 0]=>∃v:AV,(aN bx=true∧bx[b]?=some [v]∧lg 0 1 v)∧∀bx':List (List AV),bx'.length=bx.length->bx'[b]?=some [ad [s] v]->(∀j,j≠b->bx'[j]?=bx[j]?)->K (.bW []) bx'
 |_=>False
def cEm:az:=fun args bx K=>match args,bx with
 |[.str s],[]=>K (.bW []) []
 |_,_=>False
theorem afg:({data:=#[35]}:ByteArray).size=1:=rfl
def aqu:=fN 57 Tryz.f57 8 []
theorem ajp (hB:1000000001<=nM.B):az.OK Tryz.prog 57 (cNt 0):=by
 intro args bx K0 h;unfold cNt at h;split at h
 ·rename_i s b;obtain ⟨v,⟨hw,hb,hv,hs⟩,-⟩:=h;have hb0:=hb;unfold lg at hv;rw [if_neg dE] at hv;obtain ⟨n,l,rfl,hn,hi⟩:=hv;refine aqu.UK rfl hw ?_;have B:=V.base ae.nil;have zE:Ev _ _ _ (au 57) [] []:=⟨B⟩;have hl:bx.length=bx.length:=rfl;have ha:∀j,j≠b->bx[j]?=bx[j]?:=fun _ _=>rfl
  conv=>whnf
  repeat' (first
  |((with_reducible refine (?_:∃c:List AV,_∧_));refine ⟨_,aZ,?_⟩;conv=>whnf)
  |refine nX ?_;conv=>whnf
  |(with_reducible refine (?_:wv _=true->aN _=true->_));intro hwr hwb
  |(with_reducible refine (?_:aN _=true->_));intro hw;conv=>whnf
  |with_reducible assumption
  |((with_reducible refine gZ.mk ?_);intro b1 hl1 hb1 hr1;replace hl:=hl1.trans hl;replace ha:=(fun j hj=>(hr1 j hj).trans (ha j hj));conv=>whnf)
  |((with_reducible refine Or.inr (?_:ByteArray.size _+ByteArray.size _<=_));rw [afg];omega)
  |with_reducible refine And.intro ?_ ?_
  |exact cL
  |(with_reducible intro h);first|(cases h;done)|(try simp only [lG,reduceCtorEq] at h);first|done|(exfalso;omega)|replace h:=h trivial aZ|replace h:=h aZ|skip
  |fail)
  refine af.mk hwr hwb fun K hK=>?_;obtain ⟨v',⟨-,hb',-⟩,hK⟩:=hK;rw [hb0] at hb';cases hb';exact hK _ hl hb1 ha
 ·exact h.elim
def aqv:=fN 55 Tryz.f55 8 []
theorem ajq (hB:1000000001<=nM.B):az.OK Tryz.prog 55 (cNt 1):=by
 intro args bx K0 h;unfold cNt at h;split at h
 ·rename_i s b;obtain ⟨v,⟨hw,hb,hv,hs⟩,-⟩:=h;have hb0:=hb;unfold lg at hv;rw [if_neg dE] at hv;obtain ⟨n,l,rfl,hn,hi⟩:=hv;refine aqv.UK rfl hw ?_;have B:=V.base ae.nil;have zE:Ev _ _ _ (au 55) [] []:=⟨B⟩;have hl:bx.length=bx.length:=rfl;have ha:∀j,j≠b->bx[j]?=bx[j]?:=fun _ _=>rfl
  conv=>whnf
  repeat' (first
  |((with_reducible refine (?_:∃c:List AV,_∧_));refine ⟨_,aZ,?_⟩;conv=>whnf)
  |refine nX ?_;conv=>whnf
  |(with_reducible refine (?_:wv _=true->aN _=true->_));intro hwr hwb
  |(with_reducible refine (?_:aN _=true->_));intro hw;conv=>whnf
  |with_reducible assumption
  |((with_reducible refine gZ.mk ?_);intro b1 hl1 hb1 hr1;replace hl:=hl1.trans hl;replace ha:=(fun j hj=>(hr1 j hj).trans (ha j hj));conv=>whnf)
  |((with_reducible refine Or.inr (?_:ByteArray.size _+ByteArray.size _<=_));rw [afg];omega)
  |with_reducible refine And.intro ?_ ?_
  |exact cL
  |(with_reducible intro h);first|(cases h;done)|(try simp only [lG,reduceCtorEq] at h);first|done|(exfalso;omega)|replace h:=h trivial aZ|replace h:=h aZ|skip
  |fail)
  refine af.mk hwr hwb fun K hK=>?_;obtain ⟨v',⟨-,hb',-⟩,hK⟩:=hK;rw [hb0] at hb';cases hb';exact hK _ hl hb1 ha
 ·exact h.elim
def aqt:=fN 58 Tryz.f58 7 []
theorem aoN:az.OK Tryz.prog 58 cLf:=by
 intro args bx K0 h;unfold cLf at h;split at h
 ·rename_i s b;obtain ⟨v,⟨hw,hb,hv⟩,-⟩:=h;have hb0:=hb;unfold lg at hv;rw [if_neg dE] at hv;obtain ⟨n,l,rfl,hn,hi⟩:=hv;refine aqt.UK rfl hw ?_;have B:=V.base ae.nil;have zE:Ev _ _ _ (au 58) [] []:=⟨B⟩;have hl:bx.length=bx.length:=rfl;have ha:∀j,j≠b->bx[j]?=bx[j]?:=fun _ _=>rfl
  conv=>whnf
  repeat' (first
  |((with_reducible refine (?_:∃c:List AV,_∧_));refine ⟨_,aZ,?_⟩;conv=>whnf)
  |refine nX ?_;conv=>whnf
  |(with_reducible refine (?_:wv _=true->aN _=true->_));intro hwr hwb
  |(with_reducible refine (?_:aN _=true->_));intro hw;conv=>whnf
  |with_reducible assumption
  |((with_reducible refine gZ.mk ?_);intro b1 hl1 hb1 hr1;replace hl:=hl1.trans hl;replace ha:=(fun j hj=>(hr1 j hj).trans (ha j hj));conv=>whnf)
  |((with_reducible refine Or.inr (?_:ByteArray.size _+ByteArray.size _<=_));rw [afg];omega)
  |with_reducible refine And.intro ?_ ?_
  |exact cL
  |(with_reducible intro h);first|(cases h;done)|(try simp only [lG,reduceCtorEq] at h);first|done|(exfalso;omega)|replace h:=h trivial aZ|replace h:=h aZ|skip
  |fail)
  refine af.mk hwr hwb fun K hK=>?_;obtain ⟨v',⟨-,hb',-⟩,hK⟩:=hK;rw [hb0] at hb';cases hb';exact hK _ hl hb1 ha
 ·exact h.elim
def amj:=fN 105 Tryz.f105 3 []
theorem akh (hB:1000000001<=nM.B):az.OK Tryz.prog 105 (cNt 2):=by
 intro args bx K0 h;unfold cNt at h;split at h
 ·rename_i s b;obtain ⟨v,⟨hw,hb,hv,hs⟩,-⟩:=h;have hb0:=hb;unfold lg at hv;rw [if_pos rfl] at hv;obtain ⟨c,rfl⟩:=hv;refine amj.UK rfl hw ?_;have B:=V.base ae.nil;have zE:Ev _ _ _ (au 105) [] []:=⟨B⟩;have hl:bx.length=bx.length:=rfl;have ha:∀j,j≠b->bx[j]?=bx[j]?:=fun _ _=>rfl
  conv=>whnf
  repeat' (first
  |((with_reducible refine (?_:∃c:List AV,_∧_));refine ⟨_,aZ,?_⟩;conv=>whnf)
  |refine nX ?_;conv=>whnf
  |(with_reducible refine (?_:wv _=true->aN _=true->_));intro hwr hwb
  |(with_reducible refine (?_:aN _=true->_));intro hw;conv=>whnf
  |with_reducible assumption
  |((with_reducible refine gZ.mk ?_);intro b1 hl1 hb1 hr1;replace hl:=hl1.trans hl;replace ha:=(fun j hj=>(hr1 j hj).trans (ha j hj));conv=>whnf)
  |with_reducible refine And.intro ?_ ?_
  |exact cL
  |(with_reducible intro h);first|(cases h;done)|(try simp only [lG,reduceCtorEq] at h);first|done|(exfalso;omega)|replace h:=h trivial aZ|replace h:=h aZ|skip
  |fail)
  refine af.mk hwr hwb fun K hK=>?_;obtain ⟨v',⟨-,hb',-⟩,hK⟩:=hK;rw [hb0] at hb';cases hb';exact hK _ hl (by rw [hb1];cases c<;>rfl) ha
 ·exact h.elim
def ZK:=fN 56 Tryz.f56 2 []
theorem aoO:az.OK Tryz.prog 56 cEm:=by
 intro args bx K0 h;unfold cEm at h;split at h
 ·rename_i s;refine Nr tok ZK.at_ ZK.jK ZK.body (args:=[.str s]) (bx:=[]) rfl rfl (G:=fun r b=>∀K,cEm [.str s] [] K->K r b) ?_;rw [ZK.nt,ZK.rs];refine WP.skip ?_
  conv=>whnf
  exact ⟨rfl,fun K hK=>hK⟩
 ·exact h.elim
def Qr:=fN 106 Tryz.f106 2 []
theorem akg:az.OK Tryz.prog 106 cEm:=by
 intro args bx K0 h;unfold cEm at h;split at h
 ·rename_i s;refine Nr tok Qr.at_ Qr.jK Qr.body (args:=[.str s]) (bx:=[]) rfl rfl (G:=fun r b=>∀K,cEm [.str s] [] K->K r b) ?_;rw [Qr.nt,Qr.rs];refine WP.skip ?_
  conv=>whnf
  exact ⟨rfl,fun K hK=>hK⟩
 ·exact h.elim
def Wi (q:Nat) (b:Nat):AV:=.fn (if q=0 then 57 else if q=1 then 55 else 105) [.ptr b 0]
def Yb (q:Nat) (b:Nat):AV:=if q=0 then .fn 58 [.ptr b 0] else if q=1 then .fn 56 [] else .fn 106 []
def c85 (q n:Nat):az:=fun args bx K=>match args with
 |[.agg c0,f1,f2]=>∃x:Nd,c0=bV x∧∃(b:Nat) (v:AV),(f1=Wi q b∧f2=Yb q b)∧(aN bx=true∧gB bx.length bx∧bx[b]?=some [v]∧lg q (yU q x).length v∧Ba (yU 0 x)∧jT x<=n∧jT x<=4000000000∧lW x<=4000000000)∧∀bx':List (List AV),bx'.length=bx.length->bx'[b]?=some [ad (yU q x) v]->(∀j,j≠b->bx'[j]?=bx[j]?)->K (.bW []) bx'
 |_=>False
theorem LW {q b b':Nat} (h:Wi q b=Wi q b'):b=b':=by unfold Wi at h;simpa using h
def art (b0:List (List AV)) (b n:Nat) (v f1 f2:AV) (lead:List Cm) (j:Nat) (τ:aF):Prop:=∃(a r:List Cm) (B:List (List AV)),lead=a++r∧j=r.length∧Wg b0 b v (jE a) B∧τ=⟨[(15,.int .i64 a.length),(14,.int .i64 lead.length),(13,cs lead),(3,.ptr n 0),(2,f2),(1,f1)],B⟩
def ag8 {m q:Nat} (ih:az.OK Tryz.prog 85 (c85 q m)) (b0:List (List AV)) (b n:Nat) (v:AV) (P:List ByteArray) (τ:aF):Prop:=∃B:List (List AV),Wg b0 b v P B∧τ=⟨[(3,.ptr n 0),(2,Yb q b),(1,Wi q b)],B⟩
def ars (g:List Nd->List ByteArray) (b0:List (List AV)) (b n:Nat) (v f1 f2:AV) (P:List ByteArray) (kids:List Nd) (j:Nat) (τ:aF):Prop:=∃(a r:List Nd) (B:List (List AV)),kids=a++r∧j=r.length∧Wg b0 b v (P++g a) B∧τ=⟨[(50,.int .i64 a.length),(49,.int .i64 kids.length),(48,.sl kids.length (aO kids)),(3,.ptr n 0),(2,f2),(1,f1)],B⟩
def arq (b0:List (List AV)) (b n:Nat) (v f1:AV) (P:List ByteArray) (ag:List Cm) (j:Nat) (τ:aF):Prop:=∃(a r:List Cm) (B:List (List AV)),ag=a++r∧j=r.length∧Wg b0 b v (P++jE a) B∧τ=⟨[(62,.int .i64 a.length),(61,.int .i64 ag.length),(60,cs ag),(3,.ptr n 0),(1,f1)],B⟩
theorem MQ (x:Nd) {c:List AV} (h:c=bV x):AV.aA c=[]:=h▸jc (bn (jg x))
theorem gB.ab4 {B b1:List (List AV)} {c:List AV} (x:Nd) (h:gB B.length B) (hl:b1.length=B.length+1) (hc:b1[B.length]?=some c) (he:c=bV x) (hr:∀j,j<B.length->b1[j]?=B[j]?):gB b1.length b1:=h.new hl hc hr (fun i hi=>by rw [MQ x he] at hi;cases hi)
theorem ZW {a post:List Cm} {c:Cm} {n:Nat} (hn:n=a.length):List.drop (n*2) (eU (a++c::post))=[.str c.t,.int .i64 c.b]++eU post:=by subst hn;rw [EW,←jM,List.drop_left];cases c;rfl
theorem ZV {a post:List Nd} {x:Nd} {n:Nat} (hn:n=a.length):List.drop (n*12) (aO (a++x::post))=bV x++aO post:=by subst hn;rw [nV,←eY,List.drop_left,afT]
theorem ntS {c:Cm} (h:(nT c).size<=1000000001):c.t.size<=1000000000:=by rw [MR] at h;omega
theorem aov:({data:=#[42]}:ByteArray).size=1:=rfl
theorem aou:({data:=#[61]}:ByteArray).size=1:=rfl
theorem Na {k:Int} (tx:ByteArray) (h:k=2):Ob 0 k tx=[{data:=#[42]}++tx]:=by subst h;rfl
theorem Nb {k:Int} {tx:ByteArray} (h1:k=1) (h:¬tx={data:=#[]}):Ob 0 k tx=[{data:=#[61]}++tx]:=by subst h1;unfold Ob Qe;rw [if_pos rfl,if_neg dE,if_pos ⟨rfl,h⟩]
theorem aee {k:Int} {tx:ByteArray} (h1:k=1) (h:tx={data:=#[]}):Ob 0 k tx=[]:=by subst h1 h;rfl
theorem aed {k:Int} {tx:ByteArray} (h1:¬k=2) (h2:¬k=1):Ob 0 k tx=[]:=by unfold Ob Qe;rw [if_pos rfl,if_neg h1,if_neg fun h=>h2 h.1]
theorem afZ {k:Int} {tx:ByteArray} (hk:k=2∨k=1∧¬tx={data:=#[]}):(Ob 0 k tx).length=1:=by
 rcases hk with h1|⟨h1,h2⟩
 ·rw [Na tx h1];rfl
 ·rw [Nb h1 h2];rfl
theorem a85 (x:Nd) (q b:Nat):iE [.agg (bV x),Wi q b,Yb q b]=true:=by
 have h1:wv (.agg (bV x))=true:=bZ (jg _);have h2:wv (Wi q b)=true:=rfl;have h3:wv (Yb q b)=true:=by
  unfold Yb;split
  ·rfl
  ·split<;>rfl
 rw [iE,iE,iE,iE,h1,h2,h3];rfl
theorem akt {k:Int} {tx:ByteArray} (h:Ba (Ob 0 k tx)) (hk:k=2∨k=1∧¬tx={data:=#[]}):tx.size<=1000000000:=by
 rcases hk with h1|⟨h1,h2⟩
 ·rw [Na tx h1] at h;have:=h _ (List.mem_singleton.2 rfl);rw [zh] at this;omega
 ·rw [Nb h1 h2] at h;have:=h _ (List.mem_singleton.2 rfl);rw [zh] at this;omega
theorem Du {q:Nat} {k:Int} {tx:ByteArray} (h:¬q=0):Ob q k tx=[]:=by unfold Ob;rw [if_neg h]
def aqa:=fN 85 Tryz.f85 77 []
theorem ajg (hB:1000000001<=nM.B) {m q:Nat} (hq:q=0∨q=1∨q=2) (ih:az.OK Tryz.prog 85 (c85 q m)):az.OK Tryz.prog 85 (c85 q (m+1)):=by
 intro args bx K0 h;unfold c85 at h;split at h
 ·rename_i c0 f1 f2;obtain ⟨x,rfl,b,v,⟨rfl,rfl⟩,⟨hw,hcl,hb,hg,hbd,hm,hz,hc⟩,-⟩:=h;obtain ⟨k,y,p,bb,an,tg,tx,kids,lead,ag,hh,tr⟩:=x;obtain ⟨g,hgE⟩:∃g,g=yE q:=⟨_,rfl⟩;obtain ⟨lf,hlE⟩:∃lf,lf=Ob q k tx:=⟨_,rfl⟩;have hb0:=hb;have hbl:=(List.getElem?_eq_some_iff.1 hb0).1;have hnb:bx.length≠b:=oM;rw [yU] at hg hbd;rw [←hgE,←hlE] at hg;generalize hN:(jE lead++(lf++(g kids++(jE ag++jE (mQ hh tr))))).length=N at hg;simp only [List.length_append,jf] at hN;rw [dH,dH,dH,dH] at hbd;obtain ⟨d1,d2,d3,d4,d5⟩:=hbd;have htx:=fun hk=>akt d2 hk;rw [jT] at hm hz;rw [lW] at hc;have hl2:=IL kids;have hd5:hh=true->tr.size<=1000000000:=fun e=>ntS (c:=⟨tr,0⟩) (d5 _ (by rw [e];simp [mQ,jE]));have ht1:hh=true->(mQ hh tr).length=1:=fun e=>by rw [e];rfl
  have haa:=a85 (.mk k y p bb an tg tx kids lead ag hh tr) q b;unfold bV at haa⊢;simp only [Nd.k,Nd.y,Nd.p,Nd.b,Nd.an,Nd.tg,Nd.tx,Nd.kids,Nd.lead,Nd.ag,Nd.h,Nd.tr] at haa⊢;refine aqa.okD haa hw ?_;have B:=V.base (ae.cons ih (ae.cons (ajp hB) (ae.cons (ajq hB) (ae.cons (akh hB) (ae.cons aoN (ae.cons aoO (ae.cons akg ae.nil)))))));have zE:Ev _ _ _ (au 85) [57,58,55,105,85] []:=⟨B⟩
  conv=>whnf
  repeat (refine nX ?_;conv=>whnf)
  refine wX.mk ?_;intro b0 hl0 hC hr0;have hcl0:=hcl.ab4 (.mk k y p bb an tg tx kids lead ag hh tr) hl0 hC rfl hr0;have hW:Wg b0 b v [] b0:=Wg.beg hcl0 ((hr0 b hbl).trans hb) hg;have hfin:∀{B:List (List AV)} {P:List ByteArray} {b9:List (List AV)},Wg b0 b v P B->P=yU q (.mk k y p bb an tg tx kids lead ag hh tr)->b9.length=bx.length->(∀j,j<bx.length->b9[j]?=B[j]?)->wv (.bW [])=true->aN b9=true->af (c85 q (m+1)) [.agg (bV (.mk k y p bb an tg tx kids lead ag hh tr)),Wi q b,Yb q b] bx (.bW []) b9:=by
   intro B P b9 hW e xR qA hwr hwb;refine af.mk hwr hwb fun K hK=>?_;obtain ⟨x',e1,b',v',⟨e2,-⟩,⟨-,-,hb',-⟩,hK⟩:=hK;have e1:=tN e1;subst e1;obtain rfl:=LW e2;rw [hb0] at hb';cases hb';refine hK _ xR ?_ (fun j hj=>?_)
   ·rw [qA b hbl,hW.at,e]
   ·by_cases hjl:j<bx.length
    ·rw [qA j hjl,hW.same j oM hj,hr0 j hjl]
    ·rw [List.getElem?_eq_none oM,List.getElem?_eq_none oM]
  have hll:(k=2∨k=1∧¬tx={data:=#[]})->q=0->lf.length=1:=fun hk e=>by rw [hlE,e];exact afZ hk
  conv=>whnf
  rcases hq with rfl|rfl|rfl
  all_goals
   repeat' (first
   |((with_reducible refine (?_:WP _ _ _ (.seq (.block 2 _) _) _ _));refine WP.cut (ag8 ih b0 b bx.length v (jE lead++lf)) ?_ (aH.mk ?_))
   |((with_reducible refine (?_:∃c:List AV,_∧_));refine ⟨_,(by first|assumption|exact hW.get hC hnb),?_⟩;(conv=>whnf))
   |refine nX ?_;conv=>whnf
   |(with_reducible refine (?_:wv _=true->aN _=true->_));intro hwr hwb
   |(with_reducible refine (?_:aN _=true->_));intro hw;conv=>whnf
   |with_reducible assumption
   |((with_reducible refine wX.mk ?_);intro b1 hl1 hm1 hr1;have hle:=hW.le;replace hW:=hW.new hl1 hm1 hr1 rfl;(conv=>whnf))
   |((with_reducible refine gZ.mk ?_);intro b2 hl2 hm2 hr2;replace hW:=hW.put hl2 hm2 hr2 (by first|rfl|exact MQ x0 rfl) oM;(conv=>whnf))
   |((with_reducible refine (?_:(_:Nat)<_));(try simp only [lL,eY,jM] at*);omega)
   |((with_reducible refine (?_:∃x r,List.drop _ (eU _)=x++r∧_));refine ⟨[.str c0.t,.int .i64 c0.b],eU post,(by rw [hk];exact ZW oM),rfl,?_⟩)
   |((with_reducible refine (?_:∃x r,List.drop _ (aO _)=x++r∧_));refine ⟨bV x0,aO post,(by rw [hk];exact ZV oM),rfl,?_⟩)
   |((with_reducible refine (?_:∃v:AV,(_∧_∧_∧_)∧_));refine ⟨_,⟨aZ,hW.at,FY hg (by first|((try simp only [lL,jf]);omega)|(have:=ht1 aZ;((try simp only [lL,jf]);omega))),(by first|exact hx0|exact hd5 aZ)⟩,?_⟩;intro b3 hl3 hm3 hr3;replace hW:=hW.call hg hl3 hm3 hr3;(conv=>whnf))
   |((with_reducible refine (?_:∃v:AV,(_∧_∧_)∧_));refine ⟨_,⟨aZ,hW.at,FY hg (by first|(have:=hll (.inl aZ) rfl;((try simp only [lL,jf]);omega))|(have:=hll (.inr ⟨aZ,aZ⟩) rfl;((try simp only [lL,jf]);omega)))⟩,?_⟩;intro b3 hl3 hm3 hr3;replace hW:=hW.call hg hl3 hm3 hr3;(conv=>whnf))
   |((with_reducible refine Or.inr (?_:ByteArray.size _+ByteArray.size _<=_));first|(rw [aov];have:=htx (.inl aZ);omega)|(rw [aou];have:=htx (.inr ⟨aZ,aZ⟩);omega))
   |((with_reducible refine (?_:∃x:Nd,_=bV x∧_));refine ⟨x0,rfl,b,_,⟨rfl,rfl⟩,⟨aZ,hW.cl,hW.at,FY hg (by ((try simp only [lL,jf]);omega)),hx1,oM,oM,oM⟩,?_⟩;intro b3 hl3 hm3 hr3;replace hW:=hW.call hg hl3 hm3 hr3;(conv=>whnf))
   |((with_reducible refine (?_:WP _ _ _ (.loop _) ⟨(15,_)::_,_⟩ _));refine WP.loop (art b0 b bx.length v _ _ lead) ⟨[],lead,_,rfl,rfl,hW,rfl⟩ ?_;clear hW;(rintro j τ ⟨a,r,B1,hk,rfl,hW,rfl⟩);have e1:=congrArg List.length hk;rw [List.length_append] at e1;rcases r with _|⟨c0,post⟩;all_goals (first|((rw [List.length_nil] at e1;rw [List.append_nil] at hk;subst hk))|((rw [List.length_cons] at e1);have hx0:=ntS (d1 _ (show nT c0 ∈ jE lead by rw [hk,kM];simp [jE])))))
   |((with_reducible refine (?_:WP _ _ _ (.loop _) ⟨(50,_)::_,_⟩ _));refine WP.loop (ars g b0 b bx.length v _ _ _ kids) ⟨[],kids,_,rfl,rfl,hW.to (by rw [hgE,yE,List.append_nil]),rfl⟩ ?_;clear hW;(rintro j τ ⟨a,r,B1,hk,rfl,hW,rfl⟩);have e1:=congrArg List.length hk;rw [List.length_append] at e1;rcases r with _|⟨x0,post⟩;all_goals (first|((rw [List.length_nil] at e1;rw [List.append_nil] at hk;subst hk))|((rw [List.length_cons] at e1);have e2:=congrArg fD hk;have e3:=congrArg eP hk;have e4:=congrArg List.length (congrArg g hk);rw [uK,fD] at e2;rw [uF,eP] at e3;rw [hgE,CU,yE,List.length_append,List.length_append,←hgE] at e4;have hx1:Ba (yU 0 x0):=(by rw [hk,CU,yE,dH,dH] at d3;exact d3.2.1))))
   |((with_reducible refine (?_:WP _ _ _ (.loop _) ⟨(62,_)::_,_⟩ _));refine WP.loop (arq b0 b bx.length v _ _ ag) ⟨[],ag,_,rfl,rfl,hW.to (List.append_nil _).symm,rfl⟩ ?_;clear hW;(rintro j τ ⟨a,r,B1,hk,rfl,hW,rfl⟩);have e1:=congrArg List.length hk;rw [List.length_append] at e1;rcases r with _|⟨c0,post⟩;all_goals (first|((rw [List.length_nil] at e1;rw [List.append_nil] at hk;subst hk))|((rw [List.length_cons] at e1);have hx0:=ntS (d4 _ (show nT c0 ∈ jE ag by rw [hk,kM];simp [jE])))))
   |((with_reducible refine (?_:∃(j:Nat) (τ':aF),j<_∧Rx _ _ τ'∧_));refine ⟨post.length,_,by simp,Rx.refl,a++[c0],post,_,by rw [hk];simp,rfl,hW.to (by simp [jE,nT,hsh]),by rw [List.length_append];rfl⟩)
   |((with_reducible refine (?_:∃(j:Nat) (τ':aF),j<_∧Rx _ _ τ'∧_));refine ⟨post.length,_,by simp,Rx.refl,a++[x0],post,_,by rw [hk];simp,rfl,hW.to (by rw [hgE,CU,yE,yE,List.append_nil,List.append_assoc]),by rw [List.length_append];rfl⟩)
   |((with_reducible refine (?_:∃τ':aF,Rx _ _ τ'∧ag8 _ _ _ _ _ _ τ'));first|exact ⟨_,Rx.refl,_,hW.to (by rw [hlE];first|exact congrArg _ (Na _ aZ).symm|exact congrArg _ (Nb aZ aZ).symm|rw [aee aZ aZ,List.append_nil]|rw [aed aZ aZ,List.append_nil]|rw [Du dE,List.append_nil]),rfl⟩|exact ⟨_,Rx.prune [1,2,3],_,hW.to (by rw [hlE];first|exact congrArg _ (Na _ aZ).symm|exact congrArg _ (Nb aZ aZ).symm|rw [aee aZ aZ,List.append_nil]|rw [aed aZ aZ,List.append_nil]|rw [Du dE,List.append_nil]),rfl⟩)
   |((with_reducible refine (?_:∀τ:aF,ag8 _ _ _ _ _ _ τ->_));clear hW;rintro τ ⟨B1,hW,rfl⟩)
   |((with_reducible refine (?_:_∧gB _ _∧_));refine ⟨Nat.le_trans (by omega:bx.length<=b0.length) hW.le,hW.fin hg hbl oM hr0 hcl,uV.pure rfl,?_⟩;intro b9 xR qA;(conv=>whnf);intro hwr hwb;exact hfin hW (by subst hgE hlE;rw [yU,h];simp [mQ,jE,nT,hsh]) xR qA hwr hwb)
   |with_reducible refine And.intro ?_ ?_
   |exact cL
   |(with_reducible intro h);first|(cases h;done)|(try simp only [lG,reduceCtorEq] at h);first|done|(exfalso;omega)|replace h:=h trivial aZ|replace h:=h aZ|skip
   |fail)
   all_goals done
 ·exact h.elim
theorem afJ (hB:1000000001<=nM.B) {q:Nat} (hq:q=0∨q=1∨q=2):∀m:Nat,az.OK Tryz.prog 85 (c85 q m)
 |0=>by
  intro args bx K0 h;unfold c85 at h;split at h
  ·obtain ⟨x,-,b,v,-,⟨-,-,-,-,-,h1,-⟩,-⟩:=h;cases x;rw [jT] at h1;omega
  ·exact h.elim
 |m+1=>ajg hB hq (afJ hB hq m)
end V
end
section
variable [nM]
namespace V
open Ab
variable {P : Program} {T : kZ} {sp : Sp} {n0 base : Nat} {σ : aF} {cal : BR} {m : Nat -> Prop} {lim : Nat -> Nat} {bs : List Nat} {w : World} {a : Act} {o : Oper} {K : Act -> World -> Prop} {Q : Exit -> Act -> World -> Prop}
theorem SC (H:aB lim bs w σ.bx (Sl σ.tm a) m) (hd:∀k,o.dst=some k->k<a.tmps.size) {t:Nat} {x:Operand} {i o':Nat} {c:List AV} {v:AV} {ud:TypeDesc} (ho:o.op=.load t x) (hu:P.underlying t=some ud) (hr:ud.isRow=false) (hx:AV.R lim bs w (.ptr i o') (a.eval x)) (hc:σ.bx[i]?=some c) (hv:c[o']?=some v) (hK:yA m lim bs w a ⟨eG σ.tm o.dst v.cO,σ.bx⟩ K):o.wp P a w K Q:=by
 rw [AV.R] at hx;obtain ⟨b,hb,hx⟩:=hx;obtain ⟨C,tl,tt,h1,h2,h3⟩:=H.box i b c hb hc;have hcell:∀(j:Nat) (v:Value),C[j]?=some v->w.cell? ⟨b,j,none⟩=some v:=fun j v hv=>dV h1 hv;obtain ⟨u,e1,e2⟩:=mO h2 hv;have hvt:v.top=true:=by rw [List.all_eq_true] at h3;exact h3 v (List.mem_of_getElem? hv)
 have hrun:(execOp a.eval o).run P w=.ok (.value u) w:=by unfold execOp;simp only [ho,hx];rw [Sem.run_bind,tJ hu hr (hcell o' u e1)];rfl
 refine jq hrun (hK lim bs w _ ⟨?_,Fr.refl,fun _ _ h=>h,bY _ _ _,put_defers _ _ _⟩);show aB lim bs w σ.bx (Sl (eG σ.tm o.dst v.cO) (a.put o.dst u)) m;rw [jh hd];exact H.eG e2.cO (by rw [AV.top,AV.R.qc hvt e2];simp) (fun k g _ hh=>by rw [xW] at hh;cases hh)
def aeX (ty:Nat) (sp:Sp) (al:List Nat) (T:kZ) (md:Md) (all:List Oper) (kn:Kn) (o:Oper) (σ:aF) (K:Kn->aF->Prop):Prop:=
 match o.op with
 |.load t x=>
  match Nat.beq t ty with
  |true=>∃(i k:Nat) (c:List AV) (v:AV),o.guard=none∧val σ.tm x=.ptr i k∧σ.bx[i]?=some c∧c[k]?=some v∧wv v=true∧y7 σ.tm o.dst v.cO fun tm=>K [] ⟨tm,σ.bx⟩
  |false=>VU sp al T md all kn o σ K
 |_=>VU sp al T md all kn o σ K
theorem aa6 {ty:Nat} {ud:TypeDesc} (hu:P.underlying ty=some ud) (hr:ud.isRow=false) (HT:mM P T) (HC:fB P cal) (hS:ae P sp) (hI:Is sp cal) (hT:sW T) {al:List Nat} {md:Md} {all:List Oper} {kn:Kn} {o:Oper} {K:Kn->aF->Prop} (hσ:Ok σ) (hk:KN kn σ) (h:aeX ty sp al T md all kn o σ K):
  ∃τ zx,Ok τ∧KN zx τ∧K zx τ∧∀{m:Nat->Prop} {lim:Nat->Nat} {bs:List Nat} {w:World} {a:Act} {Kc:Act->World->Prop} {Q:Exit->Act->World->Prop} {ops:Array Oper},ops.toList=all->(∀k,o.dst=some k->k<a.tmps.size)->aB lim bs w σ.bx (Sl σ.tm a) m->(∀b,w.heap.size<=b->m b)->kJ md.base m lim bs w a τ Kc->if Region.wanted o (yielded ops a.tmps)=true then o.wp P a w Kc Q else Kc (a.put o.dst undef) w:=by
 unfold aeX at h;split at h
 ·rename_i t x hop;split at h
  ·rename_i he;obtain rfl:=Nat.eq_of_beq_eq_true he;obtain ⟨i,k,c,v,hg,hx,hc,hv,hw,h⟩:=h;rw [pK] at h;refine ⟨⟨eG σ.tm o.dst v.cO,σ.bx⟩,[],⟨rq (ny hw) hσ.tm,hσ.bx⟩,KN.nil _,h,fun {m lim bs w a Kc Q ops} he hd H hm hK=>?_⟩;rw [if_pos (by simp [Region.wanted,hg])];have hxr:=(pg H x).1.r;rw [hx] at hxr;exact SC H hd hop hu hr hxr hc hv (fun eQ mY w1 a2 hgo=>hK _ _ _ _ hgo.B)
  ·exact Gv HT HC hS hI hT hσ hk h
 ·exact Gv HT HC hS hI hT hσ hk h
def aeW (ty:Nat) (sp:Sp) (al:List Nat) (T:kZ) (md:Md) (all:List Oper):List Oper->Kn->aF->(aF->Prop)->Prop
 |[],_,σ,K=>K σ
 |o::r,kn,σ,K=>aeX ty sp al T md all kn o σ fun kn τ=>aeW ty sp al T md all r kn τ K
theorem TU {ty:Nat} {ud:TypeDesc} (hu:P.underlying ty=some ud) (hr:ud.isRow=false) (HT:mM P T) (HC:fB P cal) (hS:ae P sp) (hI:Is sp cal) (hT:sW T) {al:List Nat} {ops:Array Oper} {md:Md} {K:aF->Prop}:∀(l:List Oper) {kn:Kn} {σ:aF},Ok σ->KN kn σ->aeW ty sp al T md ops.toList l kn σ K->∃τ,Ok τ∧K τ∧∀{m:Nat->Prop} {lim:Nat->Nat} {bs:List Nat} {w:World} {a:Act} {Q:Exit->Act->World->Prop},(∀o ∈ l,∀k,o.dst=some k->k<a.tmps.size)->aB lim bs w σ.bx (Sl σ.tm a) m->(∀b,w.heap.size<=b->m b)->kJ md.base m lim bs w a τ (Q .normal)->wpList P ops Q l a w
 |[],kn,σ,hσ,hk,h=>⟨σ,hσ,h,fun hd H hm hK=>wpList_nil (hK _ _ _ _ ⟨H,Fr.refl,fun _ _ _ h=>h,rfl,rfl⟩)⟩
 |o::l,kn,σ,hσ,hk,h=>by obtain ⟨σ2,zx,h2,h4,h5,h6⟩:=aa6 (cal:=cal) hu hr HT HC hS hI hT hσ hk h;obtain ⟨τ,g1,g2,g3⟩:=TU hu hr HT HC hS hI hT l h2 h4 h5;refine ⟨τ,g1,g2,fun hd H hm hK=>wpList_step fun K' hK'=>?_⟩;refine h6 rfl (fun k hk=>hd o List.mem_cons_self k hk) H hm (fun eQ mY w1 a2 hg=>hK' a2 w1 ?_);exact g3 (fun o ho k hk=>by rw [hg.nt];exact hd o (List.mem_cons_of_mem _ ho) k hk) hg.hold (fun b hb=>hm b (Nat.le_trans hg.fr.bel.size hb)) (fun jB wR w2 a3 hg2=>hK jB wR w2 a3 (hg.trans hg2))
theorem WP.aiS {Q:zV->aF->Prop} {ty:Nat} {ud:TypeDesc} (hu:P.underlying ty=some ud) (hr:ud.isRow=false) (B:Em P T sp) (an:Gm) (al:List Nat) {i:Nat} {ops:Array Oper} (h:opK ops.toList fun all=>AY (qU all++an.adl) fun ad=>AY an.arr fun arr=>AY (an.live.getD i []) fun live=>aeW ty sp al T ⟨ad,arr,base⟩ all all [] σ (Qu live Q)):WP P n0 base (.region i ops false) σ Q:=by refine WP.mk fun hg hσ=>?_;obtain ⟨cal,HC,hI⟩:=qM B.sp;rw [EE,kP,kP,kP] at h;obtain ⟨τ,g1,g2,g3⟩:=TU hu hr B.tok HC B.sp hI B.well ops.toList hσ (KN.nil σ) h;change (JG (an.live.getD i []) τ.tm fun tm=>Q .normal ⟨tm,τ.bx⟩) at g2;rw [xI] at g2;refine ⟨.normal,⟨prune (an.live.getD i []) τ.tm,τ.bx⟩,fun hn hb H hm hK=>?_,⟨iZ _ g1.tm,g1.bx⟩,g2⟩;exact wp_region_list (g3 (rU hg hn) H hm fun lim' bs' w' a' hgo=>hK lim' bs' w' a' ⟨hgo.hold.prune _,hgo.fr,hgo.pre,hgo.nt,hgo.df⟩)
end V
set_option maxRecDepth 100000
namespace V
open Ab
open Bk (Cm)
def c84 (q:Nat):az:=fun args bx K=>match args with
 |[.sl n l,.ptr c 0]=>∃(L:List Cm) (b:Nat) (v:AV),((n=L.length∧l=eU L)∧c≠b∧bx[c]?=some [Wi q b])∧(aN bx=true∧gB bx.length bx∧bx[b]?=some [v]∧lg q L.length v∧Ba (jE L)∧L.length<=4000000000)∧∀bx':List (List AV),bx'.length=bx.length->bx'[b]?=some [ad (jE L) v]->(∀j,j≠b->bx'[j]?=bx[j]?)->K (.bW []) bx'
 |_=>False
def I84 (b0:List (List AV)) (b c:Nat) (v:AV) (L:List Cm) (j:Nat) (τ:aF):Prop:=∃(a r:List Cm) (B:List (List AV)),L=a++r∧j=r.length∧Wg b0 b v (jE a) B∧τ=⟨[(7,.int .i64 a.length),(6,.int .i64 L.length),(5,cs L),(1,.ptr c 0)],B⟩
def aqb:=fN 84 Tryz.f84 16 []
theorem aoo {c:Nat} {l:List Cm}:iE [.sl l.length (eU l),.ptr c 0]=true:=by rw [iE,iE,iE];simp [wv,ay]
theorem aoE (hB:1000000001<=nM.B) {q:Nat} (hq:q=0∨q=1):az.OK Tryz.prog 84 (c84 q):=by
 intro args bx K0 h;unfold c84 at h;split at h
 ·rename_i n l c;obtain ⟨L,b,v,⟨⟨rfl,rfl⟩,hcb,hC⟩,⟨hw,hcl,hb,hg,hbd,hn⟩,-⟩:=h;have hbl:=(List.getElem?_eq_some_iff.1 hb).1;refine aqb.okD aoo hw ?_;have B:=V.base (ae.cons (ajp hB) (ae.cons (ajq hB) ae.nil));have zE:Ev _ _ _ (au 84) [57,55] []:=⟨B⟩;have hW:Wg bx b v [] bx:=Wg.beg hcl hb hg;have hfin:∀{B:List (List AV)} {b9:List (List AV)},Wg bx b v (jE L) B->b9.length=bx.length->(∀j,j<bx.length->b9[j]?=B[j]?)->wv (.bW [])=true->aN b9=true->af (c84 q) [.sl L.length (eU L),.ptr c 0] bx (.bW []) b9:=by
   intro B b9 hW xR qA hwr hwb;refine af.mk hwr hwb fun K hK=>?_;obtain ⟨L',b',v',⟨⟨-,e1⟩,-,hC'⟩,⟨-,-,hb',-⟩,hK⟩:=hK;obtain rfl:=qg e1;rw [hC] at hC';obtain rfl:=LW (List.cons.inj (Option.some.inj hC')).1;rw [hb] at hb';cases hb';refine hK _ xR ?_ (fun j hj=>?_)
   ·rw [qA b hbl,hW.at]
   ·by_cases hjl:j<bx.length
    ·rw [qA j hjl,hW.same j hjl hj]
    ·rw [List.getElem?_eq_none oM,List.getElem?_eq_none oM]
  rcases hq with rfl|rfl
  all_goals
   conv=>whnf
   repeat' (first
   |((with_reducible refine (?_:∃(i k:Nat) (c:List AV) (v:AV),_));refine ⟨_,_,_,_,rfl,rfl,hW.get hC hcb,rfl,rfl,?_⟩;(conv=>whnf))
   |((with_reducible refine (?_:WP _ _ _ (.region 3 _ _) _ _));refine WP.aiS (ty:=94) (ud:=_) rfl rfl B (au 84) [57,55] ?_;(conv=>whnf))
   |((with_reducible refine (?_:∃c:List AV,_∧_));refine ⟨_,(by first|assumption|exact hW.get hC hcb),?_⟩;(conv=>whnf))
   |refine nX ?_;conv=>whnf
   |(with_reducible refine (?_:wv _=true->aN _=true->_));intro hwr hwb
   |(with_reducible refine (?_:aN _=true->_));intro hw;conv=>whnf
   |with_reducible assumption
   |((with_reducible refine wX.mk ?_);intro b1 hl1 hm1 hr1;have hle:=hW.le;replace hW:=hW.new hl1 hm1 hr1 rfl;(conv=>whnf))
   |((with_reducible refine gZ.mk ?_);intro b2 hl2 hm2 hr2;replace hW:=hW.put hl2 hm2 hr2 rfl oM;(conv=>whnf))
   |((with_reducible refine (?_:(_:Nat)<_));(try simp only [lL,eY,jM] at*);omega)
   |((with_reducible refine (?_:∃x r,List.drop _ (eU _)=x++r∧_));refine ⟨[.str c0.t,.int .i64 c0.b],eU post,(by rw [hk];exact ZW oM),rfl,?_⟩)
   |((with_reducible refine (?_:∃v:AV,(_∧_∧_∧_)∧_));refine ⟨_,⟨aZ,hW.at,FY hg (by ((try simp only [lL,jf]);omega)),hx0⟩,?_⟩;intro b3 hl3 hm3 hr3;replace hW:=hW.call hg hl3 hm3 hr3;(conv=>whnf))
   |((with_reducible refine (?_:WP _ _ _ (.loop _) _ _));refine WP.loop (I84 bx b c v L) ⟨[],L,_,rfl,rfl,hW,rfl⟩ ?_;clear hW;(rintro j τ ⟨a,r,B1,hk,rfl,hW,rfl⟩);have e1:=congrArg List.length hk;rw [List.length_append] at e1;rcases r with _|⟨c0,post⟩;all_goals (first|((rw [List.length_nil] at e1;rw [List.append_nil] at hk;subst hk))|((rw [List.length_cons] at e1);have hx0:=ntS (hbd _ (show nT c0 ∈ jE L by rw [hk,kM];simp [jE])))))
   |((with_reducible refine (?_:∃(j:Nat) (τ':aF),j<_∧Rx _ _ τ'∧_));refine ⟨post.length,_,by simp,Rx.refl,a++[c0],post,_,by rw [hk];simp,rfl,hW.to (by simp [jE,nT,hsh]),by rw [List.length_append];rfl⟩)
   |((with_reducible refine (?_:_∧gB _ _∧_));refine ⟨hW.le,hW.fin hg hbl (Nat.le_refl _) (fun _ _=>rfl) hcl,uV.pure rfl,?_⟩;intro b9 xR qA;(conv=>whnf);intro hwr hwb;exact hfin hW xR qA hwr hwb)
   |with_reducible refine And.intro ?_ ?_
   |exact cL
   |(with_reducible intro h);first|(cases h;done)|(try simp only [lG,reduceCtorEq] at h);first|done|(exfalso;omega)|replace h:=h trivial aZ|replace h:=h aZ|skip
   |fail)
   all_goals done
 ·exact h.elim
theorem O6 (blk:Bool) (x:Nd):∀(c:List Cm) (a:List Nd),iG blk c (a++[x])=((iG blk c a).1++[(bJ blk (iG blk c a).2 [] x).1],(bJ blk (iG blk c a).2 [] x).2)
 |c,[]=>by rw [List.nil_append,iG,iG,iG];rfl
 |c,z::a=>by rw [List.cons_append,iG,iG,O6 blk x _ a];rfl
theorem P8 (blk:Bool) (x v:Nd):∀(c:List Cm) (a:List Nd),a.length % 2=0->iU blk c (a++[x,v])=((iU blk c a).1++[(aX x).1.ld ((iU blk c a).2++x.lead),(lV (bJ blk (aX x).2 [] v).1 (bJ blk (aX x).2 [] v).2).1],(lV (bJ blk (aX x).2 [] v).1 (bJ blk (aX x).2 [] v).2).2)
 |c,[],_=>by rw [List.nil_append,iU,iU,iU];rfl
 |c,[z],h=>by simp at h
 |c,z::u::a,h=>by rw [List.cons_append,List.cons_append,iU,iU,P8 blk x v _ a (by simp only [List.length_cons] at h;omega)];rfl
theorem Nv:∀a b:List Nd,Oe (a++b)=(Oe a && Oe b)
 |[],b=>by rw [List.nil_append,Oe];rfl
 |x::a,b=>by rw [List.cons_append,Oe,Oe,Nv a b,Bool.and_assoc]
def c79:az:=fun args bx K=>match args,bx with
 |[.int .i64 n],[]=>n<=1000∧∀t:ByteArray,(t.size:Int)<=max n 0->K (.str t) []
 |_,_=>False
def BKL (n:Int) (j:Nat) (τ:aF):Prop:=∃(i:Int) (t:ByteArray),(0<=i∧(i<=n∨i=0))∧(t.size:Int)<=i∧j=(n-i).toNat∧τ=⟨[(4,.int .i64 i),(3,.str t),(0,.int .i64 n)],[]⟩
def aqg:=fN 79 Tryz.f79 13 [.tmp 2]
theorem ahO.xt {p:Prop} (g:p:=by ((first|((with_reducible refine Or.inl (?_:ByteArray.size _+ByteArray.size _<=_));omega)|((with_reducible refine (?_:∃(j:Nat) (τ':aF),j<_∧Rx 0 _ τ'∧_));(refine ⟨_,_,?_,Rx.refl,i+1,_,⟨oM,.inl oM⟩,(by rw [Bk.aT];omega),rfl,rfl⟩);omega)|((with_reducible refine (?_:af _ _ _ _ _));first|exact af.aW kV kV o9 o9 fun K hK=>hK.2 _ oM)|fail);(repeat' (first|exact dw|fail));first|done|fail)):p:=g
theorem aoI:az.OK Tryz.prog 79 c79:=by
 intro args bx K0 h;unfold c79 at h;split at h
 ·rename_i n;obtain ⟨h0,-⟩:=h;refine aqg.okW (base:=0) rfl o9 o9 ?_;have B:=V.base ae.nil
  conv=>whnf
  repeat' (first
  |with_reducible refine WP.seq ?_
  |(with_reducible first|refine Go.mk ?_|refine WP.qy B (au 79) ?_|refine WP.draw B (au 79) ?_|refine WP.cond ?_|refine WP.exit ?_|refine WP.skip ?_|refine WP.ret ?_);conv=>whnf
  |with_reducible refine WP.block ?_
  |with_reducible assumption
  |with_reducible refine And.intro ?_ ?_
  |exact cL
  |(with_reducible intro h);first|(cases h;done)|(try simp only [lG,reduceCtorEq] at h);first|done|(exfalso;omega)|replace h:=h trivial aZ|replace h:=h aZ|skip
  |fail)
  refine WP.loop (BKL n) ⟨0,_,⟨oM,.inr rfl⟩,(by show ((0:Nat):Int)<=0;omega),rfl,rfl⟩ ?_;rintro j τ ⟨i,t,⟨g1,g2⟩,g3,rfl,rfl⟩;have e1:({data:=#[32]}:ByteArray).size=1:=rfl;let zA:=(au 79)
  open ahO in exact dw
 ·exact h.elim
def Oi (n:Nat) (l:List AV) (ts:List ByteArray):Prop:=n=ts.length∧l=bM ts
theorem Oi.nil:Oi 0 [] []:=⟨rfl,rfl⟩
theorem Oi.cons {n:Nat} {l:List AV} {ts:List ByteArray} {t:ByteArray} (h:Oi n l ts):Oi (n+1) (.str t::l) (t::ts):=⟨by rw [h.1,List.length_cons],by rw [h.2,bM,bM,List.map_cons]⟩
def jY:List ByteArray->Nat
 |[]=>0
 |t::ts=>t.size+jY ts
def c47:az:=fun args bx K=>match args,bx with
 |[.ptr 0 0,.sl n l],[[.sl nk lk,.int .i64 a,.str out,.int .i64 left,.int .i64 name]]=>∃ts:List ByteArray,Oi n l ts∧(∃ks:List Int,(nk=ks.length∧lk=kT ks)∧(jY ts<=1000000∧out.size<=1000000∧ts.length<=1000)∧∀out':ByteArray,out'.size=out.size+jY ts->K (.bW []) [mB ks a out' left name])
 |_,_=>False
theorem J4 {ts:List ByteArray} {i:Nat} (h:i<ts.length):jY (ts.take (i+1))=jY (ts.take i)+(Bk.rowAt ts i).size:=by
 induction ts generalizing i with
 |nil=>simp at h
 |cons t ts ih=>
  cases i with
  |zero=>
   show t.size+jY (ts.take 0)=0+t.size;rw [List.take_zero];show t.size+0=_;omega
  |succ i=>
   have:=ih (i:=i) (by simpa using h);have e:Bk.rowAt (t::ts) (i+1)=Bk.rowAt ts i:=by unfold Bk.rowAt;simp
   rw [e,List.take_succ_cons,List.take_succ_cons,jY,jY,this];omega
theorem Uo {ts:List ByteArray} (i:Nat):jY (ts.take i)<=jY ts:=by
 induction ts generalizing i with
 |nil=>rw [List.take_nil];exact Nat.le_refl _
 |cons t ts ih=>
  cases i with
  |zero=>exact Nat.zero_le _
  |succ i=>have:=ih i;rw [List.take_succ_cons,jY,jY];omega
theorem exS {n:Nat} {l:List AV} {ts:List ByteArray} {Q:List ByteArray->Prop} (hs:Oi n l ts) (h:∃us,Oi n l us∧Q us):Q ts:=by
 obtain ⟨us,h1,h2⟩:=h;have e:bM us=bM ts:=by rw [←h1.2,←hs.2]
 have:us=ts:=by
  have inj:∀{a b:List ByteArray},bM a=bM b->a=b:=by
   intro a
   induction a with
   |nil=>intro b h;cases b with|nil=>rfl|cons x y=>simp [bM] at h
   |cons x y ih=>
    intro b h;cases b with
    |nil=>simp [bM] at h
    |cons u v=>
     rw [bM,bM,List.map_cons,List.map_cons] at h;simp only [List.cons.injEq,AV.str.injEq] at h;rw [h.1,ih h.2]
  exact inj e
 rw [this] at h2;exact h2
def PL (ks:List Int) (ts:List ByteArray) (a:Int) (out:ByteArray) (left name:Int) (j:Nat) (τ:aF):Prop:=∃(i:Int) (o:ByteArray),(0<=i∧i<=ts.length)∧o.size=out.size+jY (ts.take i.toNat)∧j=((ts.length:Int)-i).toNat∧τ=⟨[(4,.int .i64 i),(1,.sl ts.length (bM ts)),(0,.ptr 0 0)],[mB ks a o left name]⟩
theorem Yw {ts:List ByteArray} {i:Int} {o out:ByteArray} (h0:0<=i) (h:i<ts.length) (ho:o.size=out.size+jY (ts.take i.toNat)):(o++Bk.rowAt ts i.toNat).size=out.size+jY (ts.take (i+1).toNat):=by rw [show (i+1).toNat=i.toNat+1 by omega,J4 oM,Bk.aT];omega
theorem abG {ts:List ByteArray} {i:Nat} (h:i<ts.length):(Bk.rowAt ts i).size<=jY ts:=by have h1:=J4 h;have h2:=Uo (ts:=ts) (i+1);omega
def aqB:=fN 47 Tryz.f47 23 []
theorem ahN.xt {p:Prop} (g:p:=by ((first|exact ve|exact lZ|((with_reducible refine Or.inl (?_:ByteArray.size _+ByteArray.size _<=_));have:=abG (ts:=ts) (i:=i.toNat) oM;omega)|((with_reducible refine (?_:∃(j:Nat) (τ':aF),j<_∧Rx 1 _ τ'∧_));(refine ⟨_,_,?_,Rx.refl,i+1,_,⟨oM,oM⟩,Yw g1 oM g3,rfl,rfl⟩);omega)|((with_reducible refine (?_:af _ _ _ _ _));first|exact af.aW kV kV o9 o9 fun K hK=>(exI (exS ⟨rfl,rfl⟩ hK)).2 _ (by first|exact g3|(rw [g3,show i.toNat=ts.length by omega,List.take_length])))|fail);(repeat' (first|exact dw|fail));first|done|fail)):p:=g
theorem IG:az.OK Tryz.prog 47 c47:=by
 intro args bx K0 h;unfold c47 at h;split at h
 ·rename_i n l nk lk a out left name;obtain ⟨ts,⟨rfl,rfl⟩,ks,⟨rfl,rfl⟩,⟨h1,h2,h3⟩,-⟩:=h;refine aqB.okW (base:=1) rfl o9 o9 ?_;have B:=V.base ae.nil
  conv=>whnf
  repeat' (first
  |with_reducible refine WP.seq ?_
  |(with_reducible first|refine Go.mk ?_|refine WP.qy B (au 47) ?_|refine WP.draw B (au 47) ?_|refine WP.cond ?_|refine WP.exit ?_|refine WP.skip ?_|refine WP.ret ?_);conv=>whnf
  |with_reducible refine WP.block ?_
  |with_reducible assumption
  |with_reducible refine And.intro ?_ ?_
  |exact cL
  |(with_reducible intro h);first|(cases h;done)|(try simp only [lG,reduceCtorEq] at h);first|done|(exfalso;omega)|replace h:=h trivial aZ|replace h:=h aZ|skip
  |fail)
  refine WP.loop (PL ks ts a out left name) ⟨0,out,⟨oM,oM⟩,rfl,rfl,rfl⟩ ?_;rintro j τ ⟨i,o,⟨g1,g2⟩,g3,rfl,rfl⟩;have g4:=Uo (ts:=ts) i.toNat;let zA:=(au 47)
  open ahN in exact dw
 ·exact h.elim
theorem az.OK.mono {P:Program} {f:Nat} {c c':az} (h:az.OK P f c) (hm:∀args bx K,c' args bx K->c args bx K):az.OK P f c':=fun args bx K0 h0=>by obtain ⟨r,bx',h1,h2,h3,h4⟩:=h args bx K0 (hm _ _ _ h0);exact ⟨r,bx',h1,h2,h3,fun K hK=>h4 K (hm _ _ _ hK)⟩
def amJ:az:=fun args bx K=>match args,bx with
 |[.ptr 0 0,.int .i64 n],[[.sl nk lk,.int .i64 a,.str out,.int .i64 left,.int .i64 name]]=>∃ks:List Int,(nk=ks.length∧lk=kT ks)∧(1<=n∧n<=1000∧0<=a∧a<=ks.length∧ks.length<=100)∧(∀r a':Int,(a<=a'∧a'<=a+1∧a'<=ks.length∧0<=r∧r<n∧r<=(n-1)*(a'-a)∧(ks.length:Int)-a<=100*(a'-a))->K (.int .i64 r) [mB ks a' out left name])
 |_,_=>False
theorem yh:az.OK Tryz.prog 46 amJ:=by
 refine aoS.mono fun args bx K h=>?_;unfold amJ at h;unfold c46;split at h
 ·obtain ⟨ks,hk,⟨h1,h2,h3,h4,h5⟩,h6⟩:=h;rename_i n nk lk a out left name;refine ⟨ks,hk,⟨h1,h2,h3,oM⟩,fun r g1 g2=>h6 r (a+1) ⟨oM,oM,oM,oM,oM,?_,oM⟩,fun g=>h6 0 a ⟨oM,oM,oM,oM,oM,?_,oM⟩⟩
  ·rw [show a+1-a=1 by omega,Int.mul_one];omega
  ·rw [Int.sub_self,Int.mul_zero];omega
 ·exact h.elim
def amH:az:=fun args bx K=>match args,bx with
 |[.int .i64 n],[]=>(0<=n∧n<=1000)∧∀t:ByteArray,(t.size:Int)<=n->K (.str t) []
 |_,_=>False
theorem IE:az.OK Tryz.prog 79 amH:=by
 refine aoI.mono fun args bx K h=>?_;unfold amH at h;unfold c79;split at h
 ·exact ⟨h.1.2,fun t ht=>h.2 t (by have:=h.1.1;omega)⟩
 ·exact h.elim
def ads (b:Nat):List AV->Bool
 |[]=>true
 |.str s::l=>Nat.ble s.size b && ads b l
 |_=>false
theorem Fe {l:List AV} {b j:Nat} {Q:AV->List AV->Prop} (hl:ads b l=true) (hj:j<l.length) (hQ:∀(t:ByteArray) r,t.size<=b->Q (.str t) r):∃v r,List.drop (j*1) l=v::r∧Q v r:=by
 induction l generalizing j with
 |nil=>simp at hj
 |cons x l ih=>
  cases x with
  |str s=>
   rw [ads,Bool.and_eq_true,Nat.ble_eq] at hl;cases j with
   |zero=>exact ⟨_,_,rfl,hQ _ _ hl.1⟩
   |succ j=>
    obtain ⟨v,r,h1,h2⟩:=ih hl.2 (j:=j) (by simpa using hj);exact ⟨v,r,by rw [Nat.mul_one] at h1⊢;exact h1,h2⟩
  |_=>exact absurd hl (by simp [ads])
theorem Es {l:List UInt8}:ByteArray.size ⟨l.toArray⟩=l.length:=rfl
def c51:az:=fun args bx K=>match args,bx with
 |[.int .i64 n],[]=>∀t:ByteArray,t.size<=3->K (.str t) []
 |_,_=>False
def aqy:=fN 51 Tryz.f51 8 [.tmp 2]
theorem ahM.xt {p:Prop} (g:p:=by ((first|exact dQ|(refine Fe (b:=3) rfl ?_ ?_;(focus (simp only [lL];omega));intro t r ht)|exact fQ|((with_reducible refine (?_:af _ _ _ _ _));first|exact af.aW kV kV o9 o9 fun K hK=>hK _ oM)|fail);(repeat' (first|exact dw|fail));first|done|fail)):p:=g
theorem WA:az.OK Tryz.prog 51 c51:=by
 intro args bx K0 h;unfold c51 at h;split at h
 ·rename_i n;refine aqy.okW (base:=0) rfl o9 o9 ?_;have B:=V.base (ae.cons ajB ae.nil)
  conv=>whnf
  let zA:=(au 51)
  open ahM in exact dw
 ·exact h.elim
def anp:az:=fun args bx K=>match args,bx with
 |[.ptr 0 0],[[.sl nk lk,.int .i64 a,.str out,.int .i64 left,.int .i64 name]]=>∃ks:List Int,(nk=ks.length∧lk=kT ks)∧(0<=a∧a<=ks.length∧ks.length<=100∧(out.size:Int)<=500000∧0<=name∧name<=a)∧∀(a':Int) (t:ByteArray),(a<=a'∧a'<=ks.length∧t.size<=10)->K (.str t) [mB ks a' out left name]
 |_,_=>False
def amk:=fN 104 Tryz.f104 8 [.tmp 2]
theorem ahL.xt {p:Prop} (g:p:=by ((first|exact dQ|exact fU|(refine Fe (b:=10) rfl ?_ ?_;(focus (simp only [lL];omega));intro t r ht)|exact fQ|((with_reducible refine (?_:af _ _ _ _ _));first|exact af.aW kV kV o9 o9 fun K hK=>(exI hK).2 _ _ ⟨oM,oM,oM⟩)|fail);(repeat' (first|exact dw|fail));first|done|fail)):p:=g
theorem aki:az.OK Tryz.prog 104 anp:=by
 intro args bx K0 h;unfold anp at h;split at h
 ·rename_i nk lk a out left name;obtain ⟨ks,⟨rfl,rfl⟩,⟨h1,h2,h3,h4,h5,h6⟩,-⟩:=h;refine amk.okW (base:=1) rfl o9 o9 ?_;have B:=V.base (ae.cons yh ae.nil)
  conv=>whnf
  let zA:=(au 104)
  open ahL in exact dw
 ·exact h.elim
def c78:az:=fun args bx K=>match args,bx with
 |[.ptr 0 0],[[.sl nk lk,.int .i64 a,.str out,.int .i64 left,.int .i64 name]]=>∃ks:List Int,(nk=ks.length∧lk=kT ks)∧(0<=a∧a<=ks.length∧ks.length<=100∧(out.size:Int)<=500000∧0<=name∧name<=a)∧∀(a':Int) (out':ByteArray),(a<=a'∧a'<=ks.length∧(out'.size:Int)<=out.size+150*(a'-a))->K (.bW []) [mB ks a' out' left name]
 |_,_=>False
def aqh:=fN 78 Tryz.f78 27 []
theorem ahK.xt {p:Prop} (g:p:=by ((first|exact dQ|exact fU|exact ik|exact ig|exact rE|fail);(repeat' (first|exact dw|fail));first|done|fail)):p:=g
theorem aji:az.OK Tryz.prog 78 c78:=by
 intro args bx K0 h;unfold c78 at h;split at h
 ·rename_i nk lk a out left name;obtain ⟨ks,⟨rfl,rfl⟩,⟨h1,h2,h3,h4,h5,h6⟩,-⟩:=h;refine aqh.okW (base:=1) rfl o9 o9 ?_;have B:=V.base (ae.cons yh (ae.cons IG (ae.cons WA ae.nil)))
  conv=>whnf
  let zA:=(au 78)
  open ahK in exact dw
 ·exact h.elim
end V
end
namespace V
open Ab
variable {lim : Nat -> Nat} {bs : List Nat} {w : World}
mutual
theorem TS (A B:nM) (hB:@nM.B A<=@nM.B B):∀{x:AV} {v:Value},@AV.R A lim bs w x v->@AV.R B lim bs w x v
 |.bool _,v,h=>by unfold AV.R at h⊢;exact h
 |.int _ _,v,h=>by unfold AV.R at h⊢;exact h
 |.str s,v,h=>by unfold AV.R at h⊢;exact ⟨h.1,Nat.le_trans h.2 hB⟩
 |.ptr _ _,v,h=>by unfold AV.R at h⊢;exact h
 |.nil,v,h=>by unfold AV.R at h⊢;exact h
 |.nz _,v,h=>by unfold AV.R at h⊢;exact h
 |.ql _,v,h=>by unfold AV.R at h⊢;exact h
 |.low _ _ _,v,h=>by unfold AV.R at h⊢;exact h
 |.dm _ _ _ _,v,h=>by unfold AV.R at h⊢;exact h
 |.bad,v,h=>by unfold AV.R;trivial
 |.sl n l,v,h=>by unfold AV.R at h⊢;obtain ⟨a,c,h1,h2,h3⟩:=h;refine ⟨a,c,h1,h2,h3.imp id ?_⟩;rintro ⟨b,o,h4,h5,h6,h7⟩;exact ⟨b,o,h4,h5,h6,Hg A B hB h7⟩
 |.row e z n l,v,h=>by unfold AV.R at h⊢;refine ⟨h.1,h.2.1,h.2.2.imp id ?_⟩;rintro ⟨g,c,cur,h1,h2,h3,h4,h5,h6,h7⟩;exact ⟨g,c,cur,h1,h2,h3,h4,h5,h6,Hg A B hB h7⟩
 |.el l,v,h=>by unfold AV.R at h⊢;obtain ⟨b,o,h4,h5,h6,h7⟩:=h;exact ⟨b,o,h4,h5,h6,Hg A B hB h7⟩
 |.agg l,v,h=>by unfold AV.R at h⊢;obtain ⟨vs,h1,h2⟩:=h;exact ⟨vs,h1,Ej A B hB h2⟩
 |.bW l,v,h=>by unfold AV.R at h⊢;obtain ⟨vs,h1,h2⟩:=h;exact ⟨vs,h1,Ej A B hB h2⟩
 |.fn f l,v,h=>by unfold AV.R at h⊢;obtain ⟨vs,h1,h2⟩:=h;exact ⟨vs,h1,Ej A B hB h2⟩
theorem Ej (A B:nM) (hB:@nM.B A<=@nM.B B):∀{l:List AV} {vs:List Value},@AV.Rs A lim bs w l vs->@AV.Rs B lim bs w l vs
 |[],vs,h=>by unfold AV.Rs at h⊢;exact h
 |x::l,vs,h=>by unfold AV.Rs at h⊢;obtain ⟨v,r,h1,h2,h3⟩:=h;exact ⟨v,r,h1,TS A B hB h2,Ej A B hB h3⟩
theorem Hg (A B:nM) (hB:@nM.B A<=@nM.B B):∀{l:List AV} {b o:Nat},@AV.Rm A lim bs w b o l->@AV.Rm B lim bs w b o l
 |[],b,o,_=>by unfold AV.Rm;trivial
 |x::l,b,o,h=>by unfold AV.Rm at h⊢;obtain ⟨⟨v,h1,h2⟩,h3⟩:=h;exact ⟨⟨v,h1,TS A B hB h2⟩,Hg A B hB h3⟩
end
mutual
def Ha (N:Nat):AV->Prop
 |.str s=>s.size<=N
 |.sl _ l|.row _ _ _ l|.el l|.agg l|.bW l|.fn _ l=>qp N l
 |_=>True
def qp (N:Nat):List AV->Prop
 |[]=>True
 |x::l=>Ha N x∧qp N l
end
mutual
theorem ag5 (A:nM):∀{x:AV} {v:Value},@AV.R A lim bs w x v->Ha (@nM.B A) x
 |.bool _,v,h=>by unfold Ha;trivial
 |.int _ _,v,h=>by unfold Ha;trivial
 |.str s,v,h=>by unfold AV.R at h;unfold Ha;exact h.2
 |.ptr _ _,v,h=>by unfold Ha;trivial
 |.nil,v,h=>by unfold Ha;trivial
 |.nz _,v,h=>by unfold Ha;trivial
 |.ql _,v,h=>by unfold Ha;trivial
 |.low _ _ _,v,h=>by unfold Ha;trivial
 |.dm _ _ _ _,v,h=>by unfold Ha;trivial
 |.bad,v,h=>by unfold Ha;trivial
 |.sl n l,v,h=>by
  unfold AV.R at h;obtain ⟨a,c,h1,h2,h3⟩:=h;unfold Ha;rcases h3 with rfl|⟨b,o,h4,h5,h6,h7⟩
  ·unfold qp;trivial
  ·exact VQ A h7
 |.row e z n l,v,h=>by
  unfold AV.R at h;unfold Ha;obtain ⟨h1,h2,⟨-,rfl⟩|⟨g,c,cur,h3,h4,h5,h6,h7,h8,h9⟩⟩:=h
  ·rw [Nat.zero_mul] at h1;rw [List.eq_nil_of_length_eq_zero h1];unfold qp;trivial
  ·exact VQ A h9
 |.el l,v,h=>by unfold AV.R at h;unfold Ha;obtain ⟨b,o,h4,h5,h6,h7⟩:=h;exact VQ A h7
 |.agg l,v,h=>by unfold AV.R at h;unfold Ha;obtain ⟨vs,h1,h2⟩:=h;exact VP A h2
 |.bW l,v,h=>by unfold AV.R at h;unfold Ha;obtain ⟨vs,h1,h2⟩:=h;exact VP A h2
 |.fn f l,v,h=>by unfold AV.R at h;unfold Ha;obtain ⟨vs,h1,h2⟩:=h;exact VP A h2
theorem VP (A:nM):∀{l:List AV} {vs:List Value},@AV.Rs A lim bs w l vs->qp (@nM.B A) l
 |[],vs,h=>by unfold qp;trivial
 |x::l,vs,h=>by unfold AV.Rs at h;obtain ⟨v,r,h1,h2,h3⟩:=h;unfold qp;exact ⟨ag5 A h2,VP A h3⟩
theorem VQ (A:nM):∀{l:List AV} {b o:Nat},@AV.Rm A lim bs w b o l->qp (@nM.B A) l
 |[],b,o,_=>by unfold qp;trivial
 |x::l,b,o,h=>by unfold AV.Rm at h;obtain ⟨⟨v,h1,h2⟩,h3⟩:=h;unfold qp;exact ⟨ag5 A h2,VQ A h3⟩
end
theorem Xq (A B:nM) (hB:@nM.B A<=@nM.B B) {bx:List (List AV)} {S:uP} {m:Nat->Prop} (H:@aB A lim bs w bx S m):@aB B lim bs w bx S m:=by obtain ⟨g1,g2,g3,g4,g5,g6,g7,g8,g9,g10⟩:=H;refine @aB.mk B _ _ _ _ _ _ g1 g2 g3 g4 (fun i b x h1 h2=>?_) (fun k=>TS A B hB (g6 k)) g7 g8 g9 g10;obtain ⟨c,tl,t,h3,h4,h5⟩:=g5 i b x h1 h2;exact ⟨c,tl,t,h3,Ej A B hB h4,h5⟩
theorem aV.wide (A B:nM) (hB:@nM.B A<=@nM.B B) {P:Program} {f:Nat} {s:ByteArray} {r:AV} {bx':List (List AV)} (hs:s.size<=@nM.B A) (h:@aV A P f [.str s] [] r bx'):@aV B P f [.str s] [] r bx'∧Ha (@nM.B A) r:=by
 have key:∀(lim:Nat->Nat) (bs:List Nat) (w:World) (vs:List Value) (m:Nat->Prop),vs.length=1->@aB B lim bs w [] (aS [.str s] vs) m->@aB A lim bs w [] (aS [.str s] vs) m:=by
  intro lim bs w vs m hl H;obtain ⟨g1,g2,g3,g4,g5,g6,g7,g8,g9,g10⟩:=H;refine @aB.mk A _ _ _ _ _ _ g1 g2 g3 g4 (fun i b x h1 h2=>by simp at h2) (fun k=>?_) g7 g8 g9 g10;have h0:=g6 k;rcases k with _|k
  ·have h1:@AV.R B lim bs w (.str s) (vs.getD 0 undef):=h0;show @AV.R A lim bs w (.str s) (vs.getD 0 undef);unfold AV.R at h1⊢;exact ⟨h1.1,hs⟩
  ·show @AV.R A lim bs w .bad _;unfold AV.R;trivial
 obtain ⟨hent,hlen,hcall⟩:=h;refine ⟨@aV.mk B _ _ _ _ _ _ hent hlen fun lim bs w vs m hl hm H=>?_,?_⟩
 ·refine (hcall lim bs w vs m hl hm (key lim bs w vs m hl H)).mono ?_;rintro e w' ⟨v,lim',bs',h1,h2,h3,h4⟩;exact ⟨v,lim',bs',h1,Xq A B hB h2,h3,h4⟩
 ·have H:@aB A (fun _=>0) [] default [] (aS [.str s] [.string s]) (fun _=>True):=by
   have hno:∀p g,¬Ab.Own default [] [] (aS [.str s] [.string s]) p g:=by
    intro p g hp;cases p with
    |t k=>
     obtain ⟨h1,-⟩:=hp;rcases k with _|k
     ·cases h1
     ·cases h1
    |b i j=>obtain ⟨b,x,y,v,h1,-⟩:=hp;simp at h1
   refine @aB.mk A _ _ _ _ _ _ rfl List.nodup_nil (fun b hb=>by cases hb) (fun b hb=>by cases hb) (fun i b x hi=>by simp at hi) (fun k=>?_) (fun k=>?_) (fun b _=>rfl) (fun p g hp=>absurd hp (hno p g)) (fun p q g hp=>absurd hp (hno p g))
   ·rcases k with _|k
    ·show @AV.R A _ _ _ (.str s) (.string s);unfold AV.R;exact ⟨rfl,hs⟩
    ·show @AV.R A _ _ _ .bad _;unfold AV.R;trivial
   ·rcases k with _|k
    ·rfl
    ·rfl
  obtain ⟨e,w',fr,⟨v,lim',bs',h1,h2,-,-⟩,-⟩:=hcall (fun _=>0) [] default [.string s] (fun _=>True) rfl (fun _ _=>trivial) H [];obtain ⟨g1,g2,g3,g4,g5,g6,g7,g8,g9,g10⟩:=h2;have h3:@AV.R A lim' bs' w' r v:=g6 0;exact ag5 A h3
end V
section
variable [nM]
set_option maxRecDepth 100000
namespace V
open Ab
open Bk (Cm)
theorem gB.Rn {n q:Nat} {bx bx':List (List AV)} {c c':List AV} (h:gB n bx) (ho:∀j,j<n->j≠q->bx'[j]?=bx[j]?) (hc:bx[q]?=some c) (hc':bx'[q]?=some c') (hi:∀i ∈ AV.aA c',i ∈ AV.aA c):gB n bx':=.mk fun j d hj hd i hid=>by
 by_cases e:j=q
 ·subst e;rw [hc'] at hd;cases hd;exact h.out j c hj hc i (hi i hid)
 ·rw [ho j hj e] at hd;exact h.out j d hj hd i hid
theorem gB.same {n:Nat} {bx bx':List (List AV)} (h:gB n bx) (ho:∀j,j<n->bx'[j]?=bx[j]?):gB n bx':=.mk fun j d hj hd i hid=>by rw [ho j hj] at hd;exact h.out j d hj hd i hid
theorem aH.get {p:Prop} (h:aH p):p:=h
theorem abZ (x:Ce):AV.aA x.off.l=AV.aA x.l:=by rw [sG,sG];obtain ⟨k,y,p,b,an,tg,tx,kc,lc,fc,h,tr⟩:=x;cases h<;>rfl
theorem X3 (h:Bool) (tr:ByteArray):(mQ h tr).length<=1:=by cases h<;>simp [mQ]
theorem wz:∀l:List Nd,l.length<=eP l
 |[]=>Nat.le_refl _
 |x::l=>by
  have:=wz l;have h1:1<=jT x:=by cases x;rw [jT];omega
  rw [List.length_cons,eP];omega
theorem GG:∀a b:List Nd,Jv (a++b)=(Jv a && Jv b)
 |[],b=>by rw [List.nil_append,Jv,Bool.true_and]
 |x::a,b=>by rw [List.cons_append,Jv,Jv,GG a b,Bool.and_assoc]
def agW (m:Nat):az:=fun args bx K=>match args with
 |[.ptr b o]=>∃(pre:List AV) (k y p bb:Int) (an tg tx:ByteArray) (kc lc:AV) (ag:List Cm) (h:Bool) (tr:ByteArray) (post:List AV) (kids:List Nd) (I:List Nat),(aN bx=true∧gB bx.length bx∧Bi bx b o pre ⟨k,y,p,bb,an,tg,tx,kc,lc,cs ag,h,tr⟩ post∧fO bx kids kc I∧(b::I).Nodup∧(Jv kids=true∧(h||decide (tr=ByteArray.empty))=true)∧eP kids+1<=m∧fD kids+ag.length+1<=10000000000∧eP kids<=10000000000)∧
   ∀bx':List (List AV),bx'.length=bx.length->gB bx.length bx'->Bi bx' b o pre ⟨k,y,p,bb,an,tg,tx,kc,lc,cs [],false,ByteArray.empty⟩ post->fO bx' (aU kids).1 kc I->(∀j,j≠b->j ∉ I->bx'[j]?=bx[j]?)->K (cr ((aU kids).2++ag++mQ h tr)) bx'
 |_=>False
def BI (bx:List (List AV)) (b o q:Nat) (kids:List Nd) (J:List Nat) (j:Nat) (τ:aF):Prop:=∃(a r:List Nd) (ca Xw:List AV) (Ja Jr:List Nat) (bx1:List (List AV)),kids=a++r∧j=r.length∧τ=⟨[(13,.int .i64 a.length),(12,.int .i64 kids.length),(4,.fn 125 [.ptr bx.length 0]),(3,.ptr bx.length 0),(0,.ptr b o)],bx1⟩∧bx1.length=bx.length+1∧bx1[bx.length]?=some [cr (aU a).2]∧bx1[q]?=some (ca++Xw)∧fG bx1 (aU a).1 ca Ja∧fG bx1 r Xw Jr∧J=Ja++Jr∧(∀j,j≠q->j ∉ J->j≠bx.length->bx1[j]?=bx[j]?)∧gB bx.length bx1
def BJ (bx:List (List AV)) (b o:Nat) (kids:List Nd) (kc:AV) (I:List Nat) (τ:aF):Prop:=∃bx1:List (List AV),τ=⟨[(4,.fn 125 [.ptr bx.length 0]),(3,.ptr bx.length 0),(0,.ptr b o)],bx1⟩∧bx1.length=bx.length+1∧bx1[bx.length]?=some [cr (aU kids).2]∧bx1[b]?=bx[b]?∧fO bx1 (aU kids).1 kc I∧(∀j,j ∉ I->j≠bx.length->bx1[j]?=bx[j]?)∧gB bx.length bx1
def amb:=fN 117 Tryz.f117 41 [.tmp 2]
theorem akb:∀m,az.OK Tryz.prog 117 (agW m):=by
 intro m
 induction m with
 |zero=>
  intro args bx K0 h;unfold agW at h;split at h
  ·obtain ⟨pre,k,y,p,bb,an,tg,tx,kc,lc,ag,h,tr,post,kids,I,⟨-,-,-,-,-,-,h0,-⟩,-⟩:=h;omega
  ·exact h.elim
 |succ m ih=>
  intro args bx K0 h;unfold agW at h;split at h
  ·rename_i b o;obtain ⟨pre,k,y,p,bb,an,tg,tx,kc,lc,ag,hh,tr,post,kids,I,⟨hw,hcl,hx,hk,hnd,⟨ht1,ht2⟩,hm,hn,hz⟩,-⟩:=h;have hb0:bx[b]?=some (pre++(.int .i64 k::.int .i64 y::.int .i64 p::.int .i64 bb::.str an::.str tg::.str tx::kc::lc::cs ag::.bool hh::.str tr::post)):=hx.1;have ho:=hx.2;have hbl:=(List.getElem?_eq_some_iff.1 hb0).1;have hk0:=hk;have hbI:b ∉ I:=(List.nodup_cons.1 hnd).1;have hI:=hk.lt;refine amb.okD rfl hw ?_;have B:=V.base (ae.cons ih (ae.cons aj3 (ae.cons afL ae.nil)));have zE:Ev _ _ _ (au 117) [125] [117,72]:=⟨B⟩
   conv=>whnf
   repeat' (first
   |refine nX ?_;conv=>whnf
   |(with_reducible refine (?_:wv _=true->aN _=true->_));intro hwr hwb
   |(with_reducible refine (?_:aN _=true->_));intro hw;conv=>whnf
   |with_reducible assumption
   |(with_reducible first|refine bU ho ?_|refine bF ho ?_|refine aQ ho ?_|refine aJ ho ?_|refine aI ?_);conv=>whnf
   |with_reducible refine And.intro ?_ ?_
   |exact cL
   |(with_reducible intro h);first|(cases h;done)|(try simp only [lG,reduceCtorEq] at h);first|done|(exfalso;omega)|replace h:=h trivial aZ|replace h:=h aZ|skip
   |fail)
   refine wX.mk ?_;intro b1 hl1 hb1 hr1
   conv=>whnf
   refine WP.CY (x':=[cr []]) hb1 (.cons (Wv.lM (e:=56) (z:=2)) .nil) rfl ?_;intro b2 hl2 hs hr2;have hag:∀j,j<bx.length->b2[j]?=bx[j]?:=fun j hj=>(hr2 j oM).trans (hr1 j hj);have hl:b2.length=bx.length+1:=hl2.trans hl1;have hk2:=hk.fr (fun i hi=>hag i (hI i hi));have hb:=(hag b hbl).trans hb0;have IZ:=hcl.same hag;clear hl1 hb1 hr1 hl2 hr2
   repeat' (first
   |((with_reducible refine (?_:WP _ _ _ (.seq (.seq (.region 3 _ _) _) _) _ _));refine WP.cut (J:=BJ bx b o kids kc I) ?_ ?_)
   |refine nX ?_;conv=>whnf
   |(with_reducible refine (?_:wv _=true->aN _=true->_));intro hwr hwb
   |(with_reducible refine (?_:aN _=true->_));intro hw;conv=>whnf
   |with_reducible assumption
   |(with_reducible first|refine bU ho ?_|refine bF ho ?_|refine aQ ho ?_|refine aJ ho ?_|refine aI ?_);conv=>whnf
   |with_reducible refine And.intro ?_ ?_
   |exact cL
   |(with_reducible intro h);first|(cases h;done)|(try simp only [lG,reduceCtorEq] at h);first|done|(exfalso;omega)|replace h:=h trivial aZ|replace h:=h aZ|skip
   |fail)
   ·have agx:∀j,j≠bx.length->b2[j]?=bx[j]?:=fun j hj=>by
     by_cases hjl:j<bx.length
     ·exact hag j hjl
     ·rw [List.getElem?_eq_none oM,List.getElem?_eq_none oM]
    rcases hk2 with ⟨g1,rfl,rfl⟩|⟨g1,q,cc,J,rfl,rfl,hq,g4⟩
    ·have hkids:=List.eq_nil_of_length_eq_zero g1;subst hkids
     repeat' (first
     |((with_reducible refine (?_:∃c:List AV,_∧_));refine ⟨_,(by first|exact hb|exact hs|exact hq),?_⟩;(conv=>whnf))
     |refine nX ?_;conv=>whnf
     |(with_reducible refine (?_:wv _=true->aN _=true->_));intro hwr hwb
     |(with_reducible refine (?_:aN _=true->_));intro hw;conv=>whnf
     |with_reducible assumption
     |((with_reducible refine (?_:WP _ _ _ (.loop _) _ _));refine WP.once ?_)
     |((with_reducible intro h);exfalso;simp at h;done)
     |(with_reducible first|refine bU ho ?_|refine bF ho ?_|refine aQ ho ?_|refine aJ ho ?_|refine aI ?_);conv=>whnf
     |with_reducible refine And.intro ?_ ?_
     |exact cL
     |(with_reducible intro h);first|(cases h;done)|(try simp only [lG,reduceCtorEq] at h);first|done|(exfalso;omega)|replace h:=h trivial aZ|replace h:=h aZ|skip
     |fail)
     exact ⟨_,Rx.prune [0,3,4],b2,rfl,hl,hs,hag b hbl,.inl ⟨rfl,rfl,rfl⟩,fun j _ h2=>agx j h2,IZ⟩
    ·have hbq:b≠q:=fun e=>hbI (by rw [e];exact List.mem_cons_self);have WI:b ∉ J:=fun e=>hbI (List.mem_cons_of_mem _ e);have hqJ:q ∉ J:=(List.nodup_cons.1 (List.nodup_cons.1 hnd).2).1;have hnJ:J.Nodup:=(List.nodup_cons.1 (List.nodup_cons.1 hnd).2).2;have hqN:q<bx.length:=hI q List.mem_cons_self;have hJN:∀i ∈ J,i<bx.length:=fun i hi=>hI i (List.mem_cons_of_mem _ hi)
     repeat' (first
     |((with_reducible refine (?_:∃c:List AV,_∧_));refine ⟨_,(by first|exact hb|exact hs|exact hq),?_⟩;(conv=>whnf))
     |refine nX ?_;conv=>whnf
     |(with_reducible refine (?_:wv _=true->aN _=true->_));intro hwr hwb
     |(with_reducible refine (?_:aN _=true->_));intro hw;conv=>whnf
     |with_reducible assumption
     |((with_reducible refine (?_:WP _ _ _ (.loop _) _ _));refine WP.loop (BI bx b o q kids J) ⟨[],kids,[],cc,[],J,b2,rfl,rfl,rfl,hl,hs,hq,gY.2 ⟨rfl,rfl⟩,g4,rfl,fun j _ _ h2=>agx j h2,IZ⟩ ?_;clear hl hs hq g4 IZ agx hag hb)
     |((with_reducible refine (?_:∀(k:Nat) (τ:aF),BI _ _ _ _ _ _ k τ->_));refine aH.get ?_)
     |(with_reducible first|refine bU ho ?_|refine bF ho ?_|refine aQ ho ?_|refine aJ ho ?_|refine aI ?_);conv=>whnf
     |with_reducible refine And.intro ?_ ?_
     |exact cL
     |(with_reducible intro h);first|(cases h;done)|(try simp only [lG,reduceCtorEq] at h);first|done|(exfalso;omega)|replace h:=h trivial aZ|replace h:=h aZ|skip
     |fail)
     refine aH.mk ?_;rintro j τ ⟨a,r,ca,Xw,Ja,Jr,bx1,hkk,rfl,rfl,hl,hs,hq,hA,hR,hJ,hag,vV⟩;have hb:=(hag b hbq WI oM).trans hb0;have hca:=hA.len;rw [xw] at hca;rcases r with _|⟨x,r⟩
     ·rw [List.append_nil] at hkk;obtain ⟨rfl,rfl⟩:=gY.1 hR;subst hkk;rw [List.append_nil] at hq hJ
      repeat' (first
      |((with_reducible refine (?_:∃c:List AV,_∧_));refine ⟨_,(by first|exact hb|exact hs|exact hq),?_⟩;(conv=>whnf))
      |refine nX ?_;conv=>whnf
      |(with_reducible refine (?_:wv _=true->aN _=true->_));intro hwr hwb
      |(with_reducible refine (?_:aN _=true->_));intro hw;conv=>whnf
      |with_reducible assumption
      |((with_reducible intro h);exfalso;simp at h;done)
      |(with_reducible first|refine bU ho ?_|refine bF ho ?_|refine aQ ho ?_|refine aJ ho ?_|refine aI ?_);conv=>whnf
      |with_reducible refine And.intro ?_ ?_
      |exact cL
      |(with_reducible intro h);first|(cases h;done)|(try simp only [lG,reduceCtorEq] at h);first|done|(exfalso;omega)|replace h:=h trivial aZ|replace h:=h aZ|skip
      |fail)
      exact ⟨_,Rx.prune [0,3,4],bx1,rfl,hl,hs,hag b hbq WI oM,.inr ⟨by rw [xw];exact g1,q,ca,J,by rw [xw],rfl,hq,by rw [hJ];exact hA⟩,fun j h1 h2=>hag j (fun e=>h1 (by rw [e];exact List.mem_cons_self)) (fun e=>h1 (List.mem_cons_of_mem _ e)) h2,vV⟩
     ·have hkl:kids.length=a.length+r.length+1:=by rw [hkk,List.length_append,List.length_cons];omega
      obtain ⟨c1,c2,J1,J2,rfl,rfl,hX,hR2⟩:=dI.1 hR;obtain ⟨k1,y1,p1,q1,yH,yC,yB,kids1,gp,jd,h1,xm⟩:=x;obtain ⟨yF,rfl,hk1⟩:=iW.1 hX;have hcn:fD kids=fD a+((gp.length+fD kids1+jd.length+(mQ h1 xm).length)+fD r):=by rw [hkk,uK,fD,lW]
      have hsz:eP kids=eP a+(1+eP kids1+eP r):=by rw [hkk,uF,eP,jT]
      have ak8:=oz a;have hzl:=wz kids;have hcs1:=oz kids1;have htt:(h1||decide (xm=ByteArray.empty))=true∧Jv kids1=true:=by rw [hkk,GG,Jv,LU] at ht1;simp only [Bool.and_eq_true] at ht1;exact ht1.2.1
      have hbd:(aU a).2.length+gp.length<=10000000000:=oM;have apM:((aU a).2++gp).length+((aU kids1).2++jd++mQ h1 xm).length<=10000000000:=by simp only [List.length_append];omega
      have DV:∀i ∈ J1,i ∈ J:=fun i hi=>by rw [hJ];exact List.mem_append_right _ (List.mem_append_left _ hi)
      have hJn:=hnJ;rw [hJ,List.nodup_append] at hJn;obtain ⟨hn1,hn2,hn3⟩:=hJn;rw [List.nodup_append] at hn2
      repeat' (first
      |((with_reducible refine (?_:∃c:List AV,_∧_));refine ⟨_,(by first|exact hb|exact hs|exact hq),?_⟩;(conv=>whnf))
      |refine nX ?_;conv=>whnf
      |(with_reducible refine (?_:wv _=true->aN _=true->_));intro hwr hwb
      |(with_reducible refine (?_:aN _=true->_));intro hw;conv=>whnf
      |with_reducible assumption
      |((with_reducible intro h);exfalso;simp at h;done)
      |(with_reducible first|refine bU ho ?_|refine bF ho ?_|refine aQ ho ?_|refine aJ ho ?_|refine aI ?_);conv=>whnf
      |with_reducible refine And.intro ?_ ?_
      |exact cL
      |(with_reducible intro h);first|(cases h;done)|(try simp only [lG,reduceCtorEq] at h);first|done|(exfalso;omega)|replace h:=h trivial aZ|replace h:=h aZ|skip
      |fail)
      refine ⟨ca++[.int .i64 k1,.int .i64 y1,.int .i64 p1,.int .i64 q1,.str yH,.str yC,.str yB,yF],gp,cs jd::.bool h1::.str xm::c2,(aU a).2,⟨hw,oM,by rw [List.append_assoc];exact hq,by rw [List.length_append,hca];rfl,hs,hbd⟩,?_⟩;clear hs;intro b3 hl3 hq3 hs hr3;replace hl3:b3.length=bx1.length:=hl3;replace hr3:∀j,j≠q->j≠bx.length->b3[j]?=bx1[j]?:=hr3;rw [List.append_assoc] at hq3;have DT:gB bx.length b3:=vV.Rn (q:=q) (fun j hj hne=>hr3 j hne oM) hq hq3 (fun i hi=>by
       rw [dF] at hi⊢;simpa only [Nd.ce,Ce.l,dF,AV.aA,AV.ids,dY,List.cons_append,List.nil_append,List.append_nil] using hi)
      conv=>whnf
      repeat' (first
      |((with_reducible refine (?_:_∧gB _ _∧_));refine aH.get ?_)
      |((with_reducible refine (?_:∃c:List AV,_∧_));refine ⟨_,(by first|exact hb|exact hs|exact hq),?_⟩;(conv=>whnf))
      |refine nX ?_;conv=>whnf
      |(with_reducible refine (?_:wv _=true->aN _=true->_));intro hwr hwb
      |(with_reducible refine (?_:aN _=true->_));intro hw;conv=>whnf
      |with_reducible assumption
      |((with_reducible refine gZ.mk (i:=bx.length) ?_);intro b4 hl4 hs4 hr4;(conv=>whnf))
      |(with_reducible first|refine bU ho ?_|refine bF ho ?_|refine aQ ho ?_|refine aJ ho ?_|refine aI ?_);conv=>whnf
      |with_reducible refine And.intro ?_ ?_
      |exact cL
      |(with_reducible intro h);first|(cases h;done)|(try simp only [lG,reduceCtorEq] at h);first|done|(exfalso;omega)|replace h:=h trivial aZ|replace h:=h aZ|skip
      |fail)
      replace hl4:b4.length=b3.length:=hl4;replace hr4:∀j,j≠bx.length->b4[j]?=b3[j]?:=hr4;have SX:gB bx.length b4:=DT.same fun j hj=>hr4 j oM;have hq4:=(hr4 q oM).trans hq3;refine aH.mk ⟨by show bx.length<=b4.length;omega,SX,?_⟩
      conv=>whnf
      refine ⟨uV.ptr hqN,?_⟩;intro b0 hl0 hr0 hw0;replace hr0:∀j,j<bx.length->b0[j]?=b4[j]?:=hr0;replace hl0:b0.length=bx.length:=hl0
      conv=>whnf
      refine ⟨ca,k1,y1,p1,q1,yH,yC,yB,yF,cs [],jd,h1,xm,c2,kids1,J1,⟨hw0,by rw [hl0];exact SX.same hr0,⟨(hr0 q hqN).trans hq4,by rw [hca];rfl⟩,hk1.fr (fun i hi=>?_),List.nodup_cons.2 ⟨fun e=>hqJ (DV _ e),hn2.1⟩,⟨htt.2,htt.1⟩,oM,oM,oM⟩,?_⟩
      ·have KP:=DV i hi;have hiN:=hJN i KP;exact (hr0 i hiN).trans ((hr4 i oM).trans (hr3 i (fun e=>hqJ (e▸KP)) oM))
      intro b5 hl5 qo hx5 hk5 Ar;refine ⟨hl5.trans hl0,?_⟩;intro b6 Vb BD hr7;replace Vb:b6.length=b4.length:=Vb;replace BD:∀j,j<bx.length->b6[j]?=b5[j]?:=BD;clear hs;have hs:=(hr7 bx.length (Nat.le_refl _)).trans hs4
      conv=>whnf
      repeat' (first
      |((with_reducible refine (?_:∃c:List AV,_∧_));refine ⟨_,(by first|exact hb|exact hs|exact hq),?_⟩;(conv=>whnf))
      |refine nX ?_;conv=>whnf
      |(with_reducible refine (?_:wv _=true->aN _=true->_));intro hwr hwb
      |(with_reducible refine (?_:aN _=true->_));intro hw;conv=>whnf
      |with_reducible assumption
      |(exact apM)
      |((with_reducible refine (?_:oU _ _ _ _));exact oU.hi (Nat.le_refl _))
      |((with_reducible refine gZ.mk (i:=bx.length) ?_);intro b7 hl7 hs7 DC;(conv=>whnf))
      |((with_reducible refine (?_:∃(j:Nat) (τ':aF),_));refine aH.get ?_)
      |(with_reducible first|refine bU ho ?_|refine bF ho ?_|refine aQ ho ?_|refine aJ ho ?_|refine aI ?_);conv=>whnf
      |with_reducible refine And.intro ?_ ?_
      |exact cL
      |(with_reducible intro h);first|(cases h;done)|(try simp only [lG,reduceCtorEq] at h);first|done|(exfalso;omega)|replace h:=h trivial aZ|replace h:=h aZ|skip
      |fail)
      replace hl7:b7.length=b6.length:=hl7;replace DC:∀j,j≠bx.length->b7[j]?=b6[j]?:=DC;replace hs7:b7[bx.length]?=some [.row 56 2 (((aU a).2++gp).length+((aU kids1).2++jd++mQ h1 xm).length) (eU ((aU a).2++gp)++eU ((aU kids1).2++jd++mQ h1 xm))]:=hs7;rw [EU] at hs7;have rQ:∀j,j≠q->j ∉ J1->j<bx.length->b7[j]?=bx1[j]?:=fun j h1 h2 h3=>(DC j oM).trans ((BD j h3).trans ((Ar j h1 h2).trans ((hr0 j h3).trans ((hr4 j oM).trans (hr3 j h1 oM)))));have hst:=Ic a [Nd.mk k1 y1 p1 q1 yH yC yB kids1 gp jd h1 xm];have hs1:aU [Nd.mk k1 y1 p1 q1 yH yC yB kids1 gp jd h1 xm]=([Nd.mk k1 y1 p1 q1 yH yC yB (aU kids1).1 [] [] false ByteArray.empty],gp++((aU kids1).2++jd++mQ h1 xm)):=by simp only [aU,aX,Nd.ld,Nd.lead,List.append_nil]
      rw [hs1] at hst;refine aH.mk ⟨r.length,_,by simp,Rx.refl,a++[Nd.mk k1 y1 p1 q1 yH yC yB kids1 gp jd h1 xm],r,ca++(Ce.mk k1 y1 p1 q1 yH yC yB yF (cs []) (cs []) false ByteArray.empty).l,c2,Ja++J1,J2,b7,by rw [hkk,List.append_assoc];rfl,rfl,by rw [List.length_append];rfl,oM,?_,?_,?_,?_,by rw [hJ,List.append_assoc],?_,?_⟩
      ·rw [hs7,hst.2];simp only [List.append_assoc]
      ·rw [DC q oM,BD q hqN,hx5.1,List.append_assoc]
      ·rw [hst.1];refine wY.2 ⟨ca,_,Ja,J1,rfl,rfl,hA.fr fun i hi=>?_,fG.one (iW.2 ⟨yF,rfl,hk5.fr fun i hi=>?_⟩)⟩
       ·have KP:i ∈ J:=by rw [hJ];exact List.mem_append_left _ hi
        exact rQ i (fun e=>hqJ (e▸KP)) (fun e=>hn3 i hi i (List.mem_append_left _ e) rfl) (hJN i KP)
       ·have hiN:=hJN i (DV i hi);exact (DC i oM).trans (BD i hiN)
      ·refine hR2.fr fun i hi=>?_;have KP:i ∈ J:=by rw [hJ];exact List.mem_append_right _ (List.mem_append_right _ hi)
       exact rQ i (fun e=>hqJ (e▸KP)) (fun e=>hn2.2.2 i e i hi rfl) (hJN i KP)
      ·intro j h1 h2 h3;by_cases hjl:j<bx.length
       ·exact (rQ j h1 (fun e=>h2 (DV j e)) hjl).trans (hag j h1 h2 h3)
       ·rw [List.getElem?_eq_none oM,List.getElem?_eq_none oM]
      ·rw [hl0] at qo;exact (qo.same BD).same fun j hj=>DC j oM
   ·refine aH.mk ?_;rintro τ ⟨bx1,rfl,hl,hs,hb,hk,hag,vV⟩;replace hb:=hb.trans hb0
    repeat' (first
    |((with_reducible refine (?_:∃c:List AV,_∧_));refine ⟨_,(by first|exact hb|exact hs|exact hq),?_⟩;(conv=>whnf))
    |refine nX ?_;conv=>whnf
    |(with_reducible refine (?_:wv _=true->aN _=true->_));intro hwr hwb
    |(with_reducible refine (?_:aN _=true->_));intro hw;conv=>whnf
    |with_reducible assumption
    |(with_reducible first|refine bU ho ?_|refine bF ho ?_|refine aQ ho ?_|refine aJ ho ?_|refine aI ?_);conv=>whnf
    |with_reducible refine And.intro ?_ ?_
    |exact cL
    |(with_reducible intro h);first|(cases h;done)|(try simp only [lG,reduceCtorEq] at h);first|done|(exfalso;omega)|replace h:=h trivial aZ|replace h:=h aZ|skip
    |fail)
    have hbd:(aU kids).2.length+ag.length<=10000000000:=by have:=oz kids;omega
    have hbd2:((aU kids).2++ag).length+(mQ hh tr).length<=10000000000:=by have:=oz kids;have:=X3 hh tr;rw [List.length_append];omega
    refine ⟨pre++[.int .i64 k,.int .i64 y,.int .i64 p,.int .i64 bb,.str an,.str tg,.str tx,kc,lc],ag,.bool hh::.str tr::post,(aU kids).2,⟨hw,oM,by rw [List.append_assoc];exact hb,by rw [List.length_append,ho];rfl,hs,hbd⟩,?_⟩;have hb1:=hb;clear hs hb;intro b3 hl3 hb hs hr3;replace hl3:b3.length=bx1.length:=hl3;replace hr3:∀j,j≠b->j≠bx.length->b3[j]?=bx1[j]?:=hr3;rw [List.append_assoc] at hb;have DT:gB bx.length b3:=vV.Rn (q:=b) (fun j hj hne=>hr3 j hne oM) hb1 hb (fun i hi=>by simpa only [dF,AV.aA,AV.ids,dY,List.cons_append,List.nil_append] using hi)
    conv=>whnf
    repeat' (first
    |((with_reducible refine (?_:_∧gB _ _∧_));refine aH.get ?_)
    |((with_reducible refine (?_:∃c:List AV,_∧_));refine ⟨_,(by first|exact hb|exact hs|exact hq),?_⟩;(conv=>whnf))
    |refine nX ?_;conv=>whnf
    |(with_reducible refine (?_:wv _=true->aN _=true->_));intro hwr hwb
    |(with_reducible refine (?_:aN _=true->_));intro hw;conv=>whnf
    |with_reducible assumption
    |((with_reducible refine gZ.mk (i:=bx.length) ?_);intro b4 hl4 hs4 hr4;(conv=>whnf))
    |(with_reducible first|refine bU ho ?_|refine bF ho ?_|refine aQ ho ?_|refine aJ ho ?_|refine aI ?_);conv=>whnf
    |with_reducible refine And.intro ?_ ?_
    |exact cL
    |(with_reducible intro h);first|(cases h;done)|(try simp only [lG,reduceCtorEq] at h);first|done|(exfalso;omega)|replace h:=h trivial aZ|replace h:=h aZ|skip
    |fail)
    replace hl4:b4.length=b3.length:=hl4;replace hr4:∀j,j≠bx.length->b4[j]?=b3[j]?:=hr4;have SX:gB bx.length b4:=DT.same fun j hj=>hr4 j oM;have hb4:=(hr4 b oM).trans hb;refine aH.mk ⟨by show bx.length<=b4.length;omega,SX,?_⟩
    conv=>whnf
    refine ⟨uV.ptr hbl,?_⟩;intro b0 hl0 hr0 hw0;replace hr0:∀j,j<bx.length->b0[j]?=b4[j]?:=hr0
    conv=>whnf
    refine ⟨pre,⟨k,y,p,bb,an,tg,tx,kc,lc,cs [],hh,tr⟩,post,⟨hw0,(hr0 b hbl).trans hb4,ho⟩,?_⟩;intro b5 hl5 hx5 Ar;refine ⟨hl5.trans hl0,?_⟩;intro b6 Vb BD hr7;replace Vb:b6.length=b4.length:=Vb;replace BD:∀j,j<bx.length->b6[j]?=b5[j]?:=BD;have hall:∀j,j<bx.length->j≠b->b6[j]?=bx1[j]?:=fun j hj hne=>(BD j hj).trans ((Ar j hne).trans ((hr0 j hj).trans ((hr4 j oM).trans (hr3 j hne oM))));have WH:gB bx.length b6:=SX.Rn (q:=b) (fun j hj hne=>(BD j hj).trans ((Ar j hne).trans (hr0 j hj))) hb4 ((BD b hbl).trans hx5.1) (fun i hi=>by
     rw [dF,dF,abZ] at hi;rw [dF];rw [←dF] at hi;exact hi)
    conv=>whnf
    repeat' (first
    |((with_reducible refine (?_:_∧gB _ _∧_));refine aH.get ?_)
    |((with_reducible refine (?_:∃c:List AV,_∧_));refine ⟨_,(by first|exact hb|exact hs|exact hq),?_⟩;(conv=>whnf))
    |refine nX ?_;conv=>whnf
    |(with_reducible refine (?_:wv _=true->aN _=true->_));intro hwr hwb
    |(with_reducible refine (?_:aN _=true->_));intro hw;conv=>whnf
    |with_reducible assumption
    |((with_reducible refine (?_:oU _ _ _ _));exact oU.hi (Nat.le_refl _))
    |(exact hbd2)
    |(with_reducible first|refine bU ho ?_|refine bF ho ?_|refine aQ ho ?_|refine aJ ho ?_|refine aI ?_);conv=>whnf
    |with_reducible refine And.intro ?_ ?_
    |exact cL
    |(with_reducible intro h);first|(cases h;done)|(try simp only [lG,reduceCtorEq] at h);first|done|(exfalso;omega)|replace h:=h trivial aZ|replace h:=h aZ|skip
    |fail)
    refine aH.mk ⟨by show bx.length<=b6.length;omega,WH,.pure (by rw [AV.aA,AV.ids,dF,Jg,Jg];rfl),?_⟩;intro b7 hl7 DC;replace DC:∀j,j<bx.length->b7[j]?=b6[j]?:=DC
    conv=>whnf
    intro hwr hwb;refine af.mk hwr hwb fun K hK=>?_;obtain ⟨pre',k',y',p',bb',an',X6,XV,Za,lc',F9,h',V7,post',kids',I',⟨-,-,hx',hk',-⟩,hK⟩:=hK;obtain ⟨rfl,e,rfl⟩:=hx.inj hx';simp only [Ce.mk.injEq] at e;obtain ⟨rfl,rfl,rfl,rfl,rfl,rfl,rfl,rfl,rfl,e,rfl,rfl⟩:=e;obtain rfl:=sF e;obtain ⟨rfl,rfl⟩:=fO.inj hk0 hk';have hoff:Ce.off ⟨k,y,p,bb,an,tg,tx,kc,lc,cs [],hh,tr⟩=⟨k,y,p,bb,an,tg,tx,kc,lc,cs [],false,ByteArray.empty⟩:=by
     cases hh with
     |true=>rfl
     |false=>
      simp only [Bool.false_or,decide_eq_true_eq] at ht2;rw [ht2];rfl
    show K (.row 56 2 (((aU kids).2++ag).length+(mQ hh tr).length) (eU ((aU kids).2++ag)++eU (mQ hh tr))) b7;rw [EU];refine hK b7 hl7 (WH.same DC) ⟨?_,ho⟩ ?_ ?_
    ·rw [DC b hbl,BD b hbl,hx5.1,hoff]
    ·exact hk.fr fun i hi=>(DC i (hI i hi)).trans (hall i (hI i hi) (fun e=>hbI (e▸hi)))
    ·intro j hj hjI;by_cases hjl:j<bx.length
     ·exact (DC j hjl).trans ((hall j hjl hj).trans (hag j hjI oM))
     ·rw [List.getElem?_eq_none oM,List.getElem?_eq_none oM]
  ·exact h.elim
end V
end
end Go.Proofs.YtlmjabnkjmfcmaaGreat
