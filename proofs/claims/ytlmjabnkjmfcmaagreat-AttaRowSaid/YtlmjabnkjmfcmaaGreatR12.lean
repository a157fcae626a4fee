/- Parts of a proof; no condition. -/
import Derived.Test.YtlmjabnkjmfcmaaGreatR11
namespace Go.Proofs.YtlmjabnkjmfcmaaGreat
open Go Go.RowKit Go.PlainAid
set_option linter.unusedVariables false
set_option linter.unusedSimpArgs false
set_option linter.unusedSectionVars false
set_option maxHeartbeats 20000000
set_option linter.defProp false
section
variable [nM]
set_option maxRecDepth 100000
namespace V
open Ab
open Bk (Cm)
theorem bU {A l:List AV} {a j:Nat} {K:AV->Prop} (ha:A.length=a) (h:zl l j K):zl (A++l) (a+j) K:=by
 subst ha
 induction A with
 |nil=>rw [List.length_nil,Nat.zero_add];exact h
 |cons x A ih=>rw [List.cons_append,List.length_cons,show A.length+1+j=A.length+j+1 by omega,zl];exact ih
theorem bF {A l:List AV} {a:Nat} {K:AV->Prop} (ha:A.length=a) (h:zl l 0 K):zl (A++l) a K:=bU (j:=0) ha h
theorem aQ {A l vs:List AV} {a o:Nat} {K:List AV->Prop} (ha:A.length=a) (h:lJ l o vs fun l=>K (A++l)):lJ (A++l) (a+o) vs K:=by subst ha;exact Bv h
theorem aJ {A l vs:List AV} {a:Nat} {K:List AV->Prop} (ha:A.length=a) (h:lJ l 0 vs fun l=>K (A++l)):lJ (A++l) a vs K:=aQ (o:=0) ha h
theorem aI {l:List AV} {K:List AV->Prop} (h:K l):lJ l 0 [] K:=by cases l<;>exact h
theorem Ic:∀a b:List Nd,(aU (a++b)).1=(aU a).1++(aU b).1∧(aU (a++b)).2=(aU a).2++(aU b).2
 |[],b=>⟨rfl,rfl⟩
 |x::a,b=>by have h:=Ic a b;rw [List.cons_append,aU,aU,h.1,h.2];exact ⟨rfl,by simp only [List.append_assoc]⟩
theorem xw:∀a:List Nd,(aU a).1.length=a.length
 |[]=>rfl
 |x::a=>by rw [aU,List.length_cons,List.length_cons,xw a]
theorem IL:∀l:List Nd,l.length<=eP l
 |[]=>Nat.le_refl _
 |x::l=>by have:=IL l;cases x;rw [eP,jT,List.length_cons];omega
theorem WP.once {P:Program} {n0 base:Nat} {σ:aF} {Q:zV->aF->Prop} {x:Code} (h:WP P n0 base x σ (U2 base (fun _ _=>False) 0 Q)):WP P n0 base (.loop x) σ Q:=by
 refine WP.loop (fun k τ=>k=0∧τ=σ) (k:=0) ⟨rfl,rfl⟩ ?_;rintro k τ ⟨rfl,rfl⟩;refine WP.mono h fun e ρ hq=>?_;cases e with
 |normal=>obtain ⟨j,τ',hj,-⟩:=hq;exact absurd hj (Nat.not_lt_zero _)
 |exit i=>exact hq
 |ret=>exact hq
theorem afT {x:Nd} {l:List Nd}:aO (x::l)=bV x++aO l:=by rw [aO,pR]
theorem uK:∀a b:List Nd,fD (a++b)=fD a+fD b
 |[],b=>by rw [List.nil_append,fD];omega
 |x::a,b=>by rw [List.cons_append,fD,fD,uK a b];omega
theorem uF:∀a b:List Nd,eP (a++b)=eP a+eP b
 |[],b=>by rw [List.nil_append,eP];omega
 |x::a,b=>by rw [List.cons_append,eP,eP,uF a b];omega
structure Ce where
 k:Int
 y:Int
 p:Int
 b:Int
 an:ByteArray
 tg:ByteArray
 tx:ByteArray
 kc:AV
 lc:AV
 fc:AV
 h:Bool
 tr:ByteArray
def Ce.l (x:Ce):List AV:=[.int .i64 x.k,.int .i64 x.y,.int .i64 x.p,.int .i64 x.b,.str x.an,.str x.tg,.str x.tx,x.kc,x.lc,x.fc,.bool x.h,.str x.tr]
theorem Ce.inj {x x':Ce} (h:x.l=x'.l):x=x':=by obtain ⟨k,y,p,b,an,tg,tx,kc,lc,fc,h,tr⟩:=x;obtain ⟨k',y',p',b',an',X6,XV,Za,lc',fc',h',V7⟩:=x';simp only [Ce.l,List.cons.injEq,AV.int.injEq,AV.str.injEq,AV.bool.injEq] at h;obtain ⟨⟨-,rfl⟩,⟨-,rfl⟩,⟨-,rfl⟩,⟨-,rfl⟩,rfl,rfl,rfl,rfl,rfl,rfl,rfl,rfl,-⟩:=h;rfl
def Bi (bx:List (List AV)) (b o:Nat) (pre:List AV) (x:Ce) (post:List AV):Prop:=bx[b]?=some (pre++(x.l++post))∧pre.length=o
theorem Bi.inj {bx:List (List AV)} {b o:Nat} {pre post pre' post':List AV} {x x':Ce} (h:Bi bx b o pre x post) (h':Bi bx b o pre' x' post'):pre=pre'∧x=x'∧post=post':=by have h1:=h.1;rw [h'.1] at h1;obtain ⟨e1,e2⟩:=List.append_inj (Option.some.inj h1) (by rw [h.2,h'.2]);obtain ⟨e3,e4⟩:=List.append_inj e2 rfl;exact ⟨e1.symm,(Ce.inj e3).symm,e4.symm⟩
def anf:az:=fun args bx K=>match args with
 |[.ptr b o]=>∃(pre:List AV) (x:Ce) (post:List AV),(aN bx=true∧Bi bx b o pre x post)∧K (.bool (decide (x.k=1∧x.y=1∧x.tx=ByteArray.empty))) bx
 |_=>False
def ama:=fN 118 Tryz.f118 22 [.tmp 2]
theorem aka:az.OK Tryz.prog 118 anf:=by
 intro args bx K0 h;unfold anf at h;split at h
 ·rename_i b o;obtain ⟨pre,x,post,⟨hw,hx⟩,-⟩:=h;obtain ⟨k,y,p,bb,an,tg,tx,kc,lc,fc,hh,tr⟩:=x;have hb:bx[b]?=some (pre++(.int .i64 k::.int .i64 y::.int .i64 p::.int .i64 bb::.str an::.str tg::.str tx::kc::lc::fc::.bool hh::.str tr::post)):=hx.1;have ho:=hx.2;refine ama.UK rfl hw ?_;have B:=V.base ae.nil
  conv=>whnf
  repeat' (first
  |((with_reducible refine (?_:∃c:List AV,_∧_));refine ⟨_,hb,?_⟩;conv=>whnf)
  |((with_reducible refine (?_:zl (pre++_) _ _));(first|refine bU ho ?_|refine bF ho ?_);conv=>whnf)
  |with_reducible refine WP.seq ?_
  |(with_reducible first|refine Go.mk ?_|refine WP.afy B (au 118) [] ?_|refine gZ.same ?_|refine WP.draw B (au 118) ?_|refine WP.cond ?_|refine WP.exit ?_|refine WP.skip ?_|refine WP.ret ?_);conv=>whnf
  |(with_reducible refine (?_:wv _=true->aN _=true->_));intro hwr hwb
  |(with_reducible refine (?_:aN _=true->_));intro hw;conv=>whnf
  |with_reducible refine WP.block ?_
  |with_reducible assumption
  |with_reducible refine And.intro ?_ ?_
  |exact cL
  |(with_reducible intro h);first|(cases h;done)|(try simp only [lG,reduceCtorEq] at h);first|done|(exfalso;omega)|replace h:=h trivial aZ|replace h:=h aZ|skip
  |fail)
  all_goals (refine af.mk hwr hwb fun K hK=>?_;obtain ⟨pre',x',post',⟨-,hx'⟩,hK⟩:=hK;obtain ⟨rfl,rfl,rfl⟩:=hx.inj hx';refine Eq.mp (congrArg (fun b=>K (.bool b) bx) ?_) hK)
  ·show decide (k=1∧y=1∧tx=ByteArray.empty)=decide (tx=ByteArray.empty);simp only [*,true_and]
  ·show decide (k=1∧y=1∧tx=ByteArray.empty)=false;simp only [*,false_and,and_false,decide_false]
  ·show decide (k=1∧y=1∧tx=ByteArray.empty)=false;simp only [*,false_and,and_false,decide_false]
 ·exact h.elim
def Ce.off (x:Ce):Ce:=match x.h with
 |true=>{x with h:=false,tr:=ByteArray.empty}
 |false=>x
def c72:az:=fun args bx K=>match args with
 |[.ptr b o]=>∃(pre:List AV) (x:Ce) (post:List AV),(aN bx=true∧Bi bx b o pre x post)∧∀bx':List (List AV),bx'.length=bx.length->Bi bx' b o pre x.off post->(∀j,j≠b->bx'[j]?=bx[j]?)->K (cs (mQ x.h x.tr)) bx'
 |_=>False
def aqj:=fN 72 Tryz.f72 22 [.tmp 2]
theorem afL:az.OK Tryz.prog 72 c72:=by
 intro args bx K0 h;unfold c72 at h;split at h
 ·rename_i b o;obtain ⟨pre,x,post,⟨hw,hx⟩,-⟩:=h;obtain ⟨k,y,p,bb,an,tg,tx,kc,lc,fc,hh,tr⟩:=x;have hb:bx[b]?=some (pre++(.int .i64 k::.int .i64 y::.int .i64 p::.int .i64 bb::.str an::.str tg::.str tx::kc::lc::fc::.bool hh::.str tr::post)):=hx.1;have ho:=hx.2;refine aqj.UK rfl hw ?_;have B:=V.base ae.nil
  conv=>whnf
  repeat' (first
  |((with_reducible refine (?_:∃c:List AV,_∧_));refine ⟨_,aZ,?_⟩;conv=>whnf)
  |((with_reducible refine (?_:zl (pre++_) _ _));(first|refine bU ho ?_|refine bF ho ?_);conv=>whnf)
  |((with_reducible refine (?_:lJ (pre++_) _ _ _));(first|refine aQ ho ?_|refine aJ ho ?_);conv=>whnf)
  |((with_reducible refine (?_:lJ post _ [] _));refine aI ?_;conv=>whnf)
  |with_reducible refine WP.seq ?_
  |(with_reducible first|refine Go.mk ?_|refine WP.afy B (au 72) [] ?_|refine gZ.same ?_|refine WP.draw B (au 72) ?_|refine WP.cond ?_|refine WP.exit ?_|refine WP.skip ?_|refine WP.ret ?_);conv=>whnf
  |(with_reducible refine (?_:wv _=true->aN _=true->_));intro hwr hwb
  |(with_reducible refine (?_:aN _=true->_));intro hw;conv=>whnf
  |with_reducible refine WP.block ?_
  |with_reducible assumption
  |((with_reducible refine gZ.mk ?_);intro b1 hl1 hb1 hr1;conv=>whnf)
  |((with_reducible refine (?_:AV.y8 _=true));rfl)
  |with_reducible refine And.intro ?_ ?_
  |exact cL
  |(with_reducible intro h);first|(cases h;done)|(try simp only [lG,reduceCtorEq] at h);first|done|(exfalso;omega)|replace h:=h trivial aZ|replace h:=h aZ|skip
  |fail)
  ·subst h;refine af.aW (r2:=cs []) Wk.wO (.refl _) rfl hwb fun K hK=>?_;obtain ⟨pre',x',post',⟨-,hx'⟩,hK⟩:=hK;obtain ⟨rfl,rfl,rfl⟩:=hx.inj hx';exact hK bx rfl hx (fun _ _=>rfl)
  ·subst h;rename_i b0 hl0 hb0 hr0;refine af.mk hwr hwb fun K hK=>?_;obtain ⟨pre',x',post',⟨-,hx'⟩,hK⟩:=hK;obtain ⟨rfl,rfl,rfl⟩:=hx.inj hx';exact hK b1 (hl1.trans hl0) ⟨hb1,ho⟩ (fun j hj=>(hr1 j hj).trans (hr0 j hj))
 ·exact h.elim
end V
end
section
variable [nM]
namespace V
open Ab
open Bk (Cm)
def cr (l:List Cm):AV:=.row 56 2 l.length (eU l)
theorem EU (a b:List Cm):AV.row 56 2 (a.length+b.length) (eU a++eU b)=cr (a++b):=by unfold cr;rw [List.length_append,EW]
theorem Wk.cr (l:List Cm):Wk (cr l) (cs l):=Wk.row
def Nd.ce:Nd->AV->Ce
 |.mk k y p b an tg tx _ lead ag h tr,kc=>⟨k,y,p,b,an,tg,tx,kc,cs lead,cs ag,h,tr⟩
mutual
def qw (bx:List (List AV)):Nd->List AV->List Nat->Prop
 |.mk k y p b an tg tx kids lead ag h tr,c,I=>∃kc,c=(Ce.mk k y p b an tg tx kc (cs lead) (cs ag) h tr).l∧((kids.length=0∧kc=.sl 0 []∧I=[])∨(0<kids.length∧∃q cc J,kc=.dm q 35 12 kids.length∧I=q::J∧bx[q]?=some cc∧fG bx kids cc J))
def fG (bx:List (List AV)):List Nd->List AV->List Nat->Prop
 |[],c,J=>c=[]∧J=[]
 |x::l,c,J=>∃c1 c2 J1 J2,c=c1++c2∧J=J1++J2∧qw bx x c1 J1∧fG bx l c2 J2
end
def fO (bx:List (List AV)) (kids:List Nd) (kc:AV) (I:List Nat):Prop:=(kids.length=0∧kc=.sl 0 []∧I=[])∨(0<kids.length∧∃q cc J,kc=.dm q 35 12 kids.length∧I=q::J∧bx[q]?=some cc∧fG bx kids cc J)
theorem iW {bx:List (List AV)} {x:Nd} {c:List AV} {I:List Nat}:qw bx x c I↔∃kc,c=(x.ce kc).l∧fO bx x.kids kc I:=by cases x;rw [qw];rfl
theorem gY {bx:List (List AV)} {c:List AV} {J:List Nat}:fG bx [] c J↔c=[]∧J=[]:=by rw [fG]
theorem dI {bx:List (List AV)} {x:Nd} {l:List Nd} {c:List AV} {J:List Nat}:fG bx (x::l) c J↔∃c1 c2 J1 J2,c=c1++c2∧J=J1++J2∧qw bx x c1 J1∧fG bx l c2 J2:=by rw [fG]
theorem aal (x:Ce):x.l.length=12:=rfl
theorem qw.len {bx:List (List AV)} {x:Nd} {c:List AV} {I:List Nat} (h:qw bx x c I):c.length=12:=by obtain ⟨kc,rfl,-⟩:=iW.1 h;rfl
theorem fG.len {bx:List (List AV)}:∀{l:List Nd} {c:List AV} {J:List Nat},fG bx l c J->c.length=l.length*12
 |[],c,J,h=>by obtain ⟨rfl,-⟩:=gY.1 h;rfl
 |x::l,c,J,h=>by obtain ⟨c1,c2,J1,J2,rfl,-,h1,h2⟩:=dI.1 h;rw [List.length_append,h1.len,h2.len,List.length_cons];omega
mutual
theorem qw.fr {bx bx':List (List AV)}:∀{x:Nd} {c:List AV} {I:List Nat},qw bx x c I->(∀i ∈ I,bx'[i]?=bx[i]?)->qw bx' x c I
 |.mk k y p b an tg tx kids lead ag h tr,c,I,hh,hI=>by rw [qw] at hh⊢;obtain ⟨kc,h1,h2⟩:=hh;refine ⟨kc,h1,h2.imp id ?_⟩;rintro ⟨h3,q,cc,J,h4,rfl,h5,h6⟩;exact ⟨h3,q,cc,J,h4,rfl,(hI q List.mem_cons_self).trans h5,fG.fr h6 fun i hi=>hI i (List.mem_cons_of_mem _ hi)⟩
theorem fG.fr {bx bx':List (List AV)}:∀{l:List Nd} {c:List AV} {J:List Nat},fG bx l c J->(∀i ∈ J,bx'[i]?=bx[i]?)->fG bx' l c J
 |[],c,J,h,_=>gY.2 (gY.1 h)
 |x::l,c,J,h,hI=>by obtain ⟨c1,c2,J1,J2,rfl,rfl,h1,h2⟩:=dI.1 h;exact dI.2 ⟨c1,c2,J1,J2,rfl,rfl,qw.fr h1 fun i hi=>hI i (List.mem_append_left _ hi),fG.fr h2 fun i hi=>hI i (List.mem_append_right _ hi)⟩
end
theorem fO.fr {bx bx':List (List AV)} {kids:List Nd} {kc:AV} {I:List Nat} (h:fO bx kids kc I) (hI:∀i ∈ I,bx'[i]?=bx[i]?):fO bx' kids kc I:=by refine h.imp id ?_;rintro ⟨h3,q,cc,J,h4,rfl,h5,h6⟩;exact ⟨h3,q,cc,J,h4,rfl,(hI q List.mem_cons_self).trans h5,fG.fr h6 fun i hi=>hI i (List.mem_cons_of_mem _ hi)⟩
mutual
theorem qw.lt {bx:List (List AV)}:∀{x:Nd} {c:List AV} {I:List Nat},qw bx x c I->∀i ∈ I,i<bx.length
 |.mk k y p b an tg tx kids lead ag h tr,c,I,hh=>by
  rw [qw] at hh;obtain ⟨kc,h1,h2⟩:=hh;rcases h2 with ⟨-,-,rfl⟩|⟨h3,q,cc,J,h4,rfl,h5,h6⟩
  ·intro i hi;cases hi
  ·intro i hi;rcases List.mem_cons.1 hi with rfl|hi
   ·exact (List.getElem?_eq_some_iff.1 h5).1
   ·exact fG.lt h6 i hi
theorem fG.lt {bx:List (List AV)}:∀{l:List Nd} {c:List AV} {J:List Nat},fG bx l c J->∀i ∈ J,i<bx.length
 |[],c,J,h=>by obtain ⟨-,rfl⟩:=gY.1 h;intro i hi;cases hi
 |x::l,c,J,h=>by
  obtain ⟨c1,c2,J1,J2,rfl,rfl,h1,h2⟩:=dI.1 h;intro i hi;rcases List.mem_append.1 hi with hi|hi
  ·exact qw.lt h1 i hi
  ·exact fG.lt h2 i hi
end
theorem fO.lt {bx:List (List AV)} {kids:List Nd} {kc:AV} {I:List Nat} (h:fO bx kids kc I):∀i ∈ I,i<bx.length:=by
 rcases h with ⟨-,-,rfl⟩|⟨h3,q,cc,J,h4,rfl,h5,h6⟩
 ·intro i hi;cases hi
 ·intro i hi;rcases List.mem_cons.1 hi with rfl|hi
  ·exact (List.getElem?_eq_some_iff.1 h5).1
  ·exact fG.lt h6 i hi
theorem wY {bx:List (List AV)}:∀{a r:List Nd} {c:List AV} {J:List Nat},fG bx (a++r) c J↔∃c1 c2 J1 J2,c=c1++c2∧J=J1++J2∧fG bx a c1 J1∧fG bx r c2 J2
 |[],r,c,J=>by
  constructor
  ·intro h;exact ⟨[],c,[],J,rfl,rfl,gY.2 ⟨rfl,rfl⟩,h⟩
  ·rintro ⟨c1,c2,J1,J2,rfl,rfl,h1,h2⟩;obtain ⟨rfl,rfl⟩:=gY.1 h1;exact h2
 |x::a,r,c,J=>by
  rw [List.cons_append];constructor
  ·intro h;obtain ⟨c1,c2,J1,J2,rfl,rfl,h1,h2⟩:=dI.1 h;obtain ⟨d1,d2,K1,K2,rfl,rfl,g1,g2⟩:=wY.1 h2;exact ⟨c1++d1,d2,J1++K1,K2,(List.append_assoc ..).symm,(List.append_assoc ..).symm,dI.2 ⟨c1,d1,J1,K1,rfl,rfl,h1,g1⟩,g2⟩
  ·rintro ⟨c1,c2,J1,J2,rfl,rfl,h1,h2⟩;obtain ⟨d1,d2,K1,K2,rfl,rfl,g1,g2⟩:=dI.1 h1;exact dI.2 ⟨d1,d2++c2,K1,K2++J2,List.append_assoc ..,List.append_assoc ..,g1,wY.2 ⟨d2,c2,K2,J2,rfl,rfl,g2,h2⟩⟩
theorem fG.one {bx:List (List AV)} {x:Nd} {c:List AV} {J:List Nat} (h:qw bx x c J):fG bx [x] c J:=dI.2 ⟨c,[],J,[],(List.append_nil _).symm,(List.append_nil _).symm,h,gY.2 ⟨rfl,rfl⟩⟩
theorem sF {l m:List Cm} (h:cs l=cs m):l=m:=by unfold cs at h;rw [AV.sl.injEq] at h;exact qg h.2
theorem Z7 {l m:List Cm} (h:cr l=cr m):l=m:=by unfold cr at h;rw [AV.row.injEq] at h;exact qg h.2.2.2
mutual
theorem qw.inj {bx:List (List AV)}:∀{x x':Nd} {c:List AV} {I I':List Nat},qw bx x c I->qw bx x' c I'->x=x'∧I=I'
 |.mk k y p b an tg tx kids lead ag h tr,.mk k' y' p' b' an' X6 XV kids' F5 F9 h' V7,c,I,I',hh,hh'=>by
  rw [qw] at hh hh';obtain ⟨kc,h1,h2⟩:=hh;obtain ⟨Za,h1',h2'⟩:=hh';have e:=Ce.inj (h1.symm.trans h1');simp only [Ce.mk.injEq] at e;obtain ⟨rfl,rfl,rfl,rfl,rfl,rfl,rfl,rfl,e1,e2,rfl,rfl⟩:=e;obtain rfl:=sF e1;obtain rfl:=sF e2;have key:kids=kids'∧I=I':=by
   rcases h2 with ⟨g1,g2,rfl⟩|⟨g1,q,cc,J,g2,rfl,g3,g4⟩
   ·rcases h2' with ⟨f1,f2,rfl⟩|⟨f1,q',cc',J',f2,rfl,f3,f4⟩
    ·exact ⟨by rw [List.eq_nil_of_length_eq_zero g1,List.eq_nil_of_length_eq_zero f1],rfl⟩
    ·rw [g2] at f2;cases f2
   ·rcases h2' with ⟨f1,f2,rfl⟩|⟨f1,q',cc',J',f2,rfl,f3,f4⟩
    ·rw [g2] at f2;cases f2
    ·rw [g2,AV.dm.injEq] at f2;obtain ⟨rfl,-,-,-⟩:=f2;rw [g3,Option.some.injEq] at f3;subst f3;obtain ⟨e3,e4⟩:=fG.inj g4 f4;exact ⟨e3,by rw [e4]⟩
  rw [key.1];exact ⟨rfl,key.2⟩
theorem fG.inj {bx:List (List AV)}:∀{l l':List Nd} {c:List AV} {J J':List Nat},fG bx l c J->fG bx l' c J'->l=l'∧J=J'
 |[],[],c,J,J',h,h'=>by obtain ⟨-,rfl⟩:=gY.1 h;obtain ⟨-,rfl⟩:=gY.1 h';exact ⟨rfl,rfl⟩
 |[],x::l',c,J,J',h,h'=>by have:=h.len;have h2:=h'.len;rw [List.length_cons] at h2;simp only [List.length_nil] at this;omega
 |x::l,[],c,J,J',h,h'=>by have:=h.len;have h2:=h'.len;rw [List.length_cons] at this;simp only [List.length_nil] at h2;omega
 |x::l,x'::l',c,J,J',h,h'=>by obtain ⟨c1,c2,J1,J2,rfl,rfl,h1,h2⟩:=dI.1 h;obtain ⟨d1,d2,K1,K2,e,rfl,g1,g2⟩:=dI.1 h';obtain ⟨e1,e2⟩:=List.append_inj e (by rw [h1.len,g1.len]);subst e1 e2;obtain ⟨rfl,rfl⟩:=qw.inj h1 g1;obtain ⟨rfl,rfl⟩:=fG.inj h2 g2;exact ⟨rfl,rfl⟩
end
theorem fO.inj {bx:List (List AV)} {kids kids':List Nd} {kc:AV} {I I':List Nat} (h:fO bx kids kc I) (h':fO bx kids' kc I'):kids=kids'∧I=I':=by
 rcases h with ⟨g1,g2,rfl⟩|⟨g1,q,cc,J,g2,rfl,g3,g4⟩
 ·rcases h' with ⟨f1,f2,rfl⟩|⟨f1,q',cc',J',f2,rfl,f3,f4⟩
  ·exact ⟨by rw [List.eq_nil_of_length_eq_zero g1,List.eq_nil_of_length_eq_zero f1],rfl⟩
  ·rw [g2] at f2;cases f2
 ·rcases h' with ⟨f1,f2,rfl⟩|⟨f1,q',cc',J',f2,rfl,f3,f4⟩
  ·rw [g2] at f2;cases f2
  ·rw [g2,AV.dm.injEq] at f2;obtain ⟨rfl,-,-,-⟩:=f2;rw [g3,Option.some.injEq] at f3;subst f3;obtain ⟨e3,e4⟩:=fG.inj g4 f4;exact ⟨e3,by rw [e4]⟩
theorem aaj {b:List (List AV)} {i:Nat} {pre pre' post post':List AV} {x x':AV} (h:b[i]?=some (pre++x::post)) (h':b[i]?=some (pre'++x'::post')) (hl:pre.length=pre'.length):pre=pre'∧x=x'∧post=post':=by rw [h,Option.some.injEq] at h';obtain ⟨e1,e2⟩:=List.append_inj h' hl;rw [List.cons.injEq] at e2;exact ⟨e1,e2.1,e2.2⟩
theorem Jg:∀(l:List Cm),AV.aA (eU l)=[]
 |[]=>rfl
 |c::l=>by have h:=bn (ay (c::l));exact jc h
theorem sG (x:Ce):AV.aA x.l=AV.ids x.kc++(AV.ids x.lc++AV.ids x.fc):=by simp only [Ce.l,AV.aA,AV.ids,List.nil_append,List.append_nil]
theorem dY (l:List Cm):AV.ids (cs l)=[]:=by rw [cs,AV.ids,Jg]
theorem nD (l:List Cm):AV.ids (cr l)=[]:=by rw [cr,AV.ids,Jg]
theorem dF (a b:List AV):AV.aA (a++b)=AV.aA a++AV.aA b:=by
 induction a with
 |nil=>rfl
 |cons x a ih=>rw [List.cons_append,AV.aA,AV.aA,ih,List.append_assoc]
theorem fO.ids {bx:List (List AV)} {kids:List Nd} {kc:AV} {I:List Nat} (h:fO bx kids kc I):∀i ∈ AV.ids kc,i ∈ I:=by
 rcases h with ⟨-,rfl,rfl⟩|⟨h3,q,cc,J,rfl,rfl,h5,h6⟩
 ·intro i hi;simp [AV.ids,AV.aA] at hi
 ·intro i hi;rw [AV.ids,List.mem_singleton] at hi;rw [hi];exact List.mem_cons_self
theorem Wk.trans {a b c:AV} (h:Wk a b) (k:Wk b c):Wk a c:=⟨fun lim bs w v hr=>k.1 _ _ _ _ (h.1 _ _ _ _ hr),fun hc=>by
 have e1:=k.2 hc;subst e1;exact h.2 hc⟩
theorem qi.trans:∀{a b c:List AV},qi a b->qi b c->qi a c
 |[],b,c,h,k=>by rw [show b=[] from h] at k;exact k
 |x::a,b,c,h,k=>by obtain ⟨y,b',rfl,h1,h2⟩:=h;obtain ⟨z,c',rfl,k1,k2⟩:=k;exact ⟨z,c',rfl,h1.trans k1,qi.trans h2 k2⟩
theorem Bh.trans:∀{a b c:List (List AV)},Bh a b->Bh b c->Bh a c
 |[],b,c,h,k=>by rw [show b=[] from h] at k;exact k
 |x::a,b,c,h,k=>by obtain ⟨y,b',rfl,h1,h2⟩:=h;obtain ⟨z,c',rfl,k1,k2⟩:=k;exact ⟨z,c',rfl,h1.trans k1,Bh.trans h2 k2⟩
theorem Bh.set:∀{bx:List (List AV)} {i:Nat} {c c':List AV},bx[i]?=some c->qi c c'->Bh bx (bx.set i c')
 |[],i,c,c',h,k=>by simp at h
 |x::bx,0,c,c',h,k=>by simp at h;subst h;exact ⟨c',bx,rfl,k,.refl bx⟩
 |x::bx,i+1,c,c',h,k=>⟨x,bx.set i c',rfl,.refl x,Bh.set (by simpa using h) k⟩
theorem af.box {rf:az} {args:List AV} {bx:List (List AV)} {r:AV} {b:List (List AV)} {i:Nat} {c c':List AV} (hb:aN b=true) (hc:b[i]?=some c) (hk:qi c c') (hw:gG c'=true) (h:∀b2:List (List AV),aN b2=true->b2.length=b.length->b2[i]?=some c'->(∀j,j≠i->b2[j]?=b[j]?)->af rf args bx r b2):af rf args bx r b:=by
 have hi:=(List.getElem?_eq_some_iff.1 hc).1;have hwb:aN (b.set i c')=true:=aY.2 fun x hx=>by
  rcases List.mem_or_eq_of_mem_set hx with hx|rfl
  ·exact aY.1 hb x hx
  ·exact hw
 have h9:=h (b.set i c') hwb (by rw [List.length_set]) (List.getElem?_set_self hi) (fun j hj=>List.getElem?_set_ne fun e=>hj e.symm);unfold af at h9⊢;obtain ⟨r2,b3,g1,g2,g3,g4,g5⟩:=h9;exact ⟨r2,b3,g1,(Bh.set hc hk).trans g2,g3,g4,g5⟩
theorem Rk {b:List (List AV)} {i:Nat} {c:List AV} (hb:aN b=true) (hc:b[i]?=some c):gG c=true:=aY.1 hb c (List.mem_of_getElem? hc)
theorem af.cell {rf:az} {args:List AV} {bx:List (List AV)} {r:AV} {b:List (List AV)} {i:Nat} {pre post:List AV} {x y:AV} (hb:aN b=true) (hc:b[i]?=some (pre++x::post)) (hk:Wk x y) (hw:gG [y]=true) (h:∀b2:List (List AV),aN b2=true->b2.length=b.length->b2[i]?=some (pre++y::post)->(∀j,j≠i->b2[j]?=b[j]?)->af rf args bx r b2):af rf args bx r b:=by
 refine af.box hb hc (qi.app (qi.refl pre) (.cons hk (.refl post))) ?_ h;have h0:=Rk hb hc;rw [dP] at h0⊢;intro v hv;rcases List.mem_append.1 hv with hv|hv
 ·exact h0 v (List.mem_append_left _ hv)
 ·rcases List.mem_cons.1 hv with rfl|hv
  ·exact dP.1 hw _ List.mem_cons_self
  ·exact h0 v (List.mem_append_right _ (List.mem_cons_of_mem _ hv))
theorem zM (l:List Cm):gG [cs l]=true:=by rw [dP];intro v hv;rw [List.mem_singleton.1 hv];exact ⟨rfl,D9 l⟩
end V
set_option maxRecDepth 100000
namespace V
open Ab
open Bk (Cm)
def am9:az:=fun args bx K=>match args with
 |[.ptr b o,.ptr s 0]=>∃(pre:List AV) (l:List Cm) (post:List AV) (acc:List Cm),(aN bx=true∧b≠s∧bx[b]?=some (pre++cs l::post)∧pre.length=o∧bx[s]?=some [cr acc]∧acc.length+l.length<=10000000000)∧∀bx':List (List AV),bx'.length=bx.length->bx'[b]?=some (pre++cs []::post)->bx'[s]?=some [cr (acc++l)]->(∀j,j≠b->j≠s->bx'[j]?=bx[j]?)->K (.bW []) bx'
 |_=>False
def al3:=fN 125 Tryz.f125 10 []
theorem aj3:az.OK Tryz.prog 125 am9:=by
 intro args bx K0 h;unfold am9 at h;split at h
 ·rename_i b o s;obtain ⟨pre,l,post,acc,⟨hw,hne,hb,ho,hs,hn⟩,-⟩:=h;refine al3.UK rfl hw ?_;have B:=V.base ae.nil;have zE:Ev _ _ _ (au 125) [] []:=⟨B⟩;have hl:bx.length=bx.length:=rfl;have hb0:=hb;have hs0:=hs;have ha:∀j,j≠b->j≠s->bx[j]?=bx[j]?:=fun _ _ _=>rfl
  conv=>whnf
  repeat' (first
  |((with_reducible refine (?_:∃c:List AV,_∧_));refine ⟨_,(by first|exact hb|exact hs),?_⟩;conv=>whnf)
  |refine nX ?_;conv=>whnf
  |(with_reducible refine (?_:wv _=true->aN _=true->_));intro hwr hwb
  |(with_reducible refine (?_:aN _=true->_));intro hw;conv=>whnf
  |with_reducible assumption
  |((with_reducible refine gZ.mk (i:=s) ?_);intro b1 hl1 hb1 hr1;replace hb:=(hr1 b hne).trans hb;replace hs:=hb1;replace hl:=hl1.trans hl;replace ha:=(fun j h1 h2=>(hr1 j h2).trans (ha j h1 h2));conv=>whnf)
  |((with_reducible refine gZ.mk (i:=b) ?_);intro b1 hl1 hb1 hr1;replace hs:=(hr1 s (Ne.symm hne)).trans hs;replace hb:=hb1;replace hl:=hl1.trans hl;replace ha:=(fun j h1 h2=>(hr1 j h1).trans (ha j h1 h2));conv=>whnf)
  |(first|with_reducible refine bU ho ?_|with_reducible refine bF ho ?_|with_reducible refine aQ ho ?_|with_reducible refine aJ ho ?_|with_reducible refine aI ?_);conv=>whnf
  |with_reducible refine And.intro ?_ ?_
  |exact cL
  |(with_reducible intro h);first|(cases h;done)|(try simp only [lG,reduceCtorEq] at h);first|done|(exfalso;omega)|replace h:=h trivial aZ|replace h:=h aZ|skip
  |fail)
  refine af.cell hwb (x:=.nil) (y:=cs []) hb Wk.wO (zM []) fun b2 hw2 hl2 hb2 hr2=>?_;refine af.mk hwr hw2 fun K hK=>?_;obtain ⟨pre',l',post',acc',⟨-,-,hb',ho',hs',-⟩,hK⟩:=hK;obtain ⟨rfl,e1,rfl⟩:=aaj hb0 hb' oM;obtain rfl:=sF e1;rw [hs0,Option.some.injEq,List.cons.injEq] at hs';obtain rfl:=Z7 hs'.1;have hs1:b1[s]?=some [AV.row 56 2 (acc.length+l.length) (eU acc++eU l)]:=hs;rw [EU] at hs1;exact hK b2 (hl2.trans hl) hb2 ((hr2 s (Ne.symm hne)).trans hs1) (fun j h1 h2=>(hr2 j h1).trans (ha j h1 h2))
 ·exact h.elim
theorem Xp.same:∀bx:List (List AV),Xp bx bx
 |[]=> .nil
 |x::bx=> .cons .refl (Xp.same bx)
theorem QQ.toB:∀{bx:List (List AV)} {i:Nat} {c c':List AV},bx[i]?=some c->QQ c c'->Xp bx (bx.set i c')
 |[],i,c,c',h,k=>by simp at h
 |x::bx,0,c,c',h,k=>by simp at h;subst h;exact .cons k (Xp.same bx)
 |x::bx,i+1,c,c',h,k=> .cons .refl (QQ.toB (by simpa using h) k)
theorem WvT.same:∀tm:Tm,WvT tm tm
 |[]=> .nil
 |(k,x)::tm=> .cons .refl (WvT.same tm)
theorem oG {b:List (List AV)} {i:Nat} {c:List AV} (hb:aN b=true) (hc:gG c=true):aN (b.set i c)=true:=aY.2 fun x hx=>by
 rcases List.mem_or_eq_of_mem_set hx with hx|rfl
 ·exact aY.1 hb x hx
 ·exact hc
theorem WP.CY {P:Program} {n0 base:Nat} {Q:zV->aF->Prop} {c:Code} {tm:Tm} {bx:List (List AV)} {i:Nat} {x x':List AV} (hx:bx[i]?=some x) (hk:QQ x x') (hw:gG x'=true) (h:∀b2:List (List AV),b2.length=bx.length->b2[i]?=some x'->(∀j,j≠i->b2[j]?=bx[j]?)->WP P n0 base c ⟨tm,b2⟩ Q):WP P n0 base c ⟨tm,bx⟩ Q:=by have hi:=(List.getElem?_eq_some_iff.1 hx).1;have hr:Rx base ⟨tm,bx⟩ ⟨tm,bx.set i x'⟩:=fun hσ=>Rx.wv (QQ.toB hx hk) (WvT.same tm) ⟨hσ.tm,oG hσ.bx hw⟩ hσ;exact WP.pJ hr (h _ (by rw [List.length_set]) (List.getElem?_set_self hi) (fun j hj=>List.getElem?_set_ne fun e=>hj e.symm))
theorem SQ {lim:Nat->Nat} {bs:List Nat} {w:World} {bx:List (List AV)} {r:AV} {v:Value} {m:Nat->Prop} {n:Nat} (H:aB lim bs w bx (rS r v) m) (hn:n<=bx.length) (hcl:gB n bx) (hr:∀i ∈ AV.ids r,i<n):aB lim ((List.range n).map fun i=>bs.getD i 0) w (bx.take n) (rS r v) m∧∀(i b:Nat),i<n->bs[i]?=some b->((List.range n).map fun i=>bs.getD i 0)[i]?=some b:=by
 have hc:∀c ∈ bx.take n,∀i ∈ AV.aA c,i<n:=by intro c hc i hi;obtain ⟨j,hj⟩:=List.getElem?_of_mem hc;obtain ⟨h1,h2⟩:=iK hj;exact hcl.out j c h1 h2 i hi
 have hS:∀k,∀i ∈ (rS r v k).1.ids,i<n:=by
  intro k i hi;unfold rS at hi;split at hi
  ·exact hr i hi
  ·simp [AV.ids] at hi
 obtain ⟨HP,Qo,-⟩:=H.pick (List.nodup_range (n:=n)) (BL hn) (fun c h i hi=>List.mem_range.2 (hc c h i hi)) (fun k i hi=>List.mem_range.2 (hS k i hi));have hrn:(bx.take n).map (AV.aG (List.range n).idxOf)=bx.take n:=(List.map_congr_left fun c h=>iI fun i hi=>rP (hc c h i hi)).trans (List.map_id _);have hfun:(fun k=>((rS r v k).1.bP (List.range n).idxOf,(rS r v k).2))=rS r v:=by funext k;rw [su fun i hi=>rP (hS k i hi)]
 rw [hrn,hfun] at HP;exact ⟨HP,fun i b hi hb=>Qo i i b (List.getElem?_range hi) hb⟩
variable {P : Program} {T : kZ} {sp : Sp} {n0 base : Nat} {σ τ : aF} {Q : zV -> aF -> Prop} {cal : BR}
def Xz (T:kZ) (σ:aF) (rs:List ResultVar) (n:Nat) (G:AV->List (List AV)->Prop):Prop:=
 JV T σ rs fun vs=>abL vs fun v=>n<=σ.bx.length∧gB n σ.bx∧uV n [v]∧∀b:List (List AV),b.length=n->(∀j,j<n->b[j]?=σ.bx[j]?)->Go (JM v fun v=>G v b)
def ams (T:kZ) (rs:List ResultVar) (n:Nat) (G:AV->List (List AV)->Prop) (e:zV) (τ:aF):Prop:=
 match e with
 |.exit _=>False
 |_=>Xz T τ rs n G
theorem acM (HT:mM P T) {f:Nat} {fn:Func} {c:Code} (hf:P.funcs[f]?=some fn) (hg:sS fn=true) (hb:fn.body=some c) {args:List AV} {bx:List (List AV)} (ha:iE args=true) (hbx:aN bx=true) {G:AV->List (List AV)->Prop} (h:WP P fn.ntmps bx.length c ⟨params [] 0 args,bx⟩ (ams T fn.results.toList bx.length G)):∃r bx',aV P f args bx r bx'∧wv r=true∧aN bx'=true∧G r bx':=by
 unfold sS at hg;rw [Bool.and_eq_true] at hg;obtain ⟨hg1,hg2⟩:=hg;rw [hb] at hg2;obtain ⟨e,σ,h1,h2,h3⟩:=WP.out h hg2 ⟨qE ha rfl,hbx⟩;have he:(e=.normal∨e=.ret)∧Xz T σ fn.results.toList bx.length G:=by
  cases e with
  |normal=>exact ⟨.inl rfl,h3⟩
  |ret=>exact ⟨.inr rfl,h3⟩
  |exit i=>exact h3.elim
 obtain ⟨he,h3⟩:=he;unfold Xz at h3;obtain ⟨vs,q1,q2,q3⟩:=Cf (n:=bx.length) h2 h3;rw [Mc] at q3;obtain ⟨q3,q4,q5,q6⟩:=q3;have hlt:(σ.bx.take bx.length).length=bx.length:=by rw [List.length_take];omega
 have q7:=q6 (σ.bx.take bx.length) hlt (fun j hj=>by rw [List.getElem?_take,if_pos hj]);unfold Go at q7;rw [Az] at q7;have tX:∀i ∈ AV.ids (kH vs),i<bx.length:=fun i hi=>q5.out i (by rw [AV.aA,AV.aA,List.append_nil];exact hi);refine ⟨kH vs,σ.bx.take bx.length,?_,uq q2,Ox h2.bx,q7⟩;refine ⟨⟨fn,hf,by simpa using hg1,by rw [hb];rfl⟩,Nat.le_of_eq hlt.symm,fun lim bs w ws m hl hm H=>?_⟩;refine calls_of_wp hf hb ?_;have hsz:fn.ntmps<=(ws.toArray++Array.replicate (fn.ntmps-ws.toArray.size) undef).size:=kU;have hbs:bs.length=bx.length:=H.len;refine h1 (m:=m) hsz (Nat.le_refl _) (kW hl H) hm fun lim' bs' w' a' hgo=>?_;obtain ⟨u,u1,u2⟩:=jw (fn:=fn) HT hgo.hold q1;obtain ⟨u3,u4⟩:=SQ u2 q3 q4 tX;have hpost:a'.defers=[]∧∃v,(results fn a'.tmps).run P w'=.ok v w'∧(∃v' lim' bs',Ending.returned v=.returned v'∧aB lim' bs' w' (σ.bx.take bx.length) (rS (kH vs) v') m∧Fr m lim w lim' w'∧∀i,i<bx.length->bs'[i]?=bs[i]?):=by refine ⟨hgo.df,u,u1,u,lim',_,rfl,u3,hgo.fr,fun i hi=>?_⟩;have hib:i<bs.length:=oM;rw [List.getElem?_eq_getElem hib];exact u4 i _ hi (hgo.pre i _ hi (List.getElem?_eq_getElem hib))
 rcases he with rfl|rfl
 ·exact hpost
 ·exact hpost
theorem Fn.okD {f:Nat} {fn:Func} {c:Code} {n0:Nat} {rs:List ResultVar} (F:Fn Tryz.prog f fn c n0 rs) {rf:az} {args:List AV} {bx:List (List AV)} (ha:iE args=true) (hbx:aN bx=true) (h:PR args fun tm=>sV c fun c=>WP Tryz.prog n0 bx.length c ⟨tm,bx⟩ (ams jJ rs bx.length fun r b=>wv r=true->aN b=true->af rf args bx r b)):∃r bx',aV Tryz.prog f args bx r bx'∧wv r=true∧aN bx'=true∧∀K,rf args bx K->K r bx':=by have h:=jW (Dj h);rw [←F.nt,←F.rs] at h;obtain ⟨r,b,h1,h2,h3,h4⟩:=acM tok F.at_ F.jK F.body ha hbx h;have h4:=h4 h2 h3;unfold af at h4;obtain ⟨r2,b2,g1,g2,g3,g4,g5⟩:=h4;exact ⟨r2,b2,aV.aW h1 g1 g2 g3 g4,g3,g4,g5⟩
theorem uV.pure {n:Nat} {ys:List AV} (h:AV.aA ys=[]):uV n ys:=.mk fun i hi=>by rw [h] at hi;cases hi
theorem uV.ptr {n b o:Nat} (h:b<n):uV n [.ptr b o]:=.mk fun i hi=>by rw [AV.aA,AV.aA,AV.ids,List.append_nil,List.mem_singleton] at hi;rw [hi];exact h
end V
namespace V
open Ab
open Bk (Cm)
def Jy:List (ByteArray×Int×Bool)->List AV
 |[]=>[]
 |(t,k,g)::l=> .str t::.int .i64 k::.bool g::Jy l
def oh:List (ByteArray×Int×Bool)->Nat
 |[]=>0
 |(t,_,_)::l=>t.size+oh l
theorem MZ:∀a b,Jy (a++b)=Jy a++Jy b
 |[],b=>rfl
 |(t,k,g)::a,b=>by rw [List.cons_append,Jy,Jy,MZ a b];rfl
theorem lY:∀a b,oh (a++b)=oh a+oh b
 |[],b=>by rw [List.nil_append,oh,Nat.zero_add]
 |(t,k,g)::a,b=>by rw [List.cons_append,oh,oh,lY a b,Nat.add_assoc]
theorem MX:∀l,mi (Jy l)=true
 |[]=>rfl
 |(t,k,g)::l=>by rw [Jy,mi,mi,mi,MX l];rfl
theorem GX:∀l,(Jy l).length=l.length*3
 |[]=>rfl
 |(t,k,g)::l=>by rw [Jy,List.length_cons,List.length_cons,List.length_cons,GX l,List.length_cons];omega
def VR (n:Nat) (l:List AV) (L:List (ByteArray×Int×Bool)):Prop:=n=L.length∧l=Jy L
theorem VR.mk (L:List (ByteArray×Int×Bool)):VR L.length (Jy L) L:=⟨rfl,rfl⟩
theorem VR.app (L:List (ByteArray×Int×Bool)) {t:ByteArray} {k:Int} {g:Bool}:VR (L.length+1) (Jy L++[.str t,.int .i64 k,.bool g]) (L++[(t,k,g)]):=⟨by rw [List.length_append];rfl,by rw [MZ];rfl⟩
theorem aqR {L:List (ByteArray×Int×Bool)} {i:Nat} {K:List AV->Prop} (hi:i<L.length) (h:∀t k g,oh (L.take (i+1))=oh (L.take i)+t.size->oh (L.take (i+1))<=oh L->K [.str t,.int .i64 k,.bool g]):∃x r,(Jy L).drop (i*3)=x++r∧x.length=3∧K x:=by
 rcases hx:L[i] with ⟨t,k,g⟩;have hs:L=L.take i++(t,k,g)::L.drop (i+1):=by rw [←hx,List.getElem_cons_drop,List.take_append_drop]
 have h1:L.take (i+1)=L.take i++[(t,k,g)]:=by rw [←hx,List.take_append_getElem]
 have hl:(L.take i).length=i:=by rw [List.length_take];omega
 have h2:oh (L.take (i+1))=oh (L.take i)+t.size:=by rw [h1,lY];rfl
 have h3:oh (L.take (i+1))<=oh L:=by have:=congrArg oh (List.take_append_drop (i+1) L);rw [lY] at this;omega
 have h4:(Jy L).drop (i*3)=.str t::.int .i64 k::.bool g::Jy (L.drop (i+1)):=by
  conv=>lhs;rw [hs,MZ]
  rw [List.drop_append_of_le_length (by rw [GX,hl];exact Nat.le_refl _),List.drop_of_length_le (by rw [GX,hl];exact Nat.le_refl _)];rfl
 exact ⟨_,_,h4,rfl,h t k g h2 h3⟩
theorem anL {c:Int}:∀(lim:Nat->Nat) (w:World) (vs':List Value),AV.Rs lim [] w [.int .i32 c] vs'->vs'=[.int .i32 c]:=by intro lim w vs' h;simp only [AV.Rs,AV.R] at h;obtain ⟨v,r,rfl,rfl,rfl⟩:=h;rfl
def amY:az:=fun args bx K=>match args,bx with
 |[.int .i32 r],[]=>Bk.gI r=true∧∀t:ByteArray,t.size<=4->K (.str t) []
 |_,_=>False
theorem ajW:az.OK Tryz.prog 139 amY:=by
 intro args bx K0 h;unfold amY at h;split at h
 ·exact ⟨.str (Bk.sJ _),[],C9 ⟨_,rfl,rfl,rfl⟩ rfl anL (fun _ _=>aaQ (Nat.le_trans (Bk.Gh _) dE)) fun w=>Xd _ w h.1,rfl,rfl,fun K hK=>hK.2 _ (Bk.Gh _)⟩
 ·exact h.elim
theorem U3 (c:Int):∀f k i,Bk.IP c f k=some i->i<k+f
 |0,k,i,h=>by simp [Bk.IP] at h
 |f+1,k,i,h=>by
  rw [Bk.IP] at h;split at h
  ·cases h;omega
  ·have:=U3 c f (k+1) i h;omega
theorem OE:∀i,i<18->Bk.gI (Bk.OG i)=true:=dK
def amZ:az:=fun args bx K=>match args,bx with
 |[.str s,.int .i64 a],[]=>(s.size<=900000∧0<=a∧a<s.size∧bt s a.toNat=92)∧(∀r e:Int,Bk.gI r=true->(a<e∧e<=s.size)->K (.bW [.int .i32 r,.int .i64 e,.int .i64 0]) [])∧K (.bW [.int .i32 0,.int .i64 a,.int .i64 5]) []
 |_,_=>False
theorem agH {s:ByteArray} {q:Nat} {r:Int} {e:Nat} (h:Bk.Ti s q=some (r,e)):Bk.gI r=true∧q+2<=e∧e<=s.size:=by
 unfold Bk.Ti at h;split at h
 ·cases h
 ·split at h
  ·rename_i i hi;cases h;exact ⟨OE _ (by have:=U3 _ _ _ _ hi;omega),Nat.le_refl _,oM⟩
  ·split at h
   ·cases h
   ·rename_i hn;split at h
    ·split at h
     ·rename_i hs;cases h;exact ⟨hs,oM,oM⟩
     ·cases h
    ·cases h
theorem ajX:az.OK Tryz.prog 138 amZ:=by
 intro args bx K0 h;unfold amZ at h;split at h
 ·rename_i s a;obtain ⟨⟨h0,h1,h2,h3⟩,-⟩:=h;obtain ⟨k,rfl⟩:∃k:Nat,a=k:=⟨a.toNat,oM⟩;have hc:=fun w=>Tf s k w (Nat.le_trans h0 dE) oM h3;cases hq:Bk.Ti s k with
  |some r=>
   obtain ⟨r,e⟩:=r;have hb:=agH hq;rw [hq] at hc;exact ⟨.bW [.int .i32 r,.int .i64 e,.int .i64 0],[],C9 (u:=.tuple #[.int .i32 r,.int .i64 e,.int .i64 0]) ⟨_,rfl,rfl,rfl⟩ rfl NT (fun _ _=>by rw [AV.R];refine ⟨_,rfl,?_⟩;simp only [AV.Rs,AV.R];exact ⟨_,_,rfl,rfl,_,_,rfl,rfl,_,_,rfl,rfl,rfl⟩) fun w=>hc w,rfl,rfl,fun K hK=>hK.2.1 r e hb.1 ⟨oM,oM⟩⟩
  |none=>
   rw [hq] at hc;exact ⟨.bW [.int .i32 0,.int .i64 k,.int .i64 5],[],C9 (u:=.tuple #[.int .i32 0,.int .i64 k,.int .i64 5]) ⟨_,rfl,rfl,rfl⟩ rfl NT (fun _ _=>by rw [AV.R];refine ⟨_,rfl,?_⟩;simp only [AV.Rs,AV.R];exact ⟨_,_,rfl,rfl,_,_,rfl,rfl,_,_,rfl,rfl,rfl⟩) fun w=>hc w,rfl,rfl,fun K hK=>hK.2.2⟩
 ·exact h.elim
def amX:az:=fun args bx K=>match args,bx with
 |[.str s,.int .i64 a,.int .i64 n],[]=>(s.size<=900000∧0<=a∧a<=s.size)∧∀b:Int,K (.int .i64 b) []
 |_,_=>False
def alP:=fN 140 Tryz.f140 33 [.tmp 6]
theorem aiY.xt {p:Prop} (g:p:=by ((first|((with_reducible refine (?_:af _ _ _ _ _));first|exact af.aW kV kV iD iD fun K hK=>hK.2 _)|fail);(repeat' (first|exact dw|fail));first|done|fail)):p:=g
theorem ajU:az.OK Tryz.prog 140 amX:=by
 intro args bx K0 h;unfold amX at h;split at h
 ·rename_i s a n;obtain ⟨⟨h0,h1,h2⟩,-⟩:=h;refine alP.okW (base:=0) rfl iD iD ?_;have B:=V.base (ae.cons YF (ae.cons abX (ae.cons ajA (ae.cons JH ae.nil))))
  conv=>whnf
  let zA:=(au 140)
  open aiY in exact dw
 ·exact h.elim
def am0:az:=fun args bx K=>match args,bx with
 |[.sl n l],[]=>∃L,VR n l L∧(1<=L.length∧oh L+2*L.length<=90000000)∧∀t:ByteArray,K (.str t) []
 |_,_=>False
def JL (L:List (ByteArray×Int×Bool)) (j:Nat) (τ:aF):Prop:=∃(L':List (ByteArray×Int×Bool)) (i b:Int) (g:Bool) (t:ByteArray),L'=L∧(1<=i∧i<=L'.length)∧0<=b∧(t.size+b<=oh (L'.take i.toNat)+2*i)∧j=((L'.length:Int)-i).toNat∧τ=⟨[(6,.int .i64 i),(5,.bool g),(4,.int .i64 b),(3,.str t),(0,.sl L'.length (Jy L'))],[]⟩
theorem JL.mk {L L':List (ByteArray×Int×Bool)} {i b:Int} {g:Bool} {t:ByteArray} (hL:L'=L) (h1:1<=i∧i<=L'.length) (h2:0<=b) (h3:t.size+b<=oh (L'.take i.toNat)+2*i):JL L ((L'.length:Int)-i).toNat ⟨[(6,.int .i64 i),(5,.bool g),(4,.int .i64 b),(3,.str t),(0,.sl L'.length (Jy L'))],[]⟩:=⟨L',i,b,g,t,hL,h1,h2,h3,rfl,rfl⟩
theorem aiP {i b:Int} {g:Bool} {t t1:ByteArray} {k1:Int} {g1:Bool} {n:Nat} {L:List (ByteArray×Int×Bool)}:Rx 0 ⟨[(6,.int .i64 i),(5,.bool g),(4,.int .i64 b),(3,.str t),(0,.sl n (Jy L))],[[.str t1,.int .i64 k1,.bool g1]]⟩ ⟨[(6,.int .i64 i),(5,.bool g),(4,.int .i64 b),(3,.str t),(0,.sl n (Jy L))],[]⟩:=Rx.pick [] dE (by intro i hi;omega) .nil (.cons (.same rfl) (.cons (.same rfl) (.cons (.same rfl) (.cons (.same rfl) (.cons (.same rfl) .nil))))) ⟨by simp [uh,wv,MX],rfl⟩
theorem bkZ {k j:Nat} {τ τ':aF} {I:Nat->aF->Prop} (hi:I j τ') (hr:Rx 0 τ τ') (hj:j<k):∃j τ',j<k∧Rx 0 τ τ'∧I j τ':=⟨j,τ',hj,hr,hi⟩
def alQ:=fN 137 Tryz.f137 61 [.tmp 2]
theorem aiX.xt {p:Prop} (g:p:=by ((first|((with_reducible refine (?_:(_:Nat)<_));(simp only [GX,List.length_drop,List.length_cons] at*;omega))|(refine ⟨_,_,rfl,?_⟩)|((with_reducible refine Or.inl (?_:ByteArray.size _+ByteArray.size _<=_));(try simp only [Bk.aT,ByteArray.size_extract] at*);omega)|((with_reducible refine (?_:WP _ _ _ (.loop _) _ _));(apply WP.loop (JL ((t0,k0,g0)::L0)));(case h0=>exact JL.mk rfl ⟨oM,oM⟩ oM (by simp [oh];omega));(case' h=>(rintro j τ ⟨L,i,b,g,t,hL,⟨p1,p2⟩,p3,p4,rfl,rfl⟩;rw [←hL] at h2)))|((with_reducible refine (?_:∃x r:List AV,_=x++r∧_));refine aqR oM ?_;intro t1 k1 g1 f1 f2)|((with_reducible refine (?_:∃(j:Nat) (τ':aF),j<_∧Rx 0 _ τ'∧_));refine bkZ (JL.mk hL ⟨oM,oM⟩ oM ?_) aiP oM;rw [show (i+1).toNat=i.toNat+1 by omega];(try simp only [Bk.aT] at*);omega)|((with_reducible refine (?_:af _ _ _ _ _));first|exact af.aW kV kV iD iD fun K hK=>(hK.elim fun L h=>h.2.2 _))|fail);(repeat' (first|exact dw|fail));first|done|fail)):p:=g
theorem ajY:az.OK Tryz.prog 137 am0:=by
 intro args bx K0 h;unfold am0 at h;split at h
 ·obtain ⟨L,⟨rfl,rfl⟩,⟨h1,h2⟩,-⟩:=h;refine alQ.okW (base:=0) rfl (by simp [iE,wv,MX]) rfl ?_;have B:=V.base (ae.cons UN ae.nil);obtain ⟨⟨t0,k0,g0⟩,L0,rfl⟩:∃x L0,L=x::L0:=by cases L with|nil=>simp at h1|cons x r=>exact ⟨x,r,rfl⟩
  conv=>whnf
  have e32:({data:=#[32]}:ByteArray).size=1:=rfl;let zA:=(au 137)
  open aiX in exact dw
 ·exact h.elim
def aeM:Gm:=⟨[[0,1,2],[0,1,2,37],[6,7,8,9],[0,1,2,10],[0,1,2,10,11],[0,1,2,10,11,12],[0,2,10,11,12,13],[0,2,10,11,12,13,45],[6,7,8,9],[0,2,10,11,12,13,52],[0,2,10,11,12,13],[0,2,10,11,12,13],[0,2,10,11,12,13],[0,2,10,11,12,13,86],[11,13],[6,7,8,9],[0,2,10,11,12,13,103],[0,2,10,11,12,13,14,15,16],[0,2,10,11,12,13,14,15,16,135],[6,7,8,9],[0,2,10,11,12,15],[0,2,10,11,12,15],[0,2,10,11,12,13],[0,2,10,11,12,13,149],[0,2,10,11,12,13,179],[0,2,10,11,12,13],[0,2,10,11,12,13,193],[0,2,10,11,12,13],[0,2,10,11,12,13],[0,2,10,11,12,13,203],[0,2,10,11,12,13],[0,2,10,11,12,13],[0,2,10,11,12,13],[0,2,10,11,12,13],[0,2,10,11,12,13],[0,2,10,11,12,13],[0,2,10,11,12,13,227],[0,2,10,11,12,13,17],[0,2,10,11,12,13,17,233],[6,7,8,9]],[],false,[],[]⟩
def QL (s:ByteArray) (a n c:Int) (j:Nat) (τ:aF):Prop:=∃(p k:Int) (L:List (ByteArray×Int×Bool)) (t:ByteArray),(a<p∧p<=s.size+2)∧(0<=k∧k<=t.size)∧(oh L+2*L.length+t.size:Int)<=4*(p-a)∧j=((s.size:Int)+3-p).toNat∧τ=⟨[(13,.int .i64 p),(12,.ptr 0 0),(11,.row 154 3 L.length (Jy L)),(10,.int .u8 c),(2,.int .i64 n),(0,.str s)],[[.str t,.int .i64 k,.bool false]]⟩
theorem QL.mk {s t:ByteArray} {a n c p k:Int} {N:Nat} {C:List AV} {L:List (ByteArray×Int×Bool)} (hL:VR N C L) (h1:a<p∧p<=s.size+2) (h2:0<=k∧k<=t.size) (h3:(oh L+2*L.length+t.size:Int)<=4*(p-a)):QL s a n c ((s.size:Int)+3-p).toNat ⟨[(13,.int .i64 p),(12,.ptr 0 0),(11,.row 154 3 N C),(10,.int .u8 c),(2,.int .i64 n),(0,.str s)],[[.str t,.int .i64 k,.bool false]]⟩:=by obtain ⟨rfl,rfl⟩:=hL;exact ⟨p,k,L,t,h1,h2,h3,rfl,rfl⟩
theorem arb {s t:ByteArray} {n c p k:Int} {g:Bool}:Rx 0 ⟨[(13,.int .i64 p),(12,.ptr 0 0),(11,.nil),(10,.int .u8 c),(2,.int .i64 n),(0,.str s)],[[.str t,.int .i64 k,.bool g]]⟩ ⟨[(13,.int .i64 p),(12,.ptr 0 0),(11,.row 154 3 ([]:List (ByteArray×Int×Bool)).length (Jy [])),(10,.int .u8 c),(2,.int .i64 n),(0,.str s)],[[.str t,.int .i64 k,.bool g]]⟩:=
 Rx.wv (.cons .refl .nil) (.cons .refl (.cons .refl (.cons .lM (.cons .refl (.cons .refl (.cons .refl .nil)))))) ⟨rfl,rfl⟩
def al0:=fN 127 Tryz.f127 235 [.tmp 6,.tmp 7,.tmp 8,.tmp 9]
theorem UQ:az.OK Tryz.prog 127 aaw:=by
 intro args bx K0 h;unfold aaw at h;split at h
 ·rename_i s a n;obtain ⟨⟨h0,h1,h2⟩,-⟩:=h;refine al0.okW (base:=0) rfl iD iD ?_;have B:=V.base (ae.cons YD (ae.cons ajY (ae.cons ajX (ae.cons ajW (ae.cons ajU ae.nil)))));have e39:({data:=#[39]}:ByteArray).size=1:=rfl
  conv=>whnf
  repeat' (first
  |with_reducible refine WP.seq ?_
  |(with_reducible first|refine Go.mk ?_|refine WP.qy B aeM ?_|refine WP.draw B aeM ?_|refine WP.cond ?_|refine WP.exit ?_|refine WP.skip ?_|refine WP.ret ?_);conv=>whnf
  |with_reducible refine WP.block ?_
  |with_reducible assumption
  |((with_reducible refine (?_:WP _ _ _ (.loop _) _ _));refine WP.pJ arb ?_;apply WP.loop (QL s a n _);(case h0=>exact QL.mk (VR.mk []) ⟨oM,oM⟩ ⟨oM,oM⟩ (by simp [oh];omega));(case' h=>(rintro j τ ⟨p,k,L,t,⟨g1,g2⟩,⟨g3,g4⟩,g5,rfl,rfl⟩)))
  |((with_reducible refine (?_:∃(j:Nat) (τ':aF),j<_∧Rx 0 _ τ'∧_));first|refine bkZ (QL.mk (by first|exact VR.app _|exact VR.mk _) ⟨oM,oM⟩ ⟨(by (try simp only [lL,Bk.aT,ByteArray.size_empty,Int.toNat_zero,ByteArray.size_extract,lY,oh] at*);omega),(by (try simp only [lL,Bk.aT,ByteArray.size_empty,Int.toNat_zero,ByteArray.size_extract,lY,oh] at*);omega)⟩ (by (try simp only [lL,Bk.aT,ByteArray.size_empty,Int.toNat_zero,ByteArray.size_extract,lY,oh] at*);omega)) Rx.refl oM|refine bkZ (QL.mk (by first|exact VR.app _|exact VR.mk _) ⟨oM,oM⟩ ⟨(by (try simp only [lL,Bk.aT,ByteArray.size_empty,Int.toNat_zero,ByteArray.size_extract,lY,oh] at*);omega),(by (try simp only [lL,Bk.aT,ByteArray.size_empty,Int.toNat_zero,ByteArray.size_extract,lY,oh] at*);omega)⟩ (by (try simp only [lL,Bk.aT,ByteArray.size_empty,Int.toNat_zero,ByteArray.size_extract,lY,oh] at*);omega)) (Rx.prune [0,2,10,11,12,13]) oM)
  |((with_reducible refine (?_:∃L,VR _ _ L∧_));refine ⟨_,by first|exact VR.app _|exact VR.mk _,⟨(by (try simp only [lL,Bk.aT,ByteArray.size_empty,Int.toNat_zero,ByteArray.size_extract,lY,oh] at*);omega),(by (try simp only [lL,Bk.aT,ByteArray.size_empty,Int.toNat_zero,ByteArray.size_extract,lY,oh] at*);omega)⟩,?_⟩)
  |((with_reducible refine Or.inl (?_:ByteArray.size _+ByteArray.size _<=_));(try simp only [Bk.aT,ByteArray.size_extract] at*);omega)
  |(with_reducible refine (?_:af _ _ _ _ _));first|exact af.aW kV kV iD iD fun K hK=>hK.2.1 _ _ _ ⟨oM,oM⟩|exact af.aW kV kV iD iD fun K hK=>hK.2.2
  |with_reducible refine And.intro ?_ ?_
  |exact cL
  |(with_reducible intro h);first|(cases h;done)|(try simp only [lG,reduceCtorEq] at h);first|done|(exfalso;omega)|replace h:=h trivial aZ|replace h:=h aZ|skip
  |fail)
 ·exact h.elim
end V
end
section
variable [nM]
namespace V
open Ab
open Bk (Cm)
theorem LX (blk:Bool):∀(c:List Cm) (l:List Nd),(iG blk c l).1.length=l.length
 |c,[]=>by rw [iG]
 |c,x::l=>by rw [iG];simp only [List.length_cons];rw [LX blk _ l]
theorem MV (blk:Bool):∀(c:List Cm) (l:List Nd),(iU blk c l).1.length=l.length
 |c,[]=>by rw [iU]
 |c,[x]=>by rw [iU]
 |c,x::v::l=>by rw [iU];simp only [List.length_cons];rw [MV blk _ l]
theorem ak7 (b:Bool) (l:List Nd):(mD b l).1.length=l.length:=by unfold mD;split<;>rfl
end V
end
end Go.Proofs.YtlmjabnkjmfcmaaGreat
