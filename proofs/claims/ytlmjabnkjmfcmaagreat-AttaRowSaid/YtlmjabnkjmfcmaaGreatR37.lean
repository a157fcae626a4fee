/- Parts of a proof; no condition. -/
import Derived.Test.YtlmjabnkjmfcmaaGreatR32
import Derived.Test.YtlmjabnkjmfcmaaGreatR36
namespace Go.Proofs.YtlmjabnkjmfcmaaGreat
open Go Go.RowKit Go.PlainAid
set_option linter.unusedVariables false
set_option linter.unusedSimpArgs false
set_option linter.unusedSectionVars false
set_option maxHeartbeats 20000000
set_option linter.defProp false
section
variable [nM]
set_option maxRecDepth 100000
namespace V
open Ab
open Bk (Cm)
theorem amy {a post:List Cm} {c:Cm} {n:Nat} (hn:n=a.length):List.drop (n*2) (eU (a++c::post))=[.str c.t,.int .i64 c.b]++eU post:=by subst hn;rw [EW,←jM,List.drop_left];cases c;rfl
theorem lC {a post:List Nd} {x:Nd} {n:Nat} (hn:n=a.length):List.drop (n*12) (aO (a++x::post))=bV x++aO post:=by subst hn;rw [nV,←eY,List.drop_left,afT]
def c17:az:=fun args bx K=>match args,bx with
 |[.sl n l,.sl m k],[]=>∃L:List Cm,fP n l L∧((fP m k L∧L.length<=9000000000)∧K (.bool true) [])
 |_,_=>False
def CL (L:List Cm) (j:Nat) (τ:aF):Prop:=∃a r:List Cm,L=a++r∧j=r.length∧τ=⟨[(5,.int .i64 a.length),(1,cs L),(0,cs L)],[]⟩
def aqN:=fN 17 Tryz.f17 26 [.tmp 4]
theorem ahy.xt {p:Prop} (g:p:=by ((first|exact FK|((with_reducible refine (?_:∃x r,List.drop _ (eU _)=x++r∧_));refine ⟨[.str c0.t,.int .i64 c0.b],eU post,(by rw [hk];exact amy oM),rfl,?_⟩)|exact OQ|exact OU|((with_reducible refine (?_:WP _ _ _ (.loop _) _ _));(apply WP.loop (CL L));(case h0=>exact ⟨[],L,rfl,rfl,rfl⟩);(case' h=>(rintro j τ ⟨a,r,hk,rfl,rfl⟩;have e1:=congrArg List.length hk;rw [List.length_append] at e1;rcases r with _|⟨c0,post⟩;all_goals (first|(rw [List.length_cons] at e1)|(rw [List.length_nil] at e1)))))|((with_reducible refine (?_:∃(j:Nat) (τ':aF),j<_∧Rx 0 _ τ'∧_));(refine ⟨post.length,_,?_,Rx.refl,a++[c0],post,by rw [hk];simp,rfl,by rw [List.length_append];rfl⟩);(try simp only [List.length_cons]);omega)|((with_reducible refine (?_:af _ _ _ _ _));first|exact af.aW kV kV wV5 wV5 fun K hK=>(Xv (fP.mk L) hK).2)|fail);(repeat' (first|exact dw|fail));first|done|fail)):p:=g
theorem atM:az.OK Tryz.prog 17 c17:=by
 intro args bx K0 h;unfold c17 at h;split at h
 ·rename_i n l m k;obtain ⟨L,⟨rfl,rfl⟩,⟨⟨rfl,rfl⟩,h1⟩,-⟩:=h;refine aqN.okW (base:=0) rfl wV5 wV5 ?_;have B:=V.base ae.nil
  conv=>whnf
  let zA:=(au 17)
  open ahy in exact dw
 ·exact h.elim
def c18:az:=fun args bx K=>match args,bx with
 |[.sl n l,.sl m k],[]=>∃ts:List ByteArray,Oi n l ts∧((Oi m k ts∧ts.length<=9000000000)∧K (.bool true) [])
 |_,_=>False
def TXL (ts:List ByteArray) (j:Nat) (τ:aF):Prop:=∃i:Int,(0<=i∧i<=ts.length)∧j=((ts.length:Int)-i).toNat∧τ=⟨[(5,.int .i64 i),(1,.sl ts.length (bM ts)),(0,.sl ts.length (bM ts))],[]⟩
def aqM:=fN 18 Tryz.f18 26 [.tmp 4]
theorem ahx.xt {p:Prop} (g:p:=by ((first|exact FK|exact ve|exact lZ|((with_reducible refine (?_:WP _ _ _ (.loop _) _ _));(apply WP.loop (TXL ts));(case h0=>exact ⟨0,⟨oM,oM⟩,rfl,rfl⟩);(case' h=>(rintro j τ ⟨i,⟨g1,g2⟩,rfl,rfl⟩)))|exact Fh|((with_reducible refine (?_:af _ _ _ _ _));first|exact af.aW kV kV wV5 wV5 fun K hK=>(exS ⟨rfl,rfl⟩ hK).2)|fail);(repeat' (first|exact dw|fail));first|done|fail)):p:=g
theorem ao3:az.OK Tryz.prog 18 c18:=by
 intro args bx K0 h;unfold c18 at h;split at h
 ·rename_i n l m k;obtain ⟨ts,⟨rfl,rfl⟩,⟨⟨rfl,rfl⟩,h1⟩,-⟩:=h;refine aqM.okW (base:=0) rfl wV5 wV5 ?_;have B:=V.base ae.nil
  conv=>whnf
  let zA:=(au 18)
  open ahx in exact dw
 ·exact h.elim
def c10:az:=fun args bx K=>match args,bx with
 |[],[]=>K (.bool true) []
 |_,_=>False
theorem ao7:az.OK Tryz.prog 10 c10:=by
 intro args bx K0 h;unfold c10 at h;split at h
 ·exact ⟨.bool true,[],QJ,rfl,rfl,fun K hK=>hK⟩
 ·exact h.elim
def c13:az:=fun args bx K=>match args,bx with
 |[.agg dc,.bool blk],[]=>∃d:Dc,dc=wJ d∧((jT d.root<=3210000000∧lW d.root+d.ag.length<=3210000000∧d.head.length<=60000∧d.jL.length<=20000∧Vj d.root=true∧LU d.root=true)∧K (.agg (wJ (pF blk d))) [])
 |_,_=>False
theorem asu {a post:List Dc} {d:Dc} {n:Nat} (hn:n=a.length):List.drop (n*16) (fF (a++d::post))=wJ d++fF post:=by subst hn;rw [D7,←qf,List.drop_left,fF]
theorem Su (x:Nd) (l:List Cm):jT (x.ld l)=jT x:=by cases x;rw [Nd.ld,jT,jT]
mutual
theorem KC:∀x:Nd,jT (aX x).1=jT x
 |.mk k y p b an tg tx kids lead ag h tr=>by rw [aX,jT,jT,IK kids]
theorem IK:∀l:List Nd,eP (aU l).1=eP l
 |[]=>rfl
 |x::l=>by rw [aU,eP,eP,IK l,Su,KC x]
end
theorem ab1 (x:Nd) (c:List Cm):jT (lV x c).1=jT x:=by
 unfold lV;split
 ·cases x;rw [Nd.bare,jT,jT]
 ·rfl
theorem WC (b:Bool) (l:List Nd):eP (mD b l).1=eP l:=by
 unfold mD;split
 ·rw [eP,eP,Su]
 ·rfl
theorem ab2 {blk:Bool} {k y p b:Int} {an tg tx:ByteArray} {kids:List Nd} {lead ag:List Cm} {h:Bool} {tr:ByteArray} {c:List Cm}:jT (uT blk k y p b an tg tx kids lead ag h tr c).1=1+eP kids:=by
 unfold uT;split
 ·rw [jT]
 ·split
  ·rw [jT]
  ·rw [jT]
mutual
theorem MP (blk:Bool):∀(pre c:List Cm) (x:Nd),jT (bJ blk pre c x).1=jT x
 |pre,c,.mk k y p b an tg tx [] lead ag h tr=>by
  rw [bJ];split
  ·rw [jT,jT]
  ·rw [jT,jT]
 |pre,c,.mk k y p b an tg tx (x::l) lead ag h tr=>by
  rw [bJ];split
  ·simp only [];rw [ab2,WC,jT];split
   ·rw [UT blk c (x::l)]
   ·rw [UU blk c (x::l)]
  ·rw [jT,jT]
theorem UT (blk:Bool):∀(c:List Cm) (l:List Nd),eP (iG blk c l).1=eP l
 |c,[]=>by rw [iG]
 |c,x::l=>by rw [iG];simp only [];rw [eP,eP,MP blk c [] x,UT blk _ l]
theorem UU (blk:Bool):∀(c:List Cm) (l:List Nd),eP (iU blk c l).1=eP l
 |c,[]=>by rw [iU]
 |c,[x]=>by rw [iU]
 |c,x::v::l=>by rw [iU];simp only [];rw [eP,eP,eP,eP,Su,KC,ab1,MP blk _ [] v,UU blk _ l]
end
theorem OY (blk:Bool) (d:Dc):jT (pF blk d).root=jT d.root:=MP blk [] [] d.root
theorem OZ (blk:Bool) (d:Dc):lW (pF blk d).root+(pF blk d).ag.length<=lW d.root+d.ag.length:=by have:=GZ blk [] [] d.root;simp only [List.length_nil] at this;show lW (bJ blk [] [] d.root).1+((bJ blk [] [] d.root).2++d.ag).length<=_;rw [List.length_append];omega
theorem ZE {ds:List Dc} (h:∀d ∈ ds,DW d):∀d ∈ ds,wZ d:=fun d hd=>(h d hd).jK
theorem PQ {ids:List Nat}:∀{tm:Tm},(∀p ∈ tm,kQ p.2=[])->qC ids tm tm
 |[],_=> .nil
 |(k,v)::r,h=> .cons (.same (h (k,v) (by simp))) (PQ fun p hp=>h p (by simp [hp]))
theorem acR {tm:Tm} {bx:List (List AV)} (h:∀p ∈ tm,kQ p.2=[]):Rx 0 ⟨tm,bx⟩ ⟨tm,[]⟩:=fun hσ=>Rx.pick [] dE (fun i hi=>absurd hi (Nat.not_lt_zero _)) .nil (PQ h) ⟨hσ.tm,rfl⟩ hσ
theorem acI {ds a post:List Dc} {d:Dc} (h:∀d ∈ ds,wZ d) (hk:ds=a++d::post):wZ d:=h d (by rw [hk];simp)
def LT1 (n:Nat) (l:List AV) (blk:Bool) (j:Nat) (τ:aF):Prop:=∃(i:Int) (s:ByteArray),(0<=i∧i<=2)∧s.size<=20000∧j=(2-i).toNat∧τ=⟨[(7,.int .i64 i),(2,.bool blk),(1,.sl n l),(0,.str s)],[]⟩
def c3:az:=fun args bx K=>match args,bx with
 |[.str s,.sl n l,.bool blk],[]=>(∃ks:List Int,(n=ks.length∧l=kT ks))∧K (.bool true) []
 |_,_=>False
theorem aeD {tm:Tm} {b:List AV} {r:List (List AV)} (h:∀p ∈ tm,kQ p.2=[]∨kQ p.2=[0]) (hb:dG b=[]) (hp:qC [0] tm tm):Rx 0 ⟨tm,b::r⟩ ⟨tm,[b]⟩:=fun hσ=>Rx.pick [0] dE (fun i hi=>absurd hi (Nat.not_lt_zero _)) (.same rfl hb .nil) hp ⟨hσ.tm,by
 have:=hσ.bx;rw [aN,Bool.and_eq_true] at this;rw [aN,this.1];rfl⟩ hσ
theorem adO (q:Nat) (x:Nd):yU q x=jE x.lead++yU q (x.ld []):=by cases x;rw [Nd.ld,yU,yU];rfl
mutual
theorem Yh:∀x:Nd,yU 2 (x.ld [])=jE (aX x).2
 |.mk k y p b an tg tx kids lead ag h tr=>by rw [aX,Nd.ld,yU,Ut kids,Du dE];simp [kM,jE,List.append_assoc]
theorem Ut:∀l:List Nd,yE 2 l=jE (aU l).2
 |[]=>by rw [yE,aU];rfl
 |x::l=>by rw [yE,aU,adO,Yh x,Ut l];simp [kM,List.append_assoc]
end
theorem af1 (x:Nd) (l:List Cm):jT (x.ld l)=jT x:=by cases x;rw [Nd.ld,jT,jT]
theorem af2 (x:Nd):lW (x.ld [])<=lW x:=by cases x;rw [Nd.ld,lW,lW,List.length_nil];omega
theorem af4 {x:Nd} (h:Ba (yU 0 x)):Ba (yU 0 (x.ld [])):=by rw [adO,dH] at h;exact h.2
theorem afR (x:Nd):(!(yU 2 (x.ld [])).isEmpty)=QW x:=by rw [Yh,QW];cases (aX x).2<;>rfl
def c86:az:=fun args bx K=>match args,bx with
 |[.agg c0],[]=>∃x:Nd,c0=bV x∧((Ba (yU 0 x)∧jT x<=4000000000∧lW x<=4000000000)∧K (.bool (QW x)) [])
 |_,_=>False
def ap9:=fN 86 Tryz.f86 9 [.tmp 2]
theorem aoD (hB:1000000001<=nM.B):az.OK Tryz.prog 86 c86:=by
 intro args bx K0 h;unfold c86 at h;split at h
 ·rename_i c0;obtain ⟨x,rfl,⟨hbd,hz,hc⟩,-⟩:=h;have hbd2:=af4 hbd;have hz2:jT (x.ld [])<=4000000000:=by rw [af1];exact hz
  have hc2:=Nat.le_trans (af2 x) hc;have hnt:=afR x;have hfin:∀K,c86 [.agg (bV x)] [] K->K (.bool (QW x)) []:=fun K hK=>by obtain ⟨y,e1,-,hK⟩:=hK;rw [tN e1];exact hK
  have ha:iE [.agg (bV x)]=true:=by rw [iE,iE,Bool.and_true];exact bZ (jg _)
  have agr:=MQ x rfl;have hid:=MQ (x.ld []) rfl;revert hid agr ha hfin;obtain ⟨k,y,p,bb,an,tg,tx,kids,lead,ag,hh,tr⟩:=x;unfold bV cs;simp only [Nd.ld,Nd.k,Nd.y,Nd.p,Nd.b,Nd.an,Nd.tg,Nd.tx,Nd.kids,Nd.lead,Nd.ag,Nd.h,Nd.tr];intro hfin ha agr hid;refine ap9.okD ha rfl ?_;have B:=V.base (ae.cons (afJ hB (q:=2) dE 4000000000) ae.nil);have zE:Ev _ _ _ (au 86) [85] []:=⟨B⟩
  conv=>whnf
  repeat (refine nX ?_;conv=>whnf)
  refine wX.mk ?_;intro b1 hl1 hC hr1;have vV:gB b1.length b1:=gB.new (B:=[]) (gB.zero []) hl1 hC hr1 (fun i hi=>by rw [agr] at hi;cases hi);have akZ:b1.length=1:=hl1;have hC0:b1[0]?=some [.int .i64 k,.int .i64 y,.int .i64 p,.int .i64 bb,.str an,.str tg,.str tx,.sl kids.length (aO kids),.sl lead.length (eU lead),.sl ag.length (eU ag),.bool hh,.str tr]:=hC
  conv=>whnf
  repeat (refine nX ?_;conv=>whnf)
  refine wX.mk ?_;intro b2 hl2 hs hr2;have IZ:gB b2.length b2:=vV.new hl2 hs hr2 (fun i hi=>by cases hi);replace hC0:=(hr2 0 oM).trans hC0
  conv=>whnf
  repeat' (first
  |((with_reducible refine (?_:∃c:List AV,_∧_));refine ⟨_,(by first|assumption|exact hC0),?_⟩;(conv=>whnf))
  |refine nX ?_;conv=>whnf
  |with_reducible refine fun(hwr:wv _=true)(hwb:aN _=true)=>?_
  |(with_reducible refine fun(hw:aN _=true)=>?_);conv=>whnf
  |with_reducible assumption
  |((with_reducible refine gZ.mk (i:=b1.length) ?_);intro b3 hl3 hs3 hr3;have DT:=IZ.put hl3 hs3 hr3 rfl;replace hC0:=(hr3 0 oM).trans hC0;(conv=>whnf))
  |((with_reducible refine gZ.mk ?_);intro b4 hl4 hC4 hr4;have SX:=DT.put hl4 hC4 hr4 hid;have hs4:=(hr4 b1.length (show b1.length≠0 by omega)).trans hs3;(conv=>whnf))
  |((with_reducible refine (?_:∃x:Nd,_=bV x∧_));refine ⟨.mk k y p bb an tg tx kids [] ag hh tr,rfl,b1.length,.bool false,⟨rfl,rfl⟩,⟨aZ,SX,hs4,⟨_,rfl⟩,hbd2,hz2,hz2,hc2⟩,?_⟩;intro b5 hl5 hm5 Ar;(conv=>whnf))
  |((with_reducible refine (?_:_∧gB _ _∧_));refine ⟨Nat.zero_le _,gB.zero _,uV.pure rfl,?_⟩;intro b9 xR qA;(conv=>whnf);intro hwr hwb;rw [Sz xR,Bool.false_or];exact af.mk rfl rfl fun K hK=>(congrArg (fun z=>K (.bool z) []) hnt).mpr (hfin K hK))
  |with_reducible refine And.intro ?_ ?_
  |exact cL
  |(with_reducible intro h);first|(try simp only [lG,reduceCtorEq] at h);first|done|(exfalso;omega)|replace h:=h trivial aZ|replace h:=h aZ|skip
  |fail)
  all_goals done
 ·exact h.elim
def c59 (m:Nat):az:=fun args bx K=>match args,bx with
 |[.agg c0],[]=>∃x:Nd,c0=bV x∧((jT x<=m∧jT x<=4000000000∧lW x<=4000000000∧Ba (yU 0 x))∧K (.bool (uH x)) [])
 |_,_=>False
def I59 (kids:List Nd) (C:List AV) (m4:Bool) (j:Nat) (τ:aF):Prop:=∃a r:List Nd,kids=a++r∧j=r.length∧Bg m4 true kids=Bg m4 (decide (a.length % 2=0)) r∧τ=⟨[(8,.int .i64 a.length),(7,.int .i64 kids.length),(6,.sl kids.length (aO kids)),(1,.ptr 0 0)],[C]⟩
theorem acm (m e:Bool) (x:Nd) (l:List Nd):Bg m e (x::l)=((m && e && QW x||uH x)||Bg m (!e) l):=by rw [Bg]
theorem abV {a:List Nd} {x:Nd}:decide ((a++[x]).length % 2=0)=!decide (a.length % 2=0):=by
 rw [List.length_append,List.length_singleton];by_cases h:a.length % 2=0
 ·rw [decide_eq_true h,decide_eq_false oM];rfl
 ·rw [decide_eq_false h,decide_eq_true oM];rfl
theorem adS {n:Nat}:decide (((n:Int)).tmod 2=0)=decide (n % 2=0):=by
 have:((n:Int)).tmod 2=((n % 2:Nat):Int):=by rw [Int.tmod_eq_emod_of_nonneg oM];omega
 rw [this];by_cases h:n % 2=0
 ·rw [h];rfl
 ·rw [decide_eq_false h,decide_eq_false oM]
def aqs:=fN 59 Tryz.f59 30 [.tmp 2]
theorem ajn (hB:1000000001<=nM.B) {m:Nat} (ih:az.OK Tryz.prog 59 (c59 m)):az.OK Tryz.prog 59 (c59 (m+1)):=by
 intro args bx K0 h;unfold c59 at h;split at h
 ·rename_i c0;obtain ⟨x,rfl,⟨h1,h2,h3,h4⟩,-⟩:=h;have hfin:∀K,c59 (m+1) [.agg (bV x)] [] K->K (.bool (uH x)) []:=fun K hK=>by obtain ⟨y,e1,-,hK⟩:=hK;rw [tN e1];exact hK
  revert hfin;obtain ⟨kd,y,p,bb,an,tg,tx,kids,lead,ag,hh,tr⟩:=x;rw [jT] at h1 h2;rw [lW] at h3;rw [yU,dH,dH,dH] at h4;obtain ⟨-,-,h4,-⟩:=h4;have hl2:=IL kids;rw [uH];unfold bV cs;simp only [Nd.k,Nd.y,Nd.p,Nd.b,Nd.an,Nd.tg,Nd.tx,Nd.kids,Nd.lead,Nd.ag,Nd.h,Nd.tr];intro hfin;have B:=V.base (ae.cons ih (ae.cons (aoD hB) ae.nil));refine aqs.okW (base:=0) rfl wV wV ?_
  conv=>whnf
  repeat' (first
  |with_reducible refine WP.seq ?_
  |(with_reducible first|refine Go.mk ?_|refine WP.qy B (au 59) ?_|refine WP.draw B (au 59) ?_|refine WP.cond ?_|refine WP.exit ?_|refine WP.skip ?_|refine WP.ret ?_);conv=>whnf
  |with_reducible refine WP.block ?_
  |with_reducible assumption
  |((with_reducible intro h);exfalso;simp at h;done)
  |((with_reducible refine (?_:∃x:Nd,_=bV x∧_));refine ⟨x0,rfl,?_⟩)
  |((with_reducible refine (?_:∃x r,List.drop _ (aO _)=x++r∧_));refine ⟨bV x0,aO post,(by rw [hk];exact ZV oM),rfl,?_⟩)
  |((with_reducible refine (?_:(_:Nat)<_));(try simp only [lL,eY,jM] at*);omega)
  |(exact hx1)
  |((with_reducible refine (?_:WP _ _ _ (.loop _) _ _));(apply WP.loop (I59 kids _ (decide (kd=4))));(case h0=>exact ⟨[],kids,rfl,rfl,rfl,rfl⟩);(case' h=>(rintro j τ ⟨a,r,hk,rfl,hv,rfl⟩;have e1:=congrArg List.length hk;have e2:=congrArg fD hk;have e3:=congrArg eP hk;rw [List.length_append] at e1;rw [uK] at e2;rw [uF] at e3;rcases r with _|⟨x0,post⟩;all_goals (first|(rw [List.length_cons] at e1;rw [fD] at e2;rw [eP] at e3;rw [acm,←adS] at hv;have hx1:Ba (yU 0 x0):=(by rw [hk,CU,yE,dH,dH] at h4;exact h4.2.1))|(rw [List.length_nil] at e1;rw [Bg] at hv)))))
  |((with_reducible refine (?_:∃(j:Nat) (τ':aF),j<_∧Rx 0 _ τ'∧_));have e9:(decide (kd=4) && decide (((a.length:Nat):Int).tmod 2=0) && QW x0||uH x0)=false:=(by simp [*]);refine ⟨post.length,_,by simp,aeD ?_ ?_ ?_,a++[x0],post,by rw [hk];simp,rfl,by rw [hv,e9,Bool.false_or,abV,adS],by rw [List.length_append];rfl⟩;(focus (simp [kQ,bQ (ai _)]));(focus (simp [dG,kQ,bQ (ai _),bQ (ay _)]));(repeat' (first|exact qC.nil|refine qC.cons ?_ ?_|exact Pk.same rfl|exact Pk.ptr rfl|exact Pk.same (bQ (ai _))));done)
  |((with_reducible refine (?_:af _ _ _ (.bool true) _));have e9:Bg (decide (kd=4)) true kids=true:=(by rw [hv];first|(simp [h];done)|(simp [*];done));exact af.mk rfl rfl fun K hK=>(by have:=hfin K hK;rw [e9] at this;exact this))
  |((with_reducible refine (?_:af _ _ _ (.bool false) _));exact af.mk rfl rfl fun K hK=>(by have:=hfin K hK;rw [hv] at this;exact this))
  |with_reducible refine And.intro ?_ ?_
  |exact cL
  |(with_reducible intro h);first|(try simp only [lG,reduceCtorEq] at h);first|done|(exfalso;omega)|replace h:=h trivial aZ|replace h:=h aZ|skip
  |fail)
  all_goals done
 ·exact h.elim
theorem ajo (hB:1000000001<=nM.B):∀m:Nat,az.OK Tryz.prog 59 (c59 m)
 |0=>by
  intro args bx K0 h;unfold c59 at h;split at h
  ·obtain ⟨x,-,⟨h1,-⟩,-⟩:=h;cases x;rw [jT] at h1;omega
  ·exact h.elim
 |m+1=>ajn hB (ajo hB m)
def BC:List Dc->Bool
 |[]=>false
 |d::l=>uH d.root||BC l
def c28:az:=fun args bx K=>match args,bx with
 |[.agg [.sl n l,.sl m k]],[]=>∃(ds:List Dc) (tl:List Cm),(n=ds.length∧l=fF ds∧m=tl.length∧k=eU tl)∧((∀d ∈ ds,Dsm d)∧Ba (yD 0 ds tl)∧ds.length<=4000000000)∧K (.bool (BC ds)) []
 |_,_=>False
def I28 (ds:List Dc) (C:List AV) (j:Nat) (τ:aF):Prop:=∃a r:List Dc,ds=a++r∧j=r.length∧BC ds=BC r∧τ=⟨[(8,.int .i64 a.length),(7,.int .i64 ds.length),(6,.sl ds.length (fF ds))],[C]⟩
def aqH:=fN 28 Tryz.f28 16 [.tmp 2]
theorem aoY (hB:1000000001<=nM.B):az.OK Tryz.prog 28 c28:=by
 intro args bx K0 h;unfold c28 at h;split at h
 ·rename_i n l m k;obtain ⟨ds,tl,⟨rfl,rfl,rfl,rfl⟩,⟨hds,hbd,hd⟩,-⟩:=h;rw [yD,dH] at hbd;obtain ⟨hbd,-⟩:=hbd;have hfin:∀K,c28 [.agg [.sl ds.length (fF ds),.sl tl.length (eU tl)]] [] K->K (.bool (BC ds)) []:=fun K hK=>by obtain ⟨ds',tl',⟨-,e1,-,e2⟩,-,hK⟩:=hK;obtain rfl:=AL e1;exact hK
  have B:=V.base (ae.cons (ajo hB 4000000000) ae.nil);refine aqH.okW (base:=0) rfl (a27 ds tl) rfl ?_
  conv=>whnf
  repeat' (first
  |with_reducible refine WP.seq ?_
  |(with_reducible first|refine Go.mk ?_|refine WP.qy B (au 28) ?_|refine WP.draw B (au 28) ?_|refine WP.cond ?_|refine WP.exit ?_|refine WP.skip ?_|refine WP.ret ?_);conv=>whnf
  |with_reducible refine WP.block ?_
  |with_reducible assumption
  |((with_reducible intro h);exfalso;simp at h;done)
  |((with_reducible refine (?_:∃x:Nd,_=bV x∧_));refine ⟨d0.root,rfl,?_⟩)
  |((with_reducible refine (?_:∃x r,List.drop _ (fF _)=x++r∧_));refine ⟨wJ d0,fF post,(by rw [hk];exact Tj oM),rfl,?_⟩)
  |((with_reducible refine (?_:(_:Nat)<_));(try simp only [lL,qf,eY,jM] at*);omega)
  |(exact hx1)
  |((with_reducible refine (?_:WP _ _ _ (.loop _) _ _));(apply WP.loop (I28 ds _));(case h0=>exact ⟨[],ds,rfl,rfl,rfl,rfl⟩);(case' h=>(rintro j τ ⟨a,r,hk,rfl,hv,rfl⟩;have e1:=congrArg List.length hk;rw [List.length_append] at e1;rcases r with _|⟨d0,post⟩;all_goals (first|(rw [List.length_cons] at e1;rw [BC] at hv;obtain ⟨k7,k8,k5,k6⟩:=hds d0 (by rw [hk];simp);have hx1:Ba (yU 0 d0.root):=(by rw [hk,yV,lK,Ik,dH,dH,dH,dH] at hbd;exact hbd.2.1.2.1))|(rw [List.length_nil] at e1;rw [BC] at hv)))))
  |((with_reducible refine (?_:∃(j:Nat) (τ':aF),j<_∧Rx 0 _ τ'∧_));refine ⟨post.length,_,by simp,aeD ?_ ?_ ?_,a++[d0],post,by rw [hk];simp,rfl,by rw [hv,h,Bool.false_or],by rw [List.length_append];rfl⟩;(focus (simp [kQ,bQ (kX _)]));(focus (simp [dG,kQ,bQ (kX _),bQ (ay _)]));(repeat' (first|exact qC.nil|refine qC.cons ?_ ?_|exact Pk.same rfl|exact Pk.ptr rfl|exact Pk.same (bQ (kX _))));done)
  |((with_reducible refine (?_:af _ _ _ (.bool true) _));have e9:BC ds=true:=(by rw [hv,h];rfl);exact af.mk rfl rfl fun K hK=>(by have:=hfin K hK;rw [e9] at this;exact this))
  |((with_reducible refine (?_:af _ _ _ (.bool false) _));exact af.mk rfl rfl fun K hK=>(by have:=hfin K hK;rw [hv] at this;exact this))
  |with_reducible refine And.intro ?_ ?_
  |exact cL
  |(with_reducible intro h);first|(try simp only [lG,reduceCtorEq] at h);first|done|(exfalso;omega)|replace h:=h trivial aZ|replace h:=h aZ|skip
  |fail)
  all_goals done
 ·exact h.elim
end V
end
section
variable [nM]
namespace V
open Ab
open Bk (Cm)
theorem zT {N:Nat}:∀{a b:List AV},qp N (a++b)↔qp N a∧qp N b
 |[],b=>by rw [qp];simp
 |x::a,b=>by rw [List.cons_append,qp,qp,zT,and_assoc]
theorem Lj:∀{l:List Cm},qp 1000000000 (eU l)->Ba (jE l)
 |[],_=>fun t ht=>by cases ht
 |c::l,h=>by rw [eU,qp,qp,Ha] at h;rw [P5,aaE,MR];exact ⟨oM,Lj h.2.2⟩
theorem aku {q:Nat} {k:Int} {tx:ByteArray} (h:tx.size<=1000000000):Ba (Ob q k tx):=by
 unfold Ob Qe;intro t ht;split at ht
 ·split at ht
  ·rw [List.mem_singleton.1 ht,zh];omega
  ·split at ht
   ·rw [List.mem_singleton.1 ht,zh];omega
   ·cases ht
 ·cases ht
mutual
theorem aec:∀{x:Nd},qp 1000000000 (bV x)->Ba (yU 0 x)
 |.mk k y p b an tg tx kids lead ag hh tr,h=>by
  unfold bV cs at h;simp only [Nd.k,Nd.y,Nd.p,Nd.b,Nd.an,Nd.tg,Nd.tx,Nd.kids,Nd.lead,Nd.ag,Nd.h,Nd.tr,qp,Ha,and_true,true_and] at h;obtain ⟨-,-,h1,h2,h3,h4,h5⟩:=h;rw [yU,dH,dH,dH,dH];refine ⟨Lj h3,aku h1,YT h2,Lj h4,?_⟩;cases hh with
  |false=>exact fun t ht=>by cases ht
  |true=>
   intro t ht;have:t=nT ⟨tr,0⟩:=by simpa [mQ,jE] using ht
   rw [this,MR];show 1+tr.size<=_;omega
theorem YT:∀{l:List Nd},qp 1000000000 (aO l)->Ba (yE 0 l)
 |[],_=>fun t ht=>by rw [yE] at ht;cases ht
 |x::l,h=>by rw [afT,zT] at h;rw [yE,dH];exact ⟨aec h.1,YT h.2⟩
end
theorem amB {d:Dc} (h:qp 1000000000 (wJ d)):Ba (Ik 0 d):=by obtain ⟨hd,ds,mk,rt,ft⟩:=d;have h2:qp 1000000000 ([cs hd,.sl ds.length (bM ds),.bool mk]++(bV rt++[cs ft])):=h;rw [zT,zT] at h2;obtain ⟨h3,h4,h5⟩:=h2;unfold cs at h3 h5;simp only [qp,Ha,and_true] at h3 h5;rw [Ik,dH,dH];exact ⟨Lj h3.1,aec h4,Lj h5⟩
theorem ZX:∀{l:List Dc},qp 1000000000 (fF l)->Ba (lK 0 l)
 |[],_=>fun t ht=>by rw [lK] at ht;cases ht
 |d::l,h=>by have h:qp 1000000000 (wJ d++fF l):=h;rw [zT] at h;rw [lK,dH];exact ⟨amB h.1,ZX h.2⟩
def ane:az:=fun args bx K=>match args,bx with
 |[.str s],[]=>s.size<=20000∧(∀(ds:List Dc) (tl:List Cm),(∀d ∈ ds,DW d)->(ds.length<=20000∧tl.length<=80000∧xu ds<=3300000000)->Ba (yD 0 ds tl)->K (.bW [.agg [.sl ds.length (fF ds),cs tl],.int .i64 0,.int .i64 0]) [])∧K (.bW [.agg [.sl 0 [],.sl 0 []],.ql .i64,.nz .i64]) []
 |_,_=>False
theorem aj9:az.OK Tryz.prog 11 ane:=by
 intro args bx K0 h;unfold ane at h;split at h
 ·rename_i s;obtain ⟨h0,-⟩:=h;have hA:@nM.B ⟨false⟩=1000000000:=rfl;obtain ⟨r,bx',h1,h2,h3,h4⟩:=@ao6 ⟨false⟩ [.str s] [] (fun _ _=>True) ⟨h0,fun _ _ _ _=>trivial,trivial⟩;obtain ⟨g1,g2⟩:=aV.wide ⟨false⟩ _ nM.lo (by rw [hA];omega) h1;refine ⟨r,bx',g1,h2,h3,fun K hK=>?_⟩;obtain ⟨k0,k1,k2⟩:=hK;have:=h4 (fun r b=>Ha 1000000000 r->K r b) ⟨k0,fun ds tl hd hl hb=>k1 ds tl hd hl ?_,fun _=>k2⟩
  ·exact this g2
  ·unfold cs at hb;simp only [Ha,qp,and_true,true_and] at hb;rw [yD,dH];exact ⟨ZX hb.1,Lj hb.2⟩
 ·exact h.elim
mutual
theorem Yi:∀(x:Nd) (t:ByteArray),t ∈ yU 0 x↔t ∈ jE (jC x)∨t ∈ Ap x
 |.mk k y p b an tg tx kids lead ag h tr,t=>by
  have h0:Ob 0 k tx=Qe k tx:=rfl;rw [yU,jC,Ap,h0];simp only [kM,List.mem_append,Ux kids t];constructor
  ·rintro (h|h|(h|h)|h|h)<;>simp [h]
  ·rintro ((((h|h)|h)|h)|h|h)<;>simp [h]
theorem Ux:∀(l:List Nd) (t:ByteArray),t ∈ yE 0 l↔t ∈ jE (lN l)∨t ∈ EH l
 |[],t=>by rw [yE,lN,EH];simp [jE]
 |x::l,t=>by
  rw [yE,lN,EH];simp only [kM,List.mem_append,Yi x t,Ux l t];constructor
  ·rintro ((h|h)|h|h)<;>simp [h]
  ·rintro ((h|h)|h|h)<;>simp [h]
end
mutual
theorem RI:∀x:Nd,yU 1 x=jE (jC x)
 |.mk k y p b an tg tx kids lead ag h tr=>by rw [yU,jC,Uw kids,Du dE];simp [kM,List.append_assoc]
theorem Uw:∀l:List Nd,yE 1 l=jE (lN l)
 |[]=>by rw [yE,lN];rfl
 |x::l=>by rw [yE,lN,RI x,Uw l,kM]
end
def WS (t:ByteArray):Bool:=decide (0<t.size) && !decide (bt t 0=35)
def yG (l:List ByteArray):List ByteArray:=l.filter WS
theorem vJ (a b:List ByteArray):yG (a++b)=yG a++yG b:=List.filter_append _ _
theorem aaA {b:UInt8} (s:ByteArray):bt (({data:=#[b]}:ByteArray)++s) 0=(b.toNat:Int):=by have e:(({data:=#[b]}:ByteArray)).size=1:=rfl;rw [Bk.adh (by rw [e];decide)];rfl
theorem ZO {b:UInt8} (s:ByteArray) (h:(b.toNat:Int)≠35):WS (({data:=#[b]}:ByteArray)++s)=true:=by unfold WS;rw [aaA,zh,decide_eq_false h,decide_eq_true oM];rfl
theorem Ns:∀l:List Cm,yG (jE l)=[]
 |[]=>rfl
 |c::l=>by
  have e:WS (nT c)=false:=by unfold WS nT;rw [aaA];simp
  have:=Ns l;unfold yG at this⊢;rw [P5,List.filter_cons_of_neg (by rw [e];decide),this]
theorem agE (k:Int) (tx:ByteArray):yG (Ob 0 k tx)=Qe k tx:=by
 show yG (Qe k tx)=Qe k tx;unfold Qe yG;split
 ·rw [List.filter_cons_of_pos (ZO tx dE)];rfl
 ·split
  ·rw [List.filter_cons_of_pos (ZO tx dE)];rfl
  ·rfl
mutual
theorem ZM:∀x:Nd,yG (yU 0 x)=Ap x
 |.mk k y p b an tg tx kids lead ag h tr=>by rw [yU,Ap];simp only [vJ,Ns,agE,Vf kids,List.nil_append,List.append_nil]
theorem Vf:∀l:List Nd,yG (yE 0 l)=EH l
 |[]=>by rw [yE,EH];rfl
 |x::l=>by rw [yE,EH,vJ,ZM x,Vf l]
end
def jl (blk:Bool) (ds:List Dc):List Dc:=ds.map (pF blk)
theorem qF (blk:Bool) (d:Dc) (l:List Dc):jl blk (d::l)=pF blk d::jl blk l:=rfl
theorem abB (blk:Bool) {d:Dc} (h:gN d.root):Ik 1 (pF blk d)=Ik 1 d:=by have h1:jE (jC (pF blk d).root)++jE (pF blk d).ag=jE (jC d.root)++jE d.ag:=(kM _ _).symm.trans ((congrArg jE (O0 blk d.root d.ag h)).trans (kM _ _));rw [Ik,Ik,RI,RI];exact congrArg (jE d.head++·) h1
theorem Ph (blk:Bool):∀{l:List Dc},(∀d ∈ l,wZ d)->lK 1 (jl blk l)=lK 1 l
 |[],_=>rfl
 |d::l,h=>by rw [qF,lK,lK,abB blk (h d List.mem_cons_self).1,Ph blk fun e he=>h e (List.mem_cons_of_mem _ he)]
theorem Vg (d:Dc):yG (Ik 0 d)=Ap d.root:=by rw [Ik];simp only [vJ,Ns,ZM,List.nil_append,List.append_nil]
theorem aez (blk:Bool):∀l:List Dc,yG (lK 0 (jl blk l))=yG (lK 0 l)
 |[]=>rfl
 |d::l=>by have e:Ap (pF blk d).root=Ap d.root:=MW blk [] [] d.root;rw [qF,lK,lK,vJ,vJ,Vg,Vg,e,aez blk l]
theorem Qn (blk:Bool):∀{l:List Dc},(∀d ∈ l,wZ d)->BC (jl blk l)=false
 |[],_=>rfl
 |d::l,h=>by have e:uH (pF blk d).root=false:=SK blk [] [] d.root (h d List.mem_cons_self).1;rw [qF,BC,e,Qn blk fun e he=>h e (List.mem_cons_of_mem _ he)];rfl
theorem Yk (blk:Bool) {d:Dc} (h:gN d.root) (hi:uH d.root=false):Ik 0 (pF blk d)=Ik 0 d:=by have h1:=GR blk [] d.root h hi;rw [Ik,Ik,RH,RH];show jE d.head++(l9 (bJ blk [] [] d.root).1++jE ((bJ blk [] [] d.root).2++d.ag))=_;rw [kM,←List.append_assoc (l9 _),h1];rfl
theorem J7 (blk:Bool):∀{l:List Dc},(∀d ∈ l,wZ d)->BC l=false->lK 0 (jl blk l)=lK 0 l
 |[],_,_=>rfl
 |d::l,h,hi=>by rw [BC,Bool.or_eq_false_iff] at hi;rw [qF,lK,lK,Yk blk (h d List.mem_cons_self).1 hi.1,J7 blk (fun e he=>h e (List.mem_cons_of_mem _ he)) hi.2]
theorem abC (blk:Bool) {d:Dc} (h:gN d.root) {t:ByteArray} (ht:t ∈ Ik 0 (pF blk d)):t ∈ Ik 0 d:=by
 have h1:jE (jC (pF blk d).root)++jE (pF blk d).ag=jE (jC d.root)++jE d.ag:=(kM _ _).symm.trans ((congrArg jE (O0 blk d.root d.ag h)).trans (kM _ _));have e:Ap (pF blk d).root=Ap d.root:=MW blk [] [] d.root;have hk:∀u,u ∈ jE (jC (pF blk d).root)∨u ∈ jE (pF blk d).ag->u ∈ jE (jC d.root)∨u ∈ jE d.ag:=fun u hu=>by
  have:u ∈ jE (jC d.root)++jE d.ag:=by rw [←h1];exact List.mem_append.2 hu
  exact List.mem_append.1 this
 rw [Ik] at ht⊢;simp only [List.mem_append,Yi] at ht⊢;rcases ht with ht|(ht|ht)|ht
 ·exact .inl ht
 ·rcases hk t (.inl ht) with h2|h2
  ·exact .inr (.inl (.inl h2))
  ·exact .inr (.inr h2)
 ·rw [e] at ht;exact .inr (.inl (.inr ht))
 ·rcases hk t (.inr ht) with h2|h2
  ·exact .inr (.inl (.inl h2))
  ·exact .inr (.inr h2)
theorem anB (blk:Bool):∀{l:List Dc},(∀d ∈ l,wZ d)->Ba (lK 0 l)->Ba (lK 0 (jl blk l))
 |[],_,h=>h
 |d::l,h,hb=>by rw [lK,dH] at hb;rw [qF,lK,dH];exact ⟨fun t ht=>hb.1 t (abC blk (h d List.mem_cons_self).1 ht),anB blk (fun e he=>h e (List.mem_cons_of_mem _ he)) hb.2⟩
theorem ZC {d:Dc} (h:wZ d):Dsm d:=by obtain ⟨-,h2,h3,h4,-⟩:=h;exact ⟨oM,oM,oM,oM⟩
theorem abt (blk:Bool) {d:Dc} (h:wZ d):Dsm (pF blk d):=by obtain ⟨-,h2,h3,h4,-⟩:=h;have e1:=OY blk d;have e2:=OZ blk d;have e3:(pF blk d).head=d.head:=rfl;exact ⟨oM,oM,by rw [e3];omega,oM⟩
theorem acQ (blk:Bool) {l:List Dc} (h:∀d ∈ l,wZ d):∀d ∈ jl blk l,Dsm d:=fun d hd=>by obtain ⟨e,he,rfl⟩:=List.mem_map.1 hd;exact abt blk (h e he)
theorem Uz (q:Nat) (d:Dc):(Ik q d).length<=d.head.length+(lW d.root+jT d.root)+d.ag.length:=by have:=Yj q d.root;rw [Ik,List.length_append,List.length_append,jf,jf];omega
theorem Pj (q:Nat):∀{l:List Dc},(∀d ∈ l,DW d)->(lK q l).length<=60000*l.length+2*xu l
 |[],_=>Nat.zero_le _
 |d::l,h=>by have h1:=Uz q d;have h2:=Pj q fun e he=>h e (List.mem_cons_of_mem _ he);obtain ⟨-,-,h3,-⟩:=h d List.mem_cons_self;have h4:=ND d.root;rw [lK,List.length_append,xu,List.length_cons];omega
theorem J9 (q:Nat) (blk:Bool):∀{l:List Dc},(∀d ∈ l,DW d)->(lK q (jl blk l)).length<=60000*l.length+2*xu l
 |[],_=>Nat.zero_le _
 |d::l,h=>by have h1:=Uz q (pF blk d);have h2:=J9 q blk fun e he=>h e (List.mem_cons_of_mem _ he);obtain ⟨-,-,h3,-⟩:=h d List.mem_cons_self;have h4:=ND d.root;have e1:=OY blk d;have e2:=OZ blk d;have e3:(pF blk d).head=d.head:=rfl;rw [e3] at h1;rw [qF,lK,List.length_append,xu,List.length_cons];omega
theorem J5 (blk:Bool) (l:List Dc):(jl blk l).length=l.length:=List.length_map _
structure Rw (blk:Bool) (ds:List Dc) (tl:List Cm):Prop where
 jK:∀d ∈ ds,wZ d
 len:ds.length<=20000
 aiC:tl.length<=80000
 bd:Ba (yD 0 ds tl)
 bdS:Ba (yD 0 (jl blk ds) tl)
 lq:∀q,(yD q ds tl).length<=9000000000
 lqS:∀q,(yD q (jl blk ds) tl).length<=9000000000
 dsm:∀d ∈ ds,Dsm d
 amw:∀d ∈ jl blk ds,Dsm d
 akv:(jl blk ds).length=ds.length
 one:yD 1 (jl blk ds) tl=yD 1 ds tl
 yG:yG (yD 0 (jl blk ds) tl)=yG (yD 0 ds tl)
 inS:BC (jl blk ds)=false
 zero:BC ds=false->yD 0 (jl blk ds) tl=yD 0 ds tl
theorem Rw.mk' (blk:Bool) {ds:List Dc} {tl:List Cm} (h:∀d ∈ ds,DW d) (hl:ds.length<=20000∧tl.length<=80000∧xu ds<=3300000000) (hb:Ba (yD 0 ds tl)):Rw blk ds tl:=by
 have hg:=ZE h;have hb2:=hb;rw [yD,dH] at hb2;refine ⟨hg,hl.1,hl.2.1,hb,?_,fun q=>?_,fun q=>?_,fun d hd=>ZC (hg d hd),acQ blk hg,J5 blk ds,?_,?_,Qn blk hg,fun hi=>?_⟩
 ·rw [yD,dH];exact ⟨anB blk hg hb2.1,hb2.2⟩
 ·have:=Pj q h;rw [yD,List.length_append,jf];omega
 ·have:=J9 q blk h;rw [yD,List.length_append,jf];omega
 ·rw [yD,yD,Ph blk hg]
 ·rw [yD,yD,vJ,vJ,aez]
 ·rw [yD,yD,J7 blk hg hi]
theorem Rw.nil (blk:Bool):Rw blk [] []:=Rw.mk' blk (fun d hd=>by cases hd) ⟨dE,dE,dE⟩ (fun t ht=>by cases ht)
end V
set_option maxRecDepth 100000
namespace V
open Ab
open Bk (Cm)
def c26:az:=fun args bx K=>match args,bx with
 |[.sl n l],[]=>∃L:List ByteArray,(n=L.length∧l=bM L)∧(L.length<=9000000000∧K (.sl (yG L).length (bM (yG L))) [])
 |_,_=>False
def Xy (L:List ByteArray) (j:Nat) (τ:aF):Prop:=∃a r:List ByteArray,L=a++r∧j=r.length∧τ=⟨[(4,.int .i64 a.length),(3,.row 9 1 (yG a).length (bM (yG a))),(0,.sl L.length (bM L))],[]⟩
theorem ZN (a:List ByteArray):(yG a).length<=a.length:=List.length_filter_le _ _
theorem Qs (a:List ByteArray) (t:ByteArray):yG (a++[t])=yG a++(if WS t=true then [t] else []):=by
 rw [vJ];congr 1;unfold yG;by_cases h:WS t=true
 ·rw [List.filter_cons_of_pos h,if_pos h];rfl
 ·rw [List.filter_cons_of_neg h,if_neg h];rfl
theorem amx {a post:List ByteArray} {t:ByteArray} {n:Nat} (hn:n=a.length):List.drop (n*1) (bM (a++t::post))=.str t::bM post:=by subst hn;rw [Nat.mul_one,bM,List.map_append,List.drop_left' (List.length_map _)];rfl
theorem Xy.mk {L a r:List ByteArray} {i:Int} {N:Nat} {C:List AV} (hk:L=a++r) (hi:i=a.length) (hN:N=(yG a).length) (hC:C=bM (yG a)):Xy L r.length ⟨[(4,.int .i64 i),(3,.row 9 1 N C),(0,.sl L.length (bM L))],[]⟩:=by subst hi hN hC;exact ⟨a,r,hk,rfl,rfl⟩
theorem agF {t:ByteArray} (h:0<t.size) (h2:¬bt t (Int.toNat 0)=35):WS t=true:=by unfold WS;rw [decide_eq_true h,decide_eq_false (show ¬bt t 0=35 from h2)];rfl
theorem aeA {t:ByteArray} (h:bt t (Int.toNat 0)=35∨¬0<t.size):¬WS t=true:=by
 unfold WS;rcases h with h|h
 ·rw [decide_eq_true (show bt t 0=35 from h)];simp
 ·rw [decide_eq_false h];simp
theorem Xy.yes {L a r:List ByteArray} {t:ByteArray} {i:Int} {N:Nat} {C:List AV} (hf:WS t=true) (hk:L=a++t::r) (hi:i=a.length+1) (hN:N=(yG a).length+1) (hC:C=bM (yG a)++[.str t]):Xy L r.length ⟨[(4,.int .i64 i),(3,.row 9 1 N C),(0,.sl L.length (bM L))],[]⟩:=by have e8:=Qs a t;rw [if_pos hf] at e8;exact Xy.mk (a:=a++[t]) (by rw [hk];simp) (by rw [hi,List.length_append];rfl) (by rw [hN,e8,List.length_append];rfl) (by rw [hC,e8];exact uw)
theorem Xy.no {L a r:List ByteArray} {t:ByteArray} {i:Int} {N:Nat} {C:List AV} (hf:¬WS t=true) (hk:L=a++t::r) (hi:i=a.length+1) (hN:N=(yG a).length) (hC:C=bM (yG a)):Xy L r.length ⟨[(4,.int .i64 i),(3,.row 9 1 N C),(0,.sl L.length (bM L))],[]⟩:=by have e8:=Qs a t;rw [if_neg hf,List.append_nil] at e8;exact Xy.mk (a:=a++[t]) (by rw [hk];simp) (by rw [hi,List.length_append];rfl) (by rw [hN,e8]) (by rw [hC,e8])
theorem anw {L:List ByteArray} {i:Int}:Rx 0 ⟨[(4,.int .i64 i),(3,.nil),(0,.sl L.length (bM L))],[]⟩ ⟨[(4,.int .i64 i),(3,.row 9 1 (yG []).length (bM (yG []))),(0,.sl L.length (bM L))],[]⟩:=
 Rx.wv .nil (.cons .refl (.cons .lM (.cons .refl .nil))) ⟨by simp [uh,wv,dN],rfl⟩
def aqJ:=fN 26 Tryz.f26 33 [.tmp 2]
theorem ao0:az.OK Tryz.prog 26 c26:=by
 intro args bx K0 h;unfold c26 at h;split at h
 ·rename_i n l;obtain ⟨L,⟨rfl,rfl⟩,h1,-⟩:=h;have hfin:∀K,c26 [.sl L.length (bM L)] [] K->K (.sl (yG L).length (bM (yG L))) []:=fun K hK=>by obtain ⟨L',⟨-,e⟩,-,hK⟩:=hK;rw [Ih e];exact hK
  have B:=V.base ae.nil;refine aqJ.okW (base:=0) rfl (by simp [iE,wv,dN]) rfl ?_
  conv=>whnf
  repeat' (first
  |with_reducible refine WP.seq ?_
  |(with_reducible first|refine Go.mk ?_|refine WP.qy B (au 26) ?_|refine WP.draw B (au 26) ?_|refine WP.cond ?_|refine WP.exit ?_|refine WP.skip ?_|refine WP.ret ?_);conv=>whnf
  |with_reducible refine WP.block ?_
  |with_reducible assumption
  |((with_reducible intro h);exfalso;simp at h;done)
  |((with_reducible refine (?_:(_:Nat)<_));(try simp only [lL,yN,qf,eY,jM] at*);omega)
  |((with_reducible refine (?_:∃(v:AV) (r:List AV),_=v::r∧_));refine ⟨.str t0,bM post,(by rw [hk];exact amx oM),?_⟩)
  |((with_reducible refine (?_:WP _ _ _ (.loop _) _ _));refine WP.pJ anw ?_;(apply WP.loop (Xy L));(case h0=>exact ⟨[],L,rfl,rfl,rfl⟩);(case' h=>(rintro j τ ⟨a,r,hk,rfl,rfl⟩;have e1:=congrArg List.length hk;have e2:=ZN a;rw [List.length_append] at e1;rcases r with _|⟨t0,post⟩;all_goals (first|(rw [List.length_cons] at e1)|(rw [List.length_nil] at e1;rw [List.append_nil] at hk;subst hk)))))
  |((with_reducible refine (?_:∃(j:Nat) (τ':aF),j<_∧Rx 0 _ τ'∧_));first|exact ⟨_,_,by simp,Rx.refl,Xy.yes (agF oM h) hk rfl rfl rfl⟩|exact ⟨_,_,by simp,Rx.refl,Xy.no (aeA (.inl h)) hk rfl rfl rfl⟩|exact ⟨_,_,by simp,Rx.refl,Xy.no (aeA (.inr oM)) hk rfl rfl rfl⟩)
  |((with_reducible refine (?_:af _ _ _ (.sl _ _) _));exact af.mk (dN _) rfl hfin)
  |with_reducible refine And.intro ?_ ?_
  |exact cL
  |(with_reducible intro h);first|(try simp only [lG,reduceCtorEq] at h);first|done|(exfalso;omega)|replace h:=h trivial aZ|replace h:=h aZ|skip
  |fail)
  all_goals done
 ·exact h.elim
def c24:az:=fun args bx K=>match args,bx with
 |[.agg [.sl n l,.sl m k],.bool blk],[]=>∃(ds:List Dc) (tl:List Cm),(n=ds.length∧l=fF ds∧m=tl.length∧k=eU tl)∧(((∀d ∈ ds,wZ d)∧ds.length<=20000)∧K (.agg [.sl (jl blk ds).length (fF (jl blk ds)),.sl tl.length (eU tl)]) [])
 |_,_=>False
def I24 (blk:Bool) (ds:List Dc) (C D:List AV) (j:Nat) (τ:aF):Prop:=∃a r:List Dc,ds=a++r∧j=r.length∧τ=⟨[(6,.int .i64 a.length),(5,.row 37 16 (jl blk a).length (fF (jl blk a))),(4,.ptr 1 0),(2,.ptr 0 0),(1,.bool blk)],[C,D]⟩
theorem RF (blk:Bool) (a:List Dc) (d:Dc):jl blk (a++[d])=jl blk a++[pF blk d]:=List.map_append
theorem I24.mk {blk:Bool} {ds a r:List Dc} {d:Dc} {C D E:List AV} {i:Int} {N:Nat} (hk:ds=a++d::r) (hi:i=a.length+1) (hN:N=(jl blk a).length+1) (hE:E=fF (jl blk a)++wJ (pF blk d)):I24 blk ds C D r.length ⟨[(6,.int .i64 i),(5,.row 37 16 N E),(4,.ptr 1 0),(2,.ptr 0 0),(1,.bool blk)],[C,D]⟩:=by subst hi hN hE;refine ⟨a++[d],r,by rw [hk];simp,rfl,?_⟩;rw [RF,List.length_append,List.length_append,D7,Vo];rfl
theorem anx {blk:Bool} {i:Int} {ds:List Dc} {tl:List Cm}:Rx 0 ⟨[(6,.int .i64 i),(5,.nil),(4,.ptr 1 0),(2,.ptr 0 0),(1,.bool blk)],[[.sl ds.length (fF ds),.sl tl.length (eU tl)],[.nil,.nil]]⟩ ⟨[(6,.int .i64 i),(5,.row 37 16 (jl blk []).length (fF (jl blk []))),(4,.ptr 1 0),(2,.ptr 0 0),(1,.bool blk)],[[.sl ds.length (fF ds),.sl tl.length (eU tl)],[.nil,.nil]]⟩:=
 Rx.wv (Xp.same _) (.cons .refl (.cons .lM (.cons .refl (.cons .refl (.cons .refl .nil))))) ⟨by simp [uh,wv,kX],by simp [aN,gG,wv,AV.one,kX,ay]⟩
theorem w27 (ds:List Dc) (tl:List Cm):wv (.agg [.sl ds.length (fF ds),.sl tl.length (eU tl)])=true:=by have:=a27 ds tl;rw [iE,Bool.and_eq_true] at this;exact this.1
def aqL:=fN 24 Tryz.f24 28 [.cell 4 27]
theorem ao2 (h13:az.OK Tryz.prog 13 c13):az.OK Tryz.prog 24 c24:=by
 intro args bx K0 h;unfold c24 at h;split at h
 ·rename_i n l m k blk;obtain ⟨ds,tl,⟨rfl,rfl,rfl,rfl⟩,⟨hds,hd⟩,-⟩:=h;have hfin:∀K,c24 [.agg [.sl ds.length (fF ds),.sl tl.length (eU tl)],.bool blk] [] K->K (.agg [.sl (jl blk ds).length (fF (jl blk ds)),.sl tl.length (eU tl)]) []:=fun K hK=>by obtain ⟨ds',tl',⟨-,e1,-,e2⟩,-,hK⟩:=hK;obtain rfl:=AL e1;obtain rfl:=qg e2;exact hK
  have B:=V.base (ae.cons h13 ae.nil);refine aqL.okW (base:=0) rfl (by have:=a27 ds tl;rw [iE,Bool.and_eq_true] at this;rw [iE,this.1];rfl) rfl ?_
  conv=>whnf
  repeat' (first
  |with_reducible refine WP.seq ?_
  |(with_reducible first|refine Go.mk ?_|refine WP.qy B (au 24) ?_|refine WP.draw B (au 24) ?_|refine WP.cond ?_|refine WP.exit ?_|refine WP.skip ?_|refine WP.ret ?_);conv=>whnf
  |with_reducible refine WP.block ?_
  |with_reducible assumption
  |((with_reducible intro h);exfalso;simp at h;done)
  |((with_reducible refine (?_:(_:Nat)<_));(try simp only [lL,yN,qf,eY,jM] at*);omega)
  |((with_reducible refine (?_:∃x r,List.drop _ (fF _)=x++r∧_));refine ⟨wJ d0,fF post,(by rw [hk];exact Tj oM),rfl,?_⟩)
  |((with_reducible refine (?_:∃d:Dc,_=wJ d∧_));refine ⟨d0,rfl,?_⟩)
  |(exact q6)
  |(exact q7)
  |((with_reducible refine (?_:WP _ _ _ (.loop _) _ _));refine WP.pJ anx ?_;(apply WP.loop (I24 blk ds _ _));(case h0=>exact ⟨[],ds,rfl,rfl,rfl⟩);(case' h=>(rintro j τ ⟨a,r,hk,rfl,rfl⟩;have e1:=congrArg List.length hk;have e2:=J5 blk a;rw [List.length_append] at e1;rcases r with _|⟨d0,post⟩;all_goals (first|(rw [List.length_cons] at e1;obtain ⟨q1,q2,q3,q4,q5⟩:=acI hds hk;obtain ⟨q6,q7⟩:=aeu _ q1)|(rw [List.length_nil] at e1;rw [List.append_nil] at hk;subst hk)))))
  |((with_reducible refine (?_:AV.y8 _=true));exact bn (qY (pF blk d0)))
  |((with_reducible refine (?_:∃(j:Nat) (τ':aF),j<_∧Rx 0 _ τ'∧_));exact ⟨_,_,by simp,Rx.refl,I24.mk hk rfl rfl rfl⟩)
  |((with_reducible refine (?_:af _ _ _ (.agg _) _));exact af.mk (w27 _ _) rfl hfin)
  |with_reducible refine And.intro ?_ ?_
  |exact cL
  |(with_reducible intro h);first|(try simp only [lG,reduceCtorEq] at h);first|done|(exfalso;omega)|replace h:=h trivial aZ|replace h:=h aZ|skip
  |fail)
  all_goals done
 ·exact h.elim
theorem Nc {L M:List ByteArray} (h:M=L):Oi M.length (bM M) L:=by rw [h];exact ⟨rfl,rfl⟩
theorem Y4 {n:Nat} (h:n<=9000000000):n<=10000000000:=oM
theorem Vl {n:Nat} (h:n<=20000):n<=4000000000:=oM
theorem adI {n:Nat} (h:n<=80000):n<=4000000000:=oM
theorem ZL {L:List ByteArray} (h:L.length<=9000000000):(yG L).length<=9000000000:=Nat.le_trans (ZN L) h
def fn9:=fN 9 Tryz.f9 68 [.tmp 6]
theorem ok9 (hB:1000000001<=nM.B) (h13:az.OK Tryz.prog 13 c13):az.OK Tryz.prog 9 c3:=by
 intro args bx K0 h;unfold c3 at h;split at h
 ·rename_i s n l blk;obtain ⟨⟨ks,⟨rfl,rfl⟩⟩,-⟩:=h;refine fn9.okW (base:=0) rfl (by simp [iE,wv,Dz]) iD ?_;have B:=V.base (ae.cons (ao2 h13) (ae.cons aj9 (ae.cons (aoY hB) (ae.cons (aoZ hB) (ae.cons (ao1 hB) (ae.cons ao7 (ae.cons ao4 (ae.cons ao3 (ae.cons ao0 ae.nil)))))))))
  conv=>whnf
  repeat' (first
  |with_reducible refine WP.seq ?_
  |(with_reducible first|refine Go.mk ?_|refine WP.qy B (au 9) ?_|refine WP.draw B (au 9) ?_|refine WP.cond ?_|refine WP.exit ?_|refine WP.skip ?_|refine WP.ret ?_);conv=>whnf
  |with_reducible refine WP.block ?_
  |with_reducible assumption
  |((with_reducible refine (?_:BC _=true->_));intro h;exfalso;first|exact absurd (hR.inS.symm.trans h) Bool.false_ne_true|exact absurd (show false=true from h) Bool.false_ne_true)
  |((with_reducible refine (?_:∀(ds:List Dc) (tl:List Cm),_->_));intro ds tl g1 g2 g3;have hR:=Rw.mk' blk g1 g2 g3;clear g1 g2 g3)
  |((with_reducible refine (?_:∃(ds:List Dc) (tl:List Cm),(_∧_)∧((_∧(_:Nat)<=_)∧_)));first|(refine ⟨ds,tl,⟨rfl,rfl,rfl,rfl⟩,⟨hR.jK,hR.len⟩,?_⟩)|(refine ⟨[],[],⟨rfl,rfl,rfl,rfl⟩,⟨(Rw.nil blk).jK,(Rw.nil blk).len⟩,?_⟩))
  |((with_reducible refine (?_:∃(ds:List Dc) (tl:List Cm),(_∧_)∧((_∧_∧(_:Nat)<=_)∧_)));first|(refine ⟨ds,tl,⟨rfl,rfl,rfl,rfl⟩,⟨hR.dsm,hR.bd,Vl hR.len⟩,?_⟩)|(refine ⟨jl blk ds,tl,⟨rfl,rfl,rfl,rfl⟩,⟨hR.amw,hR.bdS,(by rw [hR.akv];exact Vl hR.len)⟩,?_⟩)|(refine ⟨[],[],⟨rfl,rfl,rfl,rfl⟩,⟨(Rw.nil blk).dsm,(Rw.nil blk).bd,Nat.zero_le _⟩,?_⟩))
  |((with_reducible refine (?_:∃(ds:List Dc) (tl:List Cm),(_∧_)∧(((_:Nat)<=_∧_)∧_)));first|(refine ⟨ds,tl,⟨rfl,rfl,rfl,rfl⟩,⟨Y4 (hR.lq _),hR.bd,hR.dsm,Vl hR.len,adI hR.aiC⟩,?_⟩)|(refine ⟨jl blk ds,tl,⟨rfl,rfl,rfl,rfl⟩,⟨Y4 (hR.lqS _),hR.bdS,hR.amw,(by rw [hR.akv];exact Vl hR.len),adI hR.aiC⟩,?_⟩)|(refine ⟨[],[],⟨rfl,rfl,rfl,rfl⟩,⟨Y4 ((Rw.nil blk).lq _),(Rw.nil blk).bd,(Rw.nil blk).dsm,Nat.zero_le _,Nat.zero_le _⟩,?_⟩))
  |((with_reducible refine (?_:∃L:List ByteArray,(_∧_)∧((_:Nat)<=_∧_)));refine ⟨_,⟨rfl,rfl⟩,(by first|exact hR.lq 0|exact hR.lqS 0|exact (Rw.nil blk).lq 0),?_⟩)
  |((with_reducible refine (?_:∃ts:List ByteArray,Oi _ _ ts∧_));refine ⟨_,⟨rfl,rfl⟩,⟨(by first|exact Nc hR.one|exact Nc hR.yG|exact Nc (hR.zero aZ)|exact Nc rfl),(by first|exact hR.lq _|exact ZL (hR.lq _)|exact (Rw.nil blk).lq _|exact ZL ((Rw.nil blk).lq _))⟩,?_⟩)
  |((with_reducible intro h);exfalso;simp at h;done)
  |((with_reducible refine (?_:∃ks:List Int,(_=_∧_=_)∧_));refine ⟨_,⟨rfl,rfl⟩,?_⟩)
  |((with_reducible refine (?_:WP _ _ _ (.loop _) _ _));(apply WP.loop (LT1 ks.length (kT ks) blk));(case h0=>exact ⟨0,s,⟨oM,oM⟩,oM,rfl,rfl⟩);(case' h=>(rintro j τ ⟨i,t,⟨g1,g2⟩,g3,rfl,rfl⟩)))
  |((with_reducible refine (?_:∃(j:Nat) (τ':aF),j<_∧Rx 0 _ τ'∧_));(refine ⟨_,_,?_,acR (by simp [kQ]),i+1,_,⟨oM,oM⟩,oM,rfl,rfl⟩);omega)
  |(with_reducible refine (?_:af _ _ _ _ _));first|exact af.aW kV kV iD iD fun K hK=>hK.2
  |with_reducible refine And.intro ?_ ?_
  |exact cL
  |(with_reducible intro h);first|(try simp only [lG,reduceCtorEq] at h);first|done|(exfalso;omega)|replace h:=h trivial aZ|replace h:=h aZ|skip
  |fail)
  all_goals done
 ·exact h.elim
end V
namespace Ab
theorem Jh {n:Nat} {l:List AV} (hl:l.length=n*2) (h1:dZ l=true) (h2:AV.aj l=true) (hn:n<=10000000000):aV Tryz.prog 39 [.sl n l] [] (.row 56 2 n l) []:=Vz hl h1 h2 hn
theorem aah {n:Nat} {l:List AV} (hl:l.length=n*1) (h1:dZ l=true) (h2:AV.aj l=true) (hn:n<=10000000000):aV Tryz.prog 40 [.sl n l] [] (.row 9 1 n l) []:=Vy hl h1 h2 hn
theorem acH (n:Nat) (hn:n<=10000000000):aV Tryz.prog 73 [.nil,.int .i64 n] [] (if n=0 then .nil else .row 56 2 0 []) []:=ZB n hn
end Ab
namespace V
open Ab
open Bk (Cm)
def Gs (ts:List (List Cm)):List AV:=ts.map cs
def rY:List (List Cm)->Nat
 |[]=>0
 |t::ts=>t.length+rY ts
theorem zX:∀(a b:List (List Cm)),rY (a++b)=rY a+rY b
 |[],b=>by rw [List.nil_append,rY,Nat.zero_add]
 |t::a,b=>by rw [List.cons_append,rY,rY,zX a b];omega
theorem XY:∀(ts:List (List Cm)),ts.flatten.length=rY ts
 |[]=>rfl
 |t::ts=>by rw [List.flatten_cons,List.length_append,rY,XY ts]
def c43:az:=fun args bx K=>match args,bx with
 |[.sl n l],[]=>∃ts:List (List Cm),(n=ts.length∧l=Gs ts)∧(rY ts<=10000000000∧ts.length<=100)∧K (.row 56 2 (rY ts) (eU ts.flatten)) []
 |_,_=>False
theorem WP.aiT {P:Program} {T:kZ} {cal:BR} {n0 base:Nat} {σ σ':aF} {Q:zV->aF->Prop} (HT:mM P T) (HC:fB P cal) (an:Gm) {i:Nat} {ops:Array Oper} {draw:Bool} (h:yX cal T an base i ops draw σ=some σ') (hok:Ok σ->Ok σ') (hQ:Q .normal σ'):WP P n0 base (.region i ops draw) σ Q:=
 WP.mk fun hg hσ=>⟨.normal,σ',fun hn hb H hm hK=>Kv HT HC hg hn hb H hm h hK,hok hσ,hQ⟩
def Jj (O:Int->Option (AV×List (List AV))):BR:=fun f args bx=>
 match Nat.beq f 73 with
 |false=>none
 |true=>
  match args,bx with
  |[.nil,.int .i64 m],[]=>O m
  |_,_=>none
theorem aap {O:Int->Option (AV×List (List AV))} (h:∀m r b,O m=some (r,b)->aV Tryz.prog 73 [.nil,.int .i64 m] [] r b):fB Tryz.prog (Jj O):=by
 intro f args bx r b hc;unfold Jj at hc;split at hc
 ·cases hc
 ·rename_i hf;have:=Nat.eq_of_beq_eq_true hf;subst this;split at hc
  ·exact h _ _ _ hc
  ·cases hc
theorem Ko {T:kZ} {an:Gm} {O:Int->Option (AV×List (List AV))} {s:Int} {q:Option (AV×List (List AV))} {ops:Array Oper} {σ σ':aF} (hO:O s=q) (h1:yX (Jj O) T an 0 9 ops false σ=yX (Jj fun _=>O s) T an 0 9 ops false σ) (h2:yX (Jj fun _=>q) T an 0 9 ops false σ=some σ'):yX (Jj O) T an 0 9 ops false σ=some σ':=by rw [h1,hO,h2]
open Classical in
theorem ZR {s:Int} (h1:0<=s) (h2:s<=10000000000):∃(O:Int->Option (AV×List (List AV))) (r:AV),fB Tryz.prog (Jj O)∧O s=some (r,[])∧(r=.nil∨r=.row 56 2 0 []):=by
 refine ⟨fun m=>if m=s then some (if s.toNat=0 then .nil else .row 56 2 0 [],[]) else none,_,aap fun m r b h=>?_,if_pos rfl,?_⟩
 ·have:=acH s.toNat oM;rw [Int.toNat_of_nonneg h1] at this;split at h
  ·rename_i e;cases h;rw [e];exact this
  ·cases h
 ·split
  ·exact .inl rfl
  ·exact .inr rfl
theorem Qy {a post:List (List Cm)} {t:List Cm} {n:Nat} (hn:n=a.length):List.drop (n*1) (Gs (a++t::post))=[cs t]++Gs post:=by subst hn;unfold Gs;rw [Nat.mul_one,List.map_append,List.drop_left' (by rw [List.length_map])];rfl
theorem acU {ts:List (List Cm)}:(Gs ts).length=ts.length:=List.length_map _
theorem qZ:∀{ts:List (List Cm)},mi (Gs ts)=true
 |[]=>rfl
 |t::ts=>by have:=qZ (ts:=ts);rw [Gs] at this;rw [Gs,List.map_cons,mi,this];rw [show wv (cs t)=true from D9 t,show (cs t).pf=true from bn (ay t),show (cs t).flat=true from lD t];rfl
def CC1 (ts:List (List Cm)) (j:Nat) (τ:aF):Prop:=∃(a r:List (List Cm)) (i s:Int),ts=a++r∧i=a.length∧s=rY a∧j=r.length∧τ=⟨[(11,.int .i64 i),(10,.int .i64 ts.length),(9,.sl ts.length (Gs ts)),(3,.int .i64 s),(0,.sl ts.length (Gs ts))],[]⟩
def CC2 (ts:List (List Cm)) (j:Nat) (τ:aF):Prop:=∃(a r:List (List Cm)) (i:Int) (n:Nat) (l:List AV),ts=a++r∧i=a.length∧n=rY a∧l=eU a.flatten∧j=r.length∧τ=⟨[(27,.int .i64 i),(26,.int .i64 ts.length),(25,.sl ts.length (Gs ts)),(6,.row 56 2 n l)],[]⟩
theorem ard {y z:AV} {i:Int}:Ok ⟨[(27,.int .i64 i),(26,y),(25,z),(6,.row 56 2 0 [])],[]⟩->Rx 0 ⟨[(27,.int .i64 i),(26,y),(25,z),(6,.nil)],[]⟩ ⟨[(27,.int .i64 i),(26,y),(25,z),(6,.row 56 2 0 [])],[]⟩:=fun h=>
 Rx.wv .nil (.cons .refl (.cons .refl (.cons .refl (.cons .lM .nil)))) h
def aqD:=fN 43 Tryz.f43 36 [.tmp 2]
theorem Vt:∀{a b:List (List Cm)},Gs a=Gs b->a=b
 |[],[],_=>rfl
 |[],c::b,h=>by cases h
 |c::a,[],h=>by cases h
 |c::a,d::b,h=>by unfold Gs at h;rw [List.map_cons,List.map_cons,List.cons.injEq] at h;rw [Vt (a:=a) (b:=b) h.2];have:=h.1;unfold cs at this;rw [AV.sl.injEq] at this;rw [qg this.2]
theorem aeC {ts a:List (List Cm)} {n:Nat} {l:List AV} {K:AV->List (List AV)->Prop} (hk:ts=a++[]) (hn:n=rY a) (hl:l=eU a.flatten) (h:c43 [.sl ts.length (Gs ts)] [] K):K (.row 56 2 n l) []:=by rw [List.append_nil] at hk;subst hk hn hl;unfold c43 at h;obtain ⟨ts',⟨-,e⟩,-,h⟩:=h;obtain rfl:=Vt e;exact h
theorem aon.xt {p:Prop} (g:p:=by ((first|exact yS|exact yR|exact yO|(exact rfl)|exact Fv|(exact af.mk (by rw [hl];exact ay _) rfl fun K hK=>aeC hk hn hl hK)|fail);(repeat' (first|exact dw|fail));first|done|fail)):p:=g
theorem aom.xt {p:Prop} (g:p:=by ((first|exact yS|exact yR|exact yO|(exact rfl)|exact Fv|(exact af.mk (by rw [hl];exact ay _) rfl fun K hK=>aeC hk hn hl hK)|fail);(repeat' (first|exact dw|fail));first|done|fail)):p:=g
theorem aol.xt {p:Prop} (g:p:=by ((first|exact yS|exact yR|exact yO|((with_reducible refine (?_:∃(j:Nat) (τ':aF),j<_∧Rx 0 _ τ'∧_));(refine ⟨post.length,_,?_,Rx.refl,a++[c0],post,i+1,s+c0.length,by rw [hk];simp,by rw [hi,List.length_append];rfl,by rw [hs,zX,rY,rY];omega,rfl,rfl⟩);(try simp only [List.length_cons]);omega)|fail);(repeat' (first|exact dw|fail));first|done|fail)):p:=g
theorem abY:az.OK Tryz.prog 43 c43:=by
 intro args bx K0 h;unfold c43 at h;split at h
 ·rename_i n l;obtain ⟨ts,⟨rfl,rfl⟩,⟨h1,h2⟩,-⟩:=h;refine aqD.okW (base:=0) rfl (by rw [iE,iE,wv,qZ];rfl) rfl ?_;have B:=V.base ae.nil
  conv=>whnf
  repeat' (first
  |with_reducible refine WP.seq ?_
  |(with_reducible first|refine Go.mk ?_|refine WP.qy B (au 43) ?_|refine WP.draw B (au 43) ?_|refine WP.cond ?_|refine WP.exit ?_|refine WP.skip ?_|refine WP.ret ?_);conv=>whnf
  |with_reducible refine WP.block ?_
  |with_reducible assumption
  |with_reducible refine And.intro ?_ ?_
  |exact cL
  |(with_reducible intro h);first|(try simp only [lG,reduceCtorEq] at h);first|done|(exfalso;omega)|replace h:=h trivial aZ|replace h:=h aZ|skip
  |fail)
  refine WP.loop (CC1 ts) ⟨[],ts,0,0,rfl,rfl,rfl,rfl,rfl⟩ ?_;rintro j τ ⟨a,r,i,s,hk,hi,hs,rfl,rfl⟩
  (have e1:=congrArg List.length hk;rw [List.length_append] at e1;have e2:=congrArg rY hk;rw [zX] at e2;rcases r with _|⟨c0,post⟩;all_goals (first|(rw [List.length_cons] at e1;rw [rY] at e2)|(rw [List.length_nil] at e1;rw [rY] at e2)))
  all_goals skip
  ·subst hs;obtain ⟨O,r,HC,hO,hr⟩:=ZR (s:=rY a) oM oM;have hlp:mi (Gs ts)=true:=qZ;have okw:∀{v:AV} {tm:Tm},wv v=true->tm=[(6,v),(0,.sl ts.length (Gs ts))]->Ok ⟨tm,[]⟩:=fun {v tm} hv e=>by subst e;exact ⟨by rw [uh,uh,uh,hv,show wv (.sl ts.length (Gs ts))=true from hlp];rfl,rfl⟩
   rcases hr with rfl|rfl
   ·
    repeat' (first
    |((with_reducible refine (?_:WP _ _ _ (.region 9 _ _) _ _));refine WP.aiT B.tok HC (au 43) (σ':=⟨[(6,.nil),(0,.sl ts.length (Gs ts))],[]⟩) ?_ ?_ ?_;(focus (refine Ko hO ?_ ?_<;>kernel_rfl));(focus (exact fun _=>okw rfl rfl));(conv=>whnf))
    |with_reducible refine WP.seq ?_
    |(with_reducible first|refine Go.mk ?_|refine WP.qy B (au 43) ?_|refine WP.draw B (au 43) ?_|refine WP.cond ?_|refine WP.exit ?_|refine WP.skip ?_|refine WP.ret ?_);conv=>whnf
    |with_reducible refine WP.block ?_
    |with_reducible assumption
    |with_reducible refine And.intro ?_ ?_
    |exact cL
    |(with_reducible intro h);first|(try simp only [lG,reduceCtorEq] at h);first|done|(exfalso;omega)|replace h:=h trivial aZ|replace h:=h aZ|skip
    |fail)
    refine WP.pJ (ard ⟨by rw [uh,uh,uh,uh,uh,show wv (.sl ts.length (Gs ts))=true from hlp];rfl,rfl⟩) ?_;refine WP.loop (CC2 ts) ⟨[],ts,0,0,[],rfl,rfl,rfl,rfl,rfl,rfl⟩ ?_;clear hk hi e1 e2 h;rintro j τ ⟨a',r,i',n',l',hk,hi,hn,hl,rfl,rfl⟩
    (have e1:=congrArg List.length hk;rw [List.length_append] at e1;have e2:=congrArg rY hk;rw [zX] at e2;rcases r with _|⟨c0,post⟩;all_goals (first|(rw [List.length_cons] at e1;rw [rY] at e2)|(rw [List.length_nil] at e1;rw [rY] at e2)))
    all_goals skip
    all_goals (let zA:=(au 43);open aon in exact dw)
   ·
    repeat' (first
    |((with_reducible refine (?_:WP _ _ _ (.region 9 _ _) _ _));refine WP.aiT B.tok HC (au 43) (σ':=⟨[(6,.row 56 2 0 []),(0,.sl ts.length (Gs ts))],[]⟩) ?_ ?_ ?_;(focus (refine Ko hO ?_ ?_<;>kernel_rfl));(focus (exact fun _=>okw rfl rfl));(conv=>whnf))
    |with_reducible refine WP.seq ?_
    |(with_reducible first|refine Go.mk ?_|refine WP.qy B (au 43) ?_|refine WP.draw B (au 43) ?_|refine WP.cond ?_|refine WP.exit ?_|refine WP.skip ?_|refine WP.ret ?_);conv=>whnf
    |with_reducible refine WP.block ?_
    |with_reducible assumption
    |with_reducible refine And.intro ?_ ?_
    |exact cL
    |(with_reducible intro h);first|(try simp only [lG,reduceCtorEq] at h);first|done|(exfalso;omega)|replace h:=h trivial aZ|replace h:=h aZ|skip
    |fail)
    refine WP.loop (CC2 ts) ⟨[],ts,0,0,[],rfl,rfl,rfl,rfl,rfl,rfl⟩ ?_;clear hk hi e1 e2 h;rintro j τ ⟨a',r,i',n',l',hk,hi,hn,hl,rfl,rfl⟩
    (have e1:=congrArg List.length hk;rw [List.length_append] at e1;have e2:=congrArg rY hk;rw [zX] at e2;rcases r with _|⟨c0,post⟩;all_goals (first|(rw [List.length_cons] at e1;rw [rY] at e2)|(rw [List.length_nil] at e1;rw [rY] at e2)))
    all_goals skip
    all_goals (let zA:=(au 43);open aom in exact dw)
  ·
   let zA:=(au 43)
   open aol in exact dw
 ·exact h.elim
def anr:az:=fun args bx K=>match args with
 |[.ptr s 0,.ptr b o]=>∃(blk:Bool) (NC:List Cm) (pre:List AV) (k y p bb:Int) (an tg tx:ByteArray) (kc:AV) (lead:List Cm) (fc:AV) (h:Bool) (tr:ByteArray) (post:List AV),(aN bx=true∧gB bx.length bx∧s≠b∧bx[s]?=some [.bool blk,cs NC]∧Bi bx b o pre ⟨k,y,p,bb,an,tg,tx,kc,cs lead,fc,h,tr⟩ post∧NC.length+lead.length<=10000000000)∧
   ∀bx':List (List AV),bx'.length=bx.length->gB bx.length bx'->bx'[s]?=some [.bool blk,cs []]->Bi bx' b o pre ⟨k,y,p,bb,an,tg,tx,kc,cr (NC++lead),fc,h,tr⟩ post->(∀j,j≠s->j≠b->bx'[j]?=bx[j]?)->K (.bW []) bx'
 |_=>False
theorem Nz (a b:List Cm):AV.row 56 2 (rY [a,b]) (eU [a,b].flatten)=cr (a++b):=by simp only [rY,List.flatten_cons,List.flatten_nil,List.append_nil,Nat.add_zero,cr,List.length_append]
theorem ZZ (a b c:List Cm):AV.row 56 2 (rY [a,b,c]) (eU [a,b,c].flatten)=cr (a++b++c):=by simp only [rY,List.flatten_cons,List.flatten_nil,List.append_nil,Nat.add_zero,cr,List.length_append,List.append_assoc,Nat.add_assoc]
def amo:=fN 100 Tryz.f100 20 []
theorem YN:az.OK Tryz.prog 100 anr:=by
 intro args bx K0 h;unfold anr at h;split at h
 ·rename_i s b o;obtain ⟨blk,NC,pre,k,y,p,bb,an,tg,tx,kc,lead,fc,hh,tr,post,⟨hw,hcl,hsb,hs,hx,hn⟩,-⟩:=h;have hb:bx[b]?=some (pre++(.int .i64 k::.int .i64 y::.int .i64 p::.int .i64 bb::.str an::.str tg::.str tx::kc::cs lead::fc::.bool hh::.str tr::post)):=hx.1;have ho:=hx.2;have hs0:=hs;have hb0:=hb;have hn2:rY [NC,lead]<=10000000000:=by simp only [rY];omega
  refine amo.UK rfl hw ?_;have B:=V.base (ae.cons abY ae.nil);have zE:Ev _ _ _ (au 100) [] []:=⟨B⟩
  conv=>whnf
  repeat' (first
  |((with_reducible refine (?_:∃c:List AV,_∧_));refine ⟨_,(by first|exact hb|exact hs),?_⟩;(conv=>whnf))
  |refine nX ?_;conv=>whnf
  |with_reducible refine fun(hwr:wv _=true)(hwb:aN _=true)=>?_
  |(with_reducible refine fun(hw:aN _=true)=>?_);conv=>whnf
  |with_reducible assumption
  |((with_reducible refine (?_:∃ts:List (List Cm),_∧_));refine ⟨[NC,lead],⟨rfl,rfl⟩,⟨hn2,by simp⟩,?_⟩;(conv=>whnf))
  |(exact bn (qZ (ts:=[NC,lead])))
  |((with_reducible refine gZ.mk (i:=s) ?_);intro b2 hl2 hs2 hr2;(conv=>whnf))
  |((with_reducible refine gZ.mk (i:=b) ?_);intro b1 hl1 hb1 hr1;replace hs:=(hr1 s hsb).trans hs;clear hb;(conv=>whnf))
  |(with_reducible first|refine bU ho ?_|refine bF ho ?_|refine aQ ho ?_|refine aJ ho ?_|refine aI ?_);conv=>whnf
  |with_reducible refine And.intro ?_ ?_
  |exact cL
  |(with_reducible intro h);first|(try simp only [lG,reduceCtorEq] at h);first|done|(exfalso;omega)|replace h:=h trivial aZ|replace h:=h aZ|skip
  |fail)
  replace hl1:b1.length=bx.length:=hl1;replace hl2:b2.length=b1.length:=hl2;replace hr1:∀j,j≠b->b1[j]?=bx[j]?:=hr1;replace hr2:∀j,j≠s->b2[j]?=b1[j]?:=hr2;replace hs2:b2[s]?=some ([.bool blk]++ .nil::[]):=hs2;replace hb1:b1[b]?=some (pre++(.int .i64 k::.int .i64 y::.int .i64 p::.int .i64 bb::.str an::.str tg::.str tx::kc::.row 56 2 (rY [NC,lead]) (eU [NC,lead].flatten)::fc::.bool hh::.str tr::post)):=hb1;rw [Nz] at hb1;refine af.cell hwb (x:=.nil) (y:=cs []) hs2 Wk.wO (zM []) fun b3 hw3 hl3 hs3 hr3=>?_;replace hl3:b3.length=b2.length:=hl3;replace hr3:∀j,j≠s->b3[j]?=b2[j]?:=hr3;refine af.mk hwr hw3 fun K hK=>?_;obtain ⟨blk',asv,pre',k',y',p',bb',an',X6,XV,Za,F5,fc',h',V7,post',⟨-,-,-,hs',hx',-⟩,hK⟩:=hK;obtain ⟨rfl,e,rfl⟩:=hx.inj hx';simp only [Ce.mk.injEq] at e;obtain ⟨rfl,rfl,rfl,rfl,rfl,rfl,rfl,rfl,e,rfl,rfl,rfl⟩:=e;obtain rfl:=sF e;rw [hs0,Option.some.injEq,List.cons.injEq,List.cons.injEq,AV.bool.injEq] at hs';obtain ⟨rfl,e2,-⟩:=hs';obtain rfl:=sF e2;have hbl:=(List.getElem?_eq_some_iff.1 hb0).1;have hb3:=((hr3 b (Ne.symm hsb)).trans (hr2 b (Ne.symm hsb))).trans hb1;have vV:gB bx.length b1:=hcl.Rn (q:=b) (fun j _ hne=>hr1 j hne) hb0 hb1 (fun i hi=>by
   rw [dF] at hi⊢;simpa only [AV.aA,AV.ids,dY,nD,List.nil_append,List.append_nil] using hi)
  refine hK b3 oM (vV.Rn (q:=s) (fun j _ hne=>(hr3 j hne).trans (hr2 j hne)) hs hs3 (fun i hi=>?_)) hs3 ⟨hb3,ho⟩ (fun j h1 h2=>(hr3 j h1).trans ((hr2 j h1).trans (hr1 j h2)));simp only [List.cons_append,List.nil_append,AV.aA,AV.ids,dY,List.append_nil,List.not_mem_nil] at hi
 ·exact h.elim
theorem OV (blk:Bool) (pre c:List Cm) (x:Nd):bJ blk pre c x=bJ blk [] c (x.ld (pre++x.lead)):=by
 obtain ⟨k,y,p,b,an,tg,tx,kids,lead,ag,h,tr⟩:=x;cases kids with
 |nil=>simp only [Nd.ld,Nd.lead,bJ,List.nil_append,List.append_assoc]
 |cons x l=>simp only [Nd.ld,Nd.lead,bJ,List.nil_append,List.append_assoc]
def VD (m:Nat):az:=fun args bx K=>match args with
 |[.ptr s 0,.ptr b o]=>∃(blk:Bool) (c:List Cm) (pre:List AV) (k y p bb:Int) (an tg tx:ByteArray) (kc:AV) (lead ag:List Cm) (h:Bool) (tr:ByteArray) (post:List AV) (kids:List Nd) (I:List Nat),(aN bx=true∧gB bx.length bx∧bx[s]?=some [.bool blk,cs c]∧Bi bx b o pre ⟨k,y,p,bb,an,tg,tx,kc,cr lead,cs ag,h,tr⟩ post∧fO bx kids kc I∧(s::b::I).Nodup∧(Vj (.mk k y p bb an tg tx kids lead ag h tr)=true∧LU (.mk k y p bb an tg tx kids lead ag h tr)=true)∧jT (.mk k y p bb an tg tx kids lead ag h tr)<=m∧c.length+lW (.mk k y p bb an tg tx kids lead ag h tr)<=9000000000∧jT (.mk k y p bb an tg tx kids lead ag h tr)<=9000000000)∧
   ∀bx':List (List AV),bx'.length=bx.length->gB bx.length bx'->bx'[s]?=some [.bool blk,cs (bJ blk [] c (.mk k y p bb an tg tx kids lead ag h tr)).2]->Bi bx' b o pre ((bJ blk [] c (.mk k y p bb an tg tx kids lead ag h tr)).1.ce kc) post->fO bx' (bJ blk [] c (.mk k y p bb an tg tx kids lead ag h tr)).1.kids kc I->(∀j,j≠s->j≠b->j ∉ I->bx'[j]?=bx[j]?)->K (.bW []) bx'
 |_=>False
def NI (m:Nat):az:=fun args bx K=>match args with
 |[.ptr s 0,.ptr q ok,.ptr q' ov]=>∃(blk:Bool) (c:List Cm) (pre:List AV) (x1 x2:Nd) (yF EK:AV) (post:List AV) (I1 I2:List Nat),(aN bx=true∧gB bx.length bx∧bx[s]?=some [.bool blk,cs c]∧q=q'∧bx[q]?=some (pre++((x1.ce yF).l++((x2.ce EK).l++post)))∧pre.length=ok∧ov=ok+12∧fO bx x1.kids yF I1∧fO bx x2.kids EK I2∧(s::q::(I1++I2)).Nodup∧(Vj x2=true∧LU x1=true∧LU x2=true)∧jT x1+jT x2<=m∧c.length+lW x1+lW x2<=9000000000∧jT x1+jT x2<=9000000000)∧
   ∀bx':List (List AV),bx'.length=bx.length->gB bx.length bx'->bx'[s]?=some [.bool blk,cs (lV (bJ blk (aX x1).2 [] x2).1 (bJ blk (aX x1).2 [] x2).2).2]->bx'[q]?=some (pre++((((aX x1).1.ld (c++x1.lead)).ce yF).l++(((lV (bJ blk (aX x1).2 [] x2).1 (bJ blk (aX x1).2 [] x2).2).1.ce EK).l++post)))->fO bx' (aX x1).1.kids yF I1->fO bx' (lV (bJ blk (aX x1).2 [] x2).1 (bJ blk (aX x1).2 [] x2).2).1.kids EK I2->(∀j,j≠s->j≠q->j ∉ I1->j ∉ I2->bx'[j]?=bx[j]?)->K (.bW []) bx'
 |_=>False
theorem aam {x x':Nd} {kc Za:AV} (h:x.ce kc=x'.ce Za):kc=Za∧(x.kids=x'.kids->x=x'):=by obtain ⟨k,y,p,b,an,tg,tx,kids,lead,ag,h,tr⟩:=x;obtain ⟨k',y',p',b',an',X6,XV,kids',F5,F9,h',V7⟩:=x';simp only [Nd.ce,Ce.mk.injEq] at h;obtain ⟨rfl,rfl,rfl,rfl,rfl,rfl,rfl,rfl,e1,e2,rfl,rfl⟩:=h;obtain rfl:=sF e1;obtain rfl:=sF e2;exact ⟨rfl,fun e=>by simp only [Nd.kids] at e;rw [e]⟩
theorem Eu {blk:Bool} {pre c:List Cm} {k y p b:Int} {an tg tx:ByteArray} {kids:List Nd} {lead ag:List Cm} {h:Bool} {tr:ByteArray} (hk:¬(k=3∨k=4)):bJ blk pre c (.mk k y p b an tg tx kids lead ag h tr)=(.mk k y p b an tg tx kids (pre++lead) ag h tr,c):=by
 cases kids with
 |nil=>rw [bJ,if_neg hk]
 |cons x l=>rw [bJ,if_neg hk]
theorem YP {blk:Bool} {c:List Cm} {k y p b:Int} {an tg tx:ByteArray} {kids:List Nd} {lead ag:List Cm} {h:Bool} {tr:ByteArray} (hh:¬((k=1∧y=1∧tx=ByteArray.empty)∧0<lead.length)):lV (bJ blk [] c (.mk k y p b an tg tx kids lead ag h tr)).1 (bJ blk [] c (.mk k y p b an tg tx kids lead ag h tr)).2=bJ blk [] c (.mk k y p b an tg tx kids lead ag h tr):=by
 by_cases hk:k=3∨k=4
 ·have hv:∀z:Nd,z.k=k->Uj z=false:=by intro z hz;unfold Uj;rw [decide_eq_false_iff_not,hz];rintro ⟨e,-⟩;omega
  have hk2:(bJ blk [] c (.mk k y p b an tg tx kids lead ag h tr)).1.k=k:=by
   cases kids with
   |nil=>rw [bJ,if_pos hk];rfl
   |cons x l=>
    rw [bJ,if_pos hk];simp only [uT];split
    ·rfl
    ·split<;>rfl
  unfold lV;rw [hv _ hk2]
 ·rw [Eu hk];simp only [List.nil_append];unfold lV;split
  ·rename_i m l h1 h2;exfalso;have h1':decide (k=1∧y=1∧tx=ByteArray.empty)=true:=h1;have h2':lead=m::l:=h2;exact hh ⟨of_decide_eq_true h1',by rw [h2'];simp⟩
  ·rfl
theorem YO {blk:Bool} {k y p b:Int} {an tg tx:ByteArray} {kids:List Nd} {lead ag:List Cm} {h:Bool} {tr:ByteArray} (hv:k=1∧y=1∧tx=ByteArray.empty) (hl:0<lead.length):lV (bJ blk [] [] (.mk k y p b an tg tx kids lead ag h tr)).1 (bJ blk [] [] (.mk k y p b an tg tx kids lead ag h tr)).2=(.mk k y p b an tg tx kids [] ag false ByteArray.empty,lead++mQ h tr):=by
 have hk:¬(k=3∨k=4):=oM;rw [Eu hk];simp only [List.nil_append];unfold lV;have h1:Uj (.mk k y p b an tg tx kids lead ag h tr)=true:=by exact decide_eq_true hv
 rw [h1];simp only [Nd.lead];cases lead with
 |nil=>simp at hl
 |cons m l=>rfl
theorem lT {A l:List AV} {a j:Nat} (h:A.length=a):(A++l).drop (a+j)=l.drop j:=by subst h;rw [List.drop_append];simp
def amn:=fN 101 Tryz.f101 47 []
theorem akl (m:Nat) (h42:az.OK Tryz.prog 42 (VD m)):az.OK Tryz.prog 101 (NI (m+1)):=by
 intro args bx K0 h;unfold NI at h;split at h
 ·rename_i s q ok q' ov;obtain ⟨blk,c,pre,x1,x2,yF,EK,post,I1,I2,⟨hw,hcl,hs,rfl,hq,ho,rfl,hk1,hk2,hnd,⟨hev,ht1,ht2⟩,hm,hn,hz⟩,-⟩:=h;obtain ⟨k1,y1,p1,bb1,yH,yC,yB,kids1,gp,jd,h1,xm⟩:=x1;obtain ⟨k2,y2,p2,bb2,BZ,BV,BU,mr,FZ,jI,h2,AU⟩:=x2;have hs0:=hs;have hq0:=hq;rw [List.nodup_cons,List.nodup_cons] at hnd;obtain ⟨hnd1,Zk,akU⟩:=hnd;have En:s≠q:=fun e=>hnd1 (by rw [e];exact List.mem_cons_self);have acs:s ∉ I1:=fun e=>hnd1 (List.mem_cons_of_mem _ (List.mem_append_left _ e));have agk:s ∉ I2:=fun e=>hnd1 (List.mem_cons_of_mem _ (List.mem_append_right _ e));have WG:q ∉ I1:=fun e=>Zk (List.mem_append_left _ e);have acw:q ∉ I2:=fun e=>Zk (List.mem_append_right _ e);rw [List.nodup_append] at akU;obtain ⟨hn1,hn2,hn3⟩:=akU;have hql:=(List.getElem?_eq_some_iff.1 hq).1;have hsl:=(List.getElem?_eq_some_iff.1 hs).1;rw [jT,jT] at hm hz;rw [lW,lW] at hn;have hcs1:=oz kids1;have atZ:=X3 h1 xm;refine amn.UK rfl hw ?_;have B:=V.base (ae.cons h42 (ae.cons (akb (eP kids1+1)) (ae.cons YN (ae.cons aka (ae.cons afL (ae.cons abY ae.nil))))));have zE:Ev _ _ _ (au 101) [100,118,42] [117,72]:=⟨B⟩
  conv=>whnf
  have hev2:=hev;have htt:(h1||decide (xm=ByteArray.empty))=true∧Jv kids1=true:=by rw [LU] at ht1;simpa only [Bool.and_eq_true] using ht1
  have hI1:=hk1.lt;have hI2:=hk2.lt
  repeat' (first
  |((with_reducible refine (?_:∃c:List AV,_∧_));refine ⟨_,(by first|exact hq|exact hs),?_⟩;(conv=>whnf))
  |((with_reducible refine (?_:_∧gB _ _∧_));refine aH.get ?_)
  |((with_reducible refine (?_:∃(blk:Bool),_));refine aH.get ?_)
  |refine nX ?_;conv=>whnf
  |with_reducible refine fun(hwr:wv _=true)(hwb:aN _=true)=>?_
  |(with_reducible refine fun(hw:aN _=true)=>?_);conv=>whnf
  |with_reducible assumption
  |(with_reducible first|refine bU ho ?_|refine bF ho ?_|refine aQ ho ?_|refine aJ ho ?_|refine aI ?_);conv=>whnf
  |with_reducible refine And.intro ?_ ?_
  |exact cL
  |(with_reducible intro h);first|(try simp only [lG,reduceCtorEq] at h);first|done|(exfalso;omega)|replace h:=h trivial aZ|replace h:=h aZ|skip
  |fail)
  refine aH.mk ⟨blk,c,pre,k1,y1,p1,bb1,yH,yC,yB,yF,gp,cs jd,h1,xm,_,⟨hw,hcl,En,hs,⟨hq,ho⟩,oM⟩,?_⟩;clear hs hq;intro ba hla hcla hsa hxa hra;replace hla:ba.length=bx.length:=hla;replace hra:∀j,j≠s->j≠q->ba[j]?=bx[j]?:=hra;replace hcla:gB bx.length ba:=hcla
  conv=>whnf
  repeat' (first
  |((with_reducible refine (?_:∃c:List AV,_∧_));refine ⟨_,(by first|exact hq|exact hs),?_⟩;(conv=>whnf))
  |((with_reducible refine (?_:_∧gB _ _∧_));refine aH.get ?_)
  |((with_reducible refine (?_:∃(blk:Bool),_));refine aH.get ?_)
  |refine nX ?_;conv=>whnf
  |with_reducible refine fun(hwr:wv _=true)(hwb:aN _=true)=>?_
  |(with_reducible refine fun(hw:aN _=true)=>?_);conv=>whnf
  |with_reducible assumption
  |(with_reducible first|refine bU ho ?_|refine bF ho ?_|refine aQ ho ?_|refine aJ ho ?_|refine aI ?_);conv=>whnf
  |with_reducible refine And.intro ?_ ?_
  |exact cL
  |(with_reducible intro h);first|(try simp only [lG,reduceCtorEq] at h);first|done|(exfalso;omega)|replace h:=h trivial aZ|replace h:=h aZ|skip
  |fail)
  refine aH.mk ⟨by show bx.length<=ba.length;omega,hcla,?_⟩
  conv=>whnf
  refine ⟨uV.ptr hql,?_⟩;intro b0 hl0 hr0 hw0;replace hr0:∀j,j<bx.length->b0[j]?=ba[j]?:=hr0;replace hl0:b0.length=bx.length:=hl0
  conv=>whnf
  refine ⟨pre,k1,y1,p1,bb1,yH,yC,yB,yF,cr (c++gp),jd,h1,xm,_,kids1,I1,⟨hw0,by rw [hl0];exact hcla.same hr0,⟨(hr0 q hql).trans hxa.1,ho⟩,hk1.fr (fun i hi=>?_),List.nodup_cons.2 ⟨WG,hn1⟩,⟨htt.2,htt.1⟩,Nat.le_refl _,oM,oM⟩,?_⟩
  ·exact (hr0 i (hI1 i hi)).trans (hra i (fun e=>acs (e▸hi)) (fun e=>WG (e▸hi)))
  intro b5 hl5 qo hx5 hk5 Ar;refine ⟨hl5.trans hl0,?_⟩;intro b6 Vb BD hr7;replace Vb:b6.length=ba.length:=Vb;replace BD:∀j,j<bx.length->b6[j]?=b5[j]?:=BD;have hs:=(BD s hsl).trans ((Ar s En acs).trans ((hr0 s hsl).trans hsa));have hx6:=(BD q hql).trans hx5.1;rw [←List.append_assoc] at hx6;have hq:=hx6;have hok:=ho;have ho:(pre++(Ce.mk k1 y1 p1 bb1 yH yC yB yF (cr (c++gp)) (cs []) false ByteArray.empty).l).length=ok+12:=by rw [List.length_append,aal,hok]
  have hoa:(pre++(Ce.mk k1 y1 p1 bb1 yH yC yB yF (cr (c++gp)) (cs jd) h1 xm).l).length=ok+12:=by rw [List.length_append,aal,hok]
  have akG:=hxa.1;rw [←List.append_assoc] at akG;have WH:gB bx.length b6:=by rw [hl0] at qo;exact qo.same BD
  have hn43:rY [(aU kids1).2++jd++mQ h1 xm,FZ]<=10000000000:=by simp only [rY,List.length_append];omega
  conv=>whnf
  repeat' (first
  |((with_reducible refine (?_:∃c:List AV,_∧_));refine ⟨_,(by first|exact hq|exact hs),?_⟩;(conv=>whnf))
  |((with_reducible refine (?_:_∧gB _ _∧_));refine aH.get ?_)
  |((with_reducible refine (?_:∃(blk:Bool),_));refine aH.get ?_)
  |((with_reducible refine (?_:∃(pre:List AV),_));refine aH.get ?_)
  |refine nX ?_;conv=>whnf
  |with_reducible refine fun(hwr:wv _=true)(hwb:aN _=true)=>?_
  |(with_reducible refine fun(hw:aN _=true)=>?_);conv=>whnf
  |with_reducible assumption
  |((with_reducible refine (?_:∃ts:List (List Cm),_∧_));refine ⟨[(aU kids1).2++jd++mQ h1 xm,FZ],⟨rfl,rfl⟩,⟨hn43,by simp⟩,?_⟩;(conv=>whnf))
  |(exact bn (qZ (ts:=[(aU kids1).2++jd++mQ h1 xm,FZ])))
  |((with_reducible refine (?_:oU _ _ _ _));refine oU.ld hql akG hx6 (by simp only [List.length_append];rfl) ?_;rw [lT ho,lT hoa])
  |((with_reducible refine gZ.mk (i:=q) ?_);intro b8 hl8 hq DC;have hs:=(DC s En).trans hs;(conv=>whnf))
  |(with_reducible first|refine bU ho ?_|refine bF ho ?_|refine aQ ho ?_|refine aJ ho ?_|refine aI ?_);conv=>whnf
  |with_reducible refine And.intro ?_ ?_
  |exact cL
  |(with_reducible intro h);first|(try simp only [lG,reduceCtorEq] at h);first|done|(exfalso;omega)|replace h:=h trivial aZ|replace h:=h aZ|skip
  |fail)
  replace hl8:b8.length=b6.length:=hl8;replace DC:∀j,j≠q->b8[j]?=b6[j]?:=DC;replace hq:b8[q]?=some ((pre++(Ce.mk k1 y1 p1 bb1 yH yC yB yF (cr (c++gp)) (cs []) false ByteArray.empty).l)++((Ce.mk k2 y2 p2 bb2 BZ BV BU EK (.row 56 2 (rY [(aU kids1).2++jd++mQ h1 xm,FZ]) (eU [(aU kids1).2++jd++mQ h1 xm,FZ].flatten)) (cs jI) h2 AU).l++post)):=hq;rw [Nz] at hq;generalize hLL:(aU kids1).2++jd++mQ h1 xm++FZ=LL at hq;have Zr:gB bx.length b8:=WH.Rn (q:=q) (fun j _ hne=>DC j hne) hx6 hq (fun i hi=>by
   rw [dF] at hi⊢;simpa only [Nd.ce,Ce.l,dF,AV.aA,AV.ids,dY,nD,List.cons_append,List.nil_append,List.append_nil] using hi)
  refine aH.mk ⟨_,_,post,⟨hw,hq,ho⟩,?_⟩;have hall:∀j,j≠s->j≠q->j ∉ I1->j<bx.length->b8[j]?=bx[j]?:=fun j g1 g2 g3 g4=>(DC j g2).trans ((BD j g4).trans ((Ar j g2 g3).trans ((hr0 j g4).trans (hra j g1 g2))));have Zm:fO b8 (aU kids1).1 yF I1:=hk5.fr fun i hi=>(DC i (fun e=>WG (e▸hi))).trans (BD i (hI1 i hi));have agp:fO b8 mr EK I2:=hk2.fr fun i hi=>hall i (fun e=>agk (e▸hi)) (fun e=>acw (e▸hi)) (fun e=>hn3 i e i hi rfl) (hI2 i hi);have hqk:∀{b:List (List AV)} {z:List AV} {K:AV->List (List AV)->Prop},NI (m+1) [.ptr s 0,.ptr q ok,.ptr q (ok+12)] bx K->b.length=bx.length->aN b=true->gB bx.length b->b[s]?=some [.bool blk,cs (lV (bJ blk [] [] (.mk k2 y2 p2 bb2 BZ BV BU mr LL jI h2 AU)).1 (bJ blk [] [] (.mk k2 y2 p2 bb2 BZ BV BU mr LL jI h2 AU)).2).2]->b[q]?=some (pre++((Ce.mk k1 y1 p1 bb1 yH yC yB yF (cs (c++gp)) (cs []) false ByteArray.empty).l++(((lV (bJ blk [] [] (.mk k2 y2 p2 bb2 BZ BV BU mr LL jI h2 AU)).1 (bJ blk [] [] (.mk k2 y2 p2 bb2 BZ BV BU mr LL jI h2 AU)).2).1.ce EK).l++post)))->fO b (aU kids1).1 yF I1->fO b (lV (bJ blk [] [] (.mk k2 y2 p2 bb2 BZ BV BU mr LL jI h2 AU)).1 (bJ blk [] [] (.mk k2 y2 p2 bb2 BZ BV BU mr LL jI h2 AU)).2).1.kids EK I2->(∀j,j≠s->j≠q->j ∉ I1->j ∉ I2->b[j]?=bx[j]?)->K (.bW []) b:=by
   intro b z K hK d1 d2 d3 d4 d5 d6 d7 d8;obtain ⟨blk',c',pre',x1',x2',atT,atS,post',I1',I2',⟨-,-,hs',-,hq',ho',-,apE,apD,-⟩,hK⟩:=hK;rw [hs0,Option.some.injEq,List.cons.injEq,List.cons.injEq,AV.bool.injEq] at hs';obtain ⟨rfl,e2,-⟩:=hs';obtain rfl:=sF e2;rw [hq0,Option.some.injEq] at hq';obtain ⟨rfl,e3⟩:=List.append_inj hq' (by rw [hok,ho']);obtain ⟨e4,e5⟩:=List.append_inj e3 rfl;obtain ⟨e6,rfl⟩:=List.append_inj e5 rfl;obtain ⟨rfl,e7⟩:=aam (Ce.inj e4);obtain ⟨rfl,e8⟩:=aam (Ce.inj e6);obtain ⟨e9,rfl⟩:=fO.inj hk1 apE;obtain ⟨e10,rfl⟩:=fO.inj hk2 apD;obtain rfl:=e7 e9;obtain rfl:=e8 e10;have hset:bJ blk (aX (.mk k1 y1 p1 bb1 yH yC yB kids1 gp jd h1 xm)).2 [] (.mk k2 y2 p2 bb2 BZ BV BU mr FZ jI h2 AU)=bJ blk [] [] (.mk k2 y2 p2 bb2 BZ BV BU mr LL jI h2 AU):=by rw [OV,aX,←hLL];rfl
   rw [hset] at hK;refine hK b d1 d3 d4 ?_ ?_ d7 d8
   ·rw [d5,aX];rfl
   ·rw [aX];exact d6
  have hLn:LL.length=(aU kids1).2.length+jd.length+(mQ h1 xm).length+FZ.length:=by rw [←hLL];simp only [List.length_append]
  have ak6:Vj (.mk k2 y2 p2 bb2 BZ BV BU mr LL jI h2 AU)=true:=by rw [Vj] at hev⊢;exact hev
  have akN:LU (.mk k2 y2 p2 bb2 BZ BV BU mr LL jI h2 AU)=true:=by rw [LU] at ht2⊢;exact ht2
  have Zk:(s::q::I2).Nodup:=List.nodup_cons.2 ⟨fun e=>by
   rcases List.mem_cons.1 e with e|e
   ·exact En e
   ·exact agk e,List.nodup_cons.2 ⟨acw,hn2⟩⟩
  have ale:jT (.mk k2 y2 p2 bb2 BZ BV BU mr LL jI h2 AU)<=m:=by rw [jT];omega
  have ald:jT (.mk k2 y2 p2 bb2 BZ BV BU mr LL jI h2 AU)<=9000000000:=by rw [jT];omega
  have alf:([]:List Cm).length+lW (.mk k2 y2 p2 bb2 BZ BV BU mr LL jI h2 AU)<=9000000000:=by rw [lW,List.length_nil];omega
  have hend:∀{b9:List (List AV)},¬((k2=1∧y2=1∧BU=ByteArray.empty)∧0<LL.length)->wv (AV.bW [])=true->aN b9=true->b9.length=b8.length->gB b8.length b9->b9[s]?=some [.bool blk,cs (bJ blk [] [] (.mk k2 y2 p2 bb2 BZ BV BU mr LL jI h2 AU)).2]->Bi b9 q (ok+12) (pre++(Ce.mk k1 y1 p1 bb1 yH yC yB yF (cr (c++gp)) (cs []) false ByteArray.empty).l) ((bJ blk [] [] (.mk k2 y2 p2 bb2 BZ BV BU mr LL jI h2 AU)).1.ce EK) post->fO b9 (bJ blk [] [] (.mk k2 y2 p2 bb2 BZ BV BU mr LL jI h2 AU)).1.kids EK I2->(∀j,j≠s->j≠q->j ∉ I2->b9[j]?=b8[j]?)->af (NI (m+1)) [.ptr s 0,.ptr q ok,.ptr q (ok+12)] bx (.bW []) b9:=by
   intro b9 hno hwr hwb gl9 WO gs9 gx9 gk9 gr9;have gq9:b9[q]?=some ((pre++[.int .i64 k1,.int .i64 y1,.int .i64 p1,.int .i64 bb1,.str yH,.str yC,.str yB,yF])++cr (c++gp)::([cs [],.bool false,.str ByteArray.empty]++(((bJ blk [] [] (.mk k2 y2 p2 bb2 BZ BV BU mr LL jI h2 AU)).1.ce EK).l++post))):=by rw [gx9.1,List.append_assoc,List.append_assoc];rfl
   refine af.cell hwb (x:=cr (c++gp)) (y:=cs (c++gp)) gq9 (Wk.cr _) (zM _) fun d hwd gld gqd grd=>?_;refine af.mk hwr hwd fun K hK=>?_;have hof:=YP (blk:=blk) (c:=[]) (p:=p2) (b:=bb2) (an:=BZ) (tg:=BV) (kids:=mr) (ag:=jI) (h:=h2) (tr:=AU) hno;have apX:d[q]?=some (pre++((Ce.mk k1 y1 p1 bb1 yH yC yB yF (cs (c++gp)) (cs []) false ByteArray.empty).l++(((bJ blk [] [] (.mk k2 y2 p2 bb2 BZ BV BU mr LL jI h2 AU)).1.ce EK).l++post))):=by rw [gqd,List.append_assoc];rfl
   have apH:gB bx.length d:=by
    rw [hl8,Vb,hla] at WO;exact WO.Rn (q:=q) (fun j _ hne=>grd j hne) gq9 gqd (fun i hi=>by
     rw [dF] at hi⊢;simpa only [List.cons_append,List.nil_append,dF,AV.aA,AV.ids,dY,nD,List.append_nil] using hi)
   have apy:∀i ∈ I1,d[i]?=b8[i]?:=fun i hi=>(grd i (fun e=>WG (e▸hi))).trans (gr9 i (fun e=>acs (e▸hi)) (fun e=>WG (e▸hi)) (fun e=>hn3 i hi i e rfl));refine hqk (z:=[]) hK oM hwd apH ?_ ?_ (Zm.fr apy) ?_ ?_
   ·rw [hof];exact (grd s En).trans gs9
   ·rw [hof];exact apX
   ·rw [hof];exact gk9.fr fun i hi=>grd i (fun e=>acw (e▸hi))
   ·intro j g1 g2 g3 g4;by_cases hjl:j<bx.length
    ·exact (grd j g2).trans ((gr9 j g1 g2 g4).trans (hall j g1 g2 g3 hjl))
    ·rw [List.getElem?_eq_none oM,List.getElem?_eq_none oM]
  by_cases hv:k2=1∧y2=1∧BU=ByteArray.empty
  ·rcases Nat.eq_zero_or_pos LL.length with hz0|hz0
   ·conv=>whnf
    repeat' (first
    |((with_reducible refine (?_:∃c:List AV,_∧_));refine ⟨_,(by first|exact hq|exact hs),?_⟩;(conv=>whnf))
    |((with_reducible refine (?_:_∧gB _ _∧_));refine aH.get ?_)
    |((with_reducible refine (?_:∃(blk:Bool),_));refine aH.get ?_)
    |((with_reducible refine (?_:∃(pre:List AV),_));refine aH.get ?_)
    |refine nX ?_;conv=>whnf
    |with_reducible refine fun(hwr:wv _=true)(hwb:aN _=true)=>?_
    |(with_reducible refine fun(hw:aN _=true)=>?_);conv=>whnf
    |with_reducible assumption
    |((with_reducible intro h);exfalso;(first|exact absurd hv (of_decide_eq_false h)|exact hv (of_decide_eq_true h));done)
    |(with_reducible first|refine bU ho ?_|refine bF ho ?_|refine aQ ho ?_|refine aJ ho ?_|refine aI ?_);conv=>whnf
    |with_reducible refine And.intro ?_ ?_
    |exact cL
    |(with_reducible intro h);first|(try simp only [lG,reduceCtorEq] at h);first|done|(exfalso;omega)|replace h:=h trivial aZ|replace h:=h aZ|skip
    |fail)
    refine aH.mk ⟨blk,[],_,k2,y2,p2,bb2,BZ,BV,BU,EK,LL,jI,h2,AU,post,mr,I2,⟨hw,by show gB b8.length b8;rw [hl8,Vb,hla];exact Zr,hs,⟨hq,ho⟩,agp,Zk,⟨ak6,akN⟩,ale,alf,ald⟩,?_⟩;intro b9 gl9 WO gs9 gx9 gk9 gr9;replace gl9:b9.length=b8.length:=gl9
    conv=>whnf
    repeat' (first
    |((with_reducible refine (?_:∃c:List AV,_∧_));refine ⟨_,(by first|exact hq|exact hs),?_⟩;(conv=>whnf))
    |((with_reducible refine (?_:_∧gB _ _∧_));refine aH.get ?_)
    |((with_reducible refine (?_:∃(blk:Bool),_));refine aH.get ?_)
    |((with_reducible refine (?_:∃(pre:List AV),_));refine aH.get ?_)
    |refine nX ?_;conv=>whnf
    |with_reducible refine fun(hwr:wv _=true)(hwb:aN _=true)=>?_
    |(with_reducible refine fun(hw:aN _=true)=>?_);conv=>whnf
    |with_reducible assumption
    |((with_reducible intro h);exfalso;(first|exact absurd hv (of_decide_eq_false h)|exact hv (of_decide_eq_true h));done)
    |(with_reducible first|refine bU ho ?_|refine bF ho ?_|refine aQ ho ?_|refine aJ ho ?_|refine aI ?_);conv=>whnf
    |with_reducible refine And.intro ?_ ?_
    |exact cL
    |(with_reducible intro h);first|(try simp only [lG,reduceCtorEq] at h);first|done|(exfalso;omega)|replace h:=h trivial aZ|replace h:=h aZ|skip
    |fail)
    exact hend (fun e=>by omega) hwr hwb gl9 WO gs9 gx9 gk9 gr9
   ·conv=>whnf
    repeat' (first
    |((with_reducible refine (?_:∃c:List AV,_∧_));refine ⟨_,(by first|exact hq|exact hs),?_⟩;(conv=>whnf))
    |((with_reducible refine (?_:_∧gB _ _∧_));refine aH.get ?_)
    |((with_reducible refine (?_:∃(blk:Bool),_));refine aH.get ?_)
    |((with_reducible refine (?_:∃(pre:List AV),_));refine aH.get ?_)
    |refine nX ?_;conv=>whnf
    |with_reducible refine fun(hwr:wv _=true)(hwb:aN _=true)=>?_
    |(with_reducible refine fun(hw:aN _=true)=>?_);conv=>whnf
    |with_reducible assumption
    |((with_reducible intro h);exfalso;(first|exact absurd hv (of_decide_eq_false h)|exact hv (of_decide_eq_true h));done)
    |(with_reducible first|refine bU ho ?_|refine bF ho ?_|refine aQ ho ?_|refine aJ ho ?_|refine aI ?_);conv=>whnf
    |with_reducible refine And.intro ?_ ?_
    |exact cL
    |(with_reducible intro h);first|(try simp only [lG,reduceCtorEq] at h);first|done|(exfalso;omega)|replace h:=h trivial aZ|replace h:=h aZ|skip
    |fail)
    have hq8:b8[q]?=some (((pre++(Ce.mk k1 y1 p1 bb1 yH yC yB yF (cr (c++gp)) (cs []) false ByteArray.empty).l)++(Ce.mk k2 y2 p2 bb2 BZ BV BU EK (cr LL) (cs jI) h2 AU).l)++post):=by rw [List.append_assoc];exact hq
    refine aH.mk ⟨by show bx.length<=b8.length;omega,Zr,?_⟩
    conv=>whnf
    refine ⟨uV.ptr hql,?_⟩;intro c0 gl0 gr0 gw0;replace gr0:∀j,j<bx.length->c0[j]?=b8[j]?:=gr0;replace gl0:c0.length=bx.length:=gl0
    conv=>whnf
    refine ⟨_,_,post,⟨gw0,(gr0 q hql).trans hq,ho⟩,?_⟩;intro c5 gl5 gx5 gr5;refine ⟨gl5.trans gl0,?_⟩;intro c6 gl6 gr6 gr7;replace gl6:c6.length=b8.length:=gl6;replace gr6:∀j,j<bx.length->c6[j]?=c5[j]?:=gr6;have hoff:Ce.off (Ce.mk k2 y2 p2 bb2 BZ BV BU EK (cr LL) (cs jI) h2 AU)=⟨k2,y2,p2,bb2,BZ,BV,BU,EK,cr LL,cs jI,false,ByteArray.empty⟩:=by
     rw [LU,Bool.and_eq_true] at ht2;have ht3:=ht2.1;cases h2 with
     |true=>rfl
     |false=>
      simp only [Bool.false_or,decide_eq_true_eq] at ht3;rw [ht3];rfl
    have hqo:=hq;have hq6:=(gr6 q hql).trans gx5.1;rw [hoff] at hq6;have hq:=hq6;have hs:=(gr6 s hsl).trans ((gr5 s En).trans ((gr0 s hsl).trans hs));have apB:rY [LL,mQ h2 AU]<=10000000000:=by simp only [rY];omega
    conv=>whnf
    repeat' (first
    |((with_reducible refine (?_:∃c:List AV,_∧_));refine ⟨_,(by first|exact hq|exact hs),?_⟩;(conv=>whnf))
    |((with_reducible refine (?_:_∧gB _ _∧_));refine aH.get ?_)
    |((with_reducible refine (?_:∃(blk:Bool),_));refine aH.get ?_)
    |((with_reducible refine (?_:∃(pre:List AV),_));refine aH.get ?_)
    |refine nX ?_;conv=>whnf
    |with_reducible refine fun(hwr:wv _=true)(hwb:aN _=true)=>?_
    |(with_reducible refine fun(hw:aN _=true)=>?_);conv=>whnf
    |with_reducible assumption
    |((with_reducible intro h);exfalso;(first|exact absurd hv (of_decide_eq_false h)|exact hv (of_decide_eq_true h));done)
    |((with_reducible refine (?_:∃ts:List (List Cm),_∧_));refine ⟨[LL,mQ h2 AU],⟨rfl,rfl⟩,⟨apB,by simp⟩,?_⟩;(conv=>whnf))
    |(exact bn (qZ (ts:=[LL,mQ h2 AU])))
    |((with_reducible refine (?_:oU _ _ _ _));refine oU.ld hql hqo hq6 (by simp only [List.length_append];rfl) ?_;rw [lT ho,lT ho];rfl)
    |((with_reducible refine gZ.mk (i:=q) ?_);intro d2 fl2 hq fr2;have hs:=(fr2 s En).trans hs;(conv=>whnf))
    |((with_reducible refine gZ.mk (i:=s) ?_);intro d1 fl1 hs fr1;have hq:=(fr1 q (Ne.symm En)).trans hq;(conv=>whnf))
    |(with_reducible first|refine bU ho ?_|refine bF ho ?_|refine aQ ho ?_|refine aJ ho ?_|refine aI ?_);conv=>whnf
    |with_reducible refine And.intro ?_ ?_
    |exact cL
    |(with_reducible intro h);first|(try simp only [lG,reduceCtorEq] at h);first|done|(exfalso;omega)|replace h:=h trivial aZ|replace h:=h aZ|skip
    |fail)
    replace fl1:d1.length=c6.length:=fl1;replace fl2:d2.length=d1.length:=fl2;replace fr1:∀j,j≠s->d1[j]?=c6[j]?:=fr1;replace fr2:∀j,j≠q->d2[j]?=d1[j]?:=fr2;replace hs:d2[s]?=some ([.bool blk]++ .row 56 2 (rY [LL,mQ h2 AU]) (eU [LL,mQ h2 AU].flatten)::[]):=hs;rw [Nz] at hs;replace hq:d2[q]?=some ((pre++(Ce.mk k1 y1 p1 bb1 yH yC yB yF (cr (c++gp)) (cs []) false ByteArray.empty).l)++((Ce.mk k2 y2 p2 bb2 BZ BV BU EK .nil (cs jI) false ByteArray.empty).l++post)):=hq;have rQ:∀j,j≠s->j≠q->j<bx.length->d2[j]?=b8[j]?:=fun j g1 g2 g3=>(fr2 j g2).trans ((fr1 j g1).trans ((gr6 j g3).trans ((gr5 j g2).trans (gr0 j g3))));refine af.cell hwb (x:=cr (LL++mQ h2 AU)) (y:=cs (LL++mQ h2 AU)) hs (Wk.cr _) (zM _) fun e1 apr el1 es1 er1=>?_;replace el1:e1.length=d2.length:=el1;have eq1:e1[q]?=some ((pre++(Ce.mk k1 y1 p1 bb1 yH yC yB yF (cr (c++gp)) (cs []) false ByteArray.empty).l++[.int .i64 k2,.int .i64 y2,.int .i64 p2,.int .i64 bb2,.str BZ,.str BV,.str BU,EK])++ .nil::([cs jI,.bool false,.str ByteArray.empty]++post)):=by rw [er1 q (Ne.symm En)];refine hq.trans ?_;simp only [List.append_assoc];rfl
    refine af.cell apr (x:=.nil) (y:=cs []) eq1 Wk.wO (zM _) fun e2 apq el2 es2 er2=>?_;replace el2:e2.length=e1.length:=el2;have eq2:e2[q]?=some ((pre++[.int .i64 k1,.int .i64 y1,.int .i64 p1,.int .i64 bb1,.str yH,.str yC,.str yB,yF])++cr (c++gp)::([cs [],.bool false,.str ByteArray.empty]++((Ce.mk k2 y2 p2 bb2 BZ BV BU EK (cs []) (cs jI) false ByteArray.empty).l++post))):=by rw [es2];simp only [List.append_assoc];rfl
    refine af.cell apq (x:=cr (c++gp)) (y:=cs (c++gp)) eq2 (Wk.cr _) (zM _) fun e3 akH el3 es3 er3=>?_;refine af.mk hwr akH fun K hK=>?_;have hov:=YO (blk:=blk) (p:=p2) (b:=bb2) (an:=BZ) (tg:=BV) (kids:=mr) (ag:=jI) (h:=h2) (tr:=AU) hv hz0;have hs3:e3[s]?=some [.bool blk,cs (LL++mQ h2 AU)]:=(er3 s En).trans ((er2 s En).trans es1);have hq3:e3[q]?=some (pre++((Ce.mk k1 y1 p1 bb1 yH yC yB yF (cs (c++gp)) (cs []) false ByteArray.empty).l++((Ce.mk k2 y2 p2 bb2 BZ BV BU EK (cs []) (cs jI) false ByteArray.empty).l++post))):=by rw [es3];simp only [List.append_assoc];rfl
    have Vd:∀j,j≠s->j≠q->j<bx.length->e3[j]?=b8[j]?:=fun j g1 g2 g3=>(er3 j g2).trans ((er2 j g2).trans ((er1 j g1).trans (rQ j g1 g2 g3)));have hce:gB bx.length e3:=.mk fun j z hj hz i hi=>by
     by_cases e1:j=s
     ·subst e1;rw [hs3] at hz;cases hz;simp only [AV.aA,AV.ids,dY,List.append_nil,List.not_mem_nil] at hi
     ·by_cases e2:j=q
      ·subst e2;rw [hq3] at hz;cases hz;refine Zr.out j _ hj hqo i ?_;simpa only [Ce.l,dF,AV.aA,AV.ids,dY,nD,List.cons_append,List.nil_append,List.append_nil,List.append_assoc] using hi
      ·exact Zr.out j z hj ((Vd j e1 e2 hj)▸hz) i hi
    refine hqk (z:=[]) hK oM akH hce ?_ ?_ (Zm.fr fun i hi=>Vd i (fun e=>acs (e▸hi)) (fun e=>WG (e▸hi)) (hI1 i hi)) ?_ ?_
    ·rw [hov];exact hs3
    ·rw [hov];exact hq3
    ·rw [hov];exact agp.fr fun i hi=>Vd i (fun e=>agk (e▸hi)) (fun e=>acw (e▸hi)) (hI2 i hi)
    ·intro j g1 g2 g3 g4;by_cases hjl:j<bx.length
     ·exact (Vd j g1 g2 hjl).trans (hall j g1 g2 g3 hjl)
     ·rw [List.getElem?_eq_none oM,List.getElem?_eq_none oM]
  ·conv=>whnf
   repeat' (first
   |((with_reducible refine (?_:∃c:List AV,_∧_));refine ⟨_,(by first|exact hq|exact hs),?_⟩;(conv=>whnf))
   |((with_reducible refine (?_:_∧gB _ _∧_));refine aH.get ?_)
   |((with_reducible refine (?_:∃(blk:Bool),_));refine aH.get ?_)
   |((with_reducible refine (?_:∃(pre:List AV),_));refine aH.get ?_)
   |refine nX ?_;conv=>whnf
   |with_reducible refine fun(hwr:wv _=true)(hwb:aN _=true)=>?_
   |(with_reducible refine fun(hw:aN _=true)=>?_);conv=>whnf
   |with_reducible assumption
   |((with_reducible intro h);exfalso;(first|exact absurd hv (of_decide_eq_false h)|exact hv (of_decide_eq_true h));done)
   |(with_reducible first|refine bU ho ?_|refine bF ho ?_|refine aQ ho ?_|refine aJ ho ?_|refine aI ?_);conv=>whnf
   |with_reducible refine And.intro ?_ ?_
   |exact cL
   |(with_reducible intro h);first|(try simp only [lG,reduceCtorEq] at h);first|done|(exfalso;omega)|replace h:=h trivial aZ|replace h:=h aZ|skip
   |fail)
   refine aH.mk ⟨blk,[],_,k2,y2,p2,bb2,BZ,BV,BU,EK,LL,jI,h2,AU,post,mr,I2,⟨hw,by show gB b8.length b8;rw [hl8,Vb,hla];exact Zr,hs,⟨hq,ho⟩,agp,Zk,⟨ak6,akN⟩,ale,alf,ald⟩,?_⟩;intro b9 gl9 WO gs9 gx9 gk9 gr9;replace gl9:b9.length=b8.length:=gl9
   conv=>whnf
   repeat' (first
   |((with_reducible refine (?_:∃c:List AV,_∧_));refine ⟨_,(by first|exact hq|exact hs),?_⟩;(conv=>whnf))
   |((with_reducible refine (?_:_∧gB _ _∧_));refine aH.get ?_)
   |((with_reducible refine (?_:∃(blk:Bool),_));refine aH.get ?_)
   |((with_reducible refine (?_:∃(pre:List AV),_));refine aH.get ?_)
   |refine nX ?_;conv=>whnf
   |with_reducible refine fun(hwr:wv _=true)(hwb:aN _=true)=>?_
   |(with_reducible refine fun(hw:aN _=true)=>?_);conv=>whnf
   |with_reducible assumption
   |((with_reducible intro h);exfalso;(first|exact absurd hv (of_decide_eq_false h)|exact hv (of_decide_eq_true h));done)
   |(with_reducible first|refine bU ho ?_|refine bF ho ?_|refine aQ ho ?_|refine aJ ho ?_|refine aI ?_);conv=>whnf
   |with_reducible refine And.intro ?_ ?_
   |exact cL
   |(with_reducible intro h);first|(try simp only [lG,reduceCtorEq] at h);first|done|(exfalso;omega)|replace h:=h trivial aZ|replace h:=h aZ|skip
   |fail)
   exact hend (fun e=>hv e.1) hwr hwb gl9 WO gs9 gx9 gk9 gr9
 ·exact h.elim
def oN (blk:Bool) (k:Int) (c:List Cm) (kids:List Nd):List Nd×List Cm:=if k=3 then iG blk c kids else iU blk c kids
def c71 (m:Nat):az:=fun args bx K=>match args with
 |[.ptr s 0,.ptr b o]=>∃(blk:Bool) (c:List Cm) (pre:List AV) (k y p bb:Int) (an tg tx:ByteArray) (q:Nat) (lc fc:AV) (h:Bool) (tr:ByteArray) (post:List AV) (kids:List Nd) (cc:List AV) (J:List Nat),(aN bx=true∧gB bx.length bx∧bx[s]?=some [.bool blk,cs c]∧Bi bx b o pre ⟨k,y,p,bb,an,tg,tx,.dm q 35 12 kids.length,lc,fc,h,tr⟩ post∧bx[q]?=some cc∧fG bx kids cc J∧(s::b::q::J).Nodup∧(k=3∨k=4∧kids.length % 2=0)∧(Oe kids=true∧Jv kids=true)∧eP kids<=m∧c.length+fD kids<=9000000000∧eP kids<=9000000000)∧
   ∀(bx':List (List AV)) (cc':List AV),bx'.length=bx.length->gB bx.length bx'->bx'[s]?=some [.bool blk,cs (oN blk k c kids).2]->bx'[q]?=some cc'->fG bx' (oN blk k c kids).1 cc' J->(∀j,j≠s->j≠q->j ∉ J->bx'[j]?=bx[j]?)->K (.bW []) bx'
 |_=>False
def SqI (bx:List (List AV)) (s b o q:Nat) (blk:Bool) (c:List Cm) (kids:List Nd) (J:List Nat) (j:Nat) (τ:aF):Prop:=∃(a r:List Nd) (ca Xw:List AV) (Ja Jr:List Nat) (bx1:List (List AV)),kids=a++r∧j=r.length∧τ=⟨[(10,.int .i64 a.length),(9,.int .i64 kids.length),(1,.ptr b o),(0,.ptr s 0)],bx1⟩∧bx1.length=bx.length∧bx1[s]?=some [.bool blk,cs (iG blk c a).2]∧bx1[q]?=some (ca++Xw)∧fG bx1 (iG blk c a).1 ca Ja∧fG bx1 r Xw Jr∧J=Ja++Jr∧(∀j,j≠s->j≠q->j ∉ J->bx1[j]?=bx[j]?)∧gB bx.length bx1
def aln:=fN 71 Tryz.f71 55 []
theorem aeB {m s b o q:Nat} {blk:Bool} {c:List Cm} {pre post:List AV} {k y p bb:Int} {an tg tx tr:ByteArray} {lc fc:AV} {h:Bool} {kids:List Nd} {cc cc':List AV} {J:List Nat} {bx bx':List (List AV)} {K:AV->List (List AV)->Prop} (hK:c71 m [.ptr s 0,.ptr b o] bx K) (hs:bx[s]?=some [.bool blk,cs c]) (hx:Bi bx b o pre ⟨k,y,p,bb,an,tg,tx,.dm q 35 12 kids.length,lc,fc,h,tr⟩ post) (hq:bx[q]?=some cc) (hF:fG bx kids cc J)
  (d1:bx'.length=bx.length) (d2:gB bx.length bx') (d3:bx'[s]?=some [.bool blk,cs (oN blk k c kids).2]) (d4:bx'[q]?=some cc') (d5:fG bx' (oN blk k c kids).1 cc' J) (d6:∀j,j≠s->j≠q->j ∉ J->bx'[j]?=bx[j]?):K (.bW []) bx':=by
 obtain ⟨blk',c',pre',k',y',p',bb',an',X6,XV,q',lc',fc',h',V7,post',kids',cc2,J',⟨-,-,hs',hx',hq',hF',-⟩,hK⟩:=hK;rw [hs,Option.some.injEq,List.cons.injEq,List.cons.injEq,AV.bool.injEq] at hs';obtain ⟨rfl,e2,-⟩:=hs';obtain rfl:=sF e2;obtain ⟨rfl,e,rfl⟩:=hx.inj hx';simp only [Ce.mk.injEq,AV.dm.injEq] at e;obtain ⟨rfl,rfl,rfl,rfl,rfl,rfl,rfl,⟨rfl,-,-,-⟩,rfl,rfl,rfl,rfl⟩:=e;rw [hq,Option.some.injEq] at hq';subst hq';obtain ⟨rfl,rfl⟩:=fG.inj hF hF';exact hK bx' cc' d1 d2 d3 d4 d5 d6
theorem ajj {m:Nat} (h42:az.OK Tryz.prog 42 (VD m)) {s b o:Nat} {bx:List (List AV)} {blk:Bool} {c:List Cm} {pre:List AV} {y p bb:Int} {an tg tx:ByteArray} {q:Nat} {lc fc:AV} {hh:Bool} {tr:ByteArray} {post:List AV} {kids:List Nd} {cc:List AV} {J:List Nat}
  (hw:aN bx=true) (hcl:gB bx.length bx) (hs:bx[s]?=some [.bool blk,cs c]) (hx:Bi bx b o pre ⟨3,y,p,bb,an,tg,tx,.dm q 35 12 kids.length,lc,fc,hh,tr⟩ post) (hq:bx[q]?=some cc) (hF:fG bx kids cc J) (hnd:(s::b::q::J).Nodup) (hev:Oe kids=true) (htr:Jv kids=true) (hm:eP kids<=m) (hn:c.length+fD kids<=9000000000) (hz:eP kids<=9000000000):
  ∃r bx',aV Tryz.prog 71 [.ptr s 0,.ptr b o] bx r bx'∧wv r=true∧aN bx'=true∧∀K,c71 m [.ptr s 0,.ptr b o] bx K->K r bx':=by
 have hb:bx[b]?=some (pre++(.int .i64 3::.int .i64 y::.int .i64 p::.int .i64 bb::.str an::.str tg::.str tx::.dm q 35 12 kids.length::lc::fc::.bool hh::.str tr::post)):=hx.1;have ho:=hx.2;have hs0:=hs;have hb0:=hb;have hq0:=hq;rw [List.nodup_cons,List.nodup_cons,List.nodup_cons] at hnd;obtain ⟨n1,n2,n3,hnJ⟩:=hnd;have hsb:s≠b:=fun e=>n1 (by rw [e];exact List.mem_cons_self);have En:s≠q:=fun e=>n1 (by rw [e];exact List.mem_cons_of_mem _ List.mem_cons_self);have hsJ:s ∉ J:=fun e=>n1 (List.mem_cons_of_mem _ (List.mem_cons_of_mem _ e));have hbq:b≠q:=fun e=>n2 (by rw [e];exact List.mem_cons_self);have WI:b ∉ J:=fun e=>n2 (List.mem_cons_of_mem _ e);have hJl:=hF.lt;have hzl:=wz kids;refine aln.UK rfl hw ?_;have B:=V.base (ae.cons h42 (ae.cons YN ae.nil));have zE:Ev _ _ _ (au 71) [100,42] []:=⟨B⟩
 conv=>whnf
 repeat' (first
 |((with_reducible refine (?_:∃c:List AV,_∧_));refine ⟨_,(by first|exact hb|exact hq|exact hs),?_⟩;(conv=>whnf))
 |refine nX ?_;conv=>whnf
 |with_reducible refine fun(hwr:wv _=true)(hwb:aN _=true)=>?_
 |(with_reducible refine fun(hw:aN _=true)=>?_);conv=>whnf
 |with_reducible assumption
 |((with_reducible refine (?_:WP _ _ _ (.loop _) _ _));refine WP.loop (SqI bx s b o q blk c kids J) ⟨[],kids,[],cc,[],J,bx,rfl,rfl,rfl,rfl,(by rw [iG];exact hs),hq,(by rw [iG];exact gY.2 ⟨rfl,rfl⟩),hF,rfl,fun j _ _ _=>rfl,hcl⟩ ?_;clear hs hq hb)
 |((with_reducible refine (?_:∀(k:Nat) (τ:aF),SqI _ _ _ _ _ _ _ _ _ k τ->_));refine aH.get ?_)
 |(with_reducible first|refine bU ho ?_|refine bF ho ?_|refine aQ ho ?_|refine aJ ho ?_|refine aI ?_);conv=>whnf
 |with_reducible refine And.intro ?_ ?_
 |exact cL
 |(with_reducible intro h);first|(try simp only [lG,reduceCtorEq] at h);first|done|(exfalso;omega)|replace h:=h trivial aZ|replace h:=h aZ|skip
 |fail)
 refine aH.mk ?_;rintro j τ ⟨a,r,ca,Xw,Ja,Jr,bx1,hkk,rfl,rfl,hl,hs,hq,hA,hR,hJ,hag,vV⟩;have hb:=(hag b (Ne.symm hsb) hbq WI).trans hb0;have hca:=hA.len;rw [LX] at hca;rcases r with _|⟨x,r⟩
 ·rw [List.append_nil] at hkk;obtain ⟨rfl,rfl⟩:=gY.1 hR;subst hkk;rw [List.append_nil] at hq hJ
  repeat' (first
  |((with_reducible refine (?_:∃c:List AV,_∧_));refine ⟨_,(by first|exact hb|exact hq|exact hs),?_⟩;(conv=>whnf))
  |refine nX ?_;conv=>whnf
  |with_reducible refine fun(hwr:wv _=true)(hwb:aN _=true)=>?_
  |(with_reducible refine fun(hw:aN _=true)=>?_);conv=>whnf
  |with_reducible assumption
  |((with_reducible intro h);exfalso;simp at h;done)
  |(with_reducible first|refine bU ho ?_|refine bF ho ?_|refine aQ ho ?_|refine aJ ho ?_|refine aI ?_);conv=>whnf
  |with_reducible refine And.intro ?_ ?_
  |exact cL
  |(with_reducible intro h);first|(try simp only [lG,reduceCtorEq] at h);first|done|(exfalso;omega)|replace h:=h trivial aZ|replace h:=h aZ|skip
  |fail)
  refine af.mk hwr hwb fun K hK=>?_;exact aeB hK hs0 hx hq0 hF hl vV (by rw [oN,if_pos rfl];exact hs) hq (by rw [oN,if_pos rfl,hJ];exact hA) hag
 ·have hkl:kids.length=a.length+r.length+1:=by rw [hkk,List.length_append,List.length_cons];omega
  obtain ⟨c1,c2,J1,J2,rfl,rfl,hX,hR2⟩:=dI.1 hR;obtain ⟨k1,y1,p1,q1,yH,yC,yB,kids1,gp,jd,h1,xm⟩:=x;obtain ⟨yF,rfl,hk1⟩:=iW.1 hX;have hcn:fD kids=fD a+((gp.length+fD kids1+jd.length+(mQ h1 xm).length)+fD r):=by rw [hkk,uK,fD,lW]
  have hsz:eP kids=eP a+(1+eP kids1+eP r):=by rw [hkk,uF,eP,jT]
  have ak8:=G5 blk c a;have hev1:Vj (.mk k1 y1 p1 q1 yH yC yB kids1 ((iG blk c a).2++gp) jd h1 xm)=true:=by rw [hkk,Nv,Oe] at hev;simp only [Bool.and_eq_true] at hev;have:=hev.2.1;rw [Vj] at this⊢;exact this
  have acr:LU (.mk k1 y1 p1 q1 yH yC yB kids1 ((iG blk c a).2++gp) jd h1 xm)=true:=by rw [hkk,GG,Jv] at htr;simp only [Bool.and_eq_true] at htr;have:=htr.2.1;rw [LU] at this⊢;exact this
  have DV:∀i ∈ J1,i ∈ J:=fun i hi=>by rw [hJ];exact List.mem_append_right _ (List.mem_append_left _ hi)
  have hJn:=hnJ;rw [hJ,List.nodup_append] at hJn;obtain ⟨hn1,hn2,hn3⟩:=hJn;rw [List.nodup_append] at hn2;have hnd1:(s::q::J1).Nodup:=List.nodup_cons.2 ⟨fun e=>by
   rcases List.mem_cons.1 e with e|e
   ·exact En e
   ·exact hsJ (DV _ e),List.nodup_cons.2 ⟨fun e=>n3 (DV _ e),hn2.1⟩⟩
  repeat' (first
  |((with_reducible refine (?_:∃c:List AV,_∧_));refine ⟨_,(by first|exact hb|exact hq|exact hs),?_⟩;(conv=>whnf))
  |((with_reducible refine (?_:∃(blk:Bool),_));refine aH.get ?_)
  |refine nX ?_;conv=>whnf
  |with_reducible refine fun(hwr:wv _=true)(hwb:aN _=true)=>?_
  |(with_reducible refine fun(hw:aN _=true)=>?_);conv=>whnf
  |with_reducible assumption
  |((with_reducible intro h);exfalso;simp at h;done)
  |((with_reducible refine (?_:∃(j:Nat) (τ':aF),_));refine aH.get ?_)
  |(with_reducible first|refine bU ho ?_|refine bF ho ?_|refine aQ ho ?_|refine aJ ho ?_|refine aI ?_);conv=>whnf
  |with_reducible refine And.intro ?_ ?_
  |exact cL
  |(with_reducible intro h);first|(try simp only [lG,reduceCtorEq] at h);first|done|(exfalso;omega)|replace h:=h trivial aZ|replace h:=h aZ|skip
  |fail)
  have Zu:gB bx1.length bx1:=by rw [hl];exact vV
  refine aH.mk ⟨blk,(iG blk c a).2,ca,k1,y1,p1,q1,yH,yC,yB,yF,gp,cs jd,h1,xm,c2,⟨hw,Zu,En,hs,⟨hq,by rw [hca];rfl⟩,oM⟩,?_⟩;clear hs;intro b3 hl3 DT hs hx3 hr3;replace hl3:b3.length=bx1.length:=hl3;replace hr3:∀j,j≠s->j≠q->b3[j]?=bx1[j]?:=hr3;replace DT:gB bx1.length b3:=DT;have hb:=(hr3 b (Ne.symm hsb) hbq).trans hb
  conv=>whnf
  repeat' (first
  |((with_reducible refine (?_:∃c:List AV,_∧_));refine ⟨_,(by first|exact hb|exact hq|exact hs),?_⟩;(conv=>whnf))
  |((with_reducible refine (?_:∃(blk:Bool),_));refine aH.get ?_)
  |refine nX ?_;conv=>whnf
  |with_reducible refine fun(hwr:wv _=true)(hwb:aN _=true)=>?_
  |(with_reducible refine fun(hw:aN _=true)=>?_);conv=>whnf
  |with_reducible assumption
  |((with_reducible intro h);exfalso;simp at h;done)
  |((with_reducible refine (?_:∃(j:Nat) (τ':aF),_));refine aH.get ?_)
  |(with_reducible first|refine bU ho ?_|refine bF ho ?_|refine aQ ho ?_|refine aJ ho ?_|refine aI ?_);conv=>whnf
  |with_reducible refine And.intro ?_ ?_
  |exact cL
  |(with_reducible intro h);first|(try simp only [lG,reduceCtorEq] at h);first|done|(exfalso;omega)|replace h:=h trivial aZ|replace h:=h aZ|skip
  |fail)
  refine aH.mk ⟨blk,[],ca,k1,y1,p1,q1,yH,yC,yB,yF,(iG blk c a).2++gp,jd,h1,xm,c2,kids1,J1,⟨hw,by show gB b3.length b3;rw [hl3];exact DT,hs,hx3,hk1.fr (fun i hi=>hr3 i (fun e=>hsJ (DV i hi|>fun z=>e▸z)) (fun e=>n3 (e▸DV i hi))),hnd1,⟨hev1,acr⟩,by rw [jT];omega,by rw [lW,List.length_append,List.length_nil];omega,by rw [jT];omega⟩,?_⟩;clear hs;intro b5 hl5 qo hs5 hx5 hk5 Ar;replace hl5:b5.length=b3.length:=hl5;replace qo:gB b3.length b5:=qo;replace Ar:∀j,j≠s->j≠q->j ∉ J1->b5[j]?=b3[j]?:=Ar
  conv=>whnf
  repeat' (first
  |((with_reducible refine (?_:∃c:List AV,_∧_));refine ⟨_,(by first|exact hb|exact hq|exact hs),?_⟩;(conv=>whnf))
  |((with_reducible refine (?_:∃(blk:Bool),_));refine aH.get ?_)
  |refine nX ?_;conv=>whnf
  |with_reducible refine fun(hwr:wv _=true)(hwb:aN _=true)=>?_
  |(with_reducible refine fun(hw:aN _=true)=>?_);conv=>whnf
  |with_reducible assumption
  |((with_reducible intro h);exfalso;simp at h;done)
  |((with_reducible refine (?_:∃(j:Nat) (τ':aF),_));refine aH.get ?_)
  |(with_reducible first|refine bU ho ?_|refine bF ho ?_|refine aQ ho ?_|refine aJ ho ?_|refine aI ?_);conv=>whnf
  |with_reducible refine And.intro ?_ ?_
  |exact cL
  |(with_reducible intro h);first|(try simp only [lG,reduceCtorEq] at h);first|done|(exfalso;omega)|replace h:=h trivial aZ|replace h:=h aZ|skip
  |fail)
  have rQ:∀j,j≠s->j≠q->j ∉ J1->b5[j]?=bx1[j]?:=fun j g1 g2 g3=>(Ar j g1 g2 g3).trans (hr3 j g1 g2);have hsn:=O6 blk (Nd.mk k1 y1 p1 q1 yH yC yB kids1 gp jd h1 xm) c a;have hsp:bJ blk (iG blk c a).2 [] (Nd.mk k1 y1 p1 q1 yH yC yB kids1 gp jd h1 xm)=bJ blk [] [] (.mk k1 y1 p1 q1 yH yC yB kids1 ((iG blk c a).2++gp) jd h1 xm):=OV ..;rw [hsp] at hsn;refine aH.mk ⟨r.length,_,by simp,Rx.prune [0,1,9,10],a++[Nd.mk k1 y1 p1 q1 yH yC yB kids1 gp jd h1 xm],r,ca++((bJ blk [] [] (.mk k1 y1 p1 q1 yH yC yB kids1 ((iG blk c a).2++gp) jd h1 xm)).1.ce yF).l,c2,Ja++J1,J2,b5,by rw [hkk,List.append_assoc];rfl,rfl,by rw [List.length_append];rfl,oM,by rw [hsn];exact hs5,by rw [hx5.1,List.append_assoc],?_,?_,by rw [hJ,List.append_assoc],?_,by rw [hl3,hl] at qo;exact qo⟩
  ·rw [hsn];refine wY.2 ⟨ca,_,Ja,J1,rfl,rfl,hA.fr fun i hi=>?_,fG.one (iW.2 ⟨yF,rfl,hk5⟩)⟩;have KP:i ∈ J:=by rw [hJ];exact List.mem_append_left _ hi
   exact rQ i (fun e=>hsJ (e▸KP)) (fun e=>n3 (e▸KP)) (fun e=>hn3 i hi i (List.mem_append_left _ e) rfl)
  ·refine hR2.fr fun i hi=>?_;have KP:i ∈ J:=by rw [hJ];exact List.mem_append_right _ (List.mem_append_right _ hi)
   exact rQ i (fun e=>hsJ (e▸KP)) (fun e=>n3 (e▸KP)) (fun e=>hn2.2.2 i e i hi rfl)
  ·intro j g1 g2 g3;exact (rQ j g1 g2 (fun e=>g3 (DV j e))).trans (hag j g1 g2 g3)
end V
end
end Go.Proofs.YtlmjabnkjmfcmaaGreat
