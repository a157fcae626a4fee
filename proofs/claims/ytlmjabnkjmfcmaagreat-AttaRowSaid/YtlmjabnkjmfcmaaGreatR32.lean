/- Parts of a proof; no condition. -/
import Derived.Test.YtlmjabnkjmfcmaaGreatR30
import Derived.Test.YtlmjabnkjmfcmaaGreatR31
namespace Go.Proofs.YtlmjabnkjmfcmaaGreat
open Go Go.RowKit Go.PlainAid
set_option linter.unusedVariables false
set_option linter.unusedSimpArgs false
set_option linter.unusedSectionVars false
set_option maxHeartbeats 20000000
set_option linter.defProp false
section
variable [nM]
set_option maxRecDepth 100000
namespace V
open Ab
open Bk (Cm)
def pF (blk:Bool) (d:Dc):Dc:=⟨d.head,d.jL,d.mark,(bJ blk [] [] d.root).1,(bJ blk [] [] d.root).2++d.ag⟩
theorem Ih:∀{a b:List ByteArray},bM a=bM b->a=b
 |[],[],_=>rfl
 |[],_::_,h=>by simp [bM] at h
 |_::_,[],h=>by simp [bM] at h
 |x::a,y::b,h=>by rw [bM,bM,List.map_cons,List.map_cons] at h;simp only [List.cons.injEq,AV.str.injEq] at h;rw [h.1,Ih (a:=a) (b:=b) h.2]
theorem Vr {d e:Dc} (h:wJ d=wJ e):e=d:=by
 obtain ⟨hd,ds,mk,rt,ft⟩:=d;obtain ⟨hd2,ds2,mk2,rt2,ft2⟩:=e;unfold wJ cs at h;simp only [List.cons.injEq,AV.int.injEq,AV.str.injEq,AV.sl.injEq,AV.bool.injEq,true_and,and_true] at h;obtain ⟨⟨-,e1⟩,⟨-,e2⟩,e3,g1,g2,g3,g4,g5,g6,g7,⟨g8n,g8⟩,⟨g9n,g9⟩,⟨ap0,g10⟩,g11,g12,⟨-,e5⟩⟩:=h;have hr:bV rt=bV rt2:=by unfold bV cs;rw [g1,g2,g3,g4,g5,g6,g7,g8n,g8,g9n,g9,ap0,g10,g11,g12]
 obtain rfl:=Ih e2;rw [tN hr,qg e1,qg e5,e3]
def Ik (q:Nat) (d:Dc):List ByteArray:=jE d.head++(yU q d.root++jE d.ag)
def lK (q:Nat):List Dc->List ByteArray
 |[]=>[]
 |d::l=>Ik q d++lK q l
theorem yV (q:Nat):∀a b:List Dc,lK q (a++b)=lK q a++lK q b
 |[],b=>by rw [lK];rfl
 |d::a,b=>by rw [List.cons_append,lK,lK,yV q a b,List.append_assoc]
def yD (q:Nat) (ds:List Dc) (tl:List Cm):List ByteArray:=lK q ds++jE tl
def Dsm (d:Dc):Prop:=jT d.root<=4000000000∧lW d.root<=4000000000∧d.head.length<=4000000000∧d.ag.length<=4000000000
def c54 (q:Nat):az:=fun args bx K=>match args with
 |[.agg [.sl n l,.sl m k],f1,f2]=>∃(ds:List Dc) (tl:List Cm) (b:Nat) (v:AV),(n=ds.length∧l=fF ds∧m=tl.length∧k=eU tl∧f1=Wi q b∧f2=Yb q b)∧(aN bx=true∧gB bx.length bx∧bx[b]?=some [v]∧lg q (yD q ds tl).length v∧Ba (yD 0 ds tl)∧(∀d ∈ ds,Dsm d)∧ds.length<=4000000000∧tl.length<=4000000000)∧∀bx':List (List AV),bx'.length=bx.length->bx'[b]?=some [ad (yD q ds tl) v]->(∀j,j≠b->bx'[j]?=bx[j]?)->K (.bW []) bx'
 |_=>False
def I54 (g:List Dc->List ByteArray) (b0:List (List AV)) (b n c:Nat) (v f2:AV) (ds:List Dc) (j:Nat) (τ:aF):Prop:=∃(a r:List Dc) (B:List (List AV)),ds=a++r∧j=r.length∧Wg b0 b v (g a) B∧τ=⟨[(13,.int .i64 a.length),(12,.int .i64 ds.length),(11,.sl ds.length (fF ds)),(6,.fn 84 [.ptr c 0]),(4,.ptr c 0),(3,.ptr n 0),(2,f2)],B⟩
theorem Tj {a post:List Dc} {d:Dc} {n:Nat} (hn:n=a.length):List.drop (n*16) (fF (a++d::post))=wJ d++fF post:=by subst hn;rw [D7,←qf,List.drop_left];rfl
theorem agM (d:Dc) {c:List AV} (h:c=wJ d):AV.aA c=[]:=h▸jc (bn (qY d))
theorem Rz (ds:List Dc) (tl:List Cm):AV.aA [.sl ds.length (fF ds),.sl tl.length (eU tl)]=[]:=by rw [AV.aA,AV.aA,AV.aA,AV.ids,AV.ids,jc (bn (kX ds)),Jg];rfl
theorem AL:∀{a b:List Dc},fF a=fF b->a=b
 |[],[],_=>rfl
 |[],e::b,h=>by have:=congrArg List.length h;rw [qf,qf] at this;simp at this
 |d::a,[],h=>by have:=congrArg List.length h;rw [qf,qf] at this;simp at this
 |d::a,e::b,h=>by have h:wJ d++fF a=wJ e++fF b:=h;obtain ⟨h1,h2⟩:=List.append_inj h rfl;rw [Vr h1,AL h2]
theorem a54 (ds:List Dc) (tl:List Cm) (q b:Nat):iE [.agg [.sl ds.length (fF ds),.sl tl.length (eU tl)],Wi q b,Yb q b]=true:=by
 have h1:wv (.agg [.sl ds.length (fF ds),.sl tl.length (eU tl)])=true:=by simp [wv,uX,AV.flat,AV.one,kX,ay,bK (kX _),bK (ay _)]
 have h2:wv (Wi q b)=true:=rfl;have h3:wv (Yb q b)=true:=by
  unfold Yb;split
  ·rfl
  ·split<;>rfl
 rw [iE,iE,iE,iE,h1,h2,h3];rfl
def aqw:=fN 54 Tryz.f54 35 []
theorem ajr (hB:1000000001<=nM.B) {q:Nat} (hq:q=0∨q=1):az.OK Tryz.prog 54 (c54 q):=by
 intro args bx K0 h;unfold c54 at h;split at h
 ·rename_i n l m k f1 f2;obtain ⟨ds,tl,b,v,⟨rfl,rfl,rfl,rfl,rfl,rfl⟩,⟨hw,hcl,hb,hg,hbd,hds,hn,ht⟩,-⟩:=h;have hbl:=(List.getElem?_eq_some_iff.1 hb).1;have hnb:bx.length≠b:=oM;rw [yD,dH] at hbd;obtain ⟨hbd,hbt⟩:=hbd;generalize hN:(yD q ds tl).length=N at hg;obtain ⟨g,hgE⟩:∃g,g=lK q:=⟨_,rfl⟩;rw [yD,List.length_append,jf,←hgE] at hN;refine aqw.okD (a54 ds tl q b) hw ?_;have B:=V.base (ae.cons (aoE hB hq) (ae.cons (afJ hB (hq.elim .inl fun h=> .inr (.inl h)) 4000000000) ae.nil));have zE:Ev _ _ _ (au 54) [84,85] []:=⟨B⟩
  conv=>whnf
  repeat (refine nX ?_;conv=>whnf)
  refine wX.mk ?_;intro b1 hl1 hC hr1;have vV:=hcl.new hl1 hC hr1 (fun i hi=>by rw [Rz] at hi;cases hi)
  conv=>whnf
  repeat (refine nX ?_;conv=>whnf)
  refine wX.mk ?_;intro b0 hl0 hC2 hr0;have hcl0:gB b0.length b0:=vV.new hl0 hC2 hr0 (fun i hi=>by
   have hi:i ∈ [b]:=hi;rw [List.mem_singleton.1 hi];omega)
  have hcb:b1.length≠b:=oM;replace hC:=(hr0 bx.length oM).trans hC;have hs0:∀j,j<bx.length->b0[j]?=bx[j]?:=fun j hj=>(hr0 j oM).trans (hr1 j hj);have hW:Wg b0 b v [] b0:=Wg.beg hcl0 ((hs0 b hbl).trans hb) hg;have hfin:∀{B:List (List AV)} {b9:List (List AV)},Wg b0 b v (yD q ds tl) B->b9.length=bx.length->(∀j,j<bx.length->b9[j]?=B[j]?)->wv (.bW [])=true->aN b9=true->af (c54 q) [.agg [.sl ds.length (fF ds),.sl tl.length (eU tl)],Wi q b,Yb q b] bx (.bW []) b9:=by
   intro B b9 hW xR qA hwr hwb;refine af.mk hwr hwb fun K hK=>?_;obtain ⟨ds',tl',b',v',⟨-,e1,-,e2,e3,-⟩,⟨-,-,hb',-⟩,hK⟩:=hK;obtain rfl:=qg e2;obtain rfl:=AL e1;obtain rfl:=LW e3;rw [hb] at hb';cases hb';refine hK _ xR ?_ (fun j hj=>?_)
   ·rw [qA b hbl,hW.at]
   ·by_cases hjl:j<bx.length
    ·rw [qA j hjl,hW.same j oM hj,hs0 j hjl]
    ·rw [List.getElem?_eq_none oM,List.getElem?_eq_none oM]
  rcases hq with rfl|rfl
  all_goals
   conv=>whnf
   repeat' (first
   |((with_reducible refine (?_:∃(i k:Nat) (c:List AV) (v:AV),_));refine ⟨_,_,_,_,rfl,rfl,hW.get hC2 hcb,rfl,rfl,?_⟩;(conv=>whnf))
   |((with_reducible refine (?_:WP _ _ _ (.region 6 _ _) _ _));refine WP.aiS (ty:=94) (ud:=_) rfl rfl B (au 54) [84,85] ?_;(conv=>whnf))
   |((with_reducible refine (?_:∃c:List AV,_∧_));refine ⟨_,(by first|assumption|exact hW.get hC hnb),?_⟩;(conv=>whnf))
   |refine nX ?_;conv=>whnf
   |(with_reducible refine (?_:wv _=true->aN _=true->_));intro hwr hwb
   |(with_reducible refine (?_:aN _=true->_));intro hw;conv=>whnf
   |with_reducible assumption
   |((with_reducible refine wX.mk ?_);intro b3 hl3 hm3 hr3;have hle:=hW.le;replace hW:=hW.new hl3 hm3 hr3 rfl;(conv=>whnf))
   |((with_reducible refine gZ.mk ?_);intro b4 hl4 hm4 hr4;replace hW:=hW.put hl4 hm4 hr4 (agM d0 rfl) oM;(conv=>whnf))
   |((with_reducible refine (?_:(_:Nat)<_));(try simp only [lL,qf,eY,jM] at*);omega)
   |((with_reducible refine (?_:∃x r,List.drop _ (fF _)=x++r∧_));refine ⟨wJ d0,fF post,(by rw [hk];exact Tj oM),rfl,?_⟩)
   |((with_reducible refine (?_:∃(L:List Cm) (b:Nat) (v:AV),(_∧_∧_)∧_));(first|(refine ⟨d0.head,b,_,⟨⟨rfl,rfl⟩,hcb,hW.get hC2 hcb⟩,⟨aZ,hW.cl,hW.at,FY hg (by ((try simp only [lL,jf]);omega)),k1,k5⟩,?_⟩)|(refine ⟨d0.ag,b,_,⟨⟨rfl,rfl⟩,hcb,hW.get hC2 hcb⟩,⟨aZ,hW.cl,hW.at,FY hg (by ((try simp only [lL,jf]);omega)),k3,k6⟩,?_⟩)|(refine ⟨tl,b,_,⟨⟨rfl,rfl⟩,hcb,hW.get hC2 hcb⟩,⟨aZ,hW.cl,hW.at,FY hg (by ((try simp only [lL,jf]);omega)),hbt,ht⟩,?_⟩));(intro b5 hl5 hm5 Ar;(try replace hm4:=(Ar _ oM).trans hm4);replace hW:=hW.call hg hl5 hm5 Ar;(conv=>whnf)))
   |((with_reducible refine (?_:∃x:Nd,_=bV x∧_));refine ⟨d0.root,rfl,b,_,⟨rfl,rfl⟩,⟨aZ,hW.cl,hW.at,FY hg (by ((try simp only [lL,jf]);omega)),k2,k7,k7,k8⟩,?_⟩;(intro b5 hl5 hm5 Ar;(try replace hm4:=(Ar _ oM).trans hm4);replace hW:=hW.call hg hl5 hm5 Ar;(conv=>whnf)))
   |((with_reducible refine (?_:WP _ _ _ (.loop _) _ _));refine WP.loop (I54 g b0 b bx.length b1.length v _ ds) ⟨[],ds,_,rfl,rfl,hW.to (by rw [hgE];rfl),rfl⟩ ?_;clear hW;(rintro j τ ⟨a,r,B1,hk,rfl,hW,rfl⟩);have e1:=congrArg List.length hk;rw [List.length_append] at e1;rcases r with _|⟨d0,post⟩;all_goals (first|((rw [List.length_nil] at e1;rw [List.append_nil] at hk;subst hk))|((rw [List.length_cons] at e1);have e4:=congrArg List.length (congrArg g hk);rw [hgE,yV,lK,List.length_append,List.length_append,Ik,List.length_append,List.length_append,jf,jf,←hgE] at e4;obtain ⟨k7,k8,k5,k6⟩:=hds d0 (by rw [hk];simp);have k9:Ba (Ik 0 d0):=(by rw [hk,yV,lK,dH,dH] at hbd;exact hbd.2.1);rw [Ik,dH,dH] at k9;obtain ⟨k1,k2,k3⟩:=k9)))
   |((with_reducible refine (?_:∃(j:Nat) (τ':aF),j<_∧Rx _ _ τ'∧_));refine ⟨post.length,_,by simp,Rx.refl,a++[d0],post,_,by rw [hk];simp,rfl,hW.to (by rw [hgE,yV,lK,lK,Ik];simp [List.append_assoc]),by rw [List.length_append];rfl⟩)
   |((with_reducible refine (?_:_∧gB _ _∧_));refine ⟨Nat.le_trans (by omega:bx.length<=b0.length) hW.le,hW.fin hg hbl oM hs0 hcl,uV.pure rfl,?_⟩;intro b9 xR qA;(conv=>whnf);intro hwr hwb;exact hfin (hW.to (by rw [hgE];rfl)) xR qA hwr hwb)
   |with_reducible refine And.intro ?_ ?_
   |exact cL
   |(with_reducible intro h);first|(cases h;done)|(try simp only [lG,reduceCtorEq] at h);first|done|(exfalso;omega)|replace h:=h trivial aZ|replace h:=h aZ|skip
   |fail)
   all_goals done
 ·exact h.elim
def c27 (q:Nat):az:=fun args bx K=>match args,bx with
 |[.agg [.sl n l,.sl m k]],[]=>∃(ds:List Dc) (tl:List Cm),(n=ds.length∧l=fF ds∧m=tl.length∧k=eU tl)∧((yD q ds tl).length<=10000000000∧Ba (yD 0 ds tl)∧(∀d ∈ ds,Dsm d)∧ds.length<=4000000000∧tl.length<=4000000000)∧K (.sl (yD q ds tl).length (bM (yD q ds tl))) []
 |_,_=>False
theorem a27 (ds:List Dc) (tl:List Cm):iE [.agg [.sl ds.length (fF ds),.sl tl.length (eU tl)]]=true:=by have:=a54 ds tl 0 0;rw [iE,Bool.and_eq_true] at this;rw [iE,this.1];rfl
theorem X9 (n:Nat) (l:List ByteArray):AV.aA [.sl n ([]++bM l)]=[]:=by rw [AV.aA,AV.aA,AV.ids,List.nil_append,CQ];rfl
theorem gB.zero (B:List (List AV)):gB 0 B:=.mk fun j c hj=>absurd hj (Nat.not_lt_zero _)
theorem Sz {B:List (List AV)} (h:B.length=0):B=[]:=List.eq_nil_of_length_eq_zero h
def aqI:=fN 27 Tryz.f27 9 [.tmp 2]
theorem aoZ (hB:1000000001<=nM.B):az.OK Tryz.prog 27 (c27 0):=by
 intro args bx K0 h;unfold c27 at h;split at h
 ·rename_i n l m k;obtain ⟨ds,tl,⟨rfl,rfl,rfl,rfl⟩,⟨hn,hbd,hds,hd,ht⟩,-⟩:=h;refine aqI.okD (a27 ds tl) rfl ?_;have B:=V.base (ae.cons (ajr hB (q:=0) dE) ae.nil);have zE:Ev _ _ _ (au 27) [54] []:=⟨B⟩
  conv=>whnf
  repeat (refine nX ?_;conv=>whnf)
  refine wX.mk ?_;intro b1 hl1 hC hr1;have vV:gB b1.length b1:=gB.new (B:=[]) (gB.zero []) hl1 hC hr1 (fun i hi=>by rw [Rz] at hi;cases hi)
  conv=>whnf
  repeat (refine nX ?_;conv=>whnf)
  refine wX.mk ?_;intro b2 hl2 hs hr2
  conv=>whnf
  refine WP.CY (x':=[.row 9 1 0 []]) hs (.cons (Wv.lM (e:=9) (z:=1)) .nil) rfl ?_;intro b3 hl3 hs3 hr3;have DT:gB b3.length b3:=vV.new (hl3.trans hl2) hs3 (fun j hj=>(hr3 j oM).trans (hr2 j hj)) (fun i hi=>by cases hi);have akZ:b1.length=1:=hl1;replace hC:b3[0]?=some [.sl ds.length (fF ds),.sl tl.length (eU tl)]:=(hr3 0 oM).trans ((hr2 0 oM).trans hC)
  repeat' (first
  |((with_reducible refine (?_:∃c:List AV,_∧_));refine ⟨_,aZ,?_⟩;(conv=>whnf))
  |refine nX ?_;conv=>whnf
  |(with_reducible refine (?_:wv _=true->aN _=true->_));intro hwr hwb
  |(with_reducible refine (?_:aN _=true->_));intro hw;conv=>whnf
  |with_reducible assumption
  |((with_reducible refine (?_:∃(ds:List Dc) (tl:List Cm) (b:Nat) (v:AV),_));refine ⟨ds,tl,b1.length,.row 9 1 0 [],⟨rfl,rfl,rfl,rfl,rfl,rfl⟩,⟨aZ,DT,hs3,⟨_,_,rfl,oM,rfl⟩,hbd,hds,hd,ht⟩,?_⟩;intro b5 hl5 hm5 Ar;(conv=>whnf))
  |((with_reducible refine (?_:_∧gB _ _∧_));refine ⟨Nat.zero_le _,gB.zero _,uV.pure (X9 _ _),?_⟩;intro b9 xR qA;(conv=>whnf);intro hwr hwb;rw [Sz xR,Nat.zero_add];refine af.mk (dN _) rfl fun K hK=>?_;obtain ⟨ds',tl',⟨-,e1,-,e2⟩,-,hK⟩:=hK;obtain rfl:=qg e2;obtain rfl:=AL e1;exact hK)
  |with_reducible refine And.intro ?_ ?_
  |exact cL
  |(with_reducible intro h);first|(cases h;done)|(try simp only [lG,reduceCtorEq] at h);first|done|(exfalso;omega)|replace h:=h trivial aZ|replace h:=h aZ|skip
  |fail)
  all_goals done
 ·exact h.elim
def aqK:=fN 25 Tryz.f25 8 [.tmp 2]
theorem ao1 (hB:1000000001<=nM.B):az.OK Tryz.prog 25 (c27 1):=by
 intro args bx K0 h;unfold c27 at h;split at h
 ·rename_i n l m k;obtain ⟨ds,tl,⟨rfl,rfl,rfl,rfl⟩,⟨hn,hbd,hds,hd,ht⟩,-⟩:=h;refine aqK.okD (a27 ds tl) rfl ?_;have B:=V.base (ae.cons (ajr hB (q:=1) dE) ae.nil);have zE:Ev _ _ _ (au 25) [54] []:=⟨B⟩
  conv=>whnf
  repeat (refine nX ?_;conv=>whnf)
  refine wX.mk ?_;intro b1 hl1 hC hr1;have vV:gB b1.length b1:=gB.new (B:=[]) (gB.zero []) hl1 hC hr1 (fun i hi=>by rw [Rz] at hi;cases hi)
  conv=>whnf
  repeat (refine nX ?_;conv=>whnf)
  refine wX.mk ?_;intro b2 hl2 hs hr2
  conv=>whnf
  refine WP.CY (x':=[.row 9 1 0 []]) hs (.cons (Wv.lM (e:=9) (z:=1)) .nil) rfl ?_;intro b3 hl3 hs3 hr3;have DT:gB b3.length b3:=vV.new (hl3.trans hl2) hs3 (fun j hj=>(hr3 j oM).trans (hr2 j hj)) (fun i hi=>by cases hi);have akZ:b1.length=1:=hl1;replace hC:b3[0]?=some [.sl ds.length (fF ds),.sl tl.length (eU tl)]:=(hr3 0 oM).trans ((hr2 0 oM).trans hC)
  repeat' (first
  |((with_reducible refine (?_:∃c:List AV,_∧_));refine ⟨_,aZ,?_⟩;(conv=>whnf))
  |refine nX ?_;conv=>whnf
  |(with_reducible refine (?_:wv _=true->aN _=true->_));intro hwr hwb
  |(with_reducible refine (?_:aN _=true->_));intro hw;conv=>whnf
  |with_reducible assumption
  |((with_reducible refine (?_:∃(ds:List Dc) (tl:List Cm) (b:Nat) (v:AV),_));refine ⟨ds,tl,b1.length,.row 9 1 0 [],⟨rfl,rfl,rfl,rfl,rfl,rfl⟩,⟨aZ,DT,hs3,⟨_,_,rfl,oM,rfl⟩,hbd,hds,hd,ht⟩,?_⟩;intro b5 hl5 hm5 Ar;(conv=>whnf))
  |((with_reducible refine (?_:_∧gB _ _∧_));refine ⟨Nat.zero_le _,gB.zero _,uV.pure (X9 _ _),?_⟩;intro b9 xR qA;(conv=>whnf);intro hwr hwb;rw [Sz xR,Nat.zero_add];refine af.mk (dN _) rfl fun K hK=>?_;obtain ⟨ds',tl',⟨-,e1,-,e2⟩,-,hK⟩:=hK;obtain rfl:=qg e2;obtain rfl:=AL e1;exact hK)
  |with_reducible refine And.intro ?_ ?_
  |exact cL
  |(with_reducible intro h);first|(cases h;done)|(try simp only [lG,reduceCtorEq] at h);first|done|(exfalso;omega)|replace h:=h trivial aZ|replace h:=h aZ|skip
  |fail)
  all_goals done
 ·exact h.elim
end V
end
end Go.Proofs.YtlmjabnkjmfcmaaGreat
