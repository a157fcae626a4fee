/- Own texts, joined and shortened by a program; no condition. -/
import Derived.Test.YtlmjabnkjmfcmaaGreatK7
namespace Go.Proofs.YtlmjabnkjmfcmaaGreat
open Go Go.RowKit Go.PlainAid
set_option linter.unusedVariables false
set_option linter.unusedSimpArgs false
set_option maxHeartbeats 20000000
set_option linter.defProp false
section
set_option maxRecDepth 100000
namespace V
open Ab
open Bk (Cm)
def Nd.OT (t:ByteArray):Nd->Nd
 |.mk k y p b an tg tx kids lead ae h tr=> .mk k y p b an tg tx kids lead ae true t
def Ux:aC:=fun args bx K=>match args,bx with
 |[.ptr 0 o,.sl n l,.bool same],[c]=>∃(L:List Cm) (A:List AV) (x:Nd),dC n l L∧c=A++bF x∧A.length=o∧jR A=true∧(same=false∨L=[]->K (cs L) [A++bF x])∧(∀(t:ByteArray) (M:List Cm),same=true->L.length=M.length+1->K (cs M) [A++bF (x.OT t)])
 |_,_=>False
theorem TR {n o:Nat} {l:List AV} {L:List Cm} {A:List AV} {x:Nd} {Q:List Cm->List AV->Nd->Prop} (hL:dC n l L) (hA:A.length=o) (h:∃(M:List Cm) (B:List AV) (y:Nd),dC n l M∧A++bF x=B++bF y∧B.length=o∧jR B=true∧Q M B y):Q L A x:=by obtain ⟨M,B,y,h1,h2,h3,h4,h5⟩:=h;rw [dC.inj hL h1] at*;obtain ⟨e1,e2⟩:=List.append_inj h2 (by rw [hA,h3]);rw [e1,tX e2];exact h5
theorem xu {A l vs:List AV} {o:Nat} {K:List AV->Prop} (h:fO l o vs fun l=>K (A++l)):fO (A++l) (A.length+o) vs K:=by
 induction A generalizing K with
 |nil=>rw [List.length_nil,Nat.zero_add];exact h
 |cons a A ih=>
  rw [List.cons_append,List.length_cons,show A.length+1+o=A.length+o+1 by omega,fO];exact ih h
theorem JB {c:Bool} {X Y:Prop} (hx:X):c=true->(match c with|true=>X|false=>Y):=fun h=>by rw [h];exact hx
mutual
theorem aaF:∀{x:AV},x.pf=true->pfT x=true
 |.ptr ..,h=>by cases h
 |.bU ..,h=>by cases h
 |.bool _,_=>rfl
 |.int _ _,_=>rfl
 |.str _,_=>rfl
 |.nil,_=>rfl
 |.nz _,_=>rfl
 |.nP _,_=>rfl
 |.low _ _ _,_=>rfl
 |.bad,_=>rfl
 |.sl _ _,_=>rfl
 |.row _ _ _ _,_=>rfl
 |.el _,_=>rfl
 |.agg l,h=>yC (l:=l) h
 |.bX l,h=>yC (l:=l) h
 |.fn _ l,h=>yC (l:=l) h
theorem yC:∀{l:List AV},AV.wN l=true->Cz l=true
 |[],_=>rfl
 |x::l,h=>by rw [AV.wN,Bool.and_eq_true] at h;rw [Cz,aaF h.1,yC h.2];rfl
end
theorem Gg {l:List AV} (h:jR l=true):Cz l=true:=yC (bE h)
def Zm:=fN 158 Tryz.f158 27 [.tmp 6]
theorem afD:aC.OK Tryz.prog 158 Ux:=by
 intro args bx K0 h;unfold Ux at h;split at h
 ·rename_i o n l same c;obtain ⟨L,A,x,hL,rfl,rfl,hA,-⟩:=h;obtain ⟨k,y,p,b,an,tg,tx,kids,lead,ae,hh,tr⟩:=x;have hb:aV [A++bF (.mk k y p b an tg tx kids lead ae hh tr)]=true:=by rw [aV,aV,Bool.and_true];exact bH (bQ (bJ hA)) (bQ (bJ (jk _)))
  have B:=V.base af.nil;cases L with
  |nil=>
   obtain ⟨rfl,rfl⟩:=hL;refine Zm.okW (base:=1) rfl fU hb ?_
   conv=>whnf
   repeat' (first
   |with_reducible refine WP.seq ?_
   |(with_reducible first|refine Go.mk ?_|refine WP.oC B (aH 158) ?_|refine WP.draw B (aH 158) ?_|refine WP.cond ?_|refine WP.exit ?_|refine WP.skip ?_|refine WP.ret ?_);conv=>whnf
   |with_reducible refine WP.block ?_
   |with_reducible assumption
   |(refine ⟨_,_,rfl,?_⟩)
   |((with_reducible refine (?_:(_:Nat)<_));(simp [kT,fQ]);first|done|fail)
   |((with_reducible refine (?_:fO _ _ _ _));(apply xu);conv=>whnf)
   |with_reducible refine And.intro ?_ ?_
   |exact cL
   |(with_reducible intro h);first|(cases h;done)|(try simp only [lG,reduceCtorEq] at h);first|done|(exfalso;omega)|replace h:=h trivial aZ|replace h:=h aZ|skip
   |fail)
   all_goals
    refine JB ?_ ?_
    ·rw [qy];exact ag.mk fU hb fun K hK=>(TR (dC.mk []) rfl hK).1 (.inr rfl)
    ·show (true && (Cz (A++bF _) && true) && true)=true;rw [Gg (fV hA (jk _))];rfl
  |cons a L=>
   obtain ⟨rfl,rfl⟩:=hL;refine Zm.okW (base:=1) rfl fU hb ?_
   conv=>whnf
   repeat' (first
   |with_reducible refine WP.seq ?_
   |(with_reducible first|refine Go.mk ?_|refine WP.oC B (aH 158) ?_|refine WP.draw B (aH 158) ?_|refine WP.cond ?_|refine WP.exit ?_|refine WP.skip ?_|refine WP.ret ?_);conv=>whnf
   |with_reducible refine WP.block ?_
   |with_reducible assumption
   |(refine ⟨_,_,rfl,?_⟩)
   |((with_reducible refine (?_:(_:Nat)<_));(simp [kT,fQ]);first|done|fail)
   |((with_reducible refine (?_:fO _ _ _ _));(apply xu);conv=>whnf)
   |with_reducible refine And.intro ?_ ?_
   |exact cL
   |(with_reducible intro h);first|(cases h;done)|(try simp only [lG,reduceCtorEq] at h);first|done|(exfalso;omega)|replace h:=h trivial aZ|replace h:=h aZ|skip
   |fail)
   ·refine JB ?_ ?_
    ·rw [qy];have e:AV.sl (((a::L).length:Int).toNat-Int.toNat 1) (List.take ((((a::L).length:Int).toNat-Int.toNat 1)*2) (List.drop (Int.toNat 1*2) (fQ (a::L))))=cs L:=by
      have h1:((a::L).length:Int).toNat-Int.toNat 1=L.length:=by simp
      have h2:List.drop (Int.toNat 1*2) (fQ (a::L))=fQ L:=rfl;rw [h1,h2,←kT,List.take_length];rfl
     refine (?_:ag Ux _ _ (AV.sl (((a::L).length:Int).toNat-Int.toNat 1) (List.take ((((a::L).length:Int).toNat-Int.toNat 1)*2) (List.drop (Int.toNat 1*2) (fQ (a::L))))) [A++bF (Nd.OT a.t (.mk k y p b an tg tx kids lead ae hh tr))]);rw [e];refine ag.mk (sM L) ?_ fun K hK=>(TR (dC.mk (a::L)) rfl hK).2 a.t L aZ rfl;exact (by rw [aV,aV,Bool.and_true];exact bH (bQ (bJ hA)) (bQ (bJ (jk (Nd.OT a.t (.mk k y p b an tg tx kids lead ae hh tr))))))
    ·show (true && (Cz (A++bF (Nd.OT a.t (.mk k y p b an tg tx kids lead ae hh tr))) && true) && true)=true;rw [Gg (fV hA (jk _))];rfl
   ·refine JB ?_ ?_
    ·rw [qy];exact ag.mk fU hb fun K hK=>(TR (dC.mk (a::L)) rfl hK).1 (.inl aZ)
    ·show (true && (Cz (A++bF _) && true) && true)=true;rw [Gg (fV hA (jk _))];rfl
 ·exact h.elim
variable {sp : Sp} {n0 base : Nat} {σ τ : aJ} {Q : wL -> aJ -> Prop} {cal : xR} {md : Md} {all : List Oper} {o : Oper}
theorem sP (ho:∀c,o.op≠.call c) (hg:o.guard=none):uM cal gW md all o σ=wQ cal gW (gJ md.ad o.dst) (gJ md.arr o.dst) o σ (dS (val σ.tm) σ.bx o.op):=by
 unfold uM;split
 ·rename_i c hc;exact absurd hc (ho c)
 ·unfold lg pg;rw [hg];rfl
theorem Yl {d x i c:Nat} (ho:o.op=.fieldAddr 35 (.tmp x) 7) (hg:o.guard=none) (hd:o.dst=some d) (hx:get σ.tm x=.ptr i c):uM cal gW md all o σ=some ⟨put σ.tm d (.ptr i (c+7)),σ.bx++[]⟩:=by
 rw [sP (by intro c h;rw [ho] at h;cases h) hg,ho,hd];unfold wQ;rw [ho,hd];show (match core cal gW _ _ σ.bx.length (val σ.tm) [] [] o.type (.fieldAddr 35 (.tmp x) 7) with|none=>none|some out=>if out.ok=true then some (Ab.fin (some d) out [] (jD _ (.fieldAddr 35 (.tmp x) 7)) σ) else none)=_;have:∀ad mt,core cal gW ad mt σ.bx.length (val σ.tm) [] [] o.type (.fieldAddr 35 (.tmp x) 7)=some ⟨.ptr i (c+7),[],[],true⟩:=by intro ad mt;show jd (7,1,false) (get σ.tm x) []=_;rw [hx];rfl
 rw [this];rfl
theorem stL {d x i:Nat} {l:List AV} {v:AV} (ho:o.op=.load 33 (.tmp x)) (hg:o.guard=none) (hd:o.dst=some d) (hx:get σ.tm x=.ptr i 7) (hb:σ.bx[i]?=some l) (hv:l[7]?=some v) (abw:v.bY=v):uM cal gW md all o σ=some ⟨put σ.tm d v,σ.bx++[]⟩:=by
 rw [sP (by intro c h;rw [ho] at h;cases h) hg,ho,hd];unfold wQ;rw [ho,hd];have ht:dS (val σ.tm) σ.bx (.load 33 (.tmp x))=[i]:=by show qL (get σ.tm x)=_;rw [hx];rfl
 rw [ht];have hc:bn σ.bx [i]=some [l]:=by rw [bn,hb];rfl
 rw [hc];have hset:setAt l 7 [v]=l:=by
  apply List.ext_getElem?;intro j;rw [dL];split
  ·rename_i h;have:j=7:=by simp at h;omega
   subst this;simp [hv]
  ·rfl
 have:∀ad mt,core cal gW ad mt σ.bx.length (val σ.tm) [l] [i] o.type (.load 33 (.tmp x))=some ⟨v,[l],[],true⟩:=by intro ad mt;show (ou (TD.mk _ _ _ _ _ _) ad (get σ.tm x) [l])=_;rw [hx];unfold ou;simp only [];rw [if_neg dE,hv];simp only [];rw [abw,hset];cases ad<;>rfl
 show (match core cal gW _ _ σ.bx.length (val σ.tm) [l] [i] o.type (.load 33 (.tmp x)) with|none=>none|some out=>if out.ok=true then some (Ab.fin (some d) out [i] (jD _ (.load 33 (.tmp x))) σ) else none)=_;rw [this];show some (aJ.mk (put σ.tm d v) (σ.bx.set i l++[]))=_;rw [show σ.bx.set i l=σ.bx from by
  apply List.ext_getElem?;intro j;rw [List.getElem?_set];split
  ·rename_i h;subst h;split
   ·exact hb.symm
   ·rename_i h;rw [List.getElem?_eq_none oM]
  ·rfl]
theorem stN {d x i:Nat} {l:List AV} (ho:o.op=.load 35 (.tmp x)) (hg:o.guard=none) (hd:o.dst=some d) (hx:get σ.tm x=.ptr i 0) (hb:σ.bx[i]?=some l) (hl:l.length=12) (abw:l.map AV.bY=l):uM cal gW md all o σ=some ⟨put σ.tm d (.agg l),σ.bx++[]⟩:=by
 rw [sP (by intro c h;rw [ho] at h;cases h) hg,ho,hd];unfold wQ;rw [ho,hd];have ht:dS (val σ.tm) σ.bx (.load 35 (.tmp x))=[i]:=by show qL (get σ.tm x)=_;rw [hx];rfl
 rw [ht];have hc:bn σ.bx [i]=some [l]:=by rw [bn,hb];rfl
 rw [hc];have:∀ad mt,core cal gW ad mt σ.bx.length (val σ.tm) [l] [i] o.type (.load 35 (.tmp x))=some ⟨.agg l,[l],[],true⟩:=by intro ad mt;show (ou (TD.mk _ _ _ _ _ _) ad (get σ.tm x) [l])=_;rw [hx];unfold ou;simp only [];rw [if_pos dE,List.drop_zero];show fC (.agg (((l.take 12)).map AV.bY)) [l] (decide (0+12<=l.length))=_;rw [←hl,List.take_length,abw,Nat.zero_add,decide_eq_true (Nat.le_refl _)];rfl
 show (match core cal gW _ _ σ.bx.length (val σ.tm) [l] [i] o.type (.load 35 (.tmp x)) with|none=>none|some out=>if out.ok=true then some (Ab.fin (some d) out [i] (jD _ (.load 35 (.tmp x))) σ) else none)=_;rw [this];show some (aJ.mk (put σ.tm d (.agg l)) (σ.bx.set i l++[]))=_;rw [show σ.bx.set i l=σ.bx from by
  apply List.ext_getElem?;intro j;rw [List.getElem?_set];split
  ·rename_i h;subst h;split
   ·exact hb.symm
   ·rename_i h;rw [List.getElem?_eq_none oM]
  ·rfl]
theorem aec {d x:Nat} {l:List AV} (ho:o.op=.buildSlice 33 1 #[(0,.tmp x)]) (hg:o.guard=none) (hd:o.dst=some d) (hm:gJ md.arr (some d)=false) (hx:get σ.tm x=.agg l) (hl:l.length=12) (h1:dI l=true) (h2:AV.ak l=true):uM cal gW md all o σ=some ⟨put σ.tm d (.row 35 12 1 l),σ.bx++[]⟩:=by
 rw [sP (by intro c h;rw [ho] at h;cases h) hg,ho,hd,hm];unfold wQ;rw [ho,hd];have:∀ad,core cal gW ad false σ.bx.length (val σ.tm) [] [] o.type (.buildSlice 33 1 #[(0,.tmp x)])=some ⟨.row 35 12 1 l,[],[],true⟩:=by
  intro ad;show fq false _ 35 (TD.mk _ _ _ _ _ _) 1 [(0,(get σ.tm x).bY)] []=_;rw [hx];unfold fq;have hp:parts 0 [(0,(AV.agg l).bY)]=some l:=by show (if 0=0 then (some []).map (l++·) else none)=_;rw [if_pos rfl];show some (l++[])=_;rw [List.append_nil]
  rw [hp];simp [h1,h2,hl,cells,AV.bY]
 show (match core cal gW (gJ md.ad (some d)) false σ.bx.length (val σ.tm) [] [] o.type (.buildSlice 33 1 #[(0,.tmp x)]) with|none=>none|some out=>if out.ok=true then some (Ab.fin (some d) out [] [] σ) else none)=_;rw [this];rfl
theorem aeb {d x y:Nat} {l k:List AV} (ho:o.op=.buildSlice 33 2 #[(0,.tmp x),(1,.tmp y)]) (hg:o.guard=none) (hd:o.dst=some d) (hm:gJ md.arr (some d)=false) (hx:get σ.tm x=.agg l) (hy:get σ.tm y=.agg k) (hl:l.length=12) (hk:k.length=12) (h1:dI (l++k)=true) (h2:AV.ak (l++k)=true):uM cal gW md all o σ=some ⟨put σ.tm d (.row 35 12 2 (l++k)),σ.bx++[]⟩:=by
 rw [sP (by intro c h;rw [ho] at h;cases h) hg,ho,hd,hm];unfold wQ;rw [ho,hd];have:∀ad,core cal gW ad false σ.bx.length (val σ.tm) [] [] o.type (.buildSlice 33 2 #[(0,.tmp x),(1,.tmp y)])=some ⟨.row 35 12 2 (l++k),[],[],true⟩:=by
  intro ad;show fq false _ 35 (TD.mk _ _ _ _ _ _) 2 [(0,(get σ.tm x).bY),(1,(get σ.tm y).bY)] []=_;rw [hx,hy];unfold fq;have hp:parts 0 [(0,(AV.agg l).bY),(1,(AV.agg k).bY)]=some (l++k):=by show (if 0=0 then ((if 1=0+1 then (some []).map (k++·) else none)).map (l++·) else none)=_;rw [if_pos rfl,if_pos rfl];show some (l++(k++[]))=_;rw [List.append_nil]
  rw [hp];simp [h1,h2,hl,hk,cells,AV.bY]
 show (match core cal gW (gJ md.ad (some d)) false σ.bx.length (val σ.tm) [] [] o.type (.buildSlice 33 2 #[(0,.tmp x),(1,.tmp y)]) with|none=>none|some out=>if out.ok=true then some (Ab.fin (some d) out [] [] σ) else none)=_;rw [this];rfl
theorem Ko {d x y:Nat} (ho:o.op=.call {callee:=.builtin .append,args:=#[.tmp x,.tmp y],argTypes:=#[33,33]}) (hg:o.guard=none) (hd:o.dst=some d) (hm:mem d md.arr=true):uM cal gW md all o σ=vJ gW md d σ (.tmp x) (.tmp y) 33:=by unfold uM;rw [ho,hd,hg];show (match mem d md.arr with|true=>vJ gW md d σ (.tmp x) (.tmp y) 33|false=>_)=_;rw [hm]
theorem aee {d x y n:Nat} {k:List AV} (ho:o.op=.call {callee:=.builtin .append,args:=#[.tmp x,.tmp y],argTypes:=#[33,33]}) (hg:o.guard=none) (hd:o.dst=some d) (hm:mem d md.arr=true) (hx:get σ.tm x=.nil) (hy:get σ.tm y=.row 35 12 n k) (hn:0<n∧n<=2) (hk:k.length=n*12) (h1:dI k=true) (h2:AV.ak k=true):uM cal gW md all o σ=some ⟨put σ.tm d (.bU σ.bx.length 35 12 n),σ.bx++[k]⟩:=by rw [Ko ho hg hd hm];unfold vJ;rw [show vC gW 33=some (35,_) from rfl];simp only [];rw [show val σ.tm (.tmp y)=.row 35 12 n k from hy];rw [show elems (.row 35 12 n k)=some (n,k) from rfl];simp only [];rw [if_pos ⟨hn.1,hk,dE,dE,h1,h2⟩];rw [show val σ.tm (.tmp x)=.nil from hx];simp only [];rw [if_pos oM]
theorem aed {d x y n i m:Nat} {k c:List AV} (ho:o.op=.call {callee:=.builtin .append,args:=#[.tmp x,.tmp y],argTypes:=#[33,33]}) (hg:o.guard=none) (hd:o.dst=some d) (hm:mem d md.arr=true) (hx:get σ.tm x=.bU i 35 12 m) (hy:get σ.tm y=.row 35 12 n k) (hn:0<n∧n<=2) (hk:k.length=n*12) (h1:dI k=true) (h2:AV.ak k=true) (hb:σ.bx[i]?=some c) (hbase:md.base<=i) (WI:m+n<=10000000000) (hc:c.length=m*12) (hcf:AV.ak c=true) (pK:mem i (AV.aN (c++k))=false):uM cal gW md all o σ=some ⟨put (kill i σ).tm d (.bU i 35 12 (m+n)),(kill i σ).bx.set i (c++k)⟩:=by rw [Ko ho hg hd hm];unfold vJ;rw [show vC gW 33=some (35,_) from rfl];simp only [];rw [show val σ.tm (.tmp y)=.row 35 12 n k from hy];rw [show elems (.row 35 12 n k)=some (n,k) from rfl];simp only [];rw [if_pos ⟨hn.1,hk,dE,dE,h1,h2⟩];rw [show val σ.tm (.tmp x)=.bU i 35 12 m from hx];simp only [];rw [hb];simp only [];rw [if_pos ⟨hbase,trivial,trivial,WI,hc,pK,hcf⟩]
theorem stS {x y i:Nat} {l:List AV} {j z n:Nat} (ho:o.op=.store 33 (.tmp x) (.tmp y)) (hg:o.guard=none) (hd:o.dst=none) (hx:get σ.tm x=.ptr i 7) (hy:get σ.tm y=.bU j 35 z n) (hb:σ.bx[i]?=some l) (hl:l.length=12):uM cal gW md all o σ=some ⟨σ.tm,σ.bx.set i (setAt l 7 [.bU j 35 z n])++[]⟩:=by
 rw [sP (by intro c h;rw [ho] at h;cases h) hg,ho,hd];unfold wQ;rw [ho,hd];have ht:dS (val σ.tm) σ.bx (.store 33 (.tmp x) (.tmp y))=[i]:=by show qL (get σ.tm x)=_;rw [hx];rfl
 rw [ht];have hc:bn σ.bx [i]=some [l]:=by rw [bn,hb];rfl
 rw [hc];have:∀ad mt,core cal gW ad mt σ.bx.length (val σ.tm) [l] [i] o.type (.store 33 (.tmp x) (.tmp y))=some ⟨.bad,[setAt l 7 [.bU j 35 z n]],[],true⟩:=by intro ad mt;show (qD gW 33 (TD.mk _ _ _ _ _ _) (get σ.tm x) (get σ.tm y) [l])=_;rw [hx,hy];unfold qD;show some (Out.mk _ _ _ (decide (1=1) && decide (7+1<=l.length) && true))=_;rw [hl];rfl
 show (match core cal gW false false σ.bx.length (val σ.tm) [l] [i] o.type (.store 33 (.tmp x) (.tmp y)) with|none=>none|some out=>if out.ok=true then some (Ab.fin none out [i] [y] σ) else none)=_;rw [this];show some (aJ.mk (eZ σ.tm [y]) (σ.bx.set i _++[]))=_;rw [eZ,hy];rfl
theorem nE {ks:List Nat} {d:Nat} {v:AV} (hd:d ∉ ks):∀(tm:Tm),prune ks (put tm d v)=prune ks tm
 |[]=>by show (if mem d ks=true then _ else _)=_;rw [if_neg (fun h=>hd (mem_iff.1 h))]
 |(j,u)::r=>by
  rw [ik];split
  ·rw [prune,if_neg (fun h=>hd (mem_iff.1 h))]
  ·split
   ·rename_i h;subst h;rw [prune,if_neg (fun h=>hd (mem_iff.1 h)),prune,if_neg (fun h=>hd (mem_iff.1 h))]
   ·rw [prune,prune,nE hd r]
theorem ve {i:Nat} {v:AV} (hw:wv v=true) (h:i ∉ iY v):eB i v=v:=by
 rcases iR i v with ⟨h1,-⟩|h1
 ·exact h1
 ·unfold eB at h1⊢;split
  ·rename_i hm;rw [mem_iff,uf hw] at hm;exact absurd hm h
  ·rfl
theorem SE {i:Nat} {l:List AV} (hw:dQ l=true) (h:i ∉ bW l):l.map (eB i)=l:=by
 conv=>rhs;rw [←List.map_id l]
 refine List.map_congr_left fun v hv=>?_;exact ve (dB.1 hw v hv).2 (fun hi=>h (vg.2 ⟨v,hv,hi⟩))
theorem NM {i:Nat} {bx:List (List AV)} {xl C:List AV} {v:AV} (hw:aV bx=true) (hx:bx[2]?=some xl) (hl:xl.length=12) (hi:i≠2) (hxk:i ∉ bW (setAt xl 7 [.nil])) (hoth:∀(j:Nat) (l:List AV),bx[j]?=some l->j≠i->j≠2->i ∉ bW l):((bx.map fun c=>c.map (eB i)).set i C).set 2 (setAt (xl.map (eB i)) 7 [v])=(bx.set i C).set 2 (setAt xl 7 [v]):=by
 have hlen:(bx.map fun c=>c.map (eB i)).length=bx.length:=by rw [List.length_map]
 have hxw:=bg.1 hw xl (List.mem_of_getElem? hx);have hset:setAt (xl.map (eB i)) 7 [v]=setAt xl 7 [v]:=by
  apply List.ext_getElem?;intro j;rw [dL,dL,List.length_map];split
  ·rfl
  ·rename_i hj;rw [List.getElem?_map];cases hxj:xl[j]? with
   |none=>rfl
   |some u=>
    show some (eB i u)=some u;rw [ve (dB.1 hxw u (List.mem_of_getElem? hxj)).2];intro hm;refine hxk (vg.2 ⟨u,?_,hm⟩);refine List.mem_of_getElem? (i:=j) ?_;rw [dL,if_neg (by simpa using hj)];exact hxj
 rw [hset];apply List.ext_getElem?;intro j;simp only [List.getElem?_set,List.length_set,hlen];split
 ·rfl
 ·rename_i h2;split
  ·rfl
  ·rename_i hji;rw [List.getElem?_map];cases hbj:bx[j]? with
   |none=>rfl
   |some l=>
    show some (l.map (eB i))=some l;rw [SE (bg.1 hw l (List.mem_of_getElem? hbj)) (hoth j l hbj (fun e=>hji e.symm) (fun e=>h2 e.symm))]
theorem vZ {ks:List Nat} {g:AV->AV}:∀(tm:Tm),prune ks (tm.map fun p=>(p.1,g p.2))=(prune ks tm).map fun p=>(p.1,g p.2)
 |[]=>rfl
 |(j,u)::r=>by
  rw [List.map_cons,prune,prune];split
  ·rw [List.map_cons,vZ r]
  ·exact vZ r
theorem Fg {i:Nat} {tm:Tm} (hw:ni tm=true) (h:∀p ∈ tm,i ∉ iY p.2):(tm.map fun p=>(p.1,eB i p.2))=tm:=by
 induction tm with
 |nil=>rfl
 |cons p r ih=>
  obtain ⟨j,u⟩:=p;rw [ni,Bool.and_eq_true] at hw;rw [List.map_cons,ve hw.1 (h (j,u) (by simp)),ih hw.2 fun p hp=>h p (by simp [hp])]
theorem aau {o1 o2 o3 o4 o5 o6 o7:Oper} {ad:List Nat} {tm:Tm} {bx:List (List AV)} {xl:List AV} (e1:o1.op=.fieldAddr 35 (.tmp 6) 7) (g1:o1.guard=none) (d1:o1.dst=some 97) (e2:o2.op=.load 33 (.tmp 97)) (g2:o2.guard=none) (d2:o2.dst=some 98) (e3:o3.op=.load 35 (.tmp 12)) (g3:o3.guard=none) (d3:o3.dst=some 99) (e4:o4.op=.buildSlice 33 1 #[(0,.tmp 99)]) (g4:o4.guard=none) (d4:o4.dst=some 100) (e5:o5.op=.call {callee:=.builtin .append,args:=#[.tmp 98,.tmp 100],argTypes:=#[33,33]}) (g5:o5.guard=none) (d5:o5.dst=some 101) (e6:o6.op=.fieldAddr 35 (.tmp 6) 7) (g6:o6.guard=none) (d6:o6.dst=some 102) (e7:o7.op=.store 33 (.tmp 102) (.tmp 101)) (g7:o7.guard=none) (d7:o7.dst=none) (Gy:get tm 6=.ptr 2 0) (hx:bx[2]?=some xl) (hxl:xl.length=12) {yi:Nat} {yc:List AV} (hty:get tm 12=.ptr yi 0) (hy:bx[yi]?=some yc) (hyl:yc.length=12) (Gx:yc.map AV.bY=yc) (h1:dI yc=true) (h2:AV.ak yc=true) (hk:xl[7]?=some .nil) (hw:Ok ⟨tm,bx⟩):∃τ,dw cal gW all ⟨ad,[101,134],base⟩ [o1,o2,o3,o4,o5,o6,o7] ⟨tm,bx⟩=some τ∧prune [0,1,4,6,7,8,13,14] τ.tm=prune [0,1,4,6,7,8,13,14] tm∧τ.bx=(bx++[yc]).set 2 (setAt xl 7 [.bU bx.length 35 12 1]):=by
 have SY:2<bx.length:=(List.getElem?_eq_some_iff.1 hx).1;rw [dw,Yl e1 g1 d1 Gy];simp only [List.append_nil];rw [dw,stL (i:=2) e2 g2 d2 (by simp [ah]) hx hk rfl];simp only [List.append_nil];rw [dw,stN (i:=yi) e3 g3 d3 (by simp [ah,hty]) hy hyl Gx];simp only [List.append_nil];rw [dw,aec (l:=yc) e4 g4 d4 rfl (by simp [ah]) hyl h1 h2];simp only [List.append_nil];rw [dw,aee (n:=1) (k:=yc) e5 g5 d5 rfl (by simp [ah]) (by simp [ah]) oM hyl h1 h2];simp only [];rw [dw,Yl (i:=2) (c:=0) e6 g6 d6 (by simp [ah,Gy])];simp only [List.append_nil];rw [dw,stS (i:=2) (l:=xl) (j:=bx.length) (z:=12) (n:=1) e7 g7 d7 (by simp [ah]) (by simp [ah]) (by simp only [];rw [List.getElem?_append_left SY];exact hx) hxl];simp only [List.append_nil];refine ⟨_,rfl,?_,rfl⟩;simp only []
 repeat rw [nE dE]
theorem aav {o1 o2 o3 o4 o5 o6 o7:Oper} {ad:List Nat} {tm:Tm} {bx:List (List AV)} {xl:List AV} (e1:o1.op=.fieldAddr 35 (.tmp 6) 7) (g1:o1.guard=none) (d1:o1.dst=some 97) (e2:o2.op=.load 33 (.tmp 97)) (g2:o2.guard=none) (d2:o2.dst=some 98) (e3:o3.op=.load 35 (.tmp 12)) (g3:o3.guard=none) (d3:o3.dst=some 99) (e4:o4.op=.buildSlice 33 1 #[(0,.tmp 99)]) (g4:o4.guard=none) (d4:o4.dst=some 100) (e5:o5.op=.call {callee:=.builtin .append,args:=#[.tmp 98,.tmp 100],argTypes:=#[33,33]}) (g5:o5.guard=none) (d5:o5.dst=some 101) (e6:o6.op=.fieldAddr 35 (.tmp 6) 7) (g6:o6.guard=none) (d6:o6.dst=some 102) (e7:o7.op=.store 33 (.tmp 102) (.tmp 101)) (g7:o7.guard=none) (d7:o7.dst=none) (Gy:get tm 6=.ptr 2 0) (hx:bx[2]?=some xl) (hxl:xl.length=12) {yi:Nat} {yc:List AV} (hty:get tm 12=.ptr yi 0) (hy:bx[yi]?=some yc) (hyl:yc.length=12) (Gx:yc.map AV.bY=yc) (h1:dI yc=true) (h2:AV.ak yc=true) {i m:Nat} {c:List AV} (hk:xl[7]?=some (.bU i 35 12 m)) (hb:bx[i]?=some c) (hbase:base<=i) (hi:i≠2) (WI:m+1<=10000000000) (hc:c.length=m*12) (hcf:AV.ak c=true) (pK:mem i (AV.aN (c++yc))=false) (hxk:i ∉ bW (setAt xl 7 [.nil])) (hoth:∀(j:Nat) (l:List AV),bx[j]?=some l->j≠i->j≠2->i ∉ bW l) (hlive:∀p ∈ prune [0,1,4,6,7,8,13,14] tm,i ∉ iY p.2) (hw:Ok ⟨tm,bx⟩):∃τ,dw cal gW all ⟨ad,[101,134],base⟩ [o1,o2,o3,o4,o5,o6,o7] ⟨tm,bx⟩=some τ∧prune [0,1,4,6,7,8,13,14] τ.tm=prune [0,1,4,6,7,8,13,14] tm∧τ.bx=(bx.set i (c++yc)).set 2 (setAt xl 7 [.bU i 35 12 (m+1)]):=by
 have SY:2<bx.length:=(List.getElem?_eq_some_iff.1 hx).1;rw [dw,Yl e1 g1 d1 Gy];simp only [List.append_nil];rw [dw,stL (i:=2) e2 g2 d2 (by simp [ah]) hx hk rfl];simp only [List.append_nil];rw [dw,stN (i:=yi) e3 g3 d3 (by simp [ah,hty]) hy hyl Gx];simp only [List.append_nil];rw [dw,aec (l:=yc) e4 g4 d4 rfl (by simp [ah]) hyl h1 h2];simp only [List.append_nil];rw [dw,aed (n:=1) (k:=yc) (i:=i) (m:=m) (c:=c) e5 g5 d5 rfl (by simp [ah]) (by simp [ah]) oM hyl h1 h2 hb hbase WI hc hcf pK];simp only [];have h6:∀tm',get tm' 6=.ptr 2 0->get (kill i ⟨tm',bx⟩).tm 6=.ptr 2 0:=by intro tm' h;show get (List.map _ _) 6=_;rw [yT,h];exact ve rfl (by simp [iY,hi])
 rw [dw,Yl (i:=2) (c:=0) e6 g6 d6 (by rw [ah,if_neg dE];exact h6 _ (by simp [ah,Gy]))];simp only [List.append_nil];have hx2:(((kill i ⟨tm,bx⟩).bx).set i (c++yc))[2]?=some (xl.map (eB i)):=by show ((bx.map fun c=>c.map (eB i)).set i _)[2]?=_;rw [List.getElem?_set,if_neg hi,List.getElem?_map,hx];rfl
 rw [dw,stS (i:=2) (l:=xl.map (eB i)) (j:=i) (z:=12) (n:=m+1) e7 g7 d7 (by simp [ah]) (by simp [ah]) hx2 (by rw [List.length_map];exact hxl)];simp only [List.append_nil];refine ⟨_,rfl,?_,NM hw.bx hx hxl hi hxk hoth⟩;simp only []
 repeat rw [nE dE]
 show prune _ (List.map _ _)=_;rw [vZ]
 repeat rw [nE dE]
 exact Fg (gV _ hw.tm) hlive
theorem aas {o1 o2 o3 o4 o5 o6 o7 o8:Oper} {ad:List Nat} {tm:Tm} {bx:List (List AV)} {xl:List AV} (e1:o1.op=.fieldAddr 35 (.tmp 6) 7) (g1:o1.guard=none) (d1:o1.dst=some 129) (e2:o2.op=.load 33 (.tmp 129)) (g2:o2.guard=none) (d2:o2.dst=some 130) (e3:o3.op=.load 35 (.tmp 16)) (g3:o3.guard=none) (d3:o3.dst=some 131) (e4:o4.op=.load 35 (.tmp 17)) (g4:o4.guard=none) (d4:o4.dst=some 132) (e5:o5.op=.buildSlice 33 2 #[(0,.tmp 131),(1,.tmp 132)]) (g5:o5.guard=none) (d5:o5.dst=some 133) (e6:o6.op=.call {callee:=.builtin .append,args:=#[.tmp 130,.tmp 133],argTypes:=#[33,33]}) (g6:o6.guard=none) (d6:o6.dst=some 134) (e7:o7.op=.fieldAddr 35 (.tmp 6) 7) (g7:o7.guard=none) (d7:o7.dst=some 135) (e8:o8.op=.store 33 (.tmp 135) (.tmp 134)) (g8:o8.guard=none) (d8:o8.dst=none) (Gy:get tm 6=.ptr 2 0) (hx:bx[2]?=some xl) (hxl:xl.length=12) {yi zi:Nat} {yc zc:List AV} (hty:get tm 16=.ptr yi 0) (hy:bx[yi]?=some yc) (hyl:yc.length=12) (Gx:yc.map AV.bY=yc) (htz:get tm 17=.ptr zi 0) (hz:bx[zi]?=some zc) (hzl:zc.length=12) (hzd:zc.map AV.bY=zc) (h1:dI (yc++zc)=true) (h2:AV.ak (yc++zc)=true) (hk:xl[7]?=some .nil) (hw:Ok ⟨tm,bx⟩):∃τ,dw cal gW all ⟨ad,[101,134],base⟩ [o1,o2,o3,o4,o5,o6,o7,o8] ⟨tm,bx⟩=some τ∧prune [0,1,4,6,7,8,18] τ.tm=prune [0,1,4,6,7,8,18] tm∧τ.bx=(bx++[(yc++zc)]).set 2 (setAt xl 7 [.bU bx.length 35 12 2]):=by
 have SY:2<bx.length:=(List.getElem?_eq_some_iff.1 hx).1;rw [dw,Yl e1 g1 d1 Gy];simp only [List.append_nil];rw [dw,stL (i:=2) e2 g2 d2 (by simp [ah]) hx hk rfl];simp only [List.append_nil];rw [dw,stN (i:=yi) e3 g3 d3 (by simp [ah,hty]) hy hyl Gx];simp only [List.append_nil];rw [dw,stN (i:=zi) e4 g4 d4 (by simp [ah,htz]) hz hzl hzd];simp only [List.append_nil];rw [dw,aeb (l:=yc) (k:=zc) e5 g5 d5 rfl (by simp [ah]) (by simp [ah]) hyl hzl h1 h2];simp only [List.append_nil];rw [dw,aee (n:=2) (k:=(yc++zc)) e6 g6 d6 rfl (by simp [ah]) (by simp [ah]) oM (by rw [List.length_append];omega) h1 h2];simp only [];rw [dw,Yl (i:=2) (c:=0) e7 g7 d7 (by simp [ah,Gy])];simp only [List.append_nil];rw [dw,stS (i:=2) (l:=xl) (j:=bx.length) (z:=12) (n:=2) e8 g8 d8 (by simp [ah]) (by simp [ah]) (by simp only [];rw [List.getElem?_append_left SY];exact hx) hxl];simp only [List.append_nil];refine ⟨_,rfl,?_,rfl⟩;simp only []
 repeat rw [nE dE]
theorem aat {o1 o2 o3 o4 o5 o6 o7 o8:Oper} {ad:List Nat} {tm:Tm} {bx:List (List AV)} {xl:List AV} (e1:o1.op=.fieldAddr 35 (.tmp 6) 7) (g1:o1.guard=none) (d1:o1.dst=some 129) (e2:o2.op=.load 33 (.tmp 129)) (g2:o2.guard=none) (d2:o2.dst=some 130) (e3:o3.op=.load 35 (.tmp 16)) (g3:o3.guard=none) (d3:o3.dst=some 131) (e4:o4.op=.load 35 (.tmp 17)) (g4:o4.guard=none) (d4:o4.dst=some 132) (e5:o5.op=.buildSlice 33 2 #[(0,.tmp 131),(1,.tmp 132)]) (g5:o5.guard=none) (d5:o5.dst=some 133) (e6:o6.op=.call {callee:=.builtin .append,args:=#[.tmp 130,.tmp 133],argTypes:=#[33,33]}) (g6:o6.guard=none) (d6:o6.dst=some 134) (e7:o7.op=.fieldAddr 35 (.tmp 6) 7) (g7:o7.guard=none) (d7:o7.dst=some 135) (e8:o8.op=.store 33 (.tmp 135) (.tmp 134)) (g8:o8.guard=none) (d8:o8.dst=none) (Gy:get tm 6=.ptr 2 0) (hx:bx[2]?=some xl) (hxl:xl.length=12) {yi zi:Nat} {yc zc:List AV} (hty:get tm 16=.ptr yi 0) (hy:bx[yi]?=some yc) (hyl:yc.length=12) (Gx:yc.map AV.bY=yc) (htz:get tm 17=.ptr zi 0) (hz:bx[zi]?=some zc) (hzl:zc.length=12) (hzd:zc.map AV.bY=zc) (h1:dI (yc++zc)=true) (h2:AV.ak (yc++zc)=true) {i m:Nat} {c:List AV} (hk:xl[7]?=some (.bU i 35 12 m)) (hb:bx[i]?=some c) (hbase:base<=i) (hi:i≠2) (WI:m+2<=10000000000) (hc:c.length=m*12) (hcf:AV.ak c=true) (pK:mem i (AV.aN (c++(yc++zc)))=false) (hxk:i ∉ bW (setAt xl 7 [.nil])) (hoth:∀(j:Nat) (l:List AV),bx[j]?=some l->j≠i->j≠2->i ∉ bW l) (hlive:∀p ∈ prune [0,1,4,6,7,8,18] tm,i ∉ iY p.2) (hw:Ok ⟨tm,bx⟩):∃τ,dw cal gW all ⟨ad,[101,134],base⟩ [o1,o2,o3,o4,o5,o6,o7,o8] ⟨tm,bx⟩=some τ∧prune [0,1,4,6,7,8,18] τ.tm=prune [0,1,4,6,7,8,18] tm∧τ.bx=(bx.set i (c++(yc++zc))).set 2 (setAt xl 7 [.bU i 35 12 (m+2)]):=by
 have SY:2<bx.length:=(List.getElem?_eq_some_iff.1 hx).1;rw [dw,Yl e1 g1 d1 Gy];simp only [List.append_nil];rw [dw,stL (i:=2) e2 g2 d2 (by simp [ah]) hx hk rfl];simp only [List.append_nil];rw [dw,stN (i:=yi) e3 g3 d3 (by simp [ah,hty]) hy hyl Gx];simp only [List.append_nil];rw [dw,stN (i:=zi) e4 g4 d4 (by simp [ah,htz]) hz hzl hzd];simp only [List.append_nil];rw [dw,aeb (l:=yc) (k:=zc) e5 g5 d5 rfl (by simp [ah]) (by simp [ah]) hyl hzl h1 h2];simp only [List.append_nil];rw [dw,aed (n:=2) (k:=(yc++zc)) (i:=i) (m:=m) (c:=c) e6 g6 d6 rfl (by simp [ah]) (by simp [ah]) oM (by rw [List.length_append];omega) h1 h2 hb hbase WI hc hcf pK];simp only [];have h6:∀tm',get tm' 6=.ptr 2 0->get (kill i ⟨tm',bx⟩).tm 6=.ptr 2 0:=by intro tm' h;show get (List.map _ _) 6=_;rw [yT,h];exact ve rfl (by simp [iY,hi])
 rw [dw,Yl (i:=2) (c:=0) e7 g7 d7 (by rw [ah,if_neg dE];exact h6 _ (by simp [ah,Gy]))];simp only [List.append_nil];have hx2:(((kill i ⟨tm,bx⟩).bx).set i (c++(yc++zc)))[2]?=some (xl.map (eB i)):=by show ((bx.map fun c=>c.map (eB i)).set i _)[2]?=_;rw [List.getElem?_set,if_neg hi,List.getElem?_map,hx];rfl
 rw [dw,stS (i:=2) (l:=xl.map (eB i)) (j:=i) (z:=12) (n:=m+2) e8 g8 d8 (by simp [ah]) (by simp [ah]) hx2 (by rw [List.length_map];exact hxl)];simp only [List.append_nil];refine ⟨_,rfl,?_,NM hw.bx hx hxl hi hxk hoth⟩;simp only []
 repeat rw [nE dE]
 show prune _ (List.map _ _)=_;rw [vZ]
 repeat rw [nE dE]
 exact Fg (gV _ hw.tm) hlive
theorem WP.VU {P:Program} {T:jL} (B:Aj P T sp) (an:zy) {i:Nat} {ops:Array Oper} {live:List Nat} {tm':Tm} {bx':List (List AV)} (hl:an.live.getD i []=live) (h:Ok σ->∀cal,∃τ,dw cal T ops.toList ⟨ow ops.toList++an.ZF,an.arr,base⟩ ops.toList σ=some τ∧prune live τ.tm=tm'∧τ.bx=bx') (hok:Ok σ->Ok ⟨tm',bx'⟩) (hq:Q .normal ⟨tm',bx'⟩):WP P n0 base (.region i ops false) σ Q:=by subst hl;refine WP.mk fun hg hσ=>?_;obtain ⟨cal,HC,hI⟩:=qC B.sp;obtain ⟨τ,h1,h2,h3⟩:=h hσ cal;refine ⟨.normal,⟨tm',bx'⟩,fun {m lim bs w a Q} hn hb H hm hK=>?_,hok hσ,hq⟩;subst h2 h3;exact wp_region_list (tZ (a:=a) (md:=⟨ow ops.toList++an.ZF,an.arr,base⟩) B.tok HC (qx hg hn) ops.toList (fun o ho=>ho) rfl H hm h1 (fun lim' bs' w' a' hgo=>hK lim' bs' w' a' ⟨hgo.hold.prune _,hgo.fr,hgo.pre,hgo.nt,hgo.df⟩))
theorem sO {l:List AV} (hw:dQ l=true) (hd:l.map AV.bY=l):dI l=true∧AV.ak l=true:=by have:=FZ hw;rw [hd] at this;exact ⟨yf this,pW this⟩
theorem CE:∀{a b:List AV},dI a=true->dI b=true->dI (a++b)=true
 |[],_,_,h=>h
 |x::a,b,h,k=>by rw [dI,Bool.and_eq_true] at h;rw [List.cons_append,dI,h.1,CE h.2 k];rfl
theorem rV {b:List (List AV)} {i:Nat} {c:List AV} (h:aV b=true) (hc:dQ c=true):aV (b.set i c)=true:=bg.2 fun d hd=>by
 rcases List.mem_or_eq_of_mem_set hd with h1|h1
 ·exact bg.1 h d h1
 ·rw [h1];exact hc
theorem MZ {b d:List (List AV)} (h:aV b=true) (hd:aV d=true):aV (b++d)=true:=bg.2 fun c hc=>by
 rcases List.mem_append.1 hc with h1|h1
 ·exact bg.1 h c h1
 ·exact bg.1 hd c h1
theorem Bg {l:List AV} {j e z n:Nat} (h:dQ l=true):dQ (setAt l 7 [.bU j e z n])=true:=Be h rfl
def amg (base:Nat) (J:aJ->Prop) (Q:wL->aJ->Prop) (e:wL) (τ:aJ):Prop:=
 match e with
 |.normal=>∃τ',Rx base τ τ'∧J τ'
 |e=>Q e τ
def aR (p:Prop):Prop:=p
theorem aR.mk {p:Prop} (h:p):aR p:=h
theorem WP.cut {P:Program} {x y:Code} (J:aJ->Prop) (h1:WP P n0 base x σ (amg base J Q)) (h2:aR (∀τ,J τ->WP P n0 base y τ Q)):WP P n0 base (.seq x y) σ Q:=by
 refine WP.seq (WP.mono h1 fun e τ h=>?_);cases e with
 |normal=>
  obtain ⟨τ',hr,hj⟩:=h;exact WP.jB hr (h2 τ' hj)
 |exit i=>exact h
 |ret=>exact h
def noI (i:Nat):Nat->List (List AV)->Prop
 |_,[]=>True
 |k,l::r=>(k=i∨k=2∨i ∉ bW l)∧noI i (k+1) r
theorem noI.get {i:Nat}:∀{b:List (List AV)} {k:Nat},noI i k b->∀(j:Nat) (l:List AV),b[j]?=some l->k+j≠i->k+j≠2->i ∉ bW l
 |[],k,_,j,l,h,_,_=>by simp at h
 |c::r,k,h,j,l,hj,h1,h2=>by
  cases j with
  |zero=>
   simp at hj;subst hj;rcases h.1 with e|e|e
   ·exact absurd e h1
   ·exact absurd e h2
   ·exact e
  |succ j=>exact noI.get h.2 j l (by simpa using hj) oM oM
theorem ad3 {P:Program} (B:Aj P gW sp) {o1 o2 o3 o4 o5 o6 o7:Oper} {tm:Tm} {bx:List (List AV)} {xl:List AV} (e1:o1.op=.fieldAddr 35 (.tmp 6) 7) (g1:o1.guard=none) (d1:o1.dst=some 97) (e2:o2.op=.load 33 (.tmp 97)) (g2:o2.guard=none) (d2:o2.dst=some 98) (e3:o3.op=.load 35 (.tmp 12)) (g3:o3.guard=none) (d3:o3.dst=some 99) (e4:o4.op=.buildSlice 33 1 #[(0,.tmp 99)]) (g4:o4.guard=none) (d4:o4.dst=some 100) (e5:o5.op=.call {callee:=.builtin .append,args:=#[.tmp 98,.tmp 100],argTypes:=#[33,33]}) (g5:o5.guard=none) (d5:o5.dst=some 101) (e6:o6.op=.fieldAddr 35 (.tmp 6) 7) (g6:o6.guard=none) (d6:o6.dst=some 102) (e7:o7.op=.store 33 (.tmp 102) (.tmp 101)) (g7:o7.guard=none) (d7:o7.dst=none) (Gy:get tm 6=.ptr 2 0) (hx:bx[2]?=some xl) (hxl:xl.length=12) {yi:Nat} {yc:List AV} (hty:get tm 12=.ptr yi 0) (hy:bx[yi]?=some yc) (hyl:yc.length=12) (Gx:yc.map AV.bY=yc) (hk:xl[7]?=some .nil) (hq:Q .normal ⟨prune [0,1,4,6,7,8,13,14] tm,(bx++[yc]).set 2 (setAt xl 7 [.bU bx.length 35 12 1])⟩):WP P n0 base (.region 20 #[o1,o2,o3,o4,o5,o6,o7] false) ⟨tm,bx⟩ Q:=by
 have W:Ok (⟨tm,bx⟩:aJ)->dQ xl=true∧dQ yc=true∧dI yc=true∧AV.ak yc=true:=by intro hw;have SX:=bg.1 hw.bx yc (List.mem_of_getElem? hy);have:=sO SX Gx;refine ⟨bg.1 hw.bx xl (List.mem_of_getElem? hx),?_⟩;exact ⟨SX,this⟩
 refine WP.VU B (aH 141) (live:=[0,1,4,6,7,8,13,14]) rfl (fun hw cal=>?_) (fun hw=>?_) hq
 ·obtain ⟨w1,w2,w3,w4⟩:=W hw;refine aau e1 g1 d1 e2 g2 d2 e3 g3 d3 e4 g4 d4 e5 g5 d5 e6 g6 d6 e7 g7 d7 Gy hx hxl hty hy hyl Gx w3 w4 hk hw
 ·obtain ⟨w1,w2,w3,w4⟩:=W hw;exact ⟨gV _ hw.tm,rV (MZ hw.bx (by rw [aV,w2];rfl)) (Bg w1)⟩
theorem ad4 {P:Program} (B:Aj P gW sp) {o1 o2 o3 o4 o5 o6 o7:Oper} {tm:Tm} {bx:List (List AV)} {xl:List AV} (e1:o1.op=.fieldAddr 35 (.tmp 6) 7) (g1:o1.guard=none) (d1:o1.dst=some 97) (e2:o2.op=.load 33 (.tmp 97)) (g2:o2.guard=none) (d2:o2.dst=some 98) (e3:o3.op=.load 35 (.tmp 12)) (g3:o3.guard=none) (d3:o3.dst=some 99) (e4:o4.op=.buildSlice 33 1 #[(0,.tmp 99)]) (g4:o4.guard=none) (d4:o4.dst=some 100) (e5:o5.op=.call {callee:=.builtin .append,args:=#[.tmp 98,.tmp 100],argTypes:=#[33,33]}) (g5:o5.guard=none) (d5:o5.dst=some 101) (e6:o6.op=.fieldAddr 35 (.tmp 6) 7) (g6:o6.guard=none) (d6:o6.dst=some 102) (e7:o7.op=.store 33 (.tmp 102) (.tmp 101)) (g7:o7.guard=none) (d7:o7.dst=none) (Gy:get tm 6=.ptr 2 0) (hx:bx[2]?=some xl) (hxl:xl.length=12) {yi:Nat} {yc:List AV} (hty:get tm 12=.ptr yi 0) (hy:bx[yi]?=some yc) (hyl:yc.length=12) (Gx:yc.map AV.bY=yc) {i m:Nat} {c:List AV} (hk:xl[7]?=some (.bU i 35 12 m)) (hb:bx[i]?=some c) (hbase:base<=i) (hi:i≠2) (WI:m+1<=10000000000) (hc:c.length=m*12) (hcf:jR c=true) (pK:i ∉ bW yc) (hxk:i ∉ bW (setAt xl 7 [.nil])) (hoth:noI i 0 bx) (hlive:∀p ∈ prune [0,1,4,6,7,8,13,14] tm,i ∉ iY p.2) (hq:Q .normal ⟨prune [0,1,4,6,7,8,13,14] tm,(bx.set i (c++yc)).set 2 (setAt xl 7 [.bU i 35 12 (m+1)])⟩):WP P n0 base (.region 20 #[o1,o2,o3,o4,o5,o6,o7] false) ⟨tm,bx⟩ Q:=by
 have W:Ok (⟨tm,bx⟩:aJ)->dQ xl=true∧dQ yc=true∧dI yc=true∧AV.ak yc=true:=by intro hw;have SX:=bg.1 hw.bx yc (List.mem_of_getElem? hy);have:=sO SX Gx;refine ⟨bg.1 hw.bx xl (List.mem_of_getElem? hx),?_⟩;exact ⟨SX,this⟩
 refine WP.VU B (aH 141) (live:=[0,1,4,6,7,8,13,14]) rfl (fun hw cal=>?_) (fun hw=>?_) hq
 ·obtain ⟨w1,w2,w3,w4⟩:=W hw;refine aav e1 g1 d1 e2 g2 d2 e3 g3 d3 e4 g4 d4 e5 g5 d5 e6 g6 d6 e7 g7 d7 Gy hx hxl hty hy hyl Gx w3 w4 hk hb hbase hi WI hc (bB hcf) ?_ hxk (fun j l a b c=>hoth.get j l a oM oM) hlive hw;rw [kJ (sW (bH (bQ (bJ hcf)) w2)),dF,bR hcf,List.nil_append];cases hm:mem i (bW yc) with
  |false=>rfl
  |true=>exact absurd (mem_iff.1 hm) pK
 ·obtain ⟨w1,w2,w3,w4⟩:=W hw;exact ⟨gV _ hw.tm,rV (rV hw.bx (bH (bQ (bJ hcf)) w2)) (Bg w1)⟩
theorem ad1 {P:Program} (B:Aj P gW sp) {o1 o2 o3 o4 o5 o6 o7 o8:Oper} {tm:Tm} {bx:List (List AV)} {xl:List AV} (e1:o1.op=.fieldAddr 35 (.tmp 6) 7) (g1:o1.guard=none) (d1:o1.dst=some 129) (e2:o2.op=.load 33 (.tmp 129)) (g2:o2.guard=none) (d2:o2.dst=some 130) (e3:o3.op=.load 35 (.tmp 16)) (g3:o3.guard=none) (d3:o3.dst=some 131) (e4:o4.op=.load 35 (.tmp 17)) (g4:o4.guard=none) (d4:o4.dst=some 132) (e5:o5.op=.buildSlice 33 2 #[(0,.tmp 131),(1,.tmp 132)]) (g5:o5.guard=none) (d5:o5.dst=some 133) (e6:o6.op=.call {callee:=.builtin .append,args:=#[.tmp 130,.tmp 133],argTypes:=#[33,33]}) (g6:o6.guard=none) (d6:o6.dst=some 134) (e7:o7.op=.fieldAddr 35 (.tmp 6) 7) (g7:o7.guard=none) (d7:o7.dst=some 135) (e8:o8.op=.store 33 (.tmp 135) (.tmp 134)) (g8:o8.guard=none) (d8:o8.dst=none) (Gy:get tm 6=.ptr 2 0) (hx:bx[2]?=some xl) (hxl:xl.length=12) {yi zi:Nat} {yc zc:List AV} (hty:get tm 16=.ptr yi 0) (hy:bx[yi]?=some yc) (hyl:yc.length=12) (Gx:yc.map AV.bY=yc) (htz:get tm 17=.ptr zi 0) (hz:bx[zi]?=some zc) (hzl:zc.length=12) (hzd:zc.map AV.bY=zc) (hk:xl[7]?=some .nil) (hq:Q .normal ⟨prune [0,1,4,6,7,8,18] tm,(bx++[(yc++zc)]).set 2 (setAt xl 7 [.bU bx.length 35 12 2])⟩):WP P n0 base (.region 28 #[o1,o2,o3,o4,o5,o6,o7,o8] false) ⟨tm,bx⟩ Q:=by
 have W:Ok (⟨tm,bx⟩:aJ)->dQ xl=true∧dQ (yc++zc)=true∧dI (yc++zc)=true∧AV.ak (yc++zc)=true:=by intro hw;have SX:=bg.1 hw.bx yc (List.mem_of_getElem? hy);have:=sO SX Gx;refine ⟨bg.1 hw.bx xl (List.mem_of_getElem? hx),?_⟩;have hzw:=bg.1 hw.bx zc (List.mem_of_getElem? hz);have h2:=sO hzw hzd;exact ⟨bH SX hzw,CE this.1 h2.1,dX this.2 h2.2⟩
 refine WP.VU B (aH 141) (live:=[0,1,4,6,7,8,18]) rfl (fun hw cal=>?_) (fun hw=>?_) hq
 ·obtain ⟨w1,w2,w3,w4⟩:=W hw;refine aas e1 g1 d1 e2 g2 d2 e3 g3 d3 e4 g4 d4 e5 g5 d5 e6 g6 d6 e7 g7 d7 e8 g8 d8 Gy hx hxl hty hy hyl Gx htz hz hzl hzd w3 w4 hk hw
 ·obtain ⟨w1,w2,w3,w4⟩:=W hw;exact ⟨gV _ hw.tm,rV (MZ hw.bx (by rw [aV,w2];rfl)) (Bg w1)⟩
theorem ad2 {P:Program} (B:Aj P gW sp) {o1 o2 o3 o4 o5 o6 o7 o8:Oper} {tm:Tm} {bx:List (List AV)} {xl:List AV} (e1:o1.op=.fieldAddr 35 (.tmp 6) 7) (g1:o1.guard=none) (d1:o1.dst=some 129) (e2:o2.op=.load 33 (.tmp 129)) (g2:o2.guard=none) (d2:o2.dst=some 130) (e3:o3.op=.load 35 (.tmp 16)) (g3:o3.guard=none) (d3:o3.dst=some 131) (e4:o4.op=.load 35 (.tmp 17)) (g4:o4.guard=none) (d4:o4.dst=some 132) (e5:o5.op=.buildSlice 33 2 #[(0,.tmp 131),(1,.tmp 132)]) (g5:o5.guard=none) (d5:o5.dst=some 133) (e6:o6.op=.call {callee:=.builtin .append,args:=#[.tmp 130,.tmp 133],argTypes:=#[33,33]}) (g6:o6.guard=none) (d6:o6.dst=some 134) (e7:o7.op=.fieldAddr 35 (.tmp 6) 7) (g7:o7.guard=none) (d7:o7.dst=some 135) (e8:o8.op=.store 33 (.tmp 135) (.tmp 134)) (g8:o8.guard=none) (d8:o8.dst=none) (Gy:get tm 6=.ptr 2 0) (hx:bx[2]?=some xl) (hxl:xl.length=12) {yi zi:Nat} {yc zc:List AV} (hty:get tm 16=.ptr yi 0) (hy:bx[yi]?=some yc) (hyl:yc.length=12) (Gx:yc.map AV.bY=yc) (htz:get tm 17=.ptr zi 0) (hz:bx[zi]?=some zc) (hzl:zc.length=12) (hzd:zc.map AV.bY=zc) {i m:Nat} {c:List AV} (hk:xl[7]?=some (.bU i 35 12 m)) (hb:bx[i]?=some c) (hbase:base<=i) (hi:i≠2) (WI:m+2<=10000000000) (hc:c.length=m*12) (hcf:jR c=true) (pK:i ∉ bW (yc++zc)) (hxk:i ∉ bW (setAt xl 7 [.nil])) (hoth:noI i 0 bx) (hlive:∀p ∈ prune [0,1,4,6,7,8,18] tm,i ∉ iY p.2) (hq:Q .normal ⟨prune [0,1,4,6,7,8,18] tm,(bx.set i (c++(yc++zc))).set 2 (setAt xl 7 [.bU i 35 12 (m+2)])⟩):WP P n0 base (.region 28 #[o1,o2,o3,o4,o5,o6,o7,o8] false) ⟨tm,bx⟩ Q:=by
 have W:Ok (⟨tm,bx⟩:aJ)->dQ xl=true∧dQ (yc++zc)=true∧dI (yc++zc)=true∧AV.ak (yc++zc)=true:=by intro hw;have SX:=bg.1 hw.bx yc (List.mem_of_getElem? hy);have:=sO SX Gx;refine ⟨bg.1 hw.bx xl (List.mem_of_getElem? hx),?_⟩;have hzw:=bg.1 hw.bx zc (List.mem_of_getElem? hz);have h2:=sO hzw hzd;exact ⟨bH SX hzw,CE this.1 h2.1,dX this.2 h2.2⟩
 refine WP.VU B (aH 141) (live:=[0,1,4,6,7,8,18]) rfl (fun hw cal=>?_) (fun hw=>?_) hq
 ·obtain ⟨w1,w2,w3,w4⟩:=W hw;refine aat e1 g1 d1 e2 g2 d2 e3 g3 d3 e4 g4 d4 e5 g5 d5 e6 g6 d6 e7 g7 d7 e8 g8 d8 Gy hx hxl hty hy hyl Gx htz hz hzl hzd w3 w4 hk hb hbase hi WI hc (bB hcf) ?_ hxk (fun j l a b c=>hoth.get j l a oM oM) hlive hw;rw [kJ (sW (bH (bQ (bJ hcf)) w2)),dF,bR hcf,List.nil_append];cases hm:mem i (bW (yc++zc)) with
  |false=>rfl
  |true=>exact absurd (mem_iff.1 hm) pK
 ·obtain ⟨w1,w2,w3,w4⟩:=W hw;exact ⟨gV _ hw.tm,rV (rV hw.bx (bH (bQ (bJ hcf)) w2)) (Bg w1)⟩
end V
namespace V
open Ab
open Bk (Cm)
def ahD:=fN 141 Tryz.f141 215 [.cell 4 35,.tmp 5]
def xB (kd p:Int) (K:AV):List AV:=[.int .i64 kd,.int .i64 7,.int .i64 p,.int .i64 0,.str ByteArray.empty,.str ByteArray.empty,.str ByteArray.empty,K,.nil,.nil,.bool false,.str ByteArray.empty]
def zB:List AV:=[.int .i64 0,.int .i64 0,.int .i64 0,.int .i64 0,.str ByteArray.empty,.str ByteArray.empty,.str ByteArray.empty,.nil,.nil,.nil,.bool false,.str ByteArray.empty]
def KX (deep cl:Int):Tm:=[(7,.int .u8 cl),(6,.ptr 2 0),(4,.ptr 1 0),(1,.int .i64 deep),(0,.ptr 0 0)]
def J0 (s:ByteArray) (p n deep:Int) (τ:aJ):Prop:=∃kd cl:Int,(kd=3∧cl=93∨kd=4∧cl=125)∧τ=⟨[(7,.int .u8 cl),(6,.ptr 2 0),(4,.ptr 1 0),(1,.int .i64 deep),(0,.ptr 0 0)],[rB s p n,zB,xB kd p .nil]⟩
def Inv (kd:Int) (s:ByteArray) (p:Int) (kids:List Nd) (L:List Cm) (q:Int):Prop:=(p<q∧q<=s.size)∧gm kids+L.length+8<=8*(q-p)∧(∀z ∈ kids,FW z)∧(kd=4->kids.length % 2=0)
def I1 (kd cl:Int) (s:ByteArray) (p n deep:Int) (k:Nat) (τ:aJ):Prop:=∃(kids:List Nd) (L:List Cm) (n1:Nat) (l1:List AV) (same:Bool) (e q:Int),Inv kd s p kids L q∧jR l1=true∧k=((s.size:Int)-q).toNat∧
 (kids=[]∧τ=⟨(10,cs L)::(8,.ptr 3 0)::KX deep cl,[rB s q n,zB,xB kd p .nil,[.sl n1 l1,.bool same,.int .i64 e]]⟩∨
  kids≠[]∧τ=⟨(10,cs L)::(8,.ptr 3 0)::KX deep cl,[rB s q n,zB,xB kd p (.bU 4 35 12 kids.length),[.sl n1 l1,.bool same,.int .i64 e],au kids]⟩)
theorem I1.mk {kd cl:Int} {s:ByteArray} {p n deep:Int} {k N:Nat} {kids:List Nd} {L:List Cm} {n1:Nat} {l1 C:List AV} {same:Bool} {e q:Int} {v:AV} (hI:Inv kd s p kids L q) (hl:jR l1=true) (hk:k=((s.size:Int)-q).toNat) (hne:kids≠[]) (hv:v=cs L) (hN:N=kids.length) (hC:C=au kids):I1 kd cl s p n deep k ⟨(10,v)::(8,.ptr 3 0)::KX deep cl,[rB s q n,zB,xB kd p (.bU 4 35 12 N),[.sl n1 l1,.bool same,.int .i64 e],C]⟩:=by subst hN hC hv;exact ⟨kids,L,n1,l1,same,e,q,hI,hl,hk,.inr ⟨hne,rfl⟩⟩
theorem Inv.KR {kd:Int} {s:ByteArray} {p q q':Int} {kids:List Nd} {L L':List Cm} {x x':Nd} (h:Inv kd s p (kids++[x]) L q) (hx:FW x->FW x') (hw:wt x'=wt x) (h1:q<=q'∧q'<=s.size∧(L'.length:Int)<=L.length+8*(q'-q)):Inv kd s p (kids++[x']) L' q':=by
 obtain ⟨⟨a,b⟩,c,d,e⟩:=h;refine ⟨⟨oM,h1.2.1⟩,?_,?_,fun h=>?_⟩
 ·rw [sV,gm,gm] at c⊢;omega
 ·intro z hz;rcases List.mem_append.1 hz with hz|hz
  ·exact d z (List.mem_append_left _ hz)
  ·rw [List.mem_singleton.1 hz];exact hx (d x (by simp))
 ·have:=e h;simp only [lL] at*;exact this
theorem FW.OT {x:Nd} {t:ByteArray} (h:FW x):FW (x.OT t):=by cases x;exact h.QH
theorem Qv {x:Nd} {t:ByteArray}:wt (x.OT t)=wt x:=by cases x;rw [Nd.OT,wt,wt]
def J1 (kd cl:Int) (s:ByteArray) (p n deep q0:Int) (τ:aJ):Prop:=∃(kids:List Nd) (x:Nd) (L:List Cm) (same:Bool) (e q:Int) (o N:Nat) (C:List AV),Inv kd s p (kids++[x]) L q∧q0<q∧o=kids.length*12∧N=kids.length+1∧C=au kids++bF x∧
 τ=⟨(11,.ptr 4 o)::(8,.ptr 3 0)::KX deep cl,[rB s q n,zB,xB kd p (.bU 4 35 12 N),[cs L,.bool same,.int .i64 e],C]⟩
def jb (first b:Int) (n:Nat) (l:List AV):List AV:=[.int .i64 4,.int .i64 7,.int .i64 first,.int .i64 b,.str ByteArray.empty,.str ByteArray.empty,.str ByteArray.empty,.bU 5 35 12 2,.sl n l,.nil,.bool false,.str ByteArray.empty]
def J2 (kd cl:Int) (s:ByteArray) (p n deep q0:Int) (τ:aJ):Prop:=∃(kids:List Nd) (x y:Nd) (L M:List Cm) (first b:Int) (same:Bool) (e q:Int) (N:Nat) (C D:List AV),Inv kd s p (kids++[.mk 4 7 first b ByteArray.empty ByteArray.empty ByteArray.empty [x,y] M [] false ByteArray.empty]) L q∧q0<q∧N=kids.length+1∧C=au kids++jb first b M.length (fQ M)∧D=bF x++bF y∧
 τ=⟨(11,.ptr 5 12)::(8,.ptr 3 0)::KX deep cl,[rB s q n,zB,xB kd p (.bU 4 35 12 N),[cs L,.bool same,.int .i64 e],C,D]⟩
theorem J1.mk {kd cl:Int} {s:ByteArray} {p n deep q0:Int} {kids:List Nd} {x:Nd} {L:List Cm} {same:Bool} {e q:Int} {o N:Nat} {C:List AV} (hI:Inv kd s p (kids++[x]) L q) (hq:q0<q) (ho:o=kids.length*12) (hN:N=kids.length+1) (hC:C=au kids++bF x):J1 kd cl s p n deep q0 ⟨(11,.ptr 4 o)::(8,.ptr 3 0)::KX deep cl,[rB s q n,zB,xB kd p (.bU 4 35 12 N),[cs L,.bool same,.int .i64 e],C]⟩:=⟨kids,x,L,same,e,q,o,N,C,hI,hq,ho,hN,hC,rfl⟩
theorem J2.mk {kd cl:Int} {s:ByteArray} {p n deep q0:Int} {kids:List Nd} {x y:Nd} {L M:List Cm} {first b:Int} {same:Bool} {e q:Int} {N:Nat} {C D:List AV} (hI:Inv kd s p (kids++[.mk 4 7 first b ByteArray.empty ByteArray.empty ByteArray.empty [x,y] M [] false ByteArray.empty]) L q) (hq:q0<q) (hN:N=kids.length+1) (hC:C=au kids++jb first b M.length (fQ M)) (hD:D=bF x++bF y):J2 kd cl s p n deep q0 ⟨(11,.ptr 5 12)::(8,.ptr 3 0)::KX deep cl,[rB s q n,zB,xB kd p (.bU 4 35 12 N),[cs L,.bool same,.int .i64 e],C,D]⟩:=⟨kids,x,y,L,M,first,b,same,e,q,N,C,D,hI,hq,hN,hC,hD,rfl⟩
theorem Inv.add {kd:Int} {s:ByteArray} {p q q':Int} {kids:List Nd} {L l:List Cm} {x:Nd} (h:Inv kd s p kids L q) (hx:FW x) (h1:q<q'∧q'<=s.size∧wt x+l.length<=8*(q'-q)+L.length) (h2:kd=3):Inv kd s p (kids++[x]) l q':=by
 obtain ⟨⟨a,b⟩,c,d,e⟩:=h;refine ⟨⟨oM,h1.2.1⟩,?_,?_,fun h=>by omega⟩
 ·rw [sV,gm,gm];omega
 ·intro z hz;rcases List.mem_append.1 hz with hz|hz
  ·exact d z hz
  ·rw [List.mem_singleton.1 hz];exact hx
theorem Inv.XY {kd:Int} {s:ByteArray} {p q q':Int} {kids:List Nd} {L l:List Cm} {x y:Nd} (h:Inv kd s p kids L q) (hx:FW x) (hy:FW y) (h1:q<q'∧q'<=s.size∧wt x+wt y+l.length<=8*(q'-q)+L.length) (h2:kd=4):Inv kd s p ((kids++[x])++[y]) l q':=by
 obtain ⟨⟨a,b⟩,c,d,e⟩:=h;refine ⟨⟨oM,h1.2.1⟩,?_,?_,fun h=>?_⟩
 ·rw [sV,sV,gm,gm,gm,gm];omega
 ·intro z hz;rcases List.mem_append.1 hz with hz|hz
  ·rcases List.mem_append.1 hz with hz|hz
   ·exact d z hz
   ·rw [List.mem_singleton.1 hz];exact hx
  ·rw [List.mem_singleton.1 hz];exact hy
 ·have:=e h2;simp only [lL];omega
theorem FW.pair {x y:Nd} {first b:Int} {M:List Cm} (hx:FW x) (hy:FW y):FW (.mk 4 7 first b ByteArray.empty ByteArray.empty ByteArray.empty [x,y] M [] false ByteArray.empty):=.mk ⟨.inr (.inr (.inr ⟨rfl,rfl,(by show 2 % 2=0;rfl)⟩)),fun _=>rfl⟩ fun z hz=>by
 rcases List.mem_cons.1 hz with rfl|hz
 ·exact hx
 ·rw [List.mem_singleton.1 hz];exact hy
theorem Inv.ajm {kd:Int} {s:ByteArray} {p q q' first b:Int} {kids:List Nd} {L l M:List Cm} {x y:Nd} (h:Inv kd s p kids L q) (hx:FW x) (hy:FW y) (h1:q<q'∧q'<=s.size∧1+M.length+wt x+wt y+l.length<=8*(q'-q)+L.length) (h2:kd=3):Inv kd s p (kids++[.mk 4 7 first b ByteArray.empty ByteArray.empty ByteArray.empty [x,y] M [] false ByteArray.empty]) l q':=by refine h.add (FW.pair hx hy) ⟨h1.1,h1.2.1,?_⟩ h2;rw [uR];show ((1+M.length+0+gm [x,y]:Nat):Int)+l.length<=_;rw [gm,gm,gm];omega
def lmR:Code->Option Nat
 |.seq x _=>lmR x
 |.region i _ _=>some i
 |_=>none
def En (i:Nat):Code->Option Code
 |.seq x y=>
  match lmR x with
  |some j=>
   match Nat.beq j i with
   |true=>some (.seq x y)
   |false=>
    match En i x with
    |some c=>some c
    |none=>En i y
  |none=>
   match En i x with
   |some c=>some c
   |none=>En i y
 |.cond _ x y=>
  match En i x with
  |some c=>some c
  |none=>En i y
 |.block _ x=>En i x
 |.loop x=>En i x
 |_=>none
theorem aa0 {l l':List Nat} {K:List Nat->Prop} (h:l=l') (hK:xW l' K):xW l K:=by rw [h];exact hK
theorem VV {bx:List (List AV)} {i:Nat} (h:bW (bx.getD i [])=[]):Cv 1000000 bx [i] []=[i]:=by rw [show (1000000:Nat)=999998+1+1 from rfl,Cv];show Cv (999998+1) bx (bW (bx.getD i [])++[]) ([]++[i])=[i];rw [h];rfl
theorem TL {f:Nat->Nat} {l:List AV} {K:List AV->Prop} (h:bW l=[]) (hK:K l):rf (fA f l) K:=by rw [jK,nD h];exact hK
theorem Le {s:ByteArray} {n kd p:Int} {kids:List Nd} {N:Nat} {C:List AV} {X Y:List AV} {rest:List (List AV)} {G:AV->List (List AV)->Prop} (hf:∀kids:List Nd,G (.bX [.agg (xB kd p (.sl kids.length (au kids))),.bool false]) [rF s n]) (hN:N=kids.length) (hC:C=au kids):∃τ',Rx 1 ⟨[(5,.bool false),(4,.ptr 1 0)],rF s n::xB kd p (.bU 4 35 12 N)::X::Y::C::rest⟩ τ'∧wP gW [.cell 4 35,.tmp 5] 1 G .ret τ':=by
 subst hN hC;have ht:(au kids).take (kids.length*12)=au kids:=by rw [←bT,List.take_length]
 refine ⟨⟨[(5,.bool false),(4,.ptr 1 0)],[rF s n,xB kd p (.sl kids.length ((au kids).take (kids.length*12)))]⟩,Rx.fz 2 dE rfl ?_ ?_ ?_,?_⟩
 ·refine .cons (.all (by intro i hi;simp [rF,bW,iY] at hi)) (.cons ?_ .nil);refine .cons (.same (by simp [iY])) (.cons (.same (by simp [iY])) (.cons (.same (by simp [iY])) (.cons (.same (by simp [iY])) (.cons (.same (by simp [iY])) (.cons (.same (by simp [iY])) (.cons (.same (by simp [iY])) (.cons ?_ (.all (by simp [bW,iY])))))))));exact .box dE rfl (by rw [bT];exact Nat.le_refl _) (by rw [ht];exact ai _)
 ·exact .cons (.same (by simp [iY])) (.cons (.same (by simp [iY])) .nil)
 ·rw [ht];exact ⟨(by simp [ni,wv]),(by simp [aV,dQ,wv,AV.one,xB,rF,ai])⟩
 ·rw [ht]
  conv=>whnf
  exact hf kids
def qY (first b:Int) (x y:Nd) (M:List Cm):Nd:=.mk 4 7 first b ByteArray.empty ByteArray.empty ByteArray.empty [x,y] M [] false ByteArray.empty
theorem aeJ {kids:List Nd} {x y:Nd} {M:List Cm} {first b:Int}:au kids++[.int .i64 4,.int .i64 7,.int .i64 first,.int .i64 b,.str ByteArray.empty,.str ByteArray.empty,.str ByteArray.empty,.sl 2 ((bF x++bF y).take (2*12)),.sl M.length (fQ M),.sl 0 [],.bool false,.str ByteArray.empty]=au (kids++[qY first b x y M]):=by
 rw [jG,jU];have h:(bF x++bF y).take (2*12)=au [x,y]:=by rw [au,au,au,mq,mq,List.append_nil];rfl
 rw [h];rfl
theorem TJ {tm tm':Tm} {R Z X B D:List AV} {rest:List (List AV)} {kids:List Nd} {x y:Nd} {M:List Cm} {first b:Int} (hR:bW R=[]) (hZ:∀i ∈ bW Z,i<5) (hX:∀i ∈ bW X,i<5) (hB:∀i ∈ bW B,i<5) (hD:D=bF x++bF y) (ht:P9 (R::Z::X::B::(au kids++jb first b M.length (fQ M))::D::rest) 5 tm tm') (hok:Ok ⟨tm',[R,Z,X,B,au (kids++[qY first b x y M])]⟩):Rx 1 ⟨tm,R::Z::X::B::(au kids++jb first b M.length (fQ M))::D::rest⟩ ⟨tm',[R,Z,X,B,au (kids++[qY first b x y M])]⟩:=by subst hD;refine Rx.fz 5 dE rfl ?_ ht hok;refine .cons (.all (by rw [hR];simp)) (.cons (.all hZ) (.cons (.all hX) (.cons (.all hB) (.cons ?_ .nil))));rw [←aeJ];refine .app (by rw [bR (ai _)];simp) ?_;refine .cons (.same (by simp [iY])) (.cons (.same (by simp [iY])) (.cons (.same (by simp [iY])) (.cons (.same (by simp [iY])) (.cons (.same (by simp [iY])) (.cons (.same (by simp [iY])) (.cons (.same (by simp [iY])) (.cons ?_ (.cons (.same (by simp [iY])) (.cons .aaY (.all (by simp [bW,iY])))))))))));exact .box dE rfl (Nat.le_refl _) (Jm _ (fV (jk _) (jk _)))
theorem FW.VY {x y:Nd} {first b:Int} {M:List Cm} {t:ByteArray} (h:FW (qY first b x y M)):FW (qY first b x (y.OT t) M):=by have h2:=(xX.out h).2;exact FW.pair (h2 x (by simp [qY,Nd.kids])) (FW.OT (h2 y (by simp [qY,Nd.kids])))
theorem KM {x y:Nd} {first b:Int} {M:List Cm} {t:ByteArray}:wt (qY first b x (y.OT t) M)=wt (qY first b x y M):=by rw [uR,uR];show 1+M.length+0+gm [x,y.OT t]=1+M.length+0+gm [x,y];rw [gm,gm,gm,gm,gm,gm,Qv]
theorem VR {s:ByteArray} {n kd p first b:Int} {kids:List Nd} {x y:Nd} {M:List Cm} {N:Nat} {D X Y:List AV} {rest:List (List AV)} {G:AV->List (List AV)->Prop} (hf:∀kids:List Nd,G (.bX [.agg (xB kd p (.sl kids.length (au kids))),.bool false]) [rF s n]) (hN:N=kids.length+1) (hD:D=bF x++bF y) (hX:∀i ∈ bW X,i<5) (hY:∀i ∈ bW Y,i<5) (hXw:dQ X=true) (hYw:dQ Y=true):∃τ',Rx 1 ⟨[(5,.bool false),(4,.ptr 1 0)],rF s n::xB kd p (.bU 4 35 12 N)::X::Y::(au kids++jb first b M.length (fQ M))::D::rest⟩ τ'∧wP gW [.cell 4 35,.tmp 5] 1 G .ret τ':=by obtain ⟨τ',h1,h2⟩:=Le (s:=s) (n:=n) (kd:=kd) (p:=p) (kids:=kids++[qY first b x y M]) (N:=N) (X:=X) (Y:=Y) (rest:=[]) (G:=G) hf (by simp [hN]) rfl;refine ⟨τ',Rx.trans (TJ rfl (by intro i hi;simp [xB,bW,iY] at hi;omega) hX hY hD (.cons (.same (by simp [iY])) (.cons (.same (by simp [iY])) .nil)) ?_) h1,h2⟩;exact ⟨(by simp [ni,wv]),(by simp [aV,dQ,wv,AV.one,AV.flat,xB,rF,bQ (bJ (ai _)),hXw,hYw])⟩
theorem Xe {tm:Tm} {s:ByteArray} {q n kd p deep cl e:Int} {n1 N:Nat} {l1 D:List AV} {same:Bool} {rest:List (List AV)} {kids:List Nd} {x y:Nd} {M L:List Cm} {first b:Int} (hl2:jR l1=true) (hD:D=bF x++bF y) (ht:P9 (rB s q n::zB::xB kd p (.bU 4 35 12 N)::[.sl n1 l1,.bool same,.int .i64 e]::(au kids++jb first b M.length (fQ M))::D::rest) 5 tm ((10,cs L)::(8,.ptr 3 0)::KX deep cl)):Rx 1 ⟨tm,rB s q n::zB::xB kd p (.bU 4 35 12 N)::[.sl n1 l1,.bool same,.int .i64 e]::(au kids++jb first b M.length (fQ M))::D::rest⟩ ⟨(10,cs L)::(8,.ptr 3 0)::KX deep cl,[rB s q n,zB,xB kd p (.bU 4 35 12 N),[.sl n1 l1,.bool same,.int .i64 e],au (kids++[qY first b x y M])]⟩:=by refine TJ rfl (by intro i hi;cases hi) (by intro i hi;simp [xB,bW,iY] at hi;omega) (by intro i hi;simp [bW,iY] at hi) hD ht ?_;exact ⟨(by simp [ni,KX,wv,cs,aA]),(by simp [aV,dQ,wv,jR,qI,AV.one,AV.flat,xB,zB,rB,cs,aA,bQ (bJ (ai _)),hl2])⟩
theorem Ot {k j:Nat} {τ τ':aJ} {I:Nat->aJ->Prop} (hi:I j τ') (hr:Rx 1 τ τ') (hj:j<k):∃j τ',j<k∧Rx 1 τ τ'∧I j τ':=⟨j,τ',hj,hr,hi⟩
theorem NC {kids:List Nd} {x:Nd}:au kids++bF x=au (kids++[x]):=by rw [jG,jU]
theorem Wh {kids:List Nd} {x:Nd}:dQ (au kids++bF x)=true:=bH (bQ (bJ (ai _))) (bQ (bJ (jk _)))
theorem za {a b:List Cm}:jR (fQ a++fQ b)=true:=fV (aA _) (aA _)
theorem iD {kids:List Nd} {x:Nd}:bW (au kids++bF x)=[]:=by rw [dF,bR (ai _),bR (jk _)];rfl
theorem adT.xt {p:Prop} (g:p:=by ((first|exact EN|(refine aa0 (l':=[4]) (VV (i:=4) (iD (kids:=kids) (x:=x))) ?_;conv=>whnf)|((refine JB ?_ (by show (true && (ym (bW (au kids++bF x)) [4] && true))=true;rw [iD];rfl));conv=>whnf)|((refine JB ?_ (by show (true && true && (below 1 (bW (au kids++bF _)) && true))=true;rw [iD];rfl));conv=>whnf)|((refine TL (l:=au kids++bF _) iD ?_);conv=>whnf)|(refine ⟨_,au kids,x,(by first|exact dC.mk _|exact dC.app (dC.mk _) (dC.mk _)),rfl,bT kids,ai _,?_,?_⟩)|((with_reducible refine hret _ ?_))|(exact Le (kids:=kids++[x]) hf (by simp) NC)|((with_reducible refine (?_:∃j τ',j<k∧Rx 1 _ τ'∧_));(apply Ot);(case' hi=>(apply I1.mk (kids:=kids++[_])));(case' hr=>(apply Rx.pick [0,1,2,3,4]));(case hbx=>(repeat' (first|exact ny.nil|(refine ny.cons (by first|exact Pk.same rfl|exact Pk.ptr rfl|exact Pk.bU rfl) ?_)|(refine ny.drop rfl ?_)|exact gG.nil|(refine gG.same rfl rfl ?_)|(refine gG.same rfl iD ?_)|(refine gG.one rfl rfl rfl rfl ?_))));(case ht=>(repeat' (first|exact ny.nil|(refine ny.cons (by first|exact Pk.same rfl|exact Pk.ptr rfl|exact Pk.bU rfl) ?_)|(refine ny.drop rfl ?_)|exact gG.nil|(refine gG.same rfl rfl ?_)|(refine gG.same rfl iD ?_)|(refine gG.one rfl rfl rfl rfl ?_))));(case hn=>decide);(case hpre=>decide);(case hC=>exact NC);(case hv=>rfl);(case hk=>rfl);(case hN=>simp);(case hne=>simp);(case hl=>(first|exact aA _|exact za));(case hI=>(first|exact hI.KR id rfl ⟨oM,oM,by (try simp only [List.length_append] at*);omega⟩|exact hI.KR FW.OT Qv ⟨oM,oM,by (try simp only [List.length_append] at*);omega⟩));(case hj=>omega);(case hok=>exact ⟨(by simp [ni,KX,wv,cs,aA]),(by simp [aV,dQ,wv,jR,qI,AV.one,AV.flat,xB,zB,rB,cs,aA,ai,Wh,za])⟩))|fail);(repeat' (first|exact bN|fail));first|done|fail)):p:=g
theorem adS.xt {p:Prop} (g:p:=by ((first|exact EN|(refine ⟨_,bF x,y,(by first|exact dC.mk _|exact dC.app (dC.mk _) (dC.mk _)),rfl,rfl,jk _,?_,?_⟩)|((with_reducible refine hret _ ?_))|((with_reducible refine (?_:∃τ',Rx 1 _ τ'∧wP _ _ _ _ _ _));(apply VR (x:=x) (first:=first) (b:=b) (M:=M) (kids:=kids) hf);(case hN=>rfl);(case hD=>rfl);(case hX=>(intro i hi;simp [xB,bW,iY] at hi;omega));(case hY=>(intro i hi;simp [bW,iY,cs] at hi));(case hXw=>(simp [dQ,wv,AV.one,AV.flat,xB]));(case hYw=>(simp [dQ,wv,AV.one,AV.flat,cs,aA])))|((with_reducible refine (?_:∃j τ',j<k∧Rx 1 _ τ'∧_));(apply Ot);(case' hi=>(apply I1.mk (kids:=kids++[qY first b x _ M])));(case' hr=>(apply Xe (x:=x) (first:=first) (b:=b) (M:=M) (kids:=kids)));(case hD=>rfl);(case hC=>rfl);(case ht=>(repeat' (first|exact P9.nil|(refine P9.cons (.same (by simp [iY,cs])) ?_)|(refine P9.drop rfl ?_))));(case hv=>rfl);(case hk=>rfl);(case hN=>simp);(case hne=>simp);(case hl2=>(first|exact aA _|exact za));(case hl=>(first|exact aA _|exact za));(case hI=>(first|exact Inv.KR (x:=qY first b x y M) hI id rfl ⟨oM,oM,by (try simp only [List.length_append] at*);omega⟩|exact Inv.KR (x:=qY first b x y M) hI FW.VY KM ⟨oM,oM,by (try simp only [List.length_append] at*);omega⟩));(case hj=>omega))|fail);(repeat' (first|exact bN|fail));first|done|fail)):p:=g
theorem Vy {m:Nat} (B:Aj Tryz.prog gW [(154,Mx m),(155,Mw m),(150,XJ),(151,XI),(152,XH),(153,XG),(156,XF),(157,XE),(158,Ux)]) {kd cl:Int} {s:ByteArray} {p n deep q0:Int} {G:AV->List (List AV)->Prop} {Q:wL->aJ->Prop} (hret:∀τ,(∃τ',Rx 1 τ τ'∧wP gW [.cell 4 35,.tmp 5] 1 G .ret τ')->Q .ret τ) (h0:s.size<=900000) (h1:0<=p) (hf:∀kids:List Nd,G (.bX [.agg (xB kd p (.sl kids.length (au kids))),.bool false]) [rF s n]) {k:Nat} (hkq:k=((s.size:Int)-q0).toNat) {c:Code} (hc:En 31 (Tryz.f141.body.getD .skip)=some c):∀τ,(J1 kd cl s p n deep q0 τ∨J2 kd cl s p n deep q0 τ)->WP Tryz.prog 215 1 c τ (NH 1 (I1 kd cl s p n deep) k Q):=by
 conv at hc=>lhs;whnf
 cases hc;rintro τ (⟨kids,x,L,same,e,q,o,N,C,hI,hq,rfl,rfl,rfl,rfl⟩|⟨kids,x,y,L,M,first,b,same,e,q,N,C,D,hI,hq,rfl,rfl,rfl,rfl⟩)
 ·obtain ⟨⟨g1,g2⟩,g3,g4,g5⟩:=id hI;let zA:=(aH 141)
  open adT in exact bN
 ·obtain ⟨⟨g1,g2⟩,g3,g4,g5⟩:=id hI;let zA:=(aH 141)
  open adS in exact bN
def xF (kd p:Int) (K F:AV):List AV:=[.int .i64 kd,.int .i64 7,.int .i64 p,.int .i64 0,.str ByteArray.empty,.str ByteArray.empty,.str ByteArray.empty,K,.nil,F,.bool false,.str ByteArray.empty]
theorem VQ {s:ByteArray} {n kd p q:Int} {kids:List Nd} {L:List Cm} {N:Nat} {C:List AV} {X Y:List AV} {rest:List (List AV)} {G:AV->List (List AV)->Prop} (hf:G (.bX [.agg (xF kd p (.sl kids.length (au kids)) (cs L)),.bool true]) [rB s q n]) (hN:N=kids.length) (hC:C=au kids):∃τ',Rx 1 ⟨[(5,.bool true),(4,.ptr 1 0)],rB s q n::xF kd p (.bU 4 35 12 N) (cs L)::X::Y::C::rest⟩ τ'∧wP gW [.cell 4 35,.tmp 5] 1 G .ret τ':=by
 subst hN hC;have ht:(au kids).take (kids.length*12)=au kids:=by rw [←bT,List.take_length]
 refine ⟨⟨[(5,.bool true),(4,.ptr 1 0)],[rB s q n,xF kd p (.sl kids.length ((au kids).take (kids.length*12))) (cs L)]⟩,Rx.fz 2 dE rfl ?_ ?_ ?_,?_⟩
 ·refine .cons (.all (by intro i hi;simp [rB,bW,iY] at hi)) (.cons ?_ .nil);refine .cons (.same (by simp [iY])) (.cons (.same (by simp [iY])) (.cons (.same (by simp [iY])) (.cons (.same (by simp [iY])) (.cons (.same (by simp [iY])) (.cons (.same (by simp [iY])) (.cons (.same (by simp [iY])) (.cons ?_ (.all (by simp [bW,iY,cs])))))))));exact .box dE rfl (by rw [bT];exact Nat.le_refl _) (by rw [ht];exact ai _)
 ·exact .cons (.same (by simp [iY])) (.cons (.same (by simp [iY])) .nil)
 ·rw [ht];exact ⟨(by simp [ni,wv]),(by simp [aV,dQ,wv,AV.one,xF,rB,ai,cs,aA])⟩
 ·rw [ht]
  conv=>whnf
  exact hf
theorem wfX {kd cl:Int} {kids:List Nd} {L:List Cm} (hk:kd=3∧cl=93∨kd=4∧cl=125) (h4:∀z ∈ kids,FW z) (h5:kd=4->kids.length % 2=0):xX kd 7 kids L false ByteArray.empty:=by
 refine .mk ⟨?_,fun _=>rfl⟩ h4;rcases hk with ⟨rfl,-⟩|⟨rfl,-⟩
 ·exact .inr (.inr (.inl ⟨rfl,rfl⟩))
 ·exact .inr (.inr (.inr ⟨rfl,rfl,h5 rfl⟩))
theorem JI {m:Nat} (B:Aj Tryz.prog gW [(154,Mx m),(155,Mw m),(150,XJ),(151,XI),(152,XH),(153,XG),(156,XF),(157,XE),(158,Ux)]) {kd cl:Int} {s:ByteArray} {p n deep q0:Int} {G:AV->List (List AV)->Prop} {Q:wL->aJ->Prop} (hret:∀τ,(∃τ',Rx 1 τ τ'∧wP gW [.cell 4 35,.tmp 5] 1 G .ret τ')->Q .ret τ) (h0:s.size<=900000) (h1:0<=p) (hf:∀kids:List Nd,G (.bX [.agg (xB kd p (.sl kids.length (au kids))),.bool false]) [rF s n]) {k:Nat} (hkq:k=((s.size:Int)-q0).toNat) {c:Code} (hc:En 31 (Tryz.f141.body.getD .skip)=some c):aR (∀τ,(J1 kd cl s p n deep q0 τ∨J2 kd cl s p n deep q0 τ)->WP Tryz.prog 215 1 c τ (G9 1 (NH 1 (I1 kd cl s p n deep) k Q))):=by
 intro τ hτ;refine WP.mono (Vy B (Q:=fun e τ=>e=.ret∧Q .ret τ) (fun τ h=>⟨rfl,hret τ h⟩) h0 h1 hf hkq hc τ hτ) ?_;intro e τ h;cases e with
 |normal=>exact h
 |exit j=>exact absurd h.1 (by intro h;cases h)
 |ret=>exact h.2
theorem okJ {s:ByteArray} {q n kd p deep cl e:Int} {N i o:Nat} {L:List Cm} {same:Bool} {C:List AV} (hC:dQ C=true):Ok ⟨(11,.ptr i o)::(8,.ptr 3 0)::KX deep cl,[rB s q n,zB,xB kd p (.bU 4 35 12 N),[cs L,.bool same,.int .i64 e],C]⟩:=⟨(by simp [ni,KX,wv]),(by simp [aV,dQ,wv,jR,qI,AV.one,AV.flat,xB,zB,rB,cs,aA,hC])⟩
theorem O7 {s:ByteArray} {q n kd p deep cl e:Int} {N i o:Nat} {L:List Cm} {same:Bool} {C D:List AV} (hC:dQ C=true) (hD:dQ D=true):Ok ⟨(11,.ptr i o)::(8,.ptr 3 0)::KX deep cl,[rB s q n,zB,xB kd p (.bU 4 35 12 N),[cs L,.bool same,.int .i64 e],C,D]⟩:=⟨(by simp [ni,KX,wv]),(by simp [aV,dQ,wv,jR,qI,AV.one,AV.flat,xB,zB,rB,cs,aA,hC,hD])⟩
theorem Ay {f:Nat->Nat}:∀a b:List AV,fA f (a++b)=fA f a++fA f b
 |[],_=>rfl
 |x::a,b=>by rw [List.cons_append,fA,fA,Ay a b];rfl
theorem gG.pair {bx:List (List AV)} {f:Nat->Nat} {ids:List Nat} {i k:Nat} {r:List Nat} {kids:List Nd} {l l':List AV} {b:List (List AV)} (h:bx[i]?=some (au kids++l)) (h2:bW l=[k]) (hk:mem k ids=true) (h3:l'=fA f l) (hb:gG bx f ids r b):gG bx f ids (i::r) ((au kids++l')::b):=
 .cons h (fun j hj=>by rw [dF,bR (ai _),h2,List.nil_append,List.mem_singleton] at hj;rw [hj];exact mem_iff.1 hk) (by rw [Ay,nD (bR (ai _)),h3]) hb
theorem lH {kids:List Nd} {x y:Nd}:bW (au kids++(bF x++bF y))=[]:=by rw [dF,dF,bR (ai _),bR (jk _),bR (jk _)];rfl
theorem Gr:∀{l:List AV} {o:Nat} {v:AV} {K:AV->Prop},l[o]?=some v->K v->sj l o K
 |[],_,_,_,h,_=>by simp at h
 |x::l,0,v,K,h,hK=>by simp at h;subst h;exact hK
 |x::l,o+1,v,K,h,hK=>by rw [sj];exact Gr (by simpa using h) hK
theorem nd7 {kids:List Nd} {l:List AV} {v:AV} (h:l[7]?=some v):(au kids++l)[(((kids.length+1:Nat):Int)-1).toNat*12+7]?=some v:=by rw [List.getElem?_append_right (by rw [bT];omega),bT];rw [show (((kids.length+1:Nat):Int)-1).toNat*12+7-kids.length*12=7 by omega];exact h
theorem afL {m:Nat} (i154:aC.OK Tryz.prog 154 (Mx m)) (i155:aC.OK Tryz.prog 155 (Mw m)):aC.OK Tryz.prog 141 (MB (m+1)):=by
 intro args bx K0 h;unfold MB at h;split at h
 ·rename_i deep s p n e;obtain ⟨⟨h0,h1,h2,rfl,h3,h4,h5⟩,-⟩:=h;refine ahD.okW (base:=1) rfl fU fU ?_;have B:=V.base (af.cons i154 (af.cons i155 (af.cons Jy (af.cons CO (af.cons E9 (af.cons R5 (af.cons R4 (af.cons Ns (af.cons afD af.nil)))))))));refine WP.Gb ?_
  conv=>whnf
  repeat' (first
  |(with_reducible refine WP.cut (x:=.seq (.region 3 _ _) _) (J0 s p n deep) ?_ ?_)
  |with_reducible refine WP.seq ?_
  |(with_reducible first|refine Go.mk ?_|refine WP.oC B (aH 141) ?_|refine WP.draw B (aH 141) ?_|refine WP.cond ?_|refine WP.exit ?_|refine WP.skip ?_|refine WP.ret ?_);conv=>whnf
  |with_reducible refine WP.block ?_
  |with_reducible assumption
  |(refine ⟨_,Rx.prune [7,6,4,1,0],3,93,.inl ⟨rfl,rfl⟩,rfl⟩)
  |(refine ⟨_,Rx.prune [7,6,4,1,0],4,125,.inr ⟨rfl,rfl⟩,rfl⟩)
  |with_reducible refine And.intro ?_ ?_
  |exact cL
  |(with_reducible intro h);first|(cases h;done)|(try simp only [lG,reduceCtorEq] at h);first|done|(exfalso;omega)|replace h:=h trivial aZ|replace h:=h aZ|skip
  |fail)
  refine aR.mk ?_;rintro τ ⟨kd,cl,hk,rfl⟩
  repeat' (first
  |with_reducible refine WP.seq ?_
  |(with_reducible first|refine Go.mk ?_|refine WP.oC B (aH 141) ?_|refine WP.draw B (aH 141) ?_|refine WP.cond ?_|refine WP.exit ?_|refine WP.skip ?_|refine WP.ret ?_);conv=>whnf
  |with_reducible refine WP.block ?_
  |with_reducible assumption
  |((with_reducible refine (?_:∃τ',Rx 1 _ τ'∧wP _ _ _ _ _ _));(refine ⟨_,Rx.refl,?_⟩);conv=>whnf)
  |(with_reducible refine (?_:ag _ _ _ _ _));first|exact ag.aU kV kV fU fU fun K hK=>hK.2.2 (.mk _ _ _ _ _ _ _ _ _ _ _ _)
  |with_reducible refine And.intro ?_ ?_
  |exact cL
  |(with_reducible intro h);first|(cases h;done)|(try simp only [lG,reduceCtorEq] at h);first|done|(exfalso;omega)|replace h:=h trivial aZ|replace h:=h aZ|skip
  |fail)
  all_goals
   (refine WP.loop (I1 kd cl s p n deep) ⟨[],_,_,_,_,_,_,?_,?_,rfl,.inl ⟨rfl,rfl⟩⟩ ?_)
  ·exact ⟨⟨oM,oM⟩,by rw [gm];omega,(by intro z hz;cases hz),fun _=>rfl⟩
  ·exact aA _
  rintro k τ ⟨kids,L,n1,l1,same,e,q,hI,hl1,rfl,hh⟩;obtain ⟨⟨g1,g2⟩,g3,g4,g5⟩:=id hI;rcases hh with ⟨rfl,rfl⟩|⟨hne,rfl⟩
  ·
   repeat' (first
   |(with_reducible refine WP.cut (x:=.seq (.region 16 _ _) _) (fun τ=>J1 kd cl s p n deep q τ∨J2 kd cl s p n deep q τ) ?_ ?_)
   |((with_reducible refine (?_:WP _ _ _ (.region 20 _ _) _ _));(refine ad3 B rfl rfl rfl rfl rfl rfl rfl rfl rfl rfl rfl rfl rfl rfl rfl rfl rfl rfl rfl rfl rfl rfl rfl rfl rfl rfl rfl rfl rfl ?_);conv=>whnf)
   |((with_reducible refine (?_:WP _ _ _ (.region 28 _ _) _ _));(refine ad1 B rfl rfl rfl rfl rfl rfl rfl rfl rfl rfl rfl rfl rfl rfl rfl rfl rfl rfl rfl rfl rfl rfl rfl rfl rfl rfl rfl rfl rfl rfl rfl rfl rfl rfl rfl rfl ?_);conv=>whnf)
   |with_reducible refine WP.seq ?_
   |(with_reducible first|refine Go.mk ?_|refine WP.oC B (aH 141) ?_|refine WP.draw B (aH 141) ?_|refine WP.cond ?_|refine WP.exit ?_|refine WP.skip ?_|refine WP.ret ?_);conv=>whnf
   |with_reducible refine WP.block ?_
   |with_reducible assumption
   |((with_reducible refine (?_:(_:Int)<=9223372036854775807));have:=wz kids;omega)
   |((with_reducible refine (?_:sj _ _ _));(refine Gr (nd7 (by rfl)) ?_);conv=>whnf)
   |(with_reducible refine (?_:∃L:List Cm,dC _ _ L∧_));(apply Exists.intro;apply And.intro;focus (repeat' (first|exact dC.mk _|exact dC.nil|apply dC.app)))
   |((with_reducible refine (?_:∃τ',Rx 1 _ τ'∧wP _ _ _ _ _ _));(refine ⟨_,Rx.refl,?_⟩);conv=>whnf)
   |((with_reducible refine (?_:∃τ',Rx 1 _ τ'∧_));(apply Exists.intro);(apply And.intro);(case' right=>(apply Or.inl;apply J1.mk (kids:=[])));(case' left=>(apply Rx.pick [0,1,2,3,6]));(case hbx=>(repeat' (first|exact ny.nil|(refine ny.cons (by first|exact Pk.same rfl|exact Pk.ptr rfl|exact Pk.bU rfl) ?_)|(refine ny.drop rfl ?_)|exact gG.nil|(refine gG.same rfl rfl ?_)|(refine gG.same rfl (bR (ai _)) ?_)|(refine gG.same rfl iD ?_)|(refine gG.same rfl lH ?_)|(refine gG.pair rfl rfl rfl rfl ?_)|(refine gG.one rfl rfl rfl rfl ?_))));(case ht=>(repeat' (first|exact ny.nil|(refine ny.cons (by first|exact Pk.same rfl|exact Pk.ptr rfl|exact Pk.bU rfl) ?_)|(refine ny.drop rfl ?_)|exact gG.nil|(refine gG.same rfl rfl ?_)|(refine gG.same rfl (bR (ai _)) ?_)|(refine gG.same rfl iD ?_)|(refine gG.same rfl lH ?_)|(refine gG.pair rfl rfl rfl rfl ?_)|(refine gG.one rfl rfl rfl rfl ?_))));(case hn=>decide);(case hpre=>decide);(case hC=>(first|rfl|(rw [jG,jU,List.append_assoc];rfl)));(case ho=>(first|rfl|(congr 1;(try simp only [lL]);omega)));(case hN=>rfl);(case hI=>exact hI.add aZ aZ aZ);(case hq=>omega);(case hok=>(first|(refine okJ ?_;(first|(simp [dQ,wv,AV.one,AV.flat,bF,cs,aA,ai,fA,pY,jb];done)|(refine bH (bQ (bJ (ai _))) ?_;simp [dQ,wv,AV.one,AV.flat,bF,cs,aA,ai,fA,pY,jb];done)))|(refine O7 ?_ ?_;(focus (first|(simp [dQ,wv,AV.one,AV.flat,bF,cs,aA,ai,fA,pY,jb];done)|(refine bH (bQ (bJ (ai _))) ?_;simp [dQ,wv,AV.one,AV.flat,bF,cs,aA,ai,fA,pY,jb];done)));(focus (first|(simp [dQ,wv,AV.one,AV.flat,bF,cs,aA,ai,fA,pY,jb];done)|(refine bH (bQ (bJ (ai _))) ?_;simp [dQ,wv,AV.one,AV.flat,bF,cs,aA,ai,fA,pY,jb];done)))))))
   |((with_reducible refine (?_:∃τ',Rx 1 _ τ'∧_));(apply Exists.intro);(apply And.intro);(case' right=>(apply Or.inr;apply J2.mk (kids:=[])));(case' left=>(apply Rx.pick [0,1,2,3,7,4]));(case hbx=>(repeat' (first|exact ny.nil|(refine ny.cons (by first|exact Pk.same rfl|exact Pk.ptr rfl|exact Pk.bU rfl) ?_)|(refine ny.drop rfl ?_)|exact gG.nil|(refine gG.same rfl rfl ?_)|(refine gG.same rfl (bR (ai _)) ?_)|(refine gG.same rfl iD ?_)|(refine gG.same rfl lH ?_)|(refine gG.pair rfl rfl rfl rfl ?_)|(refine gG.one rfl rfl rfl rfl ?_))));(case ht=>(repeat' (first|exact ny.nil|(refine ny.cons (by first|exact Pk.same rfl|exact Pk.ptr rfl|exact Pk.bU rfl) ?_)|(refine ny.drop rfl ?_)|exact gG.nil|(refine gG.same rfl rfl ?_)|(refine gG.same rfl (bR (ai _)) ?_)|(refine gG.same rfl iD ?_)|(refine gG.same rfl lH ?_)|(refine gG.pair rfl rfl rfl rfl ?_)|(refine gG.one rfl rfl rfl rfl ?_))));(case hn=>decide);(case hpre=>decide);(case hC=>(first|rfl|(rw [jG,jU,List.append_assoc];rfl)));(case hD=>rfl);(case hN=>rfl);(case hI=>exact hI.ajm aZ aZ aZ aZ);(case hq=>omega);(case hok=>(first|(refine okJ ?_;(first|(simp [dQ,wv,AV.one,AV.flat,bF,cs,aA,ai,fA,pY,jb];done)|(refine bH (bQ (bJ (ai _))) ?_;simp [dQ,wv,AV.one,AV.flat,bF,cs,aA,ai,fA,pY,jb];done)))|(refine O7 ?_ ?_;(focus (first|(simp [dQ,wv,AV.one,AV.flat,bF,cs,aA,ai,fA,pY,jb];done)|(refine bH (bQ (bJ (ai _))) ?_;simp [dQ,wv,AV.one,AV.flat,bF,cs,aA,ai,fA,pY,jb];done)));(focus (first|(simp [dQ,wv,AV.one,AV.flat,bF,cs,aA,ai,fA,pY,jb];done)|(refine bH (bQ (bJ (ai _))) ?_;simp [dQ,wv,AV.one,AV.flat,bF,cs,aA,ai,fA,pY,jb];done)))))))
   |((with_reducible refine (?_:∃τ',Rx 1 _ τ'∧_));(apply Exists.intro);(apply And.intro);(case' right=>(apply Or.inl;apply J1.mk (kids:=[]++[_])));(case' left=>(apply Rx.pick [0,1,2,3,7]));(case hbx=>(repeat' (first|exact ny.nil|(refine ny.cons (by first|exact Pk.same rfl|exact Pk.ptr rfl|exact Pk.bU rfl) ?_)|(refine ny.drop rfl ?_)|exact gG.nil|(refine gG.same rfl rfl ?_)|(refine gG.same rfl (bR (ai _)) ?_)|(refine gG.same rfl iD ?_)|(refine gG.same rfl lH ?_)|(refine gG.pair rfl rfl rfl rfl ?_)|(refine gG.one rfl rfl rfl rfl ?_))));(case ht=>(repeat' (first|exact ny.nil|(refine ny.cons (by first|exact Pk.same rfl|exact Pk.ptr rfl|exact Pk.bU rfl) ?_)|(refine ny.drop rfl ?_)|exact gG.nil|(refine gG.same rfl rfl ?_)|(refine gG.same rfl (bR (ai _)) ?_)|(refine gG.same rfl iD ?_)|(refine gG.same rfl lH ?_)|(refine gG.pair rfl rfl rfl rfl ?_)|(refine gG.one rfl rfl rfl rfl ?_))));(case hn=>decide);(case hpre=>decide);(case hC=>(first|rfl|(rw [jG,jU,List.append_assoc];rfl)));(case ho=>(first|rfl|(congr 1;(try simp only [lL]);omega)));(case hN=>rfl);(case hI=>exact hI.XY aZ aZ aZ oM);(case hq=>omega);(case hok=>(first|(refine okJ ?_;(first|(simp [dQ,wv,AV.one,AV.flat,bF,cs,aA,ai,fA,pY,jb];done)|(refine bH (bQ (bJ (ai _))) ?_;simp [dQ,wv,AV.one,AV.flat,bF,cs,aA,ai,fA,pY,jb];done)))|(refine O7 ?_ ?_;(focus (first|(simp [dQ,wv,AV.one,AV.flat,bF,cs,aA,ai,fA,pY,jb];done)|(refine bH (bQ (bJ (ai _))) ?_;simp [dQ,wv,AV.one,AV.flat,bF,cs,aA,ai,fA,pY,jb];done)));(focus (first|(simp [dQ,wv,AV.one,AV.flat,bF,cs,aA,ai,fA,pY,jb];done)|(refine bH (bQ (bJ (ai _))) ?_;simp [dQ,wv,AV.one,AV.flat,bF,cs,aA,ai,fA,pY,jb];done)))))))
   |((with_reducible refine (?_:wY _ _));exact ⟨rfl,rfl⟩)
   |(with_reducible refine (?_:ag _ _ _ _ _));first|exact ag.aU kV kV fU fU fun K hK=>hK.2.2 (.mk _ _ _ _ _ _ _ _ _ _ _ _)|exact ag.aU kV kV fU fU fun K hK=>hK.2.1 (.mk kd 7 p 0 ByteArray.empty ByteArray.empty ByteArray.empty [] [] L false ByteArray.empty) _ (wfX hk g4 g5) rfl ⟨oM,oM,oW⟩
   |with_reducible refine And.intro ?_ ?_
   |exact cL
   |(with_reducible intro h);first|(cases h;done)|(try simp only [lG,reduceCtorEq] at h);first|done|(exfalso;omega)|replace h:=h trivial aZ|replace h:=h aZ|skip
   |fail)
   all_goals try ((with_reducible refine (?_:aR _));refine JI B (G:=ag (MB (m+1)) [.ptr 0 0,.int .i64 deep] [[.str s,.int .i64 p,.int .i64 n,.nil,.int .i64 0]]) ?_ h0 h1 ?_ rfl rfl;(focus exact fun τ h=>h);(focus (intro kids;exact ag.aU kV kV fU fU fun K hK=>hK.2.2 (.mk _ _ _ _ _ _ _ _ _ _ _ _))))
  ·
   repeat' (first
   |(with_reducible refine WP.cut (x:=.seq (.region 16 _ _) _) (fun τ=>J1 kd cl s p n deep q τ∨J2 kd cl s p n deep q τ) ?_ ?_)
   |((with_reducible refine (?_:WP _ _ _ (.region 20 _ _) _ _));(refine ad4 B rfl rfl rfl rfl rfl rfl rfl rfl rfl rfl rfl rfl rfl rfl rfl rfl rfl rfl rfl rfl rfl rfl rfl rfl rfl rfl rfl rfl rfl rfl dE dE ?_ (bT kids) (ai kids) ?_ ?_ ?_ ?_ ?_);(focus (have:=wz kids;omega));(focus exact (of_decide_eq_true rfl));(focus (show 4 ∉ bW (xB kd p .nil);simp [xB,bW,iY]));(focus exact (by repeat' (first|trivial|refine And.intro ?_ ?_|exact .inl rfl|exact .inr (.inl rfl)|exact .inr (.inr (of_decide_eq_true rfl)))));(focus exact (by repeat' (first|exact List.forall_mem_nil _|(refine List.forall_mem_cons.2 ⟨of_decide_eq_true rfl,?_⟩))));conv=>whnf)
   |((with_reducible refine (?_:WP _ _ _ (.region 28 _ _) _ _));(refine ad2 B rfl rfl rfl rfl rfl rfl rfl rfl rfl rfl rfl rfl rfl rfl rfl rfl rfl rfl rfl rfl rfl rfl rfl rfl rfl rfl rfl rfl rfl rfl rfl rfl rfl rfl rfl rfl rfl dE dE ?_ (bT kids) (ai kids) ?_ ?_ ?_ ?_ ?_);(focus (have:=wz kids;omega));(focus exact (of_decide_eq_true rfl));(focus (show 4 ∉ bW (xB kd p .nil);simp [xB,bW,iY]));(focus exact (by repeat' (first|trivial|refine And.intro ?_ ?_|exact .inl rfl|exact .inr (.inl rfl)|exact .inr (.inr (of_decide_eq_true rfl)))));(focus exact (by repeat' (first|exact List.forall_mem_nil _|(refine List.forall_mem_cons.2 ⟨of_decide_eq_true rfl,?_⟩))));conv=>whnf)
   |with_reducible refine WP.seq ?_
   |(with_reducible first|refine Go.mk ?_|refine WP.oC B (aH 141) ?_|refine WP.draw B (aH 141) ?_|refine WP.cond ?_|refine WP.exit ?_|refine WP.skip ?_|refine WP.ret ?_);conv=>whnf
   |with_reducible refine WP.block ?_
   |with_reducible assumption
   |((with_reducible refine (?_:(_:Int)<=9223372036854775807));have:=wz kids;omega)
   |((with_reducible refine (?_:sj _ _ _));(refine Gr (nd7 (by rfl)) ?_);conv=>whnf)
   |(with_reducible refine (?_:∃L:List Cm,dC _ _ L∧_));(apply Exists.intro;apply And.intro;focus (repeat' (first|exact dC.mk _|exact dC.nil|apply dC.app)))
   |((with_reducible refine (?_:∃τ',Rx 1 _ τ'∧wP _ _ _ _ _ _));refine Le (kids:=kids) (fun kids=>?_) rfl rfl;conv=>whnf)
   |((with_reducible refine (?_:∃τ',Rx 1 _ τ'∧_));(apply Exists.intro);(apply And.intro);(case' right=>(apply Or.inl;apply J1.mk (kids:=kids)));(case' left=>(apply Rx.pick [0,1,2,3,4]));(case hbx=>(repeat' (first|exact ny.nil|(refine ny.cons (by first|exact Pk.same rfl|exact Pk.ptr rfl|exact Pk.bU rfl) ?_)|(refine ny.drop rfl ?_)|exact gG.nil|(refine gG.same rfl rfl ?_)|(refine gG.same rfl (bR (ai _)) ?_)|(refine gG.same rfl iD ?_)|(refine gG.same rfl lH ?_)|(refine gG.pair rfl rfl rfl rfl ?_)|(refine gG.one rfl rfl rfl rfl ?_))));(case ht=>(repeat' (first|exact ny.nil|(refine ny.cons (by first|exact Pk.same rfl|exact Pk.ptr rfl|exact Pk.bU rfl) ?_)|(refine ny.drop rfl ?_)|exact gG.nil|(refine gG.same rfl rfl ?_)|(refine gG.same rfl (bR (ai _)) ?_)|(refine gG.same rfl iD ?_)|(refine gG.same rfl lH ?_)|(refine gG.pair rfl rfl rfl rfl ?_)|(refine gG.one rfl rfl rfl rfl ?_))));(case hn=>decide);(case hpre=>decide);(case hC=>(first|rfl|(rw [jG,jU,List.append_assoc];rfl)));(case ho=>(first|rfl|(congr 1;(try simp only [lL]);omega)));(case hN=>rfl);(case hI=>exact hI.add aZ aZ aZ);(case hq=>omega);(case hok=>(first|(refine okJ ?_;(first|(simp [dQ,wv,AV.one,AV.flat,bF,cs,aA,ai,fA,pY,jb];done)|(refine bH (bQ (bJ (ai _))) ?_;simp [dQ,wv,AV.one,AV.flat,bF,cs,aA,ai,fA,pY,jb];done)))|(refine O7 ?_ ?_;(focus (first|(simp [dQ,wv,AV.one,AV.flat,bF,cs,aA,ai,fA,pY,jb];done)|(refine bH (bQ (bJ (ai _))) ?_;simp [dQ,wv,AV.one,AV.flat,bF,cs,aA,ai,fA,pY,jb];done)));(focus (first|(simp [dQ,wv,AV.one,AV.flat,bF,cs,aA,ai,fA,pY,jb];done)|(refine bH (bQ (bJ (ai _))) ?_;simp [dQ,wv,AV.one,AV.flat,bF,cs,aA,ai,fA,pY,jb];done)))))))
   |((with_reducible refine (?_:∃τ',Rx 1 _ τ'∧_));(apply Exists.intro);(apply And.intro);(case' right=>(apply Or.inr;apply J2.mk (kids:=kids)));(case' left=>(apply Rx.pick [0,1,2,3,4,5]));(case hbx=>(repeat' (first|exact ny.nil|(refine ny.cons (by first|exact Pk.same rfl|exact Pk.ptr rfl|exact Pk.bU rfl) ?_)|(refine ny.drop rfl ?_)|exact gG.nil|(refine gG.same rfl rfl ?_)|(refine gG.same rfl (bR (ai _)) ?_)|(refine gG.same rfl iD ?_)|(refine gG.same rfl lH ?_)|(refine gG.pair rfl rfl rfl rfl ?_)|(refine gG.one rfl rfl rfl rfl ?_))));(case ht=>(repeat' (first|exact ny.nil|(refine ny.cons (by first|exact Pk.same rfl|exact Pk.ptr rfl|exact Pk.bU rfl) ?_)|(refine ny.drop rfl ?_)|exact gG.nil|(refine gG.same rfl rfl ?_)|(refine gG.same rfl (bR (ai _)) ?_)|(refine gG.same rfl iD ?_)|(refine gG.same rfl lH ?_)|(refine gG.pair rfl rfl rfl rfl ?_)|(refine gG.one rfl rfl rfl rfl ?_))));(case hn=>decide);(case hpre=>decide);(case hC=>(first|rfl|(rw [jG,jU,List.append_assoc];rfl)));(case hD=>rfl);(case hN=>rfl);(case hI=>exact hI.ajm aZ aZ aZ aZ);(case hq=>omega);(case hok=>(first|(refine okJ ?_;(first|(simp [dQ,wv,AV.one,AV.flat,bF,cs,aA,ai,fA,pY,jb];done)|(refine bH (bQ (bJ (ai _))) ?_;simp [dQ,wv,AV.one,AV.flat,bF,cs,aA,ai,fA,pY,jb];done)))|(refine O7 ?_ ?_;(focus (first|(simp [dQ,wv,AV.one,AV.flat,bF,cs,aA,ai,fA,pY,jb];done)|(refine bH (bQ (bJ (ai _))) ?_;simp [dQ,wv,AV.one,AV.flat,bF,cs,aA,ai,fA,pY,jb];done)));(focus (first|(simp [dQ,wv,AV.one,AV.flat,bF,cs,aA,ai,fA,pY,jb];done)|(refine bH (bQ (bJ (ai _))) ?_;simp [dQ,wv,AV.one,AV.flat,bF,cs,aA,ai,fA,pY,jb];done)))))))
   |((with_reducible refine (?_:∃τ',Rx 1 _ τ'∧_));(apply Exists.intro);(apply And.intro);(case' right=>(apply Or.inl;apply J1.mk (kids:=kids++[_])));(case' left=>(apply Rx.pick [0,1,2,3,4]));(case hbx=>(repeat' (first|exact ny.nil|(refine ny.cons (by first|exact Pk.same rfl|exact Pk.ptr rfl|exact Pk.bU rfl) ?_)|(refine ny.drop rfl ?_)|exact gG.nil|(refine gG.same rfl rfl ?_)|(refine gG.same rfl (bR (ai _)) ?_)|(refine gG.same rfl iD ?_)|(refine gG.same rfl lH ?_)|(refine gG.pair rfl rfl rfl rfl ?_)|(refine gG.one rfl rfl rfl rfl ?_))));(case ht=>(repeat' (first|exact ny.nil|(refine ny.cons (by first|exact Pk.same rfl|exact Pk.ptr rfl|exact Pk.bU rfl) ?_)|(refine ny.drop rfl ?_)|exact gG.nil|(refine gG.same rfl rfl ?_)|(refine gG.same rfl (bR (ai _)) ?_)|(refine gG.same rfl iD ?_)|(refine gG.same rfl lH ?_)|(refine gG.pair rfl rfl rfl rfl ?_)|(refine gG.one rfl rfl rfl rfl ?_))));(case hn=>decide);(case hpre=>decide);(case hC=>(first|rfl|(rw [jG,jU,List.append_assoc];rfl)));(case ho=>(first|rfl|(congr 1;(try simp only [lL]);omega)));(case hN=>simp);(case hI=>exact hI.XY aZ aZ aZ oM);(case hq=>omega);(case hok=>(first|(refine okJ ?_;(first|(simp [dQ,wv,AV.one,AV.flat,bF,cs,aA,ai,fA,pY,jb];done)|(refine bH (bQ (bJ (ai _))) ?_;simp [dQ,wv,AV.one,AV.flat,bF,cs,aA,ai,fA,pY,jb];done)))|(refine O7 ?_ ?_;(focus (first|(simp [dQ,wv,AV.one,AV.flat,bF,cs,aA,ai,fA,pY,jb];done)|(refine bH (bQ (bJ (ai _))) ?_;simp [dQ,wv,AV.one,AV.flat,bF,cs,aA,ai,fA,pY,jb];done)));(focus (first|(simp [dQ,wv,AV.one,AV.flat,bF,cs,aA,ai,fA,pY,jb];done)|(refine bH (bQ (bJ (ai _))) ?_;simp [dQ,wv,AV.one,AV.flat,bF,cs,aA,ai,fA,pY,jb];done)))))))
   |((with_reducible refine (?_:∃τ',Rx 1 _ τ'∧wP _ _ _ _ _ _));refine VQ (kids:=kids) (L:=L) ?_ rfl rfl;conv=>whnf)
   |((with_reducible refine (?_:wY _ _));exact ⟨rfl,rfl⟩)
   |(with_reducible refine (?_:ag _ _ _ _ _));first|exact ag.aU kV kV fU fU fun K hK=>hK.2.2 (.mk _ _ _ _ _ _ _ _ _ _ _ _)|exact ag.aU kV kV fU fU fun K hK=>hK.2.1 (.mk kd 7 p 0 ByteArray.empty ByteArray.empty ByteArray.empty kids [] L false ByteArray.empty) _ (wfX hk g4 g5) rfl ⟨oM,oM,oW⟩
   |with_reducible refine And.intro ?_ ?_
   |exact cL
   |(with_reducible intro h);first|(cases h;done)|(try simp only [lG,reduceCtorEq] at h);first|done|(exfalso;omega)|replace h:=h trivial aZ|replace h:=h aZ|skip
   |fail)
   all_goals try ((with_reducible refine (?_:aR _));refine JI B (G:=ag (MB (m+1)) [.ptr 0 0,.int .i64 deep] [[.str s,.int .i64 p,.int .i64 n,.nil,.int .i64 0]]) ?_ h0 h1 ?_ rfl rfl;(focus exact fun τ h=>h);(focus (intro kids;exact ag.aU kV kV fU fU fun K hK=>hK.2.2 (.mk _ _ _ _ _ _ _ _ _ _ _ _))))
 ·exact h.elim
end V
end
namespace V
open Ab
open Bk (Cm)
def kg (h:Bool) (tr:ByteArray):List Cm:=
 match h with
 |true=>[⟨tr,0⟩]
 |false=>[]
def Nd.ld:Nd->List Cm->Nd
 |.mk k y p b an tg tx kids _ ae h tr,l=> .mk k y p b an tg tx kids l ae h tr
def Nd.bare:Nd->Nd
 |.mk k y p b an tg tx kids _ ae _ _=> .mk k y p b an tg tx kids [] ae false ByteArray.empty
mutual
def aj:Nd->Nd×List Cm
 |.mk k y p b an tg tx kids lead ae h tr=>(.mk k y p b an tg tx (aP kids).1 lead [] false ByteArray.empty,(aP kids).2++ae++kg h tr)
def aP:List Nd->List Nd×List Cm
 |[]=>([],[])
 |x::l=>((aj x).1.ld []::(aP l).1,x.lead++(aj x).2++(aP l).2)
end
def oU (x:Nd):Bool:=decide (x.k=1∧x.y=1∧x.tx=ByteArray.empty)
def gY (x:Nd) (c:List Cm):Nd×List Cm:=
 match oU x,x.lead with
 |true,m::l=>(x.bare,(m::l)++kg x.h x.tr)
 |_,_=>(x,c)
def bC (b:Bool) (l:List Nd):List Nd×List Cm:=
 match b,l with
 |true,x::r=>(x.ld []::r,x.lead)
 |_,l=>(l,[])
def mK (blk:Bool) (k y p b:Int) (an tg tx:ByteArray) (kids:List Nd) (lead ae:List Cm) (h:Bool) (tr:ByteArray) (c:List Cm):Nd×List Cm:=
 if blk=true∧y=7 then (.mk k 6 p b an tg tx kids lead [] false ByteArray.empty,c++ae++kg h tr)
 else if y=7 then (.mk k y p b an tg tx kids lead (c++ae) h tr,[])
 else (.mk k y p b an tg tx kids lead ae h tr,c)
mutual
def aL (blk:Bool):List Cm->List Cm->Nd->Nd×List Cm
 |pre,c,.mk k y p b an tg tx kids lead ae h tr=>
  if k=3∨k=4 then
   match kids with
   |[]=>(.mk k y p b an tg tx [] (pre++lead++ae) [] h tr,c)
   |x::l=>
    let r:=if k=3 then bP blk c (x::l) else bO blk c (x::l);let q:=bC (decide (y=6)||(blk && decide (y=7))) r.1
    mK blk k y p b an tg tx q.1 (pre++lead++q.2) ae h tr r.2
  else (.mk k y p b an tg tx kids (pre++lead) ae h tr,c)
def bP (blk:Bool):List Cm->List Nd->List Nd×List Cm
 |c,[]=>([],c)
 |c,x::l=>((aL blk c [] x).1::(bP blk (aL blk c [] x).2 l).1,(bP blk (aL blk c [] x).2 l).2)
def bO (blk:Bool):List Cm->List Nd->List Nd×List Cm
 |c,[]=>([],c)
 |c,[x]=>([x],c)
 |c,x::v::l=>
  let q:=aL blk (aj x).2 [] v;let o:=gY q.1 q.2
  ((aj x).1.ld (c++x.lead)::o.1::(bO blk o.2 l).1,(bO blk o.2 l).2)
end
mutual
def iI:Nd->Nat
 |.mk _ _ _ _ _ _ _ kids lead ae h tr=>lead.length+cK kids+ae.length+(kg h tr).length
def cK:List Nd->Nat
 |[]=>0
 |x::l=>iI x+cK l
end
mutual
def fD:Nd->Nat
 |.mk _ _ _ _ _ _ _ kids _ _ _ _=>1+bS kids
def bS:List Nd->Nat
 |[]=>0
 |x::l=>fD x+bS l
end
mutual
def yX:Nd->Bool
 |.mk k y _ _ _ _ _ kids _ _ _ _=>((!decide (k=4)||decide (kids.length % 2=0)) && (!(decide (k=3)||decide (k=4))||(decide (y=6)||decide (y=7)))) && uK kids
def uK:List Nd->Bool
 |[]=>true
 |x::l=>yX x && uK l
end
mutual
def Bh:Nd->Bool
 |.mk _ _ _ _ _ _ _ kids _ _ h tr=>(h||decide (tr=ByteArray.empty)) && zD kids
def zD:List Nd->Bool
 |[]=>true
 |x::l=>Bh x && zD l
end
theorem Mq (x:Nd) (l:List Cm):iI (x.ld l)+x.lead.length=iI x+l.length:=by cases x;simp only [Nd.ld,iI,Nd.lead];omega
mutual
theorem qa:∀x:Nd,iI (aj x).1+(aj x).2.length=iI x∧(aj x).1.lead=x.lead
 |.mk k y p b an tg tx kids lead ae h tr=>by have:=kE kids;rw [aj];simp only [lL,iI,Nd.lead,kg];exact ⟨oM,trivial⟩
theorem kE:∀l:List Nd,cK (aP l).1+(aP l).2.length=cK l
 |[]=>rfl
 |x::l=>by have h1:=qa x;have h2:=kE l;have h3:=Mq (aj x).1 [];rw [aP];simp only [cK,List.length_append];rw [h1.2] at h3;simp only [List.length_nil] at h3;omega
end
theorem y9 (x:Nd):iI x.bare+x.lead.length+(kg x.h x.tr).length=iI x:=by cases x;simp only [Nd.bare,iI,Nd.lead,Nd.h,Nd.tr,kg,List.length_nil];omega
theorem Xu (x:Nd) (c:List Cm):iI (gY x c).1+(gY x c).2.length<=iI x+c.length:=by
 unfold gY;split
 ·rename_i m l h1 h2;have:=y9 x;rw [h2] at this;simp only [List.length_append];omega
 ·exact Nat.le_refl _
theorem Uf (b:Bool) (l:List Nd):cK (bC b l).1+(bC b l).2.length=cK l:=by
 unfold bC;split
 ·rename_i x r;have:=Mq x [];simp only [cK,List.length_nil] at*;omega
 ·rfl
theorem Xv {blk:Bool} {k y p b:Int} {an tg tx:ByteArray} {kids:List Nd} {lead ae:List Cm} {h:Bool} {tr:ByteArray} {c:List Cm}:iI (mK blk k y p b an tg tx kids lead ae h tr c).1+(mK blk k y p b an tg tx kids lead ae h tr c).2.length=lead.length+cK kids+ae.length+(kg h tr).length+c.length:=by
 unfold mK;split
 ·simp only [lL,iI,kg];omega
 ·split
  ·simp only [lL,iI];omega
  ·simp only [iI]
mutual
theorem mO (blk:Bool):∀(pre c:List Cm) (x:Nd),iI (aL blk pre c x).1+(aL blk pre c x).2.length<=pre.length+c.length+iI x
 |pre,c,.mk k y p b an tg tx [] lead ae h tr=>by
  rw [aL];split
  ·simp only [lL,iI,cK];omega
  ·simp only [iI,List.length_append];omega
 |pre,c,.mk k y p b an tg tx (x::l) lead ae h tr=>by
  rw [aL];split
  ·simp only [];rw [Xv];have h1:=Uf (decide (y=6)||(blk && decide (y=7))) (if k=3 then bP blk c (x::l) else bO blk c (x::l)).1;have h2:=um blk c (x::l);have h3:=uo blk c (x::l);simp only [List.length_append,iI];split at h1<;>rename_i hk<;>simp only [hk,if_true,if_false]<;>omega
  ·simp only [iI,List.length_append];omega
theorem um (blk:Bool):∀(c:List Cm) (l:List Nd),cK (bP blk c l).1+(bP blk c l).2.length<=c.length+cK l
 |c,[]=>by rw [bP];simp only [cK];omega
 |c,x::l=>by have h1:=mO blk c [] x;have h2:=um blk (aL blk c [] x).2 l;rw [bP];simp only [cK,List.length_nil] at*;omega
theorem uo (blk:Bool):∀(c:List Cm) (l:List Nd),cK (bO blk c l).1+(bO blk c l).2.length<=c.length+cK l
 |c,[]=>by rw [bO];simp only [cK];omega
 |c,[x]=>by rw [bO];simp only [cK];omega
 |c,x::v::l=>by have h0:=qa x;have h1:=mO blk (aj x).2 [] v;have h2:=Xu (aL blk (aj x).2 [] v).1 (aL blk (aj x).2 [] v).2;have h3:=uo blk (gY (aL blk (aj x).2 [] v).1 (aL blk (aj x).2 [] v).2).2 l;have h4:=Mq (aj x).1 (c++x.lead);rw [bO];rw [h0.2] at h4;simp only [lL,cK] at*;omega
end
end V
section
set_option maxRecDepth 100000
namespace V
open Ab
open Bk (Cm)
theorem M7 {h:Bool} {tr:ByteArray}:jR (fQ (kg h tr))=true:=aA _
theorem aX {A l:List AV} {a j:Nat} {K:AV->Prop} (ha:A.length=a) (h:sj l j K):sj (A++l) (a+j) K:=by
 subst ha
 induction A with
 |nil=>rw [List.length_nil,Nat.zero_add];exact h
 |cons x A ih=>rw [List.cons_append,List.length_cons,show A.length+1+j=A.length+j+1 by omega,sj];exact ih
theorem aQ {A l:List AV} {a:Nat} {K:AV->Prop} (ha:A.length=a) (h:sj l 0 K):sj (A++l) a K:=aX (j:=0) ha h
theorem aD {A l vs:List AV} {a o:Nat} {K:List AV->Prop} (ha:A.length=a) (h:fO l o vs fun l=>K (A++l)):fO (A++l) (a+o) vs K:=by subst ha;exact xu h
theorem ay {A l vs:List AV} {a:Nat} {K:List AV->Prop} (ha:A.length=a) (h:fO l 0 vs fun l=>K (A++l)):fO (A++l) a vs K:=aD (o:=0) ha h
theorem az {l:List AV} {K:List AV->Prop} (h:K l):fO l 0 [] K:=by cases l<;>exact h
theorem xn:∀a b:List Nd,(aP (a++b)).1=(aP a).1++(aP b).1∧(aP (a++b)).2=(aP a).2++(aP b).2
 |[],b=>⟨rfl,rfl⟩
 |x::a,b=>by have h:=xn a b;rw [List.cons_append,aP,aP,h.1,h.2];exact ⟨rfl,by simp only [List.append_assoc]⟩
theorem jF:∀a:List Nd,(aP a).1.length=a.length
 |[]=>rfl
 |x::a=>by rw [aP,List.length_cons,List.length_cons,jF a]
theorem HZ {l:List AV} {x:Nd} {Q:Nd->Prop} (hl:l=bF x) (h:∃y,l=bF y∧Q y):Q x:=by obtain ⟨y,h1,h2⟩:=h;rw [hl] at h1;rw [tX h1];exact h2
theorem jq:∀l:List Nd,l.length<=bS l
 |[]=>Nat.le_refl _
 |x::l=>by have:=jq l;cases x;rw [bS,fD,List.length_cons];omega
theorem WP.once {P:Program} {n0 base:Nat} {σ:aJ} {Q:wL->aJ->Prop} {x:Code} (h:WP P n0 base x σ (NH base (fun _ _=>False) 0 Q)):WP P n0 base (.loop x) σ Q:=by
 refine WP.loop (fun k τ=>k=0∧τ=σ) (k:=0) ⟨rfl,rfl⟩ ?_;rintro k τ ⟨rfl,rfl⟩;refine WP.mono h fun e ρ hq=>?_;cases e with
 |normal=>obtain ⟨j,τ',hj,-⟩:=hq;exact absurd hj (Nat.not_lt_zero _)
 |exit i=>exact hq
 |ret=>exact hq
theorem zO {x:Nd} {l:List Nd}:au (x::l)=bF x++au l:=by rw [au,mq]
theorem iV:∀a b:List Nd,cK (a++b)=cK a+cK b
 |[],b=>by rw [List.nil_append,cK];omega
 |x::a,b=>by rw [List.cons_append,cK,cK,iV a b];omega
theorem gB:∀a b:List Nd,bS (a++b)=bS a+bS b
 |[],b=>by rw [List.nil_append,bS];omega
 |x::a,b=>by rw [List.cons_append,bS,bS,gB a b];omega
structure Ce where
 k:Int
 y:Int
 p:Int
 b:Int
 an:ByteArray
 tg:ByteArray
 tx:ByteArray
 kc:AV
 lc:AV
 fc:AV
 h:Bool
 tr:ByteArray
def Ce.l (x:Ce):List AV:=[.int .i64 x.k,.int .i64 x.y,.int .i64 x.p,.int .i64 x.b,.str x.an,.str x.tg,.str x.tx,x.kc,x.lc,x.fc,.bool x.h,.str x.tr]
theorem Ce.inj {x x':Ce} (h:x.l=x'.l):x=x':=by obtain ⟨k,y,p,b,an,tg,tx,kc,lc,fc,h,tr⟩:=x;obtain ⟨k',y',p',b',PX,OV,OQ,SQ,lc',fc',h',EF⟩:=x';simp only [Ce.l,List.cons.injEq,AV.int.injEq,AV.str.injEq,AV.bool.injEq] at h;obtain ⟨⟨-,rfl⟩,⟨-,rfl⟩,⟨-,rfl⟩,⟨-,rfl⟩,rfl,rfl,rfl,rfl,rfl,rfl,rfl,rfl,-⟩:=h;rfl
def wZ (bx:List (List AV)) (b o:Nat) (pre:List AV) (x:Ce) (post:List AV):Prop:=bx[b]?=some (pre++(x.l++post))∧pre.length=o
theorem wZ.inj {bx:List (List AV)} {b o:Nat} {pre post pre' post':List AV} {x x':Ce} (h:wZ bx b o pre x post) (h':wZ bx b o pre' x' post'):pre=pre'∧x=x'∧post=post':=by have h1:=h.1;rw [h'.1] at h1;obtain ⟨e1,e2⟩:=List.append_inj (Option.some.inj h1) (by rw [h.2,h'.2]);obtain ⟨e3,e4⟩:=List.append_inj e2 rfl;exact ⟨e1.symm,(Ce.inj e3).symm,e4.symm⟩
def aiY:aC:=fun args bx K=>match args with
 |[.ptr b o]=>∃(pre:List AV) (x:Ce) (post:List AV),(aV bx=true∧wZ bx b o pre x post)∧K (.bool (decide (x.k=1∧x.y=1∧x.tx=ByteArray.empty))) bx
 |_=>False
def ahY:=fN 118 Tryz.f118 22 [.tmp 2]
theorem af0:aC.OK Tryz.prog 118 aiY:=by
 intro args bx K0 h;unfold aiY at h;split at h
 ·rename_i b o;obtain ⟨pre,x,post,⟨hw,hx⟩,-⟩:=h;obtain ⟨k,y,p,bb,an,tg,tx,kc,lc,fc,hh,tr⟩:=x;have hb:bx[b]?=some (pre++(.int .i64 k::.int .i64 y::.int .i64 p::.int .i64 bb::.str an::.str tg::.str tx::kc::lc::fc::.bool hh::.str tr::post)):=hx.1;have ho:=hx.2;refine ahY.U8 rfl hw ?_;have B:=V.base af.nil
  conv=>whnf
  repeat' (first
  |((with_reducible refine (?_:∃c:List AV,_∧_));refine ⟨_,hb,?_⟩;conv=>whnf)
  |((with_reducible refine (?_:sj (pre++_) _ _));(first|refine aX ho ?_|refine aQ ho ?_);conv=>whnf)
  |with_reducible refine WP.seq ?_
  |(with_reducible first|refine Go.mk ?_|refine WP.aaA B (aH 118) [] ?_|refine gQ.same ?_|refine WP.draw B (aH 118) ?_|refine WP.cond ?_|refine WP.exit ?_|refine WP.skip ?_|refine WP.ret ?_);conv=>whnf
  |(with_reducible refine (?_:wv _=true->aV _=true->_));intro hwr hwb
  |(with_reducible refine (?_:aV _=true->_));intro hw;conv=>whnf
  |with_reducible refine WP.block ?_
  |with_reducible assumption
  |with_reducible refine And.intro ?_ ?_
  |exact cL
  |(with_reducible intro h);first|(cases h;done)|(try simp only [lG,reduceCtorEq] at h);first|done|(exfalso;omega)|replace h:=h trivial aZ|replace h:=h aZ|skip
  |fail)
  all_goals (refine ag.mk hwr hwb fun K hK=>?_;obtain ⟨pre',x',post',⟨-,hx'⟩,hK⟩:=hK;obtain ⟨rfl,rfl,rfl⟩:=hx.inj hx';refine Eq.mp (congrArg (fun b=>K (.bool b) bx) ?_) hK)
  ·show decide (k=1∧y=1∧tx=ByteArray.empty)=decide (tx=ByteArray.empty);simp only [*,true_and]
  ·show decide (k=1∧y=1∧tx=ByteArray.empty)=false;simp only [*,false_and,and_false,decide_false]
  ·show decide (k=1∧y=1∧tx=ByteArray.empty)=false;simp only [*,false_and,and_false,decide_false]
 ·exact h.elim
def Ce.off (x:Ce):Ce:=match x.h with
 |true=>{x with h:=false,tr:=ByteArray.empty}
 |false=>x
def c72:aC:=fun args bx K=>match args with
 |[.ptr b o]=>∃(pre:List AV) (x:Ce) (post:List AV),(aV bx=true∧wZ bx b o pre x post)∧∀bx':List (List AV),bx'.length=bx.length->wZ bx' b o pre x.off post->(∀j,j≠b->bx'[j]?=bx[j]?)->K (cs (kg x.h x.tr)) bx'
 |_=>False
def alI:=fN 72 Tryz.f72 22 [.tmp 2]
theorem aaL:aC.OK Tryz.prog 72 c72:=by
 intro args bx K0 h;unfold c72 at h;split at h
 ·rename_i b o;obtain ⟨pre,x,post,⟨hw,hx⟩,-⟩:=h;obtain ⟨k,y,p,bb,an,tg,tx,kc,lc,fc,hh,tr⟩:=x;have hb:bx[b]?=some (pre++(.int .i64 k::.int .i64 y::.int .i64 p::.int .i64 bb::.str an::.str tg::.str tx::kc::lc::fc::.bool hh::.str tr::post)):=hx.1;have ho:=hx.2;refine alI.U8 rfl hw ?_;have B:=V.base af.nil
  conv=>whnf
  repeat' (first
  |((with_reducible refine (?_:∃c:List AV,_∧_));refine ⟨_,aZ,?_⟩;conv=>whnf)
  |((with_reducible refine (?_:sj (pre++_) _ _));(first|refine aX ho ?_|refine aQ ho ?_);conv=>whnf)
  |((with_reducible refine (?_:fO (pre++_) _ _ _));(first|refine aD ho ?_|refine ay ho ?_);conv=>whnf)
  |((with_reducible refine (?_:fO post _ [] _));refine az ?_;conv=>whnf)
  |with_reducible refine WP.seq ?_
  |(with_reducible first|refine Go.mk ?_|refine WP.aaA B (aH 72) [] ?_|refine gQ.same ?_|refine WP.draw B (aH 72) ?_|refine WP.cond ?_|refine WP.exit ?_|refine WP.skip ?_|refine WP.ret ?_);conv=>whnf
  |(with_reducible refine (?_:wv _=true->aV _=true->_));intro hwr hwb
  |(with_reducible refine (?_:aV _=true->_));intro hw;conv=>whnf
  |with_reducible refine WP.block ?_
  |with_reducible assumption
  |((with_reducible refine gQ.mk ?_);intro b1 hl1 hb1 hr1;conv=>whnf)
  |((with_reducible refine (?_:AV.wN _=true));rfl)
  |with_reducible refine And.intro ?_ ?_
  |exact cL
  |(with_reducible intro h);first|(cases h;done)|(try simp only [lG,reduceCtorEq] at h);first|done|(exfalso;omega)|replace h:=h trivial aZ|replace h:=h aZ|skip
  |fail)
  ·subst h;refine ag.aU (r2:=cs []) Wk.sK (.refl _) rfl hwb fun K hK=>?_;obtain ⟨pre',x',post',⟨-,hx'⟩,hK⟩:=hK;obtain ⟨rfl,rfl,rfl⟩:=hx.inj hx';exact hK bx rfl hx (fun _ _=>rfl)
  ·subst h;rename_i b0 hl0 hb0 hr0;refine ag.mk hwr hwb fun K hK=>?_;obtain ⟨pre',x',post',⟨-,hx'⟩,hK⟩:=hK;obtain ⟨rfl,rfl,rfl⟩:=hx.inj hx';exact hK b1 (hl1.trans hl0) ⟨hb1,ho⟩ (fun j hj=>(hr1 j hj).trans (hr0 j hj))
 ·exact h.elim
end V
end
namespace V
open Ab
open Bk (Cm)
def cr (l:List Cm):AV:=.row 56 2 l.length (fQ l)
theorem Ad (a b:List Cm):AV.row 56 2 (a.length+b.length) (fQ a++fQ b)=cr (a++b):=by unfold cr;rw [List.length_append,vE]
theorem Wk.cr (l:List Cm):Wk (cr l) (cs l):=Wk.row
def Nd.ce:Nd->AV->Ce
 |.mk k y p b an tg tx _ lead ae h tr,kc=>⟨k,y,p,b,an,tg,tx,kc,cs lead,cs ae,h,tr⟩
mutual
def mZ (bx:List (List AV)):Nd->List AV->List Nat->Prop
 |.mk k y p b an tg tx kids lead ae h tr,c,I=>∃kc,c=(Ce.mk k y p b an tg tx kc (cs lead) (cs ae) h tr).l∧((kids.length=0∧kc=.sl 0 []∧I=[])∨(0<kids.length∧∃q cc J,kc=.bU q 35 12 kids.length∧I=q::J∧bx[q]?=some cc∧eF bx kids cc J))
def eF (bx:List (List AV)):List Nd->List AV->List Nat->Prop
 |[],c,J=>c=[]∧J=[]
 |x::l,c,J=>∃c1 c2 J1 J2,c=c1++c2∧J=J1++J2∧mZ bx x c1 J1∧eF bx l c2 J2
end
def eQ (bx:List (List AV)) (kids:List Nd) (kc:AV) (I:List Nat):Prop:=(kids.length=0∧kc=.sl 0 []∧I=[])∨(0<kids.length∧∃q cc J,kc=.bU q 35 12 kids.length∧I=q::J∧bx[q]?=some cc∧eF bx kids cc J)
theorem gF {bx:List (List AV)} {x:Nd} {c:List AV} {I:List Nat}:mZ bx x c I↔∃kc,c=(x.ce kc).l∧eQ bx x.kids kc I:=by cases x;rw [mZ];rfl
theorem fJ {bx:List (List AV)} {c:List AV} {J:List Nat}:eF bx [] c J↔c=[]∧J=[]:=by rw [eF]
theorem dm {bx:List (List AV)} {x:Nd} {l:List Nd} {c:List AV} {J:List Nat}:eF bx (x::l) c J↔∃c1 c2 J1 J2,c=c1++c2∧J=J1++J2∧mZ bx x c1 J1∧eF bx l c2 J2:=by rw [eF]
theorem Un (x:Ce):x.l.length=12:=rfl
theorem mZ.len {bx:List (List AV)} {x:Nd} {c:List AV} {I:List Nat} (h:mZ bx x c I):c.length=12:=by obtain ⟨kc,rfl,-⟩:=gF.1 h;rfl
theorem eF.len {bx:List (List AV)}:∀{l:List Nd} {c:List AV} {J:List Nat},eF bx l c J->c.length=l.length*12
 |[],c,J,h=>by obtain ⟨rfl,-⟩:=fJ.1 h;rfl
 |x::l,c,J,h=>by obtain ⟨c1,c2,J1,J2,rfl,-,h1,h2⟩:=dm.1 h;rw [List.length_append,h1.len,h2.len,List.length_cons];omega
mutual
theorem mZ.fr {bx bx':List (List AV)}:∀{x:Nd} {c:List AV} {I:List Nat},mZ bx x c I->(∀i ∈ I,bx'[i]?=bx[i]?)->mZ bx' x c I
 |.mk k y p b an tg tx kids lead ae h tr,c,I,hh,hI=>by rw [mZ] at hh⊢;obtain ⟨kc,h1,h2⟩:=hh;refine ⟨kc,h1,h2.imp id ?_⟩;rintro ⟨h3,q,cc,J,h4,rfl,h5,h6⟩;exact ⟨h3,q,cc,J,h4,rfl,(hI q List.mem_cons_self).trans h5,eF.fr h6 fun i hi=>hI i (List.mem_cons_of_mem _ hi)⟩
theorem eF.fr {bx bx':List (List AV)}:∀{l:List Nd} {c:List AV} {J:List Nat},eF bx l c J->(∀i ∈ J,bx'[i]?=bx[i]?)->eF bx' l c J
 |[],c,J,h,_=>fJ.2 (fJ.1 h)
 |x::l,c,J,h,hI=>by obtain ⟨c1,c2,J1,J2,rfl,rfl,h1,h2⟩:=dm.1 h;exact dm.2 ⟨c1,c2,J1,J2,rfl,rfl,mZ.fr h1 fun i hi=>hI i (List.mem_append_left _ hi),eF.fr h2 fun i hi=>hI i (List.mem_append_right _ hi)⟩
end
theorem eQ.fr {bx bx':List (List AV)} {kids:List Nd} {kc:AV} {I:List Nat} (h:eQ bx kids kc I) (hI:∀i ∈ I,bx'[i]?=bx[i]?):eQ bx' kids kc I:=by refine h.imp id ?_;rintro ⟨h3,q,cc,J,h4,rfl,h5,h6⟩;exact ⟨h3,q,cc,J,h4,rfl,(hI q List.mem_cons_self).trans h5,eF.fr h6 fun i hi=>hI i (List.mem_cons_of_mem _ hi)⟩
mutual
theorem mZ.lt {bx:List (List AV)}:∀{x:Nd} {c:List AV} {I:List Nat},mZ bx x c I->∀i ∈ I,i<bx.length
 |.mk k y p b an tg tx kids lead ae h tr,c,I,hh=>by
  rw [mZ] at hh;obtain ⟨kc,h1,h2⟩:=hh;rcases h2 with ⟨-,-,rfl⟩|⟨h3,q,cc,J,h4,rfl,h5,h6⟩
  ·intro i hi;cases hi
  ·intro i hi;rcases List.mem_cons.1 hi with rfl|hi
   ·exact (List.getElem?_eq_some_iff.1 h5).1
   ·exact eF.lt h6 i hi
theorem eF.lt {bx:List (List AV)}:∀{l:List Nd} {c:List AV} {J:List Nat},eF bx l c J->∀i ∈ J,i<bx.length
 |[],c,J,h=>by obtain ⟨-,rfl⟩:=fJ.1 h;intro i hi;cases hi
 |x::l,c,J,h=>by
  obtain ⟨c1,c2,J1,J2,rfl,rfl,h1,h2⟩:=dm.1 h;intro i hi;rcases List.mem_append.1 hi with hi|hi
  ·exact mZ.lt h1 i hi
  ·exact eF.lt h2 i hi
end
theorem eQ.lt {bx:List (List AV)} {kids:List Nd} {kc:AV} {I:List Nat} (h:eQ bx kids kc I):∀i ∈ I,i<bx.length:=by
 rcases h with ⟨-,-,rfl⟩|⟨h3,q,cc,J,h4,rfl,h5,h6⟩
 ·intro i hi;cases hi
 ·intro i hi;rcases List.mem_cons.1 hi with rfl|hi
  ·exact (List.getElem?_eq_some_iff.1 h5).1
  ·exact eF.lt h6 i hi
theorem sS {bx:List (List AV)}:∀{a r:List Nd} {c:List AV} {J:List Nat},eF bx (a++r) c J↔∃c1 c2 J1 J2,c=c1++c2∧J=J1++J2∧eF bx a c1 J1∧eF bx r c2 J2
 |[],r,c,J=>by
  constructor
  ·intro h;exact ⟨[],c,[],J,rfl,rfl,fJ.2 ⟨rfl,rfl⟩,h⟩
  ·rintro ⟨c1,c2,J1,J2,rfl,rfl,h1,h2⟩;obtain ⟨rfl,rfl⟩:=fJ.1 h1;exact h2
 |x::a,r,c,J=>by
  rw [List.cons_append];constructor
  ·intro h;obtain ⟨c1,c2,J1,J2,rfl,rfl,h1,h2⟩:=dm.1 h;obtain ⟨d1,d2,K1,K2,rfl,rfl,g1,g2⟩:=sS.1 h2;exact ⟨c1++d1,d2,J1++K1,K2,(List.append_assoc ..).symm,(List.append_assoc ..).symm,dm.2 ⟨c1,d1,J1,K1,rfl,rfl,h1,g1⟩,g2⟩
  ·rintro ⟨c1,c2,J1,J2,rfl,rfl,h1,h2⟩;obtain ⟨d1,d2,K1,K2,rfl,rfl,g1,g2⟩:=dm.1 h1;exact dm.2 ⟨d1,d2++c2,K1,K2++J2,List.append_assoc ..,List.append_assoc ..,g1,sS.2 ⟨d2,c2,K2,J2,rfl,rfl,g2,h2⟩⟩
theorem eF.one {bx:List (List AV)} {x:Nd} {c:List AV} {J:List Nat} (h:mZ bx x c J):eF bx [x] c J:=dm.2 ⟨c,[],J,[],(List.append_nil _).symm,(List.append_nil _).symm,h,fJ.2 ⟨rfl,rfl⟩⟩
theorem oK {l m:List Cm} (h:cs l=cs m):l=m:=by unfold cs at h;rw [AV.sl.injEq] at h;exact uq h.2
theorem Ua {l m:List Cm} (h:cr l=cr m):l=m:=by unfold cr at h;rw [AV.row.injEq] at h;exact uq h.2.2.2
mutual
theorem mZ.inj {bx:List (List AV)}:∀{x x':Nd} {c:List AV} {I I':List Nat},mZ bx x c I->mZ bx x' c I'->x=x'∧I=I'
 |.mk k y p b an tg tx kids lead ae h tr,.mk k' y' p' b' PX OV OQ jC mD qA h' EF,c,I,I',hh,hh'=>by
  rw [mZ] at hh hh';obtain ⟨kc,h1,h2⟩:=hh;obtain ⟨SQ,h1',h2'⟩:=hh';have e:=Ce.inj (h1.symm.trans h1');simp only [Ce.mk.injEq] at e;obtain ⟨rfl,rfl,rfl,rfl,rfl,rfl,rfl,rfl,e1,e2,rfl,rfl⟩:=e;obtain rfl:=oK e1;obtain rfl:=oK e2;have key:kids=jC∧I=I':=by
   rcases h2 with ⟨g1,g2,rfl⟩|⟨g1,q,cc,J,g2,rfl,g3,g4⟩
   ·rcases h2' with ⟨f1,f2,rfl⟩|⟨f1,q',cc',J',f2,rfl,f3,f4⟩
    ·exact ⟨by rw [List.eq_nil_of_length_eq_zero g1,List.eq_nil_of_length_eq_zero f1],rfl⟩
    ·rw [g2] at f2;cases f2
   ·rcases h2' with ⟨f1,f2,rfl⟩|⟨f1,q',cc',J',f2,rfl,f3,f4⟩
    ·rw [g2] at f2;cases f2
    ·rw [g2,AV.bU.injEq] at f2;obtain ⟨rfl,-,-,-⟩:=f2;rw [g3,Option.some.injEq] at f3;subst f3;obtain ⟨e3,e4⟩:=eF.inj g4 f4;exact ⟨e3,by rw [e4]⟩
  rw [key.1];exact ⟨rfl,key.2⟩
theorem eF.inj {bx:List (List AV)}:∀{l l':List Nd} {c:List AV} {J J':List Nat},eF bx l c J->eF bx l' c J'->l=l'∧J=J'
 |[],[],c,J,J',h,h'=>by obtain ⟨-,rfl⟩:=fJ.1 h;obtain ⟨-,rfl⟩:=fJ.1 h';exact ⟨rfl,rfl⟩
 |[],x::l',c,J,J',h,h'=>by have:=h.len;have h2:=h'.len;rw [List.length_cons] at h2;simp only [List.length_nil] at this;omega
 |x::l,[],c,J,J',h,h'=>by have:=h.len;have h2:=h'.len;rw [List.length_cons] at this;simp only [List.length_nil] at h2;omega
 |x::l,x'::l',c,J,J',h,h'=>by obtain ⟨c1,c2,J1,J2,rfl,rfl,h1,h2⟩:=dm.1 h;obtain ⟨d1,d2,K1,K2,e,rfl,g1,g2⟩:=dm.1 h';obtain ⟨e1,e2⟩:=List.append_inj e (by rw [h1.len,g1.len]);subst e1 e2;obtain ⟨rfl,rfl⟩:=mZ.inj h1 g1;obtain ⟨rfl,rfl⟩:=eF.inj h2 g2;exact ⟨rfl,rfl⟩
end
theorem eQ.inj {bx:List (List AV)} {kids jC:List Nd} {kc:AV} {I I':List Nat} (h:eQ bx kids kc I) (h':eQ bx jC kc I'):kids=jC∧I=I':=by
 rcases h with ⟨g1,g2,rfl⟩|⟨g1,q,cc,J,g2,rfl,g3,g4⟩
 ·rcases h' with ⟨f1,f2,rfl⟩|⟨f1,q',cc',J',f2,rfl,f3,f4⟩
  ·exact ⟨by rw [List.eq_nil_of_length_eq_zero g1,List.eq_nil_of_length_eq_zero f1],rfl⟩
  ·rw [g2] at f2;cases f2
 ·rcases h' with ⟨f1,f2,rfl⟩|⟨f1,q',cc',J',f2,rfl,f3,f4⟩
  ·rw [g2] at f2;cases f2
  ·rw [g2,AV.bU.injEq] at f2;obtain ⟨rfl,-,-,-⟩:=f2;rw [g3,Option.some.injEq] at f3;subst f3;obtain ⟨e3,e4⟩:=eF.inj g4 f4;exact ⟨e3,by rw [e4]⟩
theorem Ul {b:List (List AV)} {i:Nat} {pre pre' post post':List AV} {x x':AV} (h:b[i]?=some (pre++x::post)) (h':b[i]?=some (pre'++x'::post')) (hl:pre.length=pre'.length):pre=pre'∧x=x'∧post=post':=by rw [h,Option.some.injEq] at h';obtain ⟨e1,e2⟩:=List.append_inj h' hl;rw [List.cons.injEq] at e2;exact ⟨e1,e2.1,e2.2⟩
theorem GX:∀(l:List Cm),AV.aN (fQ l)=[]
 |[]=>rfl
 |c::l=>by have h:=bE (aA (c::l));exact jr h
theorem oN (x:Ce):AV.aN x.l=AV.ids x.kc++(AV.ids x.lc++AV.ids x.fc):=by simp only [Ce.l,AV.aN,AV.ids,List.nil_append,List.append_nil]
theorem dM (l:List Cm):AV.ids (cs l)=[]:=by rw [cs,AV.ids,GX]
theorem kS (l:List Cm):AV.ids (cr l)=[]:=by rw [cr,AV.ids,GX]
theorem dA (a b:List AV):AV.aN (a++b)=AV.aN a++AV.aN b:=by
 induction a with
 |nil=>rfl
 |cons x a ih=>rw [List.cons_append,AV.aN,AV.aN,ih,List.append_assoc]
theorem eQ.ids {bx:List (List AV)} {kids:List Nd} {kc:AV} {I:List Nat} (h:eQ bx kids kc I):∀i ∈ AV.ids kc,i ∈ I:=by
 rcases h with ⟨-,rfl,rfl⟩|⟨h3,q,cc,J,rfl,rfl,h5,h6⟩
 ·intro i hi;simp [AV.ids,AV.aN] at hi
 ·intro i hi;rw [AV.ids,List.mem_singleton] at hi;rw [hi];exact List.mem_cons_self
theorem Wk.trans {a b c:AV} (h:Wk a b) (k:Wk b c):Wk a c:=⟨fun lim bs w v hr=>k.1 _ _ _ _ (h.1 _ _ _ _ hr),fun hc=>by
 have e1:=k.2 hc;subst e1;exact h.2 hc⟩
theorem mQ.trans:∀{a b c:List AV},mQ a b->mQ b c->mQ a c
 |[],b,c,h,k=>by rw [show b=[] from h] at k;exact k
 |x::a,b,c,h,k=>by obtain ⟨y,b',rfl,h1,h2⟩:=h;obtain ⟨z,c',rfl,k1,k2⟩:=k;exact ⟨z,c',rfl,h1.trans k1,mQ.trans h2 k2⟩
theorem vK.trans:∀{a b c:List (List AV)},vK a b->vK b c->vK a c
 |[],b,c,h,k=>by rw [show b=[] from h] at k;exact k
 |x::a,b,c,h,k=>by obtain ⟨y,b',rfl,h1,h2⟩:=h;obtain ⟨z,c',rfl,k1,k2⟩:=k;exact ⟨z,c',rfl,h1.trans k1,vK.trans h2 k2⟩
theorem vK.set:∀{bx:List (List AV)} {i:Nat} {c c':List AV},bx[i]?=some c->mQ c c'->vK bx (bx.set i c')
 |[],i,c,c',h,k=>by simp at h
 |x::bx,0,c,c',h,k=>by simp at h;subst h;exact ⟨c',bx,rfl,k,.refl bx⟩
 |x::bx,i+1,c,c',h,k=>⟨x,bx.set i c',rfl,.refl x,vK.set (by simpa using h) k⟩
theorem ag.box {mY:aC} {args:List AV} {bx:List (List AV)} {r:AV} {b:List (List AV)} {i:Nat} {c c':List AV} (hb:aV b=true) (hc:b[i]?=some c) (hk:mQ c c') (hw:dQ c'=true) (h:∀b2:List (List AV),aV b2=true->b2.length=b.length->b2[i]?=some c'->(∀j,j≠i->b2[j]?=b[j]?)->ag mY args bx r b2):ag mY args bx r b:=by
 have hi:=(List.getElem?_eq_some_iff.1 hc).1;have hwb:aV (b.set i c')=true:=bg.2 fun x hx=>by
  rcases List.mem_or_eq_of_mem_set hx with hx|rfl
  ·exact bg.1 hb x hx
  ·exact hw
 have h9:=h (b.set i c') hwb (by rw [List.length_set]) (List.getElem?_set_self hi) (fun j hj=>List.getElem?_set_ne fun e=>hj e.symm);unfold ag at h9⊢;obtain ⟨r2,b3,g1,g2,g3,g4,g5⟩:=h9;exact ⟨r2,b3,g1,(vK.set hc hk).trans g2,g3,g4,g5⟩
theorem KP {b:List (List AV)} {i:Nat} {c:List AV} (hb:aV b=true) (hc:b[i]?=some c):dQ c=true:=bg.1 hb c (List.mem_of_getElem? hc)
theorem ag.cell {mY:aC} {args:List AV} {bx:List (List AV)} {r:AV} {b:List (List AV)} {i:Nat} {pre post:List AV} {x y:AV} (hb:aV b=true) (hc:b[i]?=some (pre++x::post)) (hk:Wk x y) (hw:dQ [y]=true) (h:∀b2:List (List AV),aV b2=true->b2.length=b.length->b2[i]?=some (pre++y::post)->(∀j,j≠i->b2[j]?=b[j]?)->ag mY args bx r b2):ag mY args bx r b:=by
 refine ag.box hb hc (mQ.app (mQ.refl pre) (.cons hk (.refl post))) ?_ h;have h0:=KP hb hc;rw [dB] at h0⊢;intro v hv;rcases List.mem_append.1 hv with hv|hv
 ·exact h0 v (List.mem_append_left _ hv)
 ·rcases List.mem_cons.1 hv with rfl|hv
  ·exact dB.1 hw _ List.mem_cons_self
  ·exact h0 v (List.mem_append_right _ (List.mem_cons_of_mem _ hv))
theorem vD (l:List Cm):dQ [cs l]=true:=by rw [dB];intro v hv;rw [List.mem_singleton.1 hv];exact ⟨rfl,sM l⟩
end V
section
set_option maxRecDepth 100000
namespace V
open Ab
open Bk (Cm)
def aiU:aC:=fun args bx K=>match args with
 |[.ptr b o,.ptr s 0]=>∃(pre:List AV) (l:List Cm) (post:List AV) (acc:List Cm),(aV bx=true∧b≠s∧bx[b]?=some (pre++cs l::post)∧pre.length=o∧bx[s]?=some [cr acc]∧acc.length+l.length<=10000000000)∧∀bx':List (List AV),bx'.length=bx.length->bx'[b]?=some (pre++cs []::post)->bx'[s]?=some [cr (acc++l)]->(∀j,j≠b->j≠s->bx'[j]?=bx[j]?)->K (.bX []) bx'
 |_=>False
def ahR:=fN 125 Tryz.f125 10 []
theorem afV:aC.OK Tryz.prog 125 aiU:=by
 intro args bx K0 h;unfold aiU at h;split at h
 ·rename_i b o s;obtain ⟨pre,l,post,acc,⟨hw,hne,hb,ho,hs,hn⟩,-⟩:=h;refine ahR.U8 rfl hw ?_;have B:=V.base af.nil;have zE:Ev _ _ _ (aH 125) [] []:=⟨B⟩;have hl:bx.length=bx.length:=rfl;have hb0:=hb;have hs0:=hs;have ha:∀j,j≠b->j≠s->bx[j]?=bx[j]?:=fun _ _ _=>rfl
  conv=>whnf
  repeat' (first
  |((with_reducible refine (?_:∃c:List AV,_∧_));refine ⟨_,(by first|exact hb|exact hs),?_⟩;conv=>whnf)
  |refine nX ?_;conv=>whnf
  |(with_reducible refine (?_:wv _=true->aV _=true->_));intro hwr hwb
  |(with_reducible refine (?_:aV _=true->_));intro hw;conv=>whnf
  |with_reducible assumption
  |((with_reducible refine gQ.mk (i:=s) ?_);intro b1 hl1 hb1 hr1;replace hb:=(hr1 b hne).trans hb;replace hs:=hb1;replace hl:=hl1.trans hl;replace ha:=(fun j h1 h2=>(hr1 j h2).trans (ha j h1 h2));conv=>whnf)
  |((with_reducible refine gQ.mk (i:=b) ?_);intro b1 hl1 hb1 hr1;replace hs:=(hr1 s (Ne.symm hne)).trans hs;replace hb:=hb1;replace hl:=hl1.trans hl;replace ha:=(fun j h1 h2=>(hr1 j h1).trans (ha j h1 h2));conv=>whnf)
  |(first|with_reducible refine aX ho ?_|with_reducible refine aQ ho ?_|with_reducible refine aD ho ?_|with_reducible refine ay ho ?_|with_reducible refine az ?_);conv=>whnf
  |with_reducible refine And.intro ?_ ?_
  |exact cL
  |(with_reducible intro h);first|(cases h;done)|(try simp only [lG,reduceCtorEq] at h);first|done|(exfalso;omega)|replace h:=h trivial aZ|replace h:=h aZ|skip
  |fail)
  refine ag.cell hwb (x:=.nil) (y:=cs []) hb Wk.sK (vD []) fun b2 hw2 hl2 hb2 hr2=>?_;refine ag.mk hwr hw2 fun K hK=>?_;obtain ⟨pre',l',post',acc',⟨-,-,hb',ho',hs',-⟩,hK⟩:=hK;obtain ⟨rfl,e1,rfl⟩:=Ul hb0 hb' oM;obtain rfl:=oK e1;rw [hs0,Option.some.injEq,List.cons.injEq] at hs';obtain rfl:=Ua hs'.1;have hs1:b1[s]?=some [AV.row 56 2 (acc.length+l.length) (fQ acc++fQ l)]:=hs;rw [Ad] at hs1;exact hK b2 (hl2.trans hl) hb2 ((hr2 s (Ne.symm hne)).trans hs1) (fun j h1 h2=>(hr2 j h1).trans (ha j h1 h2))
 ·exact h.elim
theorem Qh.same:∀bx:List (List AV),Qh bx bx
 |[]=> .nil
 |x::bx=> .cons .refl (Qh.same bx)
theorem jI.toB:∀{bx:List (List AV)} {i:Nat} {c c':List AV},bx[i]?=some c->jI c c'->Qh bx (bx.set i c')
 |[],i,c,c',h,k=>by simp at h
 |x::bx,0,c,c',h,k=>by simp at h;subst h;exact .cons k (Qh.same bx)
 |x::bx,i+1,c,c',h,k=> .cons .refl (jI.toB (by simpa using h) k)
theorem UR.same:∀tm:Tm,UR tm tm
 |[]=> .nil
 |(k,x)::tm=> .cons .refl (UR.same tm)
theorem lT {b:List (List AV)} {i:Nat} {c:List AV} (hb:aV b=true) (hc:dQ c=true):aV (b.set i c)=true:=bg.2 fun x hx=>by
 rcases List.mem_or_eq_of_mem_set hx with hx|rfl
 ·exact bg.1 hb x hx
 ·exact hc
theorem WP.Jj {P:Program} {n0 base:Nat} {Q:wL->aJ->Prop} {c:Code} {tm:Tm} {bx:List (List AV)} {i:Nat} {x x':List AV} (hx:bx[i]?=some x) (hk:jI x x') (hw:dQ x'=true) (h:∀b2:List (List AV),b2.length=bx.length->b2[i]?=some x'->(∀j,j≠i->b2[j]?=bx[j]?)->WP P n0 base c ⟨tm,b2⟩ Q):WP P n0 base c ⟨tm,bx⟩ Q:=by have hi:=(List.getElem?_eq_some_iff.1 hx).1;have hr:Rx base ⟨tm,bx⟩ ⟨tm,bx.set i x'⟩:=fun hσ=>Rx.wv (jI.toB hx hk) (UR.same tm) ⟨hσ.tm,lT hσ.bx hw⟩ hσ;exact WP.jB hr (h _ (by rw [List.length_set]) (List.getElem?_set_self hi) (fun j hj=>List.getElem?_set_ne fun e=>hj e.symm))
theorem LP {lim:Nat->Nat} {bs:List Nat} {w:World} {bx:List (List AV)} {r:AV} {v:Value} {m:Nat->Prop} {n:Nat} (H:aM lim bs w bx (rS r v) m) (hn:n<=bx.length) (hcl:jl n bx) (hr:∀i ∈ AV.ids r,i<n):aM lim ((List.range n).map fun i=>bs.getD i 0) w (bx.take n) (rS r v) m∧∀(i b:Nat),i<n->bs[i]?=some b->((List.range n).map fun i=>bs.getD i 0)[i]?=some b:=by
 have hc:∀c ∈ bx.take n,∀i ∈ AV.aN c,i<n:=by intro c hc i hi;obtain ⟨j,hj⟩:=List.getElem?_of_mem hc;obtain ⟨h1,h2⟩:=gu hj;exact hcl.out j c h1 h2 i hi
 have hS:∀k,∀i ∈ (rS r v k).1.ids,i<n:=by
  intro k i hi;unfold rS at hi;split at hi
  ·exact hr i hi
  ·simp [AV.ids] at hi
 obtain ⟨HP,JN,-⟩:=H.pick (List.nodup_range (n:=n)) (xI hn) (fun c h i hi=>List.mem_range.2 (hc c h i hi)) (fun k i hi=>List.mem_range.2 (hS k i hi));have hrn:(bx.take n).map (AV.aO (List.range n).idxOf)=bx.take n:=(List.map_congr_left fun c h=>fZ fun i hi=>oh (hc c h i hi)).trans (List.map_id _);have hfun:(fun k=>((rS r v k).1.bK (List.range n).idxOf,(rS r v k).2))=rS r v:=by funext k;rw [oH fun i hi=>oh (hS k i hi)]
 rw [hrn,hfun] at HP;exact ⟨HP,fun i b hi hb=>JN i i b (List.getElem?_range hi) hb⟩
variable {P : Program} {T : jL} {sp : Sp} {n0 base : Nat} {σ τ : aJ} {Q : wL -> aJ -> Prop} {cal : xR}
def Qj (T:jL) (σ:aJ) (rs:List ResultVar) (n:Nat) (G:AV->List (List AV)->Prop):Prop:=
 Ez T σ rs fun vs=>VP vs fun v=>n<=σ.bx.length∧jl n σ.bx∧wR n [v]∧∀b:List (List AV),b.length=n->(∀j,j<n->b[j]?=σ.bx[j]?)->Go (Em v fun v=>G v b)
def aie (T:jL) (rs:List ResultVar) (n:Nat) (G:AV->List (List AV)->Prop) (e:wL) (τ:aJ):Prop:=
 match e with
 |.exit _=>False
 |_=>Qj T τ rs n G
theorem Xi (HT:kN P T) {f:Nat} {fn:Func} {c:Code} (hf:P.funcs[f]?=some fn) (hg:o9 fn=true) (hb:fn.body=some c) {args:List AV} {bx:List (List AV)} (ha:gZ args=true) (hbx:aV bx=true) {G:AV->List (List AV)->Prop} (h:WP P fn.ntmps bx.length c ⟨params [] 0 args,bx⟩ (aie T fn.results.toList bx.length G)):∃r bx',aW P f args bx r bx'∧wv r=true∧aV bx'=true∧G r bx':=by
 unfold o9 at hg;rw [Bool.and_eq_true] at hg;obtain ⟨hg1,hg2⟩:=hg;rw [hb] at hg2;obtain ⟨e,σ,h1,h2,h3⟩:=WP.out h hg2 ⟨nA ha rfl,hbx⟩;have he:(e=.normal∨e=.ret)∧Qj T σ fn.results.toList bx.length G:=by
  cases e with
  |normal=>exact ⟨.inl rfl,h3⟩
  |ret=>exact ⟨.inr rfl,h3⟩
  |exit i=>exact h3.elim
 obtain ⟨he,h3⟩:=he;unfold Qj at h3;obtain ⟨vs,q1,q2,q3⟩:=xZ (n:=bx.length) h2 h3;rw [F8] at q3;obtain ⟨q3,q4,q5,q6⟩:=q3;have hlt:(σ.bx.take bx.length).length=bx.length:=by rw [List.length_take];omega
 have q7:=q6 (σ.bx.take bx.length) hlt (fun j hj=>by rw [List.getElem?_take,if_pos hj]);unfold Go at q7;rw [wE] at q7;have pK:∀i ∈ AV.ids (jg vs),i<bx.length:=fun i hi=>q5.out i (by rw [AV.aN,AV.aN,List.append_nil];exact hi);refine ⟨jg vs,σ.bx.take bx.length,?_,qd q2,Ih h2.bx,q7⟩;refine ⟨⟨fn,hf,by simpa using hg1,by rw [hb];rfl⟩,Nat.le_of_eq hlt.symm,fun lim bs w ws m hl hm H=>?_⟩;refine calls_of_wp hf hb ?_;have hsz:fn.ntmps<=(ws.toArray++Array.replicate (fn.ntmps-ws.toArray.size) undef).size:=iw;have hbs:bs.length=bx.length:=H.len;refine h1 (m:=m) hsz (Nat.le_refl _) (iy hl H) hm fun lim' bs' w' a' hgo=>?_;obtain ⟨u,u1,u2⟩:=eU (fn:=fn) HT hgo.hold q1;obtain ⟨u3,u4⟩:=LP u2 q3 q4 pK;have hpost:a'.defers=[]∧∃v,(results fn a'.tmps).run P w'=.ok v w'∧(∃v' lim' bs',Ending.returned v=.returned v'∧aM lim' bs' w' (σ.bx.take bx.length) (rS (jg vs) v') m∧Fr m lim w lim' w'∧∀i,i<bx.length->bs'[i]?=bs[i]?):=by refine ⟨hgo.df,u,u1,u,lim',_,rfl,u3,hgo.fr,fun i hi=>?_⟩;have hib:i<bs.length:=oM;rw [List.getElem?_eq_getElem hib];exact u4 i _ hi (hgo.pre i _ hi (List.getElem?_eq_getElem hib))
 rcases he with rfl|rfl
 ·exact hpost
 ·exact hpost
theorem Fn.okD {f:Nat} {fn:Func} {c:Code} {n0:Nat} {rs:List ResultVar} (F:Fn Tryz.prog f fn c n0 rs) {mY:aC} {args:List AV} {bx:List (List AV)} (ha:gZ args=true) (hbx:aV bx=true) (h:Jo args fun tm=>pq c fun c=>WP Tryz.prog n0 bx.length c ⟨tm,bx⟩ (aie gW rs bx.length fun r b=>wv r=true->aV b=true->ag mY args bx r b)):∃r bx',aW Tryz.prog f args bx r bx'∧wv r=true∧aV bx'=true∧∀K,mY args bx K->K r bx':=by have h:=iU (yD h);rw [←F.nt,←F.rs] at h;obtain ⟨r,b,h1,h2,h3,h4⟩:=Xi tok F.at_ F.jA F.body ha hbx h;have h4:=h4 h2 h3;unfold ag at h4;obtain ⟨r2,b2,g1,g2,g3,g4,g5⟩:=h4;exact ⟨r2,b2,aW.aU h1 g1 g2 g3 g4,g3,g4,g5⟩
theorem wR.pure {n:Nat} {ys:List AV} (h:AV.aN ys=[]):wR n ys:=.mk fun i hi=>by rw [h] at hi;cases hi
theorem wR.ptr {n b o:Nat} (h:b<n):wR n [.ptr b o]:=.mk fun i hi=>by rw [AV.aN,AV.aN,AV.ids,List.append_nil,List.mem_singleton] at hi;rw [hi];exact h
end V
namespace V
open Ab
open Bk (Cm)
def ahk:=fN 167 Tryz.f167 59 [.cell 6 35,.cell 7 170,.tmp 8]
theorem adW.xt {p:Prop} (g:p:=by ((first|((with_reducible refine (?_:ag _ _ _ _ _));first|exact ag.aU kV kV fU fU fun K hK=>(BA (dC.mk L) hK).2.2 _ _ _ _|exact ag.aU kV kV fU fU fun K hK=>(BA (dC.mk L) hK).2.2 (.mk _ _ _ _ _ _ _ _ _ _ _ _) _ _ _|exact ag.aU kV kV fU fU fun K hK=>(BA (dC.mk L) hK).2.1 (.mk _ _ _ _ _ _ _ _ _ _ _ _) _ _ _ _ Px oW)|fail);(repeat' (first|exact bN|fail));first|done|fail)):p:=g
theorem afw {m:Nat} (i165:aC.OK Tryz.prog 165 (Ka m)):aC.OK Tryz.prog 167 (PH (m+1)):=by
 intro args bx K0 h;unfold PH at h;split at h
 ·rename_i nl ll deep s p n e;obtain ⟨L,⟨rfl,rfl⟩,⟨h0,h1,h2,rfl,h3,h4,h5,h6⟩,-⟩:=h;refine ahk.okW (base:=1) rfl fU fU ?_;have B:=V.base (af.cons i165 (af.cons E9 (af.cons R5 (af.cons yF (af.cons Ns af.nil)))))
  conv=>whnf
  let zA:=(aH 167)
  open adW in exact bN
 ·exact h.elim
def ahq:=fN 161 Tryz.f161 51 [.tmp 4,.cell 5 180,.tmp 6]
theorem afB {m:Nat} (i165:aC.OK Tryz.prog 165 (Ka m)):aC.OK Tryz.prog 161 (PN (m+1)):=by
 intro args bx K0 h;unfold PN at h;split at h
 ·rename_i deep s p n e;obtain ⟨⟨h0,h1,h2,rfl,h3,h4,h5⟩,-⟩:=h;refine ahq.okW (base:=1) rfl fU fU ?_;have B:=V.base (af.cons i165 (af.cons E9 (af.cons R5 (af.cons Nr (af.cons yF af.nil)))))
  conv=>whnf
  repeat' (first
  |with_reducible refine WP.seq ?_
  |(with_reducible first|refine Go.mk ?_|refine WP.oC B (aH 161) ?_|refine WP.draw B (aH 161) ?_|refine WP.cond ?_|refine WP.exit ?_|refine WP.skip ?_|refine WP.ret ?_);conv=>whnf
  |with_reducible refine WP.block ?_
  |with_reducible assumption
  |(with_reducible refine (?_:ag _ _ _ _ _));first|exact ag.aU kV kV fU fU fun K hK=>hK.2.2 _ _ _ _ _ _|exact ag.aU kV kV fU fU fun K hK=>hK.2.2 _ (.mk _ _ _ _ _ _ _ _ _ _ _ _) _ _ _ _|exact ag.aU kV kV fU fU fun K hK=>hK.2.1 _ (.mk _ _ _ _ _ _ _ _ _ _ _ _) _ _ _ _ _ Px oW
  |with_reducible refine And.intro ?_ ?_
  |exact cL
  |(with_reducible intro h);first|(cases h;done)|(try simp only [lG,reduceCtorEq] at h);first|done|(exfalso;omega)|replace h:=h trivial aZ|replace h:=h aZ|skip
  |fail)
 ·exact h.elim
end V
end
namespace V
open Ab
open Bk (Cm)
theorem Y0 (x:Nd) (l m:List Cm):(x.ld l).ld m=x.ld m:=by cases x;rfl
theorem wB (x:Nd) (l:List Cm):(x.ld l).lead=l:=by cases x;rfl
theorem Jz {v:Nd} {c:List Cm} (h:oU v=true->v.lead=[]):gY v c=(v,c):=by
 unfold gY;split
 ·rename_i m l h1 h2;rw [h h1] at h2;cases h2
 ·rfl
theorem jS (blk:Bool):∀(c:List Cm) (l:List Nd),(bP blk c l).1.length=l.length
 |c,[]=>by rw [bP]
 |c,x::l=>by rw [bP];simp only [List.length_cons];rw [jS blk _ l]
theorem iQ (blk:Bool):∀(c:List Cm) (l:List Nd),(bO blk c l).1.length=l.length
 |c,[]=>by rw [bO]
 |c,[x]=>by rw [bO]
 |c,x::v::l=>by rw [bO];simp only [List.length_cons];rw [iQ blk _ l]
theorem eY (b:Bool) (l:List Nd):(bC b l).1.length=l.length:=by unfold bC;split<;>rfl
theorem EC {x:Nd} (h:oU x=true):x.bare.lead=[]:=by cases x;rfl
end V
section
set_option maxRecDepth 100000
namespace V
open Ab
open Bk (Cm)
theorem Co (blk:Bool) (x:Nd):∀(c:List Cm) (a:List Nd),bP blk c (a++[x])=((bP blk c a).1++[(aL blk (bP blk c a).2 [] x).1],(aL blk (bP blk c a).2 [] x).2)
 |c,[]=>by rw [List.nil_append,bP,bP,bP];rfl
 |c,z::a=>by rw [List.cons_append,bP,bP,Co blk x _ a];rfl
theorem yH (blk:Bool) (x v:Nd):∀(c:List Cm) (a:List Nd),a.length % 2=0->bO blk c (a++[x,v])=((bO blk c a).1++[(aj x).1.ld ((bO blk c a).2++x.lead),(gY (aL blk (aj x).2 [] v).1 (aL blk (aj x).2 [] v).2).1],(gY (aL blk (aj x).2 [] v).1 (aL blk (aj x).2 [] v).2).2)
 |c,[],_=>by rw [List.nil_append,bO,bO,bO];rfl
 |c,[z],h=>by simp at h
 |c,z::u::a,h=>by rw [List.cons_append,List.cons_append,bO,bO,yH blk x v _ a (by simp only [List.length_cons] at h;omega)];rfl
theorem pM:∀a b:List Nd,uK (a++b)=(uK a && uK b)
 |[],b=>by rw [List.nil_append,uK];rfl
 |x::a,b=>by rw [List.cons_append,uK,uK,pM a b,Bool.and_assoc]
theorem NF {x:Nd}:(bF x).length=12:=rfl
end V
end
end Go.Proofs.YtlmjabnkjmfcmaaGreat
