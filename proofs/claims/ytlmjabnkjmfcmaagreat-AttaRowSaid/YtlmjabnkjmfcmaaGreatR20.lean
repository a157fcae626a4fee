/- Parts of a proof; no condition. -/
import Derived.Test.YtlmjabnkjmfcmaaGreatR19
namespace Go.Proofs.YtlmjabnkjmfcmaaGreat
open Go Go.RowKit Go.PlainAid
set_option linter.unusedVariables false
set_option linter.unusedSimpArgs false
set_option linter.unusedSectionVars false
set_option maxHeartbeats 20000000
set_option linter.defProp false
section
variable [nM]
set_option maxRecDepth 100000
namespace V
open Ab
open Bk (Cm)
def JP:az:=fun args bx K=>match args,bx with
 |[.str s,.int .i64 a,.int .i64 n],[]=>(s.size<=20000∧0<=a∧a<s.size)∧(∀(x:Nd) (q:Int),FW x->(wt x=1∧x.lead.length=0∧a<q∧q<=s.size)->K (.bW [.agg (bV x),.int .i64 q,.int .i64 0]) [])∧(∀q:Int,K (.bW [.agg (bV Ho),.int .i64 q,.int .i64 5]) [])
 |_,_=>False
def ana:az:=fun args bx K=>match args,bx with
 |[.ptr 0 0,.int .i64 n,.int .i64 deep,.bool prop],[[.str s,.int .i64 p,v,.int .i64 e]]=>(s.size<=20000∧0<=p∧p<s.size∧e=0∧Pn v)∧(∀(x:Nd) (q:Int),FW x->(x.lead.length=0∧p<q∧q<=s.size∧wt x+4<=8*(q-p))->K (.bW [.agg (bV x),.bool true]) [rD s q v])∧(∀x:Nd,x.lead.length=0->K (.bW [.agg (bV x),.bool false]) [rG s v])
 |_,_=>False
def al4:=fN 124 Tryz.f124 232 [.cell 8 35,.tmp 9]
theorem aib.xt {p:Prop} (g:p:=by ((first|exact jS|((with_reducible refine (?_:af _ _ _ _ _));first|exact af.aW kV kV dM dM fun K hK=>hK.2.2 (.mk _ _ _ _ _ _ _ _ _ _ _ _) (by first|rfl|exact oW)|exact af.aW kV kV dM dM fun K hK=>hK.2.1 (.mk _ _ _ _ _ _ _ _ _ _ _ _) _ WT ⟨by first|rfl|assumption|omega,oM,oM,oW⟩|exact af.aW kV kV dM dM fun K hK=>hK.2.1 _ _ aZ ⟨by first|rfl|assumption|omega,oM,oM,oW⟩)|fail);(repeat' (first|exact dw|fail));first|done|fail)):p:=g
theorem ad6 (i135:az.OK Tryz.prog 135 JP):az.OK Tryz.prog 124 ana:=by
 intro args bx K0 h;unfold ana at h;split at h
 ·rename_i n deep prop s p v e;obtain ⟨⟨h0,h1,h2,rfl,hv⟩,-⟩:=h;have hs:s.size<=900000:=oM;have B:=V.base (ae.cons i135 (ae.cons (ad5 UQ) (ae.cons PW (ae.cons YK (ae.cons UQ (ae.cons UO (ae.cons ad2 ae.nil)))))));rcases hv with rfl|⟨L,rfl⟩
  all_goals
   refine al4.okW (base:=1) rfl dM dM ?_
   conv=>whnf
   let zA:=(au 124)
   open aib in exact dw
 ·exact h.elim
def ang:az:=fun args bx K=>match args,bx with
 |[.ptr 0 0,.agg [.int .i64 n,.int .i64 f,.bool o,.bool b,.bool fl,.int .i64 d,.bool k],.bool prop],[[.str s,.int .i64 p,.nil,.int .i64 e]]=>(s.size<=20000∧0<=p∧p<s.size∧e=0)∧(∀(x:Nd) (q:Int) (L:List Cm),FW x->(x.lead.length=0∧p<q∧q<=s.size∧wt x+L.length+4<=8*(q-p))->K (.bW [.agg (bV x),.bool true]) [rD s q (cs L)])∧(∀x:Nd,x.lead.length=0->K (.bW [.agg (bV x),.bool false]) [rG s .nil])
 |_,_=>False
theorem aqV {L:List Cm} {Q:AV->List AV->Prop} (h:0<L.length) (hK:∀(a:Cm) (M:List Cm),L=a::M->Q (.str a.t) (.int .i64 a.b::eU M)):∃v r,List.drop 0 (List.drop (Int.toNat 0*2) (eU L))=v::r∧Q v r:=by
 cases L with
 |nil=>simp at h
 |cons a M=>exact ⟨_,_,rfl,hK a M rfl⟩
def amc:=fN 116 Tryz.f116 117 [.cell 6 35,.tmp 7]
theorem aia.xt {p:Prop} (g:p:=by ((first|exact jS|(refine aqV oM ?_;intro a M hL;subst hL)|((with_reducible refine (?_:(_:Nat)<_));(simp [jM,eU]);omega)|((with_reducible refine (?_:af _ _ _ _ _));first|exact af.aW kV kV dM dM fun K hK=>hK.2.2 (.mk _ _ _ _ _ _ _ _ _ _ _ _) (by first|rfl|exact oW)|exact af.aW kV kV dM dM fun K hK=>hK.2.1 _ _ _ aZ ⟨by first|rfl|exact oW,oM,oM,oW⟩|exact af.aW kV kV dM dM fun K hK=>hK.2.1 (.mk _ _ _ _ _ _ _ _ _ _ _ _) _ _ (Cb.XX aZ) ⟨by first|rfl|exact oW,oM,oM,oW⟩)|fail);(repeat' (first|exact dw|fail));first|done|fail)):p:=g
theorem akc (i135:az.OK Tryz.prog 135 JP):az.OK Tryz.prog 116 ang:=by
 intro args bx K0 h;unfold ang at h;split at h
 ·rename_i n f o b fl d k prop s p e;obtain ⟨⟨h0,h1,h2,rfl⟩,-⟩:=h;have hs:s.size<=900000:=oM;have B:=V.base (ae.cons (ad6 i135) (ae.cons MM (ae.cons JH (ae.cons PW (ae.cons afI ae.nil)))));refine amc.okW (base:=1) rfl dM dM ?_
  conv=>whnf
  let zA:=(au 116)
  open aia in exact dw
 ·exact h.elim
def am4 (F:ByteArray->Int->Int×Bool):az:=fun args bx K=>match args,bx with
 |[.ptr 0 0,.int .i64 deep],[[.str s,.int .i64 p,v,.int .i64 e]]=>(s.size<=20000∧0<=p∧p<s.size∧e=0∧Pn v∧(F s p).2=true)∧(∀(x:Nd) (q c:Int),FW x->(x.lead.length=0∧wt x<=160000∧0<=q∧q<=s.size∧p<=c∧c<s.size)->K (.bW [.agg (bV x),.int .i64 c,.bool true]) [rD s q v])∧(∀(x:Nd) (c:Int),K (.bW [.agg (bV x),.int .i64 c,.bool false]) [rG s v])
 |_,_=>False
def alV:=fN 132 Tryz.f132 106 [.cell 4 35,.tmp 5,.tmp 6]
theorem ah9.xt {p:Prop} (g:p:=by ((first|exact jS|((with_reducible refine (?_:af _ _ _ _ _));first|exact af.aW kV kV dM dM fun K hK=>hK.2.2 (.mk _ _ _ _ _ _ _ _ _ _ _ _) _|exact af.aW kV kV dM dM fun K hK=>hK.2.1 (.mk _ _ _ _ _ _ _ _ _ _ _ _) _ _ WT ⟨by first|rfl|exact oW,oW,oM,oM,oM,oM⟩)|fail);(repeat' (first|exact dw|fail));first|done|fail)):p:=g
theorem aj1 {F:ByteArray->Int->Int×Bool} (i119:az.OK Tryz.prog 119 (TF F)) (i135:az.OK Tryz.prog 135 JP):az.OK Tryz.prog 132 (am4 F):=by
 intro args bx K0 h;unfold am4 at h;split at h
 ·rename_i deep s p v e;obtain ⟨⟨h0,h1,h2,rfl,hv,hk⟩,-⟩:=h;have hs:s.size<=900000:=oM;have B:=V.base (ae.cons i119 (ae.cons (ad6 i135) (ae.cons JH (ae.cons Dl (ae.cons UR (ae.cons UO (ae.cons ad4 ae.nil)))))));rcases hv with rfl|⟨L,rfl⟩
  all_goals
   refine alV.okW (base:=1) rfl dM dM ?_
   conv=>whnf
   let zA:=(au 132)
   open ah9 in exact dw
 ·exact h.elim
inductive JS:Int->Int->List Nd->List Cm->Bool->ByteArray->Prop
 |flow {k y:Int} {kids:List Nd} {ag:List Cm} {t:Bool} {tr:ByteArray} (h:Cb k y kids ag t tr):JS k y kids ag t tr
 |blk {k:Int} {kids:List Nd} (h:k=3∨k=4∧kids.length % 2=0) (hk:∀z ∈ kids,JS z.k z.y z.kids z.ag z.h z.tr):JS k 6 kids [] false ByteArray.empty
abbrev BW (x:Nd):Prop:=JS x.k x.y x.kids x.ag x.h x.tr
theorem JS.bare {k y:Int} {kids:List Nd} {ag:List Cm} {t:Bool} {tr:ByteArray} (h:JS k y kids ag t tr):JS k y kids ag false ByteArray.empty:=by
 cases h with
 |flow h=>exact .flow (.mk ⟨h.out.1.1,fun _=>rfl⟩ h.out.2)
 |blk h hk=>exact .blk h hk
def aaz (F:ByteArray->Int->Int×Bool) (m:Nat):az:=fun args bx K=>match args,bx with
 |[.ptr 0 0,.int .i64 d],[[.str s,.int .i64 p,.nil,.int .i64 e]]=>(s.size<=20000∧0<=p∧p<s.size∧e=0∧0<=d∧d<=40∧opB F s p=true∧10*(45-d)+1<=m)∧(∀(x:Nd) (q:Int) (L:List Cm),BW x->(x.lead.length=0∧p<q∧q<=s.size∧wt x+L.length<=160100*(q-p))->K (.bW [.agg (bV x),.bool true]) [rD s q (cs L)])∧(∀x:Nd,x.lead.length=0->K (.bW [.agg (bV x),.bool false]) [rG s .nil])∧(∀(x:Nd) (L:List Cm),x.lead.length=0->K (.bW [.agg (bV x),.bool false]) [rG s (cs L)])
 |_,_=>False
def c99 (m:Nat):az:=fun args bx K=>match args,bx with
 |[.ptr 0 0,.agg [.int .i64 n,.int .i64 f,.bool o,.bool b,.bool fl,.int .i64 d,.bool k]],[[.str s,.int .i64 p,.nil,.int .i64 e]]=>(s.size<=20000∧0<=p∧p<s.size∧e=0∧0<=d∧d<=40∧0<=f∧f<=p∧10*(45-d)+2<=m)∧(∀(x:Nd) (q:Int) (L:List Cm),BW x->(p<q∧q<=s.size∧wt x+L.length<=160100*(q-p))->K (.bW [.agg (bV x),.bool true]) [rD s q (cs L)])∧(∀x:Nd,x.lead.length<=20000->K (.bW [.agg (bV x),.bool false]) [rG s .nil])∧(∀(x:Nd) (L:List Cm),x.lead.length<=20000->K (.bW [.agg (bV x),.bool false]) [rG s (cs L)])
 |_,_=>False
def c68 (m:Nat):az:=fun args bx K=>match args,bx with
 |[.ptr 0 0,.agg [.int .i64 n,.int .i64 f,.bool o,.bool b,.bool fl,.int .i64 d,.bool k]],[[.str s,.int .i64 p,v,.int .i64 e]]=>(s.size<=20000∧0<=p∧p<=s.size∧e=0∧0<=d∧d<=40∧Pn v∧10*(45-d)+3<=m)∧(∀(x:Nd) (q:Int) (L:List Cm),BW x->(p<=q∧q<=s.size∧wt x+L.length<=160100*(q-p)+1)->(b=true->∀(l:List Cm) (sm:Bool) (k:Nat),Bk.sK s p.toNat 0 false=some (l,sm,k)->uC s k=false->p<q)->K (.bW [.agg (bV x),.bool true]) [rD s q (cs L)])∧(∀x:Nd,x.lead.length<=40000->K (.bW [.agg (bV x),.bool false]) [rG s .nil])∧(∀(x:Nd) (L:List Cm),x.lead.length<=40000->K (.bW [.agg (bV x),.bool false]) [rG s (cs L)])
 |_,_=>False
def aav (m:Nat):az:=fun args bx K=>match args,bx with
 |[.ptr 0 0,.int .i64 c,.int .i64 d],[[.str s,.int .i64 p,v,.int .i64 e]]=>(s.size<=20000∧0<=p∧p<s.size∧e=0∧0<=d∧d<=40∧Pn v∧10*(45-d)+4<=m)∧(∀(x y:Nd) (q:Int) (L:List Cm),BW x->BW y->(p<q∧q<=s.size∧wt x+wt y+L.length+4<=160100*(q-p))->K (.bW [.agg (bV x),.agg (bV y),.bool true]) [rD s q (cs L)])∧(∀x y:Nd,K (.bW [.agg (bV x),.agg (bV y),.bool false]) [rG s .nil])∧(∀(x y:Nd) (L:List Cm),K (.bW [.agg (bV x),.agg (bV y),.bool false]) [rG s (cs L)])
 |_,_=>False
def aay (m:Nat):az:=fun args bx K=>match args,bx with
 |[.ptr 0 0,.int .i64 d],[[.str s,.int .i64 p,.nil,.int .i64 e]]=>(s.size<=20000∧0<=p∧p<s.size∧e=0∧0<=d∧d<=40∧10*(45-d)+5<=m)∧(∀(x:Nd) (q:Int) (L:List Cm),BW x->(x.lead.length=0∧p<q∧q<=s.size∧wt x+L.length<=160100*(q-p))->K (.bW [.agg (bV x),.bool true]) [rD s q (cs L)])∧(∀x:Nd,x.lead.length=0->K (.bW [.agg (bV x),.bool false]) [rG s .nil])∧(∀(x:Nd) (L:List Cm),x.lead.length=0->K (.bW [.agg (bV x),.bool false]) [rG s (cs L)])
 |_,_=>False
def aax (F:ByteArray->Int->Int×Bool) (m:Nat):az:=fun args bx K=>match args,bx with
 |[.ptr 0 0,.int .i64 d],[[.str s,.int .i64 p,.nil,.int .i64 e]]=>(s.size<=20000∧0<=p∧p<s.size∧e=0∧0<=d∧d<=40∧(lS s p 63=false->(F s p).2=true)∧10*(45-d)+5<=m)∧(∀(x:Nd) (q:Int) (L:List Cm),BW x->(x.lead.length=0∧p<q∧q<=s.size∧wt x+L.length<=160100*(q-p))->K (.bW [.agg (bV x),.bool true]) [rD s q (cs L)])∧(∀x:Nd,x.lead.length=0->K (.bW [.agg (bV x),.bool false]) [rG s .nil])∧(∀(x:Nd) (L:List Cm),x.lead.length=0->K (.bW [.agg (bV x),.bool false]) [rG s (cs L)])
 |_,_=>False
theorem ad9 {s:ByteArray} {p q1:Int} {l':List Cm} {sm':Bool} (h:Bk.sK s p.toNat 0 false=some (l',sm',q1.toNat)) (hq:0<=q1) (ho1:uC s q1=true) (l:List Cm) (sm:Bool) (k:Nat) (hk:Bk.sK s p.toNat 0 false=some (l,sm,k)) (ho:uC s k=false):False:=by rw [h] at hk;simp only [Option.some.injEq,Prod.mk.injEq] at hk;obtain ⟨-,-,rfl⟩:=hk;rw [show ((q1.toNat:Nat):Int)=q1 by omega,ho1] at ho;cases ho
def aqm:=fN 68 Tryz.f68 56 [.cell 4 35,.tmp 5]
theorem ah8.xt {p:Prop} (g:p:=by ((first|exact jS|exact oJ|((with_reducible refine (?_:af _ _ _ _ _));first|exact af.aW kV kV dM dM fun K hK=>hK.2.2.1 (.mk _ _ _ _ _ _ _ _ _ _ _ _) (by first|rfl|exact oW)|exact af.aW kV kV dM dM fun K hK=>hK.2.2.2 (.mk _ _ _ _ _ _ _ _ _ _ _ _) _ (by first|rfl|exact oW)|exact af.aW kV kV dM dM fun K hK=>hK.2.1 _ _ _ (by first|assumption|exact JS.flow aZ) ⟨oM,oM,oM⟩ (by intro hb l sm k hk ho;first|omega|(exfalso;exact ad9 aZ oM aZ _ _ _ hk ho)|(cases hb;done)|(simp_all;done))|exact af.aW kV kV dM dM fun K hK=>hK.2.1 (.mk _ _ _ _ _ _ _ _ _ _ _ _) _ _ (by first|assumption|exact JS.flow aZ) ⟨oM,oM,oW⟩ (by intro hb l sm k hk ho;first|omega|(exfalso;exact ad9 aZ oM aZ _ _ _ hk ho)|(cases hb;done)|(simp_all;done)))|fail);(repeat' (first|exact dw|fail));first|done|fail)):p:=g
theorem aoJ {m:Nat} (i99:az.OK Tryz.prog 99 (c99 m)):az.OK Tryz.prog 68 (c68 (m+1)):=by
 intro args bx K0 h;unfold c68 at h;split at h
 ·rename_i n f o b fl d k s p v e;obtain ⟨⟨h0,h1,h2,rfl,h3,h4,hv,h5⟩,-⟩:=h;have hs:s.size<=900000:=oM;have B:=V.base (ae.cons i99 (ae.cons afI (ae.cons ajd (ae.cons ajc ae.nil))));rcases hv with rfl|⟨L,rfl⟩
  all_goals
   refine aqm.okW (base:=1) rfl dM dM ?_
   conv=>whnf
   let zA:=(au 68)
   open ah8 in exact dw
 ·exact h.elim
def ame:=fN 114 Tryz.f114 36 [.cell 4 35,.tmp 5]
theorem ah7.xt {p:Prop} (g:p:=by ((first|exact jS|((with_reducible refine (?_:_=false->_=true));intro hh;unfold opB at ho;simpa only [*,Bool.false_or] using ho)|((with_reducible refine (?_:af _ _ _ _ _));first|exact af.aW kV kV dM dM fun K hK=>hK.2.2.1 (.mk _ _ _ _ _ _ _ _ _ _ _ _) (by first|rfl|exact oW)|exact af.aW kV kV dM dM fun K hK=>hK.2.2.2 (.mk _ _ _ _ _ _ _ _ _ _ _ _) _ (by first|rfl|exact oW)|exact af.aW kV kV dM dM fun K hK=>hK.2.1 _ _ _ aZ aZ)|fail);(repeat' (first|exact dw|fail));first|done|fail)):p:=g
theorem akd {F:ByteArray->Int->Int×Bool} {m:Nat} (i120:az.OK Tryz.prog 120 (aay m)) (i121:az.OK Tryz.prog 121 (aax F m)):az.OK Tryz.prog 114 (aaz F (m+1)):=by
 intro args bx K0 h;unfold aaz at h;split at h
 ·rename_i d s p e;obtain ⟨⟨h0,h1,h2,rfl,h3,h4,ho,h5⟩,-⟩:=h;have hs:s.size<=900000:=oM;have B:=V.base (ae.cons i120 (ae.cons i121 (ae.cons PW (ae.cons IJ ae.nil))));refine ame.okW (base:=1) rfl dM dM ?_
  conv=>whnf
  let zA:=(au 114)
  open ah7 in exact dw
 ·exact h.elim
def LB (s:ByteArray) (n f:Int) (o b fl:Bool) (d:Int) (k:Bool) (p:Int) (bel:Bool) (j:Nat) (τ:aF):Prop:=∃i:Int,(0<=i∧i<=p)∧j=(p-i).toNat∧τ=⟨[(8,.int .i64 i),(7,.bool bel),(6,.int .i64 p),(4,.ptr 2 0),(3,.ptr 1 0),(0,.ptr 0 0)],[[.str s,.int .i64 p,.nil,.int .i64 0],[.int .i64 n,.int .i64 f,.bool o,.bool b,.bool fl,.int .i64 d,.bool k],[.int .i64 0,.int .i64 0,.int .i64 0,.int .i64 0,.str ByteArray.empty,.str ByteArray.empty,.str ByteArray.empty,.nil,.nil,.nil,.bool false,.str ByteArray.empty]]⟩
def ap2:=fN 99 Tryz.f99 228 [.cell 4 35,.tmp 5]
theorem ah6.xt {p:Prop} (g:p:=by ((first|((with_reducible refine (?_:WP _ _ _ (.loop _) _ _));refine WP.loop (LB s n f o b fl d k p _) ⟨f,⟨h6,h7⟩,rfl,rfl⟩ ?_;rintro j τ ⟨i,hi,rfl,rfl⟩)|((with_reducible refine (?_:∃(j:Nat) (τ':aF),j<_∧Rx 1 _ τ'∧_));(refine ⟨_,_,?_,Rx.refl,i+1,⟨oM,oM⟩,rfl,rfl⟩);omega)|exact jS|exact oJ|((with_reducible refine (?_:af _ _ _ _ _));first|exact af.aW kV kV dM dM fun K hK=>hK.2.2.1 (.mk _ _ _ _ _ _ _ _ _ _ _ _) (by first|rfl|exact oW)|exact af.aW kV kV dM dM fun K hK=>hK.2.2.2 (.mk _ _ _ _ _ _ _ _ _ _ _ _) _ (by first|rfl|exact oW)|exact af.aW kV kV dM dM fun K hK=>hK.2.1 (.mk _ _ _ _ _ _ _ _ _ _ _ _) _ _ (by first|assumption|exact JS.flow aZ) ⟨oM,oM,oW⟩)|fail);(repeat' (first|exact dw|fail));first|done|fail)):p:=g
theorem aoA {F:ByteArray->Int->Int×Bool} {m:Nat} (i119:az.OK Tryz.prog 119 (TF F)) (i135:az.OK Tryz.prog 135 JP) (i114:az.OK Tryz.prog 114 (aaz F m)):az.OK Tryz.prog 99 (c99 (m+1)):=by
 intro args bx K0 h;unfold c99 at h;split at h
 ·rename_i n f o b fl d k s p e;obtain ⟨⟨h0,h1,h2,rfl,h3,h4,h6,h7,h5⟩,-⟩:=h;have hs:s.size<=900000:=oM;have B:=V.base (ae.cons i114 (ae.cons (ake i119) (ae.cons (akc i135) (ae.cons MM (ae.cons JH (ae.cons PW (ae.cons afI (ae.cons ajd (ae.cons ajc (ae.cons ad8 (ae.cons UR ae.nil)))))))))));refine ap2.okW (base:=1) rfl dM dM ?_
  conv=>whnf
  let zA:=(au 99)
  open ah6 in exact dw
 ·exact h.elim
def xS (kd p:Int) (K:AV):List AV:=[.int .i64 kd,.int .i64 6,.int .i64 p,.int .i64 0,.str ByteArray.empty,.str ByteArray.empty,.str ByteArray.empty,K,.nil,.nil,.bool false,.str ByteArray.empty]
def aaT (kd:Int) (s:ByteArray) (p:Int) (kids:List Nd) (L:List Cm) (q:Int):Prop:=(p<=q∧q<s.size)∧iJ kids+L.length<=160100*(q-p)∧(∀z ∈ kids,BW z)∧(kd=4->kids.length % 2=0)∧(kids.length:Int)<=2*(q-p)
def aaU (kd:Int) (s:ByteArray) (p:Int) (kids:List Nd) (L:List Cm) (q:Int):Prop:=(p<q∧q<=s.size)∧iJ kids+L.length+1<=160100*(q-p)∧(∀z ∈ kids,BW z)∧(kd=4->kids.length % 2=0)∧(kids.length:Int)<=2*(q-p)
def SI (kd c:Int) (s:ByteArray) (p deep:Int) (R:Int->Prop) (j:Nat) (τ:aF):Prop:=∃(kids:List Nd) (L:List Cm) (q:Int),aaT kd s p kids L q∧R q∧j=((s.size:Int)-q).toNat∧τ=⟨[(8,cs L),(7,.int .i64 c),(6,.ptr 2 0),(4,.ptr 1 0),(1,.int .i64 deep),(0,.ptr 0 0)],[rD s q (cs L),zB,xS kd p (.row 35 12 kids.length (aO kids))]⟩
def SJ (kd c:Int) (s:ByteArray) (p deep q0:Int) (τ:aF):Prop:=∃(kids:List Nd) (L:List Cm) (q:Int),aaU kd s p kids L q∧q0<q∧τ=⟨[(7,.int .i64 c),(6,.ptr 2 0),(4,.ptr 1 0),(1,.int .i64 deep),(0,.ptr 0 0)],[rD s q (cs L),zB,xS kd p (.row 35 12 kids.length (aO kids))]⟩
theorem aaT.ark {kd:Int} {s:ByteArray} {p q q':Int} {kids:List Nd} {L L':List Cm} {y:Nd} (h:aaT kd s p kids L q) (hy:BW y) (h3:kd=3) (h1:q<q'∧q'<=s.size∧wt y+L'.length+1<=160100*(q'-q)+L.length):aaU kd s p (kids++[y]) L' q':=by
 obtain ⟨⟨a,b⟩,c,d,e,f⟩:=h;refine ⟨⟨oM,h1.2.1⟩,?_,?_,fun h=>by omega,?_⟩
 ·rw [xe,iJ,iJ];omega
 ·intro z hz;rcases List.mem_append.1 hz with hz|hz
  ·exact d z hz
  ·rw [List.mem_singleton.1 hz];exact hy
 ·simp only [lL];omega
theorem aaT.adu {kd:Int} {s:ByteArray} {p q q':Int} {kids:List Nd} {L L':List Cm} {x y:Nd} (h:aaT kd s p kids L q) (hx:BW x) (hy:BW y) (h1:q<q'∧q'<=s.size∧wt x+wt y+L'.length+1<=160100*(q'-q)+L.length):aaU kd s p (kids++[x,y]) L' q':=by
 obtain ⟨⟨a,b⟩,c,d,e,f⟩:=h;refine ⟨⟨oM,h1.2.1⟩,?_,?_,fun h=>?_,?_⟩
 ·rw [xe,iJ,iJ,iJ];omega
 ·intro z hz;rcases List.mem_append.1 hz with hz|hz
  ·exact d z hz
  ·rcases List.mem_cons.1 hz with rfl|hz
   ·exact hx
   ·rw [List.mem_singleton.1 hz];exact hy
 ·have:=e h;simp only [lL];omega
 ·simp only [lL];omega
theorem aop {a b c:List AV} {r:List (List AV)} (h:aN (a::b::c::r)=true):aN [a,b,c]=true:=by
 rw [aY] at h⊢;intro d hd;refine h d ?_;simp only [List.mem_cons,List.not_mem_nil,or_false] at hd⊢;rcases hd with h|h|h
 ·exact .inl h
 ·exact .inr (.inl h)
 ·exact .inr (.inr (.inl h))
theorem adR {kd c deep p q:Int} {s:ByteArray} {kids ys:List Nd} {L:List Cm} {l C:List AV} {N:Nat} {rest:List (List AV)} (hy:qi l (aO ys)) (hl:dG l=[]) (hN:N=kids.length+ys.length) (hC:C=aO kids++l):Rx 1 ⟨[(7,.int .i64 c),(6,.ptr 2 0),(4,.ptr 1 0),(1,.int .i64 deep),(0,.ptr 0 0)],rD s q (cs L)::zB::xS kd p (.row 35 12 N C)::rest⟩ ⟨[(7,.int .i64 c),(6,.ptr 2 0),(4,.ptr 1 0),(1,.int .i64 deep),(0,.ptr 0 0)],[rD s q (cs L),zB,xS kd p (.row 35 12 (kids++ys).length (aO (kids++ys)))]⟩:=by
 subst hN hC;intro hσ;have h1:Rx 1 ⟨[(7,.int .i64 c),(6,.ptr 2 0),(4,.ptr 1 0),(1,.int .i64 deep),(0,.ptr 0 0)],rD s q (cs L)::zB::xS kd p (.row 35 12 (kids.length+ys.length) (aO kids++l))::rest⟩ ⟨[(7,.int .i64 c),(6,.ptr 2 0),(4,.ptr 1 0),(1,.int .i64 deep),(0,.ptr 0 0)],[rD s q (cs L),zB,xS kd p (.row 35 12 (kids.length+ys.length) (aO kids++l))]⟩:=by
  refine Rx.pick [0,1,2] dE dE ?_ ?_ ⟨rfl,aop hσ.bx⟩
  ·refine .same rfl ?_ (.same rfl rfl (.same rfl ?_ .nil))
   ·simp [rD,dG,kQ,cs]
   ·have:dG (aO kids++l)=[]:=by rw [iy,bQ (ai _),hl];rfl
    simp [xS,dG,kQ,this]
  ·exact .cons (.same rfl) (.cons (.ptr rfl) (.cons (.ptr rfl) (.cons (.same rfl) (.cons (.ptr rfl) .nil))))
 refine Rx.trans h1 ?_ hσ;have e1:(kids++ys).length=kids.length+ys.length:=List.length_append;have e2:aO (kids++ys)=aO kids++aO ys:=nV _ _;refine Rx.wv ?_ ?_ ?_
 ·refine .cons .refl (.cons .refl (.cons ?_ .nil));refine .cons .refl (.cons .refl (.cons .refl (.cons .refl (.cons .refl (.cons .refl (.cons .refl (.cons ?_ .refl)))))));rw [e1];exact Wv.row (by rw [e2];exact qi.app (qi.refl _) hy) (bK (ai _))
 ·exact .cons .refl (.cons .refl (.cons .refl (.cons .refl (.cons .refl .nil))))
 ·exact ⟨rfl,(by simp [aN,gG,wv,AV.one,rD,zB,xS,cs,ay,ai])⟩
theorem SJ.mk1 {kd c deep p q q0:Int} {s:ByteArray} {kids:List Nd} {y:Nd} {L:List Cm} {l C:List AV} {N:Nat} {rest:List (List AV)} (hy:qi l (bV y)) (hl:dG l=[]) (hN:N=kids.length+1) (hC:C=aO kids++l) (hI:aaU kd s p (kids++[y]) L q) (hq:q0<q):∃τ',Rx 1 ⟨[(7,.int .i64 c),(6,.ptr 2 0),(4,.ptr 1 0),(1,.int .i64 deep),(0,.ptr 0 0)],rD s q (cs L)::zB::xS kd p (.row 35 12 N C)::rest⟩ τ'∧SJ kd c s p deep q0 τ':=⟨_,adR (ys:=[y]) (by rw [tK];exact hy) hl hN hC,_,_,_,hI,hq,rfl⟩
theorem ab7 {x y:Nd}:aO [x,y]=bV x++bV y:=by rw [aO,aO,aO,pR,pR,List.append_nil]
theorem SJ.mk2 {kd c deep p q q0:Int} {s:ByteArray} {kids:List Nd} {x y:Nd} {L:List Cm} {l C:List AV} {N:Nat} {rest:List (List AV)} (hy:qi l (bV x++bV y)) (hl:dG l=[]) (hN:N=kids.length+2) (hC:C=aO kids++l) (hI:aaU kd s p (kids++[x,y]) L q) (hq:q0<q):∃τ',Rx 1 ⟨[(7,.int .i64 c),(6,.ptr 2 0),(4,.ptr 1 0),(1,.int .i64 deep),(0,.ptr 0 0)],rD s q (cs L)::zB::xS kd p (.row 35 12 N C)::rest⟩ τ'∧SJ kd c s p deep q0 τ':=⟨_,adR (ys:=[x,y]) (by rw [ab7];exact hy) hl hN hC,_,_,_,hI,hq,rfl⟩
theorem aeL {kd c deep p q:Int} {s:ByteArray}:Rx 1 ⟨[(8,.nil),(7,.int .i64 c),(6,.ptr 2 0),(4,.ptr 1 0),(1,.int .i64 deep),(0,.ptr 0 0)],[rD s q .nil,zB,xS kd p .nil]⟩ ⟨[(8,cs []),(7,.int .i64 c),(6,.ptr 2 0),(4,.ptr 1 0),(1,.int .i64 deep),(0,.ptr 0 0)],[rD s q (cs []),zB,xS kd p (.row 35 12 ([]:List Nd).length (aO []))]⟩:=by
 refine Rx.wv ?_ ?_ ?_
 ·refine .cons (.cons .refl (.cons .refl (.cons (.of .nil) .refl))) (.cons .refl (.cons ?_ .nil));exact .cons .refl (.cons .refl (.cons .refl (.cons .refl (.cons .refl (.cons .refl (.cons .refl (.cons .lM .refl)))))))
 ·exact .cons (.of .nil) (.cons .refl (.cons .refl (.cons .refl (.cons .refl (.cons .refl .nil)))))
 ·exact ⟨rfl,(by simp [aN,gG,wv,AV.one,rD,zB,xS,cs,ay,ai])⟩
end V
end
end Go.Proofs.YtlmjabnkjmfcmaaGreat
