/- Own texts, joined and shortened by a program; no condition. -/
import Derived.Test.YtlmjabnkjmfcmaaGreatK11
namespace Go.Proofs.YtlmjabnkjmfcmaaGreat
open Go Go.RowKit Go.PlainAid
set_option linter.unusedVariables false
set_option linter.unusedSimpArgs false
set_option maxHeartbeats 20000000
set_option linter.defProp false
section
set_option maxRecDepth 100000
namespace V
open Ab
open Bk (Cm)
def Ep:aC:=fun args bx K=>match args,bx with
 |[.str s,.int .i64 a,.int .i64 n],[]=>(s.size<=20000∧0<=a∧a<s.size)∧(∀(x:Nd) (q:Int),FW x->(wt x=1∧x.lead.length=0∧a<q∧q<=s.size)->K (.bX [.agg (bF x),.int .i64 q,.int .i64 0]) [])∧(∀q:Int,K (.bX [.agg (bF BO),.int .i64 q,.int .i64 5]) [])
 |_,_=>False
def aiV:aC:=fun args bx K=>match args,bx with
 |[.ptr 0 0,.int .i64 n,.int .i64 deep,.bool prop],[[.str s,.int .i64 p,v,.int .i64 e]]=>(s.size<=20000∧0<=p∧p<s.size∧e=0∧Pn v)∧(∀(x:Nd) (q:Int),FW x->(x.lead.length=0∧p<q∧q<=s.size∧wt x+4<=8*(q-p))->K (.bX [.agg (bF x),.bool true]) [rD s q v])∧(∀x:Nd,x.lead.length=0->K (.bX [.agg (bF x),.bool false]) [rG s v])
 |_,_=>False
def ahS:=fN 124 Tryz.f124 232 [.cell 8 35,.tmp 9]
theorem adL.xt {p:Prop} (g:p:=by ((first|exact yo|((with_reducible refine (?_:ag _ _ _ _ _));first|exact ag.aU kV kV dz dz fun K hK=>hK.2.2 (.mk _ _ _ _ _ _ _ _ _ _ _ _) (by first|rfl|exact oW)|exact ag.aU kV kV dz dz fun K hK=>hK.2.1 (.mk _ _ _ _ _ _ _ _ _ _ _ _) _ Px ⟨by first|rfl|assumption|omega,oM,oM,oW⟩|exact ag.aU kV kV dz dz fun K hK=>hK.2.1 _ _ aZ ⟨by first|rfl|assumption|omega,oM,oM,oW⟩)|fail);(repeat' (first|exact bN|fail));first|done|fail)):p:=g
theorem YU (i135:aC.OK Tryz.prog 135 Ep):aC.OK Tryz.prog 124 aiV:=by
 intro args bx K0 h;unfold aiV at h;split at h
 ·rename_i n deep prop s p v e;obtain ⟨⟨h0,h1,h2,rfl,hv⟩,-⟩:=h;have hs:s.size<=900000:=oM;have B:=V.base (af.cons i135 (af.cons (YT Nv) (af.cons Jv (af.cons R9 (af.cons Nv (af.cons Nu (af.cons YQ af.nil)))))));rcases hv with rfl|⟨L,rfl⟩
  all_goals
   refine ahS.okW (base:=1) rfl dz dz ?_
   conv=>whnf
   let zA:=(aH 124)
   open adL in exact bN
 ·exact h.elim
def aiZ:aC:=fun args bx K=>match args,bx with
 |[.ptr 0 0,.agg [.int .i64 n,.int .i64 f,.bool o,.bool b,.bool fl,.int .i64 d,.bool k],.bool prop],[[.str s,.int .i64 p,.nil,.int .i64 e]]=>(s.size<=20000∧0<=p∧p<s.size∧e=0)∧(∀(x:Nd) (q:Int) (L:List Cm),FW x->(x.lead.length=0∧p<q∧q<=s.size∧wt x+L.length+4<=8*(q-p))->K (.bX [.agg (bF x),.bool true]) [rD s q (cs L)])∧(∀x:Nd,x.lead.length=0->K (.bX [.agg (bF x),.bool false]) [rG s .nil])
 |_,_=>False
theorem ami {L:List Cm} {Q:AV->List AV->Prop} (h:0<L.length) (hK:∀(a:Cm) (M:List Cm),L=a::M->Q (.str a.t) (.int .i64 a.b::fQ M)):∃v r,List.drop 0 (List.drop (Int.toNat 0*2) (fQ L))=v::r∧Q v r:=by
 cases L with
 |nil=>simp at h
 |cons a M=>exact ⟨_,_,rfl,hK a M rfl⟩
def ah0:=fN 116 Tryz.f116 117 [.cell 6 35,.tmp 7]
theorem adK.xt {p:Prop} (g:p:=by ((first|exact yo|(refine ami oM ?_;intro a M hL;subst hL)|((with_reducible refine (?_:(_:Nat)<_));(simp [kT,fQ]);omega)|((with_reducible refine (?_:ag _ _ _ _ _));first|exact ag.aU kV kV dz dz fun K hK=>hK.2.2 (.mk _ _ _ _ _ _ _ _ _ _ _ _) (by first|rfl|exact oW)|exact ag.aU kV kV dz dz fun K hK=>hK.2.1 _ _ _ aZ ⟨by first|rfl|exact oW,oM,oM,oW⟩|exact ag.aU kV kV dz dz fun K hK=>hK.2.1 (.mk _ _ _ _ _ _ _ _ _ _ _ _) _ _ (xX.QH aZ) ⟨by first|rfl|exact oW,oM,oM,oW⟩)|fail);(repeat' (first|exact bN|fail));first|done|fail)):p:=g
theorem af2 (i135:aC.OK Tryz.prog 135 Ep):aC.OK Tryz.prog 116 aiZ:=by
 intro args bx K0 h;unfold aiZ at h;split at h
 ·rename_i n f o b fl d k prop s p e;obtain ⟨⟨h0,h1,h2,rfl⟩,-⟩:=h;have hs:s.size<=900000:=oM;have B:=V.base (af.cons (YU i135) (af.cons Gp (af.cons Eh (af.cons Jv (af.cons aaJ af.nil)))));refine ah0.okW (base:=1) rfl dz dz ?_
  conv=>whnf
  let zA:=(aH 116)
  open adK in exact bN
 ·exact h.elim
def aiP (F:ByteArray->Int->Int×Bool):aC:=fun args bx K=>match args,bx with
 |[.ptr 0 0,.int .i64 deep],[[.str s,.int .i64 p,v,.int .i64 e]]=>(s.size<=20000∧0<=p∧p<s.size∧e=0∧Pn v∧(F s p).2=true)∧(∀(x:Nd) (q c:Int),FW x->(x.lead.length=0∧wt x<=160000∧0<=q∧q<=s.size∧p<=c∧c<s.size)->K (.bX [.agg (bF x),.int .i64 c,.bool true]) [rD s q v])∧(∀(x:Nd) (c:Int),K (.bX [.agg (bF x),.int .i64 c,.bool false]) [rG s v])
 |_,_=>False
def ahK:=fN 132 Tryz.f132 106 [.cell 4 35,.tmp 5,.tmp 6]
theorem adJ.xt {p:Prop} (g:p:=by ((first|exact yo|((with_reducible refine (?_:ag _ _ _ _ _));first|exact ag.aU kV kV dz dz fun K hK=>hK.2.2 (.mk _ _ _ _ _ _ _ _ _ _ _ _) _|exact ag.aU kV kV dz dz fun K hK=>hK.2.1 (.mk _ _ _ _ _ _ _ _ _ _ _ _) _ _ Px ⟨by first|rfl|exact oW,oW,oM,oM,oM,oM⟩)|fail);(repeat' (first|exact bN|fail));first|done|fail)):p:=g
theorem afT {F:ByteArray->Int->Int×Bool} (i119:aC.OK Tryz.prog 119 (MC F)) (i135:aC.OK Tryz.prog 135 Ep):aC.OK Tryz.prog 132 (aiP F):=by
 intro args bx K0 h;unfold aiP at h;split at h
 ·rename_i deep s p v e;obtain ⟨⟨h0,h1,h2,rfl,hv,hk⟩,-⟩:=h;have hs:s.size<=900000:=oM;have B:=V.base (af.cons i119 (af.cons (YU i135) (af.cons Eh (af.cons yF (af.cons Nw (af.cons Nu (af.cons YS af.nil)))))));rcases hv with rfl|⟨L,rfl⟩
  all_goals
   refine ahK.okW (base:=1) rfl dz dz ?_
   conv=>whnf
   let zA:=(aH 132)
   open adJ in exact bN
 ·exact h.elim
inductive Ex:Int->Int->List Nd->List Cm->Bool->ByteArray->Prop
 |zZ {k y:Int} {kids:List Nd} {ae:List Cm} {t:Bool} {tr:ByteArray} (h:xX k y kids ae t tr):Ex k y kids ae t tr
 |blk {k:Int} {kids:List Nd} (h:k=3∨k=4∧kids.length % 2=0) (hk:∀z ∈ kids,Ex z.k z.y z.kids z.ae z.h z.tr):Ex k 6 kids [] false ByteArray.empty
abbrev BW (x:Nd):Prop:=Ex x.k x.y x.kids x.ae x.h x.tr
theorem Ex.bare {k y:Int} {kids:List Nd} {ae:List Cm} {t:Bool} {tr:ByteArray} (h:Ex k y kids ae t tr):Ex k y kids ae false ByteArray.empty:=by
 cases h with
 |zZ h=>exact .zZ (.mk ⟨h.out.1.1,fun _=>rfl⟩ h.out.2)
 |blk h hk=>exact .blk h hk
def UC (F:ByteArray->Int->Int×Bool) (m:Nat):aC:=fun args bx K=>match args,bx with
 |[.ptr 0 0,.int .i64 d],[[.str s,.int .i64 p,.nil,.int .i64 e]]=>(s.size<=20000∧0<=p∧p<s.size∧e=0∧0<=d∧d<=40∧opB F s p=true∧10*(45-d)+1<=m)∧(∀(x:Nd) (q:Int) (L:List Cm),BW x->(x.lead.length=0∧p<q∧q<=s.size∧wt x+L.length<=160100*(q-p))->K (.bX [.agg (bF x),.bool true]) [rD s q (cs L)])∧(∀x:Nd,x.lead.length=0->K (.bX [.agg (bF x),.bool false]) [rG s .nil])∧(∀(x:Nd) (L:List Cm),x.lead.length=0->K (.bX [.agg (bF x),.bool false]) [rG s (cs L)])
 |_,_=>False
def c99 (m:Nat):aC:=fun args bx K=>match args,bx with
 |[.ptr 0 0,.agg [.int .i64 n,.int .i64 f,.bool o,.bool b,.bool fl,.int .i64 d,.bool k]],[[.str s,.int .i64 p,.nil,.int .i64 e]]=>(s.size<=20000∧0<=p∧p<s.size∧e=0∧0<=d∧d<=40∧0<=f∧f<=p∧10*(45-d)+2<=m)∧(∀(x:Nd) (q:Int) (L:List Cm),BW x->(p<q∧q<=s.size∧wt x+L.length<=160100*(q-p))->K (.bX [.agg (bF x),.bool true]) [rD s q (cs L)])∧(∀x:Nd,x.lead.length<=20000->K (.bX [.agg (bF x),.bool false]) [rG s .nil])∧(∀(x:Nd) (L:List Cm),x.lead.length<=20000->K (.bX [.agg (bF x),.bool false]) [rG s (cs L)])
 |_,_=>False
def Zx (m:Nat):aC:=fun args bx K=>match args,bx with
 |[.ptr 0 0,.agg [.int .i64 n,.int .i64 f,.bool o,.bool b,.bool fl,.int .i64 d,.bool k]],[[.str s,.int .i64 p,v,.int .i64 e]]=>(s.size<=20000∧0<=p∧p<=s.size∧e=0∧0<=d∧d<=40∧Pn v∧10*(45-d)+3<=m)∧(∀(x:Nd) (q:Int) (L:List Cm),BW x->(p<=q∧q<=s.size∧wt x+L.length<=160100*(q-p)+1)->(b=true->∀(l:List Cm) (sm:Bool) (k:Nat),Bk.qE s p.toNat 0 false=some (l,sm,k)->qo s k=false->p<q)->K (.bX [.agg (bF x),.bool true]) [rD s q (cs L)])∧(∀x:Nd,x.lead.length<=40000->K (.bX [.agg (bF x),.bool false]) [rG s .nil])∧(∀(x:Nd) (L:List Cm),x.lead.length<=40000->K (.bX [.agg (bF x),.bool false]) [rG s (cs L)])
 |_,_=>False
def Uy (m:Nat):aC:=fun args bx K=>match args,bx with
 |[.ptr 0 0,.int .i64 c,.int .i64 d],[[.str s,.int .i64 p,v,.int .i64 e]]=>(s.size<=20000∧0<=p∧p<s.size∧e=0∧0<=d∧d<=40∧Pn v∧10*(45-d)+4<=m)∧(∀(x y:Nd) (q:Int) (L:List Cm),BW x->BW y->(p<q∧q<=s.size∧wt x+wt y+L.length+4<=160100*(q-p))->K (.bX [.agg (bF x),.agg (bF y),.bool true]) [rD s q (cs L)])∧(∀x y:Nd,K (.bX [.agg (bF x),.agg (bF y),.bool false]) [rG s .nil])∧(∀(x y:Nd) (L:List Cm),K (.bX [.agg (bF x),.agg (bF y),.bool false]) [rG s (cs L)])
 |_,_=>False
def UB (m:Nat):aC:=fun args bx K=>match args,bx with
 |[.ptr 0 0,.int .i64 d],[[.str s,.int .i64 p,.nil,.int .i64 e]]=>(s.size<=20000∧0<=p∧p<s.size∧e=0∧0<=d∧d<=40∧10*(45-d)+5<=m)∧(∀(x:Nd) (q:Int) (L:List Cm),BW x->(x.lead.length=0∧p<q∧q<=s.size∧wt x+L.length<=160100*(q-p))->K (.bX [.agg (bF x),.bool true]) [rD s q (cs L)])∧(∀x:Nd,x.lead.length=0->K (.bX [.agg (bF x),.bool false]) [rG s .nil])∧(∀(x:Nd) (L:List Cm),x.lead.length=0->K (.bX [.agg (bF x),.bool false]) [rG s (cs L)])
 |_,_=>False
def UA (F:ByteArray->Int->Int×Bool) (m:Nat):aC:=fun args bx K=>match args,bx with
 |[.ptr 0 0,.int .i64 d],[[.str s,.int .i64 p,.nil,.int .i64 e]]=>(s.size<=20000∧0<=p∧p<s.size∧e=0∧0<=d∧d<=40∧(jV s p 63=false->(F s p).2=true)∧10*(45-d)+5<=m)∧(∀(x:Nd) (q:Int) (L:List Cm),BW x->(x.lead.length=0∧p<q∧q<=s.size∧wt x+L.length<=160100*(q-p))->K (.bX [.agg (bF x),.bool true]) [rD s q (cs L)])∧(∀x:Nd,x.lead.length=0->K (.bX [.agg (bF x),.bool false]) [rG s .nil])∧(∀(x:Nd) (L:List Cm),x.lead.length=0->K (.bX [.agg (bF x),.bool false]) [rG s (cs L)])
 |_,_=>False
theorem YX {s:ByteArray} {p q1:Int} {l':List Cm} {sm':Bool} (h:Bk.qE s p.toNat 0 false=some (l',sm',q1.toNat)) (hq:0<=q1) (ho1:qo s q1=true) (l:List Cm) (sm:Bool) (k:Nat) (hk:Bk.qE s p.toNat 0 false=some (l,sm,k)) (ho:qo s k=false):False:=by rw [h] at hk;simp only [Option.some.injEq,Prod.mk.injEq] at hk;obtain ⟨-,-,rfl⟩:=hk;rw [show ((q1.toNat:Nat):Int)=q1 by omega,ho1] at ho;cases ho
def alL:=fN 68 Tryz.f68 56 [.cell 4 35,.tmp 5]
theorem adI.xt {p:Prop} (g:p:=by ((first|exact yo|exact EN|((with_reducible refine (?_:ag _ _ _ _ _));first|exact ag.aU kV kV dz dz fun K hK=>hK.2.2.1 (.mk _ _ _ _ _ _ _ _ _ _ _ _) (by first|rfl|exact oW)|exact ag.aU kV kV dz dz fun K hK=>hK.2.2.2 (.mk _ _ _ _ _ _ _ _ _ _ _ _) _ (by first|rfl|exact oW)|exact ag.aU kV kV dz dz fun K hK=>hK.2.1 _ _ _ (by first|assumption|exact Ex.zZ aZ) ⟨oM,oM,oM⟩ (by intro hb l sm k hk ho;first|omega|(exfalso;exact YX aZ oM aZ _ _ _ hk ho)|(cases hb;done)|(simp_all;done))|exact ag.aU kV kV dz dz fun K hK=>hK.2.1 (.mk _ _ _ _ _ _ _ _ _ _ _ _) _ _ (by first|assumption|exact Ex.zZ aZ) ⟨oM,oM,oW⟩ (by intro hb l sm k hk ho;first|omega|(exfalso;exact YX aZ oM aZ _ _ _ hk ho)|(cases hb;done)|(simp_all;done)))|fail);(repeat' (first|exact bN|fail));first|done|fail)):p:=g
theorem akc {m:Nat} (i99:aC.OK Tryz.prog 99 (c99 m)):aC.OK Tryz.prog 68 (Zx (m+1)):=by
 intro args bx K0 h;unfold Zx at h;split at h
 ·rename_i n f o b fl d k s p v e;obtain ⟨⟨h0,h1,h2,rfl,h3,h4,hv,h5⟩,-⟩:=h;have hs:s.size<=900000:=oM;have B:=V.base (af.cons i99 (af.cons aaJ (af.cons aeM (af.cons aeL af.nil))));rcases hv with rfl|⟨L,rfl⟩
  all_goals
   refine alL.okW (base:=1) rfl dz dz ?_
   conv=>whnf
   let zA:=(aH 68)
   open adI in exact bN
 ·exact h.elim
def ah2:=fN 114 Tryz.f114 36 [.cell 4 35,.tmp 5]
theorem adH.xt {p:Prop} (g:p:=by ((first|exact yo|((with_reducible refine (?_:_=false->_=true));intro hh;unfold opB at ho;simpa only [*,Bool.false_or] using ho)|((with_reducible refine (?_:ag _ _ _ _ _));first|exact ag.aU kV kV dz dz fun K hK=>hK.2.2.1 (.mk _ _ _ _ _ _ _ _ _ _ _ _) (by first|rfl|exact oW)|exact ag.aU kV kV dz dz fun K hK=>hK.2.2.2 (.mk _ _ _ _ _ _ _ _ _ _ _ _) _ (by first|rfl|exact oW)|exact ag.aU kV kV dz dz fun K hK=>hK.2.1 _ _ _ aZ aZ)|fail);(repeat' (first|exact bN|fail));first|done|fail)):p:=g
theorem af3 {F:ByteArray->Int->Int×Bool} {m:Nat} (i120:aC.OK Tryz.prog 120 (UB m)) (i121:aC.OK Tryz.prog 121 (UA F m)):aC.OK Tryz.prog 114 (UC F (m+1)):=by
 intro args bx K0 h;unfold UC at h;split at h
 ·rename_i d s p e;obtain ⟨⟨h0,h1,h2,rfl,h3,h4,ho,h5⟩,-⟩:=h;have hs:s.size<=900000:=oM;have B:=V.base (af.cons i120 (af.cons i121 (af.cons Jv (af.cons CP af.nil))));refine ah2.okW (base:=1) rfl dz dz ?_
  conv=>whnf
  let zA:=(aH 114)
  open adH in exact bN
 ·exact h.elim
def LB (s:ByteArray) (n f:Int) (o b fl:Bool) (d:Int) (k:Bool) (p:Int) (qJ:Bool) (j:Nat) (τ:aJ):Prop:=∃i:Int,(0<=i∧i<=p)∧j=(p-i).toNat∧τ=⟨[(8,.int .i64 i),(7,.bool qJ),(6,.int .i64 p),(4,.ptr 2 0),(3,.ptr 1 0),(0,.ptr 0 0)],[[.str s,.int .i64 p,.nil,.int .i64 0],[.int .i64 n,.int .i64 f,.bool o,.bool b,.bool fl,.int .i64 d,.bool k],[.int .i64 0,.int .i64 0,.int .i64 0,.int .i64 0,.str ByteArray.empty,.str ByteArray.empty,.str ByteArray.empty,.nil,.nil,.nil,.bool false,.str ByteArray.empty]]⟩
def alq:=fN 99 Tryz.f99 228 [.cell 4 35,.tmp 5]
theorem adG.xt {p:Prop} (g:p:=by ((first|((with_reducible refine (?_:WP _ _ _ (.loop _) _ _));refine WP.loop (LB s n f o b fl d k p _) ⟨f,⟨h6,h7⟩,rfl,rfl⟩ ?_;rintro j τ ⟨i,hi,rfl,rfl⟩)|((with_reducible refine (?_:∃(j:Nat) (τ':aJ),j<_∧Rx 1 _ τ'∧_));(refine ⟨_,_,?_,Rx.refl,i+1,⟨oM,oM⟩,rfl,rfl⟩);omega)|exact yo|exact EN|((with_reducible refine (?_:ag _ _ _ _ _));first|exact ag.aU kV kV dz dz fun K hK=>hK.2.2.1 (.mk _ _ _ _ _ _ _ _ _ _ _ _) (by first|rfl|exact oW)|exact ag.aU kV kV dz dz fun K hK=>hK.2.2.2 (.mk _ _ _ _ _ _ _ _ _ _ _ _) _ (by first|rfl|exact oW)|exact ag.aU kV kV dz dz fun K hK=>hK.2.1 (.mk _ _ _ _ _ _ _ _ _ _ _ _) _ _ (by first|assumption|exact Ex.zZ aZ) ⟨oM,oM,oW⟩)|fail);(repeat' (first|exact bN|fail));first|done|fail)):p:=g
theorem aj5 {F:ByteArray->Int->Int×Bool} {m:Nat} (i119:aC.OK Tryz.prog 119 (MC F)) (i135:aC.OK Tryz.prog 135 Ep) (i114:aC.OK Tryz.prog 114 (UC F m)):aC.OK Tryz.prog 99 (c99 (m+1)):=by
 intro args bx K0 h;unfold c99 at h;split at h
 ·rename_i n f o b fl d k s p e;obtain ⟨⟨h0,h1,h2,rfl,h3,h4,h6,h7,h5⟩,-⟩:=h;have hs:s.size<=900000:=oM;have B:=V.base (af.cons i114 (af.cons (af4 i119) (af.cons (af2 i135) (af.cons Gp (af.cons Eh (af.cons Jv (af.cons aaJ (af.cons aeM (af.cons aeL (af.cons YW (af.cons Nw af.nil)))))))))));refine alq.okW (base:=1) rfl dz dz ?_
  conv=>whnf
  let zA:=(aH 99)
  open adG in exact bN
 ·exact h.elim
def xS (kd p:Int) (K:AV):List AV:=[.int .i64 kd,.int .i64 6,.int .i64 p,.int .i64 0,.str ByteArray.empty,.str ByteArray.empty,.str ByteArray.empty,K,.nil,.nil,.bool false,.str ByteArray.empty]
def UY (kd:Int) (s:ByteArray) (p:Int) (kids:List Nd) (L:List Cm) (q:Int):Prop:=(p<=q∧q<s.size)∧gm kids+L.length<=160100*(q-p)∧(∀z ∈ kids,BW z)∧(kd=4->kids.length % 2=0)∧(kids.length:Int)<=2*(q-p)
def UZ (kd:Int) (s:ByteArray) (p:Int) (kids:List Nd) (L:List Cm) (q:Int):Prop:=(p<q∧q<=s.size)∧gm kids+L.length+1<=160100*(q-p)∧(∀z ∈ kids,BW z)∧(kd=4->kids.length % 2=0)∧(kids.length:Int)<=2*(q-p)
def SI (kd c:Int) (s:ByteArray) (p deep:Int) (R:Int->Prop) (j:Nat) (τ:aJ):Prop:=∃(kids:List Nd) (L:List Cm) (q:Int),UY kd s p kids L q∧R q∧j=((s.size:Int)-q).toNat∧τ=⟨[(8,cs L),(7,.int .i64 c),(6,.ptr 2 0),(4,.ptr 1 0),(1,.int .i64 deep),(0,.ptr 0 0)],[rD s q (cs L),zB,xS kd p (.row 35 12 kids.length (au kids))]⟩
def SJ (kd c:Int) (s:ByteArray) (p deep q0:Int) (τ:aJ):Prop:=∃(kids:List Nd) (L:List Cm) (q:Int),UZ kd s p kids L q∧q0<q∧τ=⟨[(7,.int .i64 c),(6,.ptr 2 0),(4,.ptr 1 0),(1,.int .i64 deep),(0,.ptr 0 0)],[rD s q (cs L),zB,xS kd p (.row 35 12 kids.length (au kids))]⟩
theorem UY.amB {kd:Int} {s:ByteArray} {p q q':Int} {kids:List Nd} {L L':List Cm} {y:Nd} (h:UY kd s p kids L q) (hy:BW y) (h3:kd=3) (h1:q<q'∧q'<=s.size∧wt y+L'.length+1<=160100*(q'-q)+L.length):UZ kd s p (kids++[y]) L' q':=by
 obtain ⟨⟨a,b⟩,c,d,e,f⟩:=h;refine ⟨⟨oM,h1.2.1⟩,?_,?_,fun h=>by omega,?_⟩
 ·rw [sV,gm,gm];omega
 ·intro z hz;rcases List.mem_append.1 hz with hz|hz
  ·exact d z hz
  ·rw [List.mem_singleton.1 hz];exact hy
 ·simp only [lL];omega
theorem UY.XY {kd:Int} {s:ByteArray} {p q q':Int} {kids:List Nd} {L L':List Cm} {x y:Nd} (h:UY kd s p kids L q) (hx:BW x) (hy:BW y) (h1:q<q'∧q'<=s.size∧wt x+wt y+L'.length+1<=160100*(q'-q)+L.length):UZ kd s p (kids++[x,y]) L' q':=by
 obtain ⟨⟨a,b⟩,c,d,e,f⟩:=h;refine ⟨⟨oM,h1.2.1⟩,?_,?_,fun h=>?_,?_⟩
 ·rw [sV,gm,gm,gm];omega
 ·intro z hz;rcases List.mem_append.1 hz with hz|hz
  ·exact d z hz
  ·rcases List.mem_cons.1 hz with rfl|hz
   ·exact hx
   ·rw [List.mem_singleton.1 hz];exact hy
 ·have:=e h;simp only [lL];omega
 ·simp only [lL];omega
theorem ajV {a b c:List AV} {r:List (List AV)} (h:aV (a::b::c::r)=true):aV [a,b,c]=true:=by
 rw [bg] at h⊢;intro d hd;refine h d ?_;simp only [List.mem_cons,List.not_mem_nil,or_false] at hd⊢;rcases hd with h|h|h
 ·exact .inl h
 ·exact .inr (.inl h)
 ·exact .inr (.inr (.inl h))
theorem YH {kd c deep p q:Int} {s:ByteArray} {kids ys:List Nd} {L:List Cm} {l C:List AV} {N:Nat} {rest:List (List AV)} (hy:mQ l (au ys)) (hl:bW l=[]) (hN:N=kids.length+ys.length) (hC:C=au kids++l):Rx 1 ⟨[(7,.int .i64 c),(6,.ptr 2 0),(4,.ptr 1 0),(1,.int .i64 deep),(0,.ptr 0 0)],rD s q (cs L)::zB::xS kd p (.row 35 12 N C)::rest⟩ ⟨[(7,.int .i64 c),(6,.ptr 2 0),(4,.ptr 1 0),(1,.int .i64 deep),(0,.ptr 0 0)],[rD s q (cs L),zB,xS kd p (.row 35 12 (kids++ys).length (au (kids++ys)))]⟩:=by
 subst hN hC;intro hσ;have h1:Rx 1 ⟨[(7,.int .i64 c),(6,.ptr 2 0),(4,.ptr 1 0),(1,.int .i64 deep),(0,.ptr 0 0)],rD s q (cs L)::zB::xS kd p (.row 35 12 (kids.length+ys.length) (au kids++l))::rest⟩ ⟨[(7,.int .i64 c),(6,.ptr 2 0),(4,.ptr 1 0),(1,.int .i64 deep),(0,.ptr 0 0)],[rD s q (cs L),zB,xS kd p (.row 35 12 (kids.length+ys.length) (au kids++l))]⟩:=by
  refine Rx.pick [0,1,2] dE dE ?_ ?_ ⟨rfl,ajV hσ.bx⟩
  ·refine .same rfl ?_ (.same rfl rfl (.same rfl ?_ .nil))
   ·simp [rD,bW,iY,cs]
   ·have:bW (au kids++l)=[]:=by rw [dF,bR (ai _),hl];rfl
    simp [xS,bW,iY,this]
  ·exact .cons (.same rfl) (.cons (.ptr rfl) (.cons (.ptr rfl) (.cons (.same rfl) (.cons (.ptr rfl) .nil))))
 refine Rx.trans h1 ?_ hσ;have e1:(kids++ys).length=kids.length+ys.length:=List.length_append;have e2:au (kids++ys)=au kids++au ys:=jG _ _;refine Rx.wv ?_ ?_ ?_
 ·refine .cons .refl (.cons .refl (.cons ?_ .nil));refine .cons .refl (.cons .refl (.cons .refl (.cons .refl (.cons .refl (.cons .refl (.cons .refl (.cons ?_ .refl)))))));rw [e1];exact Wv.row (by rw [e2];exact mQ.app (mQ.refl _) hy) (bB (ai _))
 ·exact .cons .refl (.cons .refl (.cons .refl (.cons .refl (.cons .refl .nil))))
 ·exact ⟨rfl,(by simp [aV,dQ,wv,AV.one,rD,zB,xS,cs,aA,ai])⟩
theorem SJ.mk1 {kd c deep p q q0:Int} {s:ByteArray} {kids:List Nd} {y:Nd} {L:List Cm} {l C:List AV} {N:Nat} {rest:List (List AV)} (hy:mQ l (bF y)) (hl:bW l=[]) (hN:N=kids.length+1) (hC:C=au kids++l) (hI:UZ kd s p (kids++[y]) L q) (hq:q0<q):∃τ',Rx 1 ⟨[(7,.int .i64 c),(6,.ptr 2 0),(4,.ptr 1 0),(1,.int .i64 deep),(0,.ptr 0 0)],rD s q (cs L)::zB::xS kd p (.row 35 12 N C)::rest⟩ τ'∧SJ kd c s p deep q0 τ':=⟨_,YH (ys:=[y]) (by rw [jU];exact hy) hl hN hC,_,_,_,hI,hq,rfl⟩
theorem Wi {x y:Nd}:au [x,y]=bF x++bF y:=by rw [au,au,au,mq,mq,List.append_nil]
theorem SJ.mk2 {kd c deep p q q0:Int} {s:ByteArray} {kids:List Nd} {x y:Nd} {L:List Cm} {l C:List AV} {N:Nat} {rest:List (List AV)} (hy:mQ l (bF x++bF y)) (hl:bW l=[]) (hN:N=kids.length+2) (hC:C=au kids++l) (hI:UZ kd s p (kids++[x,y]) L q) (hq:q0<q):∃τ',Rx 1 ⟨[(7,.int .i64 c),(6,.ptr 2 0),(4,.ptr 1 0),(1,.int .i64 deep),(0,.ptr 0 0)],rD s q (cs L)::zB::xS kd p (.row 35 12 N C)::rest⟩ τ'∧SJ kd c s p deep q0 τ':=⟨_,YH (ys:=[x,y]) (by rw [Wi];exact hy) hl hN hC,_,_,_,hI,hq,rfl⟩
theorem ZC {kd c deep p q:Int} {s:ByteArray}:Rx 1 ⟨[(8,.nil),(7,.int .i64 c),(6,.ptr 2 0),(4,.ptr 1 0),(1,.int .i64 deep),(0,.ptr 0 0)],[rD s q .nil,zB,xS kd p .nil]⟩ ⟨[(8,cs []),(7,.int .i64 c),(6,.ptr 2 0),(4,.ptr 1 0),(1,.int .i64 deep),(0,.ptr 0 0)],[rD s q (cs []),zB,xS kd p (.row 35 12 ([]:List Nd).length (au []))]⟩:=by
 refine Rx.wv ?_ ?_ ?_
 ·refine .cons (.cons .refl (.cons .refl (.cons (.of .nil) .refl))) (.cons .refl (.cons ?_ .nil));exact .cons .refl (.cons .refl (.cons .refl (.cons .refl (.cons .refl (.cons .refl (.cons .refl (.cons .mo .refl)))))))
 ·exact .cons (.of .nil) (.cons .refl (.cons .refl (.cons .refl (.cons .refl (.cons .refl .nil)))))
 ·exact ⟨rfl,(by simp [aV,dQ,wv,AV.one,rD,zB,xS,cs,aA,ai])⟩
end V
end
end Go.Proofs.YtlmjabnkjmfcmaaGreat
