/- Own texts, joined and shortened by a program; no condition. -/
import Derived.Test.YtlmjabnkjmfcmaaGreatK8
namespace Go.Proofs.YtlmjabnkjmfcmaaGreat
open Go Go.RowKit Go.PlainAid
set_option linter.unusedVariables false
set_option linter.unusedSimpArgs false
set_option maxHeartbeats 20000000
set_option linter.defProp false
theorem qg {p:Prop} (h:p:=by first|rfl|(simp [gZ,aV,dQ,wv,qI,xU,AV.one,AV.flat,cs,aA,ai,AV.ak,jv,lW,rB,rF,Hw,fd,bF,U6,M7];first|done|fail)):p:=h
theorem jy {p:Prop} (g:p:=by ((repeat' (first|exact xp|with_reducible refine WP.seq ?_|((with_reducible first|refine Go.mk ?_|refine WP.oC B zA ?_|refine WP.draw B zA ?_|refine WP.cond ?_|refine WP.exit ?_|refine WP.skip ?_|refine WP.ret ?_);conv=>whnf)|(with_reducible first|refine WP.block ?_|assumption)|exact xt|with_reducible refine And.intro ?_ ?_|exact cL|((with_reducible intro h);first|(cases h;done)|((try simp only [lG,reduceCtorEq] at h);first|done|(exfalso;omega)|replace h:=h trivial aZ|replace h:=h aZ|skip)|skip)|fail));first|done|fail)):p:=g
theorem Am {p:Prop} (g:p:=by ((with_reducible refine (?_:∃L:List Cm,dC _ _ L∧_));(apply Exists.intro;apply And.intro;focus (repeat' (first|exact dC.mk _|exact dC.nil|exact dC.one|apply dC.app)));(repeat' (first|exact jy|fail));first|done|fail)):p:=g
theorem Ck {p:Prop} (g:p:=by (((with_reducible refine (?_:fO _ 0 [] _));refine az ?_;(conv=>whnf));(repeat' (first|exact jy|fail));first|done|fail)):p:=g
theorem Nc {p:Prop} (g:p:=by (((with_reducible refine (?_:(_:Nat)<=_));simp only [lL,List.nil_append,Nd.ae,Nd.lead,Nd.h,Nd.tr,Nd.kids,iI,cK,fD,bS] at*;omega);(repeat' (first|exact jy|fail));first|done|fail)):p:=g
theorem Ro {p:Prop} (g:p:=by (((with_reducible refine (?_:yh _ (List.drop _ (_++_)) _));refine Bl ?_ ?_;(focus (rw [bT,eY,jS];try omega));(conv=>whnf));(repeat' (first|exact jy|fail));first|done|fail)):p:=g
theorem Rn {p:Prop} (g:p:=by (((with_reducible refine (?_:fO (_++_) (_+_) _ _));refine aD ?_ ?_;(focus (rw [bT,eY,jS];try omega));(conv=>whnf));(repeat' (first|exact jy|fail));first|done|fail)):p:=g
theorem EM {p:Prop} (g:p:=by (((with_reducible refine (?_:∃τ,vJ _ _ _ _ _ _ _=some τ∧_));refine ⟨_,Ow rfl ⟨oM,oM⟩ (bT kids) (ai kids),⟨?_,?_⟩,?_⟩;(focus (simp [put,ni,wv,cs,aA,ai]));(focus (simp [val,TZ,aV,dQ,wv,AV.one,cs,aA,ai,bQ (bJ (ai _))])));(repeat' (first|exact jy|fail));first|done|fail)):p:=g
theorem EL {p:Prop} (g:p:=by (((with_reducible refine (?_:yX _=true));exact aih aZ);(repeat' (first|exact jy|fail));first|done|fail)):p:=g
theorem EK {p:Prop} (g:p:=by (((with_reducible refine (?_:(_:Int)<=_));(try simp only [lL] at*);omega);(repeat' (first|exact jy|fail));first|done|fail)):p:=g
theorem Rl {p:Prop} (g:p:=by (((with_reducible refine (?_:sj (_++_) (_+_) _));refine aX ?_ ?_;(focus (rw [bT,eY,jS];try omega));(conv=>whnf));(repeat' (first|exact jy|fail));first|done|fail)):p:=g
theorem Rk {p:Prop} (g:p:=by (((with_reducible refine (?_:fO (_++_) _ _ _));refine ay ?_ ?_;(focus (rw [bT,eY,jS];try omega));(conv=>whnf));(repeat' (first|exact jy|fail));first|done|fail)):p:=g
theorem Rj {p:Prop} (g:p:=by (((with_reducible refine (?_:sj (_++_) (_+_) _));refine aX ?_ ?_;(focus (rw [bT,eY,iQ];first|done|omega));(conv=>whnf));(repeat' (first|exact jy|fail));first|done|fail)):p:=g
theorem Ri {p:Prop} (g:p:=by (((with_reducible refine (?_:yh _ (List.drop _ (_++(_++_))) _));refine QP ?_ ?_;(focus (rw [bT,eY,iQ,NF];first|done|omega));(conv=>whnf));(repeat' (first|exact jy|fail));first|done|fail)):p:=g
theorem Rh {p:Prop} (g:p:=by (((with_reducible refine (?_:fO (_++_) (_+_) _ _));refine aD ?_ ?_;(focus (rw [bT,eY,iQ];first|done|omega));(conv=>whnf));(repeat' (first|exact jy|fail));first|done|fail)):p:=g
theorem Rf {p:Prop} (g:p:=by (((with_reducible refine (?_:fO (_++_) _ _ _));refine ay ?_ ?_;(focus (rw [bT,eY,iQ];first|done|omega));(conv=>whnf));(repeat' (first|exact jy|fail));first|done|fail)):p:=g
theorem Re {p:Prop} (g:p:=by (((with_reducible refine (?_:(_:Nat)<=_));simp only [lL,List.nil_append,Nd.ae,Nd.lead,Nd.h,Nd.tr,Nd.kids,iI,cK,fD,bS,aj] at*;omega);(repeat' (first|exact jy|fail));first|done|fail)):p:=g
theorem Rc {p:Prop} (g:p:=by (((with_reducible refine (?_:fO (_++(_++_)) _ _ _));refine K9 ?_ ?_;(focus (rw [bT,eY,iQ,NF];first|done|omega));(conv=>whnf));(repeat' (first|exact jy|fail));first|done|fail)):p:=g
theorem Rb {p:Prop} (g:p:=by (((with_reducible refine (?_:yh _ (List.drop _ (_++_)) _));refine Bl ?_ ?_;(focus (rw [bT,eY,iQ];first|done|omega));(conv=>whnf));(repeat' (first|exact jy|fail));first|done|fail)):p:=g
section
set_option maxRecDepth 100000
namespace V
open Ab
open Bk (Cm)
theorem Wk.aba {e z n:Nat} {l:List AV} {L:List Cm} (h:dC n l L):Wk (.row e z n l) (cs L):=by rw [h.1,h.2];exact .row
def c74:aC:=fun args bx K=>match args,bx with
 |[.sl n l,.sl m k],[]=>∃L:List Cm,dC n l L∧(∃M:List Cm,dC m k M∧((L.length+M.length<=9000000000)∧K (cs (L++M)) []))
 |_,_=>False
def alH:=fN 74 Tryz.f74 9 [.tmp 4]
theorem CJ:aC.OK Tryz.prog 74 c74:=by
 intro args bx K0 h;unfold c74 at h;split at h
 ·rename_i n l m k;obtain ⟨L,⟨rfl,rfl⟩,M,⟨rfl,rfl⟩,h0,-⟩:=h;refine alH.okW (base:=0) rfl qg rfl ?_;have B:=V.base af.nil
  conv=>whnf
  repeat' (first
  |with_reducible refine WP.seq ?_
  |(with_reducible first|refine Go.mk ?_|refine WP.oC B (aH 74) ?_|refine WP.draw B (aH 74) ?_|refine WP.cond ?_|refine WP.exit ?_|refine WP.skip ?_|refine WP.ret ?_);conv=>whnf
  |with_reducible refine WP.block ?_
  |with_reducible assumption
  |with_reducible refine And.intro ?_ ?_
  |exact cL
  |(with_reducible intro h);first|(cases h;done)|(try simp only [lG,reduceCtorEq] at h);first|done|(exfalso;omega)|replace h:=h trivial aZ|replace h:=h aZ|skip
  |fail)
  all_goals exact ag.aU (Wk.aba (dC.app (dC.mk _) (dC.mk _))) (vK.refl _) (sM _) rfl fun K hK=>(BA (dC.mk _) (BA (dC.mk _) hK)).2
 ·exact h.elim
def c77:aC:=fun args bx K=>match args,bx with
 |[.agg [.int .i64 k,.int .i64 y,.int .i64 p,.int .i64 b,.str an,.str tg,.str tx,.sl n l,.sl n1 l1,.sl n2 l2,.bool h,.str tr]],[]=>(jR l=true∧jR l1=true∧jR l2=true)∧K (cs (kg h tr)) []
 |_,_=>False
def ahd:=fN 77 Tryz.f77 10 [.tmp 2]
theorem ac4.xt {p:Prop} (g:p:=by ((first|exact rX|((with_reducible refine (?_:ag _ _ _ _ _));first|(refine ag.aU (Wk.aba (L:=[⟨tr,0⟩]) ⟨rfl,rfl⟩) (vK.refl _) (sM _) rfl ?_;intro K hK;exact hK.2))|fail);(repeat' (first|exact bN|fail));first|done|fail)):p:=g
theorem ac3.xt {p:Prop} (g:p:=by ((first|((with_reducible refine (?_:ag _ _ _ _ _));first|(refine ag.aU Wk.nil (vK.refl _) (sM []) rfl ?_;intro K hK;exact hK.2))|fail);(repeat' (first|exact bN|fail));first|done|fail)):p:=g
theorem Eg:aC.OK Tryz.prog 77 c77:=by
 intro args bx K0 h;unfold c77 at h;split at h
 ·rename_i k y p b an tg tx n l n1 l1 n2 l2 h tr;obtain ⟨⟨h1,h2,h3⟩,-⟩:=h;cases h with
  |true=>
   refine ahd.okW (base:=0) rfl (by simp [gZ,wv,qI,AV.one,AV.flat,bB,h1,h2,h3]) rfl ?_;have B:=V.base af.nil
   conv=>whnf
   let zA:=(aH 77)
   open ac4 in exact bN
  |false=>
   refine ahd.okW (base:=0) rfl (by simp [gZ,wv,qI,AV.one,AV.flat,bB,h1,h2,h3]) rfl ?_;have B:=V.base af.nil
   conv=>whnf
   let zA:=(aH 77)
   open ac3 in exact bN
 ·exact h.elim
def c45:aC:=fun args bx K=>match args,bx with
 |[.ptr 0 0,.sl n l],[[.sl m k,.bool b]]=>∃C:List Cm,dC m k C∧(∃L:List Cm,dC n l L∧((C.length+L.length<=9000000000)∧K (cs (C++L)) [[cs [],.bool b]]))
 |_,_=>False
def alX:=fN 45 Tryz.f45 15 [.tmp 4]
theorem ac2.xt {p:Prop} (g:p:=by ((first|exact Ao|((with_reducible refine (?_:ag _ _ _ _ _));first|exact ag.aU kV kV qg qg fun K hK=>(BA (dC.mk _) (BA (dC.mk _) hK)).2)|fail);(repeat' (first|exact bN|fail));first|done|fail)):p:=g
theorem Gn:aC.OK Tryz.prog 45 c45:=by
 intro args bx K0 h;unfold c45 at h;split at h
 ·rename_i n l m k b;obtain ⟨C,⟨rfl,rfl⟩,L,⟨rfl,rfl⟩,h0,-⟩:=h;refine alX.okW (base:=1) rfl qg qg ?_;have B:=V.base (af.cons CJ af.nil)
  conv=>whnf
  let zA:=(aH 45)
  open ac2 in exact bN
 ·exact h.elim
theorem Bl {A l:List AV} {a n:Nat} {K:List AV->Prop} (ha:A.length=a) (h:yh n l K):yh n ((A++l).drop a) K:=by subst ha;rw [List.drop_left];exact h
theorem Ow {md:Md} {d y n:Nat} {k:List AV} {σ:aJ} (hy:get σ.tm y=.sl n k) (hn:0<n∧n<=10000000000) (hk:k.length=n*12) (hp:jR k=true):vJ gW md d σ (.const (.slice none 0 0)) (.tmp y) 33=some ⟨put σ.tm d (.bU σ.bx.length 35 12 n),σ.bx++[k]⟩:=by unfold vJ;rw [show vC gW 33=some (35,_) from rfl];simp only [];rw [show val σ.tm (.tmp y)=.sl n k from hy];rw [show elems (.sl n k)=some (n,k) from rfl];simp only [];rw [if_pos ⟨hn.1,hk,dE,dE,Cw hp,bB hp⟩];rw [show val σ.tm (.const (.slice none 0 0))=.nil from rfl];simp only [];rw [if_pos hn.2]
theorem KY {a:List Nd} {x y:Nd} {l:List Cm} (h:aj (x.ld [])=(y,l)):(aP (a++[x])).1=(aP a).1++[y]∧(aP (a++[x])).2=(aP a).2++x.lead++l:=by have h2:=xn a [x];rw [h2.1,h2.2];cases x;rw [Nd.ld,aj] at h;cases h;rw [aP,aP,aj];exact ⟨rfl,by simp [Nd.lead,List.append_assoc]⟩
def Qg (m:Nat):aC:=fun args bx K=>match args,bx with
 |[.agg xc],[]=>∃x:Nd,xc=bF x∧((fD x<=m∧fD x<=4000000000∧iI x<=4000000000)∧K (.bX [.agg (bF (aj x).1),cs (aj x).2]) [])
 |_,_=>False
def amx:zy:=⟨NI 75,[11],false,[],[]⟩
def ajp (kids:List Nd) (C0:List AV) (j:Nat) (τ:aJ):Prop:=∃a r:List Nd,kids=a++r∧j=r.length∧τ=⟨[(6,.int .i64 a.length),(5,.bU 2 35 12 kids.length),(4,cs (aP a).2),(2,.ptr 1 0),(1,.ptr 0 0)],[C0,zB,au (aP a).1++au r]⟩
def ahe:=fN 75 Tryz.f75 58 [.cell 2 35,.tmp 3]
theorem ac1.xt {p:Prop} (g:p:=by ((first|exact Ao|((with_reducible refine (?_:(_:Nat)<=_));simp only [lL,List.nil_append,Nd.ae,Nd.lead,Nd.h,Nd.tr,Nd.kids,iI,cK,fD,bS] at*;omega)|((with_reducible refine (?_:WP _ _ _ (.loop _) _ _));refine WP.once ?_)|((with_reducible refine (?_:ag _ _ _ _ _));first|exact ag.aU kV kV qg qg fun K hK=>(HZ rfl hK).2)|fail);(repeat' (first|exact bN|fail));first|done|fail)):p:=g
theorem aeS {m:Nat} {k y p b:Int} {an tg tx:ByteArray} {lead ae:List Cm} {h:Bool} {tr:ByteArray} {K0:AV->List (List AV)->Prop} (Dh:Qg m [.agg (bF (.mk k y p b an tg tx [] lead ae h tr))] [] K0):∃r bx',aW Tryz.prog 75 [.agg (bF (.mk k y p b an tg tx [] lead ae h tr))] [] r bx'∧wv r=true∧aV bx'=true∧∀K,Qg m [.agg (bF (.mk k y p b an tg tx [] lead ae h tr))] [] K->K r bx':=by
 have hb:=(HZ rfl Dh).1;simp only [iI,cK] at hb;refine ahe.okW (base:=0) rfl qg qg ?_;have B:=V.base (af.cons CJ (af.cons Eg af.nil))
 conv=>whnf
 let zA:=(aH 75)
 open ac1 in exact bN
theorem uZ {A:List Nd} {y:Nd} {post:List Nd}:au A++(bF y++au post)=au (A++[y])++au post:=by rw [jG,jU,List.append_assoc]
theorem acb {kids a post:List Nd} {x y:Nd} {l:List Cm} {C0 C1 C C3:List AV} {i:Int} {v:AV} (hk:kids=a++x::post) (hy:aj (x.ld [])=(y,l)) (hi:i=a.length+1) (hv:v=cs ((aP a).2++x.lead++l)) (hC:C=au (aP a).1++(bF y++au post)) (hC0:C1=C0) (hp:bW C0=[]):∃(j:Nat) (τ':aJ),j<(x::post).length∧Rx 0 ⟨[(6,.int .i64 i),(5,.bU 2 35 12 kids.length),(4,v),(2,.ptr 1 0),(1,.ptr 0 0)],[C1,zB,C,C3]⟩ τ'∧ajp kids C0 j τ':=by
 subst hi hv hC hC0;obtain ⟨h1,h2⟩:=KY hy;refine ⟨post.length,⟨[(6,.int .i64 (a.length+1:Int)),(5,.bU 2 35 12 kids.length),(4,cs ((aP a).2++x.lead++l)),(2,.ptr 1 0),(1,.ptr 0 0)],[C1,zB,au (aP a).1++(bF y++au post)]⟩,by simp,fun hσ=>?_,a++[x],post,by rw [hk];simp,rfl,?_⟩
 ·have hw:=hσ.bx;refine Rx.pick [0,1,2] dE (by intro i hi;omega) ?_ ?_ ⟨?_,?_⟩ hσ
  ·refine .same rfl hp (.same rfl rfl (.same rfl ?_ .nil));rw [uZ,←jG];exact bR (ai _)
  ·exact .cons (.same rfl) (.cons (.bU rfl) (.cons (.same rfl) (.cons (.ptr rfl) (.cons (.ptr rfl) .nil))))
  ·simp [ni,wv,cs,aA]
  ·rw [bg] at hw⊢;intro d hd;refine hw d ?_;simp only [List.mem_cons,List.not_mem_nil,or_false] at hd⊢;rcases hd with h|h|h
   ·exact .inl h
   ·exact .inr (.inl h)
   ·exact .inr (.inr (.inl h))
 ·rw [h1,h2,uZ];simp only [lL];rfl
theorem alo {kids:List Nd} {C0 C1 C:List AV} {N i:Nat} {v:AV} (hv:iY v=[]) (hw:wv v=true) (hC:C=au kids) (hN:N=kids.length) (hC0:C1=C0) (h0:bW C0=[]) (hw0:dQ C0=true) {e:Bool}:Rx 0 ⟨[(15,.bool e),(6,.int .i64 i),(5,.bU 2 35 12 N),(4,v),(2,.ptr 1 0),(1,.ptr 0 0)],[C1,zB,C]⟩ ⟨[(5,.sl kids.length (au kids)),(4,v),(2,.ptr 1 0),(1,.ptr 0 0)],[C0,zB]⟩:=by
 subst hC hN hC0;have ht:(au kids).take (kids.length*12)=au kids:=by rw [←bT,List.take_length]
 have:=Rx.fz (base:=0) (σ:=⟨[(15,.bool e),(6,.int .i64 i),(5,.bU 2 35 12 kids.length),(4,v),(2,.ptr 1 0),(1,.ptr 0 0)],[C1,zB,au kids]⟩) (τ:=⟨[(5,.sl kids.length ((au kids).take (kids.length*12))),(4,v),(2,.ptr 1 0),(1,.ptr 0 0)],[C1,zB]⟩) 2 oM rfl ?_ ?_ ?_
 ·rw [ht] at this;exact this
 ·exact .cons (.all (by rw [h0];simp)) (.cons (.all (by intro i hi;cases hi)) .nil)
 ·refine .drop rfl (.drop rfl (.cons (.box dE rfl (by rw [bT];exact Nat.le_refl _) (by rw [ht];exact ai _)) (.cons (.same (by rw [hv];simp)) (.cons (.same (by simp [iY])) (.cons (.same (by simp [iY])) .nil)))))
 ·rw [ht];exact ⟨(by simp [ni,wv,hw,ai]),(by simp [aV,dQ,wv,AV.one,zB,hw0])⟩
theorem fE:∀{l:List AV},jI l l
 |[]=> .nil
 |_::_=> .cons .refl fE
theorem ajc {kids:List Nd} {C0:List AV} (h0:dQ C0=true):Rx 0 ⟨[(6,.int .i64 0),(5,.bU 2 35 12 kids.length),(4,.nil),(2,.ptr 1 0),(1,.ptr 0 0)],[C0,zB,au kids]⟩ ⟨[(6,.int .i64 (([]:List Nd).length:Int)),(5,.bU 2 35 12 kids.length),(4,cs (aP []).2),(2,.ptr 1 0),(1,.ptr 0 0)],[C0,zB,au (aP []).1++au kids]⟩:=
 Rx.wv (.cons fE (.cons fE (.cons fE .nil))) (.cons .refl (.cons .refl (.cons (Wv.of Wk.nil) (.cons .refl (.cons .refl .nil))))) ⟨(by simp [ni,wv,cs,aA]),(by simp [aV,dQ,wv,AV.one,zB,h0,bQ (bJ (ai _)),aP,au])⟩
theorem aif {m:Nat} {k y p b:Int} {an tg tx:ByteArray} {kids a:List Nd} {lead ae:List Cm} {h:Bool} {tr:ByteArray} {xc:List AV} {K:AV->List (List AV)->Prop} (hx:xc=bF (.mk k y p b an tg tx kids lead ae h tr)) (hk:kids=a++[]) (hK:Qg m [.agg xc] [] K):K (.bX [.agg (bF (.mk k y p b an tg tx (aP a).1 lead [] false ByteArray.empty)),cs ((aP a).2++ae++kg h tr)]) []:=by rw [List.append_nil] at hk;subst hk;have:=(HZ hx hK).2;rw [aj] at this;exact this
theorem Yj.xp {p:Prop} (g:p:=by ((first|((with_reducible refine (?_:WP _ _ _ (.seq (.region 10 _ _) _) ⟨(15,_)::_,_⟩ _));refine WP.jB (alo (kids:=(aP a).1) rfl (sM _) ?_ ?_ rfl rfl qg) ?_;(focus (rw [au,List.append_nil]));(focus (rw [jF];omega)))|fail);(repeat' (first|exact jy|fail));first|done|fail)):p:=g
theorem Yj.xt {p:Prop} (g:p:=by ((first|((with_reducible refine (?_:sj (_++_) (_+_) _));refine aX ?_ ?_;(focus (rw [bT,jF];omega));(conv=>whnf))|exact Ck|((with_reducible refine (?_:fO (_++_) (_+_) _ _));refine aD ?_ ?_;(focus (rw [bT,jF];omega));(conv=>whnf))|((with_reducible refine (?_:fO (_++_) _ _ _));refine ay ?_ ?_;(focus (rw [bT,jF];omega));(conv=>whnf))|((with_reducible refine (?_:yh _ (List.drop _ (_++_)) _));refine Bl ?_ ?_;(focus (rw [bT,jF];omega));(conv=>whnf))|((with_reducible refine (?_:∃x:Nd,_=bF x∧_));refine ⟨.mk k1 y1 p1 b1 ed dZ dY aF [] aI gK dU,rfl,?_⟩)|((with_reducible refine (?_:∃(j:Nat) (τ':aJ),j<_∧Rx 0 _ τ'∧_));exact acb (x:=.mk k1 y1 p1 b1 ed dZ dY aF aG aI gK dU) (y:=(aj (.mk k1 y1 p1 b1 ed dZ dY aF [] aI gK dU)).1) (l:=(aj (.mk k1 y1 p1 b1 ed dZ dY aF [] aI gK dU)).2) hk rfl rfl rfl rfl rfl rfl)|exact Am|exact Nc|((with_reducible refine (?_:WP _ _ _ (.loop _) _ _));refine WP.jB (ajc qg) ?_;apply WP.loop (ajp kids _);(case h0=>exact ⟨[],kids,rfl,rfl,rfl⟩);(case' h=>(rintro j τ ⟨a,r,hk,rfl,rfl⟩;have e1:=congrArg List.length hk;have e2:=congrArg cK hk;have e3:=congrArg bS hk;have e4:=kE a;rw [List.length_append] at e1;rw [iV] at e2;rw [gB] at e3;rcases r with _|⟨⟨k1,y1,p1,b1,ed,dZ,dY,aF,aG,aI,gK,dU⟩,post⟩;all_goals (first|(rw [List.length_cons,cK,bS,iI,fD] at*;rw [zO];have e5:=(qa (Nd.mk k1 y1 p1 b1 ed dZ dY aF [] aI gK dU)).1)|(rw [List.length_nil,cK,bS] at*)))))|((with_reducible refine (?_:∃τ,vJ _ _ _ _ _ _ _=some τ∧_));refine ⟨_,Ow rfl ⟨oM,oM⟩ (bT kids) (ai kids),⟨?_,?_⟩,?_⟩;(focus (simp [put,ni,wv,cs,aA,ai]));(focus (simp [aV,dQ,wv,AV.one,cs,aA,ai,bQ (bJ (ai _))])))|((with_reducible refine (?_:ag _ _ _ _ _));first|exact ag.aU kV kV qg qg fun K hK=>aif (a:=a) rfl hk hK)|fail);(repeat' (first|exact jy|fail));first|done|fail)):p:=g
theorem aeU {m:Nat} (ih:aC.OK Tryz.prog 75 (Qg m)) {k y p b:Int} {an tg tx:ByteArray} {kids:List Nd} {lead ae:List Cm} {h:Bool} {tr:ByteArray} (hne:kids≠[]) {K0:AV->List (List AV)->Prop} (Dh:Qg (m+1) [.agg [.int .i64 k,.int .i64 y,.int .i64 p,.int .i64 b,.str an,.str tg,.str tx,.sl kids.length (au kids),cs lead,cs ae,.bool h,.str tr]] [] K0):∃r bx',aW Tryz.prog 75 [.agg [.int .i64 k,.int .i64 y,.int .i64 p,.int .i64 b,.str an,.str tg,.str tx,.sl kids.length (au kids),cs lead,cs ae,.bool h,.str tr]] [] r bx'∧wv r=true∧aV bx'=true∧∀K,Qg (m+1) [.agg [.int .i64 k,.int .i64 y,.int .i64 p,.int .i64 b,.str an,.str tg,.str tx,.sl kids.length (au kids),cs lead,cs ae,.bool h,.str tr]] [] K->K r bx':=by
 have hb:=(HZ (x:=.mk k y p b an tg tx kids lead ae h tr) rfl Dh).1;simp only [iI,fD] at hb;have hl:=jq kids;have hl0:0<kids.length:=by cases kids with|nil=>exact absurd rfl hne|cons x l=>simp
 refine ahe.okW (base:=0) rfl qg qg ?_;have B:=V.base (af.cons ih (af.cons CJ (af.cons Eg af.nil)))
 conv=>whnf
 let zA:=amx
 open Yj in exact jy
theorem aeT:aC.OK Tryz.prog 75 (Qg 0):=fun args bx K0 h=>by
 unfold Qg at h;split at h
 ·obtain ⟨x,-,⟨h1,-⟩,-⟩:=h;cases x;rw [fD] at h1;omega
 ·exact h.elim
theorem aeR {m:Nat} (ih:aC.OK Tryz.prog 75 (Qg m)):aC.OK Tryz.prog 75 (Qg (m+1)):=by
 intro args bx K0 h;have h':=h;unfold Qg at h';split at h'
 ·rename_i xc;obtain ⟨x,rfl,-⟩:=h';obtain ⟨k,y,p,b,an,tg,tx,kids,lead,ae,hh,tr⟩:=x;by_cases hne:kids=[]
  ·subst hne;exact aeS h
  ·exact aeU ih hne h
 ·exact h'.elim
theorem V4:∀m:Nat,aC.OK Tryz.prog 75 (Qg m)
 |0=>aeT
 |m+1=>aeR (V4 m)
theorem iC (blk:Bool) (c l:List Cm) (k y p b:Int) (an tg tx:ByteArray) (kids:List Nd) (lead ae:List Cm) (h:Bool) (tr:ByteArray):aL blk [] c (.mk k y p b an tg tx kids (l++lead) ae h tr)=aL blk l c (.mk k y p b an tg tx kids lead ae h tr):=by cases kids<;>rw [aL,aL]<;>simp only [List.nil_append]
def Zc (blk:Bool) (y:Int):Bool:=decide (y=6)||(blk && decide (y=7))
theorem VC {blk:Bool} {c:List Cm} {y p b:Int} {an tg tx:ByteArray} {kids:List Nd} {lead ae:List Cm} {h:Bool} {tr:ByteArray} (hne:kids≠[]):aL blk [] c (.mk 3 y p b an tg tx kids lead ae h tr)=mK blk 3 y p b an tg tx (bC (Zc blk y) (bP blk c kids).1).1 (lead++(bC (Zc blk y) (bP blk c kids).1).2) ae h tr (bP blk c kids).2:=by
 cases kids with
 |nil=>exact absurd rfl hne
 |cons x l=>
  rw [aL];rw [if_pos (.inl rfl)];simp only [List.nil_append,if_true];rfl
theorem VD {blk:Bool} {c:List Cm} {y p b:Int} {an tg tx:ByteArray} {kids:List Nd} {lead ae:List Cm} {h:Bool} {tr:ByteArray} (hne:kids≠[]):aL blk [] c (.mk 4 y p b an tg tx kids lead ae h tr)=mK blk 4 y p b an tg tx (bC (Zc blk y) (bO blk c kids).1).1 (lead++(bC (Zc blk y) (bO blk c kids).1).2) ae h tr (bO blk c kids).2:=by
 cases kids with
 |nil=>exact absurd rfl hne
 |cons x l=>
  rw [aL];rw [if_pos (.inr rfl)];simp only [List.nil_append,show ¬((4:Int)=3) by decide,if_false];rfl
theorem JQ (b:Bool):bC b []=([],[]):=by unfold bC;split<;>first|rfl|simp_all
theorem qw (b:Bool):∀(l m:List Nd),l≠[]->bC b (l++m)=((bC b l).1++m,(bC b l).2)
 |[],m,h=>absurd rfl h
 |x::l,m,_=>by cases b<;>rfl
def xM (m:Nat):aC:=fun args bx K=>match args,bx with
 |[.ptr 0 0,.agg xc],[[.sl nc lc,.bool blk]]=>∃c:List Cm,dC nc lc c∧(∃x:Nd,xc=bF x∧((fD x<=m∧fD x<=4000000000∧iI x+c.length<=4000000000∧yX x=true)∧K (.agg (bF (aL blk [] c x).1)) [[cs (aL blk [] c x).2,.bool blk]]))
 |_,_=>False
theorem NY {m:Nat} {c:List Cm} {x Y:Nd} {L:List Cm} {blk:Bool} {xc:List AV} {K:AV->List (List AV)->Prop} (hx:xc=bF x) (he:aL blk [] c x=(Y,L)) (hK:xM m [.ptr 0 0,.agg xc] [[cs c,.bool blk]] K):K (.agg (bF Y)) [[cs L,.bool blk]]:=by have:=(HZ hx (BA (dC.mk c) hK)).2;rw [he] at this;exact this
def Kl:zy:=⟨NI 44,[47],false,[],[]⟩
def JU:=fN 44 Tryz.f44 169 [.cell 4 35]
theorem ac0.xt {p:Prop} (g:p:=by ((first|((with_reducible refine (?_:ag _ _ _ _ _));first|exact ag.aU kV kV qg qg fun K hK=>NY (x:=.mk k y p b an tg tx kids lead ae hh tr) (Y:=.mk k y p b an tg tx kids lead ae hh tr) (L:=c) rfl (by cases kids<;>rw [aL]<;>rw [if_neg hk]<;>rfl) hK)|fail);(repeat' (first|exact bN|fail));first|done|fail)):p:=g
theorem ae5 {m:Nat} {k y p b:Int} {an tg tx:ByteArray} {kids:List Nd} {lead ae:List Cm} {hh:Bool} {tr:ByteArray} {c:List Cm} {blk:Bool} (hk:¬(k=3∨k=4)) {K0:AV->List (List AV)->Prop} (Dh:xM m [.ptr 0 0,.agg [.int .i64 k,.int .i64 y,.int .i64 p,.int .i64 b,.str an,.str tg,.str tx,.sl kids.length (au kids),cs lead,cs ae,.bool hh,.str tr]] [[cs c,.bool blk]] K0):∃r bx',aW Tryz.prog 44 [.ptr 0 0,.agg [.int .i64 k,.int .i64 y,.int .i64 p,.int .i64 b,.str an,.str tg,.str tx,.sl kids.length (au kids),cs lead,cs ae,.bool hh,.str tr]] [[cs c,.bool blk]] r bx'∧wv r=true∧aV bx'=true∧∀K,xM m [.ptr 0 0,.agg [.int .i64 k,.int .i64 y,.int .i64 p,.int .i64 b,.str an,.str tg,.str tx,.sl kids.length (au kids),cs lead,cs ae,.bool hh,.str tr]] [[cs c,.bool blk]] K->K r bx':=by
 refine JU.okW (base:=1) rfl qg qg ?_;have B:=V.base (af.cons Gn (af.cons CJ (af.cons Ju (af.cons Eg af.nil))));have h3:k≠3:=fun e=>hk (.inl e);have h4:k≠4:=fun e=>hk (.inr e)
 conv=>whnf
 let zA:=Kl
 open ac0 in exact bN
theorem acZ.xt {p:Prop} (g:p:=by ((first|exact Ao|((with_reducible refine (?_:ag _ _ _ _ _));first|exact ag.aU kV kV qg qg fun K hK=>NY (x:=.mk k y p b an tg tx [] lead ae hh tr) (Y:=.mk k y p b an tg tx [] (lead++ae) [] hh tr) (L:=c) rfl (by rw [aL,if_pos hk];rfl) hK)|fail);(repeat' (first|exact bN|fail));first|done|fail)):p:=g
theorem ae4 {m:Nat} {k y p b:Int} {an tg tx:ByteArray} {lead ae:List Cm} {hh:Bool} {tr:ByteArray} {c:List Cm} {blk:Bool} (hk:k=3∨k=4) {K0:AV->List (List AV)->Prop} (Dh:xM m [.ptr 0 0,.agg [.int .i64 k,.int .i64 y,.int .i64 p,.int .i64 b,.str an,.str tg,.str tx,.sl ([]:List Nd).length (au []),cs lead,cs ae,.bool hh,.str tr]] [[cs c,.bool blk]] K0):∃r bx',aW Tryz.prog 44 [.ptr 0 0,.agg [.int .i64 k,.int .i64 y,.int .i64 p,.int .i64 b,.str an,.str tg,.str tx,.sl ([]:List Nd).length (au []),cs lead,cs ae,.bool hh,.str tr]] [[cs c,.bool blk]] r bx'∧wv r=true∧aV bx'=true∧∀K,xM m [.ptr 0 0,.agg [.int .i64 k,.int .i64 y,.int .i64 p,.int .i64 b,.str an,.str tg,.str tx,.sl ([]:List Nd).length (au []),cs lead,cs ae,.bool hh,.str tr]] [[cs c,.bool blk]] K->K r bx':=by
 have hb:=(HZ (x:=.mk k y p b an tg tx [] lead ae hh tr) rfl (BA (dC.mk c) Dh)).1;simp only [iI,fD,cK,bS] at hb;refine JU.okW (base:=1) rfl qg qg ?_;have B:=V.base (af.cons Gn (af.cons CJ (af.cons Ju (af.cons Eg af.nil))))
 conv=>whnf
 let zA:=Kl
 open acZ in exact bN
theorem CV (x:Nd):x.lead.length<=iI x:=by cases x;rw [iI,Nd.lead];omega
def xQ (k y p b:Int) (an tg tx:ByteArray) (kids:List Nd) (lead ae:List Cm) (hh:Bool) (tr:ByteArray):List AV:=[.int .i64 k,.int .i64 y,.int .i64 p,.int .i64 b,.str an,.str tg,.str tx,.sl kids.length (au kids),cs lead,cs ae,.bool hh,.str tr]
def Et (blk:Bool) (c:List Cm) (kids:List Nd) (y' p b:Int) (an tg tx:ByteArray) (lead ae:List Cm) (hh:Bool) (tr:ByteArray) (tn hb:Bool) (j:Nat) (τ:aJ):Prop:=∃a r:List Nd,kids=a++r∧j=r.length∧τ=⟨[(7,.int .i64 a.length),(6,.bU 3 35 12 kids.length),(5,.bool tn),(4,.ptr 2 0),(3,.ptr 1 0),(0,.ptr 0 0)],[[cs (bP blk c a).2,.bool blk],xQ 3 y' p b an tg tx kids (lead++(bC hb (bP blk c a).1).2) ae hh tr,zB,au (bC hb (bP blk c a).1).1++au r]⟩
theorem Et.beg {blk:Bool} {c:List Cm} {kids:List Nd} {y' p b:Int} {an tg tx:ByteArray} {lead ae:List Cm} {hh:Bool} {tr:ByteArray} {tn hb:Bool}:Et blk c kids y' p b an tg tx lead ae hh tr tn hb kids.length ⟨[(7,.int .i64 0),(6,.bU 3 35 12 kids.length),(5,.bool tn),(4,.ptr 2 0),(3,.ptr 1 0),(0,.ptr 0 0)],[[cs c,.bool blk],xQ 3 y' p b an tg tx kids lead ae hh tr,zB,au kids]⟩:=by refine ⟨[],kids,rfl,rfl,?_⟩;rw [bP];simp only [JQ,List.append_nil];rfl
theorem Gh {i:Int} {N:Nat} {t:Bool} {S X C:List AV} {rest:List (List AV)} (hS:bW S=[]) (hX:bW X=[]) (hC:bW C=[]):Rx 1 ⟨[(7,.int .i64 i),(6,.bU 3 35 12 N),(5,.bool t),(4,.ptr 2 0),(3,.ptr 1 0),(0,.ptr 0 0)],S::X::zB::C::rest⟩ ⟨[(7,.int .i64 i),(6,.bU 3 35 12 N),(5,.bool t),(4,.ptr 2 0),(3,.ptr 1 0),(0,.ptr 0 0)],[S,X,zB,C]⟩:=by
 intro hσ;have hw:=hσ.bx;refine Rx.pick [0,1,2,3] dE (fun i hi=>(by rw [show i=0 by omega];rfl)) ?_ ?_ ⟨?_,?_⟩ hσ
 ·exact .same rfl hS (.same rfl hX (.same rfl rfl (.same rfl hC .nil)))
 ·exact .cons (.same rfl) (.cons (.bU rfl) (.cons (.same rfl) (.cons (.ptr rfl) (.cons (.ptr rfl) (.cons (.ptr rfl) .nil)))))
 ·simp [ni,wv]
 ·rw [bg] at hw⊢;intro d hd;refine hw d ?_;simp only [List.mem_cons,List.not_mem_nil,or_false] at hd⊢;rcases hd with h|h|h|h
  ·exact .inl h
  ·exact .inr (.inl h)
  ·exact .inr (.inr (.inl h))
  ·exact .inr (.inr (.inr (.inl h)))
theorem zk {blk:Bool} {c:List Cm} {kids a post:List Nd} {x:Nd} {y' p b:Int} {an tg tx:ByteArray} {lead ae L8:List Cm} {hh:Bool} {tr:ByteArray} {tn hb:Bool} {Z:Nd×List Cm} {S C:List AV} {rest:List (List AV)} {i:Int} (hk:kids=a++x::post) (hZ:aL blk (bP blk c a).2 [] x=Z) (hi:i=a.length+1) (hS:S=[cs Z.2,.bool blk]) (hL:L8=lead++(bC hb ((bP blk c a).1++[Z.1])).2) (hC:C=au (bC hb ((bP blk c a).1++[Z.1])).1++au post):∃(j:Nat) (τ':aJ),j<(x::post).length∧Rx 1 ⟨[(7,.int .i64 i),(6,.bU 3 35 12 kids.length),(5,.bool tn),(4,.ptr 2 0),(3,.ptr 1 0),(0,.ptr 0 0)],S::xQ 3 y' p b an tg tx kids L8 ae hh tr::zB::C::rest⟩ τ'∧Et blk c kids y' p b an tg tx lead ae hh tr tn hb j τ':=by subst hi hS hL hC;refine ⟨post.length,_,by simp,Gh rfl rfl (by rw [←jG];exact bR (ai _)),a++[x],post,by rw [hk];simp,rfl,?_⟩;rw [Co,hZ];simp only [lL];rfl
theorem Pv {i:Int} {N:Nat} {t e:Bool} {S X C:List AV} {kids:List Nd} (hC:C=au kids) (hN:N=kids.length) (hS:bW S=[]) (hX:bW X=[]) (hSw:dQ S=true) (hXw:dQ X=true):Rx 1 ⟨[(51,.bool e),(7,.int .i64 i),(6,.bU 3 35 12 N),(5,.bool t),(4,.ptr 2 0),(3,.ptr 1 0),(0,.ptr 0 0)],[S,X,zB,C]⟩ ⟨[(6,.sl kids.length (au kids)),(5,.bool t),(4,.ptr 2 0),(3,.ptr 1 0),(0,.ptr 0 0)],[S,X,zB]⟩:=by
 subst hC hN;have ht:(au kids).take (kids.length*12)=au kids:=by rw [←bT,List.take_length]
 have:=Rx.fz (base:=1) (σ:=⟨[(51,.bool e),(7,.int .i64 i),(6,.bU 3 35 12 kids.length),(5,.bool t),(4,.ptr 2 0),(3,.ptr 1 0),(0,.ptr 0 0)],[S,X,zB,au kids]⟩) (τ:=⟨[(6,.sl kids.length ((au kids).take (kids.length*12))),(5,.bool t),(4,.ptr 2 0),(3,.ptr 1 0),(0,.ptr 0 0)],[S,X,zB]⟩) 3 oM rfl ?_ ?_ ?_
 ·rw [ht] at this;exact this
 ·exact .cons (.all (by rw [hS];simp)) (.cons (.all (by rw [hX];simp)) (.cons (.all (by intro i hi;cases hi)) .nil))
 ·refine .drop rfl (.drop rfl (.cons (.box dE rfl (by rw [bT];exact Nat.le_refl _) (by rw [ht];exact ai _)) (.cons (.same (by simp [iY])) (.cons (.same (by simp [iY])) (.cons (.same (by simp [iY])) (.cons (.same (by simp [iY])) .nil))))))
 ·rw [ht];exact ⟨(by simp [ni,wv,ai]),(by simp [aV,dQ,wv,AV.one,zB,hSw,hXw])⟩
theorem Ma {m:Nat} {c:List Cm} {y p b:Int} {an tg tx:ByteArray} {kids a:List Nd} {lead ae:List Cm} {hh:Bool} {tr:ByteArray} {Y:Nd} {L:List Cm} {blk:Bool} {xc:List AV} {K:AV->List (List AV)->Prop} (hx:xc=bF (.mk 3 y p b an tg tx kids lead ae hh tr)) (hk:kids=a++[]) (hne:kids≠[]) (he:mK blk 3 y p b an tg tx (bC (Zc blk y) (bP blk c a).1).1 (lead++(bC (Zc blk y) (bP blk c a).1).2) ae hh tr (bP blk c a).2=(Y,L)) (hK:xM m [.ptr 0 0,.agg xc] [[cs c,.bool blk]] K):K (.agg (bF Y)) [[cs L,.bool blk]]:=by rw [List.append_nil] at hk;subst hk;exact NY hx (by rw [VC hne];exact he) hK
theorem aks {y:Nd} {post:List Nd}:bF y++au post=au [y]++au post:=by rw [jU]
theorem sU {k y p b:Int} {an tg tx:ByteArray} {kids:List Nd} {lead ae:List Cm} {hh:Bool} {tr:ByteArray}:dQ (xQ k y p b an tg tx kids lead ae hh tr)=true:=by simp [xQ,dQ,wv,AV.one,cs,aA,ai]
theorem Ou {blk:Bool} {c:List Cm} {kids post:List Nd} {x:Nd} {y' p b:Int} {an tg tx:ByteArray} {lead ae L8:List Cm} {hh:Bool} {tr:ByteArray} {tn:Bool} {Z:Nd×List Cm} {S C:List AV} {rest:List (List AV)} {i:Int} (hk:kids=[]++x::post) (hZ:aL blk (bP blk c []).2 [] x=Z) (hi:i=(([]:List Nd).length:Int)+1) (hS:S=[cs Z.2,.bool blk]) (hL:L8=lead++[]++Z.1.lead) (hC:C=.int .i64 Z.1.k::.int .i64 Z.1.y::.int .i64 Z.1.p::.int .i64 Z.1.b::.str Z.1.an::.str Z.1.tg::.str Z.1.tx::.sl Z.1.kids.length (au Z.1.kids)::.nil::cs Z.1.ae::.bool Z.1.h::.str Z.1.tr::au post):∃(j:Nat) (τ':aJ),j<(x::post).length∧Rx 1 ⟨[(7,.int .i64 i),(6,.bU 3 35 12 kids.length),(5,.bool tn),(4,.ptr 2 0),(3,.ptr 1 0),(0,.ptr 0 0)],S::xQ 3 y' p b an tg tx kids L8 ae hh tr::zB::C::rest⟩ τ'∧Et blk c kids y' p b an tg tx lead ae hh tr tn true j τ':=by
 have hL:L8=lead++(bC true ((bP blk c []).1++[Z.1])).2:=by rw [hL,List.append_nil];rfl
 have hi':i=(([]:List Nd).length:Int)+1:=hi;obtain ⟨j,τ',h1,h2,h3⟩:=zk (tn:=tn) (y':=y') (p:=p) (b:=b) (an:=an) (tg:=tg) (tx:=tx) (ae:=ae) (hh:=hh) (tr:=tr) (rest:=[]) hk hZ hi' hS hL rfl;refine ⟨j,τ',h1,Rx.trans (Gh (by rw [hS];rfl) rfl (by rw [hC];simp [bW,iY,cs,bR (ai _)])) (Rx.trans (Rx.wv ?_ ?_ ?_) h2),h3⟩
 ·refine .cons fE (.cons fE (.cons fE (.cons ?_ .nil)));rw [hC];have:au (bC true ((bP blk c []).1++[Z.1])).1++au post=.int .i64 Z.1.k::.int .i64 Z.1.y::.int .i64 Z.1.p::.int .i64 Z.1.b::.str Z.1.an::.str Z.1.tg::.str Z.1.tx::.sl Z.1.kids.length (au Z.1.kids)::.sl 0 []::cs Z.1.ae::.bool Z.1.h::.str Z.1.tr::au post:=by show au [Z.1.ld []]++au post=_;rw [jU];cases Z.1;rfl
  rw [this];exact .cons .refl (.cons .refl (.cons .refl (.cons .refl (.cons .refl (.cons .refl (.cons .refl (.cons .refl (.cons (Wv.of Wk.nil) (.cons .refl (.cons .refl (.cons .refl fE)))))))))))
 ·exact .cons .refl (.cons .refl (.cons .refl (.cons .refl (.cons .refl (.cons .refl .nil)))))
 ·refine ⟨by simp [ni,wv],?_⟩;have h4:dQ (au (bC true ((bP blk c []).1++[Z.1])).1++au post)=true:=bH (bQ (bJ (ai _))) (bQ (bJ (ai _)));rw [hS];simp [aV,dQ,wv,AV.one,zB,cs,aA,sU,h4]
theorem aih {k y p b:Int} {an tg tx:ByteArray} {kids:List Nd} {lead mD ae:List Cm} {hh:Bool} {tr:ByteArray} (h:yX (.mk k y p b an tg tx kids lead ae hh tr)=true):yX (.mk k y p b an tg tx kids mD ae hh tr)=true:=by rw [yX] at h⊢;exact h
theorem GL {a:List Nd} {x:Nd} {l:List Nd} (h:(uK a && uK (x::l))=true):yX x=true:=by rw [Bool.and_eq_true,uK,Bool.and_eq_true] at h;exact h.2.1
theorem nR {k y p b:Int} {an tg tx:ByteArray} {kids:List Nd} {lead ae:List Cm} {hh:Bool} {tr:ByteArray} (h:yX (.mk k y p b an tg tx kids lead ae hh tr)=true):uK kids=true∧(k=4->kids.length % 2=0)∧(k=3∨k=4->y=6∨y=7):=by
 rw [yX] at h;simp only [Bool.and_eq_true,Bool.or_eq_true,Bool.not_eq_true',Bool.or_eq_false_iff,decide_eq_true_eq,decide_eq_false_iff_not] at h;refine ⟨h.2,fun e=>h.1.1.resolve_left (fun n=>n e),fun e=>h.1.2.resolve_left (fun n=>?_)⟩;rcases e with e|e
 ·exact n.1 e
 ·exact n.2 e
theorem Yi.xp {p:Prop} (g:p:=by ((first|((with_reducible refine (?_:WP _ _ _ (.seq (.region 33 _ _) _) ⟨(51,_)::_,_⟩ _));refine WP.jB (Pv (kids:=(bC true (bP true c a).1).1) ?hC ?hN ?hS ?hX ?hSw ?hXw) ?_;(case hC=>(rw [au,List.append_nil]));(case hN=>(rw [eY,jS];omega));(case hS=>rfl);(case hX=>rfl);(case hSw=>(simp [dQ,wv,AV.one,cs,aA]));(case hXw=>exact sU))|fail);(repeat' (first|exact jy|fail));first|done|fail)):p:=g
theorem Yi.xt {p:Prop} (g:p:=by ((first|exact Am|exact Nc|exact EK|exact Rl|exact Ck|exact Rn|exact Rk|exact Ro|exact EM|((with_reducible refine (?_:WP _ _ _ (.loop _) _ _));apply WP.loop (Et true c kids 6 p b an tg tx lead ae hh tr true true);(case h0=>exact Et.beg);(case' h=>(rintro j τ ⟨a,r,hk,rfl,rfl⟩;have e1:=congrArg List.length hk;have e2:=congrArg cK hk;have e3:=congrArg bS hk;have e4:=um true c a;have e0:=congrArg uK hk;rw [List.length_append] at e1;rw [iV] at e2;rw [gB] at e3;rw [pM,h4] at e0;rcases r with _|⟨⟨k1,y1,p1,b1,ed,dZ,dY,aF,aG,aI,gK,dU⟩,post⟩;all_goals (first|(rw [List.length_cons,cK,bS,iI,fD] at*;have e7:=GL e0.symm;clear e0;rw [zO];have e5:=mO true [] [] (.mk k1 y1 p1 b1 ed dZ dY aF ((bP true c a).2++aG) aI gK dU);have e6:=CV (aL true [] [] (.mk k1 y1 p1 b1 ed dZ dY aF ((bP true c a).2++aG) aI gK dU)).1;(have e8:(bC true (bP true c []).1).2.length=0:=rfl);rcases a with _|⟨a0,a'⟩)|(rw [List.length_nil,cK,bS] at*)))))|((with_reducible refine (?_:∃x:Nd,_=bF x∧_));first|(refine ⟨.mk k1 y1 p1 b1 ed dZ dY aF ((bP true c []).2++aG) aI gK dU,rfl,?_⟩)|(refine ⟨.mk k1 y1 p1 b1 ed dZ dY aF ((bP true c (a0::a')).2++aG) aI gK dU,rfl,?_⟩))|exact EL|((with_reducible refine (?_:∃(j:Nat) (τ':aJ),j<_∧Rx 1 _ τ'∧_));exact Ou (x:=.mk k1 y1 p1 b1 ed dZ dY aF aG aI gK dU) (Z:=(aL true [] [] (.mk k1 y1 p1 b1 ed dZ dY aF ((bP true c []).2++aG) aI gK dU))) hk (iC _ _ _ _ _ _ _ _ _ _ _ _ _ _ _).symm rfl rfl rfl rfl)|((with_reducible refine (?_:∃(j:Nat) (τ':aJ),j<_∧Rx 1 _ τ'∧_));exact zk (a:=(a0::a')) (x:=.mk k1 y1 p1 b1 ed dZ dY aF aG aI gK dU) (Z:=(aL true [] [] (.mk k1 y1 p1 b1 ed dZ dY aF ((bP true c (a0::a')).2++aG) aI gK dU))) hk (iC _ _ _ _ _ _ _ _ _ _ _ _ _ _ _).symm rfl rfl (by rw [qw _ _ _ (by rw [bP];exact List.cons_ne_nil _ _)]) (by rw [qw _ _ _ (by rw [bP];exact List.cons_ne_nil _ _)];exact uZ))|((with_reducible refine (?_:ag _ _ _ _ _));first|exact ag.aU kV kV qg qg fun K hK=>Ma (Y:=.mk 3 6 p b an tg tx (bC true (bP true c a).1).1 (lead++(bC true (bP true c a).1).2) [] false ByteArray.empty) (L:=(bP true c a).2++ae++kg hh tr) rfl hk hne rfl hK)|fail);(repeat' (first|exact jy|fail));first|done|fail)):p:=g
theorem aaP {m:Nat} (ih:aC.OK Tryz.prog 44 (xM m)) {p b:Int} {an tg tx:ByteArray} {kids:List Nd} {lead ae:List Cm} {hh:Bool} {tr:ByteArray} {c:List Cm} (hne:kids≠[]) {K0:AV->List (List AV)->Prop} (Dh:xM (m+1) [.ptr 0 0,.agg [.int .i64 3,.int .i64 7,.int .i64 p,.int .i64 b,.str an,.str tg,.str tx,.sl kids.length (au kids),cs lead,cs ae,.bool hh,.str tr]] [[cs c,.bool true]] K0):∃r bx',aW Tryz.prog 44 [.ptr 0 0,.agg [.int .i64 3,.int .i64 7,.int .i64 p,.int .i64 b,.str an,.str tg,.str tx,.sl kids.length (au kids),cs lead,cs ae,.bool hh,.str tr]] [[cs c,.bool true]] r bx'∧wv r=true∧aV bx'=true∧∀K,xM (m+1) [.ptr 0 0,.agg [.int .i64 3,.int .i64 7,.int .i64 p,.int .i64 b,.str an,.str tg,.str tx,.sl kids.length (au kids),cs lead,cs ae,.bool hh,.str tr]] [[cs c,.bool true]] K->K r bx':=by
 obtain ⟨h1,h2,h3,h4⟩:=(HZ (x:=.mk 3 7 p b an tg tx kids lead ae hh tr) rfl (BA (dC.mk c) Dh)).1;replace h4:=(nR h4).1;simp only [iI,fD] at h1 h2 h3;have hl:=jq kids;have hl0:0<kids.length:=by cases kids with|nil=>exact absurd rfl hne|cons x l=>simp
 refine JU.okW (base:=1) rfl qg qg ?_;have B:=V.base (af.cons ih (af.cons Gn (af.cons CJ (af.cons Ju (af.cons Eg af.nil)))))
 conv=>whnf
 let zA:=Kl
 open Yi in exact jy
theorem Yh.xp {p:Prop} (g:p:=by ((first|((with_reducible refine (?_:WP _ _ _ (.seq (.region 33 _ _) _) ⟨(51,_)::_,_⟩ _));refine WP.jB (Pv (kids:=(bC true (bP blk c a).1).1) ?hC ?hN ?hS ?hX ?hSw ?hXw) ?_;(case hC=>(rw [au,List.append_nil]));(case hN=>(rw [eY,jS];omega));(case hS=>rfl);(case hX=>rfl);(case hSw=>(simp [dQ,wv,AV.one,cs,aA]));(case hXw=>exact sU))|fail);(repeat' (first|exact jy|fail));first|done|fail)):p:=g
theorem Yh.xt {p:Prop} (g:p:=by ((first|exact Am|exact Nc|exact EK|exact Rl|exact Ck|exact Rn|exact Rk|exact Ro|exact EM|((with_reducible refine (?_:WP _ _ _ (.loop _) _ _));apply WP.loop (Et blk c kids 6 p b an tg tx lead ae hh tr false true);(case h0=>exact Et.beg);(case' h=>(rintro j τ ⟨a,r,hk,rfl,rfl⟩;have e1:=congrArg List.length hk;have e2:=congrArg cK hk;have e3:=congrArg bS hk;have e4:=um blk c a;have e0:=congrArg uK hk;rw [List.length_append] at e1;rw [iV] at e2;rw [gB] at e3;rw [pM,h4] at e0;rcases r with _|⟨⟨k1,y1,p1,b1,ed,dZ,dY,aF,aG,aI,gK,dU⟩,post⟩;all_goals (first|(rw [List.length_cons,cK,bS,iI,fD] at*;have e7:=GL e0.symm;clear e0;rw [zO];have e5:=mO blk [] [] (.mk k1 y1 p1 b1 ed dZ dY aF ((bP blk c a).2++aG) aI gK dU);have e6:=CV (aL blk [] [] (.mk k1 y1 p1 b1 ed dZ dY aF ((bP blk c a).2++aG) aI gK dU)).1;(have e8:(bC true (bP blk c []).1).2.length=0:=rfl);rcases a with _|⟨a0,a'⟩)|(rw [List.length_nil,cK,bS] at*)))))|((with_reducible refine (?_:∃x:Nd,_=bF x∧_));first|(refine ⟨.mk k1 y1 p1 b1 ed dZ dY aF ((bP blk c []).2++aG) aI gK dU,rfl,?_⟩)|(refine ⟨.mk k1 y1 p1 b1 ed dZ dY aF ((bP blk c (a0::a')).2++aG) aI gK dU,rfl,?_⟩))|exact EL|((with_reducible refine (?_:∃(j:Nat) (τ':aJ),j<_∧Rx 1 _ τ'∧_));exact Ou (x:=.mk k1 y1 p1 b1 ed dZ dY aF aG aI gK dU) (Z:=(aL blk [] [] (.mk k1 y1 p1 b1 ed dZ dY aF ((bP blk c []).2++aG) aI gK dU))) hk (iC _ _ _ _ _ _ _ _ _ _ _ _ _ _ _).symm rfl rfl rfl rfl)|((with_reducible refine (?_:∃(j:Nat) (τ':aJ),j<_∧Rx 1 _ τ'∧_));exact zk (a:=(a0::a')) (x:=.mk k1 y1 p1 b1 ed dZ dY aF aG aI gK dU) (Z:=(aL blk [] [] (.mk k1 y1 p1 b1 ed dZ dY aF ((bP blk c (a0::a')).2++aG) aI gK dU))) hk (iC _ _ _ _ _ _ _ _ _ _ _ _ _ _ _).symm rfl rfl (by rw [qw _ _ _ (by rw [bP];exact List.cons_ne_nil _ _)]) (by rw [qw _ _ _ (by rw [bP];exact List.cons_ne_nil _ _)];exact uZ))|((with_reducible refine (?_:ag _ _ _ _ _));first|exact ag.aU kV kV qg qg fun K hK=>Ma (Y:=.mk 3 6 p b an tg tx (bC true (bP blk c a).1).1 (lead++(bC true (bP blk c a).1).2) ae hh tr) (L:=(bP blk c a).2) rfl hk hne (by cases blk<;>rfl) hK)|fail);(repeat' (first|exact jy|fail));first|done|fail)):p:=g
theorem aaO {m:Nat} (ih:aC.OK Tryz.prog 44 (xM m)) {p b:Int} {an tg tx:ByteArray} {kids:List Nd} {lead ae:List Cm} {hh:Bool} {tr:ByteArray} {c:List Cm} {blk:Bool} (hne:kids≠[]) {K0:AV->List (List AV)->Prop} (Dh:xM (m+1) [.ptr 0 0,.agg [.int .i64 3,.int .i64 6,.int .i64 p,.int .i64 b,.str an,.str tg,.str tx,.sl kids.length (au kids),cs lead,cs ae,.bool hh,.str tr]] [[cs c,.bool blk]] K0):∃r bx',aW Tryz.prog 44 [.ptr 0 0,.agg [.int .i64 3,.int .i64 6,.int .i64 p,.int .i64 b,.str an,.str tg,.str tx,.sl kids.length (au kids),cs lead,cs ae,.bool hh,.str tr]] [[cs c,.bool blk]] r bx'∧wv r=true∧aV bx'=true∧∀K,xM (m+1) [.ptr 0 0,.agg [.int .i64 3,.int .i64 6,.int .i64 p,.int .i64 b,.str an,.str tg,.str tx,.sl kids.length (au kids),cs lead,cs ae,.bool hh,.str tr]] [[cs c,.bool blk]] K->K r bx':=by
 obtain ⟨h1,h2,h3,h4⟩:=(HZ (x:=.mk 3 6 p b an tg tx kids lead ae hh tr) rfl (BA (dC.mk c) Dh)).1;replace h4:=(nR h4).1;simp only [iI,fD] at h1 h2 h3;have hl:=jq kids;have hl0:0<kids.length:=by cases kids with|nil=>exact absurd rfl hne|cons x l=>simp
 refine JU.okW (base:=1) rfl qg qg ?_;have B:=V.base (af.cons ih (af.cons Gn (af.cons CJ (af.cons Ju (af.cons Eg af.nil)))))
 conv=>whnf
 let zA:=Kl
 open Yh in exact jy
theorem Yg.xp {p:Prop} (g:p:=by ((first|((with_reducible refine (?_:WP _ _ _ (.seq (.region 33 _ _) _) ⟨(51,_)::_,_⟩ _));refine WP.jB (Pv (kids:=(bC false (bP false c a).1).1) ?hC ?hN ?hS ?hX ?hSw ?hXw) ?_;(case hC=>(rw [au,List.append_nil]));(case hN=>(rw [eY,jS];omega));(case hS=>rfl);(case hX=>rfl);(case hSw=>(simp [dQ,wv,AV.one,cs,aA]));(case hXw=>exact sU))|fail);(repeat' (first|exact jy|fail));first|done|fail)):p:=g
theorem Yg.xt {p:Prop} (g:p:=by ((first|exact Am|exact Nc|exact EK|exact Rl|exact Ck|exact Rn|exact Rk|exact Ro|exact EM|((with_reducible refine (?_:WP _ _ _ (.loop _) _ _));apply WP.loop (Et false c kids 7 p b an tg tx lead ae hh tr false false);(case h0=>exact Et.beg);(case' h=>(rintro j τ ⟨a,r,hk,rfl,rfl⟩;have e1:=congrArg List.length hk;have e2:=congrArg cK hk;have e3:=congrArg bS hk;have e4:=um false c a;have e0:=congrArg uK hk;rw [List.length_append] at e1;rw [iV] at e2;rw [gB] at e3;rw [pM,h4] at e0;rcases r with _|⟨⟨k1,y1,p1,b1,ed,dZ,dY,aF,aG,aI,gK,dU⟩,post⟩;all_goals (first|(rw [List.length_cons,cK,bS,iI,fD] at*;have e7:=GL e0.symm;clear e0;rw [zO];have e5:=mO false [] [] (.mk k1 y1 p1 b1 ed dZ dY aF ((bP false c a).2++aG) aI gK dU);have e6:=CV (aL false [] [] (.mk k1 y1 p1 b1 ed dZ dY aF ((bP false c a).2++aG) aI gK dU)).1;(have e8:(bC false (bP false c []).1).2.length=0:=rfl);rcases a with _|⟨a0,a'⟩)|(rw [List.length_nil,cK,bS] at*)))))|((with_reducible refine (?_:∃x:Nd,_=bF x∧_));first|(refine ⟨.mk k1 y1 p1 b1 ed dZ dY aF ((bP false c []).2++aG) aI gK dU,rfl,?_⟩)|(refine ⟨.mk k1 y1 p1 b1 ed dZ dY aF ((bP false c (a0::a')).2++aG) aI gK dU,rfl,?_⟩))|exact EL|((with_reducible refine (?_:∃(j:Nat) (τ':aJ),j<_∧Rx 1 _ τ'∧_));exact zk (a:=[]) (x:=.mk k1 y1 p1 b1 ed dZ dY aF aG aI gK dU) (Z:=(aL false [] [] (.mk k1 y1 p1 b1 ed dZ dY aF ((bP false c []).2++aG) aI gK dU))) hk (iC _ _ _ _ _ _ _ _ _ _ _ _ _ _ _).symm rfl rfl rfl aks)|((with_reducible refine (?_:∃(j:Nat) (τ':aJ),j<_∧Rx 1 _ τ'∧_));exact zk (a:=(a0::a')) (x:=.mk k1 y1 p1 b1 ed dZ dY aF aG aI gK dU) (Z:=(aL false [] [] (.mk k1 y1 p1 b1 ed dZ dY aF ((bP false c (a0::a')).2++aG) aI gK dU))) hk (iC _ _ _ _ _ _ _ _ _ _ _ _ _ _ _).symm rfl rfl (by rw [qw _ _ _ (by rw [bP];exact List.cons_ne_nil _ _)]) (by rw [qw _ _ _ (by rw [bP];exact List.cons_ne_nil _ _)];exact uZ))|((with_reducible refine (?_:ag _ _ _ _ _));first|exact ag.aU kV kV qg qg fun K hK=>Ma (Y:=.mk 3 7 p b an tg tx (bC false (bP false c a).1).1 (lead++(bC false (bP false c a).1).2) ((bP false c a).2++ae) hh tr) (L:=[]) rfl hk hne rfl hK)|fail);(repeat' (first|exact jy|fail));first|done|fail)):p:=g
theorem aaN {m:Nat} (ih:aC.OK Tryz.prog 44 (xM m)) {p b:Int} {an tg tx:ByteArray} {kids:List Nd} {lead ae:List Cm} {hh:Bool} {tr:ByteArray} {c:List Cm} (hne:kids≠[]) {K0:AV->List (List AV)->Prop} (Dh:xM (m+1) [.ptr 0 0,.agg [.int .i64 3,.int .i64 7,.int .i64 p,.int .i64 b,.str an,.str tg,.str tx,.sl kids.length (au kids),cs lead,cs ae,.bool hh,.str tr]] [[cs c,.bool false]] K0):∃r bx',aW Tryz.prog 44 [.ptr 0 0,.agg [.int .i64 3,.int .i64 7,.int .i64 p,.int .i64 b,.str an,.str tg,.str tx,.sl kids.length (au kids),cs lead,cs ae,.bool hh,.str tr]] [[cs c,.bool false]] r bx'∧wv r=true∧aV bx'=true∧∀K,xM (m+1) [.ptr 0 0,.agg [.int .i64 3,.int .i64 7,.int .i64 p,.int .i64 b,.str an,.str tg,.str tx,.sl kids.length (au kids),cs lead,cs ae,.bool hh,.str tr]] [[cs c,.bool false]] K->K r bx':=by
 obtain ⟨h1,h2,h3,h4⟩:=(HZ (x:=.mk 3 7 p b an tg tx kids lead ae hh tr) rfl (BA (dC.mk c) Dh)).1;replace h4:=(nR h4).1;simp only [iI,fD] at h1 h2 h3;have hl:=jq kids;have hl0:0<kids.length:=by cases kids with|nil=>exact absurd rfl hne|cons x l=>simp
 refine JU.okW (base:=1) rfl qg qg ?_;have B:=V.base (af.cons ih (af.cons Gn (af.cons CJ (af.cons Ju (af.cons Eg af.nil)))))
 conv=>whnf
 let zA:=Kl
 open Yg in exact jy
end V
end
end Go.Proofs.YtlmjabnkjmfcmaaGreat
