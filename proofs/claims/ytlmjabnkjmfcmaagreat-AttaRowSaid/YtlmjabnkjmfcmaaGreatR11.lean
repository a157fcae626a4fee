/- Parts of a proof; no condition. -/
import Derived.Test.YtlmjabnkjmfcmaaGreatR10
namespace Go.Proofs.YtlmjabnkjmfcmaaGreat
open Go Go.RowKit Go.PlainAid
set_option linter.unusedVariables false
set_option linter.unusedSimpArgs false
set_option linter.unusedSectionVars false
set_option maxHeartbeats 20000000
set_option linter.defProp false
section
variable [nM]
set_option maxRecDepth 100000
namespace V
open Ab
open Bk (Cm)
def wfF (k y:Int) (kids:List Nd) (ag:List Cm) (h:Bool) (tr:ByteArray):Prop:=((k=1∧1<=y∧y<=5∧kids=[]∧ag=[])∨(k=2∧y=0∧kids=[]∧ag=[])∨(k=3∧y=7)∨(k=4∧y=7∧kids.length % 2=0))∧(h=false->tr=ByteArray.empty)
inductive Cb:Int->Int->List Nd->List Cm->Bool->ByteArray->Prop
 |mk {k y:Int} {kids:List Nd} {ag:List Cm} {t:Bool} {tr:ByteArray} (h:wfF k y kids ag t tr) (hk:∀z ∈ kids,Cb z.k z.y z.kids z.ag z.h z.tr):Cb k y kids ag t tr
abbrev FW (x:Nd):Prop:=Cb x.k x.y x.kids x.ag x.h x.tr
theorem Cb.out {k y:Int} {kids:List Nd} {ag:List Cm} {t:Bool} {tr:ByteArray} (h:Cb k y kids ag t tr):wfF k y kids ag t tr∧∀z ∈ kids,FW z:=by
 cases h with
 |mk h hk=>exact ⟨h,hk⟩
theorem Cb.leaf {k y:Int} (h1:k=1∧1<=y∧y<=5∨k=2∧y=0):Cb k y [] [] false ByteArray.empty:=by
 refine .mk ⟨?_,fun _=>rfl⟩ (by intro z hz;cases hz);rcases h1 with ⟨a,b,c⟩|⟨a,b⟩
 ·exact .inl ⟨a,b,c,rfl,rfl⟩
 ·exact .inr (.inl ⟨a,b,rfl,rfl⟩)
theorem Cb.XX {k y:Int} {kids:List Nd} {ag:List Cm} {t:Bool} {tr V7:ByteArray} (h:Cb k y kids ag t tr):Cb k y kids ag true V7:=.mk ⟨h.out.1.1,fun h=>by cases h⟩ h.out.2
theorem Cb.plain:Cb 1 1 [] [] false ByteArray.empty:=.leaf (.inl ⟨rfl,dE,dE⟩)
theorem Cb.sq:Cb 1 2 [] [] false ByteArray.empty:=.leaf (.inl ⟨rfl,dE,dE⟩)
theorem Cb.dq:Cb 1 3 [] [] false ByteArray.empty:=.leaf (.inl ⟨rfl,dE,dE⟩)
theorem Cb.al:Cb 2 0 [] [] false ByteArray.empty:=.leaf (.inr ⟨rfl,rfl⟩)
def Ho:Nd:=.mk 0 0 0 0 ByteArray.empty ByteArray.empty ByteArray.empty [] [] [] false ByteArray.empty
def ahu:List AV:=[.int .i64 0,.int .i64 0,.int .i64 0,.int .i64 0,.str ByteArray.empty,.str ByteArray.empty,.str ByteArray.empty,.sl 0 [],.sl 0 [],.sl 0 [],.bool false,.str ByteArray.empty,.bool false,.bool false,.bool false,.int .i64 0]
def TE (m:Nat):az:=fun args bx K=>match args,bx with
 |[.ptr 0 0,.int .i64 deep],[[.str s,.int .i64 p,.int .i64 n,.nil,.int .i64 e]]=>(s.size<=900000∧0<=p∧p<s.size∧e=0∧0<=deep∧deep<=40∧10*(45-deep)+1<=m)∧
  (∀(x:Nd) (q:Int),FW x->x.lead.length=0->(p<q∧q<=s.size∧wt x+4<=8*(q-p))->K (.bW [.agg (bV x),.bool true]) [rB s q n])∧
  (∀x:Nd,K (.bW [.agg (bV x),.bool false]) [rF s n])
 |_,_=>False
def aas (m:Nat):az:=fun args bx K=>match args,bx with
 |[.ptr 0 0,.int .i64 deep,.bool prop],[[.str s,.int .i64 p,.int .i64 n,.nil,.int .i64 e]]=>(s.size<=900000∧0<=p∧p<=s.size∧e=0∧0<=deep∧deep<=40∧10*(45-deep)+2<=m)∧
  (∀(x:Nd) (near one:Bool) (q:Int),FW x->x.lead.length=0->(p<q∧q<=s.size∧wt x+4<=8*(q-p))->K (.bW [.agg (fd x true near one q),.bool true]) [rB s q n])∧
  K (.bW [.agg ahu,.bool true]) [rB s p n]∧
  (∀(x:Nd) (any near one:Bool) (e:Int),K (.bW [.agg (fd x any near one e),.bool false]) [rF s n])
 |_,_=>False
def aat (m:Nat):az:=fun args bx K=>match args,bx with
 |[.ptr 0 0,.int .i64 deep],[[.str s,.int .i64 p,.int .i64 n,.nil,.int .i64 e]]=>(s.size<=900000∧0<=p∧p<=s.size∧e=0∧0<=deep∧deep<=40∧10*(45-deep)+3<=m)∧
  (∀(x:Nd) (near one:Bool) (q:Int),FW x->(p<q∧q<=s.size∧wt x+4<=8*(q-p))->K (.bW [.agg (fd x true near one q),.bool true]) [rB s q n])∧
  (∀(x:Nd) (near one:Bool) (e:Int),K (.bW [.agg (fd x false near one e),.bool true]) [rB s p n])∧
  (∀(x:Nd) (any near one:Bool) (e:Int),K (.bW [.agg (fd x any near one e),.bool false]) [rF s n])
 |_,_=>False
def QF (m:Nat):az:=fun args bx K=>match args,bx with
 |[.ptr 0 0,.int .i64 deep],[[.str s,.int .i64 p,.int .i64 n,.nil,.int .i64 e]]=>(s.size<=900000∧0<=p∧p<=s.size∧e=0∧0<=deep∧deep<=40∧10*(45-deep)+4<=m)∧
  (∀(x:Nd) (near one:Bool) (q:Int),FW x->(p<q∧q<=s.size∧wt x+4<=8*(q-p))->K (.bW [.agg (fd x true near one q),.bool true]) [rB s q n])∧
  (∀(x:Nd) (any near one:Bool) (e:Int),K (.bW [.agg (fd x any near one e),.bool false]) [rF s n])
 |_,_=>False
def Xa (m:Nat):az:=fun args bx K=>match args,bx with
 |[.ptr 0 0,.sl nl ll,.int .i64 deep],[[.str s,.int .i64 p,.int .i64 n,.nil,.int .i64 e]]=>∃L:List Cm,fP nl ll L∧(s.size<=900000∧0<=p∧p<=s.size∧e=0∧0<=deep∧deep<=40∧L.length<=10000000∧10*(45-deep)+5<=m)∧
  (∀(x:Nd) (l:List Cm) (same:Bool) (e q:Int),FW x->(p<=q∧q<=s.size∧wt x+l.length<=8*(q-p)+1+L.length)->K (.bW [.agg (bV x),Pv l same e,.bool true]) [rB s q n])∧
  (∀(x:Nd) (l:List Cm) (same:Bool) (e:Int),K (.bW [.agg (bV x),Pv l same e,.bool false]) [rF s n])
 |_,_=>False
def Xc (m:Nat):az:=fun args bx K=>match args,bx with
 |[.ptr 0 0,.int .i64 deep],[[.str s,.int .i64 p,.int .i64 n,.nil,.int .i64 e]]=>(s.size<=900000∧0<=p∧p<s.size∧e=0∧0<=deep∧deep<=40∧10*(45-deep)+5<=m)∧
  (∀(l:List Cm) (x:Nd) (any near one:Bool) (e q:Int),FW x->(p<q∧q<=s.size∧wt x+l.length+4<=8*(q-p))->K (.bW [cs l,.agg (fd x any near one e),.bool true]) [rB s q n])∧
  (∀(l:List Cm) (x:Nd) (any near one:Bool) (e:Int),K (.bW [cs l,.agg (fd x any near one e),.bool false]) [rF s n])
 |_,_=>False
def Xb (m:Nat):az:=fun args bx K=>match args,bx with
 |[.ptr 0 0,.agg [.int .i64 k1,.int .i64 y1,.int .i64 p1,.int .i64 b1,.str yH,.str yC,.str yB,.sl n1 l1,.sl n2 l2,.sl n3 l3,.bool h1,.str xm,.bool any,.bool near,.bool one,.int .i64 e1],.int .i64 deep],[[.str s,.int .i64 p,.int .i64 n,.nil,.int .i64 e]]=>(mi l1=true∧mi l2=true∧mi l3=true)∧(s.size<=900000∧0<=p∧p<=s.size∧e=0∧0<=deep∧deep<=40∧10*(45-deep)+6<=m)∧
  (∀(x:Nd) (l:List Cm) (same:Bool) (e q:Int),FW x->(p<=q∧q<=s.size∧wt x+l.length<=8*(q-p)+1)->(any=false->CS s p near=true->p<q∧wt x+l.length+4<=8*(q-p))->K (.bW [.agg (bV x),Pv l same e,.bool true]) [rB s q n])∧
  (∀(x:Nd) (l:List Cm) (same:Bool) (e:Int),K (.bW [.agg (bV x),Pv l same e,.bool false]) [rF s n])
 |_,_=>False
def aaw:az:=fun args bx K=>match args,bx with
 |[.str s,.int .i64 a,.int .i64 n],[]=>(s.size<=900000∧0<=a∧a<s.size)∧(∀(t:ByteArray) (p:Int) (one:Bool),(a<p∧p<=s.size)->K (.bW [.str t,.int .i64 p,.bool one,.int .i64 0]) [])∧K (.bW [.str ByteArray.empty,.ql .i64,.bool false,.nz .i64]) []
 |_,_=>False
def TT (c:AV):Prop:=(∃k,c=.int .i64 k)∨c=.nz .i64
theorem TT.int (k:Int):TT (.int .i64 k):=.inl ⟨k,rfl⟩
theorem TT.nz:TT (.nz .i64):=.inr rfl
def prC (first b:Int) (n:Nat) (l:List AV):List AV:=[.int .i64 4,.int .i64 7,.int .i64 first,.int .i64 b,.str ByteArray.empty,.str ByteArray.empty,.str ByteArray.empty,.dm 1 35 12 2,.sl n l,.nil,.bool false,.str ByteArray.empty]
def amO:az:=fun args bx K=>match args,bx with
 |[.ptr 0 0,.int .i64 first,.sl nl ll,.agg kc,.agg vc],[[.str s,a,.int .i64 n,.nil,c]]=>∃(L:List Cm) (x y:Nd),fP nl ll L∧kc=bV x∧vc=bV y∧(s.size<=900000∧NZ a∧TT c)∧
  (∀b:Int,(0<=b∧b<=900000)->K (.agg (prC first b L.length (eU L))) [[.str s,a,.int .i64 n,.nil,c],bV x++bV y])
 |_,_=>False
def TC (m:Nat):az:=fun args bx K=>match args,bx with
 |[.ptr 0 0,.sl nl ll,.int .i64 deep],[[.str s,.int .i64 p,.int .i64 n,.nil,.int .i64 e]]=>∃L:List Cm,fP nl ll L∧(s.size<=900000∧0<=p∧p<=s.size∧e=0∧0<=deep∧deep<=39∧L.length<=10000000∧10*(45-deep)<=m)∧
  (∀(x:Nd) (l:List Cm) (same:Bool) (e q:Int),FW x->(p<q∧q<=s.size∧wt x+l.length<=8*(q-p)+L.length)->K (.bW [.agg (bV x),Pv l same e,.bool false,.bool true]) [rB s q n])∧
  (∀(x y:Nd) (M l:List Cm) (first b:Int) (same:Bool) (e q:Int),FW x->FW y->(p<q∧q<=s.size∧1+M.length+wt x+wt y+l.length<=8*(q-p)+L.length)->K (.bW [.agg (prC first b M.length (eU M)),Pv l same e,.bool true,.bool true]) [rB s q n,bV x++bV y])∧
  (∀(x:Nd) (l:List Cm) (same two:Bool) (e:Int),K (.bW [.agg (bV x),Pv l same e,.bool two,.bool false]) [rF s n])∧
  (∀(x y:Nd) (M l:List Cm) (first b:Int) (same:Bool) (e:Int),K (.bW [.agg (prC first b M.length (eU M)),Pv l same e,.bool true,.bool false]) [rF s n,bV x++bV y])
 |_,_=>False
def TB (m:Nat):az:=fun args bx K=>match args,bx with
 |[.ptr 0 0,.sl nl ll,.int .i64 deep],[[.str s,.int .i64 p,.int .i64 n,.nil,.int .i64 e]]=>∃L:List Cm,fP nl ll L∧(s.size<=900000∧0<=p∧p<=s.size∧e=0∧0<=deep∧deep<=39∧L.length<=10000000∧10*(45-deep)<=m)∧
  (∀(x y:Nd) (l:List Cm) (same:Bool) (e q:Int),FW x->FW y->(p<q∧q<=s.size∧wt x+wt y+l.length<=8*(q-p)+L.length)->K (.bW [.agg (bV x),.agg (bV y),Pv l same e,.bool true]) [rB s q n])∧
  (∀(x y:Nd) (l:List Cm) (same:Bool) (e:Int),K (.bW [.agg (bV x),.agg (bV y),Pv l same e,.bool false]) [rF s n])
 |_,_=>False
def alx:=fN 165 Tryz.f165 29 [.cell 4 180,.tmp 5]
theorem aip.xt {p:Prop} (g:p:=by ((first|((with_reducible refine (?_:af _ _ _ _ _));first|exact af.mk iD iD fun K hK=>hK.2.1 _ _ _ _ aZ aZ|exact af.mk iD iD fun K hK=>hK.2.2 _ _ _ _ _)|fail);(repeat' (first|exact dw|fail));first|done|fail)):p:=g
theorem ajG {m:Nat} (i168:az.OK Tryz.prog 168 (aat m)):az.OK Tryz.prog 165 (QF (m+1)):=by
 intro args bx K0 h;unfold QF at h;split at h
 ·rename_i deep s p n e;obtain ⟨⟨h0,h1,h2,rfl,h3,h4,h5⟩,-⟩:=h;refine alx.okW (base:=1) rfl iD iD ?_;have B:=V.base (ae.cons i168 (ae.cons II ae.nil))
  conv=>whnf
  let zA:=(au 165)
  open aip in exact dw
 ·exact h.elim
def als:=fN 168 Tryz.f168 122 [.cell 4 180,.tmp 5]
theorem aio.xt {p:Prop} (g:p:=by ((first|((with_reducible refine (?_:af _ _ _ _ _));first|exact af.aW kV kV iD iD fun K hK=>hK.2.2.2 _ _ _ _ _|exact af.aW kV kV iD iD fun K hK=>hK.2.2.2 Ho _ _ _ _|exact af.aW kV kV iD iD fun K hK=>hK.2.2.1 _ _ _ _|exact af.aW kV kV iD iD fun K hK=>hK.2.2.1 BK _ _ _|exact af.aW kV kV iD iD fun K hK=>hK.2.1 (.mk _ _ _ _ _ _ _ _ _ _ _ _) _ _ _ WT oW)|fail);(repeat' (first|exact dw|fail));first|done|fail)):p:=g
theorem ajD {m:Nat} (i169:az.OK Tryz.prog 169 (aas m)):az.OK Tryz.prog 168 (aat (m+1)):=by
 intro args bx K0 h;unfold aat at h;split at h
 ·rename_i deep s p n e;obtain ⟨⟨h0,h1,h2,rfl,h3,h4,h5⟩,-⟩:=h;refine als.okW (base:=1) rfl iD iD ?_;have B:=V.base (ae.cons i169 (ae.cons UR (ae.cons II (ae.cons KA (ae.cons Dl (ae.cons YG ae.nil))))))
  conv=>whnf
  let zA:=(au 168)
  open aio in exact dw
 ·exact h.elim
def Nd.V6 (t:ByteArray):Nd->Nd
 |.mk k y p b an tg tx kids lead ag h tr=> .mk k y p b an tg tx kids lead ag true t
def aau:az:=fun args bx K=>match args,bx with
 |[.ptr 0 o,.sl n l,.bool same],[c]=>∃(L:List Cm) (A:List AV) (x:Nd),fP n l L∧c=A++bV x∧A.length=o∧mi A=true∧(same=false∨L=[]->K (cs L) [A++bV x])∧(∀(t:ByteArray) (M:List Cm),same=true->L.length=M.length+1->K (cs M) [A++bV (x.V6 t)])
 |_,_=>False
theorem ZT {n o:Nat} {l:List AV} {L:List Cm} {A:List AV} {x:Nd} {Q:List Cm->List AV->Nd->Prop} (hL:fP n l L) (hA:A.length=o) (h:∃(M:List Cm) (B:List AV) (y:Nd),fP n l M∧A++bV x=B++bV y∧B.length=o∧mi B=true∧Q M B y):Q L A x:=by obtain ⟨M,B,y,h1,h2,h3,h4,h5⟩:=h;rw [fP.inj hL h1] at*;obtain ⟨e1,e2⟩:=List.append_inj h2 (by rw [hA,h3]);rw [e1,tN e2];exact h5
theorem Bv {A l vs:List AV} {o:Nat} {K:List AV->Prop} (h:lJ l o vs fun l=>K (A++l)):lJ (A++l) (A.length+o) vs K:=by
 induction A generalizing K with
 |nil=>rw [List.length_nil,Nat.zero_add];exact h
 |cons a A ih=>
  rw [List.cons_append,List.length_cons,show A.length+1+o=A.length+o+1 by omega,lJ];exact ih h
theorem P6 {c:Bool} {X Y:Prop} (hx:X):c=true->(match c with|true=>X|false=>Y):=fun h=>by rw [h];exact hx
mutual
theorem afD:∀{x:AV},x.pf=true->pfT x=true
 |.ptr ..,h=>by cases h
 |.dm ..,h=>by cases h
 |.bool _,_=>rfl
 |.int _ _,_=>rfl
 |.str _,_=>rfl
 |.nil,_=>rfl
 |.nz _,_=>rfl
 |.ql _,_=>rfl
 |.low _ _ _,_=>rfl
 |.bad,_=>rfl
 |.sl _ _,_=>rfl
 |.row _ _ _ _,_=>rfl
 |.el _,_=>rfl
 |.agg l,h=>Di (l:=l) h
 |.bW l,h=>Di (l:=l) h
 |.fn _ l,h=>Di (l:=l) h
theorem Di:∀{l:List AV},AV.y8 l=true->IA l=true
 |[],_=>rfl
 |x::l,h=>by rw [AV.y8,Bool.and_eq_true] at h;rw [IA,afD h.1,Di h.2];rfl
end
theorem MH {l:List AV} (h:mi l=true):IA l=true:=Di (bn h)
def aex:=fN 158 Tryz.f158 27 [.tmp 6]
theorem ajL:az.OK Tryz.prog 158 aau:=by
 intro args bx K0 h;unfold aau at h;split at h
 ·rename_i o n l same c;obtain ⟨L,A,x,hL,rfl,rfl,hA,-⟩:=h;obtain ⟨k,y,p,b,an,tg,tx,kids,lead,ag,hh,tr⟩:=x;have hb:aN [A++bV (.mk k y p b an tg tx kids lead ag hh tr)]=true:=by rw [aN,aN,Bool.and_true];exact bT (dA (bZ hA)) (dA (bZ (jg _)))
  have B:=V.base ae.nil;cases L with
  |nil=>
   obtain ⟨rfl,rfl⟩:=hL;refine aex.okW (base:=1) rfl iD hb ?_
   conv=>whnf
   repeat' (first
   |with_reducible refine WP.seq ?_
   |(with_reducible first|refine Go.mk ?_|refine WP.qy B (au 158) ?_|refine WP.draw B (au 158) ?_|refine WP.cond ?_|refine WP.exit ?_|refine WP.skip ?_|refine WP.ret ?_);conv=>whnf
   |with_reducible refine WP.block ?_
   |with_reducible assumption
   |(refine ⟨_,_,rfl,?_⟩)
   |((with_reducible refine (?_:(_:Nat)<_));(simp [jM,eU]);first|done|fail)
   |((with_reducible refine (?_:lJ _ _ _ _));(apply Bv);conv=>whnf)
   |with_reducible refine And.intro ?_ ?_
   |exact cL
   |(with_reducible intro h);first|(cases h;done)|(try simp only [lG,reduceCtorEq] at h);first|done|(exfalso;omega)|replace h:=h trivial aZ|replace h:=h aZ|skip
   |fail)
   all_goals
    refine P6 ?_ ?_
    ·rw [uI];exact af.mk iD hb fun K hK=>(ZT (fP.mk []) rfl hK).1 (.inr rfl)
    ·show (true && (IA (A++bV _) && true) && true)=true;rw [MH (iH hA (jg _))];rfl
  |cons a L=>
   obtain ⟨rfl,rfl⟩:=hL;refine aex.okW (base:=1) rfl iD hb ?_
   conv=>whnf
   repeat' (first
   |with_reducible refine WP.seq ?_
   |(with_reducible first|refine Go.mk ?_|refine WP.qy B (au 158) ?_|refine WP.draw B (au 158) ?_|refine WP.cond ?_|refine WP.exit ?_|refine WP.skip ?_|refine WP.ret ?_);conv=>whnf
   |with_reducible refine WP.block ?_
   |with_reducible assumption
   |(refine ⟨_,_,rfl,?_⟩)
   |((with_reducible refine (?_:(_:Nat)<_));(simp [jM,eU]);first|done|fail)
   |((with_reducible refine (?_:lJ _ _ _ _));(apply Bv);conv=>whnf)
   |with_reducible refine And.intro ?_ ?_
   |exact cL
   |(with_reducible intro h);first|(cases h;done)|(try simp only [lG,reduceCtorEq] at h);first|done|(exfalso;omega)|replace h:=h trivial aZ|replace h:=h aZ|skip
   |fail)
   ·refine P6 ?_ ?_
    ·rw [uI];have e:AV.sl (((a::L).length:Int).toNat-Int.toNat 1) (List.take ((((a::L).length:Int).toNat-Int.toNat 1)*2) (List.drop (Int.toNat 1*2) (eU (a::L))))=cs L:=by
      have h1:((a::L).length:Int).toNat-Int.toNat 1=L.length:=by simp
      have h2:List.drop (Int.toNat 1*2) (eU (a::L))=eU L:=rfl;rw [h1,h2,←jM,List.take_length];rfl
     refine (?_:af aau _ _ (AV.sl (((a::L).length:Int).toNat-Int.toNat 1) (List.take ((((a::L).length:Int).toNat-Int.toNat 1)*2) (List.drop (Int.toNat 1*2) (eU (a::L))))) [A++bV (Nd.V6 a.t (.mk k y p b an tg tx kids lead ag hh tr))]);rw [e];refine af.mk (D9 L) ?_ fun K hK=>(ZT (fP.mk (a::L)) rfl hK).2 a.t L aZ rfl;exact (by rw [aN,aN,Bool.and_true];exact bT (dA (bZ hA)) (dA (bZ (jg (Nd.V6 a.t (.mk k y p b an tg tx kids lead ag hh tr))))))
    ·show (true && (IA (A++bV (Nd.V6 a.t (.mk k y p b an tg tx kids lead ag hh tr))) && true) && true)=true;rw [MH (iH hA (jg _))];rfl
   ·refine P6 ?_ ?_
    ·rw [uI];exact af.mk iD hb fun K hK=>(ZT (fP.mk (a::L)) rfl hK).1 (.inl aZ)
    ·show (true && (IA (A++bV _) && true) && true)=true;rw [MH (iH hA (jg _))];rfl
 ·exact h.elim
variable {sp : Sp} {n0 base : Nat} {σ τ : aF} {Q : zV -> aF -> Prop} {cal : BR} {md : Md} {all : List Oper} {o : Oper}
theorem wU (ho:∀c,o.op≠.call c) (hg:o.guard=none):yx cal jJ md all o σ=Bc cal jJ (jb md.ad o.dst) (jb md.arr o.dst) o σ (eH (val σ.tm) σ.bx o.op):=by
 unfold yx;split
 ·rename_i c hc;exact absurd hc (ho c)
 ·unfold nK sU;rw [hg];rfl
theorem stF {d x i c:Nat} (ho:o.op=.fieldAddr 35 (.tmp x) 7) (hg:o.guard=none) (hd:o.dst=some d) (hx:get σ.tm x=.ptr i c):yx cal jJ md all o σ=some ⟨put σ.tm d (.ptr i (c+7)),σ.bx++[]⟩:=by
 rw [wU (by intro c h;rw [ho] at h;cases h) hg,ho,hd];unfold Bc;rw [ho,hd];show (match core cal jJ _ _ σ.bx.length (val σ.tm) [] [] o.type (.fieldAddr 35 (.tmp x) 7) with|none=>none|some out=>if out.ok=true then some (Ab.fin (some d) out [] (kS _ (.fieldAddr 35 (.tmp x) 7)) σ) else none)=_;have:∀ad mt,core cal jJ ad mt σ.bx.length (val σ.tm) [] [] o.type (.fieldAddr 35 (.tmp x) 7)=some ⟨.ptr i (c+7),[],[],true⟩:=by intro ad mt;show kE (7,1,false) (get σ.tm x) []=_;rw [hx];rfl
 rw [this];rfl
theorem stL {d x i:Nat} {l:List AV} {v:AV} (ho:o.op=.load 33 (.tmp x)) (hg:o.guard=none) (hd:o.dst=some d) (hx:get σ.tm x=.ptr i 7) (hb:σ.bx[i]?=some l) (hv:l[7]?=some v) (ags:v.cO=v):yx cal jJ md all o σ=some ⟨put σ.tm d v,σ.bx++[]⟩:=by
 rw [wU (by intro c h;rw [ho] at h;cases h) hg,ho,hd];unfold Bc;rw [ho,hd];have ht:eH (val σ.tm) σ.bx (.load 33 (.tmp x))=[i]:=by show uS (get σ.tm x)=_;rw [hx];rfl
 rw [ht];have hc:bD σ.bx [i]=some [l]:=by rw [bD,hb];rfl
 rw [hc];have hset:setAt l 7 [v]=l:=by
  apply List.ext_getElem?;intro j;rw [dX];split
  ·rename_i h;have:j=7:=by simp at h;omega
   subst this;simp [hv]
  ·rfl
 have:∀ad mt,core cal jJ ad mt σ.bx.length (val σ.tm) [l] [i] o.type (.load 33 (.tmp x))=some ⟨v,[l],[],true⟩:=by intro ad mt;show (rV (TD.mk _ _ _ _ _ _) ad (get σ.tm x) [l])=_;rw [hx];unfold rV;simp only [];rw [if_neg dE,hv];simp only [];rw [ags,hset];cases ad<;>rfl
 show (match core cal jJ _ _ σ.bx.length (val σ.tm) [l] [i] o.type (.load 33 (.tmp x)) with|none=>none|some out=>if out.ok=true then some (Ab.fin (some d) out [i] (kS _ (.load 33 (.tmp x))) σ) else none)=_;rw [this];show some (aF.mk (put σ.tm d v) (σ.bx.set i l++[]))=_;rw [show σ.bx.set i l=σ.bx from by
  apply List.ext_getElem?;intro j;rw [List.getElem?_set];split
  ·rename_i h;subst h;split
   ·exact hb.symm
   ·rename_i h;rw [List.getElem?_eq_none oM]
  ·rfl]
theorem stN {d x i:Nat} {l:List AV} (ho:o.op=.load 35 (.tmp x)) (hg:o.guard=none) (hd:o.dst=some d) (hx:get σ.tm x=.ptr i 0) (hb:σ.bx[i]?=some l) (hl:l.length=12) (ags:l.map AV.cO=l):yx cal jJ md all o σ=some ⟨put σ.tm d (.agg l),σ.bx++[]⟩:=by
 rw [wU (by intro c h;rw [ho] at h;cases h) hg,ho,hd];unfold Bc;rw [ho,hd];have ht:eH (val σ.tm) σ.bx (.load 35 (.tmp x))=[i]:=by show uS (get σ.tm x)=_;rw [hx];rfl
 rw [ht];have hc:bD σ.bx [i]=some [l]:=by rw [bD,hb];rfl
 rw [hc];have:∀ad mt,core cal jJ ad mt σ.bx.length (val σ.tm) [l] [i] o.type (.load 35 (.tmp x))=some ⟨.agg l,[l],[],true⟩:=by intro ad mt;show (rV (TD.mk _ _ _ _ _ _) ad (get σ.tm x) [l])=_;rw [hx];unfold rV;simp only [];rw [if_pos dE,List.drop_zero];show gQ (.agg (((l.take 12)).map AV.cO)) [l] (decide (0+12<=l.length))=_;rw [←hl,List.take_length,ags,Nat.zero_add,decide_eq_true (Nat.le_refl _)];rfl
 show (match core cal jJ _ _ σ.bx.length (val σ.tm) [l] [i] o.type (.load 35 (.tmp x)) with|none=>none|some out=>if out.ok=true then some (Ab.fin (some d) out [i] (kS _ (.load 35 (.tmp x))) σ) else none)=_;rw [this];show some (aF.mk (put σ.tm d (.agg l)) (σ.bx.set i l++[]))=_;rw [show σ.bx.set i l=σ.bx from by
  apply List.ext_getElem?;intro j;rw [List.getElem?_set];split
  ·rename_i h;subst h;split
   ·exact hb.symm
   ·rename_i h;rw [List.getElem?_eq_none oM]
  ·rfl]
theorem aiG {d x:Nat} {l:List AV} (ho:o.op=.buildSlice 33 1 #[(0,.tmp x)]) (hg:o.guard=none) (hd:o.dst=some d) (hm:jb md.arr (some d)=false) (hx:get σ.tm x=.agg l) (hl:l.length=12) (h1:dZ l=true) (h2:AV.aj l=true):yx cal jJ md all o σ=some ⟨put σ.tm d (.row 35 12 1 l),σ.bx++[]⟩:=by
 rw [wU (by intro c h;rw [ho] at h;cases h) hg,ho,hd,hm];unfold Bc;rw [ho,hd];have:∀ad,core cal jJ ad false σ.bx.length (val σ.tm) [] [] o.type (.buildSlice 33 1 #[(0,.tmp x)])=some ⟨.row 35 12 1 l,[],[],true⟩:=by
  intro ad;show gy false _ 35 (TD.mk _ _ _ _ _ _) 1 [(0,(get σ.tm x).cO)] []=_;rw [hx];unfold gy;have hp:parts 0 [(0,(AV.agg l).cO)]=some l:=by show (if 0=0 then (some []).map (l++·) else none)=_;rw [if_pos rfl];show some (l++[])=_;rw [List.append_nil]
  rw [hp];simp [h1,h2,hl,cells,AV.cO]
 show (match core cal jJ (jb md.ad (some d)) false σ.bx.length (val σ.tm) [] [] o.type (.buildSlice 33 1 #[(0,.tmp x)]) with|none=>none|some out=>if out.ok=true then some (Ab.fin (some d) out [] [] σ) else none)=_;rw [this];rfl
theorem aiF {d x y:Nat} {l k:List AV} (ho:o.op=.buildSlice 33 2 #[(0,.tmp x),(1,.tmp y)]) (hg:o.guard=none) (hd:o.dst=some d) (hm:jb md.arr (some d)=false) (hx:get σ.tm x=.agg l) (hy:get σ.tm y=.agg k) (hl:l.length=12) (hk:k.length=12) (h1:dZ (l++k)=true) (h2:AV.aj (l++k)=true):yx cal jJ md all o σ=some ⟨put σ.tm d (.row 35 12 2 (l++k)),σ.bx++[]⟩:=by
 rw [wU (by intro c h;rw [ho] at h;cases h) hg,ho,hd,hm];unfold Bc;rw [ho,hd];have:∀ad,core cal jJ ad false σ.bx.length (val σ.tm) [] [] o.type (.buildSlice 33 2 #[(0,.tmp x),(1,.tmp y)])=some ⟨.row 35 12 2 (l++k),[],[],true⟩:=by
  intro ad;show gy false _ 35 (TD.mk _ _ _ _ _ _) 2 [(0,(get σ.tm x).cO),(1,(get σ.tm y).cO)] []=_;rw [hx,hy];unfold gy;have hp:parts 0 [(0,(AV.agg l).cO),(1,(AV.agg k).cO)]=some (l++k):=by show (if 0=0 then ((if 1=0+1 then (some []).map (k++·) else none)).map (l++·) else none)=_;rw [if_pos rfl,if_pos rfl];show some (l++(k++[]))=_;rw [List.append_nil]
  rw [hp];simp [h1,h2,hl,hk,cells,AV.cO]
 show (match core cal jJ (jb md.ad (some d)) false σ.bx.length (val σ.tm) [] [] o.type (.buildSlice 33 2 #[(0,.tmp x),(1,.tmp y)]) with|none=>none|some out=>if out.ok=true then some (Ab.fin (some d) out [] [] σ) else none)=_;rw [this];rfl
theorem QP {d x y:Nat} (ho:o.op=.call {callee:=.builtin .append,args:=#[.tmp x,.tmp y],argTypes:=#[33,33]}) (hg:o.guard=none) (hd:o.dst=some d) (hm:mem d md.arr=true):yx cal jJ md all o σ=E8 jJ md d σ (.tmp x) (.tmp y) 33:=by unfold yx;rw [ho,hd,hg];show (match mem d md.arr with|true=>E8 jJ md d σ (.tmp x) (.tmp y) 33|false=>_)=_;rw [hm]
theorem aiI {d x y n:Nat} {k:List AV} (ho:o.op=.call {callee:=.builtin .append,args:=#[.tmp x,.tmp y],argTypes:=#[33,33]}) (hg:o.guard=none) (hd:o.dst=some d) (hm:mem d md.arr=true) (hx:get σ.tm x=.nil) (hy:get σ.tm y=.row 35 12 n k) (hn:0<n∧n<=2) (hk:k.length=n*12) (h1:dZ k=true) (h2:AV.aj k=true):yx cal jJ md all o σ=some ⟨put σ.tm d (.dm σ.bx.length 35 12 n),σ.bx++[k]⟩:=by rw [QP ho hg hd hm];unfold E8;rw [show AA jJ 33=some (35,_) from rfl];simp only [];rw [show val σ.tm (.tmp y)=.row 35 12 n k from hy];rw [show elems (.row 35 12 n k)=some (n,k) from rfl];simp only [];rw [if_pos ⟨hn.1,hk,dE,dE,h1,h2⟩];rw [show val σ.tm (.tmp x)=.nil from hx];simp only [];rw [if_pos oM]
theorem aiH {d x y n i m:Nat} {k c:List AV} (ho:o.op=.call {callee:=.builtin .append,args:=#[.tmp x,.tmp y],argTypes:=#[33,33]}) (hg:o.guard=none) (hd:o.dst=some d) (hm:mem d md.arr=true) (hx:get σ.tm x=.dm i 35 12 m) (hy:get σ.tm y=.row 35 12 n k) (hn:0<n∧n<=2) (hk:k.length=n*12) (h1:dZ k=true) (h2:AV.aj k=true) (hb:σ.bx[i]?=some c) (hbase:md.base<=i) (hmn:m+n<=10000000000) (hc:c.length=m*12) (hcf:AV.aj c=true) (tX:mem i (AV.aA (c++k))=false):yx cal jJ md all o σ=some ⟨put (kill i σ).tm d (.dm i 35 12 (m+n)),(kill i σ).bx.set i (c++k)⟩:=by rw [QP ho hg hd hm];unfold E8;rw [show AA jJ 33=some (35,_) from rfl];simp only [];rw [show val σ.tm (.tmp y)=.row 35 12 n k from hy];rw [show elems (.row 35 12 n k)=some (n,k) from rfl];simp only [];rw [if_pos ⟨hn.1,hk,dE,dE,h1,h2⟩];rw [show val σ.tm (.tmp x)=.dm i 35 12 m from hx];simp only [];rw [hb];simp only [];rw [if_pos ⟨hbase,trivial,trivial,hmn,hc,tX,hcf⟩]
theorem stS {x y i:Nat} {l:List AV} {j z n:Nat} (ho:o.op=.store 33 (.tmp x) (.tmp y)) (hg:o.guard=none) (hd:o.dst=none) (hx:get σ.tm x=.ptr i 7) (hy:get σ.tm y=.dm j 35 z n) (hb:σ.bx[i]?=some l) (hl:l.length=12):yx cal jJ md all o σ=some ⟨σ.tm,σ.bx.set i (setAt l 7 [.dm j 35 z n])++[]⟩:=by
 rw [wU (by intro c h;rw [ho] at h;cases h) hg,ho,hd];unfold Bc;rw [ho,hd];have ht:eH (val σ.tm) σ.bx (.store 33 (.tmp x) (.tmp y))=[i]:=by show uS (get σ.tm x)=_;rw [hx];rfl
 rw [ht];have hc:bD σ.bx [i]=some [l]:=by rw [bD,hb];rfl
 rw [hc];have:∀ad mt,core cal jJ ad mt σ.bx.length (val σ.tm) [l] [i] o.type (.store 33 (.tmp x) (.tmp y))=some ⟨.bad,[setAt l 7 [.dm j 35 z n]],[],true⟩:=by intro ad mt;show (uM jJ 33 (TD.mk _ _ _ _ _ _) (get σ.tm x) (get σ.tm y) [l])=_;rw [hx,hy];unfold uM;show some (Out.mk _ _ _ (decide (1=1) && decide (7+1<=l.length) && true))=_;rw [hl];rfl
 show (match core cal jJ false false σ.bx.length (val σ.tm) [l] [i] o.type (.store 33 (.tmp x) (.tmp y)) with|none=>none|some out=>if out.ok=true then some (Ab.fin none out [i] [y] σ) else none)=_;rw [this];show some (aF.mk (gu σ.tm [y]) (σ.bx.set i _++[]))=_;rw [gu,hy];rfl
theorem qH {ks:List Nat} {d:Nat} {v:AV} (hd:d ∉ ks):∀(tm:Tm),prune ks (put tm d v)=prune ks tm
 |[]=>by show (if mem d ks=true then _ else _)=_;rw [if_neg (fun h=>hd (mem_iff.1 h))]
 |(j,u)::r=>by
  rw [jy];split
  ·rw [prune,if_neg (fun h=>hd (mem_iff.1 h))]
  ·split
   ·rename_i h;subst h;rw [prune,if_neg (fun h=>hd (mem_iff.1 h)),prune,if_neg (fun h=>hd (mem_iff.1 h))]
   ·rw [prune,prune,qH hd r]
theorem zy {i:Nat} {v:AV} (hw:wv v=true) (h:i ∉ kQ v):fC i v=v:=by
 rcases jU i v with ⟨h1,-⟩|h1
 ·exact h1
 ·unfold fC at h1⊢;split
  ·rename_i hm;rw [mem_iff,xQ hw] at hm;exact absurd hm h
  ·rfl
theorem YZ {i:Nat} {l:List AV} (hw:gG l=true) (h:i ∉ dG l):l.map (fC i)=l:=by
 conv=>rhs;rw [←List.map_id l]
 refine List.map_congr_left fun v hv=>?_;exact zy (dP.1 hw v hv).2 (fun hi=>h (zF.2 ⟨v,hv,hi⟩))
theorem U6 {i:Nat} {bx:List (List AV)} {xl C:List AV} {v:AV} (hw:aN bx=true) (hx:bx[2]?=some xl) (hl:xl.length=12) (hi:i≠2) (hxk:i ∉ dG (setAt xl 7 [.nil])) (hoth:∀(j:Nat) (l:List AV),bx[j]?=some l->j≠i->j≠2->i ∉ dG l):((bx.map fun c=>c.map (fC i)).set i C).set 2 (setAt (xl.map (fC i)) 7 [v])=(bx.set i C).set 2 (setAt xl 7 [v]):=by
 have hlen:(bx.map fun c=>c.map (fC i)).length=bx.length:=by rw [List.length_map]
 have hxw:=aY.1 hw xl (List.mem_of_getElem? hx);have hset:setAt (xl.map (fC i)) 7 [v]=setAt xl 7 [v]:=by
  apply List.ext_getElem?;intro j;rw [dX,dX,List.length_map];split
  ·rfl
  ·rename_i hj;rw [List.getElem?_map];cases hxj:xl[j]? with
   |none=>rfl
   |some u=>
    show some (fC i u)=some u;rw [zy (dP.1 hxw u (List.mem_of_getElem? hxj)).2];intro hm;refine hxk (zF.2 ⟨u,?_,hm⟩);refine List.mem_of_getElem? (i:=j) ?_;rw [dX,if_neg (by simpa using hj)];exact hxj
 rw [hset];apply List.ext_getElem?;intro j;simp only [List.getElem?_set,List.length_set,hlen];split
 ·rfl
 ·rename_i h2;split
  ·rfl
  ·rename_i hji;rw [List.getElem?_map];cases hbj:bx[j]? with
   |none=>rfl
   |some l=>
    show some (l.map (fC i))=some l;rw [YZ (aY.1 hw l (List.mem_of_getElem? hbj)) (hoth j l hbj (fun e=>hji e.symm) (fun e=>h2 e.symm))]
theorem Aj {ks:List Nat} {g:AV->AV}:∀(tm:Tm),prune ks (tm.map fun p=>(p.1,g p.2))=(prune ks tm).map fun p=>(p.1,g p.2)
 |[]=>rfl
 |(j,u)::r=>by
  rw [List.map_cons,prune,prune];split
  ·rw [List.map_cons,Aj r]
  ·exact Aj r
theorem KJ {i:Nat} {tm:Tm} (hw:uh tm=true) (h:∀p ∈ tm,i ∉ kQ p.2):(tm.map fun p=>(p.1,fC i p.2))=tm:=by
 induction tm with
 |nil=>rfl
 |cons p r ih=>
  obtain ⟨j,u⟩:=p;rw [uh,Bool.and_eq_true] at hw;rw [List.map_cons,zy hw.1 (h (j,u) (by simp)),ih hw.2 fun p hp=>h p (by simp [hp])]
theorem afs {o1 o2 o3 o4 o5 o6 o7:Oper} {ad:List Nat} {tm:Tm} {bx:List (List AV)} {xl:List AV} (e1:o1.op=.fieldAddr 35 (.tmp 6) 7) (g1:o1.guard=none) (d1:o1.dst=some 97) (e2:o2.op=.load 33 (.tmp 97)) (g2:o2.guard=none) (d2:o2.dst=some 98) (e3:o3.op=.load 35 (.tmp 12)) (g3:o3.guard=none) (d3:o3.dst=some 99) (e4:o4.op=.buildSlice 33 1 #[(0,.tmp 99)]) (g4:o4.guard=none) (d4:o4.dst=some 100) (e5:o5.op=.call {callee:=.builtin .append,args:=#[.tmp 98,.tmp 100],argTypes:=#[33,33]}) (g5:o5.guard=none) (d5:o5.dst=some 101) (e6:o6.op=.fieldAddr 35 (.tmp 6) 7) (g6:o6.guard=none) (d6:o6.dst=some 102) (e7:o7.op=.store 33 (.tmp 102) (.tmp 101)) (g7:o7.guard=none) (d7:o7.dst=none) (Nj:get tm 6=.ptr 2 0) (hx:bx[2]?=some xl) (hxl:xl.length=12) {yi:Nat} {yc:List AV} (hty:get tm 12=.ptr yi 0) (hy:bx[yi]?=some yc) (hyl:yc.length=12) (Nh:yc.map AV.cO=yc) (h1:dZ yc=true) (h2:AV.aj yc=true) (hk:xl[7]?=some .nil) (hw:Ok ⟨tm,bx⟩):∃τ,dJ cal jJ all ⟨ad,[101,134],base⟩ [o1,o2,o3,o4,o5,o6,o7] ⟨tm,bx⟩=some τ∧prune [0,1,4,6,7,8,13,14] τ.tm=prune [0,1,4,6,7,8,13,14] tm∧τ.bx=(bx++[yc]).set 2 (setAt xl 7 [.dm bx.length 35 12 1]):=by
 have Zh:2<bx.length:=(List.getElem?_eq_some_iff.1 hx).1;rw [dJ,stF e1 g1 d1 Nj];simp only [List.append_nil];rw [dJ,stL (i:=2) e2 g2 d2 (by simp [ah]) hx hk rfl];simp only [List.append_nil];rw [dJ,stN (i:=yi) e3 g3 d3 (by simp [ah,hty]) hy hyl Nh];simp only [List.append_nil];rw [dJ,aiG (l:=yc) e4 g4 d4 rfl (by simp [ah]) hyl h1 h2];simp only [List.append_nil];rw [dJ,aiI (n:=1) (k:=yc) e5 g5 d5 rfl (by simp [ah]) (by simp [ah]) oM hyl h1 h2];simp only [];rw [dJ,stF (i:=2) (c:=0) e6 g6 d6 (by simp [ah,Nj])];simp only [List.append_nil];rw [dJ,stS (i:=2) (l:=xl) (j:=bx.length) (z:=12) (n:=1) e7 g7 d7 (by simp [ah]) (by simp [ah]) (by simp only [];rw [List.getElem?_append_left Zh];exact hx) hxl];simp only [List.append_nil];refine ⟨_,rfl,?_,rfl⟩;simp only []
 repeat rw [qH dE]
theorem aft {o1 o2 o3 o4 o5 o6 o7:Oper} {ad:List Nat} {tm:Tm} {bx:List (List AV)} {xl:List AV} (e1:o1.op=.fieldAddr 35 (.tmp 6) 7) (g1:o1.guard=none) (d1:o1.dst=some 97) (e2:o2.op=.load 33 (.tmp 97)) (g2:o2.guard=none) (d2:o2.dst=some 98) (e3:o3.op=.load 35 (.tmp 12)) (g3:o3.guard=none) (d3:o3.dst=some 99) (e4:o4.op=.buildSlice 33 1 #[(0,.tmp 99)]) (g4:o4.guard=none) (d4:o4.dst=some 100) (e5:o5.op=.call {callee:=.builtin .append,args:=#[.tmp 98,.tmp 100],argTypes:=#[33,33]}) (g5:o5.guard=none) (d5:o5.dst=some 101) (e6:o6.op=.fieldAddr 35 (.tmp 6) 7) (g6:o6.guard=none) (d6:o6.dst=some 102) (e7:o7.op=.store 33 (.tmp 102) (.tmp 101)) (g7:o7.guard=none) (d7:o7.dst=none) (Nj:get tm 6=.ptr 2 0) (hx:bx[2]?=some xl) (hxl:xl.length=12) {yi:Nat} {yc:List AV} (hty:get tm 12=.ptr yi 0) (hy:bx[yi]?=some yc) (hyl:yc.length=12) (Nh:yc.map AV.cO=yc) (h1:dZ yc=true) (h2:AV.aj yc=true) {i m:Nat} {c:List AV} (hk:xl[7]?=some (.dm i 35 12 m)) (hb:bx[i]?=some c) (hbase:base<=i) (hi:i≠2) (hmn:m+1<=10000000000) (hc:c.length=m*12) (hcf:AV.aj c=true) (tX:mem i (AV.aA (c++yc))=false) (hxk:i ∉ dG (setAt xl 7 [.nil])) (hoth:∀(j:Nat) (l:List AV),bx[j]?=some l->j≠i->j≠2->i ∉ dG l) (hlive:∀p ∈ prune [0,1,4,6,7,8,13,14] tm,i ∉ kQ p.2) (hw:Ok ⟨tm,bx⟩):∃τ,dJ cal jJ all ⟨ad,[101,134],base⟩ [o1,o2,o3,o4,o5,o6,o7] ⟨tm,bx⟩=some τ∧prune [0,1,4,6,7,8,13,14] τ.tm=prune [0,1,4,6,7,8,13,14] tm∧τ.bx=(bx.set i (c++yc)).set 2 (setAt xl 7 [.dm i 35 12 (m+1)]):=by
 have Zh:2<bx.length:=(List.getElem?_eq_some_iff.1 hx).1;rw [dJ,stF e1 g1 d1 Nj];simp only [List.append_nil];rw [dJ,stL (i:=2) e2 g2 d2 (by simp [ah]) hx hk rfl];simp only [List.append_nil];rw [dJ,stN (i:=yi) e3 g3 d3 (by simp [ah,hty]) hy hyl Nh];simp only [List.append_nil];rw [dJ,aiG (l:=yc) e4 g4 d4 rfl (by simp [ah]) hyl h1 h2];simp only [List.append_nil];rw [dJ,aiH (n:=1) (k:=yc) (i:=i) (m:=m) (c:=c) e5 g5 d5 rfl (by simp [ah]) (by simp [ah]) oM hyl h1 h2 hb hbase hmn hc hcf tX];simp only [];have h6:∀tm',get tm' 6=.ptr 2 0->get (kill i ⟨tm',bx⟩).tm 6=.ptr 2 0:=by intro tm' h;show get (List.map _ _) 6=_;rw [DX,h];exact zy rfl (by simp [kQ,hi])
 rw [dJ,stF (i:=2) (c:=0) e6 g6 d6 (by rw [ah,if_neg dE];exact h6 _ (by simp [ah,Nj]))];simp only [List.append_nil];have hx2:(((kill i ⟨tm,bx⟩).bx).set i (c++yc))[2]?=some (xl.map (fC i)):=by show ((bx.map fun c=>c.map (fC i)).set i _)[2]?=_;rw [List.getElem?_set,if_neg hi,List.getElem?_map,hx];rfl
 rw [dJ,stS (i:=2) (l:=xl.map (fC i)) (j:=i) (z:=12) (n:=m+1) e7 g7 d7 (by simp [ah]) (by simp [ah]) hx2 (by rw [List.length_map];exact hxl)];simp only [List.append_nil];refine ⟨_,rfl,?_,U6 hw.bx hx hxl hi hxk hoth⟩;simp only []
 repeat rw [qH dE]
 show prune _ (List.map _ _)=_;rw [Aj]
 repeat rw [qH dE]
 exact KJ (iZ _ hw.tm) hlive
theorem afq {o1 o2 o3 o4 o5 o6 o7 o8:Oper} {ad:List Nat} {tm:Tm} {bx:List (List AV)} {xl:List AV} (e1:o1.op=.fieldAddr 35 (.tmp 6) 7) (g1:o1.guard=none) (d1:o1.dst=some 129) (e2:o2.op=.load 33 (.tmp 129)) (g2:o2.guard=none) (d2:o2.dst=some 130) (e3:o3.op=.load 35 (.tmp 16)) (g3:o3.guard=none) (d3:o3.dst=some 131) (e4:o4.op=.load 35 (.tmp 17)) (g4:o4.guard=none) (d4:o4.dst=some 132) (e5:o5.op=.buildSlice 33 2 #[(0,.tmp 131),(1,.tmp 132)]) (g5:o5.guard=none) (d5:o5.dst=some 133) (e6:o6.op=.call {callee:=.builtin .append,args:=#[.tmp 130,.tmp 133],argTypes:=#[33,33]}) (g6:o6.guard=none) (d6:o6.dst=some 134) (e7:o7.op=.fieldAddr 35 (.tmp 6) 7) (g7:o7.guard=none) (d7:o7.dst=some 135) (e8:o8.op=.store 33 (.tmp 135) (.tmp 134)) (g8:o8.guard=none) (d8:o8.dst=none) (Nj:get tm 6=.ptr 2 0) (hx:bx[2]?=some xl) (hxl:xl.length=12) {yi zi:Nat} {yc zc:List AV} (hty:get tm 16=.ptr yi 0) (hy:bx[yi]?=some yc) (hyl:yc.length=12) (Nh:yc.map AV.cO=yc) (htz:get tm 17=.ptr zi 0) (hz:bx[zi]?=some zc) (hzl:zc.length=12) (hzd:zc.map AV.cO=zc) (h1:dZ (yc++zc)=true) (h2:AV.aj (yc++zc)=true) (hk:xl[7]?=some .nil) (hw:Ok ⟨tm,bx⟩):∃τ,dJ cal jJ all ⟨ad,[101,134],base⟩ [o1,o2,o3,o4,o5,o6,o7,o8] ⟨tm,bx⟩=some τ∧prune [0,1,4,6,7,8,18] τ.tm=prune [0,1,4,6,7,8,18] tm∧τ.bx=(bx++[(yc++zc)]).set 2 (setAt xl 7 [.dm bx.length 35 12 2]):=by
 have Zh:2<bx.length:=(List.getElem?_eq_some_iff.1 hx).1;rw [dJ,stF e1 g1 d1 Nj];simp only [List.append_nil];rw [dJ,stL (i:=2) e2 g2 d2 (by simp [ah]) hx hk rfl];simp only [List.append_nil];rw [dJ,stN (i:=yi) e3 g3 d3 (by simp [ah,hty]) hy hyl Nh];simp only [List.append_nil];rw [dJ,stN (i:=zi) e4 g4 d4 (by simp [ah,htz]) hz hzl hzd];simp only [List.append_nil];rw [dJ,aiF (l:=yc) (k:=zc) e5 g5 d5 rfl (by simp [ah]) (by simp [ah]) hyl hzl h1 h2];simp only [List.append_nil];rw [dJ,aiI (n:=2) (k:=(yc++zc)) e6 g6 d6 rfl (by simp [ah]) (by simp [ah]) oM (by rw [List.length_append];omega) h1 h2];simp only [];rw [dJ,stF (i:=2) (c:=0) e7 g7 d7 (by simp [ah,Nj])];simp only [List.append_nil];rw [dJ,stS (i:=2) (l:=xl) (j:=bx.length) (z:=12) (n:=2) e8 g8 d8 (by simp [ah]) (by simp [ah]) (by simp only [];rw [List.getElem?_append_left Zh];exact hx) hxl];simp only [List.append_nil];refine ⟨_,rfl,?_,rfl⟩;simp only []
 repeat rw [qH dE]
theorem afr {o1 o2 o3 o4 o5 o6 o7 o8:Oper} {ad:List Nat} {tm:Tm} {bx:List (List AV)} {xl:List AV} (e1:o1.op=.fieldAddr 35 (.tmp 6) 7) (g1:o1.guard=none) (d1:o1.dst=some 129) (e2:o2.op=.load 33 (.tmp 129)) (g2:o2.guard=none) (d2:o2.dst=some 130) (e3:o3.op=.load 35 (.tmp 16)) (g3:o3.guard=none) (d3:o3.dst=some 131) (e4:o4.op=.load 35 (.tmp 17)) (g4:o4.guard=none) (d4:o4.dst=some 132) (e5:o5.op=.buildSlice 33 2 #[(0,.tmp 131),(1,.tmp 132)]) (g5:o5.guard=none) (d5:o5.dst=some 133) (e6:o6.op=.call {callee:=.builtin .append,args:=#[.tmp 130,.tmp 133],argTypes:=#[33,33]}) (g6:o6.guard=none) (d6:o6.dst=some 134) (e7:o7.op=.fieldAddr 35 (.tmp 6) 7) (g7:o7.guard=none) (d7:o7.dst=some 135) (e8:o8.op=.store 33 (.tmp 135) (.tmp 134)) (g8:o8.guard=none) (d8:o8.dst=none) (Nj:get tm 6=.ptr 2 0) (hx:bx[2]?=some xl) (hxl:xl.length=12) {yi zi:Nat} {yc zc:List AV} (hty:get tm 16=.ptr yi 0) (hy:bx[yi]?=some yc) (hyl:yc.length=12) (Nh:yc.map AV.cO=yc) (htz:get tm 17=.ptr zi 0) (hz:bx[zi]?=some zc) (hzl:zc.length=12) (hzd:zc.map AV.cO=zc) (h1:dZ (yc++zc)=true) (h2:AV.aj (yc++zc)=true) {i m:Nat} {c:List AV} (hk:xl[7]?=some (.dm i 35 12 m)) (hb:bx[i]?=some c) (hbase:base<=i) (hi:i≠2) (hmn:m+2<=10000000000) (hc:c.length=m*12) (hcf:AV.aj c=true) (tX:mem i (AV.aA (c++(yc++zc)))=false) (hxk:i ∉ dG (setAt xl 7 [.nil])) (hoth:∀(j:Nat) (l:List AV),bx[j]?=some l->j≠i->j≠2->i ∉ dG l) (hlive:∀p ∈ prune [0,1,4,6,7,8,18] tm,i ∉ kQ p.2) (hw:Ok ⟨tm,bx⟩):∃τ,dJ cal jJ all ⟨ad,[101,134],base⟩ [o1,o2,o3,o4,o5,o6,o7,o8] ⟨tm,bx⟩=some τ∧prune [0,1,4,6,7,8,18] τ.tm=prune [0,1,4,6,7,8,18] tm∧τ.bx=(bx.set i (c++(yc++zc))).set 2 (setAt xl 7 [.dm i 35 12 (m+2)]):=by
 have Zh:2<bx.length:=(List.getElem?_eq_some_iff.1 hx).1;rw [dJ,stF e1 g1 d1 Nj];simp only [List.append_nil];rw [dJ,stL (i:=2) e2 g2 d2 (by simp [ah]) hx hk rfl];simp only [List.append_nil];rw [dJ,stN (i:=yi) e3 g3 d3 (by simp [ah,hty]) hy hyl Nh];simp only [List.append_nil];rw [dJ,stN (i:=zi) e4 g4 d4 (by simp [ah,htz]) hz hzl hzd];simp only [List.append_nil];rw [dJ,aiF (l:=yc) (k:=zc) e5 g5 d5 rfl (by simp [ah]) (by simp [ah]) hyl hzl h1 h2];simp only [List.append_nil];rw [dJ,aiH (n:=2) (k:=(yc++zc)) (i:=i) (m:=m) (c:=c) e6 g6 d6 rfl (by simp [ah]) (by simp [ah]) oM (by rw [List.length_append];omega) h1 h2 hb hbase hmn hc hcf tX];simp only [];have h6:∀tm',get tm' 6=.ptr 2 0->get (kill i ⟨tm',bx⟩).tm 6=.ptr 2 0:=by intro tm' h;show get (List.map _ _) 6=_;rw [DX,h];exact zy rfl (by simp [kQ,hi])
 rw [dJ,stF (i:=2) (c:=0) e7 g7 d7 (by rw [ah,if_neg dE];exact h6 _ (by simp [ah,Nj]))];simp only [List.append_nil];have hx2:(((kill i ⟨tm,bx⟩).bx).set i (c++(yc++zc)))[2]?=some (xl.map (fC i)):=by show ((bx.map fun c=>c.map (fC i)).set i _)[2]?=_;rw [List.getElem?_set,if_neg hi,List.getElem?_map,hx];rfl
 rw [dJ,stS (i:=2) (l:=xl.map (fC i)) (j:=i) (z:=12) (n:=m+2) e8 g8 d8 (by simp [ah]) (by simp [ah]) hx2 (by rw [List.length_map];exact hxl)];simp only [List.append_nil];refine ⟨_,rfl,?_,U6 hw.bx hx hxl hi hxk hoth⟩;simp only []
 repeat rw [qH dE]
 show prune _ (List.map _ _)=_;rw [Aj]
 repeat rw [qH dE]
 exact KJ (iZ _ hw.tm) hlive
theorem WP.abQ {P:Program} {T:kZ} (B:Em P T sp) (an:Gm) {i:Nat} {ops:Array Oper} {live:List Nat} {tm':Tm} {bx':List (List AV)} (hl:an.live.getD i []=live) (h:Ok σ->∀cal,∃τ,dJ cal T ops.toList ⟨qU ops.toList++an.adl,an.arr,base⟩ ops.toList σ=some τ∧prune live τ.tm=tm'∧τ.bx=bx') (hok:Ok σ->Ok ⟨tm',bx'⟩) (hq:Q .normal ⟨tm',bx'⟩):WP P n0 base (.region i ops false) σ Q:=by subst hl;refine WP.mk fun hg hσ=>?_;obtain ⟨cal,HC,hI⟩:=qM B.sp;obtain ⟨τ,h1,h2,h3⟩:=h hσ cal;refine ⟨.normal,⟨tm',bx'⟩,fun {m lim bs w a Q} hn hb H hm hK=>?_,hok hσ,hq⟩;subst h2 h3;exact wp_region_list (xP (a:=a) (md:=⟨qU ops.toList++an.adl,an.arr,base⟩) B.tok HC (rU hg hn) ops.toList (fun o ho=>ho) rfl H hm h1 (fun lim' bs' w' a' hgo=>hK lim' bs' w' a' ⟨hgo.hold.prune _,hgo.fr,hgo.pre,hgo.nt,hgo.df⟩))
theorem wQ {l:List AV} (hw:gG l=true) (hd:l.map AV.cO=l):dZ l=true∧AV.aj l=true:=by have:=LQ hw;rw [hd] at this;exact ⟨CE this,ui this⟩
theorem IB:∀{a b:List AV},dZ a=true->dZ b=true->dZ (a++b)=true
 |[],_,_,h=>h
 |x::a,b,h,k=>by rw [dZ,Bool.and_eq_true] at h;rw [List.cons_append,dZ,h.1,IB h.2 k];rfl
theorem vZ {b:List (List AV)} {i:Nat} {c:List AV} (h:aN b=true) (hc:gG c=true):aN (b.set i c)=true:=aY.2 fun d hd=>by
 rcases List.mem_or_eq_of_mem_set hd with h1|h1
 ·exact aY.1 h d h1
 ·rw [h1];exact hc
theorem Uh {b d:List (List AV)} (h:aN b=true) (hd:aN d=true):aN (b++d)=true:=aY.2 fun c hc=>by
 rcases List.mem_append.1 hc with h1|h1
 ·exact aY.1 h c h1
 ·exact aY.1 hd c h1
theorem Gz {l:List AV} {j e z n:Nat} (h:gG l=true):gG (setAt l 7 [.dm j e z n])=true:=Gx h rfl
def aqT (base:Nat) (J:aF->Prop) (Q:zV->aF->Prop) (e:zV) (τ:aF):Prop:=
 match e with
 |.normal=>∃τ',Rx base τ τ'∧J τ'
 |e=>Q e τ
def aH (p:Prop):Prop:=p
theorem aH.mk {p:Prop} (h:p):aH p:=h
theorem WP.cut {P:Program} {x y:Code} (J:aF->Prop) (h1:WP P n0 base x σ (aqT base J Q)) (h2:aH (∀τ,J τ->WP P n0 base y τ Q)):WP P n0 base (.seq x y) σ Q:=by
 refine WP.seq (WP.mono h1 fun e τ h=>?_);cases e with
 |normal=>
  obtain ⟨τ',hr,hj⟩:=h;exact WP.pJ hr (h2 τ' hj)
 |exit i=>exact h
 |ret=>exact h
def noI (i:Nat):Nat->List (List AV)->Prop
 |_,[]=>True
 |k,l::r=>(k=i∨k=2∨i ∉ dG l)∧noI i (k+1) r
theorem noI.get {i:Nat}:∀{b:List (List AV)} {k:Nat},noI i k b->∀(j:Nat) (l:List AV),b[j]?=some l->k+j≠i->k+j≠2->i ∉ dG l
 |[],k,_,j,l,h,_,_=>by simp at h
 |c::r,k,h,j,l,hj,h1,h2=>by
  cases j with
  |zero=>
   simp at hj;subst hj;rcases h.1 with e|e|e
   ·exact absurd e h1
   ·exact absurd e h2
   ·exact e
  |succ j=>exact noI.get h.2 j l (by simpa using hj) oM oM
theorem ait {P:Program} (B:Em P jJ sp) {o1 o2 o3 o4 o5 o6 o7:Oper} {tm:Tm} {bx:List (List AV)} {xl:List AV} (e1:o1.op=.fieldAddr 35 (.tmp 6) 7) (g1:o1.guard=none) (d1:o1.dst=some 97) (e2:o2.op=.load 33 (.tmp 97)) (g2:o2.guard=none) (d2:o2.dst=some 98) (e3:o3.op=.load 35 (.tmp 12)) (g3:o3.guard=none) (d3:o3.dst=some 99) (e4:o4.op=.buildSlice 33 1 #[(0,.tmp 99)]) (g4:o4.guard=none) (d4:o4.dst=some 100) (e5:o5.op=.call {callee:=.builtin .append,args:=#[.tmp 98,.tmp 100],argTypes:=#[33,33]}) (g5:o5.guard=none) (d5:o5.dst=some 101) (e6:o6.op=.fieldAddr 35 (.tmp 6) 7) (g6:o6.guard=none) (d6:o6.dst=some 102) (e7:o7.op=.store 33 (.tmp 102) (.tmp 101)) (g7:o7.guard=none) (d7:o7.dst=none) (Nj:get tm 6=.ptr 2 0) (hx:bx[2]?=some xl) (hxl:xl.length=12) {yi:Nat} {yc:List AV} (hty:get tm 12=.ptr yi 0) (hy:bx[yi]?=some yc) (hyl:yc.length=12) (Nh:yc.map AV.cO=yc) (hk:xl[7]?=some .nil) (hq:Q .normal ⟨prune [0,1,4,6,7,8,13,14] tm,(bx++[yc]).set 2 (setAt xl 7 [.dm bx.length 35 12 1])⟩):WP P n0 base (.region 20 #[o1,o2,o3,o4,o5,o6,o7] false) ⟨tm,bx⟩ Q:=by
 have W:Ok (⟨tm,bx⟩:aF)->gG xl=true∧gG yc=true∧dZ yc=true∧AV.aj yc=true:=by intro hw;have Zg:=aY.1 hw.bx yc (List.mem_of_getElem? hy);have:=wQ Zg Nh;refine ⟨aY.1 hw.bx xl (List.mem_of_getElem? hx),?_⟩;exact ⟨Zg,this⟩
 refine WP.abQ B (au 141) (live:=[0,1,4,6,7,8,13,14]) rfl (fun hw cal=>?_) (fun hw=>?_) hq
 ·obtain ⟨w1,w2,w3,w4⟩:=W hw;refine afs e1 g1 d1 e2 g2 d2 e3 g3 d3 e4 g4 d4 e5 g5 d5 e6 g6 d6 e7 g7 d7 Nj hx hxl hty hy hyl Nh w3 w4 hk hw
 ·obtain ⟨w1,w2,w3,w4⟩:=W hw;exact ⟨iZ _ hw.tm,vZ (Uh hw.bx (by rw [aN,w2];rfl)) (Gz w1)⟩
theorem aiu {P:Program} (B:Em P jJ sp) {o1 o2 o3 o4 o5 o6 o7:Oper} {tm:Tm} {bx:List (List AV)} {xl:List AV} (e1:o1.op=.fieldAddr 35 (.tmp 6) 7) (g1:o1.guard=none) (d1:o1.dst=some 97) (e2:o2.op=.load 33 (.tmp 97)) (g2:o2.guard=none) (d2:o2.dst=some 98) (e3:o3.op=.load 35 (.tmp 12)) (g3:o3.guard=none) (d3:o3.dst=some 99) (e4:o4.op=.buildSlice 33 1 #[(0,.tmp 99)]) (g4:o4.guard=none) (d4:o4.dst=some 100) (e5:o5.op=.call {callee:=.builtin .append,args:=#[.tmp 98,.tmp 100],argTypes:=#[33,33]}) (g5:o5.guard=none) (d5:o5.dst=some 101) (e6:o6.op=.fieldAddr 35 (.tmp 6) 7) (g6:o6.guard=none) (d6:o6.dst=some 102) (e7:o7.op=.store 33 (.tmp 102) (.tmp 101)) (g7:o7.guard=none) (d7:o7.dst=none) (Nj:get tm 6=.ptr 2 0) (hx:bx[2]?=some xl) (hxl:xl.length=12) {yi:Nat} {yc:List AV} (hty:get tm 12=.ptr yi 0) (hy:bx[yi]?=some yc) (hyl:yc.length=12) (Nh:yc.map AV.cO=yc) {i m:Nat} {c:List AV} (hk:xl[7]?=some (.dm i 35 12 m)) (hb:bx[i]?=some c) (hbase:base<=i) (hi:i≠2) (hmn:m+1<=10000000000) (hc:c.length=m*12) (hcf:mi c=true) (tX:i ∉ dG yc) (hxk:i ∉ dG (setAt xl 7 [.nil])) (hoth:noI i 0 bx) (hlive:∀p ∈ prune [0,1,4,6,7,8,13,14] tm,i ∉ kQ p.2) (hq:Q .normal ⟨prune [0,1,4,6,7,8,13,14] tm,(bx.set i (c++yc)).set 2 (setAt xl 7 [.dm i 35 12 (m+1)])⟩):WP P n0 base (.region 20 #[o1,o2,o3,o4,o5,o6,o7] false) ⟨tm,bx⟩ Q:=by
 have W:Ok (⟨tm,bx⟩:aF)->gG xl=true∧gG yc=true∧dZ yc=true∧AV.aj yc=true:=by intro hw;have Zg:=aY.1 hw.bx yc (List.mem_of_getElem? hy);have:=wQ Zg Nh;refine ⟨aY.1 hw.bx xl (List.mem_of_getElem? hx),?_⟩;exact ⟨Zg,this⟩
 refine WP.abQ B (au 141) (live:=[0,1,4,6,7,8,13,14]) rfl (fun hw cal=>?_) (fun hw=>?_) hq
 ·obtain ⟨w1,w2,w3,w4⟩:=W hw;refine aft e1 g1 d1 e2 g2 d2 e3 g3 d3 e4 g4 d4 e5 g5 d5 e6 g6 d6 e7 g7 d7 Nj hx hxl hty hy hyl Nh w3 w4 hk hb hbase hi hmn hc (bK hcf) ?_ hxk (fun j l a b c=>hoth.get j l a oM oM) hlive hw;rw [mX (xg (bT (dA (bZ hcf)) w2)),iy,bQ hcf,List.nil_append];cases hm:mem i (dG yc) with
  |false=>rfl
  |true=>exact absurd (mem_iff.1 hm) tX
 ·obtain ⟨w1,w2,w3,w4⟩:=W hw;exact ⟨iZ _ hw.tm,vZ (vZ hw.bx (bT (dA (bZ hcf)) w2)) (Gz w1)⟩
theorem air {P:Program} (B:Em P jJ sp) {o1 o2 o3 o4 o5 o6 o7 o8:Oper} {tm:Tm} {bx:List (List AV)} {xl:List AV} (e1:o1.op=.fieldAddr 35 (.tmp 6) 7) (g1:o1.guard=none) (d1:o1.dst=some 129) (e2:o2.op=.load 33 (.tmp 129)) (g2:o2.guard=none) (d2:o2.dst=some 130) (e3:o3.op=.load 35 (.tmp 16)) (g3:o3.guard=none) (d3:o3.dst=some 131) (e4:o4.op=.load 35 (.tmp 17)) (g4:o4.guard=none) (d4:o4.dst=some 132) (e5:o5.op=.buildSlice 33 2 #[(0,.tmp 131),(1,.tmp 132)]) (g5:o5.guard=none) (d5:o5.dst=some 133) (e6:o6.op=.call {callee:=.builtin .append,args:=#[.tmp 130,.tmp 133],argTypes:=#[33,33]}) (g6:o6.guard=none) (d6:o6.dst=some 134) (e7:o7.op=.fieldAddr 35 (.tmp 6) 7) (g7:o7.guard=none) (d7:o7.dst=some 135) (e8:o8.op=.store 33 (.tmp 135) (.tmp 134)) (g8:o8.guard=none) (d8:o8.dst=none) (Nj:get tm 6=.ptr 2 0) (hx:bx[2]?=some xl) (hxl:xl.length=12) {yi zi:Nat} {yc zc:List AV} (hty:get tm 16=.ptr yi 0) (hy:bx[yi]?=some yc) (hyl:yc.length=12) (Nh:yc.map AV.cO=yc) (htz:get tm 17=.ptr zi 0) (hz:bx[zi]?=some zc) (hzl:zc.length=12) (hzd:zc.map AV.cO=zc) (hk:xl[7]?=some .nil) (hq:Q .normal ⟨prune [0,1,4,6,7,8,18] tm,(bx++[(yc++zc)]).set 2 (setAt xl 7 [.dm bx.length 35 12 2])⟩):WP P n0 base (.region 28 #[o1,o2,o3,o4,o5,o6,o7,o8] false) ⟨tm,bx⟩ Q:=by
 have W:Ok (⟨tm,bx⟩:aF)->gG xl=true∧gG (yc++zc)=true∧dZ (yc++zc)=true∧AV.aj (yc++zc)=true:=by intro hw;have Zg:=aY.1 hw.bx yc (List.mem_of_getElem? hy);have:=wQ Zg Nh;refine ⟨aY.1 hw.bx xl (List.mem_of_getElem? hx),?_⟩;have hzw:=aY.1 hw.bx zc (List.mem_of_getElem? hz);have h2:=wQ hzw hzd;exact ⟨bT Zg hzw,IB this.1 h2.1,fA this.2 h2.2⟩
 refine WP.abQ B (au 141) (live:=[0,1,4,6,7,8,18]) rfl (fun hw cal=>?_) (fun hw=>?_) hq
 ·obtain ⟨w1,w2,w3,w4⟩:=W hw;refine afq e1 g1 d1 e2 g2 d2 e3 g3 d3 e4 g4 d4 e5 g5 d5 e6 g6 d6 e7 g7 d7 e8 g8 d8 Nj hx hxl hty hy hyl Nh htz hz hzl hzd w3 w4 hk hw
 ·obtain ⟨w1,w2,w3,w4⟩:=W hw;exact ⟨iZ _ hw.tm,vZ (Uh hw.bx (by rw [aN,w2];rfl)) (Gz w1)⟩
theorem ais {P:Program} (B:Em P jJ sp) {o1 o2 o3 o4 o5 o6 o7 o8:Oper} {tm:Tm} {bx:List (List AV)} {xl:List AV} (e1:o1.op=.fieldAddr 35 (.tmp 6) 7) (g1:o1.guard=none) (d1:o1.dst=some 129) (e2:o2.op=.load 33 (.tmp 129)) (g2:o2.guard=none) (d2:o2.dst=some 130) (e3:o3.op=.load 35 (.tmp 16)) (g3:o3.guard=none) (d3:o3.dst=some 131) (e4:o4.op=.load 35 (.tmp 17)) (g4:o4.guard=none) (d4:o4.dst=some 132) (e5:o5.op=.buildSlice 33 2 #[(0,.tmp 131),(1,.tmp 132)]) (g5:o5.guard=none) (d5:o5.dst=some 133) (e6:o6.op=.call {callee:=.builtin .append,args:=#[.tmp 130,.tmp 133],argTypes:=#[33,33]}) (g6:o6.guard=none) (d6:o6.dst=some 134) (e7:o7.op=.fieldAddr 35 (.tmp 6) 7) (g7:o7.guard=none) (d7:o7.dst=some 135) (e8:o8.op=.store 33 (.tmp 135) (.tmp 134)) (g8:o8.guard=none) (d8:o8.dst=none) (Nj:get tm 6=.ptr 2 0) (hx:bx[2]?=some xl) (hxl:xl.length=12) {yi zi:Nat} {yc zc:List AV} (hty:get tm 16=.ptr yi 0) (hy:bx[yi]?=some yc) (hyl:yc.length=12) (Nh:yc.map AV.cO=yc) (htz:get tm 17=.ptr zi 0) (hz:bx[zi]?=some zc) (hzl:zc.length=12) (hzd:zc.map AV.cO=zc) {i m:Nat} {c:List AV} (hk:xl[7]?=some (.dm i 35 12 m)) (hb:bx[i]?=some c) (hbase:base<=i) (hi:i≠2) (hmn:m+2<=10000000000) (hc:c.length=m*12) (hcf:mi c=true) (tX:i ∉ dG (yc++zc)) (hxk:i ∉ dG (setAt xl 7 [.nil])) (hoth:noI i 0 bx) (hlive:∀p ∈ prune [0,1,4,6,7,8,18] tm,i ∉ kQ p.2) (hq:Q .normal ⟨prune [0,1,4,6,7,8,18] tm,(bx.set i (c++(yc++zc))).set 2 (setAt xl 7 [.dm i 35 12 (m+2)])⟩):WP P n0 base (.region 28 #[o1,o2,o3,o4,o5,o6,o7,o8] false) ⟨tm,bx⟩ Q:=by
 have W:Ok (⟨tm,bx⟩:aF)->gG xl=true∧gG (yc++zc)=true∧dZ (yc++zc)=true∧AV.aj (yc++zc)=true:=by intro hw;have Zg:=aY.1 hw.bx yc (List.mem_of_getElem? hy);have:=wQ Zg Nh;refine ⟨aY.1 hw.bx xl (List.mem_of_getElem? hx),?_⟩;have hzw:=aY.1 hw.bx zc (List.mem_of_getElem? hz);have h2:=wQ hzw hzd;exact ⟨bT Zg hzw,IB this.1 h2.1,fA this.2 h2.2⟩
 refine WP.abQ B (au 141) (live:=[0,1,4,6,7,8,18]) rfl (fun hw cal=>?_) (fun hw=>?_) hq
 ·obtain ⟨w1,w2,w3,w4⟩:=W hw;refine afr e1 g1 d1 e2 g2 d2 e3 g3 d3 e4 g4 d4 e5 g5 d5 e6 g6 d6 e7 g7 d7 e8 g8 d8 Nj hx hxl hty hy hyl Nh htz hz hzl hzd w3 w4 hk hb hbase hi hmn hc (bK hcf) ?_ hxk (fun j l a b c=>hoth.get j l a oM oM) hlive hw;rw [mX (xg (bT (dA (bZ hcf)) w2)),iy,bQ hcf,List.nil_append];cases hm:mem i (dG (yc++zc)) with
  |false=>rfl
  |true=>exact absurd (mem_iff.1 hm) tX
 ·obtain ⟨w1,w2,w3,w4⟩:=W hw;exact ⟨iZ _ hw.tm,vZ (vZ hw.bx (bT (dA (bZ hcf)) w2)) (Gz w1)⟩
end V
namespace V
open Ab
open Bk (Cm)
def alO:=fN 141 Tryz.f141 215 [.cell 4 35,.tmp 5]
def xB (kd p:Int) (K:AV):List AV:=[.int .i64 kd,.int .i64 7,.int .i64 p,.int .i64 0,.str ByteArray.empty,.str ByteArray.empty,.str ByteArray.empty,K,.nil,.nil,.bool false,.str ByteArray.empty]
def zB:List AV:=[.int .i64 0,.int .i64 0,.int .i64 0,.int .i64 0,.str ByteArray.empty,.str ByteArray.empty,.str ByteArray.empty,.nil,.nil,.nil,.bool false,.str ByteArray.empty]
def Rq (deep cl:Int):Tm:=[(7,.int .u8 cl),(6,.ptr 2 0),(4,.ptr 1 0),(1,.int .i64 deep),(0,.ptr 0 0)]
def J0 (s:ByteArray) (p n deep:Int) (τ:aF):Prop:=∃kd cl:Int,(kd=3∧cl=93∨kd=4∧cl=125)∧τ=⟨[(7,.int .u8 cl),(6,.ptr 2 0),(4,.ptr 1 0),(1,.int .i64 deep),(0,.ptr 0 0)],[rB s p n,zB,xB kd p .nil]⟩
def Inv (kd:Int) (s:ByteArray) (p:Int) (kids:List Nd) (L:List Cm) (q:Int):Prop:=(p<q∧q<=s.size)∧iJ kids+L.length+8<=8*(q-p)∧(∀z ∈ kids,FW z)∧(kd=4->kids.length % 2=0)
def I1 (kd cl:Int) (s:ByteArray) (p n deep:Int) (k:Nat) (τ:aF):Prop:=∃(kids:List Nd) (L:List Cm) (n1:Nat) (l1:List AV) (same:Bool) (e q:Int),Inv kd s p kids L q∧mi l1=true∧k=((s.size:Int)-q).toNat∧
 (kids=[]∧τ=⟨(10,cs L)::(8,.ptr 3 0)::Rq deep cl,[rB s q n,zB,xB kd p .nil,[.sl n1 l1,.bool same,.int .i64 e]]⟩∨
  kids≠[]∧τ=⟨(10,cs L)::(8,.ptr 3 0)::Rq deep cl,[rB s q n,zB,xB kd p (.dm 4 35 12 kids.length),[.sl n1 l1,.bool same,.int .i64 e],aO kids]⟩)
theorem I1.mk {kd cl:Int} {s:ByteArray} {p n deep:Int} {k N:Nat} {kids:List Nd} {L:List Cm} {n1:Nat} {l1 C:List AV} {same:Bool} {e q:Int} {v:AV} (hI:Inv kd s p kids L q) (hl:mi l1=true) (hk:k=((s.size:Int)-q).toNat) (hne:kids≠[]) (hv:v=cs L) (hN:N=kids.length) (hC:C=aO kids):I1 kd cl s p n deep k ⟨(10,v)::(8,.ptr 3 0)::Rq deep cl,[rB s q n,zB,xB kd p (.dm 4 35 12 N),[.sl n1 l1,.bool same,.int .i64 e],C]⟩:=by subst hN hC hv;exact ⟨kids,L,n1,l1,same,e,q,hI,hl,hk,.inr ⟨hne,rfl⟩⟩
theorem Inv.Rn {kd:Int} {s:ByteArray} {p q q':Int} {kids:List Nd} {L L':List Cm} {x x':Nd} (h:Inv kd s p (kids++[x]) L q) (hx:FW x->FW x') (hw:wt x'=wt x) (h1:q<=q'∧q'<=s.size∧(L'.length:Int)<=L.length+8*(q'-q)):Inv kd s p (kids++[x']) L' q':=by
 obtain ⟨⟨a,b⟩,c,d,e⟩:=h;refine ⟨⟨oM,h1.2.1⟩,?_,?_,fun h=>?_⟩
 ·rw [xe,iJ,iJ] at c⊢;omega
 ·intro z hz;rcases List.mem_append.1 hz with hz|hz
  ·exact d z (List.mem_append_left _ hz)
  ·rw [List.mem_singleton.1 hz];exact hx (d x (by simp))
 ·have:=e h;simp only [lL] at*;exact this
theorem FW.V6 {x:Nd} {t:ByteArray} (h:FW x):FW (x.V6 t):=by cases x;exact h.XX
theorem XM {x:Nd} {t:ByteArray}:wt (x.V6 t)=wt x:=by cases x;rw [Nd.V6,wt,wt]
def J1 (kd cl:Int) (s:ByteArray) (p n deep q0:Int) (τ:aF):Prop:=∃(kids:List Nd) (x:Nd) (L:List Cm) (same:Bool) (e q:Int) (o N:Nat) (C:List AV),Inv kd s p (kids++[x]) L q∧q0<q∧o=kids.length*12∧N=kids.length+1∧C=aO kids++bV x∧
 τ=⟨(11,.ptr 4 o)::(8,.ptr 3 0)::Rq deep cl,[rB s q n,zB,xB kd p (.dm 4 35 12 N),[cs L,.bool same,.int .i64 e],C]⟩
def kC (first b:Int) (n:Nat) (l:List AV):List AV:=[.int .i64 4,.int .i64 7,.int .i64 first,.int .i64 b,.str ByteArray.empty,.str ByteArray.empty,.str ByteArray.empty,.dm 5 35 12 2,.sl n l,.nil,.bool false,.str ByteArray.empty]
def J2 (kd cl:Int) (s:ByteArray) (p n deep q0:Int) (τ:aF):Prop:=∃(kids:List Nd) (x y:Nd) (L M:List Cm) (first b:Int) (same:Bool) (e q:Int) (N:Nat) (C D:List AV),Inv kd s p (kids++[.mk 4 7 first b ByteArray.empty ByteArray.empty ByteArray.empty [x,y] M [] false ByteArray.empty]) L q∧q0<q∧N=kids.length+1∧C=aO kids++kC first b M.length (eU M)∧D=bV x++bV y∧
 τ=⟨(11,.ptr 5 12)::(8,.ptr 3 0)::Rq deep cl,[rB s q n,zB,xB kd p (.dm 4 35 12 N),[cs L,.bool same,.int .i64 e],C,D]⟩
theorem J1.mk {kd cl:Int} {s:ByteArray} {p n deep q0:Int} {kids:List Nd} {x:Nd} {L:List Cm} {same:Bool} {e q:Int} {o N:Nat} {C:List AV} (hI:Inv kd s p (kids++[x]) L q) (hq:q0<q) (ho:o=kids.length*12) (hN:N=kids.length+1) (hC:C=aO kids++bV x):J1 kd cl s p n deep q0 ⟨(11,.ptr 4 o)::(8,.ptr 3 0)::Rq deep cl,[rB s q n,zB,xB kd p (.dm 4 35 12 N),[cs L,.bool same,.int .i64 e],C]⟩:=⟨kids,x,L,same,e,q,o,N,C,hI,hq,ho,hN,hC,rfl⟩
theorem J2.mk {kd cl:Int} {s:ByteArray} {p n deep q0:Int} {kids:List Nd} {x y:Nd} {L M:List Cm} {first b:Int} {same:Bool} {e q:Int} {N:Nat} {C D:List AV} (hI:Inv kd s p (kids++[.mk 4 7 first b ByteArray.empty ByteArray.empty ByteArray.empty [x,y] M [] false ByteArray.empty]) L q) (hq:q0<q) (hN:N=kids.length+1) (hC:C=aO kids++kC first b M.length (eU M)) (hD:D=bV x++bV y):J2 kd cl s p n deep q0 ⟨(11,.ptr 5 12)::(8,.ptr 3 0)::Rq deep cl,[rB s q n,zB,xB kd p (.dm 4 35 12 N),[cs L,.bool same,.int .i64 e],C,D]⟩:=⟨kids,x,y,L,M,first,b,same,e,q,N,C,D,hI,hq,hN,hC,hD,rfl⟩
theorem Inv.add {kd:Int} {s:ByteArray} {p q q':Int} {kids:List Nd} {L l:List Cm} {x:Nd} (h:Inv kd s p kids L q) (hx:FW x) (h1:q<q'∧q'<=s.size∧wt x+l.length<=8*(q'-q)+L.length) (h2:kd=3):Inv kd s p (kids++[x]) l q':=by
 obtain ⟨⟨a,b⟩,c,d,e⟩:=h;refine ⟨⟨oM,h1.2.1⟩,?_,?_,fun h=>by omega⟩
 ·rw [xe,iJ,iJ];omega
 ·intro z hz;rcases List.mem_append.1 hz with hz|hz
  ·exact d z hz
  ·rw [List.mem_singleton.1 hz];exact hx
theorem Inv.adu {kd:Int} {s:ByteArray} {p q q':Int} {kids:List Nd} {L l:List Cm} {x y:Nd} (h:Inv kd s p kids L q) (hx:FW x) (hy:FW y) (h1:q<q'∧q'<=s.size∧wt x+wt y+l.length<=8*(q'-q)+L.length) (h2:kd=4):Inv kd s p ((kids++[x])++[y]) l q':=by
 obtain ⟨⟨a,b⟩,c,d,e⟩:=h;refine ⟨⟨oM,h1.2.1⟩,?_,?_,fun h=>?_⟩
 ·rw [xe,xe,iJ,iJ,iJ,iJ];omega
 ·intro z hz;rcases List.mem_append.1 hz with hz|hz
  ·rcases List.mem_append.1 hz with hz|hz
   ·exact d z hz
   ·rw [List.mem_singleton.1 hz];exact hx
  ·rw [List.mem_singleton.1 hz];exact hy
 ·have:=e h2;simp only [lL];omega
theorem FW.pair {x y:Nd} {first b:Int} {M:List Cm} (hx:FW x) (hy:FW y):FW (.mk 4 7 first b ByteArray.empty ByteArray.empty ByteArray.empty [x,y] M [] false ByteArray.empty):=.mk ⟨.inr (.inr (.inr ⟨rfl,rfl,(by show 2 % 2=0;rfl)⟩)),fun _=>rfl⟩ fun z hz=>by
 rcases List.mem_cons.1 hz with rfl|hz
 ·exact hx
 ·rw [List.mem_singleton.1 hz];exact hy
theorem Inv.anJ {kd:Int} {s:ByteArray} {p q q' first b:Int} {kids:List Nd} {L l M:List Cm} {x y:Nd} (h:Inv kd s p kids L q) (hx:FW x) (hy:FW y) (h1:q<q'∧q'<=s.size∧1+M.length+wt x+wt y+l.length<=8*(q'-q)+L.length) (h2:kd=3):Inv kd s p (kids++[.mk 4 7 first b ByteArray.empty ByteArray.empty ByteArray.empty [x,y] M [] false ByteArray.empty]) l q':=by refine h.add (FW.pair hx hy) ⟨h1.1,h1.2.1,?_⟩ h2;rw [yL];show ((1+M.length+0+iJ [x,y]:Nat):Int)+l.length<=_;rw [iJ,iJ,iJ];omega
def lmR:Code->Option Nat
 |.seq x _=>lmR x
 |.region i _ _=>some i
 |_=>none
def JO (i:Nat):Code->Option Code
 |.seq x y=>
  match lmR x with
  |some j=>
   match Nat.beq j i with
   |true=>some (.seq x y)
   |false=>
    match JO i x with
    |some c=>some c
    |none=>JO i y
  |none=>
   match JO i x with
   |some c=>some c
   |none=>JO i y
 |.cond _ x y=>
  match JO i x with
  |some c=>some c
  |none=>JO i y
 |.block _ x=>JO i x
 |.loop x=>JO i x
 |_=>none
theorem afW {l l':List Nat} {K:List Nat->Prop} (h:l=l') (hK:AY l' K):AY l K:=by rw [h];exact hK
theorem abR {bx:List (List AV)} {i:Nat} (h:dG (bx.getD i [])=[]):Iw 1000000 bx [i] []=[i]:=by rw [show (1000000:Nat)=999998+1+1 from rfl,Iw];show Iw (999998+1) bx (dG (bx.getD i [])++[]) ([]++[i])=[i];rw [h];rfl
theorem ZI {f:Nat->Nat} {l:List AV} {K:List AV->Prop} (h:dG l=[]) (hK:K l):vI (gJ f l) K:=by rw [lu,qG h];exact hK
theorem RP {s:ByteArray} {n kd p:Int} {kids:List Nd} {N:Nat} {C:List AV} {X Y:List AV} {rest:List (List AV)} {G:AV->List (List AV)->Prop} (hf:∀kids:List Nd,G (.bW [.agg (xB kd p (.sl kids.length (aO kids))),.bool false]) [rF s n]) (hN:N=kids.length) (hC:C=aO kids):∃τ',Rx 1 ⟨[(5,.bool false),(4,.ptr 1 0)],rF s n::xB kd p (.dm 4 35 12 N)::X::Y::C::rest⟩ τ'∧A7 jJ [.cell 4 35,.tmp 5] 1 G .ret τ':=by
 subst hN hC;have ht:(aO kids).take (kids.length*12)=aO kids:=by rw [←eY,List.take_length]
 refine ⟨⟨[(5,.bool false),(4,.ptr 1 0)],[rF s n,xB kd p (.sl kids.length ((aO kids).take (kids.length*12)))]⟩,Rx.fz 2 dE rfl ?_ ?_ ?_,?_⟩
 ·refine .cons (.all (by intro i hi;simp [rF,dG,kQ] at hi)) (.cons ?_ .nil);refine .cons (.same (by simp [kQ])) (.cons (.same (by simp [kQ])) (.cons (.same (by simp [kQ])) (.cons (.same (by simp [kQ])) (.cons (.same (by simp [kQ])) (.cons (.same (by simp [kQ])) (.cons (.same (by simp [kQ])) (.cons ?_ (.all (by simp [dG,kQ])))))))));exact .box dE rfl (by rw [eY];exact Nat.le_refl _) (by rw [ht];exact ai _)
 ·exact .cons (.same (by simp [kQ])) (.cons (.same (by simp [kQ])) .nil)
 ·rw [ht];exact ⟨(by simp [uh,wv]),(by simp [aN,gG,wv,AV.one,xB,rF,ai])⟩
 ·rw [ht]
  conv=>whnf
  exact hf kids
def vG (first b:Int) (x y:Nd) (M:List Cm):Nd:=.mk 4 7 first b ByteArray.empty ByteArray.empty ByteArray.empty [x,y] M [] false ByteArray.empty
theorem aja {kids:List Nd} {x y:Nd} {M:List Cm} {first b:Int}:aO kids++[.int .i64 4,.int .i64 7,.int .i64 first,.int .i64 b,.str ByteArray.empty,.str ByteArray.empty,.str ByteArray.empty,.sl 2 ((bV x++bV y).take (2*12)),.sl M.length (eU M),.sl 0 [],.bool false,.str ByteArray.empty]=aO (kids++[vG first b x y M]):=by
 rw [nV,tK];have h:(bV x++bV y).take (2*12)=aO [x,y]:=by rw [aO,aO,aO,pR,pR,List.append_nil];rfl
 rw [h];rfl
theorem ZG {tm tm':Tm} {R Z X B D:List AV} {rest:List (List AV)} {kids:List Nd} {x y:Nd} {M:List Cm} {first b:Int} (hR:dG R=[]) (hZ:∀i ∈ dG Z,i<5) (hX:∀i ∈ dG X,i<5) (hB:∀i ∈ dG B,i<5) (hD:D=bV x++bV y) (ht:Xr (R::Z::X::B::(aO kids++kC first b M.length (eU M))::D::rest) 5 tm tm') (hok:Ok ⟨tm',[R,Z,X,B,aO (kids++[vG first b x y M])]⟩):Rx 1 ⟨tm,R::Z::X::B::(aO kids++kC first b M.length (eU M))::D::rest⟩ ⟨tm',[R,Z,X,B,aO (kids++[vG first b x y M])]⟩:=by subst hD;refine Rx.fz 5 dE rfl ?_ ht hok;refine .cons (.all (by rw [hR];simp)) (.cons (.all hZ) (.cons (.all hX) (.cons (.all hB) (.cons ?_ .nil))));rw [←aja];refine .app (by rw [bQ (ai _)];simp) ?_;refine .cons (.same (by simp [kQ])) (.cons (.same (by simp [kQ])) (.cons (.same (by simp [kQ])) (.cons (.same (by simp [kQ])) (.cons (.same (by simp [kQ])) (.cons (.same (by simp [kQ])) (.cons (.same (by simp [kQ])) (.cons ?_ (.cons (.same (by simp [kQ])) (.cons .nil0 (.all (by simp [dG,kQ])))))))))));exact .box dE rfl (Nat.le_refl _) (PM _ (iH (jg _) (jg _)))
theorem FW.abW {x y:Nd} {first b:Int} {M:List Cm} {t:ByteArray} (h:FW (vG first b x y M)):FW (vG first b x (y.V6 t) M):=by have h2:=(Cb.out h).2;exact FW.pair (h2 x (by simp [vG,Nd.kids])) (FW.V6 (h2 y (by simp [vG,Nd.kids])))
theorem Ri {x y:Nd} {first b:Int} {M:List Cm} {t:ByteArray}:wt (vG first b x (y.V6 t) M)=wt (vG first b x y M):=by rw [yL,yL];show 1+M.length+0+iJ [x,y.V6 t]=1+M.length+0+iJ [x,y];rw [iJ,iJ,iJ,iJ,iJ,iJ,XM]
theorem abN {s:ByteArray} {n kd p first b:Int} {kids:List Nd} {x y:Nd} {M:List Cm} {N:Nat} {D X Y:List AV} {rest:List (List AV)} {G:AV->List (List AV)->Prop} (hf:∀kids:List Nd,G (.bW [.agg (xB kd p (.sl kids.length (aO kids))),.bool false]) [rF s n]) (hN:N=kids.length+1) (hD:D=bV x++bV y) (hX:∀i ∈ dG X,i<5) (hY:∀i ∈ dG Y,i<5) (hXw:gG X=true) (hYw:gG Y=true):∃τ',Rx 1 ⟨[(5,.bool false),(4,.ptr 1 0)],rF s n::xB kd p (.dm 4 35 12 N)::X::Y::(aO kids++kC first b M.length (eU M))::D::rest⟩ τ'∧A7 jJ [.cell 4 35,.tmp 5] 1 G .ret τ':=by obtain ⟨τ',h1,h2⟩:=RP (s:=s) (n:=n) (kd:=kd) (p:=p) (kids:=kids++[vG first b x y M]) (N:=N) (X:=X) (Y:=Y) (rest:=[]) (G:=G) hf (by simp [hN]) rfl;refine ⟨τ',Rx.trans (ZG rfl (by intro i hi;simp [xB,dG,kQ] at hi;omega) hX hY hD (.cons (.same (by simp [kQ])) (.cons (.same (by simp [kQ])) .nil)) ?_) h1,h2⟩;exact ⟨(by simp [uh,wv]),(by simp [aN,gG,wv,AV.one,AV.flat,xB,rF,dA (bZ (ai _)),hXw,hYw])⟩
theorem acJ {tm:Tm} {s:ByteArray} {q n kd p deep cl e:Int} {n1 N:Nat} {l1 D:List AV} {same:Bool} {rest:List (List AV)} {kids:List Nd} {x y:Nd} {M L:List Cm} {first b:Int} (hl2:mi l1=true) (hD:D=bV x++bV y) (ht:Xr (rB s q n::zB::xB kd p (.dm 4 35 12 N)::[.sl n1 l1,.bool same,.int .i64 e]::(aO kids++kC first b M.length (eU M))::D::rest) 5 tm ((10,cs L)::(8,.ptr 3 0)::Rq deep cl)):Rx 1 ⟨tm,rB s q n::zB::xB kd p (.dm 4 35 12 N)::[.sl n1 l1,.bool same,.int .i64 e]::(aO kids++kC first b M.length (eU M))::D::rest⟩ ⟨(10,cs L)::(8,.ptr 3 0)::Rq deep cl,[rB s q n,zB,xB kd p (.dm 4 35 12 N),[.sl n1 l1,.bool same,.int .i64 e],aO (kids++[vG first b x y M])]⟩:=by refine ZG rfl (by intro i hi;cases hi) (by intro i hi;simp [xB,dG,kQ] at hi;omega) (by intro i hi;simp [dG,kQ] at hi) hD ht ?_;exact ⟨(by simp [uh,Rq,wv,cs,ay]),(by simp [aN,gG,wv,mi,uX,AV.one,AV.flat,xB,zB,rB,cs,ay,dA (bZ (ai _)),hl2])⟩
theorem VH {k j:Nat} {τ τ':aF} {I:Nat->aF->Prop} (hi:I j τ') (hr:Rx 1 τ τ') (hj:j<k):∃j τ',j<k∧Rx 1 τ τ'∧I j τ':=⟨j,τ',hj,hr,hi⟩
theorem UY {kids:List Nd} {x:Nd}:aO kids++bV x=aO (kids++[x]):=by rw [nV,tK]
theorem ab6 {kids:List Nd} {x:Nd}:gG (aO kids++bV x)=true:=bT (dA (bZ (ai _))) (dA (bZ (jg _)))
theorem Ec {a b:List Cm}:mi (eU a++eU b)=true:=iH (ay _) (ay _)
theorem jF {kids:List Nd} {x:Nd}:dG (aO kids++bV x)=[]:=by rw [iy,bQ (ai _),bQ (jg _)];rfl
theorem aik.xt {p:Prop} (g:p:=by ((first|exact oJ|(refine afW (l':=[4]) (abR (i:=4) (jF (kids:=kids) (x:=x))) ?_;conv=>whnf)|((refine P6 ?_ (by show (true && (CP (dG (aO kids++bV x)) [4] && true))=true;rw [jF];rfl));conv=>whnf)|((refine P6 ?_ (by show (true && true && (below 1 (dG (aO kids++bV _)) && true))=true;rw [jF];rfl));conv=>whnf)|((refine ZI (l:=aO kids++bV _) jF ?_);conv=>whnf)|(refine ⟨_,aO kids,x,(by first|exact fP.mk _|exact fP.app (fP.mk _) (fP.mk _)),rfl,eY kids,ai _,?_,?_⟩)|((with_reducible refine hret _ ?_))|(exact RP (kids:=kids++[x]) hf (by simp) UY)|((with_reducible refine (?_:∃j τ',j<k∧Rx 1 _ τ'∧_));(apply VH);(case' hi=>(apply I1.mk (kids:=kids++[_])));(case' hr=>(apply Rx.pick [0,1,2,3,4]));(case hbx=>(repeat' (first|exact qC.nil|(refine qC.cons (by first|exact Pk.same rfl|exact Pk.ptr rfl|exact Pk.dm rfl) ?_)|(refine qC.drop rfl ?_)|exact iY.nil|(refine iY.same rfl rfl ?_)|(refine iY.same rfl jF ?_)|(refine iY.one rfl rfl rfl rfl ?_))));(case ht=>(repeat' (first|exact qC.nil|(refine qC.cons (by first|exact Pk.same rfl|exact Pk.ptr rfl|exact Pk.dm rfl) ?_)|(refine qC.drop rfl ?_)|exact iY.nil|(refine iY.same rfl rfl ?_)|(refine iY.same rfl jF ?_)|(refine iY.one rfl rfl rfl rfl ?_))));(case hn=>decide);(case hpre=>decide);(case hC=>exact UY);(case hv=>rfl);(case hk=>rfl);(case hN=>simp);(case hne=>simp);(case hl=>(first|exact ay _|exact Ec));(case hI=>(first|exact hI.Rn id rfl ⟨oM,oM,by (try simp only [List.length_append] at*);omega⟩|exact hI.Rn FW.V6 XM ⟨oM,oM,by (try simp only [List.length_append] at*);omega⟩));(case hj=>omega);(case hok=>exact ⟨(by simp [uh,Rq,wv,cs,ay]),(by simp [aN,gG,wv,mi,uX,AV.one,AV.flat,xB,zB,rB,cs,ay,ai,ab6,Ec])⟩))|fail);(repeat' (first|exact dw|fail));first|done|fail)):p:=g
theorem aij.xt {p:Prop} (g:p:=by ((first|exact oJ|(refine ⟨_,bV x,y,(by first|exact fP.mk _|exact fP.app (fP.mk _) (fP.mk _)),rfl,rfl,jg _,?_,?_⟩)|((with_reducible refine hret _ ?_))|((with_reducible refine (?_:∃τ',Rx 1 _ τ'∧A7 _ _ _ _ _ _));(apply abN (x:=x) (first:=first) (b:=b) (M:=M) (kids:=kids) hf);(case hN=>rfl);(case hD=>rfl);(case hX=>(intro i hi;simp [xB,dG,kQ] at hi;omega));(case hY=>(intro i hi;simp [dG,kQ,cs] at hi));(case hXw=>(simp [gG,wv,AV.one,AV.flat,xB]));(case hYw=>(simp [gG,wv,AV.one,AV.flat,cs,ay])))|((with_reducible refine (?_:∃j τ',j<k∧Rx 1 _ τ'∧_));(apply VH);(case' hi=>(apply I1.mk (kids:=kids++[vG first b x _ M])));(case' hr=>(apply acJ (x:=x) (first:=first) (b:=b) (M:=M) (kids:=kids)));(case hD=>rfl);(case hC=>rfl);(case ht=>(repeat' (first|exact Xr.nil|(refine Xr.cons (.same (by simp [kQ,cs])) ?_)|(refine Xr.drop rfl ?_))));(case hv=>rfl);(case hk=>rfl);(case hN=>simp);(case hne=>simp);(case hl2=>(first|exact ay _|exact Ec));(case hl=>(first|exact ay _|exact Ec));(case hI=>(first|exact Inv.Rn (x:=vG first b x y M) hI id rfl ⟨oM,oM,by (try simp only [List.length_append] at*);omega⟩|exact Inv.Rn (x:=vG first b x y M) hI FW.abW Ri ⟨oM,oM,by (try simp only [List.length_append] at*);omega⟩));(case hj=>omega))|fail);(repeat' (first|exact dw|fail));first|done|fail)):p:=g
theorem abq {m:Nat} (B:Em Tryz.prog jJ [(154,TC m),(155,TB m),(150,adb),(151,ada),(152,ac9),(153,ac8),(156,ac7),(157,ac6),(158,aau)]) {kd cl:Int} {s:ByteArray} {p n deep q0:Int} {G:AV->List (List AV)->Prop} {Q:zV->aF->Prop} (hret:∀τ,(∃τ',Rx 1 τ τ'∧A7 jJ [.cell 4 35,.tmp 5] 1 G .ret τ')->Q .ret τ) (h0:s.size<=900000) (h1:0<=p) (hf:∀kids:List Nd,G (.bW [.agg (xB kd p (.sl kids.length (aO kids))),.bool false]) [rF s n]) {k:Nat} (hkq:k=((s.size:Int)-q0).toNat) {c:Code} (hc:JO 31 (Tryz.f141.body.getD .skip)=some c):∀τ,(J1 kd cl s p n deep q0 τ∨J2 kd cl s p n deep q0 τ)->WP Tryz.prog 215 1 c τ (U2 1 (I1 kd cl s p n deep) k Q):=by
 conv at hc=>lhs;whnf
 cases hc;rintro τ (⟨kids,x,L,same,e,q,o,N,C,hI,hq,rfl,rfl,rfl,rfl⟩|⟨kids,x,y,L,M,first,b,same,e,q,N,C,D,hI,hq,rfl,rfl,rfl,rfl⟩)
 ·obtain ⟨⟨g1,g2⟩,g3,g4,g5⟩:=id hI;let zA:=(au 141)
  open aik in exact dw
 ·obtain ⟨⟨g1,g2⟩,g3,g4,g5⟩:=id hI;let zA:=(au 141)
  open aij in exact dw
def xF (kd p:Int) (K F:AV):List AV:=[.int .i64 kd,.int .i64 7,.int .i64 p,.int .i64 0,.str ByteArray.empty,.str ByteArray.empty,.str ByteArray.empty,K,.nil,F,.bool false,.str ByteArray.empty]
theorem abM {s:ByteArray} {n kd p q:Int} {kids:List Nd} {L:List Cm} {N:Nat} {C:List AV} {X Y:List AV} {rest:List (List AV)} {G:AV->List (List AV)->Prop} (hf:G (.bW [.agg (xF kd p (.sl kids.length (aO kids)) (cs L)),.bool true]) [rB s q n]) (hN:N=kids.length) (hC:C=aO kids):∃τ',Rx 1 ⟨[(5,.bool true),(4,.ptr 1 0)],rB s q n::xF kd p (.dm 4 35 12 N) (cs L)::X::Y::C::rest⟩ τ'∧A7 jJ [.cell 4 35,.tmp 5] 1 G .ret τ':=by
 subst hN hC;have ht:(aO kids).take (kids.length*12)=aO kids:=by rw [←eY,List.take_length]
 refine ⟨⟨[(5,.bool true),(4,.ptr 1 0)],[rB s q n,xF kd p (.sl kids.length ((aO kids).take (kids.length*12))) (cs L)]⟩,Rx.fz 2 dE rfl ?_ ?_ ?_,?_⟩
 ·refine .cons (.all (by intro i hi;simp [rB,dG,kQ] at hi)) (.cons ?_ .nil);refine .cons (.same (by simp [kQ])) (.cons (.same (by simp [kQ])) (.cons (.same (by simp [kQ])) (.cons (.same (by simp [kQ])) (.cons (.same (by simp [kQ])) (.cons (.same (by simp [kQ])) (.cons (.same (by simp [kQ])) (.cons ?_ (.all (by simp [dG,kQ,cs])))))))));exact .box dE rfl (by rw [eY];exact Nat.le_refl _) (by rw [ht];exact ai _)
 ·exact .cons (.same (by simp [kQ])) (.cons (.same (by simp [kQ])) .nil)
 ·rw [ht];exact ⟨(by simp [uh,wv]),(by simp [aN,gG,wv,AV.one,xF,rB,ai,cs,ay])⟩
 ·rw [ht]
  conv=>whnf
  exact hf
theorem wfX {kd cl:Int} {kids:List Nd} {L:List Cm} (hk:kd=3∧cl=93∨kd=4∧cl=125) (h4:∀z ∈ kids,FW z) (h5:kd=4->kids.length % 2=0):Cb kd 7 kids L false ByteArray.empty:=by
 refine .mk ⟨?_,fun _=>rfl⟩ h4;rcases hk with ⟨rfl,-⟩|⟨rfl,-⟩
 ·exact .inr (.inr (.inl ⟨rfl,rfl⟩))
 ·exact .inr (.inr (.inr ⟨rfl,rfl,h5 rfl⟩))
theorem Qi {m:Nat} (B:Em Tryz.prog jJ [(154,TC m),(155,TB m),(150,adb),(151,ada),(152,ac9),(153,ac8),(156,ac7),(157,ac6),(158,aau)]) {kd cl:Int} {s:ByteArray} {p n deep q0:Int} {G:AV->List (List AV)->Prop} {Q:zV->aF->Prop} (hret:∀τ,(∃τ',Rx 1 τ τ'∧A7 jJ [.cell 4 35,.tmp 5] 1 G .ret τ')->Q .ret τ) (h0:s.size<=900000) (h1:0<=p) (hf:∀kids:List Nd,G (.bW [.agg (xB kd p (.sl kids.length (aO kids))),.bool false]) [rF s n]) {k:Nat} (hkq:k=((s.size:Int)-q0).toNat) {c:Code} (hc:JO 31 (Tryz.f141.body.getD .skip)=some c):aH (∀τ,(J1 kd cl s p n deep q0 τ∨J2 kd cl s p n deep q0 τ)->WP Tryz.prog 215 1 c τ (NM 1 (U2 1 (I1 kd cl s p n deep) k Q))):=by
 intro τ hτ;refine WP.mono (abq B (Q:=fun e τ=>e=.ret∧Q .ret τ) (fun τ h=>⟨rfl,hret τ h⟩) h0 h1 hf hkq hc τ hτ) ?_;intro e τ h;cases e with
 |normal=>exact h
 |exit j=>exact absurd h.1 (by intro h;cases h)
 |ret=>exact h.2
theorem okJ {s:ByteArray} {q n kd p deep cl e:Int} {N i o:Nat} {L:List Cm} {same:Bool} {C:List AV} (hC:gG C=true):Ok ⟨(11,.ptr i o)::(8,.ptr 3 0)::Rq deep cl,[rB s q n,zB,xB kd p (.dm 4 35 12 N),[cs L,.bool same,.int .i64 e],C]⟩:=⟨(by simp [uh,Rq,wv]),(by simp [aN,gG,wv,mi,uX,AV.one,AV.flat,xB,zB,rB,cs,ay,hC])⟩
theorem Wy {s:ByteArray} {q n kd p deep cl e:Int} {N i o:Nat} {L:List Cm} {same:Bool} {C D:List AV} (hC:gG C=true) (hD:gG D=true):Ok ⟨(11,.ptr i o)::(8,.ptr 3 0)::Rq deep cl,[rB s q n,zB,xB kd p (.dm 4 35 12 N),[cs L,.bool same,.int .i64 e],C,D]⟩:=⟨(by simp [uh,Rq,wv]),(by simp [aN,gG,wv,mi,uX,AV.one,AV.flat,xB,zB,rB,cs,ay,hC,hD])⟩
theorem FV {f:Nat->Nat}:∀a b:List AV,gJ f (a++b)=gJ f a++gJ f b
 |[],_=>rfl
 |x::a,b=>by rw [List.cons_append,gJ,gJ,FV a b];rfl
theorem iY.pair {bx:List (List AV)} {f:Nat->Nat} {ids:List Nat} {i k:Nat} {r:List Nat} {kids:List Nd} {l l':List AV} {b:List (List AV)} (h:bx[i]?=some (aO kids++l)) (h2:dG l=[k]) (hk:mem k ids=true) (h3:l'=gJ f l) (hb:iY bx f ids r b):iY bx f ids (i::r) ((aO kids++l')::b):=
 .cons h (fun j hj=>by rw [iy,bQ (ai _),h2,List.nil_append,List.mem_singleton] at hj;rw [hj];exact mem_iff.1 hk) (by rw [FV,qG (bQ (ai _)),h3]) hb
theorem nY {kids:List Nd} {x y:Nd}:dG (aO kids++(bV x++bV y))=[]:=by rw [iy,iy,bQ (ai _),bQ (jg _),bQ (jg _)];rfl
theorem MO:∀{l:List AV} {o:Nat} {v:AV} {K:AV->Prop},l[o]?=some v->K v->zl l o K
 |[],_,_,_,h,_=>by simp at h
 |x::l,0,v,K,h,hK=>by simp at h;subst h;exact hK
 |x::l,o+1,v,K,h,hK=>by rw [zl];exact MO (by simpa using h) hK
theorem nd7 {kids:List Nd} {l:List AV} {v:AV} (h:l[7]?=some v):(aO kids++l)[(((kids.length+1:Nat):Int)-1).toNat*12+7]?=some v:=by rw [List.getElem?_append_right (by rw [eY];omega),eY];rw [show (((kids.length+1:Nat):Int)-1).toNat*12+7-kids.length*12=7 by omega];exact h
theorem ajT {m:Nat} (i154:az.OK Tryz.prog 154 (TC m)) (i155:az.OK Tryz.prog 155 (TB m)):az.OK Tryz.prog 141 (TE (m+1)):=by
 intro args bx K0 h;unfold TE at h;split at h
 ·rename_i deep s p n e;obtain ⟨⟨h0,h1,h2,rfl,h3,h4,h5⟩,-⟩:=h;refine alO.okW (base:=1) rfl iD iD ?_;have B:=V.base (ae.cons i154 (ae.cons i155 (ae.cons PY (ae.cons II (ae.cons KA (ae.cons YH (ae.cons YG (ae.cons UM (ae.cons ajL ae.nil)))))))));refine WP.MC ?_
  conv=>whnf
  repeat' (first
  |(with_reducible refine WP.cut (x:=.seq (.region 3 _ _) _) (J0 s p n deep) ?_ ?_)
  |with_reducible refine WP.seq ?_
  |(with_reducible first|refine Go.mk ?_|refine WP.qy B (au 141) ?_|refine WP.draw B (au 141) ?_|refine WP.cond ?_|refine WP.exit ?_|refine WP.skip ?_|refine WP.ret ?_);conv=>whnf
  |with_reducible refine WP.block ?_
  |with_reducible assumption
  |(refine ⟨_,Rx.prune [7,6,4,1,0],3,93,.inl ⟨rfl,rfl⟩,rfl⟩)
  |(refine ⟨_,Rx.prune [7,6,4,1,0],4,125,.inr ⟨rfl,rfl⟩,rfl⟩)
  |with_reducible refine And.intro ?_ ?_
  |exact cL
  |(with_reducible intro h);first|(cases h;done)|(try simp only [lG,reduceCtorEq] at h);first|done|(exfalso;omega)|replace h:=h trivial aZ|replace h:=h aZ|skip
  |fail)
  refine aH.mk ?_;rintro τ ⟨kd,cl,hk,rfl⟩
  repeat' (first
  |with_reducible refine WP.seq ?_
  |(with_reducible first|refine Go.mk ?_|refine WP.qy B (au 141) ?_|refine WP.draw B (au 141) ?_|refine WP.cond ?_|refine WP.exit ?_|refine WP.skip ?_|refine WP.ret ?_);conv=>whnf
  |with_reducible refine WP.block ?_
  |with_reducible assumption
  |((with_reducible refine (?_:∃τ',Rx 1 _ τ'∧A7 _ _ _ _ _ _));(refine ⟨_,Rx.refl,?_⟩);conv=>whnf)
  |(with_reducible refine (?_:af _ _ _ _ _));first|exact af.aW kV kV iD iD fun K hK=>hK.2.2 (.mk _ _ _ _ _ _ _ _ _ _ _ _)
  |with_reducible refine And.intro ?_ ?_
  |exact cL
  |(with_reducible intro h);first|(cases h;done)|(try simp only [lG,reduceCtorEq] at h);first|done|(exfalso;omega)|replace h:=h trivial aZ|replace h:=h aZ|skip
  |fail)
  all_goals
   (refine WP.loop (I1 kd cl s p n deep) ⟨[],_,_,_,_,_,_,?_,?_,rfl,.inl ⟨rfl,rfl⟩⟩ ?_)
  ·exact ⟨⟨oM,oM⟩,by rw [iJ];omega,(by intro z hz;cases hz),fun _=>rfl⟩
  ·exact ay _
  rintro k τ ⟨kids,L,n1,l1,same,e,q,hI,hl1,rfl,hh⟩;obtain ⟨⟨g1,g2⟩,g3,g4,g5⟩:=id hI;rcases hh with ⟨rfl,rfl⟩|⟨hne,rfl⟩
  ·
   repeat' (first
   |(with_reducible refine WP.cut (x:=.seq (.region 16 _ _) _) (fun τ=>J1 kd cl s p n deep q τ∨J2 kd cl s p n deep q τ) ?_ ?_)
   |((with_reducible refine (?_:WP _ _ _ (.region 20 _ _) _ _));(refine ait B rfl rfl rfl rfl rfl rfl rfl rfl rfl rfl rfl rfl rfl rfl rfl rfl rfl rfl rfl rfl rfl rfl rfl rfl rfl rfl rfl rfl rfl ?_);conv=>whnf)
   |((with_reducible refine (?_:WP _ _ _ (.region 28 _ _) _ _));(refine air B rfl rfl rfl rfl rfl rfl rfl rfl rfl rfl rfl rfl rfl rfl rfl rfl rfl rfl rfl rfl rfl rfl rfl rfl rfl rfl rfl rfl rfl rfl rfl rfl rfl rfl rfl rfl ?_);conv=>whnf)
   |with_reducible refine WP.seq ?_
   |(with_reducible first|refine Go.mk ?_|refine WP.qy B (au 141) ?_|refine WP.draw B (au 141) ?_|refine WP.cond ?_|refine WP.exit ?_|refine WP.skip ?_|refine WP.ret ?_);conv=>whnf
   |with_reducible refine WP.block ?_
   |with_reducible assumption
   |((with_reducible refine (?_:(_:Int)<=9223372036854775807));have:=Aq kids;omega)
   |((with_reducible refine (?_:zl _ _ _));(refine MO (nd7 (by rfl)) ?_);conv=>whnf)
   |(with_reducible refine (?_:∃L:List Cm,fP _ _ L∧_));(apply Exists.intro;apply And.intro;focus (repeat' (first|exact fP.mk _|exact fP.nil|apply fP.app)))
   |((with_reducible refine (?_:∃τ',Rx 1 _ τ'∧A7 _ _ _ _ _ _));(refine ⟨_,Rx.refl,?_⟩);conv=>whnf)
   |((with_reducible refine (?_:∃τ',Rx 1 _ τ'∧_));(apply Exists.intro);(apply And.intro);(case' right=>(apply Or.inl;apply J1.mk (kids:=[])));(case' left=>(apply Rx.pick [0,1,2,3,6]));(case hbx=>(repeat' (first|exact qC.nil|(refine qC.cons (by first|exact Pk.same rfl|exact Pk.ptr rfl|exact Pk.dm rfl) ?_)|(refine qC.drop rfl ?_)|exact iY.nil|(refine iY.same rfl rfl ?_)|(refine iY.same rfl (bQ (ai _)) ?_)|(refine iY.same rfl jF ?_)|(refine iY.same rfl nY ?_)|(refine iY.pair rfl rfl rfl rfl ?_)|(refine iY.one rfl rfl rfl rfl ?_))));(case ht=>(repeat' (first|exact qC.nil|(refine qC.cons (by first|exact Pk.same rfl|exact Pk.ptr rfl|exact Pk.dm rfl) ?_)|(refine qC.drop rfl ?_)|exact iY.nil|(refine iY.same rfl rfl ?_)|(refine iY.same rfl (bQ (ai _)) ?_)|(refine iY.same rfl jF ?_)|(refine iY.same rfl nY ?_)|(refine iY.pair rfl rfl rfl rfl ?_)|(refine iY.one rfl rfl rfl rfl ?_))));(case hn=>decide);(case hpre=>decide);(case hC=>(first|rfl|(rw [nV,tK,List.append_assoc];rfl)));(case ho=>(first|rfl|(congr 1;(try simp only [lL]);omega)));(case hN=>rfl);(case hI=>exact hI.add aZ aZ aZ);(case hq=>omega);(case hok=>(first|(refine okJ ?_;(first|(simp [gG,wv,AV.one,AV.flat,bV,cs,ay,ai,gJ,uk,kC];done)|(refine bT (dA (bZ (ai _))) ?_;simp [gG,wv,AV.one,AV.flat,bV,cs,ay,ai,gJ,uk,kC];done)))|(refine Wy ?_ ?_;(focus (first|(simp [gG,wv,AV.one,AV.flat,bV,cs,ay,ai,gJ,uk,kC];done)|(refine bT (dA (bZ (ai _))) ?_;simp [gG,wv,AV.one,AV.flat,bV,cs,ay,ai,gJ,uk,kC];done)));(focus (first|(simp [gG,wv,AV.one,AV.flat,bV,cs,ay,ai,gJ,uk,kC];done)|(refine bT (dA (bZ (ai _))) ?_;simp [gG,wv,AV.one,AV.flat,bV,cs,ay,ai,gJ,uk,kC];done)))))))
   |((with_reducible refine (?_:∃τ',Rx 1 _ τ'∧_));(apply Exists.intro);(apply And.intro);(case' right=>(apply Or.inr;apply J2.mk (kids:=[])));(case' left=>(apply Rx.pick [0,1,2,3,7,4]));(case hbx=>(repeat' (first|exact qC.nil|(refine qC.cons (by first|exact Pk.same rfl|exact Pk.ptr rfl|exact Pk.dm rfl) ?_)|(refine qC.drop rfl ?_)|exact iY.nil|(refine iY.same rfl rfl ?_)|(refine iY.same rfl (bQ (ai _)) ?_)|(refine iY.same rfl jF ?_)|(refine iY.same rfl nY ?_)|(refine iY.pair rfl rfl rfl rfl ?_)|(refine iY.one rfl rfl rfl rfl ?_))));(case ht=>(repeat' (first|exact qC.nil|(refine qC.cons (by first|exact Pk.same rfl|exact Pk.ptr rfl|exact Pk.dm rfl) ?_)|(refine qC.drop rfl ?_)|exact iY.nil|(refine iY.same rfl rfl ?_)|(refine iY.same rfl (bQ (ai _)) ?_)|(refine iY.same rfl jF ?_)|(refine iY.same rfl nY ?_)|(refine iY.pair rfl rfl rfl rfl ?_)|(refine iY.one rfl rfl rfl rfl ?_))));(case hn=>decide);(case hpre=>decide);(case hC=>(first|rfl|(rw [nV,tK,List.append_assoc];rfl)));(case hD=>rfl);(case hN=>rfl);(case hI=>exact hI.anJ aZ aZ aZ aZ);(case hq=>omega);(case hok=>(first|(refine okJ ?_;(first|(simp [gG,wv,AV.one,AV.flat,bV,cs,ay,ai,gJ,uk,kC];done)|(refine bT (dA (bZ (ai _))) ?_;simp [gG,wv,AV.one,AV.flat,bV,cs,ay,ai,gJ,uk,kC];done)))|(refine Wy ?_ ?_;(focus (first|(simp [gG,wv,AV.one,AV.flat,bV,cs,ay,ai,gJ,uk,kC];done)|(refine bT (dA (bZ (ai _))) ?_;simp [gG,wv,AV.one,AV.flat,bV,cs,ay,ai,gJ,uk,kC];done)));(focus (first|(simp [gG,wv,AV.one,AV.flat,bV,cs,ay,ai,gJ,uk,kC];done)|(refine bT (dA (bZ (ai _))) ?_;simp [gG,wv,AV.one,AV.flat,bV,cs,ay,ai,gJ,uk,kC];done)))))))
   |((with_reducible refine (?_:∃τ',Rx 1 _ τ'∧_));(apply Exists.intro);(apply And.intro);(case' right=>(apply Or.inl;apply J1.mk (kids:=[]++[_])));(case' left=>(apply Rx.pick [0,1,2,3,7]));(case hbx=>(repeat' (first|exact qC.nil|(refine qC.cons (by first|exact Pk.same rfl|exact Pk.ptr rfl|exact Pk.dm rfl) ?_)|(refine qC.drop rfl ?_)|exact iY.nil|(refine iY.same rfl rfl ?_)|(refine iY.same rfl (bQ (ai _)) ?_)|(refine iY.same rfl jF ?_)|(refine iY.same rfl nY ?_)|(refine iY.pair rfl rfl rfl rfl ?_)|(refine iY.one rfl rfl rfl rfl ?_))));(case ht=>(repeat' (first|exact qC.nil|(refine qC.cons (by first|exact Pk.same rfl|exact Pk.ptr rfl|exact Pk.dm rfl) ?_)|(refine qC.drop rfl ?_)|exact iY.nil|(refine iY.same rfl rfl ?_)|(refine iY.same rfl (bQ (ai _)) ?_)|(refine iY.same rfl jF ?_)|(refine iY.same rfl nY ?_)|(refine iY.pair rfl rfl rfl rfl ?_)|(refine iY.one rfl rfl rfl rfl ?_))));(case hn=>decide);(case hpre=>decide);(case hC=>(first|rfl|(rw [nV,tK,List.append_assoc];rfl)));(case ho=>(first|rfl|(congr 1;(try simp only [lL]);omega)));(case hN=>rfl);(case hI=>exact hI.adu aZ aZ aZ oM);(case hq=>omega);(case hok=>(first|(refine okJ ?_;(first|(simp [gG,wv,AV.one,AV.flat,bV,cs,ay,ai,gJ,uk,kC];done)|(refine bT (dA (bZ (ai _))) ?_;simp [gG,wv,AV.one,AV.flat,bV,cs,ay,ai,gJ,uk,kC];done)))|(refine Wy ?_ ?_;(focus (first|(simp [gG,wv,AV.one,AV.flat,bV,cs,ay,ai,gJ,uk,kC];done)|(refine bT (dA (bZ (ai _))) ?_;simp [gG,wv,AV.one,AV.flat,bV,cs,ay,ai,gJ,uk,kC];done)));(focus (first|(simp [gG,wv,AV.one,AV.flat,bV,cs,ay,ai,gJ,uk,kC];done)|(refine bT (dA (bZ (ai _))) ?_;simp [gG,wv,AV.one,AV.flat,bV,cs,ay,ai,gJ,uk,kC];done)))))))
   |((with_reducible refine (?_:zo _ _));exact ⟨rfl,rfl⟩)
   |(with_reducible refine (?_:af _ _ _ _ _));first|exact af.aW kV kV iD iD fun K hK=>hK.2.2 (.mk _ _ _ _ _ _ _ _ _ _ _ _)|exact af.aW kV kV iD iD fun K hK=>hK.2.1 (.mk kd 7 p 0 ByteArray.empty ByteArray.empty ByteArray.empty [] [] L false ByteArray.empty) _ (wfX hk g4 g5) rfl ⟨oM,oM,oW⟩
   |with_reducible refine And.intro ?_ ?_
   |exact cL
   |(with_reducible intro h);first|(cases h;done)|(try simp only [lG,reduceCtorEq] at h);first|done|(exfalso;omega)|replace h:=h trivial aZ|replace h:=h aZ|skip
   |fail)
   all_goals try ((with_reducible refine (?_:aH _));refine Qi B (G:=af (TE (m+1)) [.ptr 0 0,.int .i64 deep] [[.str s,.int .i64 p,.int .i64 n,.nil,.int .i64 0]]) ?_ h0 h1 ?_ rfl rfl;(focus exact fun τ h=>h);(focus (intro kids;exact af.aW kV kV iD iD fun K hK=>hK.2.2 (.mk _ _ _ _ _ _ _ _ _ _ _ _))))
  ·
   repeat' (first
   |(with_reducible refine WP.cut (x:=.seq (.region 16 _ _) _) (fun τ=>J1 kd cl s p n deep q τ∨J2 kd cl s p n deep q τ) ?_ ?_)
   |((with_reducible refine (?_:WP _ _ _ (.region 20 _ _) _ _));(refine aiu B rfl rfl rfl rfl rfl rfl rfl rfl rfl rfl rfl rfl rfl rfl rfl rfl rfl rfl rfl rfl rfl rfl rfl rfl rfl rfl rfl rfl rfl rfl dE dE ?_ (eY kids) (ai kids) ?_ ?_ ?_ ?_ ?_);(focus (have:=Aq kids;omega));(focus exact (of_decide_eq_true rfl));(focus (show 4 ∉ dG (xB kd p .nil);simp [xB,dG,kQ]));(focus exact (by repeat' (first|trivial|refine And.intro ?_ ?_|exact .inl rfl|exact .inr (.inl rfl)|exact .inr (.inr (of_decide_eq_true rfl)))));(focus exact (by repeat' (first|exact List.forall_mem_nil _|(refine List.forall_mem_cons.2 ⟨of_decide_eq_true rfl,?_⟩))));conv=>whnf)
   |((with_reducible refine (?_:WP _ _ _ (.region 28 _ _) _ _));(refine ais B rfl rfl rfl rfl rfl rfl rfl rfl rfl rfl rfl rfl rfl rfl rfl rfl rfl rfl rfl rfl rfl rfl rfl rfl rfl rfl rfl rfl rfl rfl rfl rfl rfl rfl rfl rfl rfl dE dE ?_ (eY kids) (ai kids) ?_ ?_ ?_ ?_ ?_);(focus (have:=Aq kids;omega));(focus exact (of_decide_eq_true rfl));(focus (show 4 ∉ dG (xB kd p .nil);simp [xB,dG,kQ]));(focus exact (by repeat' (first|trivial|refine And.intro ?_ ?_|exact .inl rfl|exact .inr (.inl rfl)|exact .inr (.inr (of_decide_eq_true rfl)))));(focus exact (by repeat' (first|exact List.forall_mem_nil _|(refine List.forall_mem_cons.2 ⟨of_decide_eq_true rfl,?_⟩))));conv=>whnf)
   |with_reducible refine WP.seq ?_
   |(with_reducible first|refine Go.mk ?_|refine WP.qy B (au 141) ?_|refine WP.draw B (au 141) ?_|refine WP.cond ?_|refine WP.exit ?_|refine WP.skip ?_|refine WP.ret ?_);conv=>whnf
   |with_reducible refine WP.block ?_
   |with_reducible assumption
   |((with_reducible refine (?_:(_:Int)<=9223372036854775807));have:=Aq kids;omega)
   |((with_reducible refine (?_:zl _ _ _));(refine MO (nd7 (by rfl)) ?_);conv=>whnf)
   |(with_reducible refine (?_:∃L:List Cm,fP _ _ L∧_));(apply Exists.intro;apply And.intro;focus (repeat' (first|exact fP.mk _|exact fP.nil|apply fP.app)))
   |((with_reducible refine (?_:∃τ',Rx 1 _ τ'∧A7 _ _ _ _ _ _));refine RP (kids:=kids) (fun kids=>?_) rfl rfl;conv=>whnf)
   |((with_reducible refine (?_:∃τ',Rx 1 _ τ'∧_));(apply Exists.intro);(apply And.intro);(case' right=>(apply Or.inl;apply J1.mk (kids:=kids)));(case' left=>(apply Rx.pick [0,1,2,3,4]));(case hbx=>(repeat' (first|exact qC.nil|(refine qC.cons (by first|exact Pk.same rfl|exact Pk.ptr rfl|exact Pk.dm rfl) ?_)|(refine qC.drop rfl ?_)|exact iY.nil|(refine iY.same rfl rfl ?_)|(refine iY.same rfl (bQ (ai _)) ?_)|(refine iY.same rfl jF ?_)|(refine iY.same rfl nY ?_)|(refine iY.pair rfl rfl rfl rfl ?_)|(refine iY.one rfl rfl rfl rfl ?_))));(case ht=>(repeat' (first|exact qC.nil|(refine qC.cons (by first|exact Pk.same rfl|exact Pk.ptr rfl|exact Pk.dm rfl) ?_)|(refine qC.drop rfl ?_)|exact iY.nil|(refine iY.same rfl rfl ?_)|(refine iY.same rfl (bQ (ai _)) ?_)|(refine iY.same rfl jF ?_)|(refine iY.same rfl nY ?_)|(refine iY.pair rfl rfl rfl rfl ?_)|(refine iY.one rfl rfl rfl rfl ?_))));(case hn=>decide);(case hpre=>decide);(case hC=>(first|rfl|(rw [nV,tK,List.append_assoc];rfl)));(case ho=>(first|rfl|(congr 1;(try simp only [lL]);omega)));(case hN=>rfl);(case hI=>exact hI.add aZ aZ aZ);(case hq=>omega);(case hok=>(first|(refine okJ ?_;(first|(simp [gG,wv,AV.one,AV.flat,bV,cs,ay,ai,gJ,uk,kC];done)|(refine bT (dA (bZ (ai _))) ?_;simp [gG,wv,AV.one,AV.flat,bV,cs,ay,ai,gJ,uk,kC];done)))|(refine Wy ?_ ?_;(focus (first|(simp [gG,wv,AV.one,AV.flat,bV,cs,ay,ai,gJ,uk,kC];done)|(refine bT (dA (bZ (ai _))) ?_;simp [gG,wv,AV.one,AV.flat,bV,cs,ay,ai,gJ,uk,kC];done)));(focus (first|(simp [gG,wv,AV.one,AV.flat,bV,cs,ay,ai,gJ,uk,kC];done)|(refine bT (dA (bZ (ai _))) ?_;simp [gG,wv,AV.one,AV.flat,bV,cs,ay,ai,gJ,uk,kC];done)))))))
   |((with_reducible refine (?_:∃τ',Rx 1 _ τ'∧_));(apply Exists.intro);(apply And.intro);(case' right=>(apply Or.inr;apply J2.mk (kids:=kids)));(case' left=>(apply Rx.pick [0,1,2,3,4,5]));(case hbx=>(repeat' (first|exact qC.nil|(refine qC.cons (by first|exact Pk.same rfl|exact Pk.ptr rfl|exact Pk.dm rfl) ?_)|(refine qC.drop rfl ?_)|exact iY.nil|(refine iY.same rfl rfl ?_)|(refine iY.same rfl (bQ (ai _)) ?_)|(refine iY.same rfl jF ?_)|(refine iY.same rfl nY ?_)|(refine iY.pair rfl rfl rfl rfl ?_)|(refine iY.one rfl rfl rfl rfl ?_))));(case ht=>(repeat' (first|exact qC.nil|(refine qC.cons (by first|exact Pk.same rfl|exact Pk.ptr rfl|exact Pk.dm rfl) ?_)|(refine qC.drop rfl ?_)|exact iY.nil|(refine iY.same rfl rfl ?_)|(refine iY.same rfl (bQ (ai _)) ?_)|(refine iY.same rfl jF ?_)|(refine iY.same rfl nY ?_)|(refine iY.pair rfl rfl rfl rfl ?_)|(refine iY.one rfl rfl rfl rfl ?_))));(case hn=>decide);(case hpre=>decide);(case hC=>(first|rfl|(rw [nV,tK,List.append_assoc];rfl)));(case hD=>rfl);(case hN=>rfl);(case hI=>exact hI.anJ aZ aZ aZ aZ);(case hq=>omega);(case hok=>(first|(refine okJ ?_;(first|(simp [gG,wv,AV.one,AV.flat,bV,cs,ay,ai,gJ,uk,kC];done)|(refine bT (dA (bZ (ai _))) ?_;simp [gG,wv,AV.one,AV.flat,bV,cs,ay,ai,gJ,uk,kC];done)))|(refine Wy ?_ ?_;(focus (first|(simp [gG,wv,AV.one,AV.flat,bV,cs,ay,ai,gJ,uk,kC];done)|(refine bT (dA (bZ (ai _))) ?_;simp [gG,wv,AV.one,AV.flat,bV,cs,ay,ai,gJ,uk,kC];done)));(focus (first|(simp [gG,wv,AV.one,AV.flat,bV,cs,ay,ai,gJ,uk,kC];done)|(refine bT (dA (bZ (ai _))) ?_;simp [gG,wv,AV.one,AV.flat,bV,cs,ay,ai,gJ,uk,kC];done)))))))
   |((with_reducible refine (?_:∃τ',Rx 1 _ τ'∧_));(apply Exists.intro);(apply And.intro);(case' right=>(apply Or.inl;apply J1.mk (kids:=kids++[_])));(case' left=>(apply Rx.pick [0,1,2,3,4]));(case hbx=>(repeat' (first|exact qC.nil|(refine qC.cons (by first|exact Pk.same rfl|exact Pk.ptr rfl|exact Pk.dm rfl) ?_)|(refine qC.drop rfl ?_)|exact iY.nil|(refine iY.same rfl rfl ?_)|(refine iY.same rfl (bQ (ai _)) ?_)|(refine iY.same rfl jF ?_)|(refine iY.same rfl nY ?_)|(refine iY.pair rfl rfl rfl rfl ?_)|(refine iY.one rfl rfl rfl rfl ?_))));(case ht=>(repeat' (first|exact qC.nil|(refine qC.cons (by first|exact Pk.same rfl|exact Pk.ptr rfl|exact Pk.dm rfl) ?_)|(refine qC.drop rfl ?_)|exact iY.nil|(refine iY.same rfl rfl ?_)|(refine iY.same rfl (bQ (ai _)) ?_)|(refine iY.same rfl jF ?_)|(refine iY.same rfl nY ?_)|(refine iY.pair rfl rfl rfl rfl ?_)|(refine iY.one rfl rfl rfl rfl ?_))));(case hn=>decide);(case hpre=>decide);(case hC=>(first|rfl|(rw [nV,tK,List.append_assoc];rfl)));(case ho=>(first|rfl|(congr 1;(try simp only [lL]);omega)));(case hN=>simp);(case hI=>exact hI.adu aZ aZ aZ oM);(case hq=>omega);(case hok=>(first|(refine okJ ?_;(first|(simp [gG,wv,AV.one,AV.flat,bV,cs,ay,ai,gJ,uk,kC];done)|(refine bT (dA (bZ (ai _))) ?_;simp [gG,wv,AV.one,AV.flat,bV,cs,ay,ai,gJ,uk,kC];done)))|(refine Wy ?_ ?_;(focus (first|(simp [gG,wv,AV.one,AV.flat,bV,cs,ay,ai,gJ,uk,kC];done)|(refine bT (dA (bZ (ai _))) ?_;simp [gG,wv,AV.one,AV.flat,bV,cs,ay,ai,gJ,uk,kC];done)));(focus (first|(simp [gG,wv,AV.one,AV.flat,bV,cs,ay,ai,gJ,uk,kC];done)|(refine bT (dA (bZ (ai _))) ?_;simp [gG,wv,AV.one,AV.flat,bV,cs,ay,ai,gJ,uk,kC];done)))))))
   |((with_reducible refine (?_:∃τ',Rx 1 _ τ'∧A7 _ _ _ _ _ _));refine abM (kids:=kids) (L:=L) ?_ rfl rfl;conv=>whnf)
   |((with_reducible refine (?_:zo _ _));exact ⟨rfl,rfl⟩)
   |(with_reducible refine (?_:af _ _ _ _ _));first|exact af.aW kV kV iD iD fun K hK=>hK.2.2 (.mk _ _ _ _ _ _ _ _ _ _ _ _)|exact af.aW kV kV iD iD fun K hK=>hK.2.1 (.mk kd 7 p 0 ByteArray.empty ByteArray.empty ByteArray.empty kids [] L false ByteArray.empty) _ (wfX hk g4 g5) rfl ⟨oM,oM,oW⟩
   |with_reducible refine And.intro ?_ ?_
   |exact cL
   |(with_reducible intro h);first|(cases h;done)|(try simp only [lG,reduceCtorEq] at h);first|done|(exfalso;omega)|replace h:=h trivial aZ|replace h:=h aZ|skip
   |fail)
   all_goals try ((with_reducible refine (?_:aH _));refine Qi B (G:=af (TE (m+1)) [.ptr 0 0,.int .i64 deep] [[.str s,.int .i64 p,.int .i64 n,.nil,.int .i64 0]]) ?_ h0 h1 ?_ rfl rfl;(focus exact fun τ h=>h);(focus (intro kids;exact af.aW kV kV iD iD fun K hK=>hK.2.2 (.mk _ _ _ _ _ _ _ _ _ _ _ _))))
 ·exact h.elim
theorem abo {h:Bool} {tr:ByteArray}:mi (eU (mQ h tr))=true:=ay _
def Gt (s:ByteArray) (a:Int):Int:=(Bk.aP s a:Nat)-(Bk.bI s (Bk.aP s a):Nat)
def c31:az:=fun args bx K=>match args,bx with
 |[.str s,.int .i64 a],[]=>s.size<=900000∧((0<=Gt s a∧(0<=a->Gt s a<=a)∧Gt s a<=s.size)->K (.int .i64 (Gt s a)) [])
 |_,_=>False
theorem WB:az.OK Tryz.prog 31 c31:=by
 refine jA (g:=Oa fun s a=>some (.int .i64 ((Bk.aP s a:Nat)-(Bk.bI s (Bk.aP s a):Nat)))) rfl fun args bx K0 h=>?_;unfold c31 at h;split at h
 ·rename_i s a;refine ⟨rfl,.int .i64 (Gt s a),by show (if _ then _ else _)=_;rw [if_pos h.1];rfl,rfl,fun K hK=>hK.2 ?_⟩;have h1:=Bk.iF s (Bk.aP s a);have h2:=Bk.pW s a;unfold Gt;refine ⟨oM,fun h3=>?_,oM⟩;have:Bk.aP s a<=a.toNat:=by unfold Bk.aP;omega
  omega
 ·exact h.elim
def amM:az:=fun args bx K=>match args,bx with
 |[.str s,.int .i64 a],[]=>(s.size<=900000∧0<=a∧a<=s.size)∧(∀(l:List Cm) (same:Bool) (p:Int),Bk.sK s a.toNat 0 false=some (l,same,p.toNat)->(a<=p∧p<=s.size∧l.length+a<=p)->K (.bW [cs l,.bool same,.int .i64 p,.int .i64 0]) [])∧K (.bW [.nil,.bool false,.ql .i64,.nz .i64]) []
 |_,_=>False
theorem adZ:az.OK Tryz.prog 29 amM:=by
 refine jA (g:=Oa fun s a=>inT s a fun q=>QG (Bk.sK s q 0 false)) rfl fun args bx K0 h=>?_;unfold amM at h;split at h
 ·rename_i s a;obtain ⟨⟨h0,h1,h2⟩,-⟩:=h;refine ⟨rfl,_,by show (if _ then (if _ then _ else _) else _)=_;rw [if_pos h0,if_pos ⟨h1,h2⟩],XL _,fun K hK=>?_⟩;cases hr:Bk.sK s a.toNat 0 false with
  |none=>exact hK.2.2
  |some r=>
   obtain ⟨l,same,p⟩:=r;obtain ⟨g1,g2,g3⟩:=Bk.Jm oM hr;exact hK.2.1 l same p (by rw [hr,Int.toNat_natCast]) ⟨oM,oM,oM⟩
 ·exact h.elim
def amL:az:=fun args bx K=>match args,bx with
 |[.str s,.int .i64 a],[]=>(s.size<=900000∧0<=a∧a<=s.size)∧(((Bk.bI s a.toNat:Int)<=a∧a<=Bk.oI s a.toNat∧(Bk.oI s a.toNat:Int)<=s.size)->K (.bW [.int .i64 (Bk.bI s a.toNat:Nat),.int .i64 (Bk.oI s a.toNat:Nat)]) [])
 |_,_=>False
theorem ajA:az.OK Tryz.prog 32 amL:=by
 refine jA (g:=Oa fun s a=>some (.bW [.int .i64 (Bk.bI s (Bk.aP s a):Nat),.int .i64 (Bk.oI s (Bk.aP s a):Nat)])) rfl fun args bx K0 h=>?_;unfold amL at h;split at h
 ·rename_i s a;obtain ⟨⟨h0,h1,h2⟩,-⟩:=h;have e:Bk.aP s a=a.toNat:=by unfold Bk.aP;omega
  refine ⟨rfl,_,by show (if _ then _ else _)=_;rw [if_pos h0],rfl,fun K hK=>?_⟩;rw [e];have g1:=Bk.iF s a.toNat;have g2:=Bk.vS s a.toNat;have g3:=Bk.xq (s:=s) (k:=a.toNat) oM;exact hK.2 ⟨oM,oM,oM⟩
 ·exact h.elim
def c34:az:=fun args bx K=>match args,bx with
 |[.str s],[]=>s.size<=900000∧K (.str (Bk.ET s)) []
 |_,_=>False
theorem afO:az.OK Tryz.prog 34 c34:=by
 refine jA (g:=fun xs=>match xs with
  |[.str s]=>if s.size<=900000 then some (.str (Bk.ET s)) else none
  |_=>none) rfl fun args bx K0 h=>?_
 unfold c34 at h;split at h
 ·exact ⟨rfl,_,by show (if _ then _ else _)=_;rw [if_pos h.1],rfl,fun K hK=>hK.2⟩
 ·exact h.elim
end V
end
end Go.Proofs.YtlmjabnkjmfcmaaGreat
