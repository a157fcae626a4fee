/- Parts of a proof; no condition. -/
import Derived.Test.YtlmjabnkjmfcmaaGreatR33
namespace Go.Proofs.YtlmjabnkjmfcmaaGreat
open Go Go.RowKit Go.PlainAid
set_option linter.unusedVariables false
set_option linter.unusedSimpArgs false
set_option linter.unusedSectionVars false
set_option maxHeartbeats 20000000
set_option linter.defProp false
section
variable [nM]
set_option maxRecDepth 100000
namespace V
open Ab
open Bk (Cm)
def Xt:Nat->List AV->Prop
 |_,[]=>True
 |k,.str s::l=>(s.size:Int)<=3+60*k∧Xt (k+1) l
 |_,_=>False
theorem Xt.get:∀{l:List AV} {k j:Nat},Xt k l->j<l.length->∃t r,List.drop j l=.str t::r∧(t.size:Int)<=3+60*(k+j:Nat)
 |[],k,j,_,hj=>by simp at hj
 |x::l,k,j,h,hj=>by
  cases x with
  |str s=>
   cases j with
   |zero=>exact ⟨s,l,rfl,h.1⟩
   |succ j=>
    obtain ⟨t,r,h1,h2⟩:=Xt.get (j:=j) h.2 (by simpa using hj);exact ⟨t,r,h1,by rw [show k+(j+1)=k+1+j by omega];exact h2⟩
  |_=>exact absurd h id
theorem aff {l:List AV} {i:Int} {Q:AV->List AV->Prop} (h0:0<=i) (hj:i<l.length) (hl:Xt 0 l) (hQ:∀(t:ByteArray) r,(t.size:Int)<=3+60*i->Q (.str t) r):∃v r,List.drop (i.toNat*1) l=v::r∧Q v r:=by obtain ⟨t,r,h1,h2⟩:=Xt.get (j:=i.toNat) hl oM;exact ⟨_,_,by rw [Nat.mul_one];exact h1,hQ _ _ oM⟩
def c81:az:=fun args bx K=>match args,bx with
 |[.ptr 0 0,.int .i64 x],[[.sl nk lk,.int .i64 a,.str out,.int .i64 left,.int .i64 name]]=>∃ks:List Int,(nk=ks.length∧lk=kT ks)∧((0<=a∧a<=ks.length∧ks.length<=100∧(out.size:Int)<=400000∧0<=name∧name<=a)∧(-1<=x∧x<=40))∧∀(a':Int) (out':ByteArray),(a<=a'∧a'<=ks.length∧(out'.size:Int)<=out.size+150*(a'-a)+11)->K (.bW []) [mB ks a' out' left name]
 |_,_=>False
def LNI (ks:List Int) (a:Int) (out:ByteArray) (left name:Int) (j:Nat) (τ:aF):Prop:=∃(i n y a1:Int) (o:ByteArray),(0<=i∧i<=n∧n<=3)∧(0<=y∧y<=42)∧(a<=a1∧a1<=ks.length)∧(o.size:Int)+50*(n-i)<=out.size+150*(a1-a)+11∧j=(n-i).toNat∧τ=⟨[(6,.int .i64 i),(5,.int .i64 n),(4,.int .i64 y),(0,.ptr 0 0)],[mB ks a1 o left name]⟩
def aqe:=fN 81 Tryz.f81 63 []
theorem ahE.xt {p:Prop} (g:p:=by ((first|exact iT|exact dQ|exact fU|exact ik|exact iO|exact ig|exact iM|exact fQ|exact iR|exact iQ|exact iP|((with_reducible refine (?_:WP _ _ _ (.loop _) _ _));(apply WP.loop (LNI ks a out left name));(case h0=>exact ⟨0,_,_,_,_,⟨oM,oM,oM⟩,⟨oM,oM⟩,⟨oM,oM⟩,(by (try simp only [lL,jY,Es,Bk.aT,ByteArray.size_extract] at*);omega),rfl,rfl⟩);(case' h=>(rintro j τ ⟨i,n,y,a1,o,⟨g1,g2,g3⟩,⟨g4,g5⟩,⟨g6,g7⟩,g8,rfl,rfl⟩)))|((with_reducible refine (?_:∃(j:Nat) (τ':aF),j<_∧Rx 1 _ τ'∧_));(refine ⟨_,_,?_,Rx.refl,i+1,n,y,_,_,⟨oM,oM,oM⟩,⟨oM,oM⟩,⟨oM,oM⟩,(by (try simp only [lL,jY,Es,Bk.aT,ByteArray.size_extract] at*);omega),rfl,rfl⟩);omega)|exact rE|fail);(repeat' (first|exact dw|fail));first|done|fail)):p:=g
theorem aoG:az.OK Tryz.prog 81 c81:=by
 intro args bx K0 h;unfold c81 at h;split at h
 ·rename_i x nk lk a out left name;obtain ⟨ks,⟨rfl,rfl⟩,⟨⟨h1,h2,h3,h4,h5,h6⟩,h7,h8⟩,-⟩:=h;refine aqe.okW (base:=1) rfl o9 o9 ?_;have B:=V.base (ae.cons yh (ae.cons IE (ae.cons IG (ae.cons WA (ae.cons aji ae.nil)))))
  conv=>whnf
  let zA:=(au 81)
  open ahE in exact dw
 ·exact h.elim
def amI:az:=fun args bx K=>match args,bx with
 |[.int .i64 n],[]=>(0<=n∧n<=9)∧∀t:ByteArray,t.size<=1->K (.str t) []
 |_,_=>False
def alo:=fN 49 Tryz.f49 18 [.tmp 2]
theorem ahD.xt {p:Prop} (g:p:=by ((first|exact iT|exact dQ|exact fU|exact ik|exact iO|exact ig|exact iM|exact fQ|exact iR|exact iQ|exact iP|exact Fp|fail);(repeat' (first|exact dw|fail));first|done|fail)):p:=g
theorem ajs:az.OK Tryz.prog 49 amI:=by
 intro args bx K0 h;unfold amI at h;split at h
 ·rename_i n;obtain ⟨⟨h1,h2⟩,-⟩:=h;refine alo.okW (base:=0) rfl o9 o9 ?_;have B:=V.base ae.nil
  conv=>whnf
  let zA:=(au 49)
  open ahD in exact dw
 ·exact h.elim
def c49:az:=fun args bx K=>match args,bx with
 |[.int .i64 n],[]=>(0<=n∧n<=99)∧∀t:ByteArray,t.size<=2->K (.str t) []
 |_,_=>False
theorem ahC.xt {p:Prop} (g:p:=by ((first|exact iT|exact dQ|exact fU|exact ik|exact iO|exact ig|exact iM|exact fQ|exact iR|exact iQ|exact iP|((with_reducible refine (?_:(_:Int)<=_));(first|rw [Int.tmod_eq_emod_of_nonneg oM]|rw [Int.tdiv_eq_ediv_of_nonneg oM]);omega)|((with_reducible refine (?_:(_:Int)<=_));(rw [Int.tdiv_eq_ediv_of_nonneg oM,IntKind.wrap_i64]);omega)|exact Fp|fail);(repeat' (first|exact dw|fail));first|done|fail)):p:=g
theorem aoR:az.OK Tryz.prog 49 c49:=by
 intro args bx K0 h;unfold c49 at h;split at h
 ·rename_i n;obtain ⟨⟨h1,h2⟩,-⟩:=h;refine alo.okW (base:=0) rfl o9 o9 ?_;have B:=V.base (ae.cons ajs ae.nil)
  conv=>whnf
  let zA:=(au 49)
  open ahC in exact dw
 ·exact h.elim
def c82 (m:Int):az:=fun args bx K=>match args,bx with
 |[.ptr 0 0,.int .i64 x,.int .i64 deep],[[.sl nk lk,.int .i64 a,.str out,.int .i64 left,.int .i64 name]]=>∃ks:List Int,(nk=ks.length∧lk=kT ks)∧((0<=a∧a<=ks.length∧ks.length<=100∧(out.size:Int)<=150*a+100000+1000*deep∧0<=name∧name<=a)∧(0<=x∧x<=38∧0<=deep∧deep<=4∧4-deep<=m))∧∀(a' name':Int) (out':ByteArray),(a<=a'∧a'<=ks.length∧(out'.size:Int)<=out.size+150*(a'-a)+10∧0<=name'∧name'<=a')->K (.bW []) [mB ks a' out' left name']
 |_,_=>False
def FLI (ks:List Int) (a:Int) (out:ByteArray) (left x deep:Int) (j:Nat) (τ:aF):Prop:=∃(i n k a1 nm:Int) (o cl:ByteArray),(0<=i∧i<=n∧n<=3)∧cl.size<=1∧(a<=a1∧a1<=ks.length)∧(0<=nm∧nm<=a1)∧(o.size:Int)+40*(n-i)<=out.size+150*(a1-a)+1∧j=(n-i).toNat∧τ=⟨[(10,.int .i64 i),(9,.int .i64 n),(8,.str cl),(6,.int .i64 k),(2,.int .i64 deep),(1,.int .i64 x),(0,.ptr 0 0)],[mB ks a1 o left nm]⟩
def aqd:=fN 82 Tryz.f82 99 []
theorem ajh (m:Int) (h82:az.OK Tryz.prog 82 (c82 (m-1))):az.OK Tryz.prog 82 (c82 m):=by
 intro args bx K0 h;unfold c82 at h;split at h
 ·rename_i x deep nk lk a out left name;obtain ⟨ks,⟨rfl,rfl⟩,⟨⟨h1,h2,h3,h4,h5,h6⟩,h7,h8,h9,h10,h11⟩,-⟩:=h;refine aqd.okW (base:=1) rfl o9 o9 ?_;have B:=V.base (ae.cons h82 (ae.cons yh (ae.cons IE (ae.cons IG (ae.cons afK (ae.cons akk (ae.cons akj ae.nil)))))))
  conv=>whnf
  repeat' (first
  |with_reducible refine WP.seq ?_
  |(with_reducible first|refine Go.mk ?_|refine WP.qy B (au 82) ?_|refine WP.draw B (au 82) ?_|refine WP.cond ?_|refine WP.exit ?_|refine WP.skip ?_|refine WP.ret ?_);conv=>whnf
  |with_reducible refine WP.block ?_
  |with_reducible assumption
  |((with_reducible refine (?_:zo _ _));(conv=>whnf);exact ⟨rfl,rfl⟩)
  |((with_reducible refine (?_:AV.y8 _=true));rfl)
  |((with_reducible refine (?_:∃ks:List Int,(_=_∧_=_)∧_));refine ⟨_,⟨rfl,rfl⟩,?_⟩)
  |((with_reducible refine (?_:∃ts:List ByteArray,Oi _ _ ts∧_));(apply Exists.intro;apply And.intro;focus (repeat' (first|exact Oi.nil|apply Oi.cons))))
  |(first|(refine Fe (b:=3) rfl ?_ ?_;(focus (simp only [lL];omega));intro t r ht)|(refine Fe (b:=8) rfl ?_ ?_;(focus (simp only [lL];omega));intro t r ht)|(refine Fe (b:=10) rfl ?_ ?_;(focus (simp only [lL];omega));intro t r ht))
  |((with_reducible refine (?_:jY _<=_));(try simp only [lL,jY,Es,Bk.aT,ByteArray.size_extract] at*);omega)
  |((with_reducible refine Or.inl (?_:ByteArray.size _+ByteArray.size _<=_));(try simp only [lL,jY,Es,Bk.aT,ByteArray.size_extract] at*);omega)
  |((with_reducible refine (?_:(_:Nat)<_));(simp only [lL];omega))
  |((with_reducible refine (?_:(_:Int)<=_));rw [Int.tmod_eq_emod_of_nonneg oM];(try simp only [lL,Es]);omega)
  |((with_reducible refine (?_:(_:Int)<=_));(try simp only [lL,jY,Es,Bk.aT,ByteArray.size_extract] at*);omega)
  |((with_reducible refine (?_:(_:Nat)<=_));(try simp only [lL,jY,Es,Bk.aT,ByteArray.size_extract] at*);omega)
  |(refine aff ?_ ?_ ⟨?_,?_,?_,trivial⟩ ?_;(focus omega);(focus (simp only [lL];omega));(focus ((try simp only [lL,jY,Es,Bk.aT,ByteArray.size_extract] at*);omega));(focus ((try simp only [lL,jY,Es,Bk.aT,ByteArray.size_extract] at*);omega));(focus ((try simp only [lL,jY,Es,Bk.aT,ByteArray.size_extract] at*);omega));intro t r ht)
  |((with_reducible refine (?_:WP _ _ _ (.loop _) _ _));(apply WP.loop (FLI ks a out left x deep));(case h0=>exact ⟨0,_,_,_,_,_,_,⟨oM,oM,oM⟩,(by (try simp only [lL,jY,Es,Bk.aT,ByteArray.size_extract] at*);omega),⟨oM,oM⟩,⟨oM,oM⟩,(by (try simp only [lL,jY,Es,Bk.aT,ByteArray.size_extract] at*);omega),rfl,rfl⟩);(case' h=>(rintro j τ ⟨i,n,k,a1,nm,o,cl,⟨g1,g2,g3⟩,g4,⟨g5,g6⟩,⟨g7,g8⟩,g9,rfl,rfl⟩)))
  |((with_reducible refine (?_:∃(j:Nat) (τ':aF),j<_∧Rx 1 _ τ'∧_));(refine ⟨_,_,?_,Rx.refl,i+1,n,k,_,_,_,cl,⟨oM,oM,oM⟩,oM,⟨oM,oM⟩,⟨oM,oM⟩,(by (try simp only [lL,jY,Es,Bk.aT,ByteArray.size_extract] at*);omega),rfl,rfl⟩);omega)
  |(with_reducible refine (?_:af _ _ _ _ _));first|exact af.aW kV kV o9 o9 fun K hK=>(exI hK).2 _ _ _ ⟨oM,oM,(by (try simp only [lL,jY,Es,Bk.aT,ByteArray.size_extract] at*);omega),oM,oM⟩
  |with_reducible refine And.intro ?_ ?_
  |exact cL
  |(with_reducible intro h);first|(cases h;done)|(try simp only [lG,reduceCtorEq] at h);first|done|(exfalso;omega)|replace h:=h trivial aZ|replace h:=h aZ|skip
  |fail)
  all_goals done
 ·exact h.elim
theorem adU:∀n:Nat,az.OK Tryz.prog 82 (c82 ((n:Int)-1))
 |0=>fun args bx K0 h=>by
  unfold c82 at h;split at h
  ·obtain ⟨ks,-,⟨-,h7,h8,h9,h10,h11⟩,-⟩:=h;omega
  ·exact h.elim
 |n+1=>by have:=ajh ((n+1:Nat)-1) (by rw [show ((n+1:Nat):Int)-1-1=(n:Int)-1 by omega];exact adU n);exact this
theorem aoF:az.OK Tryz.prog 82 (c82 4):=adU 5
end V
end
end Go.Proofs.YtlmjabnkjmfcmaaGreat
