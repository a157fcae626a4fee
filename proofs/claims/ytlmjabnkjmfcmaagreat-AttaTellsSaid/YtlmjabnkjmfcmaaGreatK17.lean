/- Own texts, joined and shortened by a program; no condition. -/
import Derived.Test.YtlmjabnkjmfcmaaGreatK17a
namespace Go.Proofs.YtlmjabnkjmfcmaaGreat
open Go Go.RowKit Go.PlainAid
set_option linter.unusedVariables false
set_option linter.unusedSimpArgs false
set_option maxHeartbeats 20000000
set_option linter.defProp false
section
set_option maxRecDepth 100000
namespace V
open Ab
open Bk (Cm)
def c82 (m:Int):aC:=fun args bx K=>match args,bx with
 |[.ptr 0 0,.int .i64 x,.int .i64 deep],[[.sl nk lk,.int .i64 a,.str out,.int .i64 left,.int .i64 name]]=>∃ks:List Int,(nk=ks.length∧lk=jh ks)∧((0<=a∧a<=ks.length∧ks.length<=100∧(out.size:Int)<=150*a+100000+1000*deep∧0<=name∧name<=a)∧(0<=x∧x<=38∧0<=deep∧deep<=4∧4-deep<=m))∧∀(a' name':Int) (out':ByteArray),(a<=a'∧a'<=ks.length∧(out'.size:Int)<=out.size+150*(a'-a)+10∧0<=name'∧name'<=a')->K (.bX []) [mB ks a' out' left name']
 |_,_=>False
def FLI (ks:List Int) (a:Int) (out:ByteArray) (left x deep:Int) (j:Nat) (τ:aJ):Prop:=∃(i n k a1 nm:Int) (o cl:ByteArray),(0<=i∧i<=n∧n<=3)∧cl.size<=1∧(a<=a1∧a1<=ks.length)∧(0<=nm∧nm<=a1)∧(o.size:Int)+40*(n-i)<=out.size+150*(a1-a)+1∧j=(n-i).toNat∧τ=⟨[(10,.int .i64 i),(9,.int .i64 n),(8,.str cl),(6,.int .i64 k),(2,.int .i64 deep),(1,.int .i64 x),(0,.ptr 0 0)],[mB ks a1 o left nm]⟩
def alB:=fN 82 Tryz.f82 99 []
theorem aeP (m:Int) (h82:aC.OK Tryz.prog 82 (c82 (m-1))):aC.OK Tryz.prog 82 (c82 m):=by
 intro args bx K0 h;unfold c82 at h;split at h
 ·rename_i x deep nk lk a out left name;obtain ⟨ks,⟨rfl,rfl⟩,⟨⟨h1,h2,h3,h4,h5,h6⟩,h7,h8,h9,h10,h11⟩,-⟩:=h;refine alB.okW (base:=1) rfl mV mV ?_;have B:=V.base (af.cons h82 (af.cons uF (af.cons CG (af.cons CK (af.cons aaK (af.cons af8 (af.cons af7 af.nil)))))))
  conv=>whnf
  let zA:=(aH 82)
  repeat' (first|with_reducible refine WP.seq ?_|((with_reducible first|refine Go.mk ?_|refine WP.oC B zA ?_|refine WP.draw B zA ?_|refine WP.cond ?_|refine WP.exit ?_|refine WP.skip ?_|refine WP.ret ?_);conv=>whnf)|(with_reducible first|refine WP.block ?_|assumption)|((with_reducible refine (?_:wY _ _));(conv=>whnf);exact ⟨rfl,rfl⟩)|((with_reducible refine (?_:AV.wN _=true));rfl)|((with_reducible refine (?_:∃ks:List Int,(_=_∧_=_)∧_));refine ⟨_,⟨rfl,rfl⟩,?_⟩)|((with_reducible refine (?_:∃ts:List ByteArray,Ku _ _ ts∧_));(apply Exists.intro;apply And.intro;focus (repeat' (first|exact Ku.nil|apply Ku.cons))))|(first|(refine IB (b:=3) rfl ?_ ?_;(focus (simp only [lL];omega));intro t r ht)|(refine IB (b:=8) rfl ?_ ?_;(focus (simp only [lL];omega));intro t r ht)|(refine IB (b:=10) rfl ?_ ?_;(focus (simp only [lL];omega));intro t r ht))|((with_reducible refine (?_:jP _<=_));(try simp only [lL,jP,Ec,Bk.bA,ByteArray.size_extract] at*);omega)|((with_reducible refine (?_:ByteArray.size _+ByteArray.size _<=_));(try simp only [lL,jP,Ec,Bk.bA,ByteArray.size_extract] at*);omega)|((with_reducible refine (?_:(_:Nat)<_));(simp only [lL];omega))|((with_reducible refine (?_:(_:Int)<=_));rw [Int.tmod_eq_emod_of_nonneg oM];(try simp only [lL,Ec]);omega)|((with_reducible refine (?_:(_:Int)<=_));(try simp only [lL,jP,Ec,Bk.bA,ByteArray.size_extract] at*);omega)|((with_reducible refine (?_:(_:Nat)<=_));(try simp only [lL,jP,Ec,Bk.bA,ByteArray.size_extract] at*);omega)|(refine aab ?_ ?_ ⟨?_,?_,?_,trivial⟩ ?_;(focus omega);(focus (simp only [lL];omega));(focus ((try simp only [lL,jP,Ec,Bk.bA,ByteArray.size_extract] at*);omega));(focus ((try simp only [lL,jP,Ec,Bk.bA,ByteArray.size_extract] at*);omega));(focus ((try simp only [lL,jP,Ec,Bk.bA,ByteArray.size_extract] at*);omega));intro t r ht)|((with_reducible refine (?_:WP _ _ _ (.loop _) _ _));(apply WP.loop (FLI ks a out left x deep));(case h0=>exact ⟨0,_,_,_,_,_,_,⟨oM,oM,oM⟩,(by (try simp only [lL,jP,Ec,Bk.bA,ByteArray.size_extract] at*);omega),⟨oM,oM⟩,⟨oM,oM⟩,(by (try simp only [lL,jP,Ec,Bk.bA,ByteArray.size_extract] at*);omega),rfl,rfl⟩);(case' h=>(rintro j τ ⟨i,n,k,a1,nm,o,cl,⟨g1,g2,g3⟩,g4,⟨g5,g6⟩,⟨g7,g8⟩,g9,rfl,rfl⟩)))|((with_reducible refine (?_:∃(j:Nat) (τ':aJ),j<_∧Rx 1 _ τ'∧_));(refine ⟨_,_,?_,Rx.refl,i+1,n,k,_,_,_,cl,⟨oM,oM,oM⟩,oM,⟨oM,oM⟩,⟨oM,oM⟩,(by (try simp only [lL,jP,Ec,Bk.bA,ByteArray.size_extract] at*);omega),rfl,rfl⟩);omega)|((with_reducible refine (?_:ag _ _ _ _ _));first|exact ag.aU kV kV mV mV fun K hK=>(Zp hK).2 _ _ _ ⟨oM,oM,(by (try simp only [lL,jP,Ec,Bk.bA,ByteArray.size_extract] at*);omega),oM,oM⟩)|with_reducible refine And.intro ?_ ?_|exact cL|((with_reducible intro h);first|(cases h;done)|((try simp only [lG,reduceCtorEq] at h);first|done|(exfalso;omega)|replace h:=h trivial aZ|replace h:=h aZ|skip)|skip)|fail)
 ·exact h.elim
theorem YJ:∀n:Nat,aC.OK Tryz.prog 82 (c82 ((n:Int)-1))
 |0=>fun args bx K0 h=>by
  unfold c82 at h;split at h
  ·obtain ⟨ks,-,⟨-,h7,h8,h9,h10,h11⟩,-⟩:=h;omega
  ·exact h.elim
 |n+1=>by have:=aeP ((n+1:Nat)-1) (by rw [show ((n+1:Nat):Int)-1-1=(n:Int)-1 by omega];exact YJ n);exact this
theorem aj8:aC.OK Tryz.prog 82 (c82 4):=YJ 5
end V
end
end Go.Proofs.YtlmjabnkjmfcmaaGreat
