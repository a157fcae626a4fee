/- Parts of a proof; no condition. -/
import Derived.Test.YtlmjabnkjmfcmaaGreatR35
namespace Go.Proofs.YtlmjabnkjmfcmaaGreat
open Go Go.RowKit Go.PlainAid
set_option linter.unusedVariables false
set_option linter.unusedSimpArgs false
set_option linter.unusedSectionVars false
set_option maxHeartbeats 20000000
set_option linter.defProp false
section
variable [nM]
set_option maxRecDepth 100000
namespace V
open Ab
open Bk (Cm)
def c15:az:=fun args bx K=>match args,bx with
 |[.sl nk lk],[]=>∃ks:List Int,(nk=ks.length∧lk=kT ks)∧ks.length<=100∧∀t:ByteArray,t.size<=15200->K (.str t) []
 |_,_=>False
def MDI (ks:List Int) (j:Nat) (τ:aF):Prop:=∃(i n a1 lf nm:Int) (o:ByteArray),(0<=i∧i<=n∧n<=3)∧(0<=a1∧a1<=ks.length)∧(o.size:Int)+75*(n-i)<=150*a1+75∧j=(n-i).toNat∧τ=⟨[(5,.int .i64 i),(4,.int .i64 n),(3,.ptr 0 0)],[mB ks a1 o lf nm]⟩
def aqO:=fN 15 Tryz.f15 75 [.tmp 2]
theorem ahz.xt {p:Prop} (g:p:=by ((first|exact iT|exact dQ|exact fU|exact ik|exact iO|exact ig|exact iM|exact fQ|exact iR|exact iQ|exact iP|((with_reducible refine (?_:WP _ _ _ (.loop _) _ _));(apply WP.loop (MDI ks));(case h0=>exact ⟨0,_,_,_,_,_,⟨oM,oM,oM⟩,⟨oM,oM⟩,(by (try simp only [lL,jY,Es,Bk.aT,ByteArray.size_extract] at*);omega),rfl,rfl⟩);(case' h=>(rintro j τ ⟨i,n,a1,lf,nm,o,⟨g1,g2,g3⟩,⟨g4,g5⟩,g6,rfl,rfl⟩)))|((with_reducible refine (?_:∃(j:Nat) (τ':aF),j<_∧Rx 0 _ τ'∧_));(refine ⟨_,_,?_,Rx.refl,i+1,n,_,_,_,_,⟨oM,oM,oM⟩,⟨oM,oM⟩,(by (try simp only [lL,jY,Es,Bk.aT,ByteArray.size_extract] at*);omega),rfl,rfl⟩);omega)|((with_reducible refine (?_:af _ _ _ _ _));first|exact af.aW kV kV o9 o9 fun K hK=>(exI hK).2 _ oM)|fail);(repeat' (first|exact dw|fail));first|done|fail)):p:=g
theorem ao4:az.OK Tryz.prog 15 c15:=by
 intro args bx K0 h;unfold c15 at h;split at h
 ·rename_i nk lk;obtain ⟨ks,⟨rfl,rfl⟩,h1,-⟩:=h;refine aqO.okW (base:=0) rfl o9 o9 ?_;have B:=V.base (ae.cons yh (ae.cons IE (ae.cons IG (ae.cons afM (ae.cons aoR (ae.cons aoQ (ae.cons WA (ae.cons aoP ae.nil))))))))
  conv=>whnf
  have e0:ByteArray.empty.size=0:=rfl;have e0':({data:=#[]}:ByteArray).size=0:=rfl;let zA:=(au 15)
  open ahz in exact dw
 ·exact h.elim
end V
end
end Go.Proofs.YtlmjabnkjmfcmaaGreat
