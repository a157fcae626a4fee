/- Parts of a proof; no condition. -/
import Derived.Test.YtlmjabnkjmfcmaaGreatR13
import Derived.Test.YtlmjabnkjmfcmaaGreatR14
namespace Go.Proofs.YtlmjabnkjmfcmaaGreat
open Go Go.RowKit Go.PlainAid
set_option linter.unusedVariables false
set_option linter.unusedSimpArgs false
set_option linter.unusedSectionVars false
set_option maxHeartbeats 20000000
set_option linter.defProp false
section
variable [nM]
set_option maxRecDepth 100000
namespace V
open Ab
open Bk (Cm)
theorem ex3 {n:Nat} {l kc vc:List AV} {L:List Cm} {x y:Nd} {Q:List Cm->Nd->Nd->Prop} (h1:fP n l L) (h2:kc=bV x) (h3:vc=bV y) (hq:Q L x y):∃L x y,fP n l L∧kc=bV x∧vc=bV y∧Q L x y:=⟨L,x,y,h1,h2,h3,hq⟩
def alG:=fN 154 Tryz.f154 216 [.cell 6 35,.cell 7 170,.tmp 8,.tmp 9]
theorem ail.xt {p:Prop} (g:p:=by ((first|((with_reducible refine (?_:(_:Int)<=_));(have hw:=‹Bk.dB _=false->_› aZ);omega)|exact oJ|((apply ex3);(case h1=>(repeat' (first|exact fP.mk _|exact fP.nil|apply fP.app)));(case h2=>(first|exact (rfl:_=bV BK)|exact rfl));(case h3=>(first|exact (rfl:_=bV BK)|exact rfl)))|(refine ⟨_,rfl,?_⟩)|(refine ⟨BK,rfl,?_⟩)|((with_reducible refine (?_:af _ _ _ _ _));first|exact af.aW kV kV iD iD fun K hK=>(Xv (fP.mk L) hK).2.1 (.mk _ _ _ _ _ _ _ _ _ _ _ _) _ _ _ _ WT oW|exact af.aW kV kV iD iD fun K hK=>(Xv (fP.mk L) hK).2.2.1 (.mk _ _ _ _ _ _ _ _ _ _ _ _) (.mk _ _ _ _ _ _ _ _ _ _ _ _) _ _ _ _ _ _ _ WT WT oW|exact af.aW kV kV iD iD fun K hK=>(Xv (fP.mk L) hK).2.2.2.1 (.mk _ _ _ _ _ _ _ _ _ _ _ _) _ _ _ _|exact af.aW kV kV iD iD fun K hK=>(Xv (fP.mk L) hK).2.2.2.1 (.mk _ _ _ _ _ _ _ _ _ _ _ _) [] _ _ _|exact af.aW kV kV iD iD fun K hK=>(Xv (fP.mk L) hK).2.2.2.2 (.mk _ _ _ _ _ _ _ _ _ _ _ _) (.mk _ _ _ _ _ _ _ _ _ _ _ _) _ _ _ _ _ _)|fail);(repeat' (first|exact dw|fail));first|done|fail)):p:=g
theorem ajN {m:Nat} (i161:az.OK Tryz.prog 161 (Xc m)) (i162:az.OK Tryz.prog 162 (Xb m)) (i165:az.OK Tryz.prog 165 (QF m)) (i167:az.OK Tryz.prog 167 (Xa m)):az.OK Tryz.prog 154 (TC (m+1)):=by
 intro args bx K0 h;unfold TC at h;split at h
 ·rename_i nl ll deep s p n e;obtain ⟨L,⟨rfl,rfl⟩,⟨h0,h1,h2,rfl,h3,h4,h5,h6⟩,-⟩:=h;refine alG.okW (base:=1) rfl iD iD ?_;have B:=V.base (ae.cons i161 (ae.cons i162 (ae.cons i165 (ae.cons i167 (ae.cons (ajF 100000000) (ae.cons ad1 (ae.cons II (ae.cons ajH (ae.cons Dl (ae.cons UL (ae.cons MM (ae.cons JH (ae.cons KA (ae.cons UM (ae.cons YB ae.nil)))))))))))))))
  conv=>whnf
  let zA:=(au 154)
  open ail in exact dw
 ·exact h.elim
end V
end
end Go.Proofs.YtlmjabnkjmfcmaaGreat
