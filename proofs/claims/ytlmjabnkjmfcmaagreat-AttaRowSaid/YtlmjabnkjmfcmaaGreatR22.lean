/- Parts of a proof; no condition. -/
import Derived.Test.YtlmjabnkjmfcmaaGreatR20
namespace Go.Proofs.YtlmjabnkjmfcmaaGreat
open Go Go.RowKit Go.PlainAid
set_option linter.unusedVariables false
set_option linter.unusedSimpArgs false
set_option linter.unusedSectionVars false
set_option maxHeartbeats 20000000
set_option linter.defProp false
section
variable [nM]
set_option maxRecDepth 100000
namespace V
open Ab
open Bk (Cm)
theorem fP.one {t:ByteArray} {b:Int}:fP 1 [.str t,.int .i64 b] [⟨t,b⟩]:=⟨rfl,rfl⟩
def alW:=fN 131 Tryz.f131 110 [.cell 6 35,.cell 7 35,.tmp 8]
theorem ah4.xt {p:Prop} (g:p:=by ((first|exact jS|exact dQ|exact OT|((with_reducible refine (?_:af _ _ _ _ _));first|exact af.aW kV kV dM dM fun K hK=>hK.2.2.1 (.mk _ _ _ _ _ _ _ _ _ _ _ _) (.mk _ _ _ _ _ _ _ _ _ _ _ _)|exact af.aW kV kV dM dM fun K hK=>hK.2.2.2 (.mk _ _ _ _ _ _ _ _ _ _ _ _) (.mk _ _ _ _ _ _ _ _ _ _ _ _) _|exact af.aW kV kV dM dM fun K hK=>hK.2.1 (.mk _ _ _ _ _ _ _ _ _ _ _ _) (.mk _ _ _ _ _ _ _ _ _ _ _ _) _ _ (by first|assumption|exact JS.flow aZ|exact JS.bare aZ|exact JS.flow Cb.plain) (by first|assumption|exact JS.flow aZ|exact JS.bare aZ|exact JS.flow Cb.plain) ⟨oM,oM,oW⟩)|fail);(repeat' (first|exact dw|fail));first|done|fail)):p:=g
theorem aj2 {m:Nat} (i68:az.OK Tryz.prog 68 (c68 m)):az.OK Tryz.prog 131 (aav (m+1)):=by
 intro args bx K0 h;unfold aav at h;split at h
 ·rename_i c d s p v e;obtain ⟨⟨h0,h1,h2,rfl,h3,h4,hv,h5⟩,-⟩:=h;have hs:s.size<=900000:=oM;have B:=V.base (ae.cons i68 (ae.cons WB (ae.cons YC (ae.cons IJ (ae.cons Dl ae.nil)))));rcases hv with rfl|⟨L,rfl⟩
  all_goals
   refine alW.okW (base:=1) rfl dM dM ?_
   conv=>whnf
   let zA:=(au 131)
   open ah4 in exact dw
 ·exact h.elim
end V
end
end Go.Proofs.YtlmjabnkjmfcmaaGreat
