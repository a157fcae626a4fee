/- Parts of a proof; no condition. -/
import Derived.Test.YtlmjabnkjmfcmaaGreatR11
namespace Go.Proofs.YtlmjabnkjmfcmaaGreat
open Go Go.RowKit Go.PlainAid
set_option linter.unusedVariables false
set_option linter.unusedSimpArgs false
set_option linter.unusedSectionVars false
set_option maxHeartbeats 20000000
set_option linter.defProp false
section
variable [nM]
set_option maxRecDepth 100000
namespace V
open Ab
open Bk (Cm)
def alu:=fN 167 Tryz.f167 59 [.cell 6 35,.cell 7 170,.tmp 8]
theorem ain.xt {p:Prop} (g:p:=by ((first|((with_reducible refine (?_:af _ _ _ _ _));first|exact af.aW kV kV iD iD fun K hK=>(Xv (fP.mk L) hK).2.2 _ _ _ _|exact af.aW kV kV iD iD fun K hK=>(Xv (fP.mk L) hK).2.2 (.mk _ _ _ _ _ _ _ _ _ _ _ _) _ _ _|exact af.aW kV kV iD iD fun K hK=>(Xv (fP.mk L) hK).2.1 (.mk _ _ _ _ _ _ _ _ _ _ _ _) _ _ _ _ WT oW)|fail);(repeat' (first|exact dw|fail));first|done|fail)):p:=g
theorem ajE {m:Nat} (i165:az.OK Tryz.prog 165 (QF m)):az.OK Tryz.prog 167 (Xa (m+1)):=by
 intro args bx K0 h;unfold Xa at h;split at h
 ·rename_i nl ll deep s p n e;obtain ⟨L,⟨rfl,rfl⟩,⟨h0,h1,h2,rfl,h3,h4,h5,h6⟩,-⟩:=h;refine alu.okW (base:=1) rfl iD iD ?_;have B:=V.base (ae.cons i165 (ae.cons KA (ae.cons YH (ae.cons Dl (ae.cons UM ae.nil)))))
  conv=>whnf
  let zA:=(au 167)
  open ain in exact dw
 ·exact h.elim
def alB:=fN 161 Tryz.f161 51 [.tmp 4,.cell 5 180,.tmp 6]
theorem ajJ {m:Nat} (i165:az.OK Tryz.prog 165 (QF m)):az.OK Tryz.prog 161 (Xc (m+1)):=by
 intro args bx K0 h;unfold Xc at h;split at h
 ·rename_i deep s p n e;obtain ⟨⟨h0,h1,h2,rfl,h3,h4,h5⟩,-⟩:=h;refine alB.okW (base:=1) rfl iD iD ?_;have B:=V.base (ae.cons i165 (ae.cons KA (ae.cons YH (ae.cons UL (ae.cons Dl ae.nil)))))
  conv=>whnf
  repeat' (first
  |with_reducible refine WP.seq ?_
  |(with_reducible first|refine Go.mk ?_|refine WP.qy B (au 161) ?_|refine WP.draw B (au 161) ?_|refine WP.cond ?_|refine WP.exit ?_|refine WP.skip ?_|refine WP.ret ?_);conv=>whnf
  |with_reducible refine WP.block ?_
  |with_reducible assumption
  |(with_reducible refine (?_:af _ _ _ _ _));first|exact af.aW kV kV iD iD fun K hK=>hK.2.2 _ _ _ _ _ _|exact af.aW kV kV iD iD fun K hK=>hK.2.2 _ (.mk _ _ _ _ _ _ _ _ _ _ _ _) _ _ _ _|exact af.aW kV kV iD iD fun K hK=>hK.2.1 _ (.mk _ _ _ _ _ _ _ _ _ _ _ _) _ _ _ _ _ WT oW
  |with_reducible refine And.intro ?_ ?_
  |exact cL
  |(with_reducible intro h);first|(cases h;done)|(try simp only [lG,reduceCtorEq] at h);first|done|(exfalso;omega)|replace h:=h trivial aZ|replace h:=h aZ|skip
  |fail)
 ·exact h.elim
end V
end
end Go.Proofs.YtlmjabnkjmfcmaaGreat
