/- Parts of a proof; no condition. -/
import Derived.Test.YtlmjabnkjmfcmaaGreatR13
import Derived.Test.YtlmjabnkjmfcmaaGreatR14
namespace Go.Proofs.YtlmjabnkjmfcmaaGreat
open Go Go.RowKit Go.PlainAid
set_option linter.unusedVariables false
set_option linter.unusedSimpArgs false
set_option linter.unusedSectionVars false
set_option maxHeartbeats 20000000
set_option linter.defProp false
section
variable [nM]
set_option maxRecDepth 100000
namespace V
open Ab
open Bk (Cm)
def alF:=fN 155 Tryz.f155 81 [.cell 6 35,.cell 7 35,.cell 8 170,.tmp 9]
theorem ajM {m:Nat} (i161:az.OK Tryz.prog 161 (Xc m)) (i162:az.OK Tryz.prog 162 (Xb m)) (i165:az.OK Tryz.prog 165 (QF m)):az.OK Tryz.prog 155 (TB (m+1)):=by
 intro args bx K0 h;unfold TB at h;split at h
 ·rename_i nl ll deep s p n e;obtain ⟨L,⟨rfl,rfl⟩,⟨h0,h1,h2,rfl,h3,h4,h5,h6⟩,-⟩:=h;refine alF.okW (base:=1) rfl iD iD ?_;have B:=V.base (ae.cons i161 (ae.cons i162 (ae.cons i165 (ae.cons ad1 (ae.cons II (ae.cons Dl (ae.cons UL (ae.cons UM (ae.cons YB ae.nil)))))))))
  conv=>whnf
  repeat' (first
  |with_reducible refine WP.seq ?_
  |(with_reducible first|refine Go.mk ?_|refine WP.qy B (au 155) ?_|refine WP.draw B (au 155) ?_|refine WP.cond ?_|refine WP.exit ?_|refine WP.skip ?_|refine WP.ret ?_);conv=>whnf
  |with_reducible refine WP.block ?_
  |with_reducible assumption
  |(with_reducible refine (?_:∃L:List Cm,fP _ _ L∧_));(apply Exists.intro;apply And.intro;focus (repeat' (first|exact fP.mk _|exact fP.nil|apply fP.app)))
  |(with_reducible refine (?_:af _ _ _ _ _));first|exact af.aW kV kV iD iD fun K hK=>(Xv (fP.mk L) hK).2.2 (.mk _ _ _ _ _ _ _ _ _ _ _ _) (.mk _ _ _ _ _ _ _ _ _ _ _ _) _ _ _|exact af.aW kV kV iD iD fun K hK=>(Xv (fP.mk L) hK).2.1 (.mk _ _ _ _ _ _ _ _ _ _ _ _) (.mk _ _ _ _ _ _ _ _ _ _ _ _) _ _ _ _ WT WT oA
  |with_reducible refine And.intro ?_ ?_
  |exact cL
  |(with_reducible intro h);first|(cases h;done)|(try simp only [lG,reduceCtorEq] at h);first|done|(exfalso;omega)|replace h:=h trivial aZ|replace h:=h aZ|skip
  |fail)
 ·exact h.elim
end V
end
end Go.Proofs.YtlmjabnkjmfcmaaGreat
