/- Parts of a proof; no condition. -/
import Derived.Test.YtlmjabnkjmfcmaaGreatR11
namespace Go.Proofs.YtlmjabnkjmfcmaaGreat
open Go Go.RowKit Go.PlainAid
set_option linter.unusedVariables false
set_option linter.unusedSimpArgs false
set_option linter.unusedSectionVars false
set_option maxHeartbeats 20000000
set_option linter.defProp false
section
variable [nM]
set_option maxRecDepth 100000
namespace V
open Ab
open Bk (Cm)
def alq:=fN 169 Tryz.f169 154 [.cell 6 180,.tmp 7]
theorem ajC {m:Nat} (i127:az.OK Tryz.prog 127 aaw) (i141:az.OK Tryz.prog 141 (TE m)):az.OK Tryz.prog 169 (aas (m+1)):=by
 intro args bx K0 h;unfold aas at h;split at h
 ·rename_i deep prop s p n e;obtain ⟨⟨h0,h1,h2,rfl,h3,h4,h5⟩,-⟩:=h;refine alq.okW (base:=1) rfl iD iD ?_;have B:=V.base (ae.cons i127 (ae.cons i141 (ae.cons PY (ae.cons II (ae.cons YK (ae.cons YG (ae.cons UO (ae.cons ad2 ae.nil))))))))
  conv=>whnf
  repeat' (first
  |with_reducible refine WP.seq ?_
  |(with_reducible first|refine Go.mk ?_|refine WP.qy B (au 169) ?_|refine WP.draw B (au 169) ?_|refine WP.cond ?_|refine WP.exit ?_|refine WP.skip ?_|refine WP.ret ?_);conv=>whnf
  |with_reducible refine WP.block ?_
  |with_reducible assumption
  |(with_reducible refine (?_:af _ _ _ _ _));first|exact af.aW kV kV iD iD fun K hK=>hK.2.2.1|exact af.aW kV kV iD iD fun K hK=>hK.2.2.2 _ _ _ _ _|exact af.aW kV kV iD iD fun K hK=>hK.2.2.2 (.mk _ _ _ _ _ _ _ _ _ _ _ _) _ _ _ _|exact af.aW kV kV iD iD fun K hK=>hK.2.1 (.mk _ _ _ _ _ _ _ _ _ _ _ _) _ _ _ WT (by first|assumption|rfl) oW
  |with_reducible refine And.intro ?_ ?_
  |exact cL
  |(with_reducible intro h);first|(cases h;done)|(try simp only [lG,reduceCtorEq] at h);first|done|(exfalso;omega)|replace h:=h trivial aZ|replace h:=h aZ|skip
  |fail)
 ·exact h.elim
end V
end
end Go.Proofs.YtlmjabnkjmfcmaaGreat
