/- Parts of a proof; no condition. -/
import Derived.Test.YtlmjabnkjmfcmaaGreatR11
namespace Go.Proofs.YtlmjabnkjmfcmaaGreat
open Go Go.RowKit Go.PlainAid
set_option linter.unusedVariables false
set_option linter.unusedSimpArgs false
set_option linter.unusedSectionVars false
set_option maxHeartbeats 20000000
set_option linter.defProp false
section
variable [nM]
set_option maxRecDepth 100000
namespace V
open Ab
open Bk (Cm)
def alA:=fN 162 Tryz.f162 48 [.cell 6 35,.cell 7 170,.tmp 8]
theorem aim.xt {p:Prop} (g:p:=by ((first|exact oJ|((with_reducible refine (?_:af _ _ _ _ _));first|exact af.aW kV kV iD iD fun K hK=>hK.2.2.2 _ _ _ _|exact af.aW kV kV iD iD fun K hK=>hK.2.2.2 (.mk _ _ _ _ _ _ _ _ _ _ _ _) _ _ _|exact af.aW kV kV iD iD fun K hK=>hK.2.2.1 (.mk _ _ _ _ _ _ _ _ _ _ _ _) _ _ _ _ WT oW (by intros;first|exact oW|simp_all))|fail);(repeat' (first|exact dw|fail));first|done|fail)):p:=g
theorem ajI {m:Nat} (i167:az.OK Tryz.prog 167 (Xa m)):az.OK Tryz.prog 162 (Xb (m+1)):=by
 intro args bx K0 h;unfold Xb at h;split at h
 ·rename_i k1 y1 p1 b1 yH yC yB n1 l1 n2 l2 n3 l3 hb1 xm any near one e1 deep s p n e;obtain ⟨⟨g1,g2,g3⟩,⟨h0,h1,h2,rfl,h3,h4,h5⟩,-⟩:=h;have hw:iE [AV.ptr 0 0,AV.agg [.int .i64 k1,.int .i64 y1,.int .i64 p1,.int .i64 b1,.str yH,.str yC,.str yB,.sl n1 l1,.sl n2 l2,.sl n3 l3,.bool hb1,.str xm,.bool any,.bool near,.bool one,.int .i64 e1],AV.int .i64 deep]=true:=by simp [iE,wv,uX,AV.flat,AV.one,g1,g2,g3,bK g1,bK g2,bK g3]
  refine alA.okW (base:=1) rfl hw iD ?_;have B:=V.base (ae.cons i167 (ae.cons KA (ae.cons UL (ae.cons Dl ae.nil))))
  conv=>whnf
  let zA:=(au 162)
  open aim in exact dw
 ·exact h.elim
def alz:=fN 163 Tryz.f163 23 [.cell 10 35]
theorem ajH:az.OK Tryz.prog 163 amO:=by
 intro args bx K0 h;unfold amO at h;split at h
 ·rename_i first nl ll kc vc s a n c
  obtain ⟨L,x,y,⟨rfl,rfl⟩,rfl,rfl,⟨h0,ha,hc⟩,-⟩:=h;have B:=V.base (ae.cons YB ae.nil);rcases ha with ⟨ka,rfl⟩|rfl<;>rcases hc with ⟨kc,rfl⟩|rfl
  all_goals
   refine alz.okW (base:=1) rfl iD iD ?_
   conv=>whnf
   repeat' (first
   |with_reducible refine WP.seq ?_
   |(with_reducible first|refine Go.mk ?_|refine WP.qy B (au 163) ?_|refine WP.draw B (au 163) ?_|refine WP.cond ?_|refine WP.exit ?_|refine WP.skip ?_|refine WP.ret ?_);conv=>whnf
   |with_reducible refine WP.block ?_
   |with_reducible assumption
   |with_reducible refine And.intro ?_ ?_
   |exact cL
   |(with_reducible intro h);first|(cases h;done)|(try simp only [lG,reduceCtorEq] at h);first|done|(exfalso;omega)|replace h:=h trivial aZ|replace h:=h aZ|skip
   |fail)
   all_goals
    refine af.mk iD iD fun K hK=>?_;obtain ⟨L',x',y',hL,hx,hy,-,hK⟩:=hK;cases tN hx;cases tN hy;cases fP.inj (fP.mk L) hL;exact hK _ aZ
 ·exact h.elim
end V
end
end Go.Proofs.YtlmjabnkjmfcmaaGreat
