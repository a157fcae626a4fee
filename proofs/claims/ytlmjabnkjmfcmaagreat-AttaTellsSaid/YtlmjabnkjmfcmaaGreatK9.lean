/- Own texts, joined and shortened by a program; no condition. -/
import Derived.Test.YtlmjabnkjmfcmaaGreatK8
namespace Go.Proofs.YtlmjabnkjmfcmaaGreat
open Go Go.RowKit Go.PlainAid
set_option linter.unusedVariables false
set_option linter.unusedSimpArgs false
set_option maxHeartbeats 20000000
set_option linter.defProp false
section
set_option maxRecDepth 100000
namespace V
open Ab
open Bk (Cm)
def ahp:=fN 162 Tryz.f162 48 [.cell 6 35,.cell 7 170,.tmp 8]
theorem adV.xt {p:Prop} (g:p:=by ((first|exact EN|((with_reducible refine (?_:ag _ _ _ _ _));first|exact ag.aU kV kV fU fU fun K hK=>hK.2.2.2 _ _ _ _|exact ag.aU kV kV fU fU fun K hK=>hK.2.2.2 (.mk _ _ _ _ _ _ _ _ _ _ _ _) _ _ _|exact ag.aU kV kV fU fU fun K hK=>hK.2.2.1 (.mk _ _ _ _ _ _ _ _ _ _ _ _) _ _ _ _ Px oW (by intros;first|exact oW|simp_all))|fail);(repeat' (first|exact bN|fail));first|done|fail)):p:=g
theorem afA {m:Nat} (i167:aC.OK Tryz.prog 167 (PH m)):aC.OK Tryz.prog 162 (PM (m+1)):=by
 intro args bx K0 h;unfold PM at h;split at h
 ·rename_i k1 y1 p1 b1 ed dZ dY n1 l1 n2 l2 n3 l3 hb1 dU any near one e1 deep s p n e;obtain ⟨⟨g1,g2,g3⟩,⟨h0,h1,h2,rfl,h3,h4,h5⟩,-⟩:=h;have hw:gZ [AV.ptr 0 0,AV.agg [.int .i64 k1,.int .i64 y1,.int .i64 p1,.int .i64 b1,.str ed,.str dZ,.str dY,.sl n1 l1,.sl n2 l2,.sl n3 l3,.bool hb1,.str dU,.bool any,.bool near,.bool one,.int .i64 e1],AV.int .i64 deep]=true:=by simp [gZ,wv,qI,AV.flat,AV.one,g1,g2,g3,bB g1,bB g2,bB g3]
  refine ahp.okW (base:=1) rfl hw fU ?_;have B:=V.base (af.cons i167 (af.cons E9 (af.cons Nr (af.cons yF af.nil))))
  conv=>whnf
  let zA:=(aH 162)
  open adV in exact bN
 ·exact h.elim
def aho:=fN 163 Tryz.f163 23 [.cell 10 35]
theorem afz:aC.OK Tryz.prog 163 aiz:=by
 intro args bx K0 h;unfold aiz at h;split at h
 ·rename_i first nl ll kc vc s a n c
  obtain ⟨L,x,y,⟨rfl,rfl⟩,rfl,rfl,⟨h0,ha,hc⟩,-⟩:=h;have B:=V.base (af.cons RV af.nil);rcases ha with ⟨ka,rfl⟩|rfl<;>rcases hc with ⟨kc,rfl⟩|rfl
  all_goals
   refine aho.okW (base:=1) rfl fU fU ?_
   conv=>whnf
   repeat' (first
   |with_reducible refine WP.seq ?_
   |(with_reducible first|refine Go.mk ?_|refine WP.oC B (aH 163) ?_|refine WP.draw B (aH 163) ?_|refine WP.cond ?_|refine WP.exit ?_|refine WP.skip ?_|refine WP.ret ?_);conv=>whnf
   |with_reducible refine WP.block ?_
   |with_reducible assumption
   |with_reducible refine And.intro ?_ ?_
   |exact cL
   |(with_reducible intro h);first|(cases h;done)|(try simp only [lG,reduceCtorEq] at h);first|done|(exfalso;omega)|replace h:=h trivial aZ|replace h:=h aZ|skip
   |fail)
   all_goals
    refine ag.mk fU fU fun K hK=>?_;obtain ⟨L',x',y',hL,hx,hy,-,hK⟩:=hK;cases tX hx;cases tX hy;cases dC.inj (dC.mk L) hL;exact hK _ aZ
 ·exact h.elim
def ahi:=fN 169 Tryz.f169 154 [.cell 6 180,.tmp 7]
theorem afu {m:Nat} (i127:aC.OK Tryz.prog 127 Uz) (i141:aC.OK Tryz.prog 141 (MB m)):aC.OK Tryz.prog 169 (Uv (m+1)):=by
 intro args bx K0 h;unfold Uv at h;split at h
 ·rename_i deep prop s p n e;obtain ⟨⟨h0,h1,h2,rfl,h3,h4,h5⟩,-⟩:=h;refine ahi.okW (base:=1) rfl fU fU ?_;have B:=V.base (af.cons i127 (af.cons i141 (af.cons Jy (af.cons CO (af.cons R9 (af.cons R4 (af.cons Nu (af.cons YQ af.nil))))))))
  conv=>whnf
  repeat' (first
  |with_reducible refine WP.seq ?_
  |(with_reducible first|refine Go.mk ?_|refine WP.oC B (aH 169) ?_|refine WP.draw B (aH 169) ?_|refine WP.cond ?_|refine WP.exit ?_|refine WP.skip ?_|refine WP.ret ?_);conv=>whnf
  |with_reducible refine WP.block ?_
  |with_reducible assumption
  |(with_reducible refine (?_:ag _ _ _ _ _));first|exact ag.aU kV kV fU fU fun K hK=>hK.2.2.1|exact ag.aU kV kV fU fU fun K hK=>hK.2.2.2 _ _ _ _ _|exact ag.aU kV kV fU fU fun K hK=>hK.2.2.2 (.mk _ _ _ _ _ _ _ _ _ _ _ _) _ _ _ _|exact ag.aU kV kV fU fU fun K hK=>hK.2.1 (.mk _ _ _ _ _ _ _ _ _ _ _ _) _ _ _ Px (by first|assumption|rfl) oW
  |with_reducible refine And.intro ?_ ?_
  |exact cL
  |(with_reducible intro h);first|(cases h;done)|(try simp only [lG,reduceCtorEq] at h);first|done|(exfalso;omega)|replace h:=h trivial aZ|replace h:=h aZ|skip
  |fail)
 ·exact h.elim
def ahu:=fN 155 Tryz.f155 81 [.cell 6 35,.cell 7 35,.cell 8 170,.tmp 9]
theorem afE {m:Nat} (i161:aC.OK Tryz.prog 161 (PN m)) (i162:aC.OK Tryz.prog 162 (PM m)) (i165:aC.OK Tryz.prog 165 (Ka m)):aC.OK Tryz.prog 155 (Mw (m+1)):=by
 intro args bx K0 h;unfold Mw at h;split at h
 ·rename_i nl ll deep s p n e;obtain ⟨L,⟨rfl,rfl⟩,⟨h0,h1,h2,rfl,h3,h4,h5,h6⟩,-⟩:=h;refine ahu.okW (base:=1) rfl fU fU ?_;have B:=V.base (af.cons i161 (af.cons i162 (af.cons i165 (af.cons YP (af.cons CO (af.cons yF (af.cons Nr (af.cons Ns (af.cons RV af.nil)))))))))
  conv=>whnf
  repeat' (first
  |with_reducible refine WP.seq ?_
  |(with_reducible first|refine Go.mk ?_|refine WP.oC B (aH 155) ?_|refine WP.draw B (aH 155) ?_|refine WP.cond ?_|refine WP.exit ?_|refine WP.skip ?_|refine WP.ret ?_);conv=>whnf
  |with_reducible refine WP.block ?_
  |with_reducible assumption
  |(with_reducible refine (?_:∃L:List Cm,dC _ _ L∧_));(apply Exists.intro;apply And.intro;focus (repeat' (first|exact dC.mk _|exact dC.nil|apply dC.app)))
  |(with_reducible refine (?_:ag _ _ _ _ _));first|exact ag.aU kV kV fU fU fun K hK=>(BA (dC.mk L) hK).2.2 (.mk _ _ _ _ _ _ _ _ _ _ _ _) (.mk _ _ _ _ _ _ _ _ _ _ _ _) _ _ _|exact ag.aU kV kV fU fU fun K hK=>(BA (dC.mk L) hK).2.1 (.mk _ _ _ _ _ _ _ _ _ _ _ _) (.mk _ _ _ _ _ _ _ _ _ _ _ _) _ _ _ _ Px Px oA
  |with_reducible refine And.intro ?_ ?_
  |exact cL
  |(with_reducible intro h);first|(cases h;done)|(try simp only [lG,reduceCtorEq] at h);first|done|(exfalso;omega)|replace h:=h trivial aZ|replace h:=h aZ|skip
  |fail)
 ·exact h.elim
end V
end
end Go.Proofs.YtlmjabnkjmfcmaaGreat
