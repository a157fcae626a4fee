/- Own texts, joined and shortened by a program; no condition. -/
import Derived.Test.YtlmjabnkjmfcmaaGreatK13
namespace Go.Proofs.YtlmjabnkjmfcmaaGreat
open Go Go.RowKit Go.PlainAid
set_option linter.unusedVariables false
set_option linter.unusedSimpArgs false
set_option maxHeartbeats 20000000
set_option linter.defProp false
section
set_option maxRecDepth 100000
namespace V
open Ab
open Bk (Cm)
def ahV:=fN 121 Tryz.f121 165 [.cell 4 35,.tmp 5]
theorem adD.xt {p:Prop} (g:p:=by ((first|exact yo|((with_reducible refine (?_:∃τ',Rx 1 _ τ'∧wP _ _ _ _ _ _));(refine ⟨_,Rx.refl,?_⟩);conv=>whnf)|((with_reducible refine (?_:∃(j:Nat) (τ':aJ),j<_∧Rx 1 _ τ'∧_));(refine Ot (?_:SI _ _ _ _ _ _ ((s.size:Int)-q').toNat _) Rx.refl oM);(exact ⟨kids,L,q',⟨⟨oM,oM⟩,oM,g4,g5,g6⟩,(fun hm=>by first|assumption|(simp_all;done)),rfl,rfl⟩))|((with_reducible refine (?_:ag _ _ _ _ _));first|exact ag.aU kV kV dz dz fun K hK=>hK.2.2.1 (.mk _ _ _ _ _ _ _ _ _ _ _ _) (by first|rfl|exact oW)|exact ag.aU kV kV dz dz fun K hK=>hK.2.2.2 (.mk _ _ _ _ _ _ _ _ _ _ _ _) _ (by first|rfl|exact oW)|exact ag.aU kV kV dz dz fun K hK=>hK.2.1 (.mk 4 6 p 0 ByteArray.empty ByteArray.empty ByteArray.empty kids [] [] false ByteArray.empty) _ _ (.blk (.inr ⟨rfl,g5 rfl⟩) g4) ⟨rfl,oM,oM,oW⟩)|fail);(repeat' (first|exact bN|fail));first|done|fail)):p:=g
theorem afX {F:ByteArray->Int->Int×Bool} {m:Nat} (i119:aC.OK Tryz.prog 119 (MC F)) (i135:aC.OK Tryz.prog 135 Ep) (i68:aC.OK Tryz.prog 68 (Zx m)) (i131:aC.OK Tryz.prog 131 (Uy m)):aC.OK Tryz.prog 121 (UA F (m+1)):=by
 intro args bx K0 h;unfold UA at h;split at h
 ·rename_i d s p e;obtain ⟨⟨h0,h1,h2,rfl,h3,h4,hk,h5⟩,-⟩:=h;have hs:s.size<=900000:=oM;have B:=V.base (af.cons i68 (af.cons i131 (af.cons i119 (af.cons (afT i119 i135) (af.cons O9 (af.cons RX (af.cons Jv (af.cons RV (af.cons CP af.nil)))))))));refine ahV.okW (base:=1) rfl dz dz ?_;refine WP.Gb ?_
  conv=>whnf
  repeat' (first
  |with_reducible refine WP.seq ?_
  |(with_reducible first|refine Go.mk ?_|refine WP.oC B (aH 121) ?_|refine WP.draw B (aH 121) ?_|refine WP.cond ?_|refine WP.exit ?_|refine WP.skip ?_|refine WP.ret ?_);conv=>whnf
  |with_reducible refine WP.block ?_
  |with_reducible assumption
  |with_reducible refine And.intro ?_ ?_
  |exact cL
  |(with_reducible intro h);first|(cases h;done)|(try simp only [lG,reduceCtorEq] at h);first|done|(exfalso;omega)|replace h:=h trivial aZ|replace h:=h aZ|skip
  |fail)
  refine WP.jB ZC ?_;refine WP.loop (SI 4 _ s p d (fun q=>jV s q 63=false->(F s q).2=true)) ⟨[],[],p,⟨⟨oM,oM⟩,by rw [gm];simp,(by intro z hz;cases hz),fun _=>rfl,by simp⟩,hk,rfl,rfl⟩ ?_;rintro j τ ⟨kids,L,q,hI,hR,rfl,rfl⟩;obtain ⟨⟨g1,g2⟩,g3,g4,g5,g6⟩:=id hI
  repeat' (first
  |(with_reducible refine WP.cut (x:=.region 18 _ _) (SJ 4 (Bb s p) s p d q) ?_ ?_)
  |with_reducible refine WP.seq ?_
  |(with_reducible first|refine Go.mk ?_|refine WP.oC B (aH 121) ?_|refine WP.draw B (aH 121) ?_|refine WP.cond ?_|refine WP.exit ?_|refine WP.skip ?_|refine WP.ret ?_);conv=>whnf
  |with_reducible refine WP.block ?_
  |with_reducible assumption
  |((with_reducible refine (?_:AV.wN _=true));simp [AV.wN,AV.pf,bE (ai _),bE (aA _),bE (fV (aA _) (aA _))])
  |((with_reducible refine (?_:Pn _));first|exact .inl rfl|exact .inr ⟨_,rfl⟩)
  |(with_reducible refine (?_:∃L:List Cm,dC _ _ L∧_));(apply Exists.intro;apply And.intro;focus (repeat' (first|exact dC.mk _|exact dC.nil|exact dC.one|apply dC.app)))
  |((with_reducible refine (?_:∃τ',Rx 1 _ τ'∧wP _ _ _ _ _ _));(refine ⟨_,Rx.refl,?_⟩);conv=>whnf)
  |((with_reducible refine (?_:_=true));exact hR aZ)
  |((with_reducible refine (?_:∃τ',Rx 1 _ τ'∧SJ _ _ _ _ _ _ _));(apply SJ.mk2 (x:=(.mk _ _ _ _ _ _ _ _ _ _ _ _)) (y:=(.mk _ _ _ _ _ _ _ _ _ _ _ _)) (kids:=kids));(case hC=>rfl);(case hy=>(repeat' (first|exact mQ.nil|exact Wk.sK|exact Wk.YG|(refine Wk.isc (by first|exact dC.mk _|exact dC.app (dC.mk _) (dC.mk _)))|exact Wk.refl _|refine mQ.cons ?_ ?_)));(case hl=>simp [bW,iY,cs,bR (ai _),bR (aA _),dF]);(case hN=>rfl);(case hI=>exact hI.XY (by first|assumption|exact Ex.zZ aZ) (by first|assumption|exact Ex.zZ aZ) ⟨oM,oM,oW⟩);(case hq=>omega))
  |(with_reducible refine (?_:ag _ _ _ _ _));first|exact ag.aU kV kV dz dz fun K hK=>hK.2.2.1 (.mk _ _ _ _ _ _ _ _ _ _ _ _) (by first|rfl|exact oW)|exact ag.aU kV kV dz dz fun K hK=>hK.2.2.2 (.mk _ _ _ _ _ _ _ _ _ _ _ _) _ (by first|rfl|exact oW)
  |with_reducible refine And.intro ?_ ?_
  |exact cL
  |(with_reducible intro h);first|(cases h;done)|(try simp only [lG,reduceCtorEq] at h);first|done|(exfalso;omega)|replace h:=h trivial aZ|replace h:=h aZ|skip
  |fail)
  all_goals
   refine aR.mk ?_;rintro τ ⟨kids,L,q',hI,hq,rfl⟩;obtain ⟨⟨g1,g2⟩,g3,g4,g5,g6⟩:=id hI;let zA:=(aH 121)
   open adD in exact bN
 ·exact h.elim
end V
end
end Go.Proofs.YtlmjabnkjmfcmaaGreat
