/- Parts of a proof; no condition. -/
import Derived.Test.YtlmjabnkjmfcmaaGreatR20
namespace Go.Proofs.YtlmjabnkjmfcmaaGreat
open Go Go.RowKit Go.PlainAid
set_option linter.unusedVariables false
set_option linter.unusedSimpArgs false
set_option linter.unusedSectionVars false
set_option maxHeartbeats 20000000
set_option linter.defProp false
section
variable [nM]
set_option maxRecDepth 100000
namespace V
open Ab
open Bk (Cm)
def al8:=fN 120 Tryz.f120 117 [.cell 4 35,.tmp 5]
theorem ah5.xt {p:Prop} (g:p:=by ((first|exact jS|((with_reducible refine (?_:∃τ',Rx 1 _ τ'∧A7 _ _ _ _ _ _));(refine ⟨_,Rx.refl,?_⟩);conv=>whnf)|((with_reducible refine (?_:∃(j:Nat) (τ':aF),j<_∧Rx 1 _ τ'∧_));(refine VH (?_:SI _ _ _ _ _ _ ((s.size:Int)-q').toNat _) Rx.refl oM);(exact ⟨kids,L,q',⟨⟨oM,oM⟩,oM,g4,g5,g6⟩,trivial,rfl,rfl⟩))|((with_reducible refine (?_:af _ _ _ _ _));first|exact af.aW kV kV dM dM fun K hK=>hK.2.2.1 (.mk _ _ _ _ _ _ _ _ _ _ _ _) (by first|rfl|exact oW)|exact af.aW kV kV dM dM fun K hK=>hK.2.2.2 (.mk _ _ _ _ _ _ _ _ _ _ _ _) _ (by first|rfl|exact oW)|exact af.aW kV kV dM dM fun K hK=>hK.2.1 (.mk 3 6 p 0 ByteArray.empty ByteArray.empty ByteArray.empty kids [] [] false ByteArray.empty) _ _ (.blk (.inl rfl) g4) ⟨rfl,oM,oM,oW⟩)|fail);(repeat' (first|exact dw|fail));first|done|fail)):p:=g
theorem aj8 {m:Nat} (i68:az.OK Tryz.prog 68 (c68 m)):az.OK Tryz.prog 120 (aay (m+1)):=by
 intro args bx K0 h;unfold aay at h;split at h
 ·rename_i d s p e;obtain ⟨⟨h0,h1,h2,rfl,h3,h4,h5⟩,-⟩:=h;have hs:s.size<=900000:=oM;have B:=V.base (ae.cons i68 (ae.cons WB (ae.cons YC (ae.cons PW (ae.cons YB (ae.cons IJ ae.nil))))));refine al8.okW (base:=1) rfl dM dM ?_;refine WP.MC ?_
  conv=>whnf
  repeat' (first
  |with_reducible refine WP.seq ?_
  |(with_reducible first|refine Go.mk ?_|refine WP.qy B (au 120) ?_|refine WP.draw B (au 120) ?_|refine WP.cond ?_|refine WP.exit ?_|refine WP.skip ?_|refine WP.ret ?_);conv=>whnf
  |with_reducible refine WP.block ?_
  |with_reducible assumption
  |with_reducible refine And.intro ?_ ?_
  |exact cL
  |(with_reducible intro h);first|(cases h;done)|(try simp only [lG,reduceCtorEq] at h);first|done|(exfalso;omega)|replace h:=h trivial aZ|replace h:=h aZ|skip
  |fail)
  refine WP.pJ aeL ?_;refine WP.loop (SI 3 _ s p d (fun _=>True)) ⟨[],[],p,⟨⟨oM,oM⟩,by rw [iJ];simp,(by intro z hz;cases hz),fun _=>rfl,by simp⟩,trivial,rfl,rfl⟩ ?_;rintro j τ ⟨kids,L,q,hI,-,rfl,rfl⟩;obtain ⟨⟨g1,g2⟩,g3,g4,g5,g6⟩:=id hI
  repeat' (first
  |(with_reducible refine WP.cut (x:=.region 11 _ _) (SJ 3 (Gt s p) s p d q) ?_ ?_)
  |with_reducible refine WP.seq ?_
  |(with_reducible first|refine Go.mk ?_|refine WP.qy B (au 120) ?_|refine WP.draw B (au 120) ?_|refine WP.cond ?_|refine WP.exit ?_|refine WP.skip ?_|refine WP.ret ?_);conv=>whnf
  |with_reducible refine WP.block ?_
  |with_reducible assumption
  |((with_reducible refine (?_:AV.y8 _=true));simp [AV.y8,AV.pf,bn (ai _),bn (ay _),bn (iH (ay _) (ay _))])
  |((with_reducible refine (?_:Pn _));first|exact .inl rfl|exact .inr ⟨_,rfl⟩)
  |(with_reducible refine (?_:∃L:List Cm,fP _ _ L∧_));(apply Exists.intro;apply And.intro;focus (repeat' (first|exact fP.mk _|exact fP.nil|apply fP.app)))
  |((with_reducible refine (?_:∃τ',Rx 1 _ τ'∧A7 _ _ _ _ _ _));(refine ⟨_,Rx.refl,?_⟩);conv=>whnf)
  |((with_reducible refine (?_:∃τ',Rx 1 _ τ'∧SJ _ _ _ _ _ _ _));(apply SJ.mk1 (y:=(.mk _ _ _ _ _ _ _ _ _ _ _ _)) (kids:=kids));(case hC=>rfl);(case hy=>(repeat' (first|exact qi.nil|exact Wk.wO|exact Wk.adQ|(refine Wk.isc (by first|exact fP.mk _|exact fP.app (fP.mk _) (fP.mk _)))|exact Wk.refl _|refine qi.cons ?_ ?_)));(case hl=>simp [dG,kQ,cs,bQ (ai _),bQ (ay _),iy]);(case hN=>rfl);(case hI=>exact hI.ark aZ rfl ⟨oM,oM,oW⟩);(case hq=>omega))
  |(with_reducible refine (?_:af _ _ _ _ _));first|exact af.aW kV kV dM dM fun K hK=>hK.2.2.1 (.mk _ _ _ _ _ _ _ _ _ _ _ _) (by first|rfl|exact oW)|exact af.aW kV kV dM dM fun K hK=>hK.2.2.2 (.mk _ _ _ _ _ _ _ _ _ _ _ _) _ (by first|rfl|exact oW)
  |with_reducible refine And.intro ?_ ?_
  |exact cL
  |(with_reducible intro h);first|(cases h;done)|(try simp only [lG,reduceCtorEq] at h);first|done|(exfalso;omega)|replace h:=h trivial aZ|replace h:=h aZ|skip
  |fail)
  all_goals
   refine aH.mk ?_;rintro τ ⟨kids,L,q',hI,hq,rfl⟩;obtain ⟨⟨g1,g2⟩,g3,g4,g5,g6⟩:=id hI;let zA:=(au 120)
   open ah5 in exact dw
 ·exact h.elim
end V
end
end Go.Proofs.YtlmjabnkjmfcmaaGreat
