/- Own texts, joined and shortened by a program; no condition. -/
import Derived.Test.YtlmjabnkjmfcmaaGreatK12
namespace Go.Proofs.YtlmjabnkjmfcmaaGreat
open Go Go.RowKit Go.PlainAid
set_option linter.unusedVariables false
set_option linter.unusedSimpArgs false
set_option maxHeartbeats 20000000
set_option linter.defProp false
section
set_option maxRecDepth 100000
namespace V
open Ab
open Bk (Cm)
def ahW:=fN 120 Tryz.f120 117 [.cell 4 35,.tmp 5]
theorem adF.xt {p:Prop} (g:p:=by ((first|exact yo|((with_reducible refine (?_:∃τ',Rx 1 _ τ'∧wP _ _ _ _ _ _));(refine ⟨_,Rx.refl,?_⟩);conv=>whnf)|((with_reducible refine (?_:∃(j:Nat) (τ':aJ),j<_∧Rx 1 _ τ'∧_));(refine Ot (?_:SI _ _ _ _ _ _ ((s.size:Int)-q').toNat _) Rx.refl oM);(exact ⟨kids,L,q',⟨⟨oM,oM⟩,oM,g4,g5,g6⟩,trivial,rfl,rfl⟩))|((with_reducible refine (?_:ag _ _ _ _ _));first|exact ag.aU kV kV dz dz fun K hK=>hK.2.2.1 (.mk _ _ _ _ _ _ _ _ _ _ _ _) (by first|rfl|exact oW)|exact ag.aU kV kV dz dz fun K hK=>hK.2.2.2 (.mk _ _ _ _ _ _ _ _ _ _ _ _) _ (by first|rfl|exact oW)|exact ag.aU kV kV dz dz fun K hK=>hK.2.1 (.mk 3 6 p 0 ByteArray.empty ByteArray.empty ByteArray.empty kids [] [] false ByteArray.empty) _ _ (.blk (.inl rfl) g4) ⟨rfl,oM,oM,oW⟩)|fail);(repeat' (first|exact bN|fail));first|done|fail)):p:=g
theorem afY {m:Nat} (i68:aC.OK Tryz.prog 68 (Zx m)):aC.OK Tryz.prog 120 (UB (m+1)):=by
 intro args bx K0 h;unfold UB at h;split at h
 ·rename_i d s p e;obtain ⟨⟨h0,h1,h2,rfl,h3,h4,h5⟩,-⟩:=h;have hs:s.size<=900000:=oM;have B:=V.base (af.cons i68 (af.cons O9 (af.cons RX (af.cons Jv (af.cons RV (af.cons CP af.nil))))));refine ahW.okW (base:=1) rfl dz dz ?_;refine WP.Gb ?_
  conv=>whnf
  repeat' (first
  |with_reducible refine WP.seq ?_
  |(with_reducible first|refine Go.mk ?_|refine WP.oC B (aH 120) ?_|refine WP.draw B (aH 120) ?_|refine WP.cond ?_|refine WP.exit ?_|refine WP.skip ?_|refine WP.ret ?_);conv=>whnf
  |with_reducible refine WP.block ?_
  |with_reducible assumption
  |with_reducible refine And.intro ?_ ?_
  |exact cL
  |(with_reducible intro h);first|(cases h;done)|(try simp only [lG,reduceCtorEq] at h);first|done|(exfalso;omega)|replace h:=h trivial aZ|replace h:=h aZ|skip
  |fail)
  refine WP.jB ZC ?_;refine WP.loop (SI 3 _ s p d (fun _=>True)) ⟨[],[],p,⟨⟨oM,oM⟩,by rw [gm];simp,(by intro z hz;cases hz),fun _=>rfl,by simp⟩,trivial,rfl,rfl⟩ ?_;rintro j τ ⟨kids,L,q,hI,-,rfl,rfl⟩;obtain ⟨⟨g1,g2⟩,g3,g4,g5,g6⟩:=id hI
  repeat' (first
  |(with_reducible refine WP.cut (x:=.region 11 _ _) (SJ 3 (Bb s p) s p d q) ?_ ?_)
  |with_reducible refine WP.seq ?_
  |(with_reducible first|refine Go.mk ?_|refine WP.oC B (aH 120) ?_|refine WP.draw B (aH 120) ?_|refine WP.cond ?_|refine WP.exit ?_|refine WP.skip ?_|refine WP.ret ?_);conv=>whnf
  |with_reducible refine WP.block ?_
  |with_reducible assumption
  |((with_reducible refine (?_:AV.wN _=true));simp [AV.wN,AV.pf,bE (ai _),bE (aA _),bE (fV (aA _) (aA _))])
  |((with_reducible refine (?_:Pn _));first|exact .inl rfl|exact .inr ⟨_,rfl⟩)
  |(with_reducible refine (?_:∃L:List Cm,dC _ _ L∧_));(apply Exists.intro;apply And.intro;focus (repeat' (first|exact dC.mk _|exact dC.nil|apply dC.app)))
  |((with_reducible refine (?_:∃τ',Rx 1 _ τ'∧wP _ _ _ _ _ _));(refine ⟨_,Rx.refl,?_⟩);conv=>whnf)
  |((with_reducible refine (?_:∃τ',Rx 1 _ τ'∧SJ _ _ _ _ _ _ _));(apply SJ.mk1 (y:=(.mk _ _ _ _ _ _ _ _ _ _ _ _)) (kids:=kids));(case hC=>rfl);(case hy=>(repeat' (first|exact mQ.nil|exact Wk.sK|exact Wk.YG|(refine Wk.isc (by first|exact dC.mk _|exact dC.app (dC.mk _) (dC.mk _)))|exact Wk.refl _|refine mQ.cons ?_ ?_)));(case hl=>simp [bW,iY,cs,bR (ai _),bR (aA _),dF]);(case hN=>rfl);(case hI=>exact hI.amB aZ rfl ⟨oM,oM,oW⟩);(case hq=>omega))
  |(with_reducible refine (?_:ag _ _ _ _ _));first|exact ag.aU kV kV dz dz fun K hK=>hK.2.2.1 (.mk _ _ _ _ _ _ _ _ _ _ _ _) (by first|rfl|exact oW)|exact ag.aU kV kV dz dz fun K hK=>hK.2.2.2 (.mk _ _ _ _ _ _ _ _ _ _ _ _) _ (by first|rfl|exact oW)
  |with_reducible refine And.intro ?_ ?_
  |exact cL
  |(with_reducible intro h);first|(cases h;done)|(try simp only [lG,reduceCtorEq] at h);first|done|(exfalso;omega)|replace h:=h trivial aZ|replace h:=h aZ|skip
  |fail)
  all_goals
   refine aR.mk ?_;rintro τ ⟨kids,L,q',hI,hq,rfl⟩;obtain ⟨⟨g1,g2⟩,g3,g4,g5,g6⟩:=id hI;let zA:=(aH 120)
   open adF in exact bN
 ·exact h.elim
theorem dC.one {t:ByteArray} {b:Int}:dC 1 [.str t,.int .i64 b] [⟨t,b⟩]:=⟨rfl,rfl⟩
def ahL:=fN 131 Tryz.f131 110 [.cell 6 35,.cell 7 35,.tmp 8]
theorem adE.xt {p:Prop} (g:p:=by ((first|exact yo|exact rX|exact Ao|((with_reducible refine (?_:ag _ _ _ _ _));first|exact ag.aU kV kV dz dz fun K hK=>hK.2.2.1 (.mk _ _ _ _ _ _ _ _ _ _ _ _) (.mk _ _ _ _ _ _ _ _ _ _ _ _)|exact ag.aU kV kV dz dz fun K hK=>hK.2.2.2 (.mk _ _ _ _ _ _ _ _ _ _ _ _) (.mk _ _ _ _ _ _ _ _ _ _ _ _) _|exact ag.aU kV kV dz dz fun K hK=>hK.2.1 (.mk _ _ _ _ _ _ _ _ _ _ _ _) (.mk _ _ _ _ _ _ _ _ _ _ _ _) _ _ (by first|assumption|exact Ex.zZ aZ|exact Ex.bare aZ|exact Ex.zZ xX.plain) (by first|assumption|exact Ex.zZ aZ|exact Ex.bare aZ|exact Ex.zZ xX.plain) ⟨oM,oM,oW⟩)|fail);(repeat' (first|exact bN|fail));first|done|fail)):p:=g
theorem afU {m:Nat} (i68:aC.OK Tryz.prog 68 (Zx m)):aC.OK Tryz.prog 131 (Uy (m+1)):=by
 intro args bx K0 h;unfold Uy at h;split at h
 ·rename_i c d s p v e;obtain ⟨⟨h0,h1,h2,rfl,h3,h4,hv,h5⟩,-⟩:=h;have hs:s.size<=900000:=oM;have B:=V.base (af.cons i68 (af.cons O9 (af.cons RX (af.cons CP (af.cons yF af.nil)))));rcases hv with rfl|⟨L,rfl⟩
  all_goals
   refine ahL.okW (base:=1) rfl dz dz ?_
   conv=>whnf
   let zA:=(aH 131)
   open adE in exact bN
 ·exact h.elim
end V
end
end Go.Proofs.YtlmjabnkjmfcmaaGreat
