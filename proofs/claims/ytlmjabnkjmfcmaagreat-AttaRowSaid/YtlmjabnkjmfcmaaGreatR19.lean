/- Parts of a proof; no condition. -/
import Derived.Test.YtlmjabnkjmfcmaaGreatR12
import Derived.Test.YtlmjabnkjmfcmaaGreatR18
namespace Go.Proofs.YtlmjabnkjmfcmaaGreat
open Go Go.RowKit Go.PlainAid
set_option linter.unusedVariables false
set_option linter.unusedSimpArgs false
set_option linter.unusedSectionVars false
set_option maxHeartbeats 20000000
set_option linter.defProp false
section
variable [nM]
set_option maxRecDepth 100000
namespace V
open Ab
open Bk (Cm)
def rD (s:ByteArray) (p:Int) (v:AV):List AV:=[.str s,.int .i64 p,v,.int .i64 0]
def rG (s:ByteArray) (v:AV):List AV:=[.str s,.ql .i64,v,.nz .i64]
def Pn (v:AV):Prop:=v=.nil∨∃L:List Cm,v=cs L
def lS (s:ByteArray) (p c:Int):Bool:=decide (p<s.size) && decide (bt s p.toNat=c) && Bk.mG s (p+1)
def ank:az:=fun args bx K=>match args,bx with
 |[.str s,.int .i64 p,.int .u8 c],[]=>(s.size<=900000∧0<=p∧p<=1000000)∧(lS s p c=true->p<s.size->K (.bool true) [])∧(lS s p c=false->K (.bool false) [])
 |_,_=>False
def amh:=fN 111 Tryz.f111 24 [.tmp 6]
theorem IJ:az.OK Tryz.prog 111 ank:=by
 intro args bx K0 h;unfold ank at h;split at h
 ·rename_i s p c;obtain ⟨⟨h0,h1,h2⟩,-⟩:=h;refine amh.okW (base:=0) rfl dM dM ?_;have B:=V.base (ae.cons PX ae.nil)
  conv=>whnf
  repeat' (first
  |with_reducible refine WP.seq ?_
  |(with_reducible first|refine Go.mk ?_|refine WP.qy B (au 111) ?_|refine WP.draw B (au 111) ?_|refine WP.cond ?_|refine WP.exit ?_|refine WP.skip ?_|refine WP.ret ?_);conv=>whnf
  |with_reducible refine WP.block ?_
  |with_reducible assumption
  |with_reducible refine And.intro ?_ ?_
  |exact cL
  |(with_reducible intro h);first|(cases h;done)|(try simp only [lG,reduceCtorEq] at h);first|done|(exfalso;omega)|replace h:=h trivial aZ|replace h:=h aZ|skip
  |fail)
  all_goals first
   |exact af.mk rfl rfl fun K hK=>hK.2.1 (by simp [lS, *]) aZ
   |exact af.mk rfl rfl fun K hK=>hK.2.2 (by cases hh:lS s p c<;>first|rfl|(exfalso;simp [lS] at hh;first|omega|simp_all))
 ·exact h.elim
def uC (s:ByteArray) (p:Int):Bool:=decide ((s.size:Int)<=p)||(decide (Gt s p<=0) && (decide (Bk.fE s (Bk.aP s p)=3)||decide (Bk.fE s (Bk.aP s p)=4)))
def c69:az:=fun args bx K=>match args,bx with
 |[.str s,.int .i64 p],[]=>(s.size<=900000∧0<=p)∧(uC s p=true->K (.bool true) [])∧(uC s p=false->p<s.size->K (.bool false) [])
 |_,_=>False
theorem UH {s:ByteArray} {p:Int} (h:(s.size:Int)<=p∨(Gt s p<=0∧(Bk.fE s (Bk.aP s p)=3∨Bk.fE s (Bk.aP s p)=4))):uC s p=true:=by unfold uC;simp only [Bool.or_eq_true,Bool.and_eq_true,decide_eq_true_eq];exact h
theorem MI {s:ByteArray} {p:Int} (h:¬((s.size:Int)<=p∨(Gt s p<=0∧(Bk.fE s (Bk.aP s p)=3∨Bk.fE s (Bk.aP s p)=4)))):uC s p=false:=by
 cases hh:uC s p with
 |false=>rfl
 |true=>
  unfold uC at hh;simp only [Bool.or_eq_true,Bool.and_eq_true,decide_eq_true_eq] at hh;exact absurd hh h
def aql:=fN 69 Tryz.f69 23 [.tmp 4]
theorem YC:az.OK Tryz.prog 69 c69:=by
 intro args bx K0 h;unfold c69 at h;split at h
 ·rename_i s p;obtain ⟨⟨h0,h1⟩,-⟩:=h;refine aql.okW (base:=0) rfl dM dM ?_;have B:=V.base (ae.cons YF (ae.cons WB ae.nil))
  conv=>whnf
  repeat' (first
  |with_reducible refine WP.seq ?_
  |(with_reducible first|refine Go.mk ?_|refine WP.qy B (au 69) ?_|refine WP.draw B (au 69) ?_|refine WP.cond ?_|refine WP.exit ?_|refine WP.skip ?_|refine WP.ret ?_);conv=>whnf
  |with_reducible refine WP.block ?_
  |with_reducible assumption
  |with_reducible refine And.intro ?_ ?_
  |exact cL
  |(with_reducible intro h);first|(cases h;done)|(try simp only [lG,reduceCtorEq] at h);first|done|(exfalso;omega)|replace h:=h trivial aZ|replace h:=h aZ|skip
  |fail)
  all_goals first
   |exact af.mk rfl rfl fun K hK=>hK.2.1 (UH oM)
   |exact af.mk rfl rfl fun K hK=>hK.2.2 (MI oM) oM
   |(refine af.bool (fun hb=>?_) (fun hb=>?_)
     ·exact af.mk rfl rfl fun K hK=>hK.2.1 (UH (by simp only [decide_eq_true_eq,decide_eq_false_iff_not] at hb;omega))
     ·exact af.mk rfl rfl fun K hK=>hK.2.2 (MI (by simp only [decide_eq_true_eq,decide_eq_false_iff_not] at hb;omega)) oM)
 ·exact h.elim
def c70:az:=fun args bx K=>match args,bx with
 |[.ptr 0 0,a,e],[[.str s,.int .i64 p,v,.int .i64 c]]=>(NZ a∧NzA e∧c=0∧Pn v)∧K (.bool false) [rG s v]
 |_,_=>False
def aqk:=fN 70 Tryz.f70 20 [.tmp 6]
theorem PW:az.OK Tryz.prog 70 c70:=by
 intro args bx K0 h;unfold c70 at h;split at h
 ·rename_i a e s p v c;obtain ⟨⟨ha,he,rfl,hv⟩,-⟩:=h;have B:=V.base ae.nil;rcases ha with ⟨k,rfl⟩|rfl<;>rcases he with ⟨j,hj,rfl⟩|rfl<;>rcases hv with rfl|⟨L,rfl⟩
  all_goals
   refine aqk.okW (base:=1) rfl dM dM ?_
   conv=>whnf
   repeat' (first
   |with_reducible refine WP.seq ?_
   |(with_reducible first|refine Go.mk ?_|refine WP.qy B (au 70) ?_|refine WP.draw B (au 70) ?_|refine WP.cond ?_|refine WP.exit ?_|refine WP.skip ?_|refine WP.ret ?_);conv=>whnf
   |with_reducible refine WP.block ?_
   |with_reducible assumption
   |with_reducible refine And.intro ?_ ?_
   |exact cL
   |(with_reducible intro h);first|(cases h;done)|(try simp only [lG,reduceCtorEq] at h);first|done|(exfalso;omega)|replace h:=h trivial aZ|replace h:=h aZ|skip
   |fail)
   all_goals exact af.aW kV kV dM dM fun K hK=>hK.2
 ·exact h.elim
def anl:az:=fun args bx K=>match args,bx with
 |[.ptr 0 0,.int .i64 a],[[.str s,.int .i64 p,v,.int .i64 e]]=>(s.size<=900000∧e=0∧Pn v)∧∀f:Int,(0<=f∧f<=s.size)->K (.int .i64 f) [rD s p v]
 |_,_=>False
def ami:=fN 110 Tryz.f110 17 [.tmp 4]
theorem ad8:az.OK Tryz.prog 110 anl:=by
 intro args bx K0 h;unfold anl at h;split at h
 ·rename_i a s p v e;obtain ⟨⟨h0,rfl,hv⟩,-⟩:=h;rcases hv with rfl|⟨L,rfl⟩
  all_goals
   refine ami.okW (base:=1) rfl dM dM ?_;have B:=V.base (ae.cons MM ae.nil)
   conv=>whnf
   repeat' (first
   |with_reducible refine WP.seq ?_
   |(with_reducible first|refine Go.mk ?_|refine WP.qy B (au 110) ?_|refine WP.draw B (au 110) ?_|refine WP.cond ?_|refine WP.exit ?_|refine WP.skip ?_|refine WP.ret ?_);conv=>whnf
   |with_reducible refine WP.block ?_
   |with_reducible assumption
   |with_reducible refine And.intro ?_ ?_
   |exact cL
   |(with_reducible intro h);first|(cases h;done)|(try simp only [lG,reduceCtorEq] at h);first|done|(exfalso;omega)|replace h:=h trivial aZ|replace h:=h aZ|skip
   |fail)
   all_goals exact af.aW kV kV dM dM fun K hK=>hK.2 _ oM
 ·exact h.elim
def c96:az:=fun args bx K=>match args,bx with
 |[.ptr 0 0],[[.str s,.int .i64 p,.nil,.int .i64 e]]=>(s.size<=900000∧0<=p∧p<=s.size∧e=0)∧(∀(l:List Cm) (same:Bool) (q:Int),Bk.sK s p.toNat 0 false=some (l,same,q.toNat)->(p<=q∧q<=s.size∧l.length+p<=q)->K (.bW [cs l,.bool same,.bool true]) [rD s q .nil])∧K (.bW [.sl 0 [],.bool false,.bool false]) [rG s .nil]
 |_,_=>False
def ap5:=fN 96 Tryz.f96 35 [.tmp 2,.tmp 3,.tmp 4]
theorem aih.xt {p:Prop} (g:p:=by ((first|((with_reducible refine (?_:Pn _));exact .inl rfl)|((with_reducible refine (?_:af _ _ _ _ _));first|exact af.aW kV kV dM dM fun K hK=>hK.2.1 _ _ _ aZ aZ|exact af.aW kV kV dM dM fun K hK=>hK.2.2)|fail);(repeat' (first|exact dw|fail));first|done|fail)):p:=g
theorem afI:az.OK Tryz.prog 96 c96:=by
 intro args bx K0 h;unfold c96 at h;split at h
 ·rename_i s p e;obtain ⟨⟨h0,h1,h2,rfl⟩,-⟩:=h;refine ap5.okW (base:=1) rfl dM dM ?_;have B:=V.base (ae.cons adZ (ae.cons PW ae.nil))
  conv=>whnf
  let zA:=(au 96)
  open aih in exact dw
 ·exact h.elim
def c97:az:=fun args bx K=>match args,bx with
 |[.ptr 0 0,.agg [.int .i64 n,.int .i64 f,.bool o,.bool b,.bool fl,.int .i64 d,.bool k],.int .i64 from_],[[.str s,.int .i64 p,.nil,.int .i64 e]]=>(s.size<=900000∧0<=p∧p<=s.size∧e=0)∧(uC s p=true->K (.bool true) [rD s p .nil])∧(uC s p=false->b=false->K (.bool true) [rD s p .nil])∧(uC s p=false->p<s.size->K (.bool false) [rD s p .nil])
 |_,_=>False
def ap4:=fN 97 Tryz.f97 66 [.tmp 6]
theorem aif.xt {p:Prop} (g:p:=by ((first|((with_reducible refine (?_:Pn _));exact .inl rfl)|((with_reducible refine (?_:af _ _ _ _ _));first|exact af.aW kV kV dM dM fun K hK=>hK.2.1 aZ|exact af.aW kV kV dM dM fun K hK=>hK.2.2.2 aZ oM|exact af.aW kV kV dM dM fun K hK=>hK.2.2.1 aZ (by first|assumption|simp_all)|(refine af.bool (fun hb=>?_) (fun hb=>?_);(focus exact af.aW kV kV dM dM fun K hK=>hK.2.2.1 aZ (by first|assumption|simp_all));(focus exact af.aW kV kV dM dM fun K hK=>hK.2.2.2 aZ oM)))|fail);(repeat' (first|exact dw|fail));first|done|fail)):p:=g
theorem ajd:az.OK Tryz.prog 97 c97:=by
 intro args bx K0 h;unfold c97 at h;split at h
 ·rename_i n f o b fl d k from_ s p e;obtain ⟨⟨h0,h1,h2,rfl⟩,-⟩:=h;refine ap4.okW (base:=1) rfl dM dM ?_;have B:=V.base (ae.cons YC (ae.cons ad8 (ae.cons WB (ae.cons IJ ae.nil))))
  conv=>whnf
  let zA:=(au 97)
  open aif in exact dw
 ·exact h.elim
theorem amC {a:Cm} {L:List Cm}:AV.sl (((a::L).length:Int).toNat-Int.toNat 1) (List.take ((((a::L).length:Int).toNat-Int.toNat 1)*2) (List.drop (Int.toNat 1*2) (eU (a::L))))=cs L:=by
 have h1:((a::L).length:Int).toNat-Int.toNat 1=L.length:=by simp
 have h2:List.drop (Int.toNat 1*2) (eU (a::L))=eU L:=rfl;rw [h1,h2,←jM,List.take_length];rfl
theorem Wk.aqU {a:Cm} {L:List Cm}:Wk (AV.sl (((a::L).length:Int).toNat-Int.toNat 1) (List.take ((((a::L).length:Int).toNat-Int.toNat 1)*2) (List.drop (Int.toNat 1*2) (eU (a::L))))) (cs L):=by rw [amC];exact .refl _
def c98:az:=fun args bx K=>match args,bx with
 |[.ptr 0 0,.agg [.int .i64 n,.int .i64 f,.bool o,.bool b,.bool fl,.int .i64 d,.bool k],.sl nl ll,.bool same],[[.str s,.int .i64 p,.nil,.int .i64 e]]=>∃L:List Cm,fP nl ll L∧e=0∧(∀(x:Nd) (M:List Cm),FW x->(wt x=1∧x.lead.length=0∧M.length<=L.length)->K (.agg (bV x)) [rD s p (cs M)])
 |_,_=>False
def ap3:=fN 98 Tryz.f98 35 [.cell 8 35]
theorem aie.xt {p:Prop} (g:p:=by ((first|(refine ⟨_,_,rfl,?_⟩)|((with_reducible refine (?_:(_:Nat)<_));(simp [jM,eU]);first|done|fail)|((with_reducible refine (?_:af _ _ _ _ _));first|exact af.aW kV kV dM dM fun K hK=>(Xv (fP.mk _) hK).2 (.mk _ _ _ _ _ _ _ _ _ _ _ _) _ WT ⟨by simp [yL,iJ,Nd.lead,Nd.ag,Nd.kids],rfl,by simp⟩)|fail);(repeat' (first|exact dw|fail));first|done|fail)):p:=g
theorem ajc:az.OK Tryz.prog 98 c98:=by
 intro args bx K0 h;unfold c98 at h;split at h
 ·rename_i n f o b fl d k nl ll same s p e;obtain ⟨L,⟨rfl,rfl⟩,rfl,-⟩:=h;have B:=V.base (ae.cons Dl ae.nil);rcases L with _|⟨a,L⟩
  all_goals
   refine ap3.okW (base:=1) rfl dM dM ?_
   conv=>whnf
   let zA:=(au 98)
   open aie in exact dw
 ·exact h.elim
def opB (F:ByteArray->Int->Int×Bool) (s:ByteArray) (p:Int):Bool:=lS s p 45||lS s p 63||(F s p).2
def TF (F:ByteArray->Int->Int×Bool):az:=fun args bx K=>match args,bx with
 |[.str s,.int .i64 p],[]=>(s.size<=900000∧0<=p∧p<=s.size)∧(((F s p).2=true->p<=(F s p).1∧(F s p).1<s.size)->K (.bW [.int .i64 (F s p).1,.bool (F s p).2]) [])
 |_,_=>False
def ani (F:ByteArray->Int->Int×Bool):az:=fun args bx K=>match args,bx with
 |[.ptr 0 0],[[.str s,.int .i64 p,.nil,.int .i64 e]]=>(s.size<=900000∧0<=p∧p<=s.size∧e=0)∧(opB F s p=true->K (.bool true) [rD s p .nil])∧(opB F s p=false->K (.bool false) [rD s p .nil])
 |_,_=>False
def amf:=fN 113 Tryz.f113 38 [.tmp 2]
theorem aid.xt {p:Prop} (g:p:=by ((first|((with_reducible refine (?_:af _ _ _ _ _));first|exact af.aW kV kV dM dM fun K hK=>hK.2.1 (by unfold opB;simp only [*,Bool.true_or,Bool.or_true,Bool.false_or,Bool.or_false])|(refine af.bool (fun hb=>?_) (fun hb=>?_);(focus exact af.aW kV kV dM dM fun K hK=>hK.2.1 (by unfold opB;simp only [*,Bool.true_or,Bool.or_true,Bool.false_or,Bool.or_false]));(focus exact af.aW kV kV dM dM fun K hK=>hK.2.2 (by unfold opB;simp only [*,Bool.true_or,Bool.or_true,Bool.false_or,Bool.or_false]))))|fail);(repeat' (first|exact dw|fail));first|done|fail)):p:=g
theorem ake {F:ByteArray->Int->Int×Bool} (i119:az.OK Tryz.prog 119 (TF F)):az.OK Tryz.prog 113 (ani F):=by
 intro args bx K0 h;unfold ani at h;split at h
 ·rename_i s p e;obtain ⟨⟨h0,h1,h2,rfl⟩,-⟩:=h;refine amf.okW (base:=1) rfl dM dM ?_;have B:=V.base (ae.cons i119 (ae.cons IJ ae.nil))
  conv=>whnf
  let zA:=(au 113)
  open aid in exact dw
 ·exact h.elim
def aeK:az:=fun args bx K=>match args,bx with
 |[.str s,.int .i64 p],[]=>(s.size<=900000∧0<=p∧p<=s.size)∧(∀q:Int,(p<=q∧q<s.size)->K (.bW [.int .i64 q,.bool true]) [])∧K (.bW [.int .i64 0,.bool false]) []
 |_,_=>False
def al9:=fN 119 Tryz.f119 117 [.tmp 4,.tmp 5]
theorem aic.xt {p:Prop} (g:p:=by ((first|((with_reducible refine (?_:af _ _ _ _ _));first|exact af.aW kV kV dM dM fun K hK=>hK.2.2|exact af.aW kV kV dM dM fun K hK=>hK.2.1 _ oM)|fail);(repeat' (first|exact dw|fail));first|done|fail)):p:=g
theorem afP:az.OK Tryz.prog 119 aeK:=by
 intro args bx K0 h;unfold aeK at h;split at h
 ·rename_i s p;obtain ⟨⟨h0,h1,h2⟩,-⟩:=h;refine al9.okW (base:=0) rfl dM dM ?_;have B:=V.base (ae.cons (ad5 UQ) (ae.cons MM (ae.cons JH (ae.cons IJ (ae.cons UR (ae.cons YK (ae.cons UQ (ae.cons UO (ae.cons ad4 ae.nil)))))))))
  conv=>whnf
  let zA:=(au 119)
  open aic in exact dw
 ·exact h.elim
end V
end
end Go.Proofs.YtlmjabnkjmfcmaaGreat
