/- Parts of a proof; no condition. -/
import Derived.Test.YtlmjabnkjmfcmaaGreatR21
import Derived.Test.YtlmjabnkjmfcmaaGreatR23
namespace Go.Proofs.YtlmjabnkjmfcmaaGreat
open Go Go.RowKit Go.PlainAid
set_option linter.unusedVariables false
set_option linter.unusedSimpArgs false
set_option linter.unusedSectionVars false
set_option maxHeartbeats 20000000
set_option linter.defProp false
section
variable [nM]
set_option maxRecDepth 100000
namespace V
open Ab
open Bk (Cm)
structure GrB (F:ByteArray->Int->Int×Bool) (m:Nat):Prop where
 apo:az.OK Tryz.prog 114 (aaz F m)
 k99:az.OK Tryz.prog 99 (c99 m)
 k68:az.OK Tryz.prog 68 (c68 m)
 apl:az.OK Tryz.prog 131 (aav m)
 apn:az.OK Tryz.prog 120 (aay m)
 apm:az.OK Tryz.prog 121 (aax F m)
theorem GrB.zero {F:ByteArray->Int->Int×Bool}:GrB F 0:=by
 constructor
 ·intro args bx K0 h;unfold aaz at h;split at h
  ·obtain ⟨⟨-,-,-,-,-,h,-,h'⟩,-⟩:=h;omega
  ·exact h.elim
 ·intro args bx K0 h;unfold c99 at h;split at h
  ·obtain ⟨⟨-,-,-,-,-,h,-,-,h'⟩,-⟩:=h;omega
  ·exact h.elim
 ·intro args bx K0 h;unfold c68 at h;split at h
  ·obtain ⟨⟨-,-,-,-,-,h,-,h'⟩,-⟩:=h;omega
  ·exact h.elim
 ·intro args bx K0 h;unfold aav at h;split at h
  ·obtain ⟨⟨-,-,-,-,-,h,-,h'⟩,-⟩:=h;omega
  ·exact h.elim
 ·intro args bx K0 h;unfold aay at h;split at h
  ·obtain ⟨⟨-,-,-,-,-,h,h'⟩,-⟩:=h;omega
  ·exact h.elim
 ·intro args bx K0 h;unfold aax at h;split at h
  ·obtain ⟨⟨-,-,-,-,-,h,-,h'⟩,-⟩:=h;omega
  ·exact h.elim
theorem grB {F:ByteArray->Int->Int×Bool} (i119:az.OK Tryz.prog 119 (TF F)) (i135:az.OK Tryz.prog 135 JP):∀m,GrB F m
 |0=>GrB.zero
 |m+1=>by have g:=grB i119 i135 m;exact ⟨akd g.apn g.apm,aoA i119 i135 g.apo,aoJ g.k99,aj2 g.k68,aj8 g.k68,aj7 i119 i135 g.k68 g.apl⟩
theorem af7 (s:ByteArray) (p:Int) (h:s.size<=900000∧0<=p∧p<=s.size):∃qb:Int×Bool,aV Tryz.prog 119 [.str s,.int .i64 p] [] (.bW [.int .i64 qb.1,.bool qb.2]) []∧(qb.2=true->p<=qb.1∧qb.1<s.size):=by obtain ⟨r,b,h1,-,-,h4⟩:=afP [.str s,.int .i64 p] [] (fun _ _=>True) ⟨h,fun _ _=>trivial,trivial⟩;obtain ⟨rfl,qb,rfl,h5⟩:=h4 (fun v bx=>bx=[]∧∃qb:Int×Bool,v=.bW [.int .i64 qb.1,.bool qb.2]∧(qb.2=true->p<=qb.1∧qb.1<s.size)) ⟨h,fun q hq=>⟨rfl,(q,true),rfl,fun _=>hq⟩,⟨rfl,(0,false),rfl,fun h=>by cases h⟩⟩;exact ⟨qb,h1,h5⟩
theorem ach:∃F:ByteArray->Int->Int×Bool,az.OK Tryz.prog 119 (TF F):=by
 have hh:∀(s:ByteArray) (p:Int),∃qb:Int×Bool,(s.size<=900000∧0<=p∧p<=s.size)->aV Tryz.prog 119 [.str s,.int .i64 p] [] (.bW [.int .i64 qb.1,.bool qb.2]) []∧(qb.2=true->p<=qb.1∧qb.1<s.size):=by
  intro s p;by_cases h:s.size<=900000∧0<=p∧p<=s.size
  ·obtain ⟨qb,h1⟩:=af7 s p h;exact ⟨qb,fun _=>h1⟩
  ·exact ⟨(0,false),fun h'=>absurd h' h⟩
 refine ⟨fun s p=>Classical.choose (hh s p),fun args bx K0 h=>?_⟩;unfold TF at h;split at h
 ·rename_i s p;obtain ⟨h1,h2⟩:=Classical.choose_spec (hh s p) h.1;exact ⟨_,[],h1,rfl,rfl,fun K hK=>hK.2 h2⟩
 ·exact h.elim
theorem ab3 (i135:az.OK Tryz.prog 135 JP):az.OK Tryz.prog 68 (c68 453):=by obtain ⟨F,hF⟩:=ach;exact (grB hF i135 453).k68
structure aeU (s:ByteArray) (a q:Int):Prop where
 out:∀(l:List Cm) (sm:Bool) (k:Nat),Bk.sK s a.toNat 0 false=some (l,sm,k)->uC s k=false->a<q
def c37:az:=fun args bx K=>match args,bx with
 |[.str s,.int .i64 a,.bool be],[]=>(s.size<=20000∧0<=a∧a<=s.size)∧(∀(x:Nd) (q:Int) (L:List Cm),BW x->(a<=q∧q<=s.size∧wt x+L.length<=160100*(q-a)+1)->(be=false->aeU s a q)->K (.bW [.agg (bV x),cs L,.int .i64 q,.int .i64 0]) [])∧K (.bW [.agg (bV Ho),.nil,.ql .i64,.nz .i64]) []
 |_,_=>False
def aqE:=fN 37 Tryz.f37 65 [.cell 6 35,.tmp 7,.tmp 8,.tmp 9]
theorem aoV (i135:az.OK Tryz.prog 135 JP):az.OK Tryz.prog 37 c37:=by
 intro args bx K0 h;unfold c37 at h;split at h
 ·rename_i s a be;obtain ⟨⟨h0,h1,h2⟩,-⟩:=h;have hs:s.size<=900000:=oM;have B:=V.base (ae.cons (ab3 i135) (ae.cons YC (ae.cons PW ae.nil)));refine aqE.okW (base:=0) rfl dM dM ?_
  conv=>whnf
  repeat' (first
  |with_reducible refine WP.seq ?_
  |(with_reducible first|refine Go.mk ?_|refine WP.qy B (au 37) ?_|refine WP.draw B (au 37) ?_|refine WP.cond ?_|refine WP.exit ?_|refine WP.skip ?_|refine WP.ret ?_);conv=>whnf
  |with_reducible refine WP.block ?_
  |with_reducible assumption
  |((with_reducible refine (?_:Pn _));first|exact .inl rfl|exact .inr ⟨_,rfl⟩)
  |(with_reducible refine (?_:af _ _ _ _ _));first|exact af.aW kV kV dM dM fun K hK=>hK.2.2
  |with_reducible refine And.intro ?_ ?_
  |exact cL
  |(with_reducible intro h);first|(cases h;done)|(try simp only [lG,reduceCtorEq] at h);first|done|(exfalso;omega)|replace h:=h trivial aZ|replace h:=h aZ|skip
  |fail)
  all_goals
   have e:max (0:Int) (min a s.size)=a:=oM;simp only [e] at*;exact af.aW kV kV dM dM fun K hK=>hK.2.1 _ _ _ aZ aZ (fun hb=>⟨(by assumption:be=false->∀(l:List Cm) (sm:Bool) (k:Nat),Bk.sK s a.toNat 0 false=some (l,sm,k)->uC s k=false->a<_) hb⟩)
 ·exact h.elim
end V
end
end Go.Proofs.YtlmjabnkjmfcmaaGreat
