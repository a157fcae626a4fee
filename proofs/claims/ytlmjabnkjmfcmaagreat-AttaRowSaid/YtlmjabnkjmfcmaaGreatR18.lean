/- Parts of a proof; no condition. -/
import Derived.Test.YtlmjabnkjmfcmaaGreatR15
import Derived.Test.YtlmjabnkjmfcmaaGreatR16
import Derived.Test.YtlmjabnkjmfcmaaGreatR17
namespace Go.Proofs.YtlmjabnkjmfcmaaGreat
open Go Go.RowKit Go.PlainAid
set_option linter.unusedVariables false
set_option linter.unusedSimpArgs false
set_option linter.unusedSectionVars false
set_option maxHeartbeats 20000000
set_option linter.defProp false
section
variable [nM]
set_option maxRecDepth 100000
namespace V
open Ab
open Bk (Cm)
structure Grp (m:Nat):Prop where
 akC:az.OK Tryz.prog 141 (TE m)
 aph:az.OK Tryz.prog 169 (aas m)
 api:az.OK Tryz.prog 168 (aat m)
 aci:az.OK Tryz.prog 165 (QF m)
 akz:az.OK Tryz.prog 167 (Xa m)
 akB:az.OK Tryz.prog 161 (Xc m)
 akA:az.OK Tryz.prog 162 (Xb m)
 apk:az.OK Tryz.prog 154 (TC m)
 apj:az.OK Tryz.prog 155 (TB m)
theorem Grp.zero:Grp 0:=by
 constructor
 ·intro args bx K0 h;unfold TE at h;split at h
  ·obtain ⟨⟨-,-,-,-,-,h,h'⟩,-⟩:=h;omega
  ·exact h.elim
 ·intro args bx K0 h;unfold aas at h;split at h
  ·obtain ⟨⟨-,-,-,-,-,h,h'⟩,-⟩:=h;omega
  ·exact h.elim
 ·intro args bx K0 h;unfold aat at h;split at h
  ·obtain ⟨⟨-,-,-,-,-,h,h'⟩,-⟩:=h;omega
  ·exact h.elim
 ·intro args bx K0 h;unfold QF at h;split at h
  ·obtain ⟨⟨-,-,-,-,-,h,h'⟩,-⟩:=h;omega
  ·exact h.elim
 ·intro args bx K0 h;unfold Xa at h;split at h
  ·obtain ⟨L,-,⟨-,-,-,-,-,h,-,h'⟩,-⟩:=h;omega
  ·exact h.elim
 ·intro args bx K0 h;unfold Xc at h;split at h
  ·obtain ⟨⟨-,-,-,-,-,h,h'⟩,-⟩:=h;omega
  ·exact h.elim
 ·intro args bx K0 h;unfold Xb at h;split at h
  ·obtain ⟨-,⟨-,-,-,-,-,h,h'⟩,-⟩:=h;omega
  ·exact h.elim
 ·intro args bx K0 h;unfold TC at h;split at h
  ·obtain ⟨L,-,⟨-,-,-,-,-,h,-,h'⟩,-⟩:=h;omega
  ·exact h.elim
 ·intro args bx K0 h;unfold TB at h;split at h
  ·obtain ⟨L,-,⟨-,-,-,-,-,h,-,h'⟩,-⟩:=h;omega
  ·exact h.elim
theorem grp (i127:az.OK Tryz.prog 127 aaw):∀m,Grp m
 |0=>Grp.zero
 |m+1=>by have g:=grp i127 m;exact ⟨ajT g.apk g.apj,ajC i127 g.akC,ajD g.aph,ajG g.api,ajE g.aci,ajJ g.aci,ajI g.akz,ajN g.akB g.akA g.aci g.akz,ajM g.akB g.akA g.aci⟩
def alZ:=fN 128 Tryz.f128 65 [.cell 8 35,.tmp 9,.tmp 10]
def am7:az:=fun args bx K=>match args,bx with
 |[.str s,.int .i64 a,.int .i64 n,.int .i64 deep],[]=>(s.size<=900000∧0<=a∧a<=s.size)∧(∀(x:Nd) (q:Int),FW x->x.lead.length=0->(a<q∧q<=s.size∧wt x+4<=8*(q-a))->K (.bW [.agg (bV x),.int .i64 q,.int .i64 0]) [])∧K (.bW [.agg (bV Ho),.ql .i64,.nz .i64]) []
 |_,_=>False
theorem aii.xt {p:Prop} (g:p:=by ((first|((with_reducible refine (?_:af _ _ _ _ _));first|exact af.aW kV kV iD iD fun K hK=>hK.2.2|exact af.aW kV kV iD iD fun K hK=>hK.2.1 _ _ aZ aZ aZ)|fail);(repeat' (first|exact dw|fail));first|done|fail)):p:=g
theorem ad5 (i127:az.OK Tryz.prog 127 aaw):az.OK Tryz.prog 128 am7:=by
 have i141:=(grp i127 451).akC;intro args bx K0 h;unfold am7 at h;split at h
 ·rename_i s a n deep;obtain ⟨⟨h0,h1,h2⟩,-⟩:=h;refine alZ.okW (base:=0) rfl iD iD ?_;have B:=V.base (ae.cons i141 ae.nil)
  conv=>whnf
  let zA:=(au 128)
  open aii in exact dw
 ·exact h.elim
end V
end
end Go.Proofs.YtlmjabnkjmfcmaaGreat
