/- Parts of a proof; no condition. -/
import Derived.Test.YtlmjabnkjmfcmaaGreatR29
namespace Go.Proofs.YtlmjabnkjmfcmaaGreat
open Go Go.RowKit Go.PlainAid
set_option linter.unusedVariables false
set_option linter.unusedSimpArgs false
set_option linter.unusedSectionVars false
set_option maxHeartbeats 20000000
set_option linter.defProp false
section
variable [nM]
set_option maxRecDepth 100000
namespace V
open Ab
open Bk (Cm)
def ade:az:=fun args bx K=>match args,bx with
 |[.ptr 0 0],[[.sl nk lk,.int .i64 a,.str out,.int .i64 left,.int .i64 name]]=>∃ks:List Int,(nk=ks.length∧lk=kT ks)∧(0<=a∧a<=ks.length∧ks.length<=100∧(out.size:Int)<=500000∧0<=name∧name<=a)∧∀(a' name':Int) (out':ByteArray),(a<=a'∧a'<=ks.length∧(out'.size:Int)<=out.size+150*(a'-a)∧0<=name'∧name'<=a')->K (.bW []) [mB ks a' out' left name']
 |_,_=>False
def aml:=fN 103 Tryz.f103 27 []
theorem ahJ.xt {p:Prop} (g:p:=by ((first|exact iT|exact dQ|exact fU|exact ik|exact iO|exact ig|exact iM|exact fQ|exact iR|exact iQ|exact iP|exact FD|fail);(repeat' (first|exact dw|fail));first|done|fail)):p:=g
theorem akj:az.OK Tryz.prog 103 ade:=by
 intro args bx K0 h;unfold ade at h;split at h
 ·rename_i nk lk a out left name;obtain ⟨ks,⟨rfl,rfl⟩,⟨h1,h2,h3,h4,h5,h6⟩,-⟩:=h;refine aml.okW (base:=1) rfl o9 o9 ?_;have B:=V.base (ae.cons yh (ae.cons IG ae.nil))
  conv=>whnf
  let zA:=(au 103)
  open ahJ in exact dw
 ·exact h.elim
def aqf:=fN 80 Tryz.f80 62 []
theorem ahI.xt {p:Prop} (g:p:=by ((first|exact iT|exact dQ|exact fU|exact ik|exact iO|exact ig|exact iM|exact fQ|exact iR|exact iQ|exact iP|exact FD|fail);(repeat' (first|exact dw|fail));first|done|fail)):p:=g
theorem aoH:az.OK Tryz.prog 80 ade:=by
 intro args bx K0 h;unfold ade at h;split at h
 ·rename_i nk lk a out left name;obtain ⟨ks,⟨rfl,rfl⟩,⟨h1,h2,h3,h4,h5,h6⟩,-⟩:=h;refine aqf.okW (base:=1) rfl o9 o9 ?_;have B:=V.base (ae.cons yh (ae.cons IG ae.nil))
  conv=>whnf
  let zA:=(au 80)
  open ahI in exact dw
 ·exact h.elim
def c83:az:=fun args bx K=>match args,bx with
 |[.ptr 0 0,.bool fl],[[.sl nk lk,.int .i64 a,.str out,.int .i64 left,.int .i64 name]]=>∃ks:List Int,(nk=ks.length∧lk=kT ks)∧(0<=a∧a<=ks.length∧ks.length<=100∧(out.size:Int)<=500000∧0<=name∧name<=a)∧∀(a':Int) (out':ByteArray),(a<=a'∧a'<=ks.length∧(out'.size:Int)<=out.size+150*(a'-a)+10)->K (.bW []) [mB ks a' out' left name]
 |_,_=>False
def aqc:=fN 83 Tryz.f83 67 []
theorem ahH.xt {p:Prop} (g:p:=by ((first|exact iT|exact dQ|exact fU|exact ik|exact iO|exact ig|exact iM|exact fQ|exact iR|exact iQ|exact iP|exact rE|fail);(repeat' (first|exact dw|fail));first|done|fail)):p:=g
theorem afK:az.OK Tryz.prog 83 c83:=by
 intro args bx K0 h;unfold c83 at h;split at h
 ·rename_i fl nk lk a out left name;obtain ⟨ks,⟨rfl,rfl⟩,⟨h1,h2,h3,h4,h5,h6⟩,-⟩:=h;refine aqc.okW (base:=1) rfl o9 o9 ?_;have B:=V.base (ae.cons yh (ae.cons IG (ae.cons aki ae.nil)))
  conv=>whnf
  let zA:=(au 83)
  open ahH in exact dw
 ·exact h.elim
def anq:az:=fun args bx K=>match args,bx with
 |[.ptr 0 0,.int .i64 x],[[.sl nk lk,.int .i64 a,.str out,.int .i64 left,.int .i64 name]]=>∃ks:List Int,(nk=ks.length∧lk=kT ks)∧((0<=a∧a<=ks.length∧ks.length<=100∧(out.size:Int)<=500000∧0<=name∧name<=a)∧(0<=x∧x<=40))∧∀(a':Int) (out':ByteArray),(a<=a'∧a'<=ks.length∧(out'.size:Int)<=out.size+150*(a'-a))->K (.bW []) [mB ks a' out' left name]
 |_,_=>False
def amm:=fN 102 Tryz.f102 42 []
theorem ahG.xt {p:Prop} (g:p:=by ((first|exact iT|exact dQ|exact fU|exact ik|exact iO|exact ig|exact iM|exact fQ|exact iR|exact iQ|exact iP|exact rE|fail);(repeat' (first|exact dw|fail));first|done|fail)):p:=g
theorem akk:az.OK Tryz.prog 102 anq:=by
 intro args bx K0 h;unfold anq at h;split at h
 ·rename_i x nk lk a out left name;obtain ⟨ks,⟨rfl,rfl⟩,⟨⟨h1,h2,h3,h4,h5,h6⟩,h7,h8⟩,-⟩:=h;refine amm.okW (base:=1) rfl o9 o9 ?_;have B:=V.base (ae.cons yh (ae.cons IE (ae.cons IG (ae.cons WA ae.nil))))
  conv=>whnf
  let zA:=(au 102)
  open ahG in exact dw
 ·exact h.elim
def c48:az:=fun args bx K=>match args,bx with
 |[.ptr 0 0,.int .i64 x],[[.sl nk lk,.int .i64 a,.str out,.int .i64 left,.int .i64 name]]=>∃ks:List Int,(nk=ks.length∧lk=kT ks)∧((0<=a∧a<=ks.length∧ks.length<=100∧(out.size:Int)<=500000∧0<=name∧name<=a)∧(-1<=x∧x<=100))∧∀(a':Int) (out':ByteArray),(a<=a'∧a'<=ks.length∧(out'.size:Int)<=out.size+150*(a'-a)+1)->K (.bW []) [mB ks a' out' left name]
 |_,_=>False
def aqA:=fN 48 Tryz.f48 46 []
theorem ahF.xt {p:Prop} (g:p:=by ((first|exact iT|exact dQ|exact fU|exact ik|exact iO|exact ig|exact iM|exact fQ|exact iR|exact iQ|exact iP|exact rE|fail);(repeat' (first|exact dw|fail));first|done|fail)):p:=g
theorem afM:az.OK Tryz.prog 48 c48:=by
 intro args bx K0 h;unfold c48 at h;split at h
 ·rename_i x nk lk a out left name;obtain ⟨ks,⟨rfl,rfl⟩,⟨⟨h1,h2,h3,h4,h5,h6⟩,h7,h8⟩,-⟩:=h;refine aqA.okW (base:=1) rfl o9 o9 ?_;have B:=V.base (ae.cons yh (ae.cons IE (ae.cons IG (ae.cons WA (ae.cons aji ae.nil)))))
  conv=>whnf
  let zA:=(au 48)
  open ahF in exact dw
 ·exact h.elim
end V
end
end Go.Proofs.YtlmjabnkjmfcmaaGreat
