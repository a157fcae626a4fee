/- Parts of a proof; no condition. -/
import Derived.Test.YtlmjabnkjmfcmaaGreatR34
namespace Go.Proofs.YtlmjabnkjmfcmaaGreat
open Go Go.RowKit Go.PlainAid
set_option linter.unusedVariables false
set_option linter.unusedSimpArgs false
set_option linter.unusedSectionVars false
set_option maxHeartbeats 20000000
set_option linter.defProp false
section
variable [nM]
set_option maxRecDepth 100000
namespace V
open Ab
open Bk (Cm)
def c50 (m:Int):az:=fun args bx K=>match args,bx with
 |[.ptr 0 0,.int .i64 x,.bool beside,.bool flat],[[.sl nk lk,.int .i64 a,.str out,.int .i64 left,.int .i64 name]]=>∃ks:List Int,(nk=ks.length∧lk=kT ks)∧((0<=a∧a<=ks.length∧ks.length<=100∧(out.size:Int)<=150*a+40000-2000*m∧0<=name∧name<=a)∧(-1<=x∧x<=36∧x+4*left<=32∧0<=m∧m<=8∧left<=m∧2000*m-20000-10*a<=left))∧∀(a' left' name':Int) (out':ByteArray),(a<=a'∧a'<=ks.length∧(out'.size:Int)<=out.size+150*(a'-a)+12∧0<=name'∧name'<=a'∧left'<=left∧left-10*(a'-a)-2<=left')->K (.bW []) [mB ks a' out' left' name']
 |_,_=>False
def c52 (m:Int):az:=fun args bx K=>match args,bx with
 |[.ptr 0 0,.int .i64 x,.int .i64 k],[[.sl nk lk,.int .i64 a,.str out,.int .i64 left,.int .i64 name]]=>∃ks:List Int,(nk=ks.length∧lk=kT ks)∧((0<=a∧a<=ks.length∧ks.length<=100∧(out.size:Int)<=150*a+39000-2000*m∧0<=name∧name<=a)∧(0<=x∧x<=36∧x+4*left<=32∧m<=8∧left<=m∧0<=left))∧∀(a' left' name':Int) (out':ByteArray),(a<=a'∧a'<=ks.length∧(out'.size:Int)<=out.size+150*(a'-a)+60∧0<=name'∧name'<=a'∧left'<=left∧left-10*(a'-a)-2<=left')->K (.bW []) [mB ks a' out' left' name']
 |_,_=>False
def aqz:=fN 50 Tryz.f50 158 []
theorem ahB.xt {p:Prop} (g:p:=by ((first|exact iT|exact dQ|exact fU|exact ik|exact iO|exact ig|exact iM|exact fQ|exact iR|exact iQ|exact iP|exact FI|fail);(repeat' (first|exact dw|fail));first|done|fail)):p:=g
theorem YE (m:Int) (h52:az.OK Tryz.prog 52 (c52 (m-1))):az.OK Tryz.prog 50 (c50 m):=by
 intro args bx K0 h;unfold c50 at h;split at h
 ·rename_i x beside flat nk lk a out left name;obtain ⟨ks,⟨rfl,rfl⟩,⟨⟨h1,h2,h3,h4,h5,h6⟩,h7,h8,h9,h10,h11,h12,h13⟩,-⟩:=h;refine aqz.okW (base:=1) rfl o9 o9 ?_;have B:=V.base (ae.cons h52 (ae.cons yh (ae.cons IE (ae.cons IG (ae.cons afM (ae.cons aoH (ae.cons aoG (ae.cons aoF (ae.cons afK ae.nil)))))))))
  conv=>whnf
  let zA:=(au 50)
  open ahB in exact dw
 ·exact h.elim
def BLI (ks:List Int) (a:Int) (out:ByteArray) (left x k:Int) (j:Nat) (τ:aF):Prop:=∃(i n a1 lf nm:Int) (o:ByteArray),(0<=i∧i<=n∧n<=3)∧(a<=a1∧a1<=ks.length)∧(0<=nm∧nm<=a1)∧(lf<=left∧left-10*(a1-a)-2+2*(n-i)<=lf)∧(o.size:Int)+60*(n-i)<=out.size+150*(a1-a)+60∧j=(n-i).toNat∧τ=⟨[(7,.int .i64 i),(6,.int .i64 n),(2,.int .i64 k),(1,.int .i64 x),(0,.ptr 0 0)],[mB ks a1 o lf nm]⟩
def aqx:=fN 52 Tryz.f52 106 []
theorem ahA.xt {p:Prop} (g:p:=by ((first|exact iT|exact dQ|exact fU|exact ik|exact iO|exact ig|exact iM|exact fQ|exact iR|exact iQ|exact iP|((with_reducible refine (?_:WP _ _ _ (.loop _) _ _));(apply WP.loop (BLI ks a out left x k));(case h0=>exact ⟨0,_,_,_,_,_,⟨oM,oM,oM⟩,⟨oM,oM⟩,⟨oM,oM⟩,⟨oM,oM⟩,(by (try simp only [lL,jY,Es,Bk.aT,ByteArray.size_extract] at*);omega),rfl,rfl⟩);(case' h=>(rintro j τ ⟨i,n,a1,lf,nm,o,⟨g1,g2,g3⟩,⟨g4,g5⟩,⟨g6,g7⟩,⟨g8,g9⟩,g10,rfl,rfl⟩)))|((with_reducible refine (?_:∃(j:Nat) (τ':aF),j<_∧Rx 1 _ τ'∧_));(refine ⟨_,_,?_,Rx.refl,i+1,n,_,_,_,_,⟨oM,oM,oM⟩,⟨oM,oM⟩,⟨oM,oM⟩,⟨oM,oM⟩,(by (try simp only [lL,jY,Es,Bk.aT,ByteArray.size_extract] at*);omega),rfl,rfl⟩);omega)|exact FI|fail);(repeat' (first|exact dw|fail));first|done|fail)):p:=g
theorem adV (m:Int) (hm:0<=m) (h50:az.OK Tryz.prog 50 (c50 m)):az.OK Tryz.prog 52 (c52 m):=by
 intro args bx K0 h;unfold c52 at h;split at h
 ·rename_i x k nk lk a out left name;obtain ⟨ks,⟨rfl,rfl⟩,⟨⟨h1,h2,h3,h4,h5,h6⟩,h7,h8,h9,h10,h11,h12⟩,-⟩:=h;refine aqx.okW (base:=1) rfl o9 o9 ?_;have B:=V.base (ae.cons h50 (ae.cons yh (ae.cons IE (ae.cons IG (ae.cons afM (ae.cons WA (ae.cons afK ae.nil)))))))
  conv=>whnf
  let zA:=(au 52)
  open ahA in exact dw
 ·exact h.elim
theorem adW:az.OK Tryz.prog 52 (c52 (0-1)):=fun args bx K0 h=>by
 unfold c52 at h;split at h
 ·obtain ⟨ks,-,⟨-,h7,h8,h9,h10,h11,h12⟩,-⟩:=h;omega
 ·exact h.elim
theorem afG:∀n:Nat,az.OK Tryz.prog 50 (c50 n)∧az.OK Tryz.prog 52 (c52 n)
 |0=>⟨YE 0 adW,adV 0 (Int.le_refl _) (YE 0 adW)⟩
 |n+1=>by have h1:az.OK Tryz.prog 50 (c50 ((n+1:Nat):Int)):=YE _ (by rw [show ((n+1:Nat):Int)-1=(n:Int) by omega];exact (afG n).2);exact ⟨h1,adV _ oM h1⟩
theorem aoQ:az.OK Tryz.prog 50 (c50 8):=(afG 8).1
theorem aoP:az.OK Tryz.prog 52 (c52 8):=(afG 8).2
end V
end
end Go.Proofs.YtlmjabnkjmfcmaaGreat
