/- Own texts, joined and shortened by a program; no condition. -/
import Derived.Test.YtlmjabnkjmfcmaaGreatK17
namespace Go.Proofs.YtlmjabnkjmfcmaaGreat
open Go Go.RowKit Go.PlainAid
set_option linter.unusedVariables false
set_option linter.unusedSimpArgs false
set_option maxHeartbeats 20000000
set_option linter.defProp false
section
set_option maxRecDepth 100000
namespace V
open Ab
open Bk (Cm)
def c50 (m:Int):aC:=fun args bx K=>match args,bx with
 |[.ptr 0 0,.int .i64 x,.bool beside,.bool flat],[[.sl nk lk,.int .i64 a,.str out,.int .i64 left,.int .i64 name]]=>∃ks:List Int,(nk=ks.length∧lk=jh ks)∧((0<=a∧a<=ks.length∧ks.length<=100∧(out.size:Int)<=150*a+40000-2000*m∧0<=name∧name<=a)∧(-1<=x∧x<=36∧x+4*left<=32∧0<=m∧m<=8∧left<=m∧2000*m-20000-10*a<=left))∧∀(a' left' name':Int) (out':ByteArray),(a<=a'∧a'<=ks.length∧(out'.size:Int)<=out.size+150*(a'-a)+12∧0<=name'∧name'<=a'∧left'<=left∧left-10*(a'-a)-2<=left')->K (.bX []) [mB ks a' out' left' name']
 |_,_=>False
def c52 (m:Int):aC:=fun args bx K=>match args,bx with
 |[.ptr 0 0,.int .i64 x,.int .i64 k],[[.sl nk lk,.int .i64 a,.str out,.int .i64 left,.int .i64 name]]=>∃ks:List Int,(nk=ks.length∧lk=jh ks)∧((0<=a∧a<=ks.length∧ks.length<=100∧(out.size:Int)<=150*a+39000-2000*m∧0<=name∧name<=a)∧(0<=x∧x<=36∧x+4*left<=32∧m<=8∧left<=m∧0<=left))∧∀(a' left' name':Int) (out':ByteArray),(a<=a'∧a'<=ks.length∧(out'.size:Int)<=out.size+150*(a'-a)+60∧0<=name'∧name'<=a'∧left'<=left∧left-10*(a'-a)-2<=left')->K (.bX []) [mB ks a' out' left' name']
 |_,_=>False
def alT:=fN 50 Tryz.f50 158 []
theorem ac7.xt {p:Prop} (g:p:=by ((first|exact uB|exact rX|exact mf|exact rZ|exact uD|exact r9|exact uE|exact qP|exact uz|exact uA|exact uC|exact Yw|fail);(repeat' (first|exact bN|fail));first|done|fail)):p:=g
theorem RZ (m:Int) (h52:aC.OK Tryz.prog 52 (c52 (m-1))):aC.OK Tryz.prog 50 (c50 m):=by
 intro args bx K0 h;unfold c50 at h;split at h
 ·rename_i x beside flat nk lk a out left name;obtain ⟨ks,⟨rfl,rfl⟩,⟨⟨h1,h2,h3,h4,h5,h6⟩,h7,h8,h9,h10,h11,h12,LX⟩,-⟩:=h;refine alT.okW (base:=1) rfl mV mV ?_;have B:=V.base (af.cons h52 (af.cons uF (af.cons CG (af.cons CK (af.cons aaM (af.cons aka (af.cons aj9 (af.cons aj8 (af.cons aaK af.nil)))))))))
  conv=>whnf
  let zA:=(aH 50)
  open ac7 in exact bN
 ·exact h.elim
def BLI (ks:List Int) (a:Int) (out:ByteArray) (left x k:Int) (j:Nat) (τ:aJ):Prop:=∃(i n a1 lf nm:Int) (o:ByteArray),(0<=i∧i<=n∧n<=3)∧(a<=a1∧a1<=ks.length)∧(0<=nm∧nm<=a1)∧(lf<=left∧left-10*(a1-a)-2+2*(n-i)<=lf)∧(o.size:Int)+60*(n-i)<=out.size+150*(a1-a)+60∧j=(n-i).toNat∧τ=⟨[(7,.int .i64 i),(6,.int .i64 n),(2,.int .i64 k),(1,.int .i64 x),(0,.ptr 0 0)],[mB ks a1 o lf nm]⟩
def alR:=fN 52 Tryz.f52 106 []
theorem ac6.xt {p:Prop} (g:p:=by ((first|exact uB|exact rX|exact mf|exact rZ|exact uD|exact r9|exact uE|exact qP|exact uz|exact uA|exact uC|((with_reducible refine (?_:WP _ _ _ (.loop _) _ _));(apply WP.loop (BLI ks a out left x k));(case h0=>exact ⟨0,_,_,_,_,_,⟨oM,oM,oM⟩,⟨oM,oM⟩,⟨oM,oM⟩,⟨oM,oM⟩,(by (try simp only [lL,jP,Ec,Bk.bA,ByteArray.size_extract] at*);omega),rfl,rfl⟩);(case' h=>(rintro j τ ⟨i,n,a1,lf,nm,o,⟨g1,g2,g3⟩,⟨g4,g5⟩,⟨g6,g7⟩,⟨g8,g9⟩,g10,rfl,rfl⟩)))|((with_reducible refine (?_:∃(j:Nat) (τ':aJ),j<_∧Rx 1 _ τ'∧_));(refine ⟨_,_,?_,Rx.refl,i+1,n,_,_,_,_,⟨oM,oM,oM⟩,⟨oM,oM⟩,⟨oM,oM⟩,⟨oM,oM⟩,(by (try simp only [lL,jP,Ec,Bk.bA,ByteArray.size_extract] at*);omega),rfl,rfl⟩);omega)|exact Yw|fail);(repeat' (first|exact bN|fail));first|done|fail)):p:=g
theorem YK (m:Int) (hm:0<=m) (h50:aC.OK Tryz.prog 50 (c50 m)):aC.OK Tryz.prog 52 (c52 m):=by
 intro args bx K0 h;unfold c52 at h;split at h
 ·rename_i x k nk lk a out left name;obtain ⟨ks,⟨rfl,rfl⟩,⟨⟨h1,h2,h3,h4,h5,h6⟩,h7,h8,h9,h10,h11,h12⟩,-⟩:=h;refine alR.okW (base:=1) rfl mV mV ?_;have B:=V.base (af.cons h50 (af.cons uF (af.cons CG (af.cons CK (af.cons aaM (af.cons O8 (af.cons aaK af.nil)))))))
  conv=>whnf
  let zA:=(aH 52)
  open ac6 in exact bN
 ·exact h.elim
theorem YL:aC.OK Tryz.prog 52 (c52 (0-1)):=fun args bx K0 h=>by
 unfold c52 at h;split at h
 ·obtain ⟨ks,-,⟨-,h7,h8,h9,h10,h11,h12⟩,-⟩:=h;omega
 ·exact h.elim
theorem aaI:∀n:Nat,aC.OK Tryz.prog 50 (c50 n)∧aC.OK Tryz.prog 52 (c52 n)
 |0=>⟨RZ 0 YL,YK 0 (Int.le_refl _) (RZ 0 YL)⟩
 |n+1=>by have h1:aC.OK Tryz.prog 50 (c50 ((n+1:Nat):Int)):=RZ _ (by rw [show ((n+1:Nat):Int)-1=(n:Int) by omega];exact (aaI n).2);exact ⟨h1,YK _ oM h1⟩
theorem akh:aC.OK Tryz.prog 50 (c50 8):=(aaI 8).1
theorem akg:aC.OK Tryz.prog 52 (c52 8):=(aaI 8).2
end V
end
end Go.Proofs.YtlmjabnkjmfcmaaGreat
