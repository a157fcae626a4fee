/- Own texts, joined and shortened by a program; no condition. -/
import Derived.Test.YtlmjabnkjmfcmaaGreatK16
namespace Go.Proofs.YtlmjabnkjmfcmaaGreat
open Go Go.RowKit Go.PlainAid
set_option linter.unusedVariables false
set_option linter.unusedSimpArgs false
set_option maxHeartbeats 20000000
set_option linter.defProp false
section
set_option maxRecDepth 100000
namespace V
open Ab
open Bk (Cm)
def Qa:Nat->List AV->Prop
 |_,[]=>True
 |k,.str s::l=>(s.size:Int)<=3+60*k∧Qa (k+1) l
 |_,_=>False
theorem Qa.get:∀{l:List AV} {k j:Nat},Qa k l->j<l.length->∃t r,List.drop j l=.str t::r∧(t.size:Int)<=3+60*(k+j:Nat)
 |[],k,j,_,hj=>by simp at hj
 |x::l,k,j,h,hj=>by
  cases x with
  |str s=>
   cases j with
   |zero=>exact ⟨s,l,rfl,h.1⟩
   |succ j=>
    obtain ⟨t,r,h1,h2⟩:=Qa.get (j:=j) h.2 (by simpa using hj);exact ⟨t,r,h1,by rw [show k+(j+1)=k+1+j by omega];exact h2⟩
  |_=>exact absurd h id
theorem aab {l:List AV} {i:Int} {Q:AV->List AV->Prop} (h0:0<=i) (hj:i<l.length) (hl:Qa 0 l) (hQ:∀(t:ByteArray) r,(t.size:Int)<=3+60*i->Q (.str t) r):∃v r,List.drop (i.toNat*1) l=v::r∧Q v r:=by obtain ⟨t,r,h1,h2⟩:=Qa.get (j:=i.toNat) hl oM;exact ⟨_,_,by rw [Nat.mul_one];exact h1,hQ _ _ oM⟩
def c81:aC:=fun args bx K=>match args,bx with
 |[.ptr 0 0,.int .i64 x],[[.sl nk lk,.int .i64 a,.str out,.int .i64 left,.int .i64 name]]=>∃ks:List Int,(nk=ks.length∧lk=jh ks)∧((0<=a∧a<=ks.length∧ks.length<=100∧(out.size:Int)<=400000∧0<=name∧name<=a)∧(-1<=x∧x<=40))∧∀(a':Int) (out':ByteArray),(a<=a'∧a'<=ks.length∧(out'.size:Int)<=out.size+150*(a'-a)+11)->K (.bX []) [mB ks a' out' left name]
 |_,_=>False
def LNI (ks:List Int) (a:Int) (out:ByteArray) (left name:Int) (j:Nat) (τ:aJ):Prop:=∃(i n y a1:Int) (o:ByteArray),(0<=i∧i<=n∧n<=3)∧(0<=y∧y<=42)∧(a<=a1∧a1<=ks.length)∧(o.size:Int)+50*(n-i)<=out.size+150*(a1-a)+11∧j=(n-i).toNat∧τ=⟨[(6,.int .i64 i),(5,.int .i64 n),(4,.int .i64 y),(0,.ptr 0 0)],[mB ks a1 o left name]⟩
def alC:=fN 81 Tryz.f81 63 []
theorem adb.xt {p:Prop} (g:p:=by ((first|exact uB|exact rX|exact mf|exact rZ|exact uD|exact r9|exact uE|exact qP|exact uz|exact uA|exact uC|((with_reducible refine (?_:WP _ _ _ (.loop _) _ _));(apply WP.loop (LNI ks a out left name));(case h0=>exact ⟨0,_,_,_,_,⟨oM,oM,oM⟩,⟨oM,oM⟩,⟨oM,oM⟩,(by (try simp only [lL,jP,Ec,Bk.bA,ByteArray.size_extract] at*);omega),rfl,rfl⟩);(case' h=>(rintro j τ ⟨i,n,y,a1,o,⟨g1,g2,g3⟩,⟨g4,g5⟩,⟨g6,g7⟩,g8,rfl,rfl⟩)))|((with_reducible refine (?_:∃(j:Nat) (τ':aJ),j<_∧Rx 1 _ τ'∧_));(refine ⟨_,_,?_,Rx.refl,i+1,n,y,_,_,⟨oM,oM,oM⟩,⟨oM,oM⟩,⟨oM,oM⟩,(by (try simp only [lL,jP,Ec,Bk.bA,ByteArray.size_extract] at*);omega),rfl,rfl⟩);omega)|exact IP|fail);(repeat' (first|exact bN|fail));first|done|fail)):p:=g
theorem aj9:aC.OK Tryz.prog 81 c81:=by
 intro args bx K0 h;unfold c81 at h;split at h
 ·rename_i x nk lk a out left name;obtain ⟨ks,⟨rfl,rfl⟩,⟨⟨h1,h2,h3,h4,h5,h6⟩,h7,h8⟩,-⟩:=h;refine alC.okW (base:=1) rfl mV mV ?_;have B:=V.base (af.cons uF (af.cons CG (af.cons CK (af.cons O8 (af.cons aeQ af.nil)))))
  conv=>whnf
  let zA:=(aH 81)
  open adb in exact bN
 ·exact h.elim
def ait:aC:=fun args bx K=>match args,bx with
 |[.int .i64 n],[]=>(0<=n∧n<=9)∧∀t:ByteArray,t.size<=1->K (.str t) []
 |_,_=>False
def ahg:=fN 49 Tryz.f49 18 [.tmp 2]
theorem ada.xt {p:Prop} (g:p:=by ((first|exact uB|exact rX|exact mf|exact rZ|exact uD|exact r9|exact uE|exact qP|exact uz|exact uA|exact uC|exact Yx|fail);(repeat' (first|exact bN|fail));first|done|fail)):p:=g
theorem ae2:aC.OK Tryz.prog 49 ait:=by
 intro args bx K0 h;unfold ait at h;split at h
 ·rename_i n;obtain ⟨⟨h1,h2⟩,-⟩:=h;refine ahg.okW (base:=0) rfl mV mV ?_;have B:=V.base af.nil
  conv=>whnf
  let zA:=(aH 49)
  open ada in exact bN
 ·exact h.elim
def c49:aC:=fun args bx K=>match args,bx with
 |[.int .i64 n],[]=>(0<=n∧n<=99)∧∀t:ByteArray,t.size<=2->K (.str t) []
 |_,_=>False
theorem ac9.xt {p:Prop} (g:p:=by ((first|exact uB|exact rX|exact mf|exact rZ|exact uD|exact r9|exact uE|exact qP|exact uz|exact uA|exact uC|((with_reducible refine (?_:(_:Int)<=_));(first|rw [Int.tmod_eq_emod_of_nonneg oM]|rw [Int.tdiv_eq_ediv_of_nonneg oM]);omega)|((with_reducible refine (?_:(_:Int)<=_));(rw [Int.tdiv_eq_ediv_of_nonneg oM,IntKind.wrap_i64]);omega)|exact Yx|fail);(repeat' (first|exact bN|fail));first|done|fail)):p:=g
theorem aki:aC.OK Tryz.prog 49 c49:=by
 intro args bx K0 h;unfold c49 at h;split at h
 ·rename_i n;obtain ⟨⟨h1,h2⟩,-⟩:=h;refine ahg.okW (base:=0) rfl mV mV ?_;have B:=V.base (af.cons ae2 af.nil)
  conv=>whnf
  let zA:=(aH 49)
  open ac9 in exact bN
 ·exact h.elim
end V
end
end Go.Proofs.YtlmjabnkjmfcmaaGreat
