/- Parts of a proof; no condition. -/
import Derived.Test.YtlmjabnkjmfcmaaGreatR19
import Derived.Test.YtlmjabnkjmfcmaaGreatR25
namespace Go.Proofs.YtlmjabnkjmfcmaaGreat
open Go Go.RowKit Go.PlainAid
set_option linter.unusedVariables false
set_option linter.unusedSimpArgs false
set_option linter.unusedSectionVars false
set_option maxHeartbeats 20000000
set_option linter.defProp false
section
variable [nM]
set_option maxRecDepth 100000
namespace V
open Ab
open Bk (Cm)
theorem aiE {ts:List ByteArray} {i j:Nat} {Q:AV->List AV->Prop} (h:i<ts.length) (hj:j=i) (hQ:∀r,Q (.str (Bk.rowAt ts i)) r):∃v r,List.drop (j*1) (bM ts)=v::r∧Q v r:=by subst hj;refine ⟨.str (Bk.rowAt ts j),(bM ts).drop (j+1),?_,hQ _⟩;rw [Nat.mul_one,List.drop_eq_getElem_cons (by rw [bM,List.length_map];exact h)];unfold Bk.rowAt bM;rw [List.getElem_map,List.getD_eq_getElem?_getD,List.getElem?_eq_getElem h];rfl
def kT (ks:List Int):List AV:=ks.map (AV.int .i64)
theorem Dz:∀(ks:List Int),mi (kT ks)=true
 |[]=>rfl
 |k::ks=>by have:=Dz ks;rw [kT] at this;rw [kT,List.map_cons,mi,this];rfl
theorem Qk {ks:List Int}:(kT ks).length=ks.length:=List.length_map _
theorem Ql:∀{ks ls:List Int},kT ks=kT ls->ls=ks
 |[],[],_=>rfl
 |[],_::_,h=>by simp [kT] at h
 |_::_,[],h=>by simp [kT] at h
 |k::ks,l::ls,h=>by rw [kT,kT,List.map_cons,List.map_cons] at h;simp only [List.cons.injEq,AV.int.injEq,true_and] at h;rw [h.1,Ql (ks:=ks) (ls:=ls) h.2]
theorem exI {ks:List Int} {Q:List Int->Prop} (h:∃ls:List Int,(ks.length=ls.length∧kT ks=kT ls)∧Q ls):Q ks:=by obtain ⟨ls,⟨-,h1⟩,h2⟩:=h;rw [Ql h1] at h2;exact h2
def mB (ks:List Int) (a:Int) (out:ByteArray) (left name:Int):List AV:=[.sl ks.length (kT ks),.int .i64 a,.str out,.int .i64 left,.int .i64 name]
def c22:az:=fun args bx K=>match args,bx with
 |[.int .i64 x,.int .i64 n],[]=>(1<=n∧n<=1000000000)∧∀r:Int,(0<=r∧r<n)->K (.int .i64 r) []
 |_,_=>False
theorem ajB:az.OK Tryz.prog 22 c22:=by
 intro args bx K0 h;unfold c22 at h;split at h
 ·rename_i x n;obtain ⟨⟨h1,h2⟩,-⟩:=h;refine ⟨.int .i64 (Bk.JI x n:Nat),[],Df ⟨_,rfl,rfl,rfl⟩ rfl fun lim w vs hR=>?_,rfl,rfl,fun K hK=>hK.2 _ ⟨oM,?_⟩⟩
  ·simp only [AV.Rs,AV.R] at hR;obtain ⟨v,r,rfl,rfl,v2,r2,rfl,rfl,rfl⟩:=hR;refine (U1 x n w h1 h2).mono ?_;rintro e w' ⟨rfl,rfl⟩;exact ⟨_,lim,rfl,Below.refl _ _,fun _ _=>rfl,fun ht b hb=>ht b hb,by rw [AV.R]⟩
  ·unfold Bk.JI;have h3:=Int.emod_lt_of_pos (x % Bk.JY) (show 0<n by omega);have h4:=Int.emod_nonneg (x % Bk.JY) (show n≠0 by omega);omega
 ·exact h.elim
theorem akD {ks:List Int} {i j:Nat} {Q:AV->List AV->Prop} (h:i<ks.length) (hj:j=i) (hQ:∀k r,Q (.int .i64 k) r):∃v r,List.drop (j*1) (kT ks)=v::r∧Q v r:=by subst hj;refine ⟨.int .i64 ks[j],(kT ks).drop (j+1),?_,hQ _ _⟩;rw [Nat.mul_one,List.drop_eq_getElem_cons (by rw [Qk];exact h)];unfold kT;rw [List.getElem_map]
def c46:az:=fun args bx K=>match args,bx with
 |[.ptr 0 0,.int .i64 n],[[.sl nk lk,.int .i64 a,.str out,.int .i64 left,.int .i64 name]]=>∃ks:List Int,(nk=ks.length∧lk=kT ks)∧(1<=n∧n<=1000∧0<=a∧a<=1000000)∧(∀r:Int,a<ks.length->(0<=r∧r<n)->K (.int .i64 r) [mB ks (a+1) out left name])∧(ks.length<=a->K (.int .i64 0) [mB ks a out left name])
 |_,_=>False
def aqC:=fN 46 Tryz.f46 35 [.tmp 4]
theorem ahP.xt {p:Prop} (g:p:=by ((first|(refine akD ?_ rfl ?_;(focus omega);intro k r)|((with_reducible refine (?_:(_:Nat)<_));(simp only [Qk,List.length_drop];omega))|((with_reducible refine (?_:af _ _ _ _ _));first|exact af.aW kV kV o9 o9 fun K hK=>(exI hK).2.2 oM|exact af.aW kV kV o9 o9 fun K hK=>(exI hK).2.1 _ oM ⟨oM,oM⟩)|fail);(repeat' (first|exact dw|fail));first|done|fail)):p:=g
theorem aoS:az.OK Tryz.prog 46 c46:=by
 intro args bx K0 h;unfold c46 at h;split at h
 ·rename_i n nk lk a out left name;obtain ⟨ks,⟨rfl,rfl⟩,⟨h1,h2,h3,h4⟩,-⟩:=h;refine aqC.okW (base:=1) rfl o9 o9 ?_;have B:=V.base (ae.cons ajB ae.nil)
  conv=>whnf
  let zA:=(au 46)
  open ahP in exact dw
 ·exact h.elim
end V
end
end Go.Proofs.YtlmjabnkjmfcmaaGreat
