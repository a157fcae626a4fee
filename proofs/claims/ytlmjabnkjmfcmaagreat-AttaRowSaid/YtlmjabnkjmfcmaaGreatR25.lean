/- Parts of a proof; no condition. -/
import Derived.Test.YtlmjabnkjmfcmaaGreatR11
namespace Go.Proofs.YtlmjabnkjmfcmaaGreat
open Go Go.RowKit Go.PlainAid
set_option linter.unusedVariables false
set_option linter.unusedSimpArgs false
set_option linter.unusedSectionVars false
set_option maxHeartbeats 20000000
set_option linter.defProp false
section
variable [nM]
set_option maxRecDepth 100000
namespace V
open Ab
open Bk (Cm)
def amK:az:=fun args bx K=>match args,bx with
 |[.str s,.int .i64 a],[]=>(s.size<=900000∧0<=a∧a<=s.size)∧(∀f t:Int,f=(Bk.bI s a.toNat:Nat)->t=(Bk.oI s a.toNat:Nat)->(0<=f∧f<=a∧a<=t∧t<=s.size)->K (.bW [.int .i64 f,.int .i64 t]) [])
 |_,_=>False
theorem adY:az.OK Tryz.prog 32 amK:=by
 refine jA (g:=Oa fun s a=>some (.bW [.int .i64 (Bk.bI s (Bk.aP s a):Nat),.int .i64 (Bk.oI s (Bk.aP s a):Nat)])) rfl fun args bx K0 h=>?_;unfold amK at h;split at h
 ·rename_i s a;obtain ⟨⟨h0,h1,h2⟩,-⟩:=h;have e:Bk.aP s a=a.toNat:=by unfold Bk.aP;omega
  refine ⟨rfl,_,by show (if _ then _ else _)=_;rw [if_pos h0],rfl,fun K hK=>?_⟩;rw [e];have g1:=Bk.iF s a.toNat;have g2:=Bk.vS s a.toNat;have g3:=Bk.xq (s:=s) (k:=a.toNat) oM;exact hK.2 _ _ rfl rfl ⟨oM,oM,oM,oM⟩
 ·exact h.elim
def amU:az:=fun args bx K=>match args,bx with
 |[.str s,.int .i64 f,.int .i64 t],[]=>(s.size<=900000∧0<=f∧f<=s.size∧0<=t∧t<=s.size)∧∀b:Bool,K (.bool b) []
 |_,_=>False
def alM:=fN 144 Tryz.f144 14 [.tmp 6]
theorem ah2.xt {p:Prop} (g:p:=by ((first|exact ry|fail);(repeat' (first|exact dw|fail));first|done|fail)):p:=g
theorem ajQ:az.OK Tryz.prog 144 amU:=by
 intro args bx K0 h;unfold amU at h;split at h
 ·rename_i s f t;obtain ⟨⟨h0,h1,h2,h3,h4⟩,-⟩:=h;refine alM.okW (base:=0) rfl dM dM ?_;have B:=V.base (ae.cons abX ae.nil)
  conv=>whnf
  let zA:=(au 144)
  open ah2 in exact dw
 ·exact h.elim
def SlS (v:AV) (ts:List ByteArray):Prop:=(v=.nil∧ts=[])∨v=.sl ts.length (bM ts)
def amT:az:=fun args bx K=>match args,bx with
 |[v,.bool fo],[]=>∃ts:List ByteArray,SlS v ts∧Bk.iL ts ts.length<=500000000∧ts.length<=100000∧∀t:ByteArray,t.size<=500000000->K (.str t) []
 |_,_=>False
theorem OL (ts:List ByteArray):∀n,n<=Bk.iL ts n
 |0=>Nat.le_refl _
 |n+1=>by have:=OL ts n;rw [Bk.iL];omega
theorem exR {ts:List ByteArray} {i j:Nat} {Q:AV->List AV->Prop} (hj:j=i) (hi:i<ts.length) (h:∀r,Bk.iL ts (i+1)=Bk.iL ts i+(Bk.rowAt ts i).size+1->Bk.iL ts (i+1)<=Bk.iL ts ts.length->Q (.str (Bk.rowAt ts i)) r):∃v r,List.drop (j*1) (bM ts)=v::r∧Q v r:=by
 subst hj;refine ⟨.str (Bk.rowAt ts j),(bM ts).drop (j+1),?_,h _ (by rw [Bk.iL]) ?_⟩
 ·rw [Nat.mul_one,List.drop_eq_getElem_cons (by rw [yN];exact hi)];congr 1;unfold Bk.rowAt;rw [List.getD_eq_getElem?_getD,List.getElem?_eq_getElem hi];exact List.getElem_map _
 ·have:=Bk.zZ ts (j+1) (ts.length-(j+1));rw [show j+1+(ts.length-(j+1))=ts.length by omega] at this;exact this
theorem adF {ts:List ByteArray} {i:Int} (h:i<=ts.length):Bk.iL ts i.toNat<=Bk.iL ts ts.length:=by have:=Bk.zZ ts i.toNat (ts.length-i.toNat);rw [show i.toNat+(ts.length-i.toNat)=ts.length by omega] at this;exact this
theorem afC {s:ByteArray} (h:¬s={data:=#[]}):(0:Int)<s.size:=GI h
def J1L (ts:List ByteArray) (v:AV) (fo:Bool) (j:Nat) (τ:aF):Prop:=∃(i:Int) (t:ByteArray),(0<=i∧i<=ts.length)∧(t.size<=Bk.iL ts i.toNat)∧j=((ts.length:Int)-i).toNat∧τ=⟨[(6,.int .i64 i),(5,.str t),(0,v)],[]⟩
def J2L (ts:List ByteArray) (v:AV) (j:Nat) (τ:aF):Prop:=∃(i l b:Int) (t:ByteArray),(0<=i∧i<=ts.length)∧(0<=b∧b<=i)∧(l<0∨l<i∧0<(Bk.rowAt ts l.toNat).size)∧(t.size+b<=Bk.iL ts i.toNat)∧j=((ts.length:Int)-i).toNat∧τ=⟨[(9,.int .i64 i),(8,.int .i64 b),(7,.int .i64 l),(5,.str t),(0,v)],[]⟩
def aey:=fN 145 Tryz.f145 97 [.tmp 4]
theorem ah1.xt {p:Prop} (g:p:=by ((first|exact lZ|((with_reducible refine (?_:(0:Int)<_));first|exact afC aZ|omega)|exact yQ|((with_reducible refine (?_:∃(v:AV) (r:List AV),_=v::r∧_));refine exR rfl oM ?_;intro r1 f1 f2)|exact Fj|exact Fq|exact Ff|exact FB|fail);(repeat' (first|exact dw|fail));first|done|fail)):p:=g
theorem ah0.xt {p:Prop} (g:p:=by ((first|exact lZ|((with_reducible refine (?_:(0:Int)<_));first|exact afC aZ|omega)|exact yQ|((with_reducible refine (?_:∃(v:AV) (r:List AV),_=v::r∧_));refine exR rfl oM ?_;intro r1 f1 f2)|exact Fj|exact Fq|exact Ff|exact FB|fail);(repeat' (first|exact dw|fail));first|done|fail)):p:=g
theorem ajP:az.OK Tryz.prog 145 amT:=by
 intro args bx K0 h;unfold amT at h;split at h
 ·rename_i v fo;obtain ⟨ts,h1,h2,hn,-⟩:=h;have e32:({data:=#[32]}:ByteArray).size=1:=rfl;have e10:({data:=#[10]}:ByteArray).size=1:=rfl;have B:=V.base (ae.cons YD (ae.cons UN ae.nil));rcases h1 with ⟨rfl,rfl⟩|rfl
  ·refine aey.okW (base:=0) rfl dM dM ?_
   conv=>whnf
   let zA:=(au 145)
   open ah1 in exact dw
  ·refine aey.okW (base:=0) rfl (by simp [iE,wv,dN]) rfl ?_
   conv=>whnf
   let zA:=(au 145)
   open ah0 in exact dw
 ·exact h.elim
def amV:az:=fun args bx K=>match args,bx with
 |[.str s,.int .i64 a],[]=>(s.size<=900000∧0<=a∧a<s.size∧bt s a.toNat≠10)∧(∀(te d c:Int) (note:ByteArray) (eX:Bool),(a<te∧te<=s.size∧0<=d∧d<=255)->(eX=false->note=ByteArray.empty)->K (.bW [.int .i64 te,.int .i64 d,.int .u8 c,.str note,.bool eX,.int .i64 (-1)]) [])∧(∀q:Int,0<=q->K (.bW [.int .i64 0,.int .i64 0,.int .u8 0,.str ByteArray.empty,.bool false,.int .i64 q]) [])
 |_,_=>False
theorem afb {s:ByteArray} {k:Nat} {p:Int} (h1:p<=Bk.oI s k) (h2:p<s.size) (h0:0<=p) (h3:bt s p.toNat≠10):p+1<=Bk.oI s k:=by
 rcases Int.lt_or_le p (Bk.oI s k) with h|h
 ·omega
 ·have e:p.toNat=Bk.oI s k:=oM;have:=Bk.LV (s:=s) (k:=k) oM;rw [←e] at this;exact absurd this h3
def HL (s:ByteArray) (a:Int) (j:Nat) (τ:aF):Prop:=∃i p d c:Int,(0<=i∧i<=2∧a<p∧p<=Bk.oI s a.toNat∧0<=d∧d<=255)∧j=(2-i).toNat∧τ=⟨[(13,.int .i64 i),(12,.int .u8 c),(11,.int .i64 d),(10,.int .i64 p),(1,.int .i64 a),(0,.str s)],[]⟩
def alN:=fN 143 Tryz.f143 106 [.tmp 4,.tmp 5,.tmp 6,.tmp 7,.tmp 8,.tmp 9]
theorem ahZ.xt {p:Prop} (g:p:=by ((first|((with_reducible refine (?_:(_:Nat)<=_));rw [ByteArray.size_extract];omega)|((with_reducible refine (?_:(_:Int)<=_));simp only [IntKind.wrap_u8] at*;omega)|((with_reducible refine (?_:∃(j:Nat) (τ':aF),j<_∧Rx 0 _ τ'∧_));(refine ⟨(2-(i+1)).toNat,_,oM,Rx.refl,i+1,_,_,_,⟨oM,oM,?_,?_,?_,?_⟩,rfl,rfl⟩);(all_goals first|omega|(simp only [IntKind.wrap_u8] at*;omega)|exact afb oM oM oM oM))|((with_reducible refine (?_:af _ _ _ _ _));first|exact af.aW kV kV dM dM fun K hK=>hK.2.1 _ _ _ _ _ ⟨oM,oM,oM,oM⟩ (fun h=>by first|(cases h;done)|rfl)|exact af.aW kV kV dM dM fun K hK=>hK.2.2 _ oM)|fail);(repeat' (first|exact dw|fail));first|done|fail)):p:=g
theorem ajR:az.OK Tryz.prog 143 amV:=by
 intro args bx K0 h;unfold amV at h;split at h
 ·rename_i s a;obtain ⟨⟨h0,h1,h2,h3⟩,-⟩:=h;refine alN.okW (base:=0) rfl dM dM ?_;have B:=V.base (ae.cons adY (ae.cons JH (ae.cons afO ae.nil)))
  conv=>whnf
  repeat' (first
  |with_reducible refine WP.seq ?_
  |(with_reducible first|refine Go.mk ?_|refine WP.qy B (au 143) ?_|refine WP.draw B (au 143) ?_|refine WP.cond ?_|refine WP.exit ?_|refine WP.skip ?_|refine WP.ret ?_);conv=>whnf
  |with_reducible refine WP.block ?_
  |with_reducible assumption
  |with_reducible refine And.intro ?_ ?_
  |exact cL
  |(with_reducible intro h);first|(cases h;done)|(try simp only [lG,reduceCtorEq] at h);first|done|(exfalso;omega)|replace h:=h trivial aZ|replace h:=h aZ|skip
  |fail)
  have hT:a+1<=Bk.oI s a.toNat:=afb (by have:=Bk.vS s a.toNat;omega) h2 h1 h3;have hT2:(Bk.oI s a.toNat:Int)<=s.size:=by have:=Bk.xq (s:=s) (k:=a.toNat) oM;omega
  refine WP.loop (HL s a) ⟨0,a+1,0,0,⟨oM,oM,oM,hT,oM,oM⟩,rfl,rfl⟩ ?_;rintro j τ ⟨i,p,d,c,⟨g1,g2,g3,g4,g5,g6⟩,rfl,rfl⟩;let zA:=(au 143)
  open ahZ in exact dw
 ·exact h.elim
end V
end
end Go.Proofs.YtlmjabnkjmfcmaaGreat
