/- Parts of a proof; no condition. -/
import Derived.Test.YtlmjabnkjmfcmaaGreatR26
import Derived.Test.YtlmjabnkjmfcmaaGreatR27
namespace Go.Proofs.YtlmjabnkjmfcmaaGreat
open Go Go.RowKit Go.PlainAid
set_option linter.unusedVariables false
set_option linter.unusedSimpArgs false
set_option linter.unusedSectionVars false
set_option maxHeartbeats 20000000
set_option linter.defProp false
section
variable [nM]
set_option maxRecDepth 100000
namespace V
open Ab
open Bk (Cm)
def c64:az:=fun args bx K=>match args,bx with
 |[.str s],[]=>s.size<=900000∧∀ts:List ByteArray,Bk.iL ts ts.length<=s.size+1->K (.sl ts.length (bM ts)) []
 |_,_=>False
def WL (s:ByteArray) (j:Nat) (τ:aF):Prop:=∃(i f:Int) (ts:List ByteArray),(0<=f∧f<=i∧0<=i∧i<=s.size+1)∧(Bk.iL ts ts.length:Int)<=f∧j=((s.size:Int)+1-i).toNat∧τ=⟨[(5,.int .i64 i),(4,.int .i64 f),(3,.row 9 1 ts.length (bM ts)),(0,.str s)],[]⟩
theorem WL.mk {s:ByteArray} {i f:Int} {ts:List ByteArray} {N:Nat} {C:List AV} (hf:0<=f∧f<=i∧0<=i∧i<=s.size+1) (hz:(Bk.iL ts ts.length:Int)<=f) (hN:N=ts.length) (hC:C=bM ts):WL s ((s.size:Int)+1-i).toNat ⟨[(5,.int .i64 i),(4,.int .i64 f),(3,.row 9 1 N C),(0,.str s)],[]⟩:=by subst hN hC;exact ⟨i,f,ts,hf,hz,rfl,rfl⟩
theorem aq9 {s:ByteArray} {i f:Int}:Rx 0 ⟨[(5,.int .i64 i),(4,.int .i64 f),(3,.nil),(0,.str s)],[]⟩ ⟨[(5,.int .i64 i),(4,.int .i64 f),(3,.row 9 1 ([]:List ByteArray).length (bM [])),(0,.str s)],[]⟩:=
 Rx.wv .nil (.cons .refl (.cons .refl (.cons .lM (.cons .refl .nil)))) ⟨rfl,rfl⟩
theorem Qg (ts:List ByteArray):ts.length<=Bk.iL ts ts.length:=OL ts _
def aqr:=fN 64 Tryz.f64 36 [.tmp 2]
theorem ahS.xt {p:Prop} (g:p:=by ((first|exact dQ|((with_reducible refine (?_:∃(j:Nat) (τ':aF),j<_∧Rx 0 _ τ'∧_));(apply Ls);(case' hi=>(apply WL.mk (ts:=ts)));(case hr=>exact Rx.refl);(case hC=>rfl);(case hN=>rfl);(case hf=>exact ⟨oM,oM,oM,oM⟩);(case hz=>omega);(case hj=>omega))|((with_reducible refine (?_:∃(j:Nat) (τ':aF),j<_∧Rx 0 _ τ'∧_));(apply Ls);(case' hi=>(apply WL.mk (ts:=ts++[_])));(case hr=>exact Rx.refl);(case hC=>exact uw);(case hN=>(rw [List.length_append];rfl));(case hf=>exact ⟨oM,oM,oM,oM⟩);(case hz=>(rw [CJ,ByteArray.size_extract];omega));(case hj=>omega))|((with_reducible refine (?_:af _ _ _ _ _));first|exact af.aW kV kV QV QV fun K hK=>hK.2 ts oM)|fail);(repeat' (first|exact dw|fail));first|done|fail)):p:=g
theorem ajm:az.OK Tryz.prog 64 c64:=by
 intro args bx K0 h;unfold c64 at h;split at h
 ·rename_i s;obtain ⟨h0,-⟩:=h;refine aqr.okW (base:=0) rfl QV QV ?_;have B:=V.base (ae.cons YD ae.nil)
  conv=>whnf
  repeat' (first
  |with_reducible refine WP.seq ?_
  |(with_reducible first|refine Go.mk ?_|refine WP.qy B (au 64) ?_|refine WP.draw B (au 64) ?_|refine WP.cond ?_|refine WP.exit ?_|refine WP.skip ?_|refine WP.ret ?_);conv=>whnf
  |with_reducible refine WP.block ?_
  |with_reducible assumption
  |with_reducible refine And.intro ?_ ?_
  |exact cL
  |(with_reducible intro h);first|(cases h;done)|(try simp only [lG,reduceCtorEq] at h);first|done|(exfalso;omega)|replace h:=h trivial aZ|replace h:=h aZ|skip
  |fail)
  refine WP.pJ aq9 ?_;refine WP.loop (WL s) ⟨0,0,[],⟨oM,oM,oM,oM⟩,Int.le_refl _,rfl,rfl⟩ ?_;rintro j τ ⟨i,f,ts,⟨g1,g2,g3,g4⟩,g5,rfl,rfl⟩;have g6:=Qg ts;let zA:=(au 64)
  open ahS in exact dw
 ·exact h.elim
theorem Yo {ts:List ByteArray} {i:Nat} (h:i<ts.length):(Bk.rowAt ts i).size<Bk.iL ts ts.length:=by have:=Bk.zZ ts (i+1) (ts.length-(i+1));rw [show i+1+(ts.length-(i+1))=ts.length by omega,Bk.iL] at this;omega
theorem Wh {ts:List ByteArray} {i:Nat} {acc:ByteArray} (h:i<=ts.length) (ha:acc.size<=Bk.iL ts i):acc.size<=Bk.iL ts ts.length:=by have:=Bk.zZ ts i (ts.length-i);rw [show i+(ts.length-i)=ts.length by omega] at this;omega
theorem aaN {ts:List ByteArray} {i:Int} {acc:ByteArray} (h:0<=i) (ha:acc.size<=Bk.iL ts i.toNat):(acc++{data:=#[32]}++Bk.rowAt ts i.toNat).size<=Bk.iL ts (i+1).toNat:=by rw [show (i+1).toNat=i.toNat+1 by omega,Bk.iL,Bk.aT,Bk.aT];have:({data:=#[32]}:ByteArray).size=1:=rfl;omega
theorem agR {ts:List ByteArray} {i:Nat} {acc:ByteArray} (h:i<ts.length) (hz:Bk.iL ts ts.length<=900001) (ha:acc.size<=900001):(acc++{data:=#[32]}).size+(Bk.rowAt ts i).size<=1000000000:=by have h1:=Yo h;have:({data:=#[32]}:ByteArray).size=1:=rfl;rw [Bk.aT];omega
def c35:az:=fun args bx K=>match args,bx with
 |[.str s],[]=>s.size<=900000∧(∀(d note:ByteArray) (eX:Bool),d.size<=s.size+1->K (.bW [.str d,.str note,.bool eX,.int .i64 0]) [])∧K (.bW [.str ByteArray.empty,.str ByteArray.empty,.bool false,.int .i64 5]) []
 |_,_=>False
def D1 (s:ByteArray) (j:Nat) (τ:aF):Prop:=∃i:Int,(1<=i∧i<=s.size)∧j=((s.size:Int)-i).toNat∧τ=⟨[(9,.int .i64 i),(8,.str s),(7,.bool false),(6,.str {data:=#[]}),(0,.str s)],[]⟩
def DJ (s:ByteArray) (τ:aF):Prop:=∃(b note:ByteArray) (eX:Bool),b.size<=s.size∧τ=⟨[(8,.str b),(7,.bool eX),(6,.str note)],[]⟩
def D2 (s:ByteArray) (note:ByteArray) (eX:Bool) (ts:List ByteArray) (j:Nat) (τ:aF):Prop:=∃(i:Int) (acc:ByteArray),(1<=i∧i<=ts.length)∧Bk.iL ts ts.length<=s.size+1∧acc.size<=Bk.iL ts i.toNat∧j=((ts.length:Int)-i).toNat∧τ=⟨[(12,.int .i64 i),(11,.str acc),(10,.sl ts.length (bM ts)),(7,.bool eX),(6,.str note)],[]⟩
def aqG:=fN 35 Tryz.f35 110 [.tmp 2,.tmp 3,.tmp 4,.tmp 5]
theorem ahR.xt {p:Prop} (g:p:=by ((first|exact ve|exact lZ|((with_reducible refine (?_:(Bk.rowAt _ _).size<=_));refine Nat.le_of_lt_succ (Nat.lt_of_lt_of_le (Yo ?_) ?_)<;>omega)|((with_reducible refine (?_:WP _ _ _ (.loop _) _ _));(apply WP.loop (D2 s note eX _));(case h0=>exact ⟨1,_,⟨oM,oM⟩,oM,(by show _<=0+(Bk.rowAt _ (Int.toNat 0)).size+1;omega),rfl,rfl⟩);(case' h=>(rintro j τ ⟨i,acc,⟨g1,g2⟩,g4,g3,rfl,rfl⟩;have g5:=Wh (i:=i.toNat) oM g3;have g6:=Nat.le_trans (Qg _) g4)))|((with_reducible refine Or.inl (?_:ByteArray.size _+ByteArray.size _<=_));first|exact agR oM oM oM|(have:({data:=#[32]}:ByteArray).size=1:=rfl;omega))|((with_reducible refine (?_:∃(j:Nat) (τ':aF),j<_∧Rx 0 _ τ'∧_));(refine ⟨_,_,?_,Rx.refl,i+1,_,⟨oM,oM⟩,g4,?_,rfl,rfl⟩);(focus omega);exact aaN oM g3)|((with_reducible refine (?_:af _ _ _ _ _));first|exact af.aW kV kV QV QV fun K hK=>hK.2.2|exact af.aW kV kV QV QV fun K hK=>hK.2.1 _ _ _ oM)|fail);(repeat' (first|exact dw|fail));first|done|fail)):p:=g
theorem aoX:az.OK Tryz.prog 35 c35:=by
 intro args bx K0 h;unfold c35 at h;split at h
 ·rename_i s;obtain ⟨h0,-⟩:=h;refine aqG.okW (base:=0) rfl QV QV ?_;have B:=V.base (ae.cons afO (ae.cons YD (ae.cons ajm (ae.cons aoM (ae.cons aoL (ae.cons aoK ae.nil))))))
  conv=>whnf
  repeat' (first
  |(with_reducible refine WP.cut (x:=.seq (.region 4 _ _) _) (DJ s) ?_ ?_)
  |with_reducible refine WP.seq ?_
  |(with_reducible first|refine Go.mk ?_|refine WP.qy B (au 35) ?_|refine WP.draw B (au 35) ?_|refine WP.cond ?_|refine WP.exit ?_|refine WP.skip ?_|refine WP.ret ?_);conv=>whnf
  |with_reducible refine WP.block ?_
  |with_reducible assumption
  |((with_reducible refine (?_:(0:Int)<_));first|exact GI aZ|omega)
  |((with_reducible refine (?_:(ByteArray.extract _ _ _).size<=_));rw [ByteArray.size_extract];omega)
  |((with_reducible refine (?_:WP _ _ _ (.loop _) _ _));(apply WP.loop (D1 s));(case h0=>exact ⟨1,⟨oM,by have:=GI (s:=s) aZ;omega⟩,rfl,rfl⟩);(case' h=>(rintro j τ ⟨i,⟨g1,g2⟩,rfl,rfl⟩)))
  |((with_reducible refine (?_:∃(j:Nat) (τ':aF),j<_∧Rx 0 _ τ'∧_));(refine ⟨_,_,?_,Rx.refl,i+1,⟨oM,oM⟩,rfl,rfl⟩);omega)
  |((with_reducible refine (?_:∃τ',Rx 0 _ τ'∧DJ _ _));(refine ⟨_,Rx.prune [8,7,6],_,_,_,?_,rfl⟩);first|exact Nat.le_refl _|(rw [ByteArray.size_extract];omega))
  |(with_reducible refine (?_:af _ _ _ _ _));first|exact af.aW kV kV QV QV fun K hK=>hK.2.2
  |with_reducible refine And.intro ?_ ?_
  |exact cL
  |(with_reducible intro h);first|(cases h;done)|(try simp only [lG,reduceCtorEq] at h);first|done|(exfalso;omega)|replace h:=h trivial aZ|replace h:=h aZ|skip
  |fail)
  all_goals
   refine aH.mk ?_;rintro τ ⟨b,note,eX,hb,rfl⟩;let zA:=(au 35)
   open ahR in exact dw
 ·exact h.elim
def c36:az:=fun args bx K=>match args,bx with
 |[.sl n l,.str d],[]=>∃ts:List ByteArray,(n=ts.length∧l=bM ts)∧(d.size<=900000∧ts.length<=900000∧∀i,(Bk.rowAt ts i).size<=900000)∧∀b:Bool,K (.bool b) []
 |_,_=>False
def TI (ts us:List ByteArray) (j:Nat) (τ:aF):Prop:=∃i:Int,(0<=i∧i<=ts.length)∧j=((ts.length:Int)-i).toNat∧τ=⟨[(6,.int .i64 i),(5,.sl us.length (bM us)),(0,.sl ts.length (bM ts))],[]⟩
def aqF:=fN 36 Tryz.f36 65 [.tmp 4]
theorem ahQ.xt {p:Prop} (g:p:=by ((first|exact ve|exact lZ|(exact h3 _)|((with_reducible refine (?_:WP _ _ _ (.loop _) _ _));(apply WP.loop (TI ts _));(case h0=>exact ⟨0,⟨oM,oM⟩,rfl,rfl⟩);(case' h=>(rintro j τ ⟨i,⟨g1,g2⟩,rfl,rfl⟩)))|exact Fh|((with_reducible refine (?_:af _ _ _ _ _));first|exact af.aW kV kV QV QV fun K hK=>hK.elim fun _ h=>h.2.2 _)|fail);(repeat' (first|exact dw|fail));first|done|fail)):p:=g
theorem aoW:az.OK Tryz.prog 36 c36:=by
 intro args bx K0 h;unfold c36 at h;split at h
 ·rename_i n l d;obtain ⟨ts,⟨rfl,rfl⟩,⟨h1,h2,h3⟩,-⟩:=h;refine aqF.okW (base:=0) rfl QV QV ?_;have B:=V.base (ae.cons ajm ae.nil)
  conv=>whnf
  let zA:=(au 36)
  open ahQ in exact dw
 ·exact h.elim
end V
end
end Go.Proofs.YtlmjabnkjmfcmaaGreat
