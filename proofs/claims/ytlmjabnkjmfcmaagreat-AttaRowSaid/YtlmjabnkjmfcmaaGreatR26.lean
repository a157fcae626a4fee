/- Parts of a proof; no condition. -/
import Derived.Test.YtlmjabnkjmfcmaaGreatR20
import Derived.Test.YtlmjabnkjmfcmaaGreatR25
namespace Go.Proofs.YtlmjabnkjmfcmaaGreat
open Go Go.RowKit Go.PlainAid
set_option linter.unusedVariables false
set_option linter.unusedSimpArgs false
set_option linter.unusedSectionVars false
set_option maxHeartbeats 20000000
set_option linter.defProp false
section
variable [nM]
set_option maxRecDepth 100000
namespace V
open Ab
open Bk (Cm)
def xL (a y:Int) (note:ByteArray) (eX:Bool):List AV:=[.int .i64 1,.int .i64 y,.int .i64 a,.int .i64 0,.str ByteArray.empty,.str ByteArray.empty,.str ByteArray.empty,.nil,.nil,.nil,.bool eX,.str note]
def XK (y:Int) (note:ByteArray) (eX:Bool):Prop:=(y=4∨y=5)∧(eX=false->note=ByteArray.empty)
def BJ1 (s:ByteArray) (a:Int) (τ:aF):Prop:=∃(b w y c d:Int) (note:ByteArray) (eX:Bool),XK y note eX∧(a<b∧b<=s.size∧0<=w∧w<=40000)∧τ=⟨[(17,.int .i64 w),(16,.int .i64 b),(15,.ptr 1 0),(11,.int .u8 c),(10,.int .i64 d),(6,.ptr 0 0),(0,.str s)],[zB,xL a y note eX]⟩
def BL1 (s:ByteArray) (a n:Int) (j:Nat) (τ:aF):Prop:=∃(p b w y c d:Int) (note:ByteArray) (eX:Bool),XK y note eX∧(a<b∧b<=s.size∧0<=w∧w<=40000∧0<=p∧p<=s.size+1)∧j=((s.size:Int)+1-p).toNat∧τ=⟨[(18,.int .i64 p),(17,.int .i64 w),(16,.int .i64 b),(15,.ptr 1 0),(11,.int .u8 c),(10,.int .i64 d),(6,.ptr 0 0),(2,.int .i64 n),(0,.str s)],[zB,xL a y note eX]⟩
def RK (s:ByteArray) (a p la bh:Int) (ts:List ByteArray):Prop:=(a<p∧p<=s.size+1∧-1<=la∧la<ts.length∧0<=bh∧bh<=s.size)∧(Bk.iL ts ts.length:Int)<=20001*p∧(ts.length:Int)<=p
def BL2 (s:ByteArray) (a:Int) (j:Nat) (τ:aF):Prop:=∃(p la bh w y c d:Int) (note:ByteArray) (eX fi:Bool) (ts:List ByteArray),XK y note eX∧RK s a p la bh ts∧(0<=w∧w<=40000)∧j=((s.size:Int)+1-p).toNat∧τ=⟨[(26,.bool fi),(25,.int .i64 bh),(24,.int .i64 la),(23,.int .i64 p),(22,.row 9 1 ts.length (bM ts)),(17,.int .i64 w),(15,.ptr 1 0),(11,.int .u8 c),(10,.int .i64 d),(6,.ptr 0 0),(0,.str s)],[zB,xL a y note eX]⟩
def BJ2 (s:ByteArray) (a:Int) (τ:aF):Prop:=∃(p la bh y c:Int) (note:ByteArray) (eX:Bool) (ts:List ByteArray),XK y note eX∧RK s a p la bh ts∧τ=⟨[(25,.int .i64 bh),(24,.int .i64 la),(23,.int .i64 p),(22,.row 9 1 ts.length (bM ts)),(15,.ptr 1 0),(11,.int .u8 c),(6,.ptr 0 0),(0,.str s)],[zB,xL a y note eX]⟩
def BL3 (s:ByteArray) (a p la y c:Int) (note:ByteArray) (eX:Bool) (ts:List ByteArray) (j:Nat) (τ:aF):Prop:=∃(i fe:Int),(0<=i∧0<=fe∧fe<=i∧i<=s.size)∧j=(p-i).toNat∧τ=⟨[(33,.int .i64 i),(32,.int .i64 fe),(24,.int .i64 la),(23,.int .i64 p),(22,.row 9 1 ts.length (bM ts)),(15,.ptr 1 0),(11,.int .u8 c),(6,.ptr 0 0),(0,.str s)],[zB,xL a y note eX]⟩
theorem ara {s:ByteArray} {bh la p w c d:Int} {fi:Bool} {bx:List (List AV)}:Rx 0 ⟨[(26,.bool fi),(25,.int .i64 bh),(24,.int .i64 la),(23,.int .i64 p),(22,.nil),(17,.int .i64 w),(15,.ptr 1 0),(11,.int .u8 c),(10,.int .i64 d),(6,.ptr 0 0),(0,.str s)],bx⟩ ⟨[(26,.bool fi),(25,.int .i64 bh),(24,.int .i64 la),(23,.int .i64 p),(22,.row 9 1 ([]:List ByteArray).length (bM [])),(17,.int .i64 w),(15,.ptr 1 0),(11,.int .u8 c),(10,.int .i64 d),(6,.ptr 0 0),(0,.str s)],bx⟩:=by
 intro hσ;refine Rx.wv ?_ ?_ ?_ hσ
 ·have:∀b:List (List AV),Xp b b:=by
   intro b
   induction b with
   |nil=>exact .nil
   |cons x r ih=>exact .cons .refl ih
  exact this bx
 ·exact .cons .refl (.cons .refl (.cons .refl (.cons .refl (.cons .lM (.cons .refl (.cons .refl (.cons .refl (.cons .refl (.cons .refl (.cons .refl .nil))))))))))
 ·exact ⟨rfl,hσ.bx⟩
theorem CJ {ts:List ByteArray} {t:ByteArray}:Bk.iL (ts++[t]) (ts++[t]).length=Bk.iL ts ts.length+t.size+1:=by
 have h:∀n,n<=ts.length->Bk.iL (ts++[t]) n=Bk.iL ts n:=by
  intro n
  induction n with
  |zero=>intro _;rfl
  |succ n ih=>
   intro hn;rw [Bk.iL,Bk.iL,ih oM];unfold Bk.rowAt;rw [List.getD_eq_getElem?_getD,List.getD_eq_getElem?_getD,List.getElem?_append_left oM]
 rw [List.length_append,List.length_cons,List.length_nil,Bk.iL,h _ (Nat.le_refl _)];unfold Bk.rowAt;rw [List.getD_eq_getElem?_getD,List.getElem?_append_right (Nat.le_refl _),Nat.sub_self];rfl
theorem RK.add {s:ByteArray} {a p la bh p' la' bh':Int} {ts:List ByteArray} {t:ByteArray} (h:RK s a p la bh ts) (ht:t.size<=20000) (h1:p<p'∧p'<=s.size+1∧-1<=la'∧la'<=ts.length∧0<=bh'∧bh'<=s.size):RK s a p' la' bh' (ts++[t]):=by
 obtain ⟨⟨a1,a2,a3,a4,a5,a6⟩,b,c⟩:=h;refine ⟨⟨oM,oM,oM,?_,oM,oM⟩,?_,?_⟩
 ·rw [List.length_append,List.length_cons,List.length_nil];omega
 ·rw [CJ];omega
 ·rw [List.length_append,List.length_cons,List.length_nil];omega
theorem BL2.mk {s:ByteArray} {a p la bh w y c d:Int} {note:ByteArray} {eX fi:Bool} {ts:List ByteArray} {N:Nat} {C:List AV} (hX:XK y note eX) (hR:RK s a p la bh ts) (hw:0<=w∧w<=40000) (hN:N=ts.length) (hC:C=bM ts):BL2 s a ((s.size:Int)+1-p).toNat ⟨[(26,.bool fi),(25,.int .i64 bh),(24,.int .i64 la),(23,.int .i64 p),(22,.row 9 1 N C),(17,.int .i64 w),(15,.ptr 1 0),(11,.int .u8 c),(10,.int .i64 d),(6,.ptr 0 0),(0,.str s)],[zB,xL a y note eX]⟩:=by subst hN hC;exact ⟨p,la,bh,w,y,c,d,note,eX,fi,ts,hX,hR,hw,rfl,rfl⟩
theorem We {ts:List ByteArray}:∀n,n<=ts.length->Bk.iL (ts.take n) (ts.take n).length<=Bk.iL ts ts.length:=by
 intro n hn;have h:∀k,k<=n->Bk.iL (ts.take n) k=Bk.iL ts k:=by
  intro k
  induction k with
  |zero=>intro _;rfl
  |succ k ih=>
   intro hk;rw [Bk.iL,Bk.iL,ih oM];unfold Bk.rowAt;rw [List.getD_eq_getElem?_getD,List.getD_eq_getElem?_getD,List.getElem?_take,if_pos oM]
 rw [List.length_take,Nat.min_eq_left hn,h n (Nat.le_refl _)];have:=Bk.zZ ts n (ts.length-n);rw [show n+(ts.length-n)=ts.length by omega] at this;exact this
theorem SlS.take {ts:List ByteArray} {n:Nat} (hn:n<=ts.length):SlS (.sl n (List.take (n*1) (bM ts))) (ts.take n):=by refine .inr ?_;rw [List.length_take,Nat.min_eq_left hn,Nat.mul_one,bM,bM,List.map_take]
theorem XK.fw {y:Int} {note:ByteArray} {eX:Bool} (h:XK y note eX):Cb 1 y [] [] eX note:=.mk ⟨.inl ⟨rfl,by have:=h.1;omega,by have:=h.1;omega,rfl,rfl⟩,h.2⟩ (by intro z hz;cases hz)
theorem Ls {k j:Nat} {τ τ':aF} {I:Nat->aF->Prop} (hi:I j τ') (hr:Rx 0 τ τ') (hj:j<k):∃j τ',j<k∧Rx 0 τ τ'∧I j τ':=⟨j,τ',hj,hr,hi⟩
def alS:=fN 135 Tryz.f135 257 [.cell 6 35,.tmp 7,.tmp 8]
theorem ahY.xt {p:Prop} (g:p:=by ((first|((with_reducible refine (?_:WP _ _ _ (.loop _) _ _));(apply WP.loop (BL3 s a (min p s.size) la y c note eX ts));(case h0=>(exact ⟨bh,0,⟨oM,oM,oM,oM⟩,rfl,rfl⟩));(case' h=>(rintro j τ ⟨i,fe,hi,rfl,rfl⟩)))|((with_reducible refine (?_:∃(j:Nat) (τ':aF),j<_∧Rx 0 _ τ'∧_));(refine ⟨_,_,?_,Rx.refl,i+1,_,⟨oM,oM,oM,oM⟩,rfl,rfl⟩);omega)|((with_reducible refine (?_:∃ts,SlS _ ts∧_));refine ⟨_,SlS.take (ts:=ts) oM,Nat.le_trans (We _ oM) oM,by rw [List.length_take];omega,?_⟩)|((with_reducible refine Or.inl (?_:ByteArray.size _+ByteArray.size _<=_));omega)|((with_reducible refine (?_:af _ _ _ _ _));first|exact af.aW kV kV dM dM fun K hK=>hK.2.1 (.mk _ _ _ _ _ _ _ _ _ _ _ _) _ hX.fw ⟨by simp [yL,iJ,Nd.lead,Nd.ag,Nd.kids],rfl,oM,oM⟩)|fail);(repeat' (first|exact dw|fail));first|done|fail)):p:=g
theorem ajZ:az.OK Tryz.prog 135 JP:=by
 intro args bx K0 h;unfold JP at h;split at h
 ·rename_i s a n;obtain ⟨⟨h0,h1,h2⟩,-⟩:=h;have hs:s.size<=900000:=oM;have B:=V.base (ae.cons ajR (ae.cons ajQ (ae.cons ajP (ae.cons YF (ae.cons MM (ae.cons abX (ae.cons UN ae.nil)))))));refine alS.okW (base:=0) rfl dM dM ?_
  conv=>whnf
  repeat' (first
  |(with_reducible refine WP.cut (x:=.seq (.region 11 _ _) _) (BJ1 s a) ?_ ?_)
  |with_reducible refine WP.seq ?_
  |(with_reducible first|refine Go.mk ?_|refine WP.qy B (au 135) ?_|refine WP.draw B (au 135) ?_|refine WP.cond ?_|refine WP.exit ?_|refine WP.skip ?_|refine WP.ret ?_);conv=>whnf
  |with_reducible refine WP.block ?_
  |with_reducible assumption
  |((with_reducible refine (?_:WP _ _ _ (.loop _) _ _));(apply WP.loop (BL1 s a n));(case h0=>(refine ⟨_,_,_,_,_,_,_,_,(by refine ⟨by first|exact .inl rfl|exact .inr rfl,?_⟩;assumption),⟨oM,oM,oM,oM,oM,oM⟩,rfl,rfl⟩));(case' h=>(rintro j τ ⟨p,b,w,y,c,d,note,eX,hX,hp,rfl,rfl⟩)))
  |((with_reducible refine (?_:∃(j:Nat) (τ':aF),j<_∧Rx 0 _ τ'∧_));(refine ⟨_,_,?_,Rx.refl,_,_,_,_,_,_,_,_,hX,⟨oM,oM,oM,oM,oM,oM⟩,rfl,rfl⟩);omega)
  |((with_reducible refine (?_:∃τ',Rx 0 _ τ'∧BJ1 _ _ _));(refine ⟨_,Rx.prune [17,16,15,11,10,6,0],_,_,_,_,_,_,_,(by first|assumption|exact (by refine ⟨by first|exact .inl rfl|exact .inr rfl,?_⟩;assumption)),⟨oM,oM,oM,oM⟩,rfl⟩))
  |(with_reducible refine (?_:af _ _ _ _ _));first|exact af.aW kV kV dM dM fun K hK=>hK.2.2 _
  |with_reducible refine And.intro ?_ ?_
  |exact cL
  |(with_reducible intro h);first|(cases h;done)|(try simp only [lG,reduceCtorEq] at h);first|done|(exfalso;omega)|replace h:=h trivial aZ|replace h:=h aZ|skip
  |fail)
  all_goals
   refine aH.mk ?_;rintro τ ⟨b,w,y,c,d,note,eX,hX,⟨g1,g2,g3,g4⟩,rfl⟩
   repeat' (first
   |(with_reducible refine WP.cut (x:=.block 2 _) (BJ2 s a) ?_ ?_)
   |with_reducible refine WP.seq ?_
   |(with_reducible first|refine Go.mk ?_|refine WP.qy B (au 135) ?_|refine WP.draw B (au 135) ?_|refine WP.cond ?_|refine WP.exit ?_|refine WP.skip ?_|refine WP.ret ?_);conv=>whnf
   |with_reducible refine WP.block ?_
   |with_reducible assumption
   |((with_reducible refine (?_:AV.y8 _=true));rfl)
   |((with_reducible refine (?_:WP _ _ _ (.loop _) _ _));(refine WP.pJ ara ?_);(apply WP.loop (BL2 s a));(case h0=>(exact ⟨b,-1,b,w,y,c,d,note,eX,true,[],hX,⟨⟨oM,oM,oM,by simp,oM,oM⟩,by (show ((0:Nat):Int)<=_);omega,by simp;omega⟩,⟨g3,g4⟩,rfl,rfl⟩));(case' h=>(rintro j τ ⟨p,la,bh,w,y,c,d,note,eX,fi,ts,hX,hR,hw,rfl,rfl⟩;obtain ⟨⟨k1,k2,k3,k4,k5,k6⟩,k7,k8⟩:=id hR)))
   |((with_reducible refine (?_:∃(j:Nat) (τ':aF),j<_∧Rx 0 _ τ'∧_));(apply Ls);(case' hi=>(apply BL2.mk (ts:=ts++[_]) hX));(case hr=>exact Rx.refl);(case hC=>exact uw);(case hN=>(rw [List.length_append];rfl));(case hw=>exact hw);(case hR=>exact hR.add (by first|(rw [ByteArray.size_extract];omega)|(show ByteArray.size ⟨#[]⟩<=20000;decide)) ⟨oM,oM,oM,oM,oM,oM⟩);(case hj=>omega))
   |((with_reducible refine (?_:∃τ',Rx 0 _ τ'∧BJ2 _ _ _));(refine ⟨_,Rx.prune [25,24,23,22,15,11,6,0],_,_,_,_,_,_,_,_,hX,hR,rfl⟩))
   |((with_reducible refine Or.inl (?_:ByteArray.size _+ByteArray.size _<=_));omega)
   |(with_reducible refine (?_:af _ _ _ _ _));first|exact af.aW kV kV dM dM fun K hK=>hK.2.2 _
   |with_reducible refine And.intro ?_ ?_
   |exact cL
   |(with_reducible intro h);first|(cases h;done)|(try simp only [lG,reduceCtorEq] at h);first|done|(exfalso;omega)|replace h:=h trivial aZ|replace h:=h aZ|skip
   |fail)
   all_goals
    refine aH.mk ?_;rintro τ ⟨p,la,bh,y,c,note,eX,ts,hX,hR,rfl⟩;obtain ⟨⟨k1,k2,k3,k4,k5,k6⟩,k7,k8⟩:=id hR;let zA:=(au 135)
    open ahY in exact dw
 ·exact h.elim
def c91:az:=fun args bx K=>match args,bx with
 |[.str s,.int .i64 a,.int .i32 m],[]=>(s.size<=900000∧0<=a∧a<=s.size)∧∀n:Int,(0<=n∧a+n<=s.size)->K (.int .i64 n) []
 |_,_=>False
def DL (s:ByteArray) (a m:Int) (j:Nat) (τ:aF):Prop:=∃n:Int,(0<=n∧a+n<=s.size)∧j=((s.size:Int)-n).toNat∧τ=⟨[(7,.int .i64 n),(2,.int .i32 m),(1,.int .i64 a),(0,.str s)],[]⟩
def ap8:=fN 91 Tryz.f91 36 [.tmp 6]
theorem ahX.xt {p:Prop} (g:p:=by ((first|exact yT|exact yP|exact rC|((with_reducible refine (?_:af _ _ _ _ _));first|exact af.aW kV kV dM dM fun K hK=>hK.2 _ ⟨oM,oM⟩)|fail);(repeat' (first|exact dw|fail));first|done|fail)):p:=g
theorem aoC:az.OK Tryz.prog 91 c91:=by
 intro args bx K0 h;unfold c91 at h;split at h
 ·rename_i s a m;obtain ⟨⟨h0,h1,h2⟩,-⟩:=h;refine ap8.okW (base:=0) rfl dM dM ?_;have B:=V.base (ae.cons YL ae.nil)
  conv=>whnf
  repeat' (first
  |with_reducible refine WP.seq ?_
  |(with_reducible first|refine Go.mk ?_|refine WP.qy B (au 91) ?_|refine WP.draw B (au 91) ?_|refine WP.cond ?_|refine WP.exit ?_|refine WP.skip ?_|refine WP.ret ?_);conv=>whnf
  |with_reducible refine WP.block ?_
  |with_reducible assumption
  |with_reducible refine And.intro ?_ ?_
  |exact cL
  |(with_reducible intro h);first|(cases h;done)|(try simp only [lG,reduceCtorEq] at h);first|done|(exfalso;omega)|replace h:=h trivial aZ|replace h:=h aZ|skip
  |fail)
  refine WP.loop (DL s a m) ⟨0,⟨oM,oM⟩,rfl,rfl⟩ ?_;rintro j τ ⟨n,⟨g1,g2⟩,rfl,rfl⟩;let zA:=(au 91)
  open ahX in exact dw
 ·exact h.elim
def c94:az:=fun args bx K=>match args,bx with
 |[.str s],[]=>s.size<=900000∧∀b:Bool,K (.bool b) []
 |_,_=>False
def I1s (s:ByteArray) (j:Nat) (τ:aF):Prop:=∃n:Int,(0<=n∧n<=s.size)∧j=((s.size:Int)-n).toNat∧τ=⟨[(3,.int .i64 n),(0,.str s)],[]⟩
def ap6:=fN 94 Tryz.f94 37 [.tmp 2]
theorem ahW.xt {p:Prop} (g:p:=by ((first|exact yT|exact yP|exact rC|exact ry|fail);(repeat' (first|exact dw|fail));first|done|fail)):p:=g
theorem aoB:az.OK Tryz.prog 94 c94:=by
 intro args bx K0 h;unfold c94 at h;split at h
 ·rename_i s;obtain ⟨h0,-⟩:=h;refine ap6.okW (base:=0) rfl dM dM ?_;have B:=V.base (ae.cons YL ae.nil)
  conv=>whnf
  repeat' (first
  |with_reducible refine WP.seq ?_
  |(with_reducible first|refine Go.mk ?_|refine WP.qy B (au 94) ?_|refine WP.draw B (au 94) ?_|refine WP.cond ?_|refine WP.exit ?_|refine WP.skip ?_|refine WP.ret ?_);conv=>whnf
  |with_reducible refine WP.block ?_
  |with_reducible assumption
  |with_reducible refine And.intro ?_ ?_
  |exact cL
  |(with_reducible intro h);first|(cases h;done)|(try simp only [lG,reduceCtorEq] at h);first|done|(exfalso;omega)|replace h:=h trivial aZ|replace h:=h aZ|skip
  |fail)
  refine WP.loop (I1s s) ⟨0,⟨oM,oM⟩,rfl,rfl⟩ ?_;rintro j τ ⟨n,⟨g1,g2⟩,rfl,rfl⟩;let zA:=(au 94)
  open ahW in exact dw
 ·exact h.elim
def c67:az:=fun args bx K=>match args,bx with
 |[.str s],[]=>s.size<=900000∧∀b:Bool,K (.bool b) []
 |_,_=>False
def aqn:=fN 67 Tryz.f67 27 [.tmp 2]
theorem ahV.xt {p:Prop} (g:p:=by ((first|((with_reducible refine (?_:(0:Int)<_));first|exact GI aZ|omega)|((with_reducible refine (?_:WP _ _ _ (.loop _) _ _));(apply WP.loop (I1s s));(case h0=>exact ⟨0,⟨oM,oM⟩,rfl,rfl⟩);(case' h=>(rintro j τ ⟨n,⟨g1,g2⟩,rfl,rfl⟩)))|exact rC|exact ry|fail);(repeat' (first|exact dw|fail));first|done|fail)):p:=g
theorem aoK:az.OK Tryz.prog 67 c67:=by
 intro args bx K0 h;unfold c67 at h;split at h
 ·rename_i s;obtain ⟨h0,-⟩:=h;refine aqn.okW (base:=0) rfl dM dM ?_;have B:=V.base (ae.cons Sm (ae.cons aoB (ae.cons aje ae.nil)))
  conv=>whnf
  let zA:=(au 67)
  open ahV in exact dw
 ·exact h.elim
def c65:az:=fun args bx K=>match args,bx with
 |[.str s],[]=>s.size<=900000∧∀b:Bool,K (.bool b) []
 |_,_=>False
def aqp:=fN 65 Tryz.f65 19 [.tmp 2]
theorem ahU.xt {p:Prop} (g:p:=by ((first|exact ry|fail);(repeat' (first|exact dw|fail));first|done|fail)):p:=g
theorem aoM:az.OK Tryz.prog 65 c65:=by
 intro args bx K0 h;unfold c65 at h;split at h
 ·rename_i s;obtain ⟨h0,-⟩:=h;refine aqp.okW (base:=0) rfl dM dM ?_;have B:=V.base (ae.cons aoC ae.nil)
  conv=>whnf
  let zA:=(au 65)
  open ahU in exact dw
 ·exact h.elim
def c66:az:=fun args bx K=>match args,bx with
 |[.str s],[]=>s.size<=900000∧∀b:Bool,K (.bool b) []
 |_,_=>False
def aqo:=fN 66 Tryz.f66 30 [.tmp 2]
theorem ahT.xt {p:Prop} (g:p:=by ((first|exact ry|fail);(repeat' (first|exact dw|fail));first|done|fail)):p:=g
theorem aoL:az.OK Tryz.prog 66 c66:=by
 intro args bx K0 h;unfold c66 at h;split at h
 ·rename_i s;obtain ⟨h0,-⟩:=h;refine aqo.okW (base:=0) rfl dM dM ?_;have B:=V.base (ae.cons ajf ae.nil)
  conv=>whnf
  let zA:=(au 66)
  open ahT in exact dw
 ·exact h.elim
end V
end
end Go.Proofs.YtlmjabnkjmfcmaaGreat
