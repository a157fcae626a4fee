/- Own texts, joined and shortened by a program; no condition. -/
import Derived.Test.YtlmjabnkjmfcmaaGreatK14
namespace Go.Proofs.YtlmjabnkjmfcmaaGreat
open Go Go.RowKit Go.PlainAid
set_option linter.unusedVariables false
set_option linter.unusedSimpArgs false
set_option maxHeartbeats 20000000
set_option linter.defProp false
section
set_option maxRecDepth 100000
namespace V
open Ab
open Bk (Cm)
structure GrB (F:ByteArray->Int->Int×Bool) (m:Nat):Prop where
 akE:aC.OK Tryz.prog 114 (UC F m)
 k99:aC.OK Tryz.prog 99 (c99 m)
 k68:aC.OK Tryz.prog 68 (Zx m)
 akB:aC.OK Tryz.prog 131 (Uy m)
 akD:aC.OK Tryz.prog 120 (UB m)
 akC:aC.OK Tryz.prog 121 (UA F m)
theorem GrB.zero {F:ByteArray->Int->Int×Bool}:GrB F 0:=by
 constructor
 ·intro args bx K0 h;unfold UC at h;split at h
  ·obtain ⟨⟨-,-,-,-,-,h,-,h'⟩,-⟩:=h;omega
  ·exact h.elim
 ·intro args bx K0 h;unfold c99 at h;split at h
  ·obtain ⟨⟨-,-,-,-,-,h,-,-,h'⟩,-⟩:=h;omega
  ·exact h.elim
 ·intro args bx K0 h;unfold Zx at h;split at h
  ·obtain ⟨⟨-,-,-,-,-,h,-,h'⟩,-⟩:=h;omega
  ·exact h.elim
 ·intro args bx K0 h;unfold Uy at h;split at h
  ·obtain ⟨⟨-,-,-,-,-,h,-,h'⟩,-⟩:=h;omega
  ·exact h.elim
 ·intro args bx K0 h;unfold UB at h;split at h
  ·obtain ⟨⟨-,-,-,-,-,h,h'⟩,-⟩:=h;omega
  ·exact h.elim
 ·intro args bx K0 h;unfold UA at h;split at h
  ·obtain ⟨⟨-,-,-,-,-,h,-,h'⟩,-⟩:=h;omega
  ·exact h.elim
theorem grB {F:ByteArray->Int->Int×Bool} (i119:aC.OK Tryz.prog 119 (MC F)) (i135:aC.OK Tryz.prog 135 Ep):∀m,GrB F m
 |0=>GrB.zero
 |m+1=>by have g:=grB i119 i135 m;exact ⟨af3 g.akD g.akC,aj5 i119 i135 g.akE,akc g.k99,afU g.k68,afY g.k68,afX i119 i135 g.k68 g.akB⟩
theorem aa7 (s:ByteArray) (p:Int) (h:s.size<=900000∧0<=p∧p<=s.size):∃qb:Int×Bool,aW Tryz.prog 119 [.str s,.int .i64 p] [] (.bX [.int .i64 qb.1,.bool qb.2]) []∧(qb.2=true->p<=qb.1∧qb.1<s.size):=by obtain ⟨r,b,h1,-,-,h4⟩:=aaV [.str s,.int .i64 p] [] (fun _ _=>True) ⟨h,fun _ _=>trivial,trivial⟩;obtain ⟨rfl,qb,rfl,h5⟩:=h4 (fun v bx=>bx=[]∧∃qb:Int×Bool,v=.bX [.int .i64 qb.1,.bool qb.2]∧(qb.2=true->p<=qb.1∧qb.1<s.size)) ⟨h,fun q hq=>⟨rfl,(q,true),rfl,fun _=>hq⟩,⟨rfl,(0,false),rfl,fun h=>by cases h⟩⟩;exact ⟨qb,h1,h5⟩
theorem Wq:∃F:ByteArray->Int->Int×Bool,aC.OK Tryz.prog 119 (MC F):=by
 have hh:∀(s:ByteArray) (p:Int),∃qb:Int×Bool,(s.size<=900000∧0<=p∧p<=s.size)->aW Tryz.prog 119 [.str s,.int .i64 p] [] (.bX [.int .i64 qb.1,.bool qb.2]) []∧(qb.2=true->p<=qb.1∧qb.1<s.size):=by
  intro s p;by_cases h:s.size<=900000∧0<=p∧p<=s.size
  ·obtain ⟨qb,h1⟩:=aa7 s p h;exact ⟨qb,fun _=>h1⟩
  ·exact ⟨(0,false),fun h'=>absurd h' h⟩
 refine ⟨fun s p=>Classical.choose (hh s p),fun args bx K0 h=>?_⟩;unfold MC at h;split at h
 ·rename_i s p;obtain ⟨h1,h2⟩:=Classical.choose_spec (hh s p) h.1;exact ⟨_,[],h1,rfl,rfl,fun K hK=>hK.2 h2⟩
 ·exact h.elim
theorem Wd (i135:aC.OK Tryz.prog 135 Ep):aC.OK Tryz.prog 68 (Zx 453):=by obtain ⟨F,hF⟩:=Wq;exact (grB hF i135 453).k68
structure ZM (s:ByteArray) (a q:Int):Prop where
 out:∀(l:List Cm) (sm:Bool) (k:Nat),Bk.qE s a.toNat 0 false=some (l,sm,k)->qo s k=false->a<q
def c37:aC:=fun args bx K=>match args,bx with
 |[.str s,.int .i64 a,.bool be],[]=>(s.size<=20000∧0<=a∧a<=s.size)∧(∀(x:Nd) (q:Int) (L:List Cm),BW x->(a<=q∧q<=s.size∧wt x+L.length<=160100*(q-a)+1)->(be=false->ZM s a q)->K (.bX [.agg (bF x),cs L,.int .i64 q,.int .i64 0]) [])∧K (.bX [.agg (bF BO),.nil,.nP .i64,.nz .i64]) []
 |_,_=>False
def al0:=fN 37 Tryz.f37 65 [.cell 6 35,.tmp 7,.tmp 8,.tmp 9]
theorem akm (i135:aC.OK Tryz.prog 135 Ep):aC.OK Tryz.prog 37 c37:=by
 intro args bx K0 h;unfold c37 at h;split at h
 ·rename_i s a be;obtain ⟨⟨h0,h1,h2⟩,-⟩:=h;have hs:s.size<=900000:=oM;have B:=V.base (af.cons (Wd i135) (af.cons RX (af.cons Jv af.nil)));refine al0.okW (base:=0) rfl dz dz ?_
  conv=>whnf
  repeat' (first
  |with_reducible refine WP.seq ?_
  |(with_reducible first|refine Go.mk ?_|refine WP.oC B (aH 37) ?_|refine WP.draw B (aH 37) ?_|refine WP.cond ?_|refine WP.exit ?_|refine WP.skip ?_|refine WP.ret ?_);conv=>whnf
  |with_reducible refine WP.block ?_
  |with_reducible assumption
  |((with_reducible refine (?_:Pn _));first|exact .inl rfl|exact .inr ⟨_,rfl⟩)
  |(with_reducible refine (?_:ag _ _ _ _ _));first|exact ag.aU kV kV dz dz fun K hK=>hK.2.2
  |with_reducible refine And.intro ?_ ?_
  |exact cL
  |(with_reducible intro h);first|(cases h;done)|(try simp only [lG,reduceCtorEq] at h);first|done|(exfalso;omega)|replace h:=h trivial aZ|replace h:=h aZ|skip
  |fail)
  all_goals
   have e:max (0:Int) (min a s.size)=a:=oM;simp only [e] at*;exact ag.aU kV kV dz dz fun K hK=>hK.2.1 _ _ _ aZ aZ (fun hb=>⟨(by assumption:be=false->∀(l:List Cm) (sm:Bool) (k:Nat),Bk.qE s a.toNat 0 false=some (l,sm,k)->qo s k=false->a<_) hb⟩)
 ·exact h.elim
def aiv:aC:=fun args bx K=>match args,bx with
 |[.str s,.int .i64 a],[]=>(s.size<=900000∧0<=a∧a<=s.size)∧(∀f t:Int,f=(Bk.bG s a.toNat:Nat)->t=(Bk.l7 s a.toNat:Nat)->(0<=f∧f<=a∧a<=t∧t<=s.size)->K (.bX [.int .i64 f,.int .i64 t]) [])
 |_,_=>False
theorem YN:aC.OK Tryz.prog 32 aiv:=by
 refine il (g:=Hy fun s a=>some (.bX [.int .i64 (Bk.bG s (Bk.aY s a):Nat),.int .i64 (Bk.l7 s (Bk.aY s a):Nat)])) rfl fun args bx K0 h=>?_;unfold aiv at h;split at h
 ·rename_i s a;obtain ⟨⟨h0,h1,h2⟩,-⟩:=h;have e:Bk.aY s a=a.toNat:=by unfold Bk.aY;omega
  refine ⟨rfl,_,by show (if _ then _ else _)=_;rw [if_pos h0],rfl,fun K hK=>?_⟩;rw [e];have g1:=Bk.fT s a.toNat;have g2:=Bk.rM s a.toNat;have g3:=Bk.tC (s:=s) (k:=a.toNat) oM;exact hK.2 _ _ rfl rfl ⟨oM,oM,oM,oM⟩
 ·exact h.elim
def aiF:aC:=fun args bx K=>match args,bx with
 |[.str s,.int .i64 f,.int .i64 t],[]=>(s.size<=900000∧0<=f∧f<=s.size∧0<=t∧t<=s.size)∧∀b:Bool,K (.bool b) []
 |_,_=>False
def ahB:=fN 144 Tryz.f144 14 [.tmp 6]
theorem adC.xt {p:Prop} (g:p:=by ((first|exact IQ|fail);(repeat' (first|exact bN|fail));first|done|fail)):p:=g
theorem afI:aC.OK Tryz.prog 144 aiF:=by
 intro args bx K0 h;unfold aiF at h;split at h
 ·rename_i s f t;obtain ⟨⟨h0,h1,h2,h3,h4⟩,-⟩:=h;refine ahB.okW (base:=0) rfl dz dz ?_;have B:=V.base (af.cons V3 af.nil)
  conv=>whnf
  let zA:=(aH 144)
  open adC in exact bN
 ·exact h.elim
def SlS (v:AV) (ts:List ByteArray):Prop:=(v=.nil∧ts=[])∨v=.sl ts.length (cO ts)
def aiE:aC:=fun args bx K=>match args,bx with
 |[v,.bool fo],[]=>∃ts:List ByteArray,SlS v ts∧Bk.gy ts ts.length<=500000000∧ts.length<=100000∧∀t:ByteArray,t.size<=500000000->K (.str t) []
 |_,_=>False
theorem IC (ts:List ByteArray):∀n,n<=Bk.gy ts n
 |0=>Nat.le_refl _
 |n+1=>by have:=IC ts n;rw [Bk.gy];omega
theorem exR {ts:List ByteArray} {i j:Nat} {Q:AV->List AV->Prop} (hj:j=i) (hi:i<ts.length) (h:∀r,Bk.gy ts (i+1)=Bk.gy ts i+(Bk.rowAt ts i).size+1->Bk.gy ts (i+1)<=Bk.gy ts ts.length->Q (.str (Bk.rowAt ts i)) r):∃v r,List.drop (j*1) (cO ts)=v::r∧Q v r:=by
 subst hj;refine ⟨.str (Bk.rowAt ts j),(cO ts).drop (j+1),?_,h _ (by rw [Bk.gy]) ?_⟩
 ·rw [Nat.mul_one,List.drop_eq_getElem_cons (by rw [Ci];exact hi)];congr 1;unfold Bk.rowAt;rw [List.getD_eq_getElem?_getD,List.getElem?_eq_getElem hi];exact List.getElem_map _
 ·have:=Bk.vQ ts (j+1) (ts.length-(j+1));rw [show j+1+(ts.length-(j+1))=ts.length by omega] at this;exact this
theorem Ya {ts:List ByteArray} {i:Int} (h:i<=ts.length):Bk.gy ts i.toNat<=Bk.gy ts ts.length:=by have:=Bk.vQ ts i.toNat (ts.length-i.toNat);rw [show i.toNat+(ts.length-i.toNat)=ts.length by omega] at this;exact this
theorem aaE {s:ByteArray} (h:¬s={data:=#[]}):(0:Int)<s.size:=Bn h
def J1L (ts:List ByteArray) (v:AV) (fo:Bool) (j:Nat) (τ:aJ):Prop:=∃(i:Int) (t:ByteArray),(0<=i∧i<=ts.length)∧(t.size<=Bk.gy ts i.toNat)∧j=((ts.length:Int)-i).toNat∧τ=⟨[(6,.int .i64 i),(5,.str t),(0,v)],[]⟩
def J2L (ts:List ByteArray) (v:AV) (j:Nat) (τ:aJ):Prop:=∃(i l b:Int) (t:ByteArray),(0<=i∧i<=ts.length)∧(0<=b∧b<=i)∧(l<0∨l<i∧0<(Bk.rowAt ts l.toNat).size)∧(t.size+b<=Bk.gy ts i.toNat)∧j=((ts.length:Int)-i).toNat∧τ=⟨[(9,.int .i64 i),(8,.int .i64 b),(7,.int .i64 l),(5,.str t),(0,v)],[]⟩
def Zn:=fN 145 Tryz.f145 97 [.tmp 4]
theorem adB.xt {p:Prop} (g:p:=by ((first|exact K6|((with_reducible refine (?_:(0:Int)<_));first|exact aaE aZ|omega)|exact aah|((with_reducible refine (?_:∃(v:AV) (r:List AV),_=v::r∧_));refine exR rfl oM ?_;intro r1 f1 f2)|exact Yz|exact YC|exact YB|exact YA|fail);(repeat' (first|exact bN|fail));first|done|fail)):p:=g
theorem adA.xt {p:Prop} (g:p:=by ((first|exact K6|((with_reducible refine (?_:(0:Int)<_));first|exact aaE aZ|omega)|exact aah|((with_reducible refine (?_:∃(v:AV) (r:List AV),_=v::r∧_));refine exR rfl oM ?_;intro r1 f1 f2)|exact Yz|exact YC|exact YB|exact YA|fail);(repeat' (first|exact bN|fail));first|done|fail)):p:=g
theorem afH:aC.OK Tryz.prog 145 aiE:=by
 intro args bx K0 h;unfold aiE at h;split at h
 ·rename_i v fo;obtain ⟨ts,h1,h2,hn,-⟩:=h;have e32:({data:=#[32]}:ByteArray).size=1:=rfl;have e10:({data:=#[10]}:ByteArray).size=1:=rfl;have B:=V.base (af.cons RY (af.cons Nt af.nil));rcases h1 with ⟨rfl,rfl⟩|rfl
  ·refine Zn.okW (base:=0) rfl dz dz ?_
   conv=>whnf
   let zA:=(aH 145)
   open adB in exact bN
  ·refine Zn.okW (base:=0) rfl (by simp [gZ,wv,ek]) rfl ?_
   conv=>whnf
   let zA:=(aH 145)
   open adA in exact bN
 ·exact h.elim
def aiG:aC:=fun args bx K=>match args,bx with
 |[.str s,.int .i64 a],[]=>(s.size<=900000∧0<=a∧a<s.size∧bt s a.toNat≠10)∧(∀(te d c:Int) (note:ByteArray) (dV:Bool),(a<te∧te<=s.size∧0<=d∧d<=255)->(dV=false->note=ByteArray.empty)->K (.bX [.int .i64 te,.int .i64 d,.int .u8 c,.str note,.bool dV,.int .i64 (-1)]) [])∧(∀q:Int,0<=q->K (.bX [.int .i64 0,.int .i64 0,.int .u8 0,.str ByteArray.empty,.bool false,.int .i64 q]) [])
 |_,_=>False
theorem Z7 {s:ByteArray} {k:Nat} {p:Int} (h1:p<=Bk.l7 s k) (h2:p<s.size) (h0:0<=p) (h3:bt s p.toNat≠10):p+1<=Bk.l7 s k:=by
 rcases Int.lt_or_le p (Bk.l7 s k) with h|h
 ·omega
 ·have e:p.toNat=Bk.l7 s k:=oM;have:=Bk.F3 (s:=s) (k:=k) oM;rw [←e] at this;exact absurd this h3
def HL (s:ByteArray) (a:Int) (j:Nat) (τ:aJ):Prop:=∃i p d c:Int,(0<=i∧i<=2∧a<p∧p<=Bk.l7 s a.toNat∧0<=d∧d<=255)∧j=(2-i).toNat∧τ=⟨[(13,.int .i64 i),(12,.int .u8 c),(11,.int .i64 d),(10,.int .i64 p),(1,.int .i64 a),(0,.str s)],[]⟩
def ahC:=fN 143 Tryz.f143 106 [.tmp 4,.tmp 5,.tmp 6,.tmp 7,.tmp 8,.tmp 9]
theorem adz.xt {p:Prop} (g:p:=by ((first|((with_reducible refine (?_:(_:Nat)<=_));rw [ByteArray.size_extract];omega)|((with_reducible refine (?_:(_:Int)<=_));simp only [IntKind.wrap_u8] at*;omega)|((with_reducible refine (?_:∃(j:Nat) (τ':aJ),j<_∧Rx 0 _ τ'∧_));(refine ⟨(2-(i+1)).toNat,_,oM,Rx.refl,i+1,_,_,_,⟨oM,oM,?_,?_,?_,?_⟩,rfl,rfl⟩);(all_goals first|omega|(simp only [IntKind.wrap_u8] at*;omega)|exact Z7 oM oM oM oM))|((with_reducible refine (?_:ag _ _ _ _ _));first|exact ag.aU kV kV dz dz fun K hK=>hK.2.1 _ _ _ _ _ ⟨oM,oM,oM,oM⟩ (fun h=>by first|(cases h;done)|rfl)|exact ag.aU kV kV dz dz fun K hK=>hK.2.2 _ oM)|fail);(repeat' (first|exact bN|fail));first|done|fail)):p:=g
theorem afJ:aC.OK Tryz.prog 143 aiG:=by
 intro args bx K0 h;unfold aiG at h;split at h
 ·rename_i s a;obtain ⟨⟨h0,h1,h2,h3⟩,-⟩:=h;refine ahC.okW (base:=0) rfl dz dz ?_;have B:=V.base (af.cons YN (af.cons Eh (af.cons aaU af.nil)))
  conv=>whnf
  repeat' (first
  |with_reducible refine WP.seq ?_
  |(with_reducible first|refine Go.mk ?_|refine WP.oC B (aH 143) ?_|refine WP.draw B (aH 143) ?_|refine WP.cond ?_|refine WP.exit ?_|refine WP.skip ?_|refine WP.ret ?_);conv=>whnf
  |with_reducible refine WP.block ?_
  |with_reducible assumption
  |with_reducible refine And.intro ?_ ?_
  |exact cL
  |(with_reducible intro h);first|(cases h;done)|(try simp only [lG,reduceCtorEq] at h);first|done|(exfalso;omega)|replace h:=h trivial aZ|replace h:=h aZ|skip
  |fail)
  have hT:a+1<=Bk.l7 s a.toNat:=Z7 (by have:=Bk.rM s a.toNat;omega) h2 h1 h3;have hT2:(Bk.l7 s a.toNat:Int)<=s.size:=by have:=Bk.tC (s:=s) (k:=a.toNat) oM;omega
  refine WP.loop (HL s a) ⟨0,a+1,0,0,⟨oM,oM,oM,hT,oM,oM⟩,rfl,rfl⟩ ?_;rintro j τ ⟨i,p,d,c,⟨g1,g2,g3,g4,g5,g6⟩,rfl,rfl⟩;let zA:=(aH 143)
  open adz in exact bN
 ·exact h.elim
def xL (a y:Int) (note:ByteArray) (dV:Bool):List AV:=[.int .i64 1,.int .i64 y,.int .i64 a,.int .i64 0,.str ByteArray.empty,.str ByteArray.empty,.str ByteArray.empty,.nil,.nil,.nil,.bool dV,.str note]
def XK (y:Int) (note:ByteArray) (dV:Bool):Prop:=(y=4∨y=5)∧(dV=false->note=ByteArray.empty)
def BJ1 (s:ByteArray) (a:Int) (τ:aJ):Prop:=∃(b w y c d:Int) (note:ByteArray) (dV:Bool),XK y note dV∧(a<b∧b<=s.size∧0<=w∧w<=40000)∧τ=⟨[(17,.int .i64 w),(16,.int .i64 b),(15,.ptr 1 0),(11,.int .u8 c),(10,.int .i64 d),(6,.ptr 0 0),(0,.str s)],[zB,xL a y note dV]⟩
def BL1 (s:ByteArray) (a n:Int) (j:Nat) (τ:aJ):Prop:=∃(p b w y c d:Int) (note:ByteArray) (dV:Bool),XK y note dV∧(a<b∧b<=s.size∧0<=w∧w<=40000∧0<=p∧p<=s.size+1)∧j=((s.size:Int)+1-p).toNat∧τ=⟨[(18,.int .i64 p),(17,.int .i64 w),(16,.int .i64 b),(15,.ptr 1 0),(11,.int .u8 c),(10,.int .i64 d),(6,.ptr 0 0),(2,.int .i64 n),(0,.str s)],[zB,xL a y note dV]⟩
def RK (s:ByteArray) (a p la bh:Int) (ts:List ByteArray):Prop:=(a<p∧p<=s.size+1∧-1<=la∧la<ts.length∧0<=bh∧bh<=s.size)∧(Bk.gy ts ts.length:Int)<=20001*p∧(ts.length:Int)<=p
def BL2 (s:ByteArray) (a:Int) (j:Nat) (τ:aJ):Prop:=∃(p la bh w y c d:Int) (note:ByteArray) (dV fi:Bool) (ts:List ByteArray),XK y note dV∧RK s a p la bh ts∧(0<=w∧w<=40000)∧j=((s.size:Int)+1-p).toNat∧τ=⟨[(26,.bool fi),(25,.int .i64 bh),(24,.int .i64 la),(23,.int .i64 p),(22,.row 9 1 ts.length (cO ts)),(17,.int .i64 w),(15,.ptr 1 0),(11,.int .u8 c),(10,.int .i64 d),(6,.ptr 0 0),(0,.str s)],[zB,xL a y note dV]⟩
def BJ2 (s:ByteArray) (a:Int) (τ:aJ):Prop:=∃(p la bh y c:Int) (note:ByteArray) (dV:Bool) (ts:List ByteArray),XK y note dV∧RK s a p la bh ts∧τ=⟨[(25,.int .i64 bh),(24,.int .i64 la),(23,.int .i64 p),(22,.row 9 1 ts.length (cO ts)),(15,.ptr 1 0),(11,.int .u8 c),(6,.ptr 0 0),(0,.str s)],[zB,xL a y note dV]⟩
def BL3 (s:ByteArray) (a p la y c:Int) (note:ByteArray) (dV:Bool) (ts:List ByteArray) (j:Nat) (τ:aJ):Prop:=∃(i fe:Int),(0<=i∧0<=fe∧fe<=i∧i<=s.size)∧j=(p-i).toNat∧τ=⟨[(33,.int .i64 i),(32,.int .i64 fe),(24,.int .i64 la),(23,.int .i64 p),(22,.row 9 1 ts.length (cO ts)),(15,.ptr 1 0),(11,.int .u8 c),(6,.ptr 0 0),(0,.str s)],[zB,xL a y note dV]⟩
theorem ams {s:ByteArray} {bh la p w c d:Int} {fi:Bool} {bx:List (List AV)}:Rx 0 ⟨[(26,.bool fi),(25,.int .i64 bh),(24,.int .i64 la),(23,.int .i64 p),(22,.nil),(17,.int .i64 w),(15,.ptr 1 0),(11,.int .u8 c),(10,.int .i64 d),(6,.ptr 0 0),(0,.str s)],bx⟩ ⟨[(26,.bool fi),(25,.int .i64 bh),(24,.int .i64 la),(23,.int .i64 p),(22,.row 9 1 ([]:List ByteArray).length (cO [])),(17,.int .i64 w),(15,.ptr 1 0),(11,.int .u8 c),(10,.int .i64 d),(6,.ptr 0 0),(0,.str s)],bx⟩:=by
 intro hσ;refine Rx.wv ?_ ?_ ?_ hσ
 ·have:∀b:List (List AV),Qh b b:=by
   intro b
   induction b with
   |nil=>exact .nil
   |cons x r ih=>exact .cons .refl ih
  exact this bx
 ·exact .cons .refl (.cons .refl (.cons .refl (.cons .refl (.cons .mo (.cons .refl (.cons .refl (.cons .refl (.cons .refl (.cons .refl (.cons .refl .nil))))))))))
 ·exact ⟨rfl,hσ.bx⟩
theorem yj {ts:List ByteArray} {t:ByteArray}:Bk.gy (ts++[t]) (ts++[t]).length=Bk.gy ts ts.length+t.size+1:=by
 have h:∀n,n<=ts.length->Bk.gy (ts++[t]) n=Bk.gy ts n:=by
  intro n
  induction n with
  |zero=>intro _;rfl
  |succ n ih=>
   intro hn;rw [Bk.gy,Bk.gy,ih oM];unfold Bk.rowAt;rw [List.getD_eq_getElem?_getD,List.getD_eq_getElem?_getD,List.getElem?_append_left oM]
 rw [List.length_append,List.length_cons,List.length_nil,Bk.gy,h _ (Nat.le_refl _)];unfold Bk.rowAt;rw [List.getD_eq_getElem?_getD,List.getElem?_append_right (Nat.le_refl _),Nat.sub_self];rfl
theorem RK.add {s:ByteArray} {a p la bh p' la' bh':Int} {ts:List ByteArray} {t:ByteArray} (h:RK s a p la bh ts) (ht:t.size<=20000) (h1:p<p'∧p'<=s.size+1∧-1<=la'∧la'<=ts.length∧0<=bh'∧bh'<=s.size):RK s a p' la' bh' (ts++[t]):=by
 obtain ⟨⟨a1,a2,a3,a4,a5,a6⟩,b,c⟩:=h;refine ⟨⟨oM,oM,oM,?_,oM,oM⟩,?_,?_⟩
 ·rw [List.length_append,List.length_cons,List.length_nil];omega
 ·rw [yj];omega
 ·rw [List.length_append,List.length_cons,List.length_nil];omega
theorem BL2.mk {s:ByteArray} {a p la bh w y c d:Int} {note:ByteArray} {dV fi:Bool} {ts:List ByteArray} {N:Nat} {C:List AV} (hX:XK y note dV) (hR:RK s a p la bh ts) (hw:0<=w∧w<=40000) (hN:N=ts.length) (hC:C=cO ts):BL2 s a ((s.size:Int)+1-p).toNat ⟨[(26,.bool fi),(25,.int .i64 bh),(24,.int .i64 la),(23,.int .i64 p),(22,.row 9 1 N C),(17,.int .i64 w),(15,.ptr 1 0),(11,.int .u8 c),(10,.int .i64 d),(6,.ptr 0 0),(0,.str s)],[zB,xL a y note dV]⟩:=by subst hN hC;exact ⟨p,la,bh,w,y,c,d,note,dV,fi,ts,hX,hR,hw,rfl,rfl⟩
theorem OW {ts:List ByteArray}:∀n,n<=ts.length->Bk.gy (ts.take n) (ts.take n).length<=Bk.gy ts ts.length:=by
 intro n hn;have h:∀k,k<=n->Bk.gy (ts.take n) k=Bk.gy ts k:=by
  intro k
  induction k with
  |zero=>intro _;rfl
  |succ k ih=>
   intro hk;rw [Bk.gy,Bk.gy,ih oM];unfold Bk.rowAt;rw [List.getD_eq_getElem?_getD,List.getD_eq_getElem?_getD,List.getElem?_take,if_pos oM]
 rw [List.length_take,Nat.min_eq_left hn,h n (Nat.le_refl _)];have:=Bk.vQ ts n (ts.length-n);rw [show n+(ts.length-n)=ts.length by omega] at this;exact this
theorem SlS.take {ts:List ByteArray} {n:Nat} (hn:n<=ts.length):SlS (.sl n (List.take (n*1) (cO ts))) (ts.take n):=by refine .inr ?_;rw [List.length_take,Nat.min_eq_left hn,Nat.mul_one,cO,cO,List.map_take]
theorem XK.fw {y:Int} {note:ByteArray} {dV:Bool} (h:XK y note dV):xX 1 y [] [] dV note:=.mk ⟨.inl ⟨rfl,by have:=h.1;omega,by have:=h.1;omega,rfl,rfl⟩,h.2⟩ (by intro z hz;cases hz)
theorem FM {k j:Nat} {τ τ':aJ} {I:Nat->aJ->Prop} (hi:I j τ') (hr:Rx 0 τ τ') (hj:j<k):∃j τ',j<k∧Rx 0 τ τ'∧I j τ':=⟨j,τ',hj,hr,hi⟩
def ahH:=fN 135 Tryz.f135 257 [.cell 6 35,.tmp 7,.tmp 8]
theorem ady.xt {p:Prop} (g:p:=by ((first|((with_reducible refine (?_:WP _ _ _ (.loop _) _ _));(apply WP.loop (BL3 s a (min p s.size) la y c note dV ts));(case h0=>(exact ⟨bh,0,⟨oM,oM,oM,oM⟩,rfl,rfl⟩));(case' h=>(rintro j τ ⟨i,fe,hi,rfl,rfl⟩)))|((with_reducible refine (?_:∃(j:Nat) (τ':aJ),j<_∧Rx 0 _ τ'∧_));(refine ⟨_,_,?_,Rx.refl,i+1,_,⟨oM,oM,oM,oM⟩,rfl,rfl⟩);omega)|((with_reducible refine (?_:∃ts,SlS _ ts∧_));refine ⟨_,SlS.take (ts:=ts) oM,Nat.le_trans (OW _ oM) oM,by rw [List.length_take];omega,?_⟩)|((with_reducible refine (?_:ag _ _ _ _ _));first|exact ag.aU kV kV dz dz fun K hK=>hK.2.1 (.mk _ _ _ _ _ _ _ _ _ _ _ _) _ hX.fw ⟨by simp [uR,gm,Nd.lead,Nd.ae,Nd.kids],rfl,oM,oM⟩)|fail);(repeat' (first|exact bN|fail));first|done|fail)):p:=g
theorem afR:aC.OK Tryz.prog 135 Ep:=by
 intro args bx K0 h;unfold Ep at h;split at h
 ·rename_i s a n;obtain ⟨⟨h0,h1,h2⟩,-⟩:=h;have hs:s.size<=900000:=oM;have B:=V.base (af.cons afJ (af.cons afI (af.cons afH (af.cons R3 (af.cons Gp (af.cons V3 (af.cons Nt af.nil)))))));refine ahH.okW (base:=0) rfl dz dz ?_
  conv=>whnf
  repeat' (first
  |(with_reducible refine WP.cut (x:=.seq (.region 11 _ _) _) (BJ1 s a) ?_ ?_)
  |with_reducible refine WP.seq ?_
  |(with_reducible first|refine Go.mk ?_|refine WP.oC B (aH 135) ?_|refine WP.draw B (aH 135) ?_|refine WP.cond ?_|refine WP.exit ?_|refine WP.skip ?_|refine WP.ret ?_);conv=>whnf
  |with_reducible refine WP.block ?_
  |with_reducible assumption
  |((with_reducible refine (?_:WP _ _ _ (.loop _) _ _));(apply WP.loop (BL1 s a n));(case h0=>(refine ⟨_,_,_,_,_,_,_,_,(by refine ⟨by first|exact .inl rfl|exact .inr rfl,?_⟩;assumption),⟨oM,oM,oM,oM,oM,oM⟩,rfl,rfl⟩));(case' h=>(rintro j τ ⟨p,b,w,y,c,d,note,dV,hX,hp,rfl,rfl⟩)))
  |((with_reducible refine (?_:∃(j:Nat) (τ':aJ),j<_∧Rx 0 _ τ'∧_));(refine ⟨_,_,?_,Rx.refl,_,_,_,_,_,_,_,_,hX,⟨oM,oM,oM,oM,oM,oM⟩,rfl,rfl⟩);omega)
  |((with_reducible refine (?_:∃τ',Rx 0 _ τ'∧BJ1 _ _ _));(refine ⟨_,Rx.prune [17,16,15,11,10,6,0],_,_,_,_,_,_,_,(by first|assumption|exact (by refine ⟨by first|exact .inl rfl|exact .inr rfl,?_⟩;assumption)),⟨oM,oM,oM,oM⟩,rfl⟩))
  |(with_reducible refine (?_:ag _ _ _ _ _));first|exact ag.aU kV kV dz dz fun K hK=>hK.2.2 _
  |with_reducible refine And.intro ?_ ?_
  |exact cL
  |(with_reducible intro h);first|(cases h;done)|(try simp only [lG,reduceCtorEq] at h);first|done|(exfalso;omega)|replace h:=h trivial aZ|replace h:=h aZ|skip
  |fail)
  all_goals
   refine aR.mk ?_;rintro τ ⟨b,w,y,c,d,note,dV,hX,⟨g1,g2,g3,g4⟩,rfl⟩
   repeat' (first
   |(with_reducible refine WP.cut (x:=.block 2 _) (BJ2 s a) ?_ ?_)
   |with_reducible refine WP.seq ?_
   |(with_reducible first|refine Go.mk ?_|refine WP.oC B (aH 135) ?_|refine WP.draw B (aH 135) ?_|refine WP.cond ?_|refine WP.exit ?_|refine WP.skip ?_|refine WP.ret ?_);conv=>whnf
   |with_reducible refine WP.block ?_
   |with_reducible assumption
   |((with_reducible refine (?_:AV.wN _=true));rfl)
   |((with_reducible refine (?_:WP _ _ _ (.loop _) _ _));(refine WP.jB ams ?_);(apply WP.loop (BL2 s a));(case h0=>(exact ⟨b,-1,b,w,y,c,d,note,dV,true,[],hX,⟨⟨oM,oM,oM,by simp,oM,oM⟩,by (show ((0:Nat):Int)<=_);omega,by simp;omega⟩,⟨g3,g4⟩,rfl,rfl⟩));(case' h=>(rintro j τ ⟨p,la,bh,w,y,c,d,note,dV,fi,ts,hX,hR,hw,rfl,rfl⟩;obtain ⟨⟨k1,k2,k3,k4,k5,k6⟩,k7,k8⟩:=id hR)))
   |((with_reducible refine (?_:∃(j:Nat) (τ':aJ),j<_∧Rx 0 _ τ'∧_));(apply FM);(case' hi=>(apply BL2.mk (ts:=ts++[_]) hX));(case hr=>exact Rx.refl);(case hC=>exact rW);(case hN=>(rw [List.length_append];rfl));(case hw=>exact hw);(case hR=>exact hR.add (by first|(rw [ByteArray.size_extract];omega)|(show ByteArray.size ⟨#[]⟩<=20000;decide)) ⟨oM,oM,oM,oM,oM,oM⟩);(case hj=>omega))
   |((with_reducible refine (?_:∃τ',Rx 0 _ τ'∧BJ2 _ _ _));(refine ⟨_,Rx.prune [25,24,23,22,15,11,6,0],_,_,_,_,_,_,_,_,hX,hR,rfl⟩))
   |(with_reducible refine (?_:ag _ _ _ _ _));first|exact ag.aU kV kV dz dz fun K hK=>hK.2.2 _
   |with_reducible refine And.intro ?_ ?_
   |exact cL
   |(with_reducible intro h);first|(cases h;done)|(try simp only [lG,reduceCtorEq] at h);first|done|(exfalso;omega)|replace h:=h trivial aZ|replace h:=h aZ|skip
   |fail)
   all_goals
    refine aR.mk ?_;rintro τ ⟨p,la,bh,y,c,note,dV,ts,hX,hR,rfl⟩;obtain ⟨⟨k1,k2,k3,k4,k5,k6⟩,k7,k8⟩:=id hR;let zA:=(aH 135)
    open ady in exact bN
 ·exact h.elim
def c91:aC:=fun args bx K=>match args,bx with
 |[.str s,.int .i64 a,.int .i32 m],[]=>(s.size<=900000∧0<=a∧a<=s.size)∧∀n:Int,(0<=n∧a+n<=s.size)->K (.int .i64 n) []
 |_,_=>False
def DL (s:ByteArray) (a m:Int) (j:Nat) (τ:aJ):Prop:=∃n:Int,(0<=n∧a+n<=s.size)∧j=((s.size:Int)-n).toNat∧τ=⟨[(7,.int .i64 n),(2,.int .i32 m),(1,.int .i64 a),(0,.str s)],[]⟩
def alz:=fN 91 Tryz.f91 36 [.tmp 6]
theorem adx.xt {p:Prop} (g:p:=by ((first|exact aai|exact aaj|exact Rp|((with_reducible refine (?_:ag _ _ _ _ _));first|exact ag.aU kV kV dz dz fun K hK=>hK.2 _ ⟨oM,oM⟩)|fail);(repeat' (first|exact bN|fail));first|done|fail)):p:=g
theorem aj7:aC.OK Tryz.prog 91 c91:=by
 intro args bx K0 h;unfold c91 at h;split at h
 ·rename_i s a m;obtain ⟨⟨h0,h1,h2⟩,-⟩:=h;refine alz.okW (base:=0) rfl dz dz ?_;have B:=V.base (af.cons Sd af.nil)
  conv=>whnf
  repeat' (first
  |with_reducible refine WP.seq ?_
  |(with_reducible first|refine Go.mk ?_|refine WP.oC B (aH 91) ?_|refine WP.draw B (aH 91) ?_|refine WP.cond ?_|refine WP.exit ?_|refine WP.skip ?_|refine WP.ret ?_);conv=>whnf
  |with_reducible refine WP.block ?_
  |with_reducible assumption
  |with_reducible refine And.intro ?_ ?_
  |exact cL
  |(with_reducible intro h);first|(cases h;done)|(try simp only [lG,reduceCtorEq] at h);first|done|(exfalso;omega)|replace h:=h trivial aZ|replace h:=h aZ|skip
  |fail)
  refine WP.loop (DL s a m) ⟨0,⟨oM,oM⟩,rfl,rfl⟩ ?_;rintro j τ ⟨n,⟨g1,g2⟩,rfl,rfl⟩;let zA:=(aH 91)
  open adx in exact bN
 ·exact h.elim
def c94:aC:=fun args bx K=>match args,bx with
 |[.str s],[]=>s.size<=900000∧∀b:Bool,K (.bool b) []
 |_,_=>False
def I1s (s:ByteArray) (j:Nat) (τ:aJ):Prop:=∃n:Int,(0<=n∧n<=s.size)∧j=((s.size:Int)-n).toNat∧τ=⟨[(3,.int .i64 n),(0,.str s)],[]⟩
def alx:=fN 94 Tryz.f94 37 [.tmp 2]
theorem adw.xt {p:Prop} (g:p:=by ((first|exact aai|exact aaj|exact Rp|exact IQ|fail);(repeat' (first|exact bN|fail));first|done|fail)):p:=g
theorem aj6:aC.OK Tryz.prog 94 c94:=by
 intro args bx K0 h;unfold c94 at h;split at h
 ·rename_i s;obtain ⟨h0,-⟩:=h;refine alx.okW (base:=0) rfl dz dz ?_;have B:=V.base (af.cons Sd af.nil)
  conv=>whnf
  repeat' (first
  |with_reducible refine WP.seq ?_
  |(with_reducible first|refine Go.mk ?_|refine WP.oC B (aH 94) ?_|refine WP.draw B (aH 94) ?_|refine WP.cond ?_|refine WP.exit ?_|refine WP.skip ?_|refine WP.ret ?_);conv=>whnf
  |with_reducible refine WP.block ?_
  |with_reducible assumption
  |with_reducible refine And.intro ?_ ?_
  |exact cL
  |(with_reducible intro h);first|(cases h;done)|(try simp only [lG,reduceCtorEq] at h);first|done|(exfalso;omega)|replace h:=h trivial aZ|replace h:=h aZ|skip
  |fail)
  refine WP.loop (I1s s) ⟨0,⟨oM,oM⟩,rfl,rfl⟩ ?_;rintro j τ ⟨n,⟨g1,g2⟩,rfl,rfl⟩;let zA:=(aH 94)
  open adw in exact bN
 ·exact h.elim
def c67:aC:=fun args bx K=>match args,bx with
 |[.str s],[]=>s.size<=900000∧∀b:Bool,K (.bool b) []
 |_,_=>False
def alM:=fN 67 Tryz.f67 27 [.tmp 2]
theorem adv.xt {p:Prop} (g:p:=by ((first|((with_reducible refine (?_:(0:Int)<_));first|exact Bn aZ|omega)|((with_reducible refine (?_:WP _ _ _ (.loop _) _ _));(apply WP.loop (I1s s));(case h0=>exact ⟨0,⟨oM,oM⟩,rfl,rfl⟩);(case' h=>(rintro j τ ⟨n,⟨g1,g2⟩,rfl,rfl⟩)))|exact Rp|exact IQ|fail);(repeat' (first|exact bN|fail));first|done|fail)):p:=g
theorem akd:aC.OK Tryz.prog 67 c67:=by
 intro args bx K0 h;unfold c67 at h;split at h
 ·rename_i s;obtain ⟨h0,-⟩:=h;refine alM.okW (base:=0) rfl dz dz ?_;have B:=V.base (af.cons Ls (af.cons aj6 (af.cons aeN af.nil)))
  conv=>whnf
  let zA:=(aH 67)
  open adv in exact bN
 ·exact h.elim
def c65:aC:=fun args bx K=>match args,bx with
 |[.str s],[]=>s.size<=900000∧∀b:Bool,K (.bool b) []
 |_,_=>False
def alO:=fN 65 Tryz.f65 19 [.tmp 2]
theorem adu.xt {p:Prop} (g:p:=by ((first|exact IQ|fail);(repeat' (first|exact bN|fail));first|done|fail)):p:=g
theorem akf:aC.OK Tryz.prog 65 c65:=by
 intro args bx K0 h;unfold c65 at h;split at h
 ·rename_i s;obtain ⟨h0,-⟩:=h;refine alO.okW (base:=0) rfl dz dz ?_;have B:=V.base (af.cons aj7 af.nil)
  conv=>whnf
  let zA:=(aH 65)
  open adu in exact bN
 ·exact h.elim
def c66:aC:=fun args bx K=>match args,bx with
 |[.str s],[]=>s.size<=900000∧∀b:Bool,K (.bool b) []
 |_,_=>False
def alN:=fN 66 Tryz.f66 30 [.tmp 2]
theorem adt.xt {p:Prop} (g:p:=by ((first|exact IQ|fail);(repeat' (first|exact bN|fail));first|done|fail)):p:=g
theorem ake:aC.OK Tryz.prog 66 c66:=by
 intro args bx K0 h;unfold c66 at h;split at h
 ·rename_i s;obtain ⟨h0,-⟩:=h;refine alN.okW (base:=0) rfl dz dz ?_;have B:=V.base (af.cons aeO af.nil)
  conv=>whnf
  let zA:=(aH 66)
  open adt in exact bN
 ·exact h.elim
theorem aea {ts:List ByteArray} {i j:Nat} {Q:AV->List AV->Prop} (h:i<ts.length) (hj:j=i) (hQ:∀r,Q (.str (Bk.rowAt ts i)) r):∃v r,List.drop (j*1) (cO ts)=v::r∧Q v r:=by subst hj;refine ⟨.str (Bk.rowAt ts j),(cO ts).drop (j+1),?_,hQ _⟩;rw [Nat.mul_one,List.drop_eq_getElem_cons (by rw [cO,List.length_map];exact h)];unfold Bk.rowAt cO;rw [List.getElem_map,List.getD_eq_getElem?_getD,List.getElem?_eq_getElem h];rfl
def jh (ks:List Int):List AV:=ks.map (AV.int .i64)
theorem mF:∀(ks:List Int),jR (jh ks)=true
 |[]=>rfl
 |k::ks=>by have:=mF ks;rw [jh] at this;rw [jh,List.map_cons,jR,this];rfl
theorem JK {ks:List Int}:(jh ks).length=ks.length:=List.length_map _
theorem JM:∀{ks ls:List Int},jh ks=jh ls->ls=ks
 |[],[],_=>rfl
 |[],_::_,h=>by simp [jh] at h
 |_::_,[],h=>by simp [jh] at h
 |k::ks,l::ls,h=>by rw [jh,jh,List.map_cons,List.map_cons] at h;simp only [List.cons.injEq,AV.int.injEq,true_and] at h;rw [h.1,JM (ks:=ks) (ls:=ls) h.2]
theorem Zp {ks:List Int} {Q:List Int->Prop} (h:∃ls:List Int,(ks.length=ls.length∧jh ks=jh ls)∧Q ls):Q ks:=by obtain ⟨ls,⟨-,h1⟩,h2⟩:=h;rw [JM h1] at h2;exact h2
def mB (ks:List Int) (a:Int) (out:ByteArray) (left name:Int):List AV:=[.sl ks.length (jh ks),.int .i64 a,.str out,.int .i64 left,.int .i64 name]
def c22:aC:=fun args bx K=>match args,bx with
 |[.int .i64 x,.int .i64 n],[]=>(1<=n∧n<=1000000000)∧∀r:Int,(0<=r∧r<n)->K (.int .i64 r) []
 |_,_=>False
theorem afj:aC.OK Tryz.prog 22 c22:=by
 intro args bx K0 h;unfold c22 at h;split at h
 ·rename_i x n;obtain ⟨⟨h1,h2⟩,-⟩:=h;refine ⟨.int .i64 (Bk.rP x n:Nat),[],wm ⟨_,rfl,rfl,rfl⟩ rfl fun lim w vs hR=>?_,rfl,rfl,fun K hK=>hK.2 _ ⟨oM,?_⟩⟩
  ·simp only [AV.Rs,AV.R] at hR;obtain ⟨v,r,rfl,rfl,v2,r2,rfl,rfl,rfl⟩:=hR;refine (Gu x n w h1 h2).mono ?_;rintro e w' ⟨rfl,rfl⟩;exact ⟨_,lim,rfl,Below.refl _ _,fun _ _=>rfl,fun ht b hb=>ht b hb,by rw [AV.R]⟩
  ·unfold Bk.rP;have h3:=Int.emod_lt_of_pos (x % Bk.Al) (show 0<n by omega);have h4:=Int.emod_nonneg (x % Bk.Al) (show n≠0 by omega);omega
 ·exact h.elim
theorem agp {ks:List Int} {i j:Nat} {Q:AV->List AV->Prop} (h:i<ks.length) (hj:j=i) (hQ:∀k r,Q (.int .i64 k) r):∃v r,List.drop (j*1) (jh ks)=v::r∧Q v r:=by subst hj;refine ⟨.int .i64 ks[j],(jh ks).drop (j+1),?_,hQ _ _⟩;rw [Nat.mul_one,List.drop_eq_getElem_cons (by rw [JK];exact h)];unfold jh;rw [List.getElem_map]
def c46:aC:=fun args bx K=>match args,bx with
 |[.ptr 0 0,.int .i64 n],[[.sl nk lk,.int .i64 a,.str out,.int .i64 left,.int .i64 name]]=>∃ks:List Int,(nk=ks.length∧lk=jh ks)∧(1<=n∧n<=1000∧0<=a∧a<=1000000)∧(∀r:Int,a<ks.length->(0<=r∧r<n)->K (.int .i64 r) [mB ks (a+1) out left name])∧(ks.length<=a->K (.int .i64 0) [mB ks a out left name])
 |_,_=>False
def alW:=fN 46 Tryz.f46 35 [.tmp 4]
theorem adp.xt {p:Prop} (g:p:=by ((first|(refine agp ?_ rfl ?_;(focus omega);intro k r)|((with_reducible refine (?_:(_:Nat)<_));(simp only [JK,List.length_drop];omega))|((with_reducible refine (?_:ag _ _ _ _ _));first|exact ag.aU kV kV mV mV fun K hK=>(Zp hK).2.2 oM|exact ag.aU kV kV mV mV fun K hK=>(Zp hK).2.1 _ oM ⟨oM,oM⟩)|fail);(repeat' (first|exact bN|fail));first|done|fail)):p:=g
theorem akj:aC.OK Tryz.prog 46 c46:=by
 intro args bx K0 h;unfold c46 at h;split at h
 ·rename_i n nk lk a out left name;obtain ⟨ks,⟨rfl,rfl⟩,⟨h1,h2,h3,h4⟩,-⟩:=h;refine alW.okW (base:=1) rfl mV mV ?_;have B:=V.base (af.cons afj af.nil)
  conv=>whnf
  let zA:=(aH 46)
  open adp in exact bN
 ·exact h.elim
def c64:aC:=fun args bx K=>match args,bx with
 |[.str s],[]=>s.size<=900000∧∀ts:List ByteArray,Bk.gy ts ts.length<=s.size+1->K (.sl ts.length (cO ts)) []
 |_,_=>False
def WL (s:ByteArray) (j:Nat) (τ:aJ):Prop:=∃(i f:Int) (ts:List ByteArray),(0<=f∧f<=i∧0<=i∧i<=s.size+1)∧(Bk.gy ts ts.length:Int)<=f∧j=((s.size:Int)+1-i).toNat∧τ=⟨[(5,.int .i64 i),(4,.int .i64 f),(3,.row 9 1 ts.length (cO ts)),(0,.str s)],[]⟩
theorem WL.mk {s:ByteArray} {i f:Int} {ts:List ByteArray} {N:Nat} {C:List AV} (hf:0<=f∧f<=i∧0<=i∧i<=s.size+1) (hz:(Bk.gy ts ts.length:Int)<=f) (hN:N=ts.length) (hC:C=cO ts):WL s ((s.size:Int)+1-i).toNat ⟨[(5,.int .i64 i),(4,.int .i64 f),(3,.row 9 1 N C),(0,.str s)],[]⟩:=by subst hN hC;exact ⟨i,f,ts,hf,hz,rfl,rfl⟩
theorem amr {s:ByteArray} {i f:Int}:Rx 0 ⟨[(5,.int .i64 i),(4,.int .i64 f),(3,.nil),(0,.str s)],[]⟩ ⟨[(5,.int .i64 i),(4,.int .i64 f),(3,.row 9 1 ([]:List ByteArray).length (cO [])),(0,.str s)],[]⟩:=
 Rx.wv .nil (.cons .refl (.cons .refl (.cons .mo (.cons .refl .nil)))) ⟨rfl,rfl⟩
theorem JH (ts:List ByteArray):ts.length<=Bk.gy ts ts.length:=IC ts _
def alP:=fN 64 Tryz.f64 36 [.tmp 2]
theorem ads.xt {p:Prop} (g:p:=by ((first|exact rX|((with_reducible refine (?_:∃(j:Nat) (τ':aJ),j<_∧Rx 0 _ τ'∧_));(apply FM);(case' hi=>(apply WL.mk (ts:=ts)));(case hr=>exact Rx.refl);(case hC=>rfl);(case hN=>rfl);(case hf=>exact ⟨oM,oM,oM,oM⟩);(case hz=>omega);(case hj=>omega))|((with_reducible refine (?_:∃(j:Nat) (τ':aJ),j<_∧Rx 0 _ τ'∧_));(apply FM);(case' hi=>(apply WL.mk (ts:=ts++[_])));(case hr=>exact Rx.refl);(case hC=>exact rW);(case hN=>(rw [List.length_append];rfl));(case hf=>exact ⟨oM,oM,oM,oM⟩);(case hz=>(rw [yj,ByteArray.size_extract];omega));(case hj=>omega))|((with_reducible refine (?_:ag _ _ _ _ _));first|exact ag.aU kV kV Kw Kw fun K hK=>hK.2 ts oM)|fail);(repeat' (first|exact bN|fail));first|done|fail)):p:=g
theorem aeY:aC.OK Tryz.prog 64 c64:=by
 intro args bx K0 h;unfold c64 at h;split at h
 ·rename_i s;obtain ⟨h0,-⟩:=h;refine alP.okW (base:=0) rfl Kw Kw ?_;have B:=V.base (af.cons RY af.nil)
  conv=>whnf
  repeat' (first
  |with_reducible refine WP.seq ?_
  |(with_reducible first|refine Go.mk ?_|refine WP.oC B (aH 64) ?_|refine WP.draw B (aH 64) ?_|refine WP.cond ?_|refine WP.exit ?_|refine WP.skip ?_|refine WP.ret ?_);conv=>whnf
  |with_reducible refine WP.block ?_
  |with_reducible assumption
  |with_reducible refine And.intro ?_ ?_
  |exact cL
  |(with_reducible intro h);first|(cases h;done)|(try simp only [lG,reduceCtorEq] at h);first|done|(exfalso;omega)|replace h:=h trivial aZ|replace h:=h aZ|skip
  |fail)
  refine WP.jB amr ?_;refine WP.loop (WL s) ⟨0,0,[],⟨oM,oM,oM,oM⟩,Int.le_refl _,rfl,rfl⟩ ?_;rintro j τ ⟨i,f,ts,⟨g1,g2,g3,g4⟩,g5,rfl,rfl⟩;have g6:=JH ts;let zA:=(aH 64)
  open ads in exact bN
 ·exact h.elim
theorem RH {ts:List ByteArray} {i:Nat} (h:i<ts.length):(Bk.rowAt ts i).size<Bk.gy ts ts.length:=by have:=Bk.vQ ts (i+1) (ts.length-(i+1));rw [show i+1+(ts.length-(i+1))=ts.length by omega,Bk.gy] at this;omega
theorem OX {ts:List ByteArray} {i:Nat} {acc:ByteArray} (h:i<=ts.length) (ha:acc.size<=Bk.gy ts i):acc.size<=Bk.gy ts ts.length:=by have:=Bk.vQ ts i (ts.length-i);rw [show i+(ts.length-i)=ts.length by omega] at this;omega
theorem UQ {ts:List ByteArray} {i:Int} {acc:ByteArray} (h:0<=i) (ha:acc.size<=Bk.gy ts i.toNat):(acc++{data:=#[32]}++Bk.rowAt ts i.toNat).size<=Bk.gy ts (i+1).toNat:=by rw [show (i+1).toNat=i.toNat+1 by omega,Bk.gy,Bk.bA,Bk.bA];have:({data:=#[32]}:ByteArray).size=1:=rfl;omega
theorem abV {ts:List ByteArray} {i:Nat} {acc:ByteArray} (h:i<ts.length) (hz:Bk.gy ts ts.length<=900001) (ha:acc.size<=900001):(acc++{data:=#[32]}).size+(Bk.rowAt ts i).size<=1000000000:=by have h1:=RH h;have:({data:=#[32]}:ByteArray).size=1:=rfl;rw [Bk.bA];omega
def c35:aC:=fun args bx K=>match args,bx with
 |[.str s],[]=>s.size<=900000∧(∀(d note:ByteArray) (dV:Bool),d.size<=s.size+1->K (.bX [.str d,.str note,.bool dV,.int .i64 0]) [])∧K (.bX [.str ByteArray.empty,.str ByteArray.empty,.bool false,.int .i64 5]) []
 |_,_=>False
def D1 (s:ByteArray) (j:Nat) (τ:aJ):Prop:=∃i:Int,(1<=i∧i<=s.size)∧j=((s.size:Int)-i).toNat∧τ=⟨[(9,.int .i64 i),(8,.str s),(7,.bool false),(6,.str {data:=#[]}),(0,.str s)],[]⟩
def DJ (s:ByteArray) (τ:aJ):Prop:=∃(b note:ByteArray) (dV:Bool),b.size<=s.size∧τ=⟨[(8,.str b),(7,.bool dV),(6,.str note)],[]⟩
def D2 (s:ByteArray) (note:ByteArray) (dV:Bool) (ts:List ByteArray) (j:Nat) (τ:aJ):Prop:=∃(i:Int) (acc:ByteArray),(1<=i∧i<=ts.length)∧Bk.gy ts ts.length<=s.size+1∧acc.size<=Bk.gy ts i.toNat∧j=((ts.length:Int)-i).toNat∧τ=⟨[(12,.int .i64 i),(11,.str acc),(10,.sl ts.length (cO ts)),(7,.bool dV),(6,.str note)],[]⟩
def al3:=fN 35 Tryz.f35 110 [.tmp 2,.tmp 3,.tmp 4,.tmp 5]
theorem adr.xt {p:Prop} (g:p:=by ((first|exact Nb|exact K6|((with_reducible refine (?_:(Bk.rowAt _ _).size<=_));refine Nat.le_of_lt_succ (Nat.lt_of_lt_of_le (RH ?_) ?_)<;>omega)|((with_reducible refine (?_:WP _ _ _ (.loop _) _ _));(apply WP.loop (D2 s note dV _));(case h0=>exact ⟨1,_,⟨oM,oM⟩,oM,(by show _<=0+(Bk.rowAt _ (Int.toNat 0)).size+1;omega),rfl,rfl⟩);(case' h=>(rintro j τ ⟨i,acc,⟨g1,g2⟩,g4,g3,rfl,rfl⟩;have g5:=OX (i:=i.toNat) oM g3;have g6:=Nat.le_trans (JH _) g4)))|((with_reducible refine (?_:ByteArray.size _+ByteArray.size _<=_));first|exact abV oM oM oM|(have:({data:=#[32]}:ByteArray).size=1:=rfl;omega))|((with_reducible refine (?_:∃(j:Nat) (τ':aJ),j<_∧Rx 0 _ τ'∧_));(refine ⟨_,_,?_,Rx.refl,i+1,_,⟨oM,oM⟩,g4,?_,rfl,rfl⟩);(focus omega);exact UQ oM g3)|((with_reducible refine (?_:ag _ _ _ _ _));first|exact ag.aU kV kV Kw Kw fun K hK=>hK.2.2|exact ag.aU kV kV Kw Kw fun K hK=>hK.2.1 _ _ _ oM)|fail);(repeat' (first|exact bN|fail));first|done|fail)):p:=g
theorem ako:aC.OK Tryz.prog 35 c35:=by
 intro args bx K0 h;unfold c35 at h;split at h
 ·rename_i s;obtain ⟨h0,-⟩:=h;refine al3.okW (base:=0) rfl Kw Kw ?_;have B:=V.base (af.cons aaU (af.cons RY (af.cons aeY (af.cons akf (af.cons ake (af.cons akd af.nil))))))
  conv=>whnf
  repeat' (first
  |(with_reducible refine WP.cut (x:=.seq (.region 4 _ _) _) (DJ s) ?_ ?_)
  |with_reducible refine WP.seq ?_
  |(with_reducible first|refine Go.mk ?_|refine WP.oC B (aH 35) ?_|refine WP.draw B (aH 35) ?_|refine WP.cond ?_|refine WP.exit ?_|refine WP.skip ?_|refine WP.ret ?_);conv=>whnf
  |with_reducible refine WP.block ?_
  |with_reducible assumption
  |((with_reducible refine (?_:(0:Int)<_));first|exact Bn aZ|omega)
  |((with_reducible refine (?_:(ByteArray.extract _ _ _).size<=_));rw [ByteArray.size_extract];omega)
  |((with_reducible refine (?_:WP _ _ _ (.loop _) _ _));(apply WP.loop (D1 s));(case h0=>exact ⟨1,⟨oM,by have:=Bn (s:=s) aZ;omega⟩,rfl,rfl⟩);(case' h=>(rintro j τ ⟨i,⟨g1,g2⟩,rfl,rfl⟩)))
  |((with_reducible refine (?_:∃(j:Nat) (τ':aJ),j<_∧Rx 0 _ τ'∧_));(refine ⟨_,_,?_,Rx.refl,i+1,⟨oM,oM⟩,rfl,rfl⟩);omega)
  |((with_reducible refine (?_:∃τ',Rx 0 _ τ'∧DJ _ _));(refine ⟨_,Rx.prune [8,7,6],_,_,_,?_,rfl⟩);first|exact Nat.le_refl _|(rw [ByteArray.size_extract];omega))
  |(with_reducible refine (?_:ag _ _ _ _ _));first|exact ag.aU kV kV Kw Kw fun K hK=>hK.2.2
  |with_reducible refine And.intro ?_ ?_
  |exact cL
  |(with_reducible intro h);first|(cases h;done)|(try simp only [lG,reduceCtorEq] at h);first|done|(exfalso;omega)|replace h:=h trivial aZ|replace h:=h aZ|skip
  |fail)
  all_goals
   refine aR.mk ?_;rintro τ ⟨b,note,dV,hb,rfl⟩;let zA:=(aH 35)
   open adr in exact bN
 ·exact h.elim
def c36:aC:=fun args bx K=>match args,bx with
 |[.sl n l,.str d],[]=>∃ts:List ByteArray,(n=ts.length∧l=cO ts)∧(d.size<=900000∧ts.length<=900000∧∀i,(Bk.rowAt ts i).size<=900000)∧∀b:Bool,K (.bool b) []
 |_,_=>False
def TI (ts us:List ByteArray) (j:Nat) (τ:aJ):Prop:=∃i:Int,(0<=i∧i<=ts.length)∧j=((ts.length:Int)-i).toNat∧τ=⟨[(6,.int .i64 i),(5,.sl us.length (cO us)),(0,.sl ts.length (cO ts))],[]⟩
def al1:=fN 36 Tryz.f36 65 [.tmp 4]
theorem adq.xt {p:Prop} (g:p:=by ((first|exact Nb|exact K6|(exact h3 _)|((with_reducible refine (?_:WP _ _ _ (.loop _) _ _));(apply WP.loop (TI ts _));(case h0=>exact ⟨0,⟨oM,oM⟩,rfl,rfl⟩);(case' h=>(rintro j τ ⟨i,⟨g1,g2⟩,rfl,rfl⟩)))|exact Yy|((with_reducible refine (?_:ag _ _ _ _ _));first|exact ag.aU kV kV Kw Kw fun K hK=>hK.elim fun _ h=>h.2.2 _)|fail);(repeat' (first|exact bN|fail));first|done|fail)):p:=g
theorem akn:aC.OK Tryz.prog 36 c36:=by
 intro args bx K0 h;unfold c36 at h;split at h
 ·rename_i n l d;obtain ⟨ts,⟨rfl,rfl⟩,⟨h1,h2,h3⟩,-⟩:=h;refine al1.okW (base:=0) rfl Kw Kw ?_;have B:=V.base (af.cons aeY af.nil)
  conv=>whnf
  let zA:=(aH 36)
  open adq in exact bN
 ·exact h.elim
structure Dc where
 head:List Cm
 gM:List ByteArray
 mark:Bool
 root:Nd
 ae:List Cm
def rR (d:Dc):List AV:=[cs d.head,.sl d.gM.length (cO d.gM),.bool d.mark,.int .i64 d.root.k,.int .i64 d.root.y,.int .i64 d.root.p,.int .i64 d.root.b,.str d.root.an,.str d.root.tg,.str d.root.tx,.sl d.root.kids.length (au d.root.kids),cs d.root.lead,cs d.root.ae,.bool d.root.h,.str d.root.tr,cs d.ae]
def jY:List Dc->List AV
 |[]=>[]
 |d::l=>rR d++jY l
theorem pQ (d:Dc):jR (rR d)=true:=by simp [rR,jR,wv,AV.flat,AV.pf,AV.one,cs,aA,ai,ek,bB (aA _),bB (ai _),bB (ek _),bE (aA _),bE (ai _),bE (ek _)]
theorem ui:∀l:List Dc,jR (jY l)=true
 |[]=>rfl
 |d::l=>fV (pQ d) (ui l)
theorem GN:∀l m:List Dc,jY (l++m)=jY l++jY m
 |[],_=>rfl
 |d::l,m=>by rw [List.cons_append,jY,jY,GN l m,List.append_assoc]
theorem Xo {d:Dc}:jY [d]=rR d:=by rw [jY,jY,List.append_nil]
theorem BB:∀l:List Dc,(jY l).length=l.length*16
 |[]=>rfl
 |d::l=>by rw [jY,List.length_append,BB l,List.length_cons];show 16+_=_;omega
def DW (d:Dc):Prop:=BW d.root∧(wt d.root+d.ae.length<=3210000000∧d.head.length<=60000∧d.gM.length<=20000)
theorem Iy {s:ByteArray} {k:Nat} {c:Int} (hc:c≠10) (h:Bk.jV s (Bk.bG s k) c=true):Bk.bG s k+3<=Bk.l7 s k:=by
 unfold Bk.jV Bk.sJ at h;simp only [Bool.and_eq_true,decide_eq_true_eq,beq_iff_eq] at h;have h1:=Bk.fT s k;have h2:=Bk.rM s k;rcases Nat.lt_or_ge (Bk.l7 s k) (Bk.bG s k+3) with hlt|hge
 ·have h3:bt s (Bk.l7 s k)=10:=Bk.F3 oM;have:Bk.l7 s k=Bk.bG s k∨Bk.l7 s k=Bk.bG s k+1∨Bk.l7 s k=Bk.bG s k+2:=oM;rcases this with e|e|e<;>rw [e] at h3<;>omega
 ·exact hge
theorem CY {s:ByteArray} {k:Nat} (h:Bk.eD s k=3∨Bk.eD s k=4):Bk.bG s k+3<=Bk.l7 s k:=by
 unfold Bk.eD at h;by_cases h1:Bk.jV s (Bk.bG s k) 45=true
 ·exact Iy dE h1
 ·rw [if_neg h1] at h;by_cases h2:Bk.jV s (Bk.bG s k) 46=true
  ·exact Iy dE h2
  ·rw [if_neg h2] at h;split at h
   ·omega
   ·split at h<;>omega
end V
end
namespace V
open Ab
open Bk (Cm)
theorem Z9 {h:Bool} {tr:ByteArray}:(kg h tr).length<=1:=by
 cases h
 ·exact Nat.zero_le _
 ·exact Nat.le_refl 1
mutual
theorem Ue:∀x:Nd,iI x<=wt x∧fD x<=wt x
 |.mk k y p b an tg tx kids lead ae h tr=>by have h1:=Oe kids;have h2:=Z9 (h:=h) (tr:=tr);rw [iI,fD,uR];simp only [Nd.lead,Nd.ae,Nd.kids];omega
theorem Oe:∀l:List Nd,cK l<=gm l∧bS l<=gm l
 |[]=>⟨Nat.le_refl _,Nat.le_refl _⟩
 |x::l=>by have h1:=Ue x;have h2:=Oe l;rw [cK,bS,gm];omega
end
structure GNc (k y:Int) (kids:List Nd) (ae:List Cm) (h:Bool) (tr:ByteArray):Prop where
 kind:(k=1∧1<=y∧y<=5∧kids=[]∧ae=[])∨(k=2∧y=0∧kids=[]∧ae=[])∨(k=3∨k=4∧kids.length % 2=0)∧(y=7∨y=6∧ae=[]∧h=false)
 tr:h=false->tr=ByteArray.empty
theorem Ex.gn {k y:Int} {kids:List Nd} {ae:List Cm} {h:Bool} {tr:ByteArray} (hb:Ex k y kids ae h tr):GNc k y kids ae h tr∧∀z ∈ kids,BW z:=by
 cases hb with
 |zZ hf=>
  obtain ⟨⟨h1,h2⟩,h3⟩:=hf.out;refine ⟨⟨?_,h2⟩,fun z hz=> .zZ (h3 z hz)⟩;rcases h1 with h1|h1|h1|h1
  ·exact .inl h1
  ·exact .inr (.inl h1)
  ·exact .inr (.inr ⟨.inl h1.1,.inl h1.2⟩)
  ·exact .inr (.inr ⟨.inr ⟨h1.1,h1.2.2⟩,.inl h1.2.1⟩)
 |blk h hk=>exact ⟨⟨.inr (.inr ⟨h,.inr ⟨rfl,rfl,rfl⟩⟩),fun _=>rfl⟩,hk⟩
mutual
def gN:Nd->Prop
 |.mk k y _ _ _ _ _ kids _ ae h tr=>GNc k y kids ae h tr∧gL kids
def gL:List Nd->Prop
 |[]=>True
 |x::l=>gN x∧gL l
end
mutual
theorem Zj:∀x:Nd,BW x->gN x
 |.mk k y p b an tg tx kids lead ae h tr,hb=>by have h1:=Ex.gn (k:=k) (y:=y) (kids:=kids) (ae:=ae) (h:=h) (tr:=tr) hb;rw [gN];exact ⟨h1.1,Zk kids h1.2⟩
theorem Zk:∀l:List Nd,(∀z ∈ l,BW z)->gL l
 |[],_=>by rw [gL];trivial
 |x::l,hb=>by rw [gL];exact ⟨Zj x (hb x (by simp)),Zk l fun z hz=>hb z (by simp [hz])⟩
end
mutual
theorem NU:∀x:Nd,gN x->yX x=true∧Bh x=true
 |.mk k y p b an tg tx kids lead ae h tr,hg=>by
  rw [gN] at hg;obtain ⟨⟨h1,h2⟩,h3⟩:=hg;obtain ⟨h4,h5⟩:=Zl kids h3;rw [yX,Bh,h4,h5,Bool.and_true,Bool.and_true];constructor
  ·rcases h1 with ⟨rfl,-⟩|⟨rfl,-⟩|⟨h1,h6⟩
   ·rfl
   ·rfl
   ·have h7:(decide (y=6)||decide (y=7))=true:=by rcases h6 with rfl|⟨rfl,-⟩<;>rfl
    rw [h7,Bool.or_true,Bool.and_true];rcases h1 with rfl|⟨rfl,h1⟩
    ·rfl
    ·rw [decide_eq_true h1,Bool.or_true]
  ·cases h with
   |true=>rfl
   |false=>rw [h2 rfl];rfl
theorem Zl:∀l:List Nd,gL l->uK l=true∧zD l=true
 |[],_=>⟨by rw [uK],by rw [zD]⟩
 |x::l,hg=>by rw [gL] at hg;obtain ⟨h1,h2⟩:=NU x hg.1;obtain ⟨h3,h4⟩:=Zl l hg.2;rw [uK,zD,h1,h2,h3,h4];exact ⟨rfl,rfl⟩
end
structure FU (d:Dc):Prop where
 g:gN d.root
 nz:fD d.root<=3210000000
 ct:iI d.root+d.ae.length<=3210000000
 hd:d.head.length<=60000
 ds:d.gM.length<=20000
theorem DW.jA {d:Dc} (h:DW d):FU d:=by obtain ⟨h1,h2,h3,h4⟩:=h;have:=Ue d.root;exact ⟨Zj _ h1,oM,oM,h3,h4⟩
end V
section
set_option maxRecDepth 100000
namespace V
open Ab
open Bk (Cm)
theorem jl.KR {n q:Nat} {bx bx':List (List AV)} {c c':List AV} (h:jl n bx) (ho:∀j,j<n->j≠q->bx'[j]?=bx[j]?) (hc:bx[q]?=some c) (hc':bx'[q]?=some c') (hi:∀i ∈ AV.aN c',i ∈ AV.aN c):jl n bx':=.mk fun j d hj hd i hid=>by
 by_cases e:j=q
 ·subst e;rw [hc'] at hd;cases hd;exact h.out j c hj hc i (hi i hid)
 ·rw [ho j hj e] at hd;exact h.out j d hj hd i hid
theorem jl.same {n:Nat} {bx bx':List (List AV)} (h:jl n bx) (ho:∀j,j<n->bx'[j]?=bx[j]?):jl n bx':=.mk fun j d hj hd i hid=>by rw [ho j hj] at hd;exact h.out j d hj hd i hid
theorem aR.get {p:Prop} (h:aR p):p:=h
theorem V7 (x:Ce):AV.aN x.off.l=AV.aN x.l:=by rw [oN,oN];obtain ⟨k,y,p,b,an,tg,tx,kc,lc,fc,h,tr⟩:=x;cases h<;>rfl
theorem QM (h:Bool) (tr:ByteArray):(kg h tr).length<=1:=by cases h<;>simp [kg]
theorem sw:∀l:List Nd,l.length<=bS l
 |[]=>Nat.le_refl _
 |x::l=>by
  have:=sw l;have h1:1<=fD x:=by cases x;rw [fD];omega
  rw [List.length_cons,bS];omega
theorem Bi:∀a b:List Nd,zD (a++b)=(zD a && zD b)
 |[],b=>by rw [List.nil_append,zD,Bool.true_and]
 |x::a,b=>by rw [List.cons_append,zD,zD,Bi a b,Bool.and_assoc]
def ab4 (m:Nat):aC:=fun args bx K=>match args with
 |[.ptr b o]=>∃(pre:List AV) (k y p bb:Int) (an tg tx:ByteArray) (kc lc:AV) (ae:List Cm) (h:Bool) (tr:ByteArray) (post:List AV) (kids:List Nd) (I:List Nat),(aV bx=true∧jl bx.length bx∧wZ bx b o pre ⟨k,y,p,bb,an,tg,tx,kc,lc,cs ae,h,tr⟩ post∧eQ bx kids kc I∧(b::I).Nodup∧(zD kids=true∧(h||decide (tr=ByteArray.empty))=true)∧bS kids+1<=m∧cK kids+ae.length+1<=10000000000∧bS kids<=10000000000)∧
   ∀bx':List (List AV),bx'.length=bx.length->jl bx.length bx'->wZ bx' b o pre ⟨k,y,p,bb,an,tg,tx,kc,lc,cs [],false,ByteArray.empty⟩ post->eQ bx' (aP kids).1 kc I->(∀j,j≠b->j ∉ I->bx'[j]?=bx[j]?)->K (cr ((aP kids).2++ae++kg h tr)) bx'
 |_=>False
def BI (bx:List (List AV)) (b o q:Nat) (kids:List Nd) (J:List Nat) (j:Nat) (τ:aJ):Prop:=∃(a r:List Nd) (ca Qf:List AV) (Ja Jr:List Nat) (bx1:List (List AV)),kids=a++r∧j=r.length∧τ=⟨[(13,.int .i64 a.length),(12,.int .i64 kids.length),(4,.fn 125 [.ptr bx.length 0]),(3,.ptr bx.length 0),(0,.ptr b o)],bx1⟩∧bx1.length=bx.length+1∧bx1[bx.length]?=some [cr (aP a).2]∧bx1[q]?=some (ca++Qf)∧eF bx1 (aP a).1 ca Ja∧eF bx1 r Qf Jr∧J=Ja++Jr∧(∀j,j≠q->j ∉ J->j≠bx.length->bx1[j]?=bx[j]?)∧jl bx.length bx1
def BJ (bx:List (List AV)) (b o:Nat) (kids:List Nd) (kc:AV) (I:List Nat) (τ:aJ):Prop:=∃bx1:List (List AV),τ=⟨[(4,.fn 125 [.ptr bx.length 0]),(3,.ptr bx.length 0),(0,.ptr b o)],bx1⟩∧bx1.length=bx.length+1∧bx1[bx.length]?=some [cr (aP kids).2]∧bx1[b]?=bx[b]?∧eQ bx1 (aP kids).1 kc I∧(∀j,j ∉ I->j≠bx.length->bx1[j]?=bx[j]?)∧jl bx.length bx1
def ahZ:=fN 117 Tryz.f117 41 [.tmp 2]
theorem af1:∀m,aC.OK Tryz.prog 117 (ab4 m):=by
 intro m
 induction m with
 |zero=>
  intro args bx K0 h;unfold ab4 at h;split at h
  ·obtain ⟨pre,k,y,p,bb,an,tg,tx,kc,lc,ae,h,tr,post,kids,I,⟨-,-,-,-,-,-,h0,-⟩,-⟩:=h;omega
  ·exact h.elim
 |succ m ih=>
  intro args bx K0 h;unfold ab4 at h;split at h
  ·rename_i b o;obtain ⟨pre,k,y,p,bb,an,tg,tx,kc,lc,ae,hh,tr,post,kids,I,⟨hw,hcl,hx,hk,hnd,⟨ht1,ht2⟩,hm,hn,hz⟩,-⟩:=h;have hb0:bx[b]?=some (pre++(.int .i64 k::.int .i64 y::.int .i64 p::.int .i64 bb::.str an::.str tg::.str tx::kc::lc::cs ae::.bool hh::.str tr::post)):=hx.1;have ho:=hx.2;have hbl:=(List.getElem?_eq_some_iff.1 hb0).1;have hk0:=hk;have hbI:b ∉ I:=(List.nodup_cons.1 hnd).1;have hI:=hk.lt;refine ahZ.okD rfl hw ?_;have B:=V.base (af.cons ih (af.cons afV (af.cons aaL af.nil)));have zE:Ev _ _ _ (aH 117) [125] [117,72]:=⟨B⟩
   conv=>whnf
   repeat' (first
   |refine nX ?_;conv=>whnf
   |(with_reducible refine (?_:wv _=true->aV _=true->_));intro hwr hwb
   |(with_reducible refine (?_:aV _=true->_));intro hw;conv=>whnf
   |with_reducible assumption
   |(first|with_reducible refine aX ho ?_|with_reducible refine aQ ho ?_|with_reducible refine aD ho ?_|with_reducible refine ay ho ?_|with_reducible refine az ?_);conv=>whnf
   |with_reducible refine And.intro ?_ ?_
   |exact cL
   |(with_reducible intro h);first|(cases h;done)|(try simp only [lG,reduceCtorEq] at h);first|done|(exfalso;omega)|replace h:=h trivial aZ|replace h:=h aZ|skip
   |fail)
   refine Kr.mk ?_;intro b1 hl1 hb1 hr1
   conv=>whnf
   refine WP.Jj (x':=[cr []]) hb1 (.cons (Wv.mo (e:=56) (z:=2)) .nil) rfl ?_;intro b2 hl2 hs hr2;have hag:∀j,j<bx.length->b2[j]?=bx[j]?:=fun j hj=>(hr2 j oM).trans (hr1 j hj);have hl:b2.length=bx.length+1:=hl2.trans hl1;have hk2:=hk.fr (fun i hi=>hag i (hI i hi));have hb:=(hag b hbl).trans hb0;have GH:=hcl.same hag;clear hl1 hb1 hr1 hl2 hr2
   repeat' (first
   |((with_reducible refine (?_:WP _ _ _ (.seq (.seq (.region 3 _ _) _) _) _ _));refine WP.cut (J:=BJ bx b o kids kc I) ?_ ?_)
   |refine nX ?_;conv=>whnf
   |(with_reducible refine (?_:wv _=true->aV _=true->_));intro hwr hwb
   |(with_reducible refine (?_:aV _=true->_));intro hw;conv=>whnf
   |with_reducible assumption
   |(first|with_reducible refine aX ho ?_|with_reducible refine aQ ho ?_|with_reducible refine aD ho ?_|with_reducible refine ay ho ?_|with_reducible refine az ?_);conv=>whnf
   |with_reducible refine And.intro ?_ ?_
   |exact cL
   |(with_reducible intro h);first|(cases h;done)|(try simp only [lG,reduceCtorEq] at h);first|done|(exfalso;omega)|replace h:=h trivial aZ|replace h:=h aZ|skip
   |fail)
   ·have abB:∀j,j≠bx.length->b2[j]?=bx[j]?:=fun j hj=>by
     by_cases hjl:j<bx.length
     ·exact hag j hjl
     ·rw [List.getElem?_eq_none oM,List.getElem?_eq_none oM]
    rcases hk2 with ⟨g1,rfl,rfl⟩|⟨g1,q,cc,J,rfl,rfl,hq,g4⟩
    ·have Tg:=List.eq_nil_of_length_eq_zero g1;subst Tg
     repeat' (first
     |((with_reducible refine (?_:∃c:List AV,_∧_));refine ⟨_,(by first|exact hb|exact hs|exact hq),?_⟩;(conv=>whnf))
     |refine nX ?_;conv=>whnf
     |(with_reducible refine (?_:wv _=true->aV _=true->_));intro hwr hwb
     |(with_reducible refine (?_:aV _=true->_));intro hw;conv=>whnf
     |with_reducible assumption
     |((with_reducible refine (?_:WP _ _ _ (.loop _) _ _));refine WP.once ?_)
     |((with_reducible intro h);exfalso;simp at h;done)
     |(first|with_reducible refine aX ho ?_|with_reducible refine aQ ho ?_|with_reducible refine aD ho ?_|with_reducible refine ay ho ?_|with_reducible refine az ?_);conv=>whnf
     |with_reducible refine And.intro ?_ ?_
     |exact cL
     |(with_reducible intro h);first|(cases h;done)|(try simp only [lG,reduceCtorEq] at h);first|done|(exfalso;omega)|replace h:=h trivial aZ|replace h:=h aZ|skip
     |fail)
     exact ⟨_,Rx.prune [0,3,4],b2,rfl,hl,hs,hag b hbl,.inl ⟨rfl,rfl,rfl⟩,fun j _ h2=>abB j h2,GH⟩
    ·have hbq:b≠q:=fun e=>hbI (by rw [e];exact List.mem_cons_self);have Pj:b ∉ J:=fun e=>hbI (List.mem_cons_of_mem _ e);have hqJ:q ∉ J:=(List.nodup_cons.1 (List.nodup_cons.1 hnd).2).1;have hnJ:J.Nodup:=(List.nodup_cons.1 (List.nodup_cons.1 hnd).2).2;have hqN:q<bx.length:=hI q List.mem_cons_self;have hJN:∀i ∈ J,i<bx.length:=fun i hi=>hI i (List.mem_cons_of_mem _ hi)
     repeat' (first
     |((with_reducible refine (?_:∃c:List AV,_∧_));refine ⟨_,(by first|exact hb|exact hs|exact hq),?_⟩;(conv=>whnf))
     |refine nX ?_;conv=>whnf
     |(with_reducible refine (?_:wv _=true->aV _=true->_));intro hwr hwb
     |(with_reducible refine (?_:aV _=true->_));intro hw;conv=>whnf
     |with_reducible assumption
     |((with_reducible refine (?_:WP _ _ _ (.loop _) _ _));refine WP.loop (BI bx b o q kids J) ⟨[],kids,[],cc,[],J,b2,rfl,rfl,rfl,hl,hs,hq,fJ.2 ⟨rfl,rfl⟩,g4,rfl,fun j _ _ h2=>abB j h2,GH⟩ ?_;clear hl hs hq g4 GH abB hag hb)
     |((with_reducible refine (?_:∀(k:Nat) (τ:aJ),BI _ _ _ _ _ _ k τ->_));refine aR.get ?_)
     |(first|with_reducible refine aX ho ?_|with_reducible refine aQ ho ?_|with_reducible refine aD ho ?_|with_reducible refine ay ho ?_|with_reducible refine az ?_);conv=>whnf
     |with_reducible refine And.intro ?_ ?_
     |exact cL
     |(with_reducible intro h);first|(cases h;done)|(try simp only [lG,reduceCtorEq] at h);first|done|(exfalso;omega)|replace h:=h trivial aZ|replace h:=h aZ|skip
     |fail)
     refine aR.mk ?_;rintro j τ ⟨a,r,ca,Qf,Ja,Jr,bx1,hkk,rfl,rfl,hl,hs,hq,hA,hR,hJ,hag,zX⟩;have hb:=(hag b hbq Pj oM).trans hb0;have Zb:=hA.len;rw [jF] at Zb;rcases r with _|⟨x,r⟩
     ·rw [List.append_nil] at hkk;obtain ⟨rfl,rfl⟩:=fJ.1 hR;subst hkk;rw [List.append_nil] at hq hJ
      repeat' (first
      |((with_reducible refine (?_:∃c:List AV,_∧_));refine ⟨_,(by first|exact hb|exact hs|exact hq),?_⟩;(conv=>whnf))
      |refine nX ?_;conv=>whnf
      |(with_reducible refine (?_:wv _=true->aV _=true->_));intro hwr hwb
      |(with_reducible refine (?_:aV _=true->_));intro hw;conv=>whnf
      |with_reducible assumption
      |((with_reducible intro h);exfalso;simp at h;done)
      |(first|with_reducible refine aX ho ?_|with_reducible refine aQ ho ?_|with_reducible refine aD ho ?_|with_reducible refine ay ho ?_|with_reducible refine az ?_);conv=>whnf
      |with_reducible refine And.intro ?_ ?_
      |exact cL
      |(with_reducible intro h);first|(cases h;done)|(try simp only [lG,reduceCtorEq] at h);first|done|(exfalso;omega)|replace h:=h trivial aZ|replace h:=h aZ|skip
      |fail)
      exact ⟨_,Rx.prune [0,3,4],bx1,rfl,hl,hs,hag b hbq Pj oM,.inr ⟨by rw [jF];exact g1,q,ca,J,by rw [jF],rfl,hq,by rw [hJ];exact hA⟩,fun j h1 h2=>hag j (fun e=>h1 (by rw [e];exact List.mem_cons_self)) (fun e=>h1 (List.mem_cons_of_mem _ e)) h2,zX⟩
     ·have hkl:kids.length=a.length+r.length+1:=by rw [hkk,List.length_append,List.length_cons];omega
      obtain ⟨c1,c2,J1,J2,rfl,rfl,hX,hR2⟩:=dm.1 hR;obtain ⟨k1,y1,p1,q1,ed,dZ,dY,aF,aG,aI,h1,dU⟩:=x;obtain ⟨uN,rfl,hk1⟩:=gF.1 hX;have hcn:cK kids=cK a+((aG.length+cK aF+aI.length+(kg h1 dU).length)+cK r):=by rw [hkk,iV,cK,iI]
      have hsz:bS kids=bS a+(1+bS aF+bS r):=by rw [hkk,gB,bS,fD]
      have agY:=kE a;have hzl:=sw kids;have hcs1:=kE aF;have htt:(h1||decide (dU=ByteArray.empty))=true∧zD aF=true:=by rw [hkk,Bi,zD,Bh] at ht1;simp only [Bool.and_eq_true] at ht1;exact ht1.2.1
      have hbd:(aP a).2.length+aG.length<=10000000000:=oM;have ak7:((aP a).2++aG).length+((aP aF).2++aI++kg h1 dU).length<=10000000000:=by simp only [List.length_append];omega
      have yS:∀i ∈ J1,i ∈ J:=fun i hi=>by rw [hJ];exact List.mem_append_right _ (List.mem_append_left _ hi)
      have Ze:=hnJ;rw [hJ,List.nodup_append] at Ze;obtain ⟨hn1,hn2,AX⟩:=Ze;rw [List.nodup_append] at hn2
      repeat' (first
      |((with_reducible refine (?_:∃c:List AV,_∧_));refine ⟨_,(by first|exact hb|exact hs|exact hq),?_⟩;(conv=>whnf))
      |refine nX ?_;conv=>whnf
      |(with_reducible refine (?_:wv _=true->aV _=true->_));intro hwr hwb
      |(with_reducible refine (?_:aV _=true->_));intro hw;conv=>whnf
      |with_reducible assumption
      |((with_reducible intro h);exfalso;simp at h;done)
      |(first|with_reducible refine aX ho ?_|with_reducible refine aQ ho ?_|with_reducible refine aD ho ?_|with_reducible refine ay ho ?_|with_reducible refine az ?_);conv=>whnf
      |with_reducible refine And.intro ?_ ?_
      |exact cL
      |(with_reducible intro h);first|(cases h;done)|(try simp only [lG,reduceCtorEq] at h);first|done|(exfalso;omega)|replace h:=h trivial aZ|replace h:=h aZ|skip
      |fail)
      refine ⟨ca++[.int .i64 k1,.int .i64 y1,.int .i64 p1,.int .i64 q1,.str ed,.str dZ,.str dY,uN],aG,cs aI::.bool h1::.str dU::c2,(aP a).2,⟨hw,oM,by rw [List.append_assoc];exact hq,by rw [List.length_append,Zb];rfl,hs,hbd⟩,?_⟩;clear hs;intro b3 hl3 hq3 hs hr3;replace hl3:b3.length=bx1.length:=hl3;replace hr3:∀j,j≠q->j≠bx.length->b3[j]?=bx1[j]?:=hr3;rw [List.append_assoc] at hq3;have JR:jl bx.length b3:=zX.KR (q:=q) (fun j hj hne=>hr3 j hne oM) hq hq3 (fun i hi=>by
       rw [dA] at hi⊢;simpa only [Nd.ce,Ce.l,dA,AV.aN,AV.ids,dM,List.cons_append,List.nil_append,List.append_nil] using hi)
      conv=>whnf
      repeat' (first
      |((with_reducible refine (?_:_∧jl _ _∧_));refine aR.get ?_)
      |((with_reducible refine (?_:∃c:List AV,_∧_));refine ⟨_,(by first|exact hb|exact hs|exact hq),?_⟩;(conv=>whnf))
      |refine nX ?_;conv=>whnf
      |(with_reducible refine (?_:wv _=true->aV _=true->_));intro hwr hwb
      |(with_reducible refine (?_:aV _=true->_));intro hw;conv=>whnf
      |with_reducible assumption
      |((with_reducible refine gQ.mk (i:=bx.length) ?_);intro b4 hl4 hs4 hr4;(conv=>whnf))
      |(first|with_reducible refine aX ho ?_|with_reducible refine aQ ho ?_|with_reducible refine aD ho ?_|with_reducible refine ay ho ?_|with_reducible refine az ?_);conv=>whnf
      |with_reducible refine And.intro ?_ ?_
      |exact cL
      |(with_reducible intro h);first|(cases h;done)|(try simp only [lG,reduceCtorEq] at h);first|done|(exfalso;omega)|replace h:=h trivial aZ|replace h:=h aZ|skip
      |fail)
      replace hl4:b4.length=b3.length:=hl4;replace hr4:∀j,j≠bx.length->b4[j]?=b3[j]?:=hr4;have Ty:jl bx.length b4:=JR.same fun j hj=>hr4 j oM;have hq4:=(hr4 q oM).trans hq3;refine aR.mk ⟨by show bx.length<=b4.length;omega,Ty,?_⟩
      conv=>whnf
      refine ⟨wR.ptr hqN,?_⟩;intro b0 hl0 hr0 hw0;replace hr0:∀j,j<bx.length->b0[j]?=b4[j]?:=hr0;replace hl0:b0.length=bx.length:=hl0
      conv=>whnf
      refine ⟨ca,k1,y1,p1,q1,ed,dZ,dY,uN,cs [],aI,h1,dU,c2,aF,J1,⟨hw0,by rw [hl0];exact Ty.same hr0,⟨(hr0 q hqN).trans hq4,by rw [Zb];rfl⟩,hk1.fr (fun i hi=>?_),List.nodup_cons.2 ⟨fun e=>hqJ (yS _ e),hn2.1⟩,⟨htt.2,htt.1⟩,oM,oM,oM⟩,?_⟩
      ·have Fj:=yS i hi;have WM:=hJN i Fj;exact (hr0 i WM).trans ((hr4 i oM).trans (hr3 i (fun e=>hqJ (e▸Fj)) oM))
      intro b5 hl5 mX hx5 hk5 AU;refine ⟨hl5.trans hl0,?_⟩;intro b6 NS xD Y5;replace NS:b6.length=b4.length:=NS;replace xD:∀j,j<bx.length->b6[j]?=b5[j]?:=xD;clear hs;have hs:=(Y5 bx.length (Nat.le_refl _)).trans hs4
      conv=>whnf
      repeat' (first
      |((with_reducible refine (?_:∃c:List AV,_∧_));refine ⟨_,(by first|exact hb|exact hs|exact hq),?_⟩;(conv=>whnf))
      |refine nX ?_;conv=>whnf
      |(with_reducible refine (?_:wv _=true->aV _=true->_));intro hwr hwb
      |(with_reducible refine (?_:aV _=true->_));intro hw;conv=>whnf
      |with_reducible assumption
      |(exact ak7)
      |((with_reducible refine (?_:l6 _ _ _ _));exact l6.hi (Nat.le_refl _))
      |((with_reducible refine gQ.mk (i:=bx.length) ?_);intro b7 hl7 hs7 yM;(conv=>whnf))
      |((with_reducible refine (?_:∃(j:Nat) (τ':aJ),_));refine aR.get ?_)
      |(first|with_reducible refine aX ho ?_|with_reducible refine aQ ho ?_|with_reducible refine aD ho ?_|with_reducible refine ay ho ?_|with_reducible refine az ?_);conv=>whnf
      |with_reducible refine And.intro ?_ ?_
      |exact cL
      |(with_reducible intro h);first|(cases h;done)|(try simp only [lG,reduceCtorEq] at h);first|done|(exfalso;omega)|replace h:=h trivial aZ|replace h:=h aZ|skip
      |fail)
      replace hl7:b7.length=b6.length:=hl7;replace yM:∀j,j≠bx.length->b7[j]?=b6[j]?:=yM;replace hs7:b7[bx.length]?=some [.row 56 2 (((aP a).2++aG).length+((aP aF).2++aI++kg h1 dU).length) (fQ ((aP a).2++aG)++fQ ((aP aF).2++aI++kg h1 dU))]:=hs7;rw [Ad] at hs7;have om:∀j,j≠q->j ∉ J1->j<bx.length->b7[j]?=bx1[j]?:=fun j h1 h2 h3=>(yM j oM).trans ((xD j h3).trans ((AU j h1 h2).trans ((hr0 j h3).trans ((hr4 j oM).trans (hr3 j h1 oM)))));have hst:=xn a [Nd.mk k1 y1 p1 q1 ed dZ dY aF aG aI h1 dU];have hs1:aP [Nd.mk k1 y1 p1 q1 ed dZ dY aF aG aI h1 dU]=([Nd.mk k1 y1 p1 q1 ed dZ dY (aP aF).1 [] [] false ByteArray.empty],aG++((aP aF).2++aI++kg h1 dU)):=by simp only [aP,aj,Nd.ld,Nd.lead,List.append_nil]
      rw [hs1] at hst;refine aR.mk ⟨r.length,_,by simp,Rx.refl,a++[Nd.mk k1 y1 p1 q1 ed dZ dY aF aG aI h1 dU],r,ca++(Ce.mk k1 y1 p1 q1 ed dZ dY uN (cs []) (cs []) false ByteArray.empty).l,c2,Ja++J1,J2,b7,by rw [hkk,List.append_assoc];rfl,rfl,by rw [List.length_append];rfl,oM,?_,?_,?_,?_,by rw [hJ,List.append_assoc],?_,?_⟩
      ·rw [hs7,hst.2];simp only [List.append_assoc]
      ·rw [yM q oM,xD q hqN,hx5.1,List.append_assoc]
      ·rw [hst.1];refine sS.2 ⟨ca,_,Ja,J1,rfl,rfl,hA.fr fun i hi=>?_,eF.one (gF.2 ⟨uN,rfl,hk5.fr fun i hi=>?_⟩)⟩
       ·have Fj:i ∈ J:=by rw [hJ];exact List.mem_append_left _ hi
        exact om i (fun e=>hqJ (e▸Fj)) (fun e=>AX i hi i (List.mem_append_left _ e) rfl) (hJN i Fj)
       ·have WM:=hJN i (yS i hi);exact (yM i oM).trans (xD i WM)
      ·refine hR2.fr fun i hi=>?_;have Fj:i ∈ J:=by rw [hJ];exact List.mem_append_right _ (List.mem_append_right _ hi)
       exact om i (fun e=>hqJ (e▸Fj)) (fun e=>hn2.2.2 i e i hi rfl) (hJN i Fj)
      ·intro j h1 h2 h3;by_cases hjl:j<bx.length
       ·exact (om j h1 (fun e=>h2 (yS j e)) hjl).trans (hag j h1 h2 h3)
       ·rw [List.getElem?_eq_none oM,List.getElem?_eq_none oM]
      ·rw [hl0] at mX;exact (mX.same xD).same fun j hj=>yM j oM
   ·refine aR.mk ?_;rintro τ ⟨bx1,rfl,hl,hs,hb,hk,hag,zX⟩;replace hb:=hb.trans hb0
    repeat' (first
    |((with_reducible refine (?_:∃c:List AV,_∧_));refine ⟨_,(by first|exact hb|exact hs|exact hq),?_⟩;(conv=>whnf))
    |refine nX ?_;conv=>whnf
    |(with_reducible refine (?_:wv _=true->aV _=true->_));intro hwr hwb
    |(with_reducible refine (?_:aV _=true->_));intro hw;conv=>whnf
    |with_reducible assumption
    |(first|with_reducible refine aX ho ?_|with_reducible refine aQ ho ?_|with_reducible refine aD ho ?_|with_reducible refine ay ho ?_|with_reducible refine az ?_);conv=>whnf
    |with_reducible refine And.intro ?_ ?_
    |exact cL
    |(with_reducible intro h);first|(cases h;done)|(try simp only [lG,reduceCtorEq] at h);first|done|(exfalso;omega)|replace h:=h trivial aZ|replace h:=h aZ|skip
    |fail)
    have hbd:(aP kids).2.length+ae.length<=10000000000:=by have:=kE kids;omega
    have ak8:((aP kids).2++ae).length+(kg hh tr).length<=10000000000:=by have:=kE kids;have:=QM hh tr;rw [List.length_append];omega
    refine ⟨pre++[.int .i64 k,.int .i64 y,.int .i64 p,.int .i64 bb,.str an,.str tg,.str tx,kc,lc],ae,.bool hh::.str tr::post,(aP kids).2,⟨hw,oM,by rw [List.append_assoc];exact hb,by rw [List.length_append,ho];rfl,hs,hbd⟩,?_⟩;have hb1:=hb;clear hs hb;intro b3 hl3 hb hs hr3;replace hl3:b3.length=bx1.length:=hl3;replace hr3:∀j,j≠b->j≠bx.length->b3[j]?=bx1[j]?:=hr3;rw [List.append_assoc] at hb;have JR:jl bx.length b3:=zX.KR (q:=b) (fun j hj hne=>hr3 j hne oM) hb1 hb (fun i hi=>by simpa only [dA,AV.aN,AV.ids,dM,List.cons_append,List.nil_append] using hi)
    conv=>whnf
    repeat' (first
    |((with_reducible refine (?_:_∧jl _ _∧_));refine aR.get ?_)
    |((with_reducible refine (?_:∃c:List AV,_∧_));refine ⟨_,(by first|exact hb|exact hs|exact hq),?_⟩;(conv=>whnf))
    |refine nX ?_;conv=>whnf
    |(with_reducible refine (?_:wv _=true->aV _=true->_));intro hwr hwb
    |(with_reducible refine (?_:aV _=true->_));intro hw;conv=>whnf
    |with_reducible assumption
    |((with_reducible refine gQ.mk (i:=bx.length) ?_);intro b4 hl4 hs4 hr4;(conv=>whnf))
    |(first|with_reducible refine aX ho ?_|with_reducible refine aQ ho ?_|with_reducible refine aD ho ?_|with_reducible refine ay ho ?_|with_reducible refine az ?_);conv=>whnf
    |with_reducible refine And.intro ?_ ?_
    |exact cL
    |(with_reducible intro h);first|(cases h;done)|(try simp only [lG,reduceCtorEq] at h);first|done|(exfalso;omega)|replace h:=h trivial aZ|replace h:=h aZ|skip
    |fail)
    replace hl4:b4.length=b3.length:=hl4;replace hr4:∀j,j≠bx.length->b4[j]?=b3[j]?:=hr4;have Ty:jl bx.length b4:=JR.same fun j hj=>hr4 j oM;have hb4:=(hr4 b oM).trans hb;refine aR.mk ⟨by show bx.length<=b4.length;omega,Ty,?_⟩
    conv=>whnf
    refine ⟨wR.ptr hbl,?_⟩;intro b0 hl0 hr0 hw0;replace hr0:∀j,j<bx.length->b0[j]?=b4[j]?:=hr0
    conv=>whnf
    refine ⟨pre,⟨k,y,p,bb,an,tg,tx,kc,lc,cs [],hh,tr⟩,post,⟨hw0,(hr0 b hbl).trans hb4,ho⟩,?_⟩;intro b5 hl5 hx5 AU;refine ⟨hl5.trans hl0,?_⟩;intro b6 NS xD Y5;replace NS:b6.length=b4.length:=NS;replace xD:∀j,j<bx.length->b6[j]?=b5[j]?:=xD;have hall:∀j,j<bx.length->j≠b->b6[j]?=bx1[j]?:=fun j hj hne=>(xD j hj).trans ((AU j hne).trans ((hr0 j hj).trans ((hr4 j oM).trans (hr3 j hne oM))));have Ph:jl bx.length b6:=Ty.KR (q:=b) (fun j hj hne=>(xD j hj).trans ((AU j hne).trans (hr0 j hj))) hb4 ((xD b hbl).trans hx5.1) (fun i hi=>by
     rw [dA,dA,V7] at hi;rw [dA];rw [←dA] at hi;exact hi)
    conv=>whnf
    repeat' (first
    |((with_reducible refine (?_:_∧jl _ _∧_));refine aR.get ?_)
    |((with_reducible refine (?_:∃c:List AV,_∧_));refine ⟨_,(by first|exact hb|exact hs|exact hq),?_⟩;(conv=>whnf))
    |refine nX ?_;conv=>whnf
    |(with_reducible refine (?_:wv _=true->aV _=true->_));intro hwr hwb
    |(with_reducible refine (?_:aV _=true->_));intro hw;conv=>whnf
    |with_reducible assumption
    |((with_reducible refine (?_:l6 _ _ _ _));exact l6.hi (Nat.le_refl _))
    |(exact ak8)
    |(first|with_reducible refine aX ho ?_|with_reducible refine aQ ho ?_|with_reducible refine aD ho ?_|with_reducible refine ay ho ?_|with_reducible refine az ?_);conv=>whnf
    |with_reducible refine And.intro ?_ ?_
    |exact cL
    |(with_reducible intro h);first|(cases h;done)|(try simp only [lG,reduceCtorEq] at h);first|done|(exfalso;omega)|replace h:=h trivial aZ|replace h:=h aZ|skip
    |fail)
    refine aR.mk ⟨by show bx.length<=b6.length;omega,Ph,.pure (by rw [AV.aN,AV.ids,dA,GX,GX];rfl),?_⟩;intro b7 hl7 yM;replace yM:∀j,j<bx.length->b7[j]?=b6[j]?:=yM
    conv=>whnf
    intro hwr hwb;refine ag.mk hwr hwb fun K hK=>?_;obtain ⟨pre',k',y',p',bb',PX,OV,OQ,SQ,lc',qA,h',EF,post',jC,I',⟨-,-,hx',hk',-⟩,hK⟩:=hK;obtain ⟨rfl,e,rfl⟩:=hx.inj hx';simp only [Ce.mk.injEq] at e;obtain ⟨rfl,rfl,rfl,rfl,rfl,rfl,rfl,rfl,rfl,e,rfl,rfl⟩:=e;obtain rfl:=oK e;obtain ⟨rfl,rfl⟩:=eQ.inj hk0 hk';have hoff:Ce.off ⟨k,y,p,bb,an,tg,tx,kc,lc,cs [],hh,tr⟩=⟨k,y,p,bb,an,tg,tx,kc,lc,cs [],false,ByteArray.empty⟩:=by
     cases hh with
     |true=>rfl
     |false=>
      simp only [Bool.false_or,decide_eq_true_eq] at ht2;rw [ht2];rfl
    show K (.row 56 2 (((aP kids).2++ae).length+(kg hh tr).length) (fQ ((aP kids).2++ae)++fQ (kg hh tr))) b7;rw [Ad];refine hK b7 hl7 (Ph.same yM) ⟨?_,ho⟩ ?_ ?_
    ·rw [yM b hbl,xD b hbl,hx5.1,hoff]
    ·exact hk.fr fun i hi=>(yM i (hI i hi)).trans (hall i (hI i hi) (fun e=>hbI (e▸hi)))
    ·intro j hj hjI;by_cases hjl:j<bx.length
     ·exact (yM j hjl).trans ((hall j hjl hj).trans (hag j hjI oM))
     ·rw [List.getElem?_eq_none oM,List.getElem?_eq_none oM]
  ·exact h.elim
def c79:aC:=fun args bx K=>match args,bx with
 |[.int .i64 n],[]=>n<=1000∧∀t:ByteArray,(t.size:Int)<=max n 0->K (.str t) []
 |_,_=>False
def BKL (n:Int) (j:Nat) (τ:aJ):Prop:=∃(i:Int) (t:ByteArray),(0<=i∧(i<=n∨i=0))∧(t.size:Int)<=i∧j=(n-i).toNat∧τ=⟨[(4,.int .i64 i),(3,.str t),(0,.int .i64 n)],[]⟩
def alE:=fN 79 Tryz.f79 13 [.tmp 2]
theorem ado.xt {p:Prop} (g:p:=by ((first|((with_reducible refine (?_:ByteArray.size _+ByteArray.size _<=_));omega)|((with_reducible refine (?_:∃(j:Nat) (τ':aJ),j<_∧Rx 0 _ τ'∧_));(refine ⟨_,_,?_,Rx.refl,i+1,_,⟨oM,.inl oM⟩,(by rw [Bk.bA];omega),rfl,rfl⟩);omega)|((with_reducible refine (?_:ag _ _ _ _ _));first|exact ag.aU kV kV mV mV fun K hK=>hK.2 _ oM)|fail);(repeat' (first|exact bN|fail));first|done|fail)):p:=g
theorem akb:aC.OK Tryz.prog 79 c79:=by
 intro args bx K0 h;unfold c79 at h;split at h
 ·rename_i n;obtain ⟨h0,-⟩:=h;refine alE.okW (base:=0) rfl mV mV ?_;have B:=V.base af.nil
  conv=>whnf
  repeat' (first
  |with_reducible refine WP.seq ?_
  |(with_reducible first|refine Go.mk ?_|refine WP.oC B (aH 79) ?_|refine WP.draw B (aH 79) ?_|refine WP.cond ?_|refine WP.exit ?_|refine WP.skip ?_|refine WP.ret ?_);conv=>whnf
  |with_reducible refine WP.block ?_
  |with_reducible assumption
  |with_reducible refine And.intro ?_ ?_
  |exact cL
  |(with_reducible intro h);first|(cases h;done)|(try simp only [lG,reduceCtorEq] at h);first|done|(exfalso;omega)|replace h:=h trivial aZ|replace h:=h aZ|skip
  |fail)
  refine WP.loop (BKL n) ⟨0,_,⟨oM,.inr rfl⟩,(by show ((0:Nat):Int)<=0;omega),rfl,rfl⟩ ?_;rintro j τ ⟨i,t,⟨g1,g2⟩,g3,rfl,rfl⟩;have e1:({data:=#[32]}:ByteArray).size=1:=rfl;let zA:=(aH 79)
  open ado in exact bN
 ·exact h.elim
def Ku (n:Nat) (l:List AV) (ts:List ByteArray):Prop:=n=ts.length∧l=cO ts
theorem Ku.nil:Ku 0 [] []:=⟨rfl,rfl⟩
theorem Ku.cons {n:Nat} {l:List AV} {ts:List ByteArray} {t:ByteArray} (h:Ku n l ts):Ku (n+1) (.str t::l) (t::ts):=⟨by rw [h.1,List.length_cons],by rw [h.2,cO,cO,List.map_cons]⟩
def jP:List ByteArray->Nat
 |[]=>0
 |t::ts=>t.size+jP ts
def c47:aC:=fun args bx K=>match args,bx with
 |[.ptr 0 0,.sl n l],[[.sl nk lk,.int .i64 a,.str out,.int .i64 left,.int .i64 name]]=>∃ts:List ByteArray,Ku n l ts∧(∃ks:List Int,(nk=ks.length∧lk=jh ks)∧(jP ts<=1000000∧out.size<=1000000∧ts.length<=1000)∧∀out':ByteArray,out'.size=out.size+jP ts->K (.bX []) [mB ks a out' left name])
 |_,_=>False
theorem EI {ts:List ByteArray} {i:Nat} (h:i<ts.length):jP (ts.take (i+1))=jP (ts.take i)+(Bk.rowAt ts i).size:=by
 induction ts generalizing i with
 |nil=>simp at h
 |cons t ts ih=>
  cases i with
  |zero=>
   show t.size+jP (ts.take 0)=0+t.size;rw [List.take_zero];show t.size+0=_;omega
  |succ i=>
   have:=ih (i:=i) (by simpa using h);have e:Bk.rowAt (t::ts) (i+1)=Bk.rowAt ts i:=by unfold Bk.rowAt;simp
   rw [e,List.take_succ_cons,List.take_succ_cons,jP,jP,this];omega
theorem M9 {ts:List ByteArray} (i:Nat):jP (ts.take i)<=jP ts:=by
 induction ts generalizing i with
 |nil=>rw [List.take_nil];exact Nat.le_refl _
 |cons t ts ih=>
  cases i with
  |zero=>exact Nat.zero_le _
  |succ i=>have:=ih i;rw [List.take_succ_cons,jP,jP];omega
theorem exS {n:Nat} {l:List AV} {ts:List ByteArray} {Q:List ByteArray->Prop} (hs:Ku n l ts) (h:∃us,Ku n l us∧Q us):Q ts:=by
 obtain ⟨us,h1,h2⟩:=h;have e:cO us=cO ts:=by rw [←h1.2,←hs.2]
 have:us=ts:=by
  have inj:∀{a b:List ByteArray},cO a=cO b->a=b:=by
   intro a
   induction a with
   |nil=>intro b h;cases b with|nil=>rfl|cons x y=>simp [cO] at h
   |cons x y ih=>
    intro b h;cases b with
    |nil=>simp [cO] at h
    |cons u v=>
     rw [cO,cO,List.map_cons,List.map_cons] at h;simp only [List.cons.injEq,AV.str.injEq] at h;rw [h.1,ih h.2]
  exact inj e
 rw [this] at h2;exact h2
def PL (ks:List Int) (ts:List ByteArray) (a:Int) (out:ByteArray) (left name:Int) (j:Nat) (τ:aJ):Prop:=∃(i:Int) (o:ByteArray),(0<=i∧i<=ts.length)∧o.size=out.size+jP (ts.take i.toNat)∧j=((ts.length:Int)-i).toNat∧τ=⟨[(4,.int .i64 i),(1,.sl ts.length (cO ts)),(0,.ptr 0 0)],[mB ks a o left name]⟩
theorem RO {ts:List ByteArray} {i:Int} {o out:ByteArray} (h0:0<=i) (h:i<ts.length) (ho:o.size=out.size+jP (ts.take i.toNat)):(o++Bk.rowAt ts i.toNat).size=out.size+jP (ts.take (i+1).toNat):=by rw [show (i+1).toNat=i.toNat+1 by omega,EI oM,Bk.bA];omega
theorem VN {ts:List ByteArray} {i:Nat} (h:i<ts.length):(Bk.rowAt ts i).size<=jP ts:=by have h1:=EI h;have h2:=M9 (ts:=ts) (i+1);omega
def alV:=fN 47 Tryz.f47 23 []
theorem adn.xt {p:Prop} (g:p:=by ((first|exact Nb|exact K6|((with_reducible refine (?_:ByteArray.size _+ByteArray.size _<=_));have:=VN (ts:=ts) (i:=i.toNat) oM;omega)|((with_reducible refine (?_:∃(j:Nat) (τ':aJ),j<_∧Rx 1 _ τ'∧_));(refine ⟨_,_,?_,Rx.refl,i+1,_,⟨oM,oM⟩,RO g1 oM g3,rfl,rfl⟩);omega)|((with_reducible refine (?_:ag _ _ _ _ _));first|exact ag.aU kV kV mV mV fun K hK=>(Zp (exS ⟨rfl,rfl⟩ hK)).2 _ (by first|exact g3|(rw [g3,show i.toNat=ts.length by omega,List.take_length])))|fail);(repeat' (first|exact bN|fail));first|done|fail)):p:=g
theorem CK:aC.OK Tryz.prog 47 c47:=by
 intro args bx K0 h;unfold c47 at h;split at h
 ·rename_i n l nk lk a out left name;obtain ⟨ts,⟨rfl,rfl⟩,ks,⟨rfl,rfl⟩,⟨h1,h2,h3⟩,-⟩:=h;refine alV.okW (base:=1) rfl mV mV ?_;have B:=V.base af.nil
  conv=>whnf
  repeat' (first
  |with_reducible refine WP.seq ?_
  |(with_reducible first|refine Go.mk ?_|refine WP.oC B (aH 47) ?_|refine WP.draw B (aH 47) ?_|refine WP.cond ?_|refine WP.exit ?_|refine WP.skip ?_|refine WP.ret ?_);conv=>whnf
  |with_reducible refine WP.block ?_
  |with_reducible assumption
  |with_reducible refine And.intro ?_ ?_
  |exact cL
  |(with_reducible intro h);first|(cases h;done)|(try simp only [lG,reduceCtorEq] at h);first|done|(exfalso;omega)|replace h:=h trivial aZ|replace h:=h aZ|skip
  |fail)
  refine WP.loop (PL ks ts a out left name) ⟨0,out,⟨oM,oM⟩,rfl,rfl,rfl⟩ ?_;rintro j τ ⟨i,o,⟨g1,g2⟩,g3,rfl,rfl⟩;have g4:=M9 (ts:=ts) i.toNat;let zA:=(aH 47)
  open adn in exact bN
 ·exact h.elim
end V
end
end Go.Proofs.YtlmjabnkjmfcmaaGreat
