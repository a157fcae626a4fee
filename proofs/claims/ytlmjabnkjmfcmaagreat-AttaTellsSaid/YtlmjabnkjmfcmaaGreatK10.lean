/- Own texts, joined and shortened by a program; no condition. -/
import Derived.Test.YtlmjabnkjmfcmaaGreatK9
namespace Go.Proofs.YtlmjabnkjmfcmaaGreat
open Go Go.RowKit Go.PlainAid
set_option linter.unusedVariables false
set_option linter.unusedSimpArgs false
set_option maxHeartbeats 20000000
set_option linter.defProp false
section
set_option maxRecDepth 100000
namespace V
open Ab
open Bk (Cm)
theorem ex3 {n:Nat} {l kc vc:List AV} {L:List Cm} {x y:Nd} {Q:List Cm->Nd->Nd->Prop} (h1:dC n l L) (h2:kc=bF x) (h3:vc=bF y) (hq:Q L x y):∃L x y,dC n l L∧kc=bF x∧vc=bF y∧Q L x y:=⟨L,x,y,h1,h2,h3,hq⟩
def ahv:=fN 154 Tryz.f154 216 [.cell 6 35,.cell 7 170,.tmp 8,.tmp 9]
theorem adU.xt {p:Prop} (g:p:=by ((first|((with_reducible refine (?_:(_:Int)<=_));(have hw:=‹Bk.cZ _=false->_› aZ);omega)|exact EN|((apply ex3);(case h1=>(repeat' (first|exact dC.mk _|exact dC.nil|apply dC.app)));(case h2=>(first|exact (rfl:_=bF xH)|exact rfl));(case h3=>(first|exact (rfl:_=bF xH)|exact rfl)))|(refine ⟨_,rfl,?_⟩)|(refine ⟨xH,rfl,?_⟩)|((with_reducible refine (?_:ag _ _ _ _ _));first|exact ag.aU kV kV fU fU fun K hK=>(BA (dC.mk L) hK).2.1 (.mk _ _ _ _ _ _ _ _ _ _ _ _) _ _ _ _ Px oW|exact ag.aU kV kV fU fU fun K hK=>(BA (dC.mk L) hK).2.2.1 (.mk _ _ _ _ _ _ _ _ _ _ _ _) (.mk _ _ _ _ _ _ _ _ _ _ _ _) _ _ _ _ _ _ _ Px Px oW|exact ag.aU kV kV fU fU fun K hK=>(BA (dC.mk L) hK).2.2.2.1 (.mk _ _ _ _ _ _ _ _ _ _ _ _) _ _ _ _|exact ag.aU kV kV fU fU fun K hK=>(BA (dC.mk L) hK).2.2.2.1 (.mk _ _ _ _ _ _ _ _ _ _ _ _) [] _ _ _|exact ag.aU kV kV fU fU fun K hK=>(BA (dC.mk L) hK).2.2.2.2 (.mk _ _ _ _ _ _ _ _ _ _ _ _) (.mk _ _ _ _ _ _ _ _ _ _ _ _) _ _ _ _ _ _)|fail);(repeat' (first|exact bN|fail));first|done|fail)):p:=g
theorem afF {m:Nat} (i161:aC.OK Tryz.prog 161 (PN m)) (i162:aC.OK Tryz.prog 162 (PM m)) (i165:aC.OK Tryz.prog 165 (Ka m)) (i167:aC.OK Tryz.prog 167 (PH m)):aC.OK Tryz.prog 154 (Mx (m+1)):=by
 intro args bx K0 h;unfold Mx at h;split at h
 ·rename_i nl ll deep s p n e;obtain ⟨L,⟨rfl,rfl⟩,⟨h0,h1,h2,rfl,h3,h4,h5,h6⟩,-⟩:=h;refine ahv.okW (base:=1) rfl fU fU ?_;have B:=V.base (af.cons i161 (af.cons i162 (af.cons i165 (af.cons i167 (af.cons (afx 100000000) (af.cons YP (af.cons CO (af.cons afz (af.cons yF (af.cons Nr (af.cons Gp (af.cons Eh (af.cons E9 (af.cons Ns (af.cons RV af.nil)))))))))))))))
  conv=>whnf
  let zA:=(aH 154)
  open adU in exact bN
 ·exact h.elim
structure Grp (m:Nat):Prop where
 agn:aC.OK Tryz.prog 141 (MB m)
 akx:aC.OK Tryz.prog 169 (Uv m)
 aky:aC.OK Tryz.prog 168 (Uw m)
 Ws:aC.OK Tryz.prog 165 (Ka m)
 agk:aC.OK Tryz.prog 167 (PH m)
 agm:aC.OK Tryz.prog 161 (PN m)
 agl:aC.OK Tryz.prog 162 (PM m)
 akA:aC.OK Tryz.prog 154 (Mx m)
 akz:aC.OK Tryz.prog 155 (Mw m)
theorem Grp.zero:Grp 0:=by
 constructor
 ·intro args bx K0 h;unfold MB at h;split at h
  ·obtain ⟨⟨-,-,-,-,-,h,h'⟩,-⟩:=h;omega
  ·exact h.elim
 ·intro args bx K0 h;unfold Uv at h;split at h
  ·obtain ⟨⟨-,-,-,-,-,h,h'⟩,-⟩:=h;omega
  ·exact h.elim
 ·intro args bx K0 h;unfold Uw at h;split at h
  ·obtain ⟨⟨-,-,-,-,-,h,h'⟩,-⟩:=h;omega
  ·exact h.elim
 ·intro args bx K0 h;unfold Ka at h;split at h
  ·obtain ⟨⟨-,-,-,-,-,h,h'⟩,-⟩:=h;omega
  ·exact h.elim
 ·intro args bx K0 h;unfold PH at h;split at h
  ·obtain ⟨L,-,⟨-,-,-,-,-,h,-,h'⟩,-⟩:=h;omega
  ·exact h.elim
 ·intro args bx K0 h;unfold PN at h;split at h
  ·obtain ⟨⟨-,-,-,-,-,h,h'⟩,-⟩:=h;omega
  ·exact h.elim
 ·intro args bx K0 h;unfold PM at h;split at h
  ·obtain ⟨-,⟨-,-,-,-,-,h,h'⟩,-⟩:=h;omega
  ·exact h.elim
 ·intro args bx K0 h;unfold Mx at h;split at h
  ·obtain ⟨L,-,⟨-,-,-,-,-,h,-,h'⟩,-⟩:=h;omega
  ·exact h.elim
 ·intro args bx K0 h;unfold Mw at h;split at h
  ·obtain ⟨L,-,⟨-,-,-,-,-,h,-,h'⟩,-⟩:=h;omega
  ·exact h.elim
theorem grp (i127:aC.OK Tryz.prog 127 Uz):∀m,Grp m
 |0=>Grp.zero
 |m+1=>by have g:=grp i127 m;exact ⟨afL g.akA g.akz,afu i127 g.agn,afv g.akx,afy g.aky,afw g.Ws,afB g.Ws,afA g.agk,afF g.agm g.agl g.Ws g.agk,afE g.agm g.agl g.Ws⟩
def ahO:=fN 128 Tryz.f128 65 [.cell 8 35,.tmp 9,.tmp 10]
def aiS:aC:=fun args bx K=>match args,bx with
 |[.str s,.int .i64 a,.int .i64 n,.int .i64 deep],[]=>(s.size<=900000∧0<=a∧a<=s.size)∧(∀(x:Nd) (q:Int),FW x->x.lead.length=0->(a<q∧q<=s.size∧wt x+4<=8*(q-a))->K (.bX [.agg (bF x),.int .i64 q,.int .i64 0]) [])∧K (.bX [.agg (bF BO),.nP .i64,.nz .i64]) []
 |_,_=>False
theorem adR.xt {p:Prop} (g:p:=by ((first|((with_reducible refine (?_:ag _ _ _ _ _));first|exact ag.aU kV kV fU fU fun K hK=>hK.2.2|exact ag.aU kV kV fU fU fun K hK=>hK.2.1 _ _ aZ aZ aZ)|fail);(repeat' (first|exact bN|fail));first|done|fail)):p:=g
theorem YT (i127:aC.OK Tryz.prog 127 Uz):aC.OK Tryz.prog 128 aiS:=by
 have i141:=(grp i127 451).agn;intro args bx K0 h;unfold aiS at h;split at h
 ·rename_i s a n deep;obtain ⟨⟨h0,h1,h2⟩,-⟩:=h;refine ahO.okW (base:=0) rfl fU fU ?_;have B:=V.base (af.cons i141 af.nil)
  conv=>whnf
  let zA:=(aH 128)
  open adR in exact bN
 ·exact h.elim
def Bb (s:ByteArray) (a:Int):Int:=(Bk.aY s a:Nat)-(Bk.bG s (Bk.aY s a):Nat)
def c31:aC:=fun args bx K=>match args,bx with
 |[.str s,.int .i64 a],[]=>s.size<=900000∧((0<=Bb s a∧(0<=a->Bb s a<=a)∧Bb s a<=s.size)->K (.int .i64 (Bb s a)) [])
 |_,_=>False
theorem O9:aC.OK Tryz.prog 31 c31:=by
 refine il (g:=Hy fun s a=>some (.int .i64 ((Bk.aY s a:Nat)-(Bk.bG s (Bk.aY s a):Nat)))) rfl fun args bx K0 h=>?_;unfold c31 at h;split at h
 ·rename_i s a;refine ⟨rfl,.int .i64 (Bb s a),by show (if _ then _ else _)=_;rw [if_pos h.1];rfl,rfl,fun K hK=>hK.2 ?_⟩;have h1:=Bk.fT s (Bk.aY s a);have h2:=Bk.mG s a;unfold Bb;refine ⟨oM,fun h3=>?_,oM⟩;have:Bk.aY s a<=a.toNat:=by unfold Bk.aY;omega
  omega
 ·exact h.elim
def aix:aC:=fun args bx K=>match args,bx with
 |[.str s,.int .i64 a],[]=>(s.size<=900000∧0<=a∧a<=s.size)∧(∀(l:List Cm) (same:Bool) (p:Int),Bk.qE s a.toNat 0 false=some (l,same,p.toNat)->(a<=p∧p<=s.size∧l.length+a<=p)->K (.bX [cs l,.bool same,.int .i64 p,.int .i64 0]) [])∧K (.bX [.nil,.bool false,.nP .i64,.nz .i64]) []
 |_,_=>False
theorem YO:aC.OK Tryz.prog 29 aix:=by
 refine il (g:=Hy fun s a=>inT s a fun q=>Ke (Bk.qE s q 0 false)) rfl fun args bx K0 h=>?_;unfold aix at h;split at h
 ·rename_i s a;obtain ⟨⟨h0,h1,h2⟩,-⟩:=h;refine ⟨rfl,_,by show (if _ then (if _ then _ else _) else _)=_;rw [if_pos h0,if_pos ⟨h1,h2⟩],Qu _,fun K hK=>?_⟩;cases hr:Bk.qE s a.toNat 0 false with
  |none=>exact hK.2.2
  |some r=>
   obtain ⟨l,same,p⟩:=r;obtain ⟨g1,g2,g3⟩:=Bk.DC oM hr;exact hK.2.1 l same p (by rw [hr,Int.toNat_natCast]) ⟨oM,oM,oM⟩
 ·exact h.elim
def aiw:aC:=fun args bx K=>match args,bx with
 |[.str s,.int .i64 a],[]=>(s.size<=900000∧0<=a∧a<=s.size)∧(((Bk.bG s a.toNat:Int)<=a∧a<=Bk.l7 s a.toNat∧(Bk.l7 s a.toNat:Int)<=s.size)->K (.bX [.int .i64 (Bk.bG s a.toNat:Nat),.int .i64 (Bk.l7 s a.toNat:Nat)]) [])
 |_,_=>False
theorem afi:aC.OK Tryz.prog 32 aiw:=by
 refine il (g:=Hy fun s a=>some (.bX [.int .i64 (Bk.bG s (Bk.aY s a):Nat),.int .i64 (Bk.l7 s (Bk.aY s a):Nat)])) rfl fun args bx K0 h=>?_;unfold aiw at h;split at h
 ·rename_i s a;obtain ⟨⟨h0,h1,h2⟩,-⟩:=h;have e:Bk.aY s a=a.toNat:=by unfold Bk.aY;omega
  refine ⟨rfl,_,by show (if _ then _ else _)=_;rw [if_pos h0],rfl,fun K hK=>?_⟩;rw [e];have g1:=Bk.fT s a.toNat;have g2:=Bk.rM s a.toNat;have g3:=Bk.tC (s:=s) (k:=a.toNat) oM;exact hK.2 ⟨oM,oM,oM⟩
 ·exact h.elim
def c34:aC:=fun args bx K=>match args,bx with
 |[.str s],[]=>s.size<=900000∧K (.str (Bk.Eo s)) []
 |_,_=>False
theorem aaU:aC.OK Tryz.prog 34 c34:=by
 refine il (g:=fun xs=>match xs with
  |[.str s]=>if s.size<=900000 then some (.str (Bk.Eo s)) else none
  |_=>none) rfl fun args bx K0 h=>?_
 unfold c34 at h;split at h
 ·exact ⟨rfl,_,by show (if _ then _ else _)=_;rw [if_pos h.1],rfl,fun K hK=>hK.2⟩
 ·exact h.elim
end V
end
end Go.Proofs.YtlmjabnkjmfcmaaGreat
