/- Own texts, joined and shortened by a program; no condition. -/
import Derived.Test.YtlmjabnkjmfcmaaGreatK10
namespace Go.Proofs.YtlmjabnkjmfcmaaGreat
open Go Go.RowKit Go.PlainAid
set_option linter.unusedVariables false
set_option linter.unusedSimpArgs false
set_option maxHeartbeats 20000000
set_option linter.defProp false
section
set_option maxRecDepth 100000
namespace V
open Ab
open Bk (Cm)
def D5:List (ByteArray×Int×Bool)->List AV
 |[]=>[]
 |(t,k,g)::l=> .str t::.int .i64 k::.bool g::D5 l
def lM:List (ByteArray×Int×Bool)->Nat
 |[]=>0
 |(t,_,_)::l=>t.size+lM l
theorem Gw:∀a b,D5 (a++b)=D5 a++D5 b
 |[],b=>rfl
 |(t,k,g)::a,b=>by rw [List.cons_append,D5,D5,Gw a b];rfl
theorem kr:∀a b,lM (a++b)=lM a+lM b
 |[],b=>by rw [List.nil_append,lM,Nat.zero_add]
 |(t,k,g)::a,b=>by rw [List.cons_append,lM,lM,kr a b,Nat.add_assoc]
theorem Gv:∀l,jR (D5 l)=true
 |[]=>rfl
 |(t,k,g)::l=>by rw [D5,jR,jR,jR,Gv l];rfl
theorem Bw:∀l,(D5 l).length=l.length*3
 |[]=>rfl
 |(t,k,g)::l=>by rw [D5,List.length_cons,List.length_cons,List.length_cons,Bw l,List.length_cons];omega
def OD (n:Nat) (l:List AV) (L:List (ByteArray×Int×Bool)):Prop:=n=L.length∧l=D5 L
theorem OD.mk (L:List (ByteArray×Int×Bool)):OD L.length (D5 L) L:=⟨rfl,rfl⟩
theorem OD.app (L:List (ByteArray×Int×Bool)) {t:ByteArray} {k:Int} {g:Bool}:OD (L.length+1) (D5 L++[.str t,.int .i64 k,.bool g]) (L++[(t,k,g)]):=⟨by rw [List.length_append];rfl,by rw [Gw];rfl⟩
theorem ame {L:List (ByteArray×Int×Bool)} {i:Nat} {K:List AV->Prop} (hi:i<L.length) (h:∀t k g,lM (L.take (i+1))=lM (L.take i)+t.size->lM (L.take (i+1))<=lM L->K [.str t,.int .i64 k,.bool g]):∃x r,(D5 L).drop (i*3)=x++r∧x.length=3∧K x:=by
 rcases hx:L[i] with ⟨t,k,g⟩;have hs:L=L.take i++(t,k,g)::L.drop (i+1):=by rw [←hx,List.getElem_cons_drop,List.take_append_drop]
 have h1:L.take (i+1)=L.take i++[(t,k,g)]:=by rw [←hx,List.take_append_getElem]
 have hl:(L.take i).length=i:=by rw [List.length_take];omega
 have h2:lM (L.take (i+1))=lM (L.take i)+t.size:=by rw [h1,kr];rfl
 have h3:lM (L.take (i+1))<=lM L:=by have:=congrArg lM (List.take_append_drop (i+1) L);rw [kr] at this;omega
 have h4:(D5 L).drop (i*3)=.str t::.int .i64 k::.bool g::D5 (L.drop (i+1)):=by
  conv=>lhs;rw [hs,Gw]
  rw [List.drop_append_of_le_length (by rw [Bw,hl];exact Nat.le_refl _),List.drop_of_length_le (by rw [Bw,hl];exact Nat.le_refl _)];rfl
 exact ⟨_,_,h4,rfl,h t k g h2 h3⟩
theorem ajn {c:Int}:∀(lim:Nat->Nat) (w:World) (vs':List Value),AV.Rs lim [] w [.int .i32 c] vs'->vs'=[.int .i32 c]:=by intro lim w vs' h;simp only [AV.Rs,AV.R] at h;obtain ⟨v,r,rfl,rfl,rfl⟩:=h;rfl
def aiJ:aC:=fun args bx K=>match args,bx with
 |[.int .i32 r],[]=>Bk.fu r=true∧∀t:ByteArray,t.size<=4->K (.str t) []
 |_,_=>False
theorem afO:aC.OK Tryz.prog 139 aiJ:=by
 intro args bx K0 h;unfold aiJ at h;split at h
 ·exact ⟨.str (Bk.oP _),[],yA ⟨_,rfl,rfl,rfl⟩ rfl ajn (fun _ _=>UU) fun w=>PQ _ w h.1,rfl,rfl,fun K hK=>hK.2 _ (Bk.Kb _)⟩
 ·exact h.elim
theorem NJ (c:Int):∀f k i,Bk.CS c f k=some i->i<k+f
 |0,k,i,h=>by simp [Bk.CS] at h
 |f+1,k,i,h=>by
  rw [Bk.CS] at h;split at h
  ·cases h;omega
  ·have:=NJ c f (k+1) i h;omega
theorem Iu:∀i,i<18->Bk.fu (Bk.Iw i)=true:=dK
def aiK:aC:=fun args bx K=>match args,bx with
 |[.str s,.int .i64 a],[]=>(s.size<=900000∧0<=a∧a<s.size∧bt s a.toNat=92)∧(∀r e:Int,Bk.fu r=true->(a<e∧e<=s.size)->K (.bX [.int .i32 r,.int .i64 e,.int .i64 0]) [])∧K (.bX [.int .i32 0,.int .i64 a,.int .i64 5]) []
 |_,_=>False
theorem abM {s:ByteArray} {q:Nat} {r:Int} {e:Nat} (h:Bk.Mk s q=some (r,e)):Bk.fu r=true∧q+2<=e∧e<=s.size:=by
 unfold Bk.Mk at h;split at h
 ·cases h
 ·split at h
  ·rename_i i hi;cases h;exact ⟨Iu _ (by have:=NJ _ _ _ _ hi;omega),Nat.le_refl _,oM⟩
  ·split at h
   ·cases h
   ·rename_i hn;split at h
    ·split at h
     ·rename_i hs;cases h;exact ⟨hs,oM,oM⟩
     ·cases h
    ·cases h
theorem afP:aC.OK Tryz.prog 138 aiK:=by
 intro args bx K0 h;unfold aiK at h;split at h
 ·rename_i s a;obtain ⟨⟨h0,h1,h2,h3⟩,-⟩:=h;obtain ⟨k,rfl⟩:∃k:Nat,a=k:=⟨a.toNat,oM⟩;have hc:=fun w=>Mj s k w (Nat.le_trans h0 dE) oM h3;cases hq:Bk.Mk s k with
  |some r=>
   obtain ⟨r,e⟩:=r;have hb:=abM hq;rw [hq] at hc;exact ⟨.bX [.int .i32 r,.int .i64 e,.int .i64 0],[],yA (u:=.tuple #[.int .i32 r,.int .i64 e,.int .i64 0]) ⟨_,rfl,rfl,rfl⟩ rfl Hg (fun _ _=>by rw [AV.R];refine ⟨_,rfl,?_⟩;simp only [AV.Rs,AV.R];exact ⟨_,_,rfl,rfl,_,_,rfl,rfl,_,_,rfl,rfl,rfl⟩) fun w=>hc w,rfl,rfl,fun K hK=>hK.2.1 r e hb.1 ⟨oM,oM⟩⟩
  |none=>
   rw [hq] at hc;exact ⟨.bX [.int .i32 0,.int .i64 k,.int .i64 5],[],yA (u:=.tuple #[.int .i32 0,.int .i64 k,.int .i64 5]) ⟨_,rfl,rfl,rfl⟩ rfl Hg (fun _ _=>by rw [AV.R];refine ⟨_,rfl,?_⟩;simp only [AV.Rs,AV.R];exact ⟨_,_,rfl,rfl,_,_,rfl,rfl,_,_,rfl,rfl,rfl⟩) fun w=>hc w,rfl,rfl,fun K hK=>hK.2.2⟩
 ·exact h.elim
def aiI:aC:=fun args bx K=>match args,bx with
 |[.str s,.int .i64 a,.int .i64 n],[]=>(s.size<=900000∧0<=a∧a<=s.size)∧∀b:Int,K (.int .i64 b) []
 |_,_=>False
def ahE:=fN 140 Tryz.f140 33 [.tmp 6]
theorem aex.xt {p:Prop} (g:p:=by ((first|((with_reducible refine (?_:ag _ _ _ _ _));first|exact ag.aU kV kV fU fU fun K hK=>hK.2 _)|fail);(repeat' (first|exact bN|fail));first|done|fail)):p:=g
theorem afM:aC.OK Tryz.prog 140 aiI:=by
 intro args bx K0 h;unfold aiI at h;split at h
 ·rename_i s a n;obtain ⟨⟨h0,h1,h2⟩,-⟩:=h;refine ahE.okW (base:=0) rfl fU fU ?_;have B:=V.base (af.cons R3 (af.cons V3 (af.cons afi (af.cons Eh af.nil))))
  conv=>whnf
  let zA:=(aH 140)
  open aex in exact bN
 ·exact h.elim
def aiL:aC:=fun args bx K=>match args,bx with
 |[.sl n l],[]=>∃L,OD n l L∧(1<=L.length∧lM L+2*L.length<=90000000)∧∀t:ByteArray,K (.str t) []
 |_,_=>False
def JL (L:List (ByteArray×Int×Bool)) (j:Nat) (τ:aJ):Prop:=∃(L':List (ByteArray×Int×Bool)) (i b:Int) (g:Bool) (t:ByteArray),L'=L∧(1<=i∧i<=L'.length)∧0<=b∧(t.size+b<=lM (L'.take i.toNat)+2*i)∧j=((L'.length:Int)-i).toNat∧τ=⟨[(6,.int .i64 i),(5,.bool g),(4,.int .i64 b),(3,.str t),(0,.sl L'.length (D5 L'))],[]⟩
theorem JL.mk {L L':List (ByteArray×Int×Bool)} {i b:Int} {g:Bool} {t:ByteArray} (hL:L'=L) (h1:1<=i∧i<=L'.length) (h2:0<=b) (h3:t.size+b<=lM (L'.take i.toNat)+2*i):JL L ((L'.length:Int)-i).toNat ⟨[(6,.int .i64 i),(5,.bool g),(4,.int .i64 b),(3,.str t),(0,.sl L'.length (D5 L'))],[]⟩:=⟨L',i,b,g,t,hL,h1,h2,h3,rfl,rfl⟩
theorem aep {i b:Int} {g:Bool} {t t1:ByteArray} {k1:Int} {g1:Bool} {n:Nat} {L:List (ByteArray×Int×Bool)}:Rx 0 ⟨[(6,.int .i64 i),(5,.bool g),(4,.int .i64 b),(3,.str t),(0,.sl n (D5 L))],[[.str t1,.int .i64 k1,.bool g1]]⟩ ⟨[(6,.int .i64 i),(5,.bool g),(4,.int .i64 b),(3,.str t),(0,.sl n (D5 L))],[]⟩:=Rx.pick [] dE (by intro i hi;omega) .nil (.cons (.same rfl) (.cons (.same rfl) (.cons (.same rfl) (.cons (.same rfl) (.cons (.same rfl) .nil))))) ⟨by simp [ni,wv,Gv],rfl⟩
theorem bkZ {k j:Nat} {τ τ':aJ} {I:Nat->aJ->Prop} (hi:I j τ') (hr:Rx 0 τ τ') (hj:j<k):∃j τ',j<k∧Rx 0 τ τ'∧I j τ':=⟨j,τ',hj,hr,hi⟩
def ahF:=fN 137 Tryz.f137 61 [.tmp 2]
theorem aew.xt {p:Prop} (g:p:=by ((first|((with_reducible refine (?_:(_:Nat)<_));(simp only [Bw,List.length_drop,List.length_cons] at*;omega))|(refine ⟨_,_,rfl,?_⟩)|((with_reducible refine (?_:ByteArray.size _+ByteArray.size _<=_));(try simp only [Bk.bA,ByteArray.size_extract] at*);omega)|((with_reducible refine (?_:WP _ _ _ (.loop _) _ _));(apply WP.loop (JL ((t0,k0,g0)::L0)));(case h0=>exact JL.mk rfl ⟨oM,oM⟩ oM (by simp [lM];omega));(case' h=>(rintro j τ ⟨L,i,b,g,t,hL,⟨p1,p2⟩,p3,p4,rfl,rfl⟩;rw [←hL] at h2)))|((with_reducible refine (?_:∃x r:List AV,_=x++r∧_));refine ame oM ?_;intro t1 k1 g1 f1 f2)|((with_reducible refine (?_:∃(j:Nat) (τ':aJ),j<_∧Rx 0 _ τ'∧_));refine bkZ (JL.mk hL ⟨oM,oM⟩ oM ?_) aep oM;rw [show (i+1).toNat=i.toNat+1 by omega];(try simp only [Bk.bA] at*);omega)|((with_reducible refine (?_:ag _ _ _ _ _));first|exact ag.aU kV kV fU fU fun K hK=>(hK.elim fun L h=>h.2.2 _))|fail);(repeat' (first|exact bN|fail));first|done|fail)):p:=g
theorem afQ:aC.OK Tryz.prog 137 aiL:=by
 intro args bx K0 h;unfold aiL at h;split at h
 ·obtain ⟨L,⟨rfl,rfl⟩,⟨h1,h2⟩,-⟩:=h;refine ahF.okW (base:=0) rfl (by simp [gZ,wv,Gv]) rfl ?_;have B:=V.base (af.cons Nt af.nil);obtain ⟨⟨t0,k0,g0⟩,L0,rfl⟩:∃x L0,L=x::L0:=by cases L with|nil=>simp at h1|cons x r=>exact ⟨x,r,rfl⟩
  conv=>whnf
  have e32:({data:=#[32]}:ByteArray).size=1:=rfl;let zA:=(aH 137)
  open aew in exact bN
 ·exact h.elim
def ZE:zy:=⟨[[0,1,2],[0,1,2,37],[6,7,8,9],[0,1,2,10],[0,1,2,10,11],[0,1,2,10,11,12],[0,2,10,11,12,13],[0,2,10,11,12,13,45],[6,7,8,9],[0,2,10,11,12,13,52],[0,2,10,11,12,13],[0,2,10,11,12,13],[0,2,10,11,12,13],[0,2,10,11,12,13,86],[11,13],[6,7,8,9],[0,2,10,11,12,13,103],[0,2,10,11,12,13,14,15,16],[0,2,10,11,12,13,14,15,16,135],[6,7,8,9],[0,2,10,11,12,15],[0,2,10,11,12,15],[0,2,10,11,12,13],[0,2,10,11,12,13,149],[0,2,10,11,12,13,179],[0,2,10,11,12,13],[0,2,10,11,12,13,193],[0,2,10,11,12,13],[0,2,10,11,12,13],[0,2,10,11,12,13,203],[0,2,10,11,12,13],[0,2,10,11,12,13],[0,2,10,11,12,13],[0,2,10,11,12,13],[0,2,10,11,12,13],[0,2,10,11,12,13],[0,2,10,11,12,13,227],[0,2,10,11,12,13,17],[0,2,10,11,12,13,17,233],[6,7,8,9]],[],false,[],[]⟩
def QL (s:ByteArray) (a n c:Int) (j:Nat) (τ:aJ):Prop:=∃(p k:Int) (L:List (ByteArray×Int×Bool)) (t:ByteArray),(a<p∧p<=s.size+2)∧(0<=k∧k<=t.size)∧(lM L+2*L.length+t.size:Int)<=4*(p-a)∧j=((s.size:Int)+3-p).toNat∧τ=⟨[(13,.int .i64 p),(12,.ptr 0 0),(11,.row 154 3 L.length (D5 L)),(10,.int .u8 c),(2,.int .i64 n),(0,.str s)],[[.str t,.int .i64 k,.bool false]]⟩
theorem QL.mk {s t:ByteArray} {a n c p k:Int} {N:Nat} {C:List AV} {L:List (ByteArray×Int×Bool)} (hL:OD N C L) (h1:a<p∧p<=s.size+2) (h2:0<=k∧k<=t.size) (h3:(lM L+2*L.length+t.size:Int)<=4*(p-a)):QL s a n c ((s.size:Int)+3-p).toNat ⟨[(13,.int .i64 p),(12,.ptr 0 0),(11,.row 154 3 N C),(10,.int .u8 c),(2,.int .i64 n),(0,.str s)],[[.str t,.int .i64 k,.bool false]]⟩:=by obtain ⟨rfl,rfl⟩:=hL;exact ⟨p,k,L,t,h1,h2,h3,rfl,rfl⟩
theorem amt {s t:ByteArray} {n c p k:Int} {g:Bool}:Rx 0 ⟨[(13,.int .i64 p),(12,.ptr 0 0),(11,.nil),(10,.int .u8 c),(2,.int .i64 n),(0,.str s)],[[.str t,.int .i64 k,.bool g]]⟩ ⟨[(13,.int .i64 p),(12,.ptr 0 0),(11,.row 154 3 ([]:List (ByteArray×Int×Bool)).length (D5 [])),(10,.int .u8 c),(2,.int .i64 n),(0,.str s)],[[.str t,.int .i64 k,.bool g]]⟩:=
 Rx.wv (.cons .refl .nil) (.cons .refl (.cons .refl (.cons .mo (.cons .refl (.cons .refl (.cons .refl .nil)))))) ⟨rfl,rfl⟩
def ahP:=fN 127 Tryz.f127 235 [.tmp 6,.tmp 7,.tmp 8,.tmp 9]
theorem Nv:aC.OK Tryz.prog 127 Uz:=by
 intro args bx K0 h;unfold Uz at h;split at h
 ·rename_i s a n;obtain ⟨⟨h0,h1,h2⟩,-⟩:=h;refine ahP.okW (base:=0) rfl fU fU ?_;have B:=V.base (af.cons RY (af.cons afQ (af.cons afP (af.cons afO (af.cons afM af.nil)))));have e39:({data:=#[39]}:ByteArray).size=1:=rfl
  conv=>whnf
  repeat' (first
  |with_reducible refine WP.seq ?_
  |(with_reducible first|refine Go.mk ?_|refine WP.oC B ZE ?_|refine WP.draw B ZE ?_|refine WP.cond ?_|refine WP.exit ?_|refine WP.skip ?_|refine WP.ret ?_);conv=>whnf
  |with_reducible refine WP.block ?_
  |with_reducible assumption
  |((with_reducible refine (?_:WP _ _ _ (.loop _) _ _));refine WP.jB amt ?_;apply WP.loop (QL s a n _);(case h0=>exact QL.mk (OD.mk []) ⟨oM,oM⟩ ⟨oM,oM⟩ (by simp [lM];omega));(case' h=>(rintro j τ ⟨p,k,L,t,⟨g1,g2⟩,⟨g3,g4⟩,g5,rfl,rfl⟩)))
  |((with_reducible refine (?_:∃(j:Nat) (τ':aJ),j<_∧Rx 0 _ τ'∧_));first|refine bkZ (QL.mk (by first|exact OD.app _|exact OD.mk _) ⟨oM,oM⟩ ⟨(by (try simp only [lL,Bk.bA,ByteArray.size_empty,Int.toNat_zero,ByteArray.size_extract,kr,lM] at*);omega),(by (try simp only [lL,Bk.bA,ByteArray.size_empty,Int.toNat_zero,ByteArray.size_extract,kr,lM] at*);omega)⟩ (by (try simp only [lL,Bk.bA,ByteArray.size_empty,Int.toNat_zero,ByteArray.size_extract,kr,lM] at*);omega)) Rx.refl oM|refine bkZ (QL.mk (by first|exact OD.app _|exact OD.mk _) ⟨oM,oM⟩ ⟨(by (try simp only [lL,Bk.bA,ByteArray.size_empty,Int.toNat_zero,ByteArray.size_extract,kr,lM] at*);omega),(by (try simp only [lL,Bk.bA,ByteArray.size_empty,Int.toNat_zero,ByteArray.size_extract,kr,lM] at*);omega)⟩ (by (try simp only [lL,Bk.bA,ByteArray.size_empty,Int.toNat_zero,ByteArray.size_extract,kr,lM] at*);omega)) (Rx.prune [0,2,10,11,12,13]) oM)
  |((with_reducible refine (?_:∃L,OD _ _ L∧_));refine ⟨_,by first|exact OD.app _|exact OD.mk _,⟨(by (try simp only [lL,Bk.bA,ByteArray.size_empty,Int.toNat_zero,ByteArray.size_extract,kr,lM] at*);omega),(by (try simp only [lL,Bk.bA,ByteArray.size_empty,Int.toNat_zero,ByteArray.size_extract,kr,lM] at*);omega)⟩,?_⟩)
  |((with_reducible refine (?_:ByteArray.size _+ByteArray.size _<=_));(try simp only [Bk.bA,ByteArray.size_extract] at*);omega)
  |(with_reducible refine (?_:ag _ _ _ _ _));first|exact ag.aU kV kV fU fU fun K hK=>hK.2.1 _ _ _ ⟨oM,oM⟩|exact ag.aU kV kV fU fU fun K hK=>hK.2.2
  |with_reducible refine And.intro ?_ ?_
  |exact cL
  |(with_reducible intro h);first|(cases h;done)|(try simp only [lG,reduceCtorEq] at h);first|done|(exfalso;omega)|replace h:=h trivial aZ|replace h:=h aZ|skip
  |fail)
 ·exact h.elim
def rD (s:ByteArray) (p:Int) (v:AV):List AV:=[.str s,.int .i64 p,v,.int .i64 0]
def rG (s:ByteArray) (v:AV):List AV:=[.str s,.nP .i64,v,.nz .i64]
def Pn (v:AV):Prop:=v=.nil∨∃L:List Cm,v=cs L
def jV (s:ByteArray) (p c:Int):Bool:=decide (p<s.size) && decide (bt s p.toNat=c) && Bk.kD s (p+1)
def ai3:aC:=fun args bx K=>match args,bx with
 |[.str s,.int .i64 p,.int .u8 c],[]=>(s.size<=900000∧0<=p∧p<=1000000)∧(jV s p c=true->p<s.size->K (.bool true) [])∧(jV s p c=false->K (.bool false) [])
 |_,_=>False
def ah5:=fN 111 Tryz.f111 24 [.tmp 6]
theorem CP:aC.OK Tryz.prog 111 ai3:=by
 intro args bx K0 h;unfold ai3 at h;split at h
 ·rename_i s p c;obtain ⟨⟨h0,h1,h2⟩,-⟩:=h;refine ah5.okW (base:=0) rfl dz dz ?_;have B:=V.base (af.cons Jw af.nil)
  conv=>whnf
  repeat' (first
  |with_reducible refine WP.seq ?_
  |(with_reducible first|refine Go.mk ?_|refine WP.oC B (aH 111) ?_|refine WP.draw B (aH 111) ?_|refine WP.cond ?_|refine WP.exit ?_|refine WP.skip ?_|refine WP.ret ?_);conv=>whnf
  |with_reducible refine WP.block ?_
  |with_reducible assumption
  |with_reducible refine And.intro ?_ ?_
  |exact cL
  |(with_reducible intro h);first|(cases h;done)|(try simp only [lG,reduceCtorEq] at h);first|done|(exfalso;omega)|replace h:=h trivial aZ|replace h:=h aZ|skip
  |fail)
  all_goals first
   |exact ag.mk rfl rfl fun K hK=>hK.2.1 (by simp [jV, *]) aZ
   |exact ag.mk rfl rfl fun K hK=>hK.2.2 (by cases hh:jV s p c<;>first|rfl|(exfalso;simp [jV] at hh;first|omega|simp_all))
 ·exact h.elim
def qo (s:ByteArray) (p:Int):Bool:=decide ((s.size:Int)<=p)||(decide (Bb s p<=0) && (decide (Bk.eD s (Bk.aY s p)=3)||decide (Bk.eD s (Bk.aY s p)=4)))
def c69:aC:=fun args bx K=>match args,bx with
 |[.str s,.int .i64 p],[]=>(s.size<=900000∧0<=p)∧(qo s p=true->K (.bool true) [])∧(qo s p=false->p<s.size->K (.bool false) [])
 |_,_=>False
theorem Nn {s:ByteArray} {p:Int} (h:(s.size:Int)<=p∨(Bb s p<=0∧(Bk.eD s (Bk.aY s p)=3∨Bk.eD s (Bk.aY s p)=4))):qo s p=true:=by unfold qo;simp only [Bool.or_eq_true,Bool.and_eq_true,decide_eq_true_eq];exact h
theorem Gi {s:ByteArray} {p:Int} (h:¬((s.size:Int)<=p∨(Bb s p<=0∧(Bk.eD s (Bk.aY s p)=3∨Bk.eD s (Bk.aY s p)=4)))):qo s p=false:=by
 cases hh:qo s p with
 |false=>rfl
 |true=>
  unfold qo at hh;simp only [Bool.or_eq_true,Bool.and_eq_true,decide_eq_true_eq] at hh;exact absurd hh h
def alK:=fN 69 Tryz.f69 23 [.tmp 4]
theorem RX:aC.OK Tryz.prog 69 c69:=by
 intro args bx K0 h;unfold c69 at h;split at h
 ·rename_i s p;obtain ⟨⟨h0,h1⟩,-⟩:=h;refine alK.okW (base:=0) rfl dz dz ?_;have B:=V.base (af.cons R3 (af.cons O9 af.nil))
  conv=>whnf
  repeat' (first
  |with_reducible refine WP.seq ?_
  |(with_reducible first|refine Go.mk ?_|refine WP.oC B (aH 69) ?_|refine WP.draw B (aH 69) ?_|refine WP.cond ?_|refine WP.exit ?_|refine WP.skip ?_|refine WP.ret ?_);conv=>whnf
  |with_reducible refine WP.block ?_
  |with_reducible assumption
  |with_reducible refine And.intro ?_ ?_
  |exact cL
  |(with_reducible intro h);first|(cases h;done)|(try simp only [lG,reduceCtorEq] at h);first|done|(exfalso;omega)|replace h:=h trivial aZ|replace h:=h aZ|skip
  |fail)
  all_goals first
   |exact ag.mk rfl rfl fun K hK=>hK.2.1 (Nn oM)
   |exact ag.mk rfl rfl fun K hK=>hK.2.2 (Gi oM) oM
   |(refine ag.bool (fun hb=>?_) (fun hb=>?_)
     ·exact ag.mk rfl rfl fun K hK=>hK.2.1 (Nn (by simp only [decide_eq_true_eq,decide_eq_false_iff_not] at hb;omega))
     ·exact ag.mk rfl rfl fun K hK=>hK.2.2 (Gi (by simp only [decide_eq_true_eq,decide_eq_false_iff_not] at hb;omega)) oM)
 ·exact h.elim
def c70:aC:=fun args bx K=>match args,bx with
 |[.ptr 0 0,a,e],[[.str s,.int .i64 p,v,.int .i64 c]]=>(Hq a∧ZJ e∧c=0∧Pn v)∧K (.bool false) [rG s v]
 |_,_=>False
def alJ:=fN 70 Tryz.f70 20 [.tmp 6]
theorem Jv:aC.OK Tryz.prog 70 c70:=by
 intro args bx K0 h;unfold c70 at h;split at h
 ·rename_i a e s p v c;obtain ⟨⟨ha,he,rfl,hv⟩,-⟩:=h;have B:=V.base af.nil;rcases ha with ⟨k,rfl⟩|rfl<;>rcases he with ⟨j,hj,rfl⟩|rfl<;>rcases hv with rfl|⟨L,rfl⟩
  all_goals
   refine alJ.okW (base:=1) rfl dz dz ?_
   conv=>whnf
   repeat' (first
   |with_reducible refine WP.seq ?_
   |(with_reducible first|refine Go.mk ?_|refine WP.oC B (aH 70) ?_|refine WP.draw B (aH 70) ?_|refine WP.cond ?_|refine WP.exit ?_|refine WP.skip ?_|refine WP.ret ?_);conv=>whnf
   |with_reducible refine WP.block ?_
   |with_reducible assumption
   |with_reducible refine And.intro ?_ ?_
   |exact cL
   |(with_reducible intro h);first|(cases h;done)|(try simp only [lG,reduceCtorEq] at h);first|done|(exfalso;omega)|replace h:=h trivial aZ|replace h:=h aZ|skip
   |fail)
   all_goals exact ag.aU kV kV dz dz fun K hK=>hK.2
 ·exact h.elim
def ai4:aC:=fun args bx K=>match args,bx with
 |[.ptr 0 0,.int .i64 a],[[.str s,.int .i64 p,v,.int .i64 e]]=>(s.size<=900000∧e=0∧Pn v)∧∀f:Int,(0<=f∧f<=s.size)->K (.int .i64 f) [rD s p v]
 |_,_=>False
def ah6:=fN 110 Tryz.f110 17 [.tmp 4]
theorem YW:aC.OK Tryz.prog 110 ai4:=by
 intro args bx K0 h;unfold ai4 at h;split at h
 ·rename_i a s p v e;obtain ⟨⟨h0,rfl,hv⟩,-⟩:=h;rcases hv with rfl|⟨L,rfl⟩
  all_goals
   refine ah6.okW (base:=1) rfl dz dz ?_;have B:=V.base (af.cons Gp af.nil)
   conv=>whnf
   repeat' (first
   |with_reducible refine WP.seq ?_
   |(with_reducible first|refine Go.mk ?_|refine WP.oC B (aH 110) ?_|refine WP.draw B (aH 110) ?_|refine WP.cond ?_|refine WP.exit ?_|refine WP.skip ?_|refine WP.ret ?_);conv=>whnf
   |with_reducible refine WP.block ?_
   |with_reducible assumption
   |with_reducible refine And.intro ?_ ?_
   |exact cL
   |(with_reducible intro h);first|(cases h;done)|(try simp only [lG,reduceCtorEq] at h);first|done|(exfalso;omega)|replace h:=h trivial aZ|replace h:=h aZ|skip
   |fail)
   all_goals exact ag.aU kV kV dz dz fun K hK=>hK.2 _ oM
 ·exact h.elim
def c96:aC:=fun args bx K=>match args,bx with
 |[.ptr 0 0],[[.str s,.int .i64 p,.nil,.int .i64 e]]=>(s.size<=900000∧0<=p∧p<=s.size∧e=0)∧(∀(l:List Cm) (same:Bool) (q:Int),Bk.qE s p.toNat 0 false=some (l,same,q.toNat)->(p<=q∧q<=s.size∧l.length+p<=q)->K (.bX [cs l,.bool same,.bool true]) [rD s q .nil])∧K (.bX [.sl 0 [],.bool false,.bool false]) [rG s .nil]
 |_,_=>False
def alv:=fN 96 Tryz.f96 35 [.tmp 2,.tmp 3,.tmp 4]
theorem adQ.xt {p:Prop} (g:p:=by ((first|((with_reducible refine (?_:Pn _));exact .inl rfl)|((with_reducible refine (?_:ag _ _ _ _ _));first|exact ag.aU kV kV dz dz fun K hK=>hK.2.1 _ _ _ aZ aZ|exact ag.aU kV kV dz dz fun K hK=>hK.2.2)|fail);(repeat' (first|exact bN|fail));first|done|fail)):p:=g
theorem aaJ:aC.OK Tryz.prog 96 c96:=by
 intro args bx K0 h;unfold c96 at h;split at h
 ·rename_i s p e;obtain ⟨⟨h0,h1,h2,rfl⟩,-⟩:=h;refine alv.okW (base:=1) rfl dz dz ?_;have B:=V.base (af.cons YO (af.cons Jv af.nil))
  conv=>whnf
  let zA:=(aH 96)
  open adQ in exact bN
 ·exact h.elim
def c97:aC:=fun args bx K=>match args,bx with
 |[.ptr 0 0,.agg [.int .i64 n,.int .i64 f,.bool o,.bool b,.bool fl,.int .i64 d,.bool k],.int .i64 from_],[[.str s,.int .i64 p,.nil,.int .i64 e]]=>(s.size<=900000∧0<=p∧p<=s.size∧e=0)∧(qo s p=true->K (.bool true) [rD s p .nil])∧(qo s p=false->b=false->K (.bool true) [rD s p .nil])∧(qo s p=false->p<s.size->K (.bool false) [rD s p .nil])
 |_,_=>False
def alu:=fN 97 Tryz.f97 66 [.tmp 6]
theorem adP.xt {p:Prop} (g:p:=by ((first|((with_reducible refine (?_:Pn _));exact .inl rfl)|((with_reducible refine (?_:ag _ _ _ _ _));first|exact ag.aU kV kV dz dz fun K hK=>hK.2.1 aZ|exact ag.aU kV kV dz dz fun K hK=>hK.2.2.2 aZ oM|exact ag.aU kV kV dz dz fun K hK=>hK.2.2.1 aZ (by first|assumption|simp_all)|(refine ag.bool (fun hb=>?_) (fun hb=>?_);(focus exact ag.aU kV kV dz dz fun K hK=>hK.2.2.1 aZ (by first|assumption|simp_all));(focus exact ag.aU kV kV dz dz fun K hK=>hK.2.2.2 aZ oM)))|fail);(repeat' (first|exact bN|fail));first|done|fail)):p:=g
theorem aeM:aC.OK Tryz.prog 97 c97:=by
 intro args bx K0 h;unfold c97 at h;split at h
 ·rename_i n f o b fl d k from_ s p e;obtain ⟨⟨h0,h1,h2,rfl⟩,-⟩:=h;refine alu.okW (base:=1) rfl dz dz ?_;have B:=V.base (af.cons RX (af.cons YW (af.cons O9 (af.cons CP af.nil))))
  conv=>whnf
  let zA:=(aH 97)
  open adP in exact bN
 ·exact h.elim
theorem ain {a:Cm} {L:List Cm}:AV.sl (((a::L).length:Int).toNat-Int.toNat 1) (List.take ((((a::L).length:Int).toNat-Int.toNat 1)*2) (List.drop (Int.toNat 1*2) (fQ (a::L))))=cs L:=by
 have h1:((a::L).length:Int).toNat-Int.toNat 1=L.length:=by simp
 have h2:List.drop (Int.toNat 1*2) (fQ (a::L))=fQ L:=rfl;rw [h1,h2,←kT,List.take_length];rfl
theorem Wk.amh {a:Cm} {L:List Cm}:Wk (AV.sl (((a::L).length:Int).toNat-Int.toNat 1) (List.take ((((a::L).length:Int).toNat-Int.toNat 1)*2) (List.drop (Int.toNat 1*2) (fQ (a::L))))) (cs L):=by rw [ain];exact .refl _
def c98:aC:=fun args bx K=>match args,bx with
 |[.ptr 0 0,.agg [.int .i64 n,.int .i64 f,.bool o,.bool b,.bool fl,.int .i64 d,.bool k],.sl nl ll,.bool same],[[.str s,.int .i64 p,.nil,.int .i64 e]]=>∃L:List Cm,dC nl ll L∧e=0∧(∀(x:Nd) (M:List Cm),FW x->(wt x=1∧x.lead.length=0∧M.length<=L.length)->K (.agg (bF x)) [rD s p (cs M)])
 |_,_=>False
def als:=fN 98 Tryz.f98 35 [.cell 8 35]
theorem adO.xt {p:Prop} (g:p:=by ((first|(refine ⟨_,_,rfl,?_⟩)|((with_reducible refine (?_:(_:Nat)<_));(simp [kT,fQ]);first|done|fail)|((with_reducible refine (?_:ag _ _ _ _ _));first|exact ag.aU kV kV dz dz fun K hK=>(BA (dC.mk _) hK).2 (.mk _ _ _ _ _ _ _ _ _ _ _ _) _ Px ⟨by simp [uR,gm,Nd.lead,Nd.ae,Nd.kids],rfl,by simp⟩)|fail);(repeat' (first|exact bN|fail));first|done|fail)):p:=g
theorem aeL:aC.OK Tryz.prog 98 c98:=by
 intro args bx K0 h;unfold c98 at h;split at h
 ·rename_i n f o b fl d k nl ll same s p e;obtain ⟨L,⟨rfl,rfl⟩,rfl,-⟩:=h;have B:=V.base (af.cons yF af.nil);rcases L with _|⟨a,L⟩
  all_goals
   refine als.okW (base:=1) rfl dz dz ?_
   conv=>whnf
   let zA:=(aH 98)
   open adO in exact bN
 ·exact h.elim
def opB (F:ByteArray->Int->Int×Bool) (s:ByteArray) (p:Int):Bool:=jV s p 45||jV s p 63||(F s p).2
def MC (F:ByteArray->Int->Int×Bool):aC:=fun args bx K=>match args,bx with
 |[.str s,.int .i64 p],[]=>(s.size<=900000∧0<=p∧p<=s.size)∧(((F s p).2=true->p<=(F s p).1∧(F s p).1<s.size)->K (.bX [.int .i64 (F s p).1,.bool (F s p).2]) [])
 |_,_=>False
def ai1 (F:ByteArray->Int->Int×Bool):aC:=fun args bx K=>match args,bx with
 |[.ptr 0 0],[[.str s,.int .i64 p,.nil,.int .i64 e]]=>(s.size<=900000∧0<=p∧p<=s.size∧e=0)∧(opB F s p=true->K (.bool true) [rD s p .nil])∧(opB F s p=false->K (.bool false) [rD s p .nil])
 |_,_=>False
def ah3:=fN 113 Tryz.f113 38 [.tmp 2]
theorem adN.xt {p:Prop} (g:p:=by ((first|((with_reducible refine (?_:ag _ _ _ _ _));first|exact ag.aU kV kV dz dz fun K hK=>hK.2.1 (by unfold opB;simp only [*,Bool.true_or,Bool.or_true,Bool.false_or,Bool.or_false])|(refine ag.bool (fun hb=>?_) (fun hb=>?_);(focus exact ag.aU kV kV dz dz fun K hK=>hK.2.1 (by unfold opB;simp only [*,Bool.true_or,Bool.or_true,Bool.false_or,Bool.or_false]));(focus exact ag.aU kV kV dz dz fun K hK=>hK.2.2 (by unfold opB;simp only [*,Bool.true_or,Bool.or_true,Bool.false_or,Bool.or_false]))))|fail);(repeat' (first|exact bN|fail));first|done|fail)):p:=g
theorem af4 {F:ByteArray->Int->Int×Bool} (i119:aC.OK Tryz.prog 119 (MC F)):aC.OK Tryz.prog 113 (ai1 F):=by
 intro args bx K0 h;unfold ai1 at h;split at h
 ·rename_i s p e;obtain ⟨⟨h0,h1,h2,rfl⟩,-⟩:=h;refine ah3.okW (base:=1) rfl dz dz ?_;have B:=V.base (af.cons i119 (af.cons CP af.nil))
  conv=>whnf
  let zA:=(aH 113)
  open adN in exact bN
 ·exact h.elim
def ZB:aC:=fun args bx K=>match args,bx with
 |[.str s,.int .i64 p],[]=>(s.size<=900000∧0<=p∧p<=s.size)∧(∀q:Int,(p<=q∧q<s.size)->K (.bX [.int .i64 q,.bool true]) [])∧K (.bX [.int .i64 0,.bool false]) []
 |_,_=>False
def ahX:=fN 119 Tryz.f119 117 [.tmp 4,.tmp 5]
theorem adM.xt {p:Prop} (g:p:=by ((first|((with_reducible refine (?_:ag _ _ _ _ _));first|exact ag.aU kV kV dz dz fun K hK=>hK.2.2|exact ag.aU kV kV dz dz fun K hK=>hK.2.1 _ oM)|fail);(repeat' (first|exact bN|fail));first|done|fail)):p:=g
theorem aaV:aC.OK Tryz.prog 119 ZB:=by
 intro args bx K0 h;unfold ZB at h;split at h
 ·rename_i s p;obtain ⟨⟨h0,h1,h2⟩,-⟩:=h;refine ahX.okW (base:=0) rfl dz dz ?_;have B:=V.base (af.cons (YT Nv) (af.cons Gp (af.cons Eh (af.cons CP (af.cons Nw (af.cons R9 (af.cons Nv (af.cons Nu (af.cons YS af.nil)))))))))
  conv=>whnf
  let zA:=(aH 119)
  open adM in exact bN
 ·exact h.elim
end V
end
end Go.Proofs.YtlmjabnkjmfcmaaGreat
