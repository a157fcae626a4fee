/- Own texts, joined and shortened by a program; no condition. -/
import Derived.Test.YtlmjabnkjmfcmaaGreatK15
namespace Go.Proofs.YtlmjabnkjmfcmaaGreat
open Go Go.RowKit Go.PlainAid
set_option linter.unusedVariables false
set_option linter.unusedSimpArgs false
set_option maxHeartbeats 20000000
set_option linter.defProp false
section
set_option maxRecDepth 100000
namespace V
open Ab
open Bk (Cm)
theorem FB (l:List Dc):AV.ak (jY l)=true:=bB (ui l)
def c11:aC:=fun args bx K=>match args,bx with
 |[.str s],[]=>s.size<=20000∧(∀(ds:List Dc) (tl:List Cm),(∀d ∈ ds,DW d)->(ds.length<=20000∧tl.length<=80000)->K (.bX [.agg [.sl ds.length (jY ds),cs tl],.int .i64 0,.int .i64 0]) [])∧K (.bX [.agg [.sl 0 [],.sl 0 []],.nP .i64,.nz .i64]) []
 |_,_=>False
def PK (a:Int) (H:List Cm) (ts:List ByteArray) (ds:List Dc):Prop:=((H.length:Int)<=2*a∧(ts.length:Int)<=a∧(ds.length:Int)<=a)∧(∀i,(Bk.rowAt ts i).size<=40000)∧∀d ∈ ds,DW d
def PI (s:ByteArray) (j:Nat) (τ:aJ):Prop:=∃(a:Int) (H:List Cm) (ts:List ByteArray) (ds:List Dc),(0<=a∧a<=s.size)∧PK a H ts ds∧j=((s.size:Int)+1-a).toNat∧τ=⟨[(8,.int .i64 a),(7,.row 9 1 ts.length (cO ts)),(6,.row 56 2 H.length (fQ H)),(5,.ptr 1 0),(2,.ptr 0 0),(0,.str s)],[[.nil,.nil],[.row 37 16 ds.length (jY ds),.nil]]⟩
theorem PI.mk {s:ByteArray} {a:Int} {H:List Cm} {ts:List ByteArray} {ds:List Dc} {N M:Nat} {C D:List AV} (ha:0<=a∧a<=s.size) (hK:PK a H ts ds) (hH:dC N C H) (hM:M=ts.length) (hD:D=cO ts):PI s ((s.size:Int)+1-a).toNat ⟨[(8,.int .i64 a),(7,.row 9 1 M D),(6,.row 56 2 N C),(5,.ptr 1 0),(2,.ptr 0 0),(0,.str s)],[[.nil,.nil],[.row 37 16 ds.length (jY ds),.nil]]⟩:=by obtain ⟨rfl,rfl⟩:=hH;subst hM hD;exact ⟨a,H,ts,ds,ha,hK,rfl,rfl⟩
theorem amu {s:ByteArray} {a:Int}:Rx 0 ⟨[(8,.int .i64 a),(7,.nil),(6,.nil),(5,.ptr 1 0),(2,.ptr 0 0),(0,.str s)],[[.nil,.nil],[.nil,.nil]]⟩ ⟨[(8,.int .i64 a),(7,.row 9 1 ([]:List ByteArray).length (cO [])),(6,.row 56 2 ([]:List Cm).length (fQ [])),(5,.ptr 1 0),(2,.ptr 0 0),(0,.str s)],[[.nil,.nil],[.row 37 16 ([]:List Dc).length (jY []),.nil]]⟩:=
 Rx.wv (.cons .refl (.cons (.cons .mo (.cons .refl .nil)) .nil)) (.cons .refl (.cons .mo (.cons .mo (.cons .refl (.cons .refl (.cons .refl .nil)))))) ⟨rfl,rfl⟩
theorem ajW {a b:List AV} {r:List (List AV)} (h:aV (a::b::r)=true):aV [a,b]=true:=by
 rw [bg] at h⊢;intro d hd;refine h d ?_;simp only [List.mem_cons,List.not_mem_nil,or_false] at hd⊢;rcases hd with h|h
 ·exact .inl h
 ·exact .inr (.inl h)
theorem ail {s:ByteArray} {a:Int} {ds:List Dc} {d:Dc} {l C:List AV} {N:Nat} {rest:List (List AV)} (hy:mQ l (rR d)) (hl:bW l=[]) (hN:N=ds.length+1) (hC:C=jY ds++l):Rx 0 ⟨[(8,.int .i64 a),(7,.nil),(6,.nil),(5,.ptr 1 0),(2,.ptr 0 0),(0,.str s)],[.nil,.nil]::[.row 37 16 N C,.nil]::rest⟩ ⟨[(8,.int .i64 a),(7,.row 9 1 ([]:List ByteArray).length (cO [])),(6,.row 56 2 ([]:List Cm).length (fQ [])),(5,.ptr 1 0),(2,.ptr 0 0),(0,.str s)],[[.nil,.nil],[.row 37 16 (ds++[d]).length (jY (ds++[d])),.nil]]⟩:=by
 subst hN hC;intro hσ;have h1:Rx 0 ⟨[(8,.int .i64 a),(7,.nil),(6,.nil),(5,.ptr 1 0),(2,.ptr 0 0),(0,.str s)],[.nil,.nil]::[.row 37 16 (ds.length+1) (jY ds++l),.nil]::rest⟩ ⟨[(8,.int .i64 a),(7,.nil),(6,.nil),(5,.ptr 1 0),(2,.ptr 0 0),(0,.str s)],[[.nil,.nil],[.row 37 16 (ds.length+1) (jY ds++l),.nil]]⟩:=by
  refine Rx.pick [0,1] dE (by intro i hi;omega) ?_ ?_ ⟨rfl,ajW hσ.bx⟩
  ·refine .same rfl rfl (.same rfl ?_ .nil);have:bW (jY ds++l)=[]:=by rw [dF,bR (ui _),hl];rfl
   simp [bW,iY,this]
  ·exact .cons (.same rfl) (.cons (.same rfl) (.cons (.same rfl) (.cons (.ptr rfl) (.cons (.ptr rfl) (.cons (.same rfl) .nil)))))
 refine Rx.trans h1 ?_ hσ;have e1:(ds++[d]).length=ds.length+1:=by rw [List.length_append];rfl
 have e2:jY (ds++[d])=jY ds++rR d:=by rw [GN,Xo]
 refine Rx.wv (.cons .refl (.cons (.cons ?_ (.cons .refl .nil)) .nil)) (.cons .refl (.cons .mo (.cons .mo (.cons .refl (.cons .refl (.cons .refl .nil)))))) ?_
 ·rw [e1];exact Wv.row (by rw [e2];exact mQ.app (mQ.refl _) hy) (bB (ui _))
 ·exact ⟨rfl,(by simp [aV,dQ,wv,AV.one,ui])⟩
theorem VO {ts:List ByteArray} {t:ByteArray} {n:Nat} (h:∀i,(Bk.rowAt ts i).size<=n) (ht:t.size<=n) (i:Nat):(Bk.rowAt (ts++[t]) i).size<=n:=by
 unfold Bk.rowAt at h⊢;rw [List.getD_eq_getElem?_getD];rcases Nat.lt_trichotomy i ts.length with hi|hi|hi
 ·rw [List.getElem?_append_left hi,←List.getD_eq_getElem?_getD];exact h i
 ·rw [List.getElem?_append_right oM,hi,Nat.sub_self];exact ht
 ·rw [List.getElem?_append_right oM,List.getElem?_eq_none (by simp;omega)];exact Nat.zero_le _
theorem DW.mk {h f:List Cm} {t:List ByteArray} {m:Bool} {x:Nd} (hx:BW x) (hw:(wt x:Int)+f.length<=3210000000) (hh:h.length<=60000) (ht:t.length<=20000):DW ⟨h,t,m,x,f⟩:=⟨hx,by show wt x+f.length<=_;omega,hh,ht⟩
theorem PI.doc {s:ByteArray} {a:Int} {ds:List Dc} {d:Dc} (ha:0<=a∧a<=s.size) (hl:(ds.length:Int)+1<=a) (hs:∀d ∈ ds,DW d) (hd:DW d):PI s ((s.size:Int)+1-a).toNat ⟨[(8,.int .i64 a),(7,.row 9 1 ([]:List ByteArray).length (cO [])),(6,.row 56 2 ([]:List Cm).length (fQ [])),(5,.ptr 1 0),(2,.ptr 0 0),(0,.str s)],[[.nil,.nil],[.row 37 16 (ds++[d]).length (jY (ds++[d])),.nil]]⟩:=by
 refine ⟨a,[],[],ds++[d],ha,⟨⟨by simp;omega,by simp;omega,?_⟩,fun i=>?_,fun z hz=>?_⟩,rfl,rfl⟩
 ·rw [List.length_append,List.length_cons,List.length_nil];omega
 ·unfold Bk.rowAt;rw [List.getD_nil];decide
 ·rcases List.mem_append.1 hz with hz|hz
  ·exact hs z hz
  ·rw [List.mem_singleton.1 hz];exact hd
theorem GG {s:ByteArray} {p:Int} (h0:0<=p) (h1:p<=s.size):Bk.aY s p=p.toNat:=by unfold Bk.aY;omega
theorem UG {s:ByteArray} {a q p:Int} {l:List Cm} {sm:Bool} (h:ZM s a q) (hb:Bk.qE s a.toNat 0 false=some (l,sm,p.toNat)) (h0:0<=p) (h1:p<s.size) (hk:¬(p=(Bk.bG s p.toNat:Nat)∧(Bk.eD s (Bk.aY s p)=3∨Bk.eD s (Bk.aY s p)=4))):a<q:=by refine h.out l sm p.toNat hb ?_;rw [show ((p.toNat:Nat):Int)=p by omega];refine Gi ?_;have e:=GG h0 (Int.le_of_lt h1);have:=Bk.fT s p.toNat;unfold Bb;rw [e] at hk⊢;omega
theorem abP {n:Nat} {l:List AV} {H f:List Cm} {ts:List ByteArray} {m:Bool} {x:Nd} (h:dC n l H):mQ [.sl n l,.sl ts.length (cO ts),.bool m,.int .i64 x.k,.int .i64 x.y,.int .i64 x.p,.int .i64 x.b,.str x.an,.str x.tg,.str x.tx,.sl x.kids.length (au x.kids),.sl x.lead.length (fQ x.lead),.sl x.ae.length (fQ x.ae),.bool x.h,.str x.tr,.sl f.length (fQ f)] (rR ⟨H,ts,m,x,f⟩):=.cons (Wk.isc h) (mQ.refl _)
def amd:=fN 11 Tryz.f11 222 [.cell 2 27,.tmp 3,.tmp 4]
theorem Sb:aC.OK Tryz.prog 11 c11:=by
 intro args bx K0 h;unfold c11 at h;split at h
 ·rename_i s;obtain ⟨h0,-⟩:=h;have hs:s.size<=900000:=oM;refine amd.okW (base:=0) rfl Ii Ii ?_;have B:=V.base (af.cons YO (af.cons YN (af.cons (akm afR) (af.cons R3 (af.cons O9 (af.cons Eh (af.cons aaU (af.cons ako (af.cons akn af.nil)))))))))
  conv=>whnf
  have Da:∀{p:Int},Bk.eD s (Bk.aY s p)=3->0<=p->p<=s.size->(Bk.bG s p.toNat:Int)+3<=Bk.l7 s p.toNat:=fun {p} h h0 h1=>by rw [GG h0 h1] at h;have:=CY (.inl h);omega
  have C9:∀{p:Int},Bk.eD s (Bk.aY s p)=4->0<=p->p<=s.size->(Bk.bG s p.toNat:Int)+3<=Bk.l7 s p.toNat:=fun {p} h h0 h1=>by rw [GG h0 h1] at h;have:=CY (.inr h);omega
  have Db:∀{p:Int},bt s p.toNat=37->0<=p->p<s.size->p+1<=Bk.l7 s p.toNat:=fun {p} h h0 h1=>Z7 (by have:=Bk.rM s p.toNat;omega) h1 h0 oM
  repeat' (first
  |with_reducible refine WP.seq ?_
  |(with_reducible first|refine Go.mk ?_|refine WP.oC B (aH 11) ?_|refine WP.draw B (aH 11) ?_|refine WP.cond ?_|refine WP.exit ?_|refine WP.skip ?_|refine WP.ret ?_);conv=>whnf
  |with_reducible refine WP.block ?_
  |with_reducible assumption
  |with_reducible refine And.intro ?_ ?_
  |exact cL
  |(with_reducible intro h);first|(cases h;done)|(try simp only [lG,reduceCtorEq] at h);first|done|(exfalso;omega)|replace h:=h trivial aZ|replace h:=h aZ|skip
  |fail)
  refine WP.jB amu ?_;refine WP.loop (PI s) ⟨0,[],[],[],⟨oM,oM⟩,⟨⟨by simp,by simp,by simp⟩,(fun i=>by rw [Bk.rowAt,List.getD_nil];decide),(by intro d hd;cases hd)⟩,rfl,rfl⟩ ?_;rintro j τ ⟨a,H,ts,ds,⟨g1,g2⟩,⟨⟨g3,g4,g5⟩,g6,g7⟩,rfl,rfl⟩
  repeat' (first
  |with_reducible refine WP.seq ?_
  |(with_reducible first|refine Go.mk ?_|refine WP.oC B (aH 11) ?_|refine WP.draw B (aH 11) ?_|refine WP.cond ?_|refine WP.exit ?_|refine WP.skip ?_|refine WP.ret ?_);conv=>whnf
  |with_reducible refine WP.block ?_
  |with_reducible assumption
  |((with_reducible refine (?_:(ByteArray.extract _ _ _).size<=_));rw [ByteArray.size_extract];omega)
  |((with_reducible refine (?_:AV.wN _=true));first|rfl|(simp [AV.wN,AV.pf,bE (ai _),bE (aA _),bE (ek _),bE (fV (aA _) (aA _))];done))
  |((with_reducible refine (?_:(_:Int)<=_));(first|(have h9:=Da aZ oM oM;omega)|(have h9:=C9 aZ oM oM;omega)|(have h9:=Db aZ oM oM;omega)))
  |((with_reducible refine (?_:∃ts',(_=_∧_=_)∧_∧_));(refine ⟨ts,⟨rfl,rfl⟩,⟨?_,oM,fun i=>Nat.le_trans (g6 i) dE⟩,?_⟩);(focus ((try simp only [ByteArray.size_extract] at*);omega)))
  |((with_reducible refine (?_:∃(j:Nat) (τ':aJ),j<_∧Rx 0 _ τ'∧_));(apply FM);(case' hi=>(apply PI.mk (ts:=ts) (ds:=ds)));(case hr=>exact Rx.refl);(case hH=>(first|exact dC.app (dC.mk _) (dC.mk _)|exact dC.app (dC.app (dC.mk _) (dC.mk _)) dC.one));(case hM=>rfl);(case hD=>rfl);(case ha=>exact ⟨oM,oM⟩);(case hK=>exact ⟨⟨by (try simp only [lL]);(first|(have h9:=Da aZ oM oM;omega)|(have h9:=C9 aZ oM oM;omega)|(have h9:=Db aZ oM oM;omega)),by (first|(have h9:=Da aZ oM oM;omega)|(have h9:=C9 aZ oM oM;omega)|(have h9:=Db aZ oM oM;omega)),by (first|(have h9:=Da aZ oM oM;omega)|(have h9:=C9 aZ oM oM;omega)|(have h9:=Db aZ oM oM;omega))⟩,g6,g7⟩);(case hj=>(first|(have h9:=Da aZ oM oM;omega)|(have h9:=C9 aZ oM oM;omega)|(have h9:=Db aZ oM oM;omega))))
  |((with_reducible refine (?_:∃(j:Nat) (τ':aJ),j<_∧Rx 0 _ τ'∧_));(apply FM);(case' hi=>(apply PI.mk (ts:=ts++[_]) (ds:=ds)));(case hr=>exact Rx.refl);(case hH=>(first|exact dC.app (dC.mk _) (dC.mk _)|exact dC.app (dC.app (dC.mk _) (dC.mk _)) dC.one));(case hM=>(rw [List.length_append];rfl));(case hD=>exact rW);(case ha=>exact ⟨oM,oM⟩);(case hK=>exact ⟨⟨by (try simp only [lL]);(first|(have h9:=Da aZ oM oM;omega)|(have h9:=C9 aZ oM oM;omega)|(have h9:=Db aZ oM oM;omega)),by (try simp only [lL]);(first|(have h9:=Da aZ oM oM;omega)|(have h9:=C9 aZ oM oM;omega)|(have h9:=Db aZ oM oM;omega)),by (first|(have h9:=Da aZ oM oM;omega)|(have h9:=C9 aZ oM oM;omega)|(have h9:=Db aZ oM oM;omega))⟩,VO g6 (by (try simp only [ByteArray.size_extract] at*);omega),g7⟩);(case hj=>(first|(have h9:=Da aZ oM oM;omega)|(have h9:=C9 aZ oM oM;omega)|(have h9:=Db aZ oM oM;omega))))
  |(with_reducible refine (?_:ag _ _ _ _ _));first|exact ag.aU kV kV Ii Ii fun K hK=>hK.2.2|exact ag.aU kV kV Ii Ii fun K hK=>hK.2.1 ds _ g7 ⟨oM,oW⟩
  |with_reducible refine And.intro ?_ ?_
  |exact cL
  |(with_reducible intro h);first|(cases h;done)|(try simp only [lG,reduceCtorEq] at h);first|done|(exfalso;omega)|replace h:=h trivial aZ|replace h:=h aZ|skip
  |fail)
  all_goals try ((with_reducible refine (?_:∃(j:Nat) (τ':aJ),j<_∧Rx 0 _ τ'∧_));(apply FM);(case' hr=>(apply ail (ds:=ds) (d:=⟨_,_,_,_,_⟩)));(case hC=>rfl);(case hy=>exact abP (by first|exact dC.mk _|exact dC.app (dC.mk _) (dC.mk _)));(case hl=>simp [bW,iY,cs,bR (ai _),bR (aA _),bR (ek _),dF]);(case hN=>rfl);(case hi=>exact PI.doc ⟨oM,oM⟩ (by (first|omega|(first|(have h9:=Da aZ oM oM;omega)|(have h9:=C9 aZ oM oM;omega)|(have h9:=Db aZ oM oM;omega))|(have h9:=UG aZ aZ oM oM oM;omega))) g7 (DW.mk aZ oM (by (try simp only [lL]);omega) oM));(case hj=>(first|omega|(first|(have h9:=Da aZ oM oM;omega)|(have h9:=C9 aZ oM oM;omega)|(have h9:=Db aZ oM oM;omega))|(have h9:=UG aZ aZ oM oM oM;omega))))
  all_goals exact ag.aU kV kV Ii Ii fun K hK=>hK.2.1 ds _ g7 ⟨oM,oW⟩
 ·exact h.elim
def nU (blk:Bool) (d:Dc):Dc:=⟨d.head,d.gM,d.mark,(aL blk [] [] d.root).1,(aL blk [] [] d.root).2++d.ae⟩
theorem IG:∀{a b:List ByteArray},cO a=cO b->a=b
 |[],[],_=>rfl
 |[],_::_,h=>by simp [cO] at h
 |_::_,[],h=>by simp [cO] at h
 |x::a,y::b,h=>by rw [cO,cO,List.map_cons,List.map_cons] at h;simp only [List.cons.injEq,AV.str.injEq] at h;rw [h.1,IG (a:=a) (b:=b) h.2]
theorem Oc {d e:Dc} (h:rR d=rR e):e=d:=by
 obtain ⟨hd,ds,mk,rt,ft⟩:=d;obtain ⟨hd2,ds2,mk2,rt2,ft2⟩:=e;unfold rR cs at h;simp only [List.cons.injEq,AV.int.injEq,AV.str.injEq,AV.sl.injEq,AV.bool.injEq,true_and,and_true] at h;obtain ⟨⟨-,e1⟩,⟨-,e2⟩,e3,g1,g2,g3,g4,g5,g6,g7,⟨g8n,g8⟩,⟨g9n,g9⟩,⟨aln,g10⟩,g11,g12,⟨-,e5⟩⟩:=h;have hr:bF rt=bF rt2:=by unfold bF cs;rw [g1,g2,g3,g4,g5,g6,g7,g8n,g8,g9n,g9,aln,g10,g11,g12]
 obtain rfl:=IG e2;rw [tX hr,uq e1,uq e5,e3]
theorem exD {l:List AV} {d:Dc} {Q:Dc->Prop} (hl:l=rR d) (h:∃e,l=rR e∧Q e):Q d:=by obtain ⟨e,h1,h2⟩:=h;rw [hl] at h1;rw [←Oc h1];exact h2
theorem aC.OK.mono {P:Program} {f:Nat} {c c':aC} (h:aC.OK P f c) (hm:∀args bx K,c' args bx K->c args bx K):aC.OK P f c':=fun args bx K0 h0=>by obtain ⟨r,bx',h1,h2,h3,h4⟩:=h args bx K0 (hm _ _ _ h0);exact ⟨r,bx',h1,h2,h3,fun K hK=>h4 K (hm _ _ _ hK)⟩
def aiu:aC:=fun args bx K=>match args,bx with
 |[.ptr 0 0,.int .i64 n],[[.sl nk lk,.int .i64 a,.str out,.int .i64 left,.int .i64 name]]=>∃ks:List Int,(nk=ks.length∧lk=jh ks)∧(1<=n∧n<=1000∧0<=a∧a<=ks.length∧ks.length<=100)∧(∀r a':Int,(a<=a'∧a'<=a+1∧a'<=ks.length∧0<=r∧r<n∧r<=(n-1)*(a'-a)∧(ks.length:Int)-a<=100*(a'-a))->K (.int .i64 r) [mB ks a' out left name])
 |_,_=>False
theorem uF:aC.OK Tryz.prog 46 aiu:=by
 refine akj.mono fun args bx K h=>?_;unfold aiu at h;unfold c46;split at h
 ·obtain ⟨ks,hk,⟨h1,h2,h3,h4,h5⟩,h6⟩:=h;rename_i n nk lk a out left name;refine ⟨ks,hk,⟨h1,h2,h3,oM⟩,fun r g1 g2=>h6 r (a+1) ⟨oM,oM,oM,oM,oM,?_,oM⟩,fun g=>h6 0 a ⟨oM,oM,oM,oM,oM,?_,oM⟩⟩
  ·rw [show a+1-a=1 by omega,Int.mul_one];omega
  ·rw [Int.sub_self,Int.mul_zero];omega
 ·exact h.elim
def ais:aC:=fun args bx K=>match args,bx with
 |[.int .i64 n],[]=>(0<=n∧n<=1000)∧∀t:ByteArray,(t.size:Int)<=n->K (.str t) []
 |_,_=>False
theorem CG:aC.OK Tryz.prog 79 ais:=by
 refine akb.mono fun args bx K h=>?_;unfold ais at h;unfold c79;split at h
 ·exact ⟨h.1.2,fun t ht=>h.2 t (by have:=h.1.1;omega)⟩
 ·exact h.elim
def XX (b:Nat):List AV->Bool
 |[]=>true
 |.str s::l=>Nat.ble s.size b && XX b l
 |_=>false
theorem IB {l:List AV} {b j:Nat} {Q:AV->List AV->Prop} (hl:XX b l=true) (hj:j<l.length) (hQ:∀(t:ByteArray) r,t.size<=b->Q (.str t) r):∃v r,List.drop (j*1) l=v::r∧Q v r:=by
 induction l generalizing j with
 |nil=>simp at hj
 |cons x l ih=>
  cases x with
  |str s=>
   rw [XX,Bool.and_eq_true,Nat.ble_eq] at hl;cases j with
   |zero=>exact ⟨_,_,rfl,hQ _ _ hl.1⟩
   |succ j=>
    obtain ⟨v,r,h1,h2⟩:=ih hl.2 (j:=j) (by simpa using hj);exact ⟨v,r,by rw [Nat.mul_one] at h1⊢;exact h1,h2⟩
  |_=>exact absurd hl (by simp [XX])
theorem Ec {l:List UInt8}:ByteArray.size ⟨l.toArray⟩=l.length:=rfl
def c51:aC:=fun args bx K=>match args,bx with
 |[.int .i64 n],[]=>∀t:ByteArray,t.size<=3->K (.str t) []
 |_,_=>False
def alS:=fN 51 Tryz.f51 8 [.tmp 2]
theorem adm.xt {p:Prop} (g:p:=by ((first|exact rX|(refine IB (b:=3) rfl ?_ ?_;(focus (simp only [lL];omega));intro t r ht)|exact qP|((with_reducible refine (?_:ag _ _ _ _ _));first|exact ag.aU kV kV mV mV fun K hK=>hK _ oM)|fail);(repeat' (first|exact bN|fail));first|done|fail)):p:=g
theorem O8:aC.OK Tryz.prog 51 c51:=by
 intro args bx K0 h;unfold c51 at h;split at h
 ·rename_i n;refine alS.okW (base:=0) rfl mV mV ?_;have B:=V.base (af.cons afj af.nil)
  conv=>whnf
  let zA:=(aH 51)
  open adm in exact bN
 ·exact h.elim
def ai7:aC:=fun args bx K=>match args,bx with
 |[.ptr 0 0],[[.sl nk lk,.int .i64 a,.str out,.int .i64 left,.int .i64 name]]=>∃ks:List Int,(nk=ks.length∧lk=jh ks)∧(0<=a∧a<=ks.length∧ks.length<=100∧(out.size:Int)<=500000∧0<=name∧name<=a)∧∀(a':Int) (t:ByteArray),(a<=a'∧a'<=ks.length∧t.size<=10)->K (.str t) [mB ks a' out left name]
 |_,_=>False
def ah7:=fN 104 Tryz.f104 8 [.tmp 2]
theorem adk.xt {p:Prop} (g:p:=by ((first|exact rX|exact mf|(refine IB (b:=10) rfl ?_ ?_;(focus (simp only [lL];omega));intro t r ht)|exact qP|((with_reducible refine (?_:ag _ _ _ _ _));first|exact ag.aU kV kV mV mV fun K hK=>(Zp hK).2 _ _ ⟨oM,oM,oM⟩)|fail);(repeat' (first|exact bN|fail));first|done|fail)):p:=g
theorem af6:aC.OK Tryz.prog 104 ai7:=by
 intro args bx K0 h;unfold ai7 at h;split at h
 ·rename_i nk lk a out left name;obtain ⟨ks,⟨rfl,rfl⟩,⟨h1,h2,h3,h4,h5,h6⟩,-⟩:=h;refine ah7.okW (base:=1) rfl mV mV ?_;have B:=V.base (af.cons uF af.nil)
  conv=>whnf
  let zA:=(aH 104)
  open adk in exact bN
 ·exact h.elim
def c78:aC:=fun args bx K=>match args,bx with
 |[.ptr 0 0],[[.sl nk lk,.int .i64 a,.str out,.int .i64 left,.int .i64 name]]=>∃ks:List Int,(nk=ks.length∧lk=jh ks)∧(0<=a∧a<=ks.length∧ks.length<=100∧(out.size:Int)<=500000∧0<=name∧name<=a)∧∀(a':Int) (out':ByteArray),(a<=a'∧a'<=ks.length∧(out'.size:Int)<=out.size+150*(a'-a))->K (.bX []) [mB ks a' out' left name]
 |_,_=>False
def alF:=fN 78 Tryz.f78 27 []
theorem adj.xt {p:Prop} (g:p:=by ((first|exact rX|exact mf|exact rZ|exact r9|exact IP|fail);(repeat' (first|exact bN|fail));first|done|fail)):p:=g
theorem aeQ:aC.OK Tryz.prog 78 c78:=by
 intro args bx K0 h;unfold c78 at h;split at h
 ·rename_i nk lk a out left name;obtain ⟨ks,⟨rfl,rfl⟩,⟨h1,h2,h3,h4,h5,h6⟩,-⟩:=h;refine alF.okW (base:=1) rfl mV mV ?_;have B:=V.base (af.cons uF (af.cons CK (af.cons O8 af.nil)))
  conv=>whnf
  let zA:=(aH 78)
  open adj in exact bN
 ·exact h.elim
def XL:aC:=fun args bx K=>match args,bx with
 |[.ptr 0 0],[[.sl nk lk,.int .i64 a,.str out,.int .i64 left,.int .i64 name]]=>∃ks:List Int,(nk=ks.length∧lk=jh ks)∧(0<=a∧a<=ks.length∧ks.length<=100∧(out.size:Int)<=500000∧0<=name∧name<=a)∧∀(a' name':Int) (out':ByteArray),(a<=a'∧a'<=ks.length∧(out'.size:Int)<=out.size+150*(a'-a)∧0<=name'∧name'<=a')->K (.bX []) [mB ks a' out' left name']
 |_,_=>False
def ah8:=fN 103 Tryz.f103 27 []
theorem adi.xt {p:Prop} (g:p:=by ((first|exact uB|exact rX|exact mf|exact rZ|exact uD|exact r9|exact uE|exact qP|exact uz|exact uA|exact uC|exact Ra|fail);(repeat' (first|exact bN|fail));first|done|fail)):p:=g
theorem af7:aC.OK Tryz.prog 103 XL:=by
 intro args bx K0 h;unfold XL at h;split at h
 ·rename_i nk lk a out left name;obtain ⟨ks,⟨rfl,rfl⟩,⟨h1,h2,h3,h4,h5,h6⟩,-⟩:=h;refine ah8.okW (base:=1) rfl mV mV ?_;have B:=V.base (af.cons uF (af.cons CK af.nil))
  conv=>whnf
  let zA:=(aH 103)
  open adi in exact bN
 ·exact h.elim
def alD:=fN 80 Tryz.f80 62 []
theorem adh.xt {p:Prop} (g:p:=by ((first|exact uB|exact rX|exact mf|exact rZ|exact uD|exact r9|exact uE|exact qP|exact uz|exact uA|exact uC|exact Ra|fail);(repeat' (first|exact bN|fail));first|done|fail)):p:=g
theorem aka:aC.OK Tryz.prog 80 XL:=by
 intro args bx K0 h;unfold XL at h;split at h
 ·rename_i nk lk a out left name;obtain ⟨ks,⟨rfl,rfl⟩,⟨h1,h2,h3,h4,h5,h6⟩,-⟩:=h;refine alD.okW (base:=1) rfl mV mV ?_;have B:=V.base (af.cons uF (af.cons CK af.nil))
  conv=>whnf
  let zA:=(aH 80)
  open adh in exact bN
 ·exact h.elim
def c83:aC:=fun args bx K=>match args,bx with
 |[.ptr 0 0,.bool fl],[[.sl nk lk,.int .i64 a,.str out,.int .i64 left,.int .i64 name]]=>∃ks:List Int,(nk=ks.length∧lk=jh ks)∧(0<=a∧a<=ks.length∧ks.length<=100∧(out.size:Int)<=500000∧0<=name∧name<=a)∧∀(a':Int) (out':ByteArray),(a<=a'∧a'<=ks.length∧(out'.size:Int)<=out.size+150*(a'-a)+10)->K (.bX []) [mB ks a' out' left name]
 |_,_=>False
def alA:=fN 83 Tryz.f83 67 []
theorem adg.xt {p:Prop} (g:p:=by ((first|exact uB|exact rX|exact mf|exact rZ|exact uD|exact r9|exact uE|exact qP|exact uz|exact uA|exact uC|exact IP|fail);(repeat' (first|exact bN|fail));first|done|fail)):p:=g
theorem aaK:aC.OK Tryz.prog 83 c83:=by
 intro args bx K0 h;unfold c83 at h;split at h
 ·rename_i fl nk lk a out left name;obtain ⟨ks,⟨rfl,rfl⟩,⟨h1,h2,h3,h4,h5,h6⟩,-⟩:=h;refine alA.okW (base:=1) rfl mV mV ?_;have B:=V.base (af.cons uF (af.cons CK (af.cons af6 af.nil)))
  conv=>whnf
  let zA:=(aH 83)
  open adg in exact bN
 ·exact h.elim
def ai8:aC:=fun args bx K=>match args,bx with
 |[.ptr 0 0,.int .i64 x],[[.sl nk lk,.int .i64 a,.str out,.int .i64 left,.int .i64 name]]=>∃ks:List Int,(nk=ks.length∧lk=jh ks)∧((0<=a∧a<=ks.length∧ks.length<=100∧(out.size:Int)<=500000∧0<=name∧name<=a)∧(0<=x∧x<=40))∧∀(a':Int) (out':ByteArray),(a<=a'∧a'<=ks.length∧(out'.size:Int)<=out.size+150*(a'-a))->K (.bX []) [mB ks a' out' left name]
 |_,_=>False
def ah9:=fN 102 Tryz.f102 42 []
theorem adf.xt {p:Prop} (g:p:=by ((first|exact uB|exact rX|exact mf|exact rZ|exact uD|exact r9|exact uE|exact qP|exact uz|exact uA|exact uC|exact IP|fail);(repeat' (first|exact bN|fail));first|done|fail)):p:=g
theorem af8:aC.OK Tryz.prog 102 ai8:=by
 intro args bx K0 h;unfold ai8 at h;split at h
 ·rename_i x nk lk a out left name;obtain ⟨ks,⟨rfl,rfl⟩,⟨⟨h1,h2,h3,h4,h5,h6⟩,h7,h8⟩,-⟩:=h;refine ah9.okW (base:=1) rfl mV mV ?_;have B:=V.base (af.cons uF (af.cons CG (af.cons CK (af.cons O8 af.nil))))
  conv=>whnf
  let zA:=(aH 102)
  open adf in exact bN
 ·exact h.elim
def c48:aC:=fun args bx K=>match args,bx with
 |[.ptr 0 0,.int .i64 x],[[.sl nk lk,.int .i64 a,.str out,.int .i64 left,.int .i64 name]]=>∃ks:List Int,(nk=ks.length∧lk=jh ks)∧((0<=a∧a<=ks.length∧ks.length<=100∧(out.size:Int)<=500000∧0<=name∧name<=a)∧(-1<=x∧x<=100))∧∀(a':Int) (out':ByteArray),(a<=a'∧a'<=ks.length∧(out'.size:Int)<=out.size+150*(a'-a)+1)->K (.bX []) [mB ks a' out' left name]
 |_,_=>False
def alU:=fN 48 Tryz.f48 46 []
theorem ade.xt {p:Prop} (g:p:=by ((first|exact uB|exact rX|exact mf|exact rZ|exact uD|exact r9|exact uE|exact qP|exact uz|exact uA|exact uC|exact IP|fail);(repeat' (first|exact bN|fail));first|done|fail)):p:=g
theorem aaM:aC.OK Tryz.prog 48 c48:=by
 intro args bx K0 h;unfold c48 at h;split at h
 ·rename_i x nk lk a out left name;obtain ⟨ks,⟨rfl,rfl⟩,⟨⟨h1,h2,h3,h4,h5,h6⟩,h7,h8⟩,-⟩:=h;refine alU.okW (base:=1) rfl mV mV ?_;have B:=V.base (af.cons uF (af.cons CG (af.cons CK (af.cons O8 (af.cons aeQ af.nil)))))
  conv=>whnf
  let zA:=(aH 48)
  open ade in exact bN
 ·exact h.elim
end V
end
end Go.Proofs.YtlmjabnkjmfcmaaGreat
