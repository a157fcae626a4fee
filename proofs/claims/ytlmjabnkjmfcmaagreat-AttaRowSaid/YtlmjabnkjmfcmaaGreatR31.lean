/- Parts of a proof; no condition. -/
import Derived.Test.YtlmjabnkjmfcmaaGreatR29
namespace Go.Proofs.YtlmjabnkjmfcmaaGreat
open Go Go.RowKit Go.PlainAid
set_option linter.unusedVariables false
set_option linter.unusedSimpArgs false
set_option linter.unusedSectionVars false
set_option maxHeartbeats 20000000
set_option linter.defProp false
section
variable [nM]
set_option maxRecDepth 100000
namespace V
open Ab
open Bk (Cm)
theorem KZ (l:List Dc):AV.aj (fF l)=true:=bK (kX l)
def xu:List Dc->Nat
 |[]=>0
 |d::l=>wt d.root+d.ag.length+xu l
theorem OM:∀a b:List Dc,xu (a++b)=xu a+xu b
 |[],b=>by rw [xu,List.nil_append,Nat.zero_add]
 |d::a,b=>by rw [List.cons_append,xu,xu,OM a b];omega
def c11:az:=fun args bx K=>match args,bx with
 |[.str s],[]=>s.size<=20000∧(∀(ds:List Dc) (tl:List Cm),(∀d ∈ ds,DW d)->(ds.length<=20000∧tl.length<=80000∧xu ds<=3300000000)->K (.bW [.agg [.sl ds.length (fF ds),cs tl],.int .i64 0,.int .i64 0]) [])∧K (.bW [.agg [.sl 0 [],.sl 0 []],.ql .i64,.nz .i64]) []
 |_,_=>False
def PK (a:Int) (H:List Cm) (ts:List ByteArray) (ds:List Dc):Prop:=((H.length:Int)<=2*a∧(ts.length:Int)<=a∧(ds.length:Int)<=a∧(xu ds:Int)<=160200*a)∧(∀i,(Bk.rowAt ts i).size<=40000)∧∀d ∈ ds,DW d
def PI (s:ByteArray) (j:Nat) (τ:aF):Prop:=∃(a:Int) (H:List Cm) (ts:List ByteArray) (ds:List Dc),(0<=a∧a<=s.size)∧PK a H ts ds∧j=((s.size:Int)+1-a).toNat∧τ=⟨[(8,.int .i64 a),(7,.row 9 1 ts.length (bM ts)),(6,.row 56 2 H.length (eU H)),(5,.ptr 1 0),(2,.ptr 0 0),(0,.str s)],[[.nil,.nil],[.row 37 16 ds.length (fF ds),.nil]]⟩
theorem PI.mk {s:ByteArray} {a:Int} {H:List Cm} {ts:List ByteArray} {ds:List Dc} {N M:Nat} {C D:List AV} (ha:0<=a∧a<=s.size) (hK:PK a H ts ds) (hH:fP N C H) (hM:M=ts.length) (hD:D=bM ts):PI s ((s.size:Int)+1-a).toNat ⟨[(8,.int .i64 a),(7,.row 9 1 M D),(6,.row 56 2 N C),(5,.ptr 1 0),(2,.ptr 0 0),(0,.str s)],[[.nil,.nil],[.row 37 16 ds.length (fF ds),.nil]]⟩:=by obtain ⟨rfl,rfl⟩:=hH;subst hM hD;exact ⟨a,H,ts,ds,ha,hK,rfl,rfl⟩
theorem arc {s:ByteArray} {a:Int}:Rx 0 ⟨[(8,.int .i64 a),(7,.nil),(6,.nil),(5,.ptr 1 0),(2,.ptr 0 0),(0,.str s)],[[.nil,.nil],[.nil,.nil]]⟩ ⟨[(8,.int .i64 a),(7,.row 9 1 ([]:List ByteArray).length (bM [])),(6,.row 56 2 ([]:List Cm).length (eU [])),(5,.ptr 1 0),(2,.ptr 0 0),(0,.str s)],[[.nil,.nil],[.row 37 16 ([]:List Dc).length (fF []),.nil]]⟩:=
 Rx.wv (.cons .refl (.cons (.cons .lM (.cons .refl .nil)) .nil)) (.cons .refl (.cons .lM (.cons .lM (.cons .refl (.cons .refl (.cons .refl .nil)))))) ⟨rfl,rfl⟩
theorem aoq {a b:List AV} {r:List (List AV)} (h:aN (a::b::r)=true):aN [a,b]=true:=by
 rw [aY] at h⊢;intro d hd;refine h d ?_;simp only [List.mem_cons,List.not_mem_nil,or_false] at hd⊢;rcases hd with h|h
 ·exact .inl h
 ·exact .inr (.inl h)
theorem amA {s:ByteArray} {a:Int} {ds:List Dc} {d:Dc} {l C:List AV} {N:Nat} {rest:List (List AV)} (hy:qi l (wJ d)) (hl:dG l=[]) (hN:N=ds.length+1) (hC:C=fF ds++l):Rx 0 ⟨[(8,.int .i64 a),(7,.nil),(6,.nil),(5,.ptr 1 0),(2,.ptr 0 0),(0,.str s)],[.nil,.nil]::[.row 37 16 N C,.nil]::rest⟩ ⟨[(8,.int .i64 a),(7,.row 9 1 ([]:List ByteArray).length (bM [])),(6,.row 56 2 ([]:List Cm).length (eU [])),(5,.ptr 1 0),(2,.ptr 0 0),(0,.str s)],[[.nil,.nil],[.row 37 16 (ds++[d]).length (fF (ds++[d])),.nil]]⟩:=by
 subst hN hC;intro hσ;have h1:Rx 0 ⟨[(8,.int .i64 a),(7,.nil),(6,.nil),(5,.ptr 1 0),(2,.ptr 0 0),(0,.str s)],[.nil,.nil]::[.row 37 16 (ds.length+1) (fF ds++l),.nil]::rest⟩ ⟨[(8,.int .i64 a),(7,.nil),(6,.nil),(5,.ptr 1 0),(2,.ptr 0 0),(0,.str s)],[[.nil,.nil],[.row 37 16 (ds.length+1) (fF ds++l),.nil]]⟩:=by
  refine Rx.pick [0,1] dE (by intro i hi;omega) ?_ ?_ ⟨rfl,aoq hσ.bx⟩
  ·refine .same rfl rfl (.same rfl ?_ .nil);have:dG (fF ds++l)=[]:=by rw [iy,bQ (kX _),hl];rfl
   simp [dG,kQ,this]
  ·exact .cons (.same rfl) (.cons (.same rfl) (.cons (.same rfl) (.cons (.ptr rfl) (.cons (.ptr rfl) (.cons (.same rfl) .nil)))))
 refine Rx.trans h1 ?_ hσ;have e1:(ds++[d]).length=ds.length+1:=by rw [List.length_append];rfl
 have e2:fF (ds++[d])=fF ds++wJ d:=by rw [D7,Vo]
 refine Rx.wv (.cons .refl (.cons (.cons ?_ (.cons .refl .nil)) .nil)) (.cons .refl (.cons .lM (.cons .lM (.cons .refl (.cons .refl (.cons .refl .nil)))))) ?_
 ·rw [e1];exact Wv.row (by rw [e2];exact qi.app (qi.refl _) hy) (bK (kX _))
 ·exact ⟨rfl,(by simp [aN,gG,wv,AV.one,kX])⟩
theorem abK {ts:List ByteArray} {t:ByteArray} {n:Nat} (h:∀i,(Bk.rowAt ts i).size<=n) (ht:t.size<=n) (i:Nat):(Bk.rowAt (ts++[t]) i).size<=n:=by
 unfold Bk.rowAt at h⊢;rw [List.getD_eq_getElem?_getD];rcases Nat.lt_trichotomy i ts.length with hi|hi|hi
 ·rw [List.getElem?_append_left hi,←List.getD_eq_getElem?_getD];exact h i
 ·rw [List.getElem?_append_right oM,hi,Nat.sub_self];exact ht
 ·rw [List.getElem?_append_right oM,List.getElem?_eq_none (by simp;omega)];exact Nat.zero_le _
theorem DW.mk {h f:List Cm} {t:List ByteArray} {m:Bool} {x:Nd} (hx:BW x) (hw:(wt x:Int)+f.length<=3210000000) (hh:h.length<=60000) (ht:t.length<=20000):DW ⟨h,t,m,x,f⟩:=⟨hx,by show wt x+f.length<=_;omega,hh,ht⟩
theorem PI.doc {s:ByteArray} {a:Int} {ds:List Dc} {d:Dc} (ha:0<=a∧a<=s.size) (hl:(ds.length:Int)+1<=a∧((xu ds+(wt d.root+d.ag.length):Nat):Int)<=160200*a) (hs:∀d ∈ ds,DW d) (hd:DW d):PI s ((s.size:Int)+1-a).toNat ⟨[(8,.int .i64 a),(7,.row 9 1 ([]:List ByteArray).length (bM [])),(6,.row 56 2 ([]:List Cm).length (eU [])),(5,.ptr 1 0),(2,.ptr 0 0),(0,.str s)],[[.nil,.nil],[.row 37 16 (ds++[d]).length (fF (ds++[d])),.nil]]⟩:=by
 refine ⟨a,[],[],ds++[d],ha,⟨⟨by simp;omega,by simp;omega,?_,?_⟩,fun i=>?_,fun z hz=>?_⟩,rfl,rfl⟩
 ·rw [List.length_append,List.length_cons,List.length_nil];omega
 ·rw [OM,xu,xu];omega
 ·unfold Bk.rowAt;rw [List.getD_nil];decide
 ·rcases List.mem_append.1 hz with hz|hz
  ·exact hs z hz
  ·rw [List.mem_singleton.1 hz];exact hd
theorem Np {s:ByteArray} {p:Int} (h0:0<=p) (h1:p<=s.size):Bk.aP s p=p.toNat:=by unfold Bk.aP;omega
theorem TK {s:ByteArray} {a q p:Int} {l:List Cm} {sm:Bool} (h:aeU s a q) (hb:Bk.sK s a.toNat 0 false=some (l,sm,p.toNat)) (h0:0<=p) (h1:p<s.size) (hk:¬(p=(Bk.bI s p.toNat:Nat)∧(Bk.fE s (Bk.aP s p)=3∨Bk.fE s (Bk.aP s p)=4))):a<q:=by refine h.out l sm p.toNat hb ?_;rw [show ((p.toNat:Nat):Int)=p by omega];refine MI ?_;have e:=Np h0 (Int.le_of_lt h1);have:=Bk.iF s p.toNat;unfold Gt;rw [e] at hk⊢;omega
theorem agK {n:Nat} {l:List AV} {H f:List Cm} {ts:List ByteArray} {m:Bool} {x:Nd} (h:fP n l H):qi [.sl n l,.sl ts.length (bM ts),.bool m,.int .i64 x.k,.int .i64 x.y,.int .i64 x.p,.int .i64 x.b,.str x.an,.str x.tg,.str x.tx,.sl x.kids.length (aO x.kids),.sl x.lead.length (eU x.lead),.sl x.ag.length (eU x.ag),.bool x.h,.str x.tr,.sl f.length (eU f)] (wJ ⟨H,ts,m,x,f⟩):=.cons (Wk.isc h) (qi.refl _)
def aqQ:=fN 11 Tryz.f11 222 [.cell 2 27,.tmp 3,.tmp 4]
theorem ao6:az.OK Tryz.prog 11 c11:=by
 intro args bx K0 h;unfold c11 at h;split at h
 ·rename_i s;obtain ⟨h0,-⟩:=h;have hs:s.size<=900000:=oM;refine aqQ.okW (base:=0) rfl Oy Oy ?_;have B:=V.base (ae.cons adZ (ae.cons adY (ae.cons (aoV ajZ) (ae.cons YF (ae.cons WB (ae.cons JH (ae.cons afO (ae.cons aoX (ae.cons aoW ae.nil)))))))))
  conv=>whnf
  have DF:∀{p:Int},Bk.fE s (Bk.aP s p)=3->0<=p->p<=s.size->(Bk.bI s p.toNat:Int)+3<=Bk.oI s p.toNat:=fun {p} h h0 h1=>by rw [Np h0 h1] at h;have:=IV (.inl h);omega
  have DD:∀{p:Int},Bk.fE s (Bk.aP s p)=4->0<=p->p<=s.size->(Bk.bI s p.toNat:Int)+3<=Bk.oI s p.toNat:=fun {p} h h0 h1=>by rw [Np h0 h1] at h;have:=IV (.inr h);omega
  have DI:∀{p:Int},bt s p.toNat=37->0<=p->p<s.size->p+1<=Bk.oI s p.toNat:=fun {p} h h0 h1=>afb (by have:=Bk.vS s p.toNat;omega) h1 h0 oM
  repeat' (first
  |with_reducible refine WP.seq ?_
  |(with_reducible first|refine Go.mk ?_|refine WP.qy B (au 11) ?_|refine WP.draw B (au 11) ?_|refine WP.cond ?_|refine WP.exit ?_|refine WP.skip ?_|refine WP.ret ?_);conv=>whnf
  |with_reducible refine WP.block ?_
  |with_reducible assumption
  |with_reducible refine And.intro ?_ ?_
  |exact cL
  |(with_reducible intro h);first|(cases h;done)|(try simp only [lG,reduceCtorEq] at h);first|done|(exfalso;omega)|replace h:=h trivial aZ|replace h:=h aZ|skip
  |fail)
  refine WP.pJ arc ?_;refine WP.loop (PI s) ⟨0,[],[],[],⟨oM,oM⟩,⟨⟨by simp,by simp,by simp,by simp [xu]⟩,(fun i=>by rw [Bk.rowAt,List.getD_nil];decide),(by intro d hd;cases hd)⟩,rfl,rfl⟩ ?_;rintro j τ ⟨a,H,ts,ds,⟨g1,g2⟩,⟨⟨g3,g4,g5,g8⟩,g6,g7⟩,rfl,rfl⟩
  repeat' (first
  |with_reducible refine WP.seq ?_
  |(with_reducible first|refine Go.mk ?_|refine WP.qy B (au 11) ?_|refine WP.draw B (au 11) ?_|refine WP.cond ?_|refine WP.exit ?_|refine WP.skip ?_|refine WP.ret ?_);conv=>whnf
  |with_reducible refine WP.block ?_
  |with_reducible assumption
  |((with_reducible refine (?_:(ByteArray.extract _ _ _).size<=_));rw [ByteArray.size_extract];omega)
  |((with_reducible refine (?_:AV.y8 _=true));first|rfl|(simp [AV.y8,AV.pf,bn (ai _),bn (ay _),bn (dN _),bn (iH (ay _) (ay _))];done))
  |((with_reducible refine (?_:(_:Int)<=_));(first|(have h9:=DF aZ oM oM;omega)|(have h9:=DD aZ oM oM;omega)|(have h9:=DI aZ oM oM;omega)))
  |((with_reducible refine (?_:∃ts',(_=_∧_=_)∧_∧_));(refine ⟨ts,⟨rfl,rfl⟩,⟨?_,oM,fun i=>Nat.le_trans (g6 i) dE⟩,?_⟩);(focus ((try simp only [ByteArray.size_extract] at*);omega)))
  |((with_reducible refine (?_:∃(j:Nat) (τ':aF),j<_∧Rx 0 _ τ'∧_));(apply Ls);(case' hi=>(apply PI.mk (ts:=ts) (ds:=ds)));(case hr=>exact Rx.refl);(case hH=>(first|exact fP.app (fP.mk _) (fP.mk _)|exact fP.app (fP.app (fP.mk _) (fP.mk _)) fP.one));(case hM=>rfl);(case hD=>rfl);(case ha=>exact ⟨oM,oM⟩);(case hK=>exact ⟨⟨by (try simp only [lL]);(first|(have h9:=DF aZ oM oM;omega)|(have h9:=DD aZ oM oM;omega)|(have h9:=DI aZ oM oM;omega)),by (first|(have h9:=DF aZ oM oM;omega)|(have h9:=DD aZ oM oM;omega)|(have h9:=DI aZ oM oM;omega)),by (first|(have h9:=DF aZ oM oM;omega)|(have h9:=DD aZ oM oM;omega)|(have h9:=DI aZ oM oM;omega)),by (first|(have h9:=DF aZ oM oM;omega)|(have h9:=DD aZ oM oM;omega)|(have h9:=DI aZ oM oM;omega))⟩,g6,g7⟩);(case hj=>(first|(have h9:=DF aZ oM oM;omega)|(have h9:=DD aZ oM oM;omega)|(have h9:=DI aZ oM oM;omega))))
  |((with_reducible refine (?_:∃(j:Nat) (τ':aF),j<_∧Rx 0 _ τ'∧_));(apply Ls);(case' hi=>(apply PI.mk (ts:=ts++[_]) (ds:=ds)));(case hr=>exact Rx.refl);(case hH=>(first|exact fP.app (fP.mk _) (fP.mk _)|exact fP.app (fP.app (fP.mk _) (fP.mk _)) fP.one));(case hM=>(rw [List.length_append];rfl));(case hD=>exact uw);(case ha=>exact ⟨oM,oM⟩);(case hK=>exact ⟨⟨by (try simp only [lL]);(first|(have h9:=DF aZ oM oM;omega)|(have h9:=DD aZ oM oM;omega)|(have h9:=DI aZ oM oM;omega)),by (try simp only [lL]);(first|(have h9:=DF aZ oM oM;omega)|(have h9:=DD aZ oM oM;omega)|(have h9:=DI aZ oM oM;omega)),by (first|(have h9:=DF aZ oM oM;omega)|(have h9:=DD aZ oM oM;omega)|(have h9:=DI aZ oM oM;omega)),by (first|(have h9:=DF aZ oM oM;omega)|(have h9:=DD aZ oM oM;omega)|(have h9:=DI aZ oM oM;omega))⟩,abK g6 (by (try simp only [ByteArray.size_extract] at*);omega),g7⟩);(case hj=>(first|(have h9:=DF aZ oM oM;omega)|(have h9:=DD aZ oM oM;omega)|(have h9:=DI aZ oM oM;omega))))
  |(with_reducible refine (?_:af _ _ _ _ _));first|exact af.aW kV kV Oy Oy fun K hK=>hK.2.2|exact af.aW kV kV Oy Oy fun K hK=>hK.2.1 ds _ g7 ⟨oM,oW,oM⟩
  |with_reducible refine And.intro ?_ ?_
  |exact cL
  |(with_reducible intro h);first|(cases h;done)|(try simp only [lG,reduceCtorEq] at h);first|done|(exfalso;omega)|replace h:=h trivial aZ|replace h:=h aZ|skip
  |fail)
  all_goals try ((with_reducible refine (?_:∃(j:Nat) (τ':aF),j<_∧Rx 0 _ τ'∧_));(apply Ls);(case' hr=>(apply amA (ds:=ds) (d:=⟨_,_,_,_,_⟩)));(case hC=>rfl);(case hy=>exact agK (by first|exact fP.mk _|exact fP.app (fP.mk _) (fP.mk _)));(case hl=>simp [dG,kQ,cs,bQ (ai _),bQ (ay _),bQ (dN _),iy]);(case hN=>rfl);(case hi=>exact PI.doc ⟨oM,oM⟩ ⟨by (first|omega|(first|(have h9:=DF aZ oM oM;omega)|(have h9:=DD aZ oM oM;omega)|(have h9:=DI aZ oM oM;omega))|(have h9:=TK aZ aZ oM oM oM;omega)),by (try simp only [lL]);(first|omega|(first|(have h9:=DF aZ oM oM;omega)|(have h9:=DD aZ oM oM;omega)|(have h9:=DI aZ oM oM;omega))|(have h9:=TK aZ aZ oM oM oM;omega))⟩ g7 (DW.mk aZ oM (by (try simp only [lL]);omega) oM));(case hj=>(first|omega|(first|(have h9:=DF aZ oM oM;omega)|(have h9:=DD aZ oM oM;omega)|(have h9:=DI aZ oM oM;omega))|(have h9:=TK aZ aZ oM oM oM;omega))))
  all_goals exact af.aW kV kV Oy Oy fun K hK=>hK.2.1 ds _ g7 ⟨oM,oW,oM⟩
 ·exact h.elim
end V
end
end Go.Proofs.YtlmjabnkjmfcmaaGreat
