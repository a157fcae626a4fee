/- Own texts, joined and shortened by a program; no condition. -/
import Derived.Test.YtlmjabnkjmfcmaaGreatK18
namespace Go.Proofs.YtlmjabnkjmfcmaaGreat
open Go Go.RowKit Go.PlainAid
set_option linter.unusedVariables false
set_option linter.unusedSimpArgs false
set_option maxHeartbeats 20000000
set_option linter.defProp false
section
set_option maxRecDepth 100000
namespace V
open Ab
open Bk (Cm)
def c15:aC:=fun args bx K=>match args,bx with
 |[.sl nk lk],[]=>∃ks:List Int,(nk=ks.length∧lk=jh ks)∧ks.length<=100∧∀t:ByteArray,t.size<=15200->K (.str t) []
 |_,_=>False
def MDI (ks:List Int) (j:Nat) (τ:aJ):Prop:=∃(i n a1 lf nm:Int) (o:ByteArray),(0<=i∧i<=n∧n<=3)∧(0<=a1∧a1<=ks.length)∧(o.size:Int)+75*(n-i)<=150*a1+75∧j=(n-i).toNat∧τ=⟨[(5,.int .i64 i),(4,.int .i64 n),(3,.ptr 0 0)],[mB ks a1 o lf nm]⟩
def al9:=fN 15 Tryz.f15 75 [.tmp 2]
theorem ac5.xt {p:Prop} (g:p:=by ((first|exact uB|exact rX|exact mf|exact rZ|exact uD|exact r9|exact uE|exact qP|exact uz|exact uA|exact uC|((with_reducible refine (?_:WP _ _ _ (.loop _) _ _));(apply WP.loop (MDI ks));(case h0=>exact ⟨0,_,_,_,_,_,⟨oM,oM,oM⟩,⟨oM,oM⟩,(by (try simp only [lL,jP,Ec,Bk.bA,ByteArray.size_extract] at*);omega),rfl,rfl⟩);(case' h=>(rintro j τ ⟨i,n,a1,lf,nm,o,⟨g1,g2,g3⟩,⟨g4,g5⟩,g6,rfl,rfl⟩)))|((with_reducible refine (?_:∃(j:Nat) (τ':aJ),j<_∧Rx 0 _ τ'∧_));(refine ⟨_,_,?_,Rx.refl,i+1,n,_,_,_,_,⟨oM,oM,oM⟩,⟨oM,oM⟩,(by (try simp only [lL,jP,Ec,Bk.bA,ByteArray.size_extract] at*);omega),rfl,rfl⟩);omega)|((with_reducible refine (?_:ag _ _ _ _ _));first|exact ag.aU kV kV mV mV fun K hK=>(Zp hK).2 _ oM)|fail);(repeat' (first|exact bN|fail));first|done|fail)):p:=g
theorem R6:aC.OK Tryz.prog 15 c15:=by
 intro args bx K0 h;unfold c15 at h;split at h
 ·rename_i nk lk;obtain ⟨ks,⟨rfl,rfl⟩,h1,-⟩:=h;refine al9.okW (base:=0) rfl mV mV ?_;have B:=V.base (af.cons uF (af.cons CG (af.cons CK (af.cons aaM (af.cons aki (af.cons akh (af.cons O8 (af.cons akg af.nil))))))))
  conv=>whnf
  have e0:ByteArray.empty.size=0:=rfl;have e0':({data:=#[]}:ByteArray).size=0:=rfl;let zA:=(aH 15)
  open ac5 in exact bN
 ·exact h.elim
theorem aij {a post:List Cm} {c:Cm} {n:Nat} (hn:n=a.length):List.drop (n*2) (fQ (a++c::post))=[.str c.t,.int .i64 c.b]++fQ post:=by subst hn;rw [vE,←kT,List.drop_left];cases c;rfl
theorem iA {a post:List Nd} {x:Nd} {n:Nat} (hn:n=a.length):List.drop (n*12) (au (a++x::post))=bF x++au post:=by subst hn;rw [jG,←bT,List.drop_left,zO]
def c17:aC:=fun args bx K=>match args,bx with
 |[.sl n l,.sl m k],[]=>∃L:List Cm,dC n l L∧((dC m k L∧L.length<=9000000000)∧K (.bool true) [])
 |_,_=>False
def CL (L:List Cm) (j:Nat) (τ:aJ):Prop:=∃a r:List Cm,L=a++r∧j=r.length∧τ=⟨[(5,.int .i64 a.length),(1,cs L),(0,cs L)],[]⟩
def al8:=fN 17 Tryz.f17 26 [.tmp 4]
theorem acY.xt {p:Prop} (g:p:=by ((first|((with_reducible intro h);exfalso;simp at h;first|done|fail)|((with_reducible refine (?_:∃x r,List.drop _ (fQ _)=x++r∧_));refine ⟨[.str c0.t,.int .i64 c0.b],fQ post,(by rw [hk];exact aij oM),rfl,?_⟩)|exact uT|exact Yv|((with_reducible refine (?_:WP _ _ _ (.loop _) _ _));(apply WP.loop (CL L));(case h0=>exact ⟨[],L,rfl,rfl,rfl⟩);(case' h=>(rintro j τ ⟨a,r,hk,rfl,rfl⟩;have e1:=congrArg List.length hk;rw [List.length_append] at e1;rcases r with _|⟨c0,post⟩;all_goals (first|(rw [List.length_cons] at e1)|(rw [List.length_nil] at e1)))))|((with_reducible refine (?_:∃(j:Nat) (τ':aJ),j<_∧Rx 0 _ τ'∧_));(refine ⟨post.length,_,?_,Rx.refl,a++[c0],post,by rw [hk];simp,rfl,by rw [List.length_append];rfl⟩);(try simp only [List.length_cons]);omega)|((with_reducible refine (?_:ag _ _ _ _ _));first|exact ag.aU kV kV uI uI fun K hK=>(BA (dC.mk L) hK).2)|fail);(repeat' (first|exact bN|fail));first|done|fail)):p:=g
theorem V6:aC.OK Tryz.prog 17 c17:=by
 intro args bx K0 h;unfold c17 at h;split at h
 ·rename_i n l m k;obtain ⟨L,⟨rfl,rfl⟩,⟨⟨rfl,rfl⟩,h1⟩,-⟩:=h;refine al8.okW (base:=0) rfl uI uI ?_;have B:=V.base af.nil
  conv=>whnf
  let zA:=(aH 17)
  open acY in exact bN
 ·exact h.elim
def c18:aC:=fun args bx K=>match args,bx with
 |[.sl n l,.sl m k],[]=>∃ts:List ByteArray,Ku n l ts∧((Ku m k ts∧ts.length<=9000000000)∧K (.bool true) [])
 |_,_=>False
def TXL (ts:List ByteArray) (j:Nat) (τ:aJ):Prop:=∃i:Int,(0<=i∧i<=ts.length)∧j=((ts.length:Int)-i).toNat∧τ=⟨[(5,.int .i64 i),(1,.sl ts.length (cO ts)),(0,.sl ts.length (cO ts))],[]⟩
def al7:=fN 18 Tryz.f18 26 [.tmp 4]
theorem acX.xt {p:Prop} (g:p:=by ((first|((with_reducible intro h);exfalso;simp at h;first|done|fail)|exact Nb|exact K6|((with_reducible refine (?_:WP _ _ _ (.loop _) _ _));(apply WP.loop (TXL ts));(case h0=>exact ⟨0,⟨oM,oM⟩,rfl,rfl⟩);(case' h=>(rintro j τ ⟨i,⟨g1,g2⟩,rfl,rfl⟩)))|exact Yy|((with_reducible refine (?_:ag _ _ _ _ _));first|exact ag.aU kV kV uI uI fun K hK=>(exS ⟨rfl,rfl⟩ hK).2)|fail);(repeat' (first|exact bN|fail));first|done|fail)):p:=g
theorem aft:aC.OK Tryz.prog 18 c18:=by
 intro args bx K0 h;unfold c18 at h;split at h
 ·rename_i n l m k;obtain ⟨ts,⟨rfl,rfl⟩,⟨⟨rfl,rfl⟩,h1⟩,-⟩:=h;refine al7.okW (base:=0) rfl uI uI ?_;have B:=V.base af.nil
  conv=>whnf
  let zA:=(aH 18)
  open acX in exact bN
 ·exact h.elim
def c38 (m:Nat):aC:=fun args bx K=>match args,bx with
 |[.agg xc,.agg yc],[]=>∃x:Nd,xc=bF x∧((yc=bF x∧fD x<=m∧fD x<=4000000000∧iI x<=4000000000)∧K (.bool true) [])
 |_,_=>False
def NDL (kids:List Nd) (C:List AV) (j:Nat) (τ:aJ):Prop:=∃a r:List Nd,kids=a++r∧j=r.length∧τ=⟨[(5,.int .i64 a.length),(3,.ptr 1 0),(2,.ptr 0 0)],[C,C]⟩
def alZ:=fN 38 Tryz.f38 109 [.tmp 4]
theorem acW.xt {p:Prop} (g:p:=by ((first|((with_reducible intro h);exfalso;simp at h;first|done|fail)|exact Ao|exact IM|((with_reducible refine (?_:_=bF _));rfl)|(exact dC.mk _)|((with_reducible refine (?_:∃x r,List.drop _ (au _)=x++r∧_));refine ⟨bF x0,au post,(by first|(rw [hk];exact iA oM)|(show List.drop _ (au kids)=_;rw [hk];exact iA oM)),rfl,?_⟩)|exact uT|exact Yv|((with_reducible refine (?_:WP _ _ _ (.loop _) _ _));(apply WP.loop (NDL kids _));(case h0=>exact ⟨[],kids,rfl,rfl,rfl⟩);(case' h=>(rintro j τ ⟨a,r,hk,rfl,rfl⟩;have e1:=congrArg List.length hk;have e2:=congrArg cK hk;have e3:=congrArg bS hk;rw [List.length_append] at e1;rw [iV] at e2;rw [gB] at e3;rcases r with _|⟨x0,post⟩;all_goals (first|(rw [List.length_cons,cK,bS] at*)|(rw [List.length_nil] at e1)))))|exact Q9|((with_reducible refine (?_:ag _ _ _ _ _));first|exact ag.aU kV kV uI uI fun K hK=>(HZ (x:=.mk kd y p b an tg tx kids lead ae hh tr) rfl hK).2)|fail);(repeat' (first|exact bN|fail));first|done|fail)):p:=g
theorem aff {m:Nat} (ih:aC.OK Tryz.prog 38 (c38 m)):aC.OK Tryz.prog 38 (c38 (m+1)):=by
 intro args bx K0 h;unfold c38 at h;split at h
 ·rename_i xc yc;obtain ⟨⟨kd,y,p,b,an,tg,tx,kids,lead,ae,hh,tr⟩,rfl,⟨rfl,h1,h2,h3⟩,-⟩:=h;rw [fD] at h1 h2;rw [iI] at h3;have hl:=jq kids;unfold bF;simp only [Nd.k,Nd.y,Nd.p,Nd.b,Nd.an,Nd.tg,Nd.tx,Nd.kids,Nd.lead,Nd.ae,Nd.h,Nd.tr];refine alZ.okW (base:=0) rfl uI uI ?_;have B:=V.base (af.cons ih (af.cons V6 af.nil))
  conv=>whnf
  let zA:=(aH 38)
  open acW in exact bN
 ·exact h.elim
theorem afg:aC.OK Tryz.prog 38 (c38 0):=fun args bx K0 h=>by
 unfold c38 at h;split at h
 ·obtain ⟨x,-,⟨-,h1,-⟩,-⟩:=h;cases x;rw [fD] at h1;omega
 ·exact h.elim
theorem afh:∀m:Nat,aC.OK Tryz.prog 38 (c38 m)
 |0=>afg
 |m+1=>aff (afh m)
def c12:aC:=fun args bx K=>match args,bx with
 |[.agg xc,.agg yc],[]=>∃d:Dc,xc=rR d∧((yc=rR d∧fD d.root<=4000000000∧iI d.root<=4000000000∧d.head.length<=9000000000∧d.ae.length<=9000000000∧d.gM.length<=9000000000)∧K (.bool true) [])
 |_,_=>False
def amc:=fN 12 Tryz.f12 38 [.tmp 4]
theorem acV.xt {p:Prop} (g:p:=by ((first|((with_reducible intro h);exfalso;simp at h;first|done|fail)|exact Ao|exact IM|((with_reducible refine (?_:_=bF _));rfl)|(exact dC.mk _)|((with_reducible refine (?_:∃ts:List ByteArray,Ku _ _ ts∧_));refine ⟨ds,⟨rfl,rfl⟩,?_⟩)|((with_reducible refine (?_:Ku _ _ _));exact ⟨rfl,rfl⟩)|((with_reducible refine (?_:ag _ _ _ _ _));first|exact ag.aU kV kV uI uI fun K hK=>(exD (d:=⟨hd,ds,mk,x0,ft⟩) rfl hK).2)|fail);(repeat' (first|exact bN|fail));first|done|fail)):p:=g
theorem afZ:aC.OK Tryz.prog 12 c12:=by
 intro args bx K0 h;unfold c12 at h;split at h
 ·rename_i xc yc;obtain ⟨⟨hd,ds,mk,x0,ft⟩,rfl,⟨rfl,h1,h2,h3,h4,h5⟩,-⟩:=h;dsimp only at h1 h2 h3 h4 h5;refine amc.okW (base:=0) rfl uI uI ?_;have B:=V.base (af.cons (afh 4000000000) (af.cons V6 (af.cons aft af.nil)))
  conv=>whnf
  let zA:=(aH 12)
  open acV in exact bN
 ·exact h.elim
end V
theorem XR {ops:Array Oper} {rest:List Oper} {o:Oper} {a:Act} {Q:Exit->Act->World->Prop} {w:World} (hgd:o.guard=none) (s x:Operand)
  (ho:o.op=.call {callee:=.builtin .append,args:=#[s,x],argTypes:=#[25,3]}) (n:Nat) (hs:a.eval s=.slice none 0 0) (hx:a.eval x=.int .i64 n) (h0:0<n) (hn:n<=10000000000)
  (h:∀(c:Nat) (cs:Array Value),cs.size=c*2->n<=c->c<=maxLen->wpList Tryz.prog ops Q rest (a.put o.dst (.slice (some ⟨w.heap.size,0,none⟩) n c)) (w.drew.alloc (.cells cs 56))):
  wpList Tryz.prog ops Q (o::rest) a w:=by
 obtain ⟨i0,hi,hz0,hz1,hz2⟩:=info_parts Tryz.LG;refine wpList_step fun K hK=>?_;rw [if_pos (by simp [Region.wanted,hgd])];have hr:=Lib.run_append_nil_zeros (P:=Tryz.prog) w 25 3 o.type 56 i0 _ .i64 .i64 Tryz.underlying25 Tryz.underlying3 hi hz0 n h0 (by rw [hz1];omega) oM (by rw [hz2];omega);have hge:=grownCap_ge w n 0 56;have Qc:n<=maxLen:=by have:(10000000000:Nat)<=maxLen:=dE;omega
 unfold Oper.wp execOp;simp only [ho,resolve,invoke,builtin,Sem.run_bind,Sem.run_pure,Result.andThen_ok,List.map_toArray,List.map_cons,List.map_nil,hs,hx,hr];refine hK _ _ (h _ _ ?_ hge (grownCap_le_maxLen w n 0 56 Qc));simp only [Array.size_append,size_zeroCells];show n*2+(_-n)*2=_;omega
theorem Po (n:Nat) (w:World) (hn:n<=10000000000):
  Calls Tryz.prog 73 #[.slice none 0 0,.int .i64 n] w fun e w'=>(n=0∧e=.returned (.slice none 0 0)∧w=w')∨(0<n∧∃(c:Nat) (cs:Array Value),e=.returned (.slice (some ⟨w.heap.size,0,none⟩) 0 c)∧w'=w.drew.alloc (.cells cs 56)∧cs.size=c*2∧c<=maxLen):=by
 have hneg:¬((n:Int)<0):=oM;by_cases h0:n=0
 ·subst h0;refine Calls.mono (R:=fun e w'=>e=.returned (.slice none 0 0)∧w=w') ?_ (fun e w' h=> .inl ⟨rfl,h.1,h.2⟩)
  go_enter Tryz.func73,Tryz.ntmps73
  go_wp2_with fail
  go_ret
  exact ⟨rfl,rfl⟩
 ·have hp:(0:Int)<n:=oM;refine Calls.mono (R:=fun e w'=>∃(c:Nat) (cs:Array Value),e=.returned (.slice (some ⟨w.heap.size,0,none⟩) 0 c)∧w'=w.drew.alloc (.cells cs 56)∧cs.size=c*2∧c<=maxLen) ?_ (fun e w' h=> .inr ⟨oM,h⟩)
  go_enter Tryz.func73,Tryz.ntmps73
  go_wp2_with (at_builtin;refine XR rfl (.tmp 20) (.tmp 21) rfl n rfl rfl oM hn ?_;intro c cs h1 h2 h3)
  go_ret
  exact ⟨c,rfl,cs,rfl,h1,h3⟩
namespace Ab
variable {lim lim' : Nat -> Nat} {bs bs' : List Nat} {w w' : World} {P : Program} {T : jL} {a : Act} {o : Oper} {m : Nat -> Prop} {bx bx' : List (List AV)} {S S' : rE} {K : Act -> World -> Prop} {Q : Exit -> Act -> World -> Prop} {cal : xR} {σ σ' : aJ}
theorem Du {n:Nat} {l:List AV} (hl:l.length=n*2) (h1:dI l=true) (h2:AV.ak l=true) (hn:n<=10000000000):aW Tryz.prog 39 [.sl n l] [] (.row 56 2 n l) []:=by
 refine ⟨⟨_,rfl,rfl,rfl⟩,Nat.le_refl _,fun lim bs w vs m hvl hm H=>?_⟩;refine calls_of_wp rfl rfl ?_;have H0:=iy (nt:=8) hvl H;have hsz:8<=(vs.toArray++Array.replicate (8-vs.toArray.size) undef).size:=iw;refine wp_seq (oI (md:=zt) tok bM (fP (by rfl) hsz) (σ:=⟨[(0,.sl n l)],[]⟩) (σ':=⟨[(2,.nil),(0,.sl n l)],[]⟩) H0 hm rfl fun dN jZ w1 a1 g1=>?_);have hs1:8<=a1.tmps.size:=by rw [g1.nt];exact hsz
 have hbs:bs=[]:=List.eq_nil_of_length_eq_zero (by rw [H.len];rfl);have hv:=g1.hold.slot 0;rw [show (Sl _ a1 0).1=AV.sl n l from rfl,AV.R] at hv;obtain ⟨ad,c,hv,hnc,hl0⟩:=hv;have hv':a1.tmps.getD 0 undef=.slice ad n c:=hv;refine wp_seq (wp_seq (wp_region_list (wpList_step fun K hK=>?_)));show Oper.wp _ _ _ _ _ _;refine gp (u:=.slice ad n c) (w':=w1) ?_ (hK _ _ ?_)
 ·unfold execOp;simp [Act.eval,hv',-Array.getD_eq_getD_getElem?]
 refine wpList_step fun K hK=>?_;show Oper.wp _ _ _ _ _ _;refine gp (u:=.bool ad.isNone) (w':=w1) ?_ (hK _ _ ?_)
 ·unfold execOp;have h3:((a1.put (some 3) (Value.slice ad n c)).tmps.getD 3 undef)=.slice ad n c:=by have:3<a1.tmps.size:=oM;simp [Act.put,this]
  simp [Act.eval,h3,-Array.getD_eq_getD_getElem?];have he:(Op.equal 25 (.slice ad n c) (.slice none 0 0)).run Tryz.prog w1=.ok ad.isNone w1:=run_equalIn_slice_nil w1 _ 25 56 ad n c rfl;simp [eqGuard,binOp,he]
 refine wpList_nil ?_;obtain ⟨a2,ha2⟩:∃a2,a2=(a1.put (some 3) (Value.slice ad n c)).put (some 4) (.bool ad.isNone):=⟨_,rfl⟩;have H3:aM dN jZ w1 [] (Sl [(4,.bool ad.isNone),(3,.bad),(2,.nil),(0,.sl n l)] a2) m:=by rw [ha2];show aM dN jZ w1 [] (Sl (put (put [(2,.nil),(0,.sl n l)] 3 .bad) 4 (.bool ad.isNone)) _) m;rw [mR (by rw [bL];omega),mR oM];exact (g1.hold.put (lh _) rfl (fun g hh=>by cases hh)).put (by rw [AV.R]) rfl (fun g hh=>by cases hh)
 have hs2:8<=a2.tmps.size:=by rw [ha2,bL,bL];exact hs1
 have hd2:a2.defers=[]:=by rw [ha2];exact g1.df
 rw [←ha2];refine wp_cond (t:=ad.isNone) (kM (σ:=⟨[(4,.bool ad.isNone),(3,.bad),(2,.nil),(0,.sl n l)],[]⟩) (.tmp 4) H3 rfl) ?_;have hm1:∀b,w1.heap.size<=b->m b:=fun b hb=>hm b (Nat.le_trans g1.fr.qJ.size hb);cases ad with
 |none=>
  have hl1:l=[]:=by
   rcases hl0 with h|⟨b,o,h,-⟩
   ·exact h
   ·cases h
  subst hl1;have hn0:n=0:=by rw [List.length_nil] at hl;omega
  subst hn0;refine wp_seq (oI (md:=zt) tok bM (fP (by rfl) hs2) (σ:=⟨[(4,.bool true),(3,.bad),(2,.nil),(0,.sl 0 [])],[]⟩) (σ':=⟨[(4,.bool true),(3,.bad),(2,.nil),(0,.sl 0 [])],[]⟩) H3 hm1 rfl fun gI qN w2 a3 g2=>wp_ret ?_);obtain ⟨u,u1,u2⟩:=eU (T:=gW) (n:=0) (fn:=Tryz.f39) tok g2.hold (vs:=[.nil]) rfl;exact ⟨g2.df.trans hd2,u,u1,u,gI,qN,rfl,Bu u2,g1.fr.trans g2.fr,fun i hi=>by cases hi⟩
 |some ad=>
  refine wp_skip ?_;refine wp_seq (wp_region_list (kR (md:=zt) (σ:=⟨[(4,.bool false),(3,.bad),(2,.nil),(0,.sl n l)],[]⟩) (σ':=⟨[(5,.row 56 2 0 []),(4,.bool false),(3,.bad),(2,.nil),(0,.sl n l)],[]⟩) tok bM (fP (ops:=[_]) (by rfl) hs2 _ List.mem_cons_self) H3 hm1 rfl fun gI qN w2 a3 g2=>?_));have hs3:8<=a3.tmps.size:=by rw [g2.nt];exact hs2
  have hm2:∀b,w2.heap.size<=b->m b:=fun b hb=>hm1 b (Nat.le_trans g2.fr.qJ.size hb);refine kR (md:=zt) (σ':=⟨[(6,.sl n l),(5,.row 56 2 0 []),(4,.bool false),(3,.bad),(2,.nil),(0,.sl n l)],[]⟩) tok bM (fP (ops:=[_]) (by rfl) hs3 _ List.mem_cons_self) g2.hold hm2 rfl fun aa3 bs3 w3 a4 g3=>?_;have hs4:8<=a4.tmps.size:=by rw [g3.nt];exact hs3
  have Td:∀b,w3.heap.size<=b->m b:=fun b hb=>hm2 b (Nat.le_trans g3.fr.qJ.size hb);have hok:(true && decide (0+n<=10000000000) && decide (l.length=n*2) && decide (0<2) && decide (24<=1000) && dI l && AV.ak l)=true:=by rw [h1,h2];simp only [Bool.and_true,Bool.true_and,Bool.and_eq_true,decide_eq_true_eq];exact ⟨⟨⟨oM,hl⟩,oM⟩,oM⟩
  refine kR (md:=zt) (σ':=⟨[(7,.row 56 2 (0+n) ([]++l)),(6,.sl n l),(5,.sl 0 []),(4,.bool false),(3,.bad),(2,.nil),(0,.sl n l)],[]⟩) tok bM (fP (ops:=[_]) (by rfl) hs4 _ List.mem_cons_self) g3.hold Td (Eq.trans (show _=if _=true then some _ else none from rfl) (if_pos hok)) fun aa2 bs4 w4 a5 g4=>?_;have hs5:8<=a5.tmps.size:=by rw [g4.nt];exact hs4
  have hm4:∀b,w4.heap.size<=b->m b:=fun b hb=>Td b (Nat.le_trans g4.fr.qJ.size hb);rw [Nat.zero_add,List.nil_append] at g4;refine kR (md:=zt) (σ:=⟨[(7,.row 56 2 n l),(6,.sl n l),(5,.sl 0 []),(4,.bool false),(3,.bad),(2,.nil),(0,.sl n l)],[]⟩) (σ':=⟨[(7,.sl n l),(6,.sl n l),(5,.sl 0 []),(4,.bool false),(3,.bad),(2,.row 56 2 n l),(0,.sl n l)],[]⟩) tok bM (fP (ops:=[_]) (by rfl) hs5 _ List.mem_cons_self) g4.hold hm4 rfl fun LA bs5 w5 a6 g5=>?_;refine wpList_nil (wp_ret ?_);obtain ⟨u,u1,u2⟩:=eU (T:=gW) (n:=0) (fn:=Tryz.f39) tok g5.hold (vs:=[.row 56 2 n l]) rfl;exact ⟨g5.df.trans (g4.df.trans (g3.df.trans (g2.df.trans hd2))),u,u1,u,LA,bs5,rfl,u2,g1.fr.trans (g2.fr.trans (g3.fr.trans (g4.fr.trans g5.fr))),fun i hi=>by cases hi⟩
theorem Uj {n:Nat} {l:List AV} (hl:l.length=n*1) (h1:dI l=true) (h2:AV.ak l=true) (hn:n<=10000000000):aW Tryz.prog 40 [.sl n l] [] (.row 9 1 n l) []:=by
 refine ⟨⟨_,rfl,rfl,rfl⟩,Nat.le_refl _,fun lim bs w vs m hvl hm H=>?_⟩;refine calls_of_wp rfl rfl ?_;have H0:=iy (nt:=8) hvl H;have hsz:8<=(vs.toArray++Array.replicate (8-vs.toArray.size) undef).size:=iw;refine wp_seq (oI (md:=zt) tok bM (fP (by rfl) hsz) (σ:=⟨[(0,.sl n l)],[]⟩) (σ':=⟨[(2,.nil),(0,.sl n l)],[]⟩) H0 hm rfl fun dN jZ w1 a1 g1=>?_);have hs1:8<=a1.tmps.size:=by rw [g1.nt];exact hsz
 have hbs:bs=[]:=List.eq_nil_of_length_eq_zero (by rw [H.len];rfl);have hv:=g1.hold.slot 0;rw [show (Sl _ a1 0).1=AV.sl n l from rfl,AV.R] at hv;obtain ⟨ad,c,hv,hnc,hl0⟩:=hv;have hv':a1.tmps.getD 0 undef=.slice ad n c:=hv;refine wp_seq (wp_seq (wp_region_list (wpList_step fun K hK=>?_)));show Oper.wp _ _ _ _ _ _;refine gp (u:=.slice ad n c) (w':=w1) ?_ (hK _ _ ?_)
 ·unfold execOp;simp [Act.eval,hv',-Array.getD_eq_getD_getElem?]
 refine wpList_step fun K hK=>?_;show Oper.wp _ _ _ _ _ _;refine gp (u:=.bool ad.isNone) (w':=w1) ?_ (hK _ _ ?_)
 ·unfold execOp;have h3:((a1.put (some 3) (Value.slice ad n c)).tmps.getD 3 undef)=.slice ad n c:=by have:3<a1.tmps.size:=oM;simp [Act.put,this]
  simp [Act.eval,h3,-Array.getD_eq_getD_getElem?];have he:(Op.equal 32 (.slice ad n c) (.slice none 0 0)).run Tryz.prog w1=.ok ad.isNone w1:=run_equalIn_slice_nil w1 _ 32 9 ad n c rfl;simp [eqGuard,binOp,he]
 refine wpList_nil ?_;obtain ⟨a2,ha2⟩:∃a2,a2=(a1.put (some 3) (Value.slice ad n c)).put (some 4) (.bool ad.isNone):=⟨_,rfl⟩;have H3:aM dN jZ w1 [] (Sl [(4,.bool ad.isNone),(3,.bad),(2,.nil),(0,.sl n l)] a2) m:=by rw [ha2];show aM dN jZ w1 [] (Sl (put (put [(2,.nil),(0,.sl n l)] 3 .bad) 4 (.bool ad.isNone)) _) m;rw [mR (by rw [bL];omega),mR oM];exact (g1.hold.put (lh _) rfl (fun g hh=>by cases hh)).put (by rw [AV.R]) rfl (fun g hh=>by cases hh)
 have hs2:8<=a2.tmps.size:=by rw [ha2,bL,bL];exact hs1
 have hd2:a2.defers=[]:=by rw [ha2];exact g1.df
 rw [←ha2];refine wp_cond (t:=ad.isNone) (kM (σ:=⟨[(4,.bool ad.isNone),(3,.bad),(2,.nil),(0,.sl n l)],[]⟩) (.tmp 4) H3 rfl) ?_;have hm1:∀b,w1.heap.size<=b->m b:=fun b hb=>hm b (Nat.le_trans g1.fr.qJ.size hb);cases ad with
 |none=>
  have hl1:l=[]:=by
   rcases hl0 with h|⟨b,o,h,-⟩
   ·exact h
   ·cases h
  subst hl1;have hn0:n=0:=by rw [List.length_nil] at hl;omega
  subst hn0;refine wp_seq (oI (md:=zt) tok bM (fP (by rfl) hs2) (σ:=⟨[(4,.bool true),(3,.bad),(2,.nil),(0,.sl 0 [])],[]⟩) (σ':=⟨[(4,.bool true),(3,.bad),(2,.nil),(0,.sl 0 [])],[]⟩) H3 hm1 rfl fun gI qN w2 a3 g2=>wp_ret ?_);obtain ⟨u,u1,u2⟩:=eU (T:=gW) (n:=0) (fn:=Tryz.f40) tok g2.hold (vs:=[.nil]) rfl;exact ⟨g2.df.trans hd2,u,u1,u,gI,qN,rfl,Bu u2,g1.fr.trans g2.fr,fun i hi=>by cases hi⟩
 |some ad=>
  refine wp_skip ?_;refine wp_seq (wp_region_list (kR (md:=zt) (σ:=⟨[(4,.bool false),(3,.bad),(2,.nil),(0,.sl n l)],[]⟩) (σ':=⟨[(5,.row 9 1 0 []),(4,.bool false),(3,.bad),(2,.nil),(0,.sl n l)],[]⟩) tok bM (fP (ops:=[_]) (by rfl) hs2 _ List.mem_cons_self) H3 hm1 rfl fun gI qN w2 a3 g2=>?_));have hs3:8<=a3.tmps.size:=by rw [g2.nt];exact hs2
  have hm2:∀b,w2.heap.size<=b->m b:=fun b hb=>hm1 b (Nat.le_trans g2.fr.qJ.size hb);refine kR (md:=zt) (σ':=⟨[(6,.sl n l),(5,.row 9 1 0 []),(4,.bool false),(3,.bad),(2,.nil),(0,.sl n l)],[]⟩) tok bM (fP (ops:=[_]) (by rfl) hs3 _ List.mem_cons_self) g2.hold hm2 rfl fun aa3 bs3 w3 a4 g3=>?_;have hs4:8<=a4.tmps.size:=by rw [g3.nt];exact hs3
  have Td:∀b,w3.heap.size<=b->m b:=fun b hb=>hm2 b (Nat.le_trans g3.fr.qJ.size hb);have hok:(true && decide (0+n<=10000000000) && decide (l.length=n*1) && decide (0<1) && decide (16<=1000) && dI l && AV.ak l)=true:=by rw [h1,h2];simp only [Bool.and_true,Bool.true_and,Bool.and_eq_true,decide_eq_true_eq];exact ⟨⟨⟨oM,hl⟩,oM⟩,oM⟩
  refine kR (md:=zt) (σ':=⟨[(7,.row 9 1 (0+n) ([]++l)),(6,.sl n l),(5,.sl 0 []),(4,.bool false),(3,.bad),(2,.nil),(0,.sl n l)],[]⟩) tok bM (fP (ops:=[_]) (by rfl) hs4 _ List.mem_cons_self) g3.hold Td (Eq.trans (show _=if _=true then some _ else none from rfl) (if_pos hok)) fun aa2 bs4 w4 a5 g4=>?_;have hs5:8<=a5.tmps.size:=by rw [g4.nt];exact hs4
  have hm4:∀b,w4.heap.size<=b->m b:=fun b hb=>Td b (Nat.le_trans g4.fr.qJ.size hb);rw [Nat.zero_add,List.nil_append] at g4;refine kR (md:=zt) (σ:=⟨[(7,.row 9 1 n l),(6,.sl n l),(5,.sl 0 []),(4,.bool false),(3,.bad),(2,.nil),(0,.sl n l)],[]⟩) (σ':=⟨[(7,.sl n l),(6,.sl n l),(5,.sl 0 []),(4,.bool false),(3,.bad),(2,.row 9 1 n l),(0,.sl n l)],[]⟩) tok bM (fP (ops:=[_]) (by rfl) hs5 _ List.mem_cons_self) g4.hold hm4 rfl fun LA bs5 w5 a6 g5=>?_;refine wpList_nil (wp_ret ?_);obtain ⟨u,u1,u2⟩:=eU (T:=gW) (n:=0) (fn:=Tryz.f40) tok g5.hold (vs:=[.row 9 1 n l]) rfl;exact ⟨g5.df.trans (g4.df.trans (g3.df.trans (g2.df.trans hd2))),u,u1,u,LA,bs5,rfl,u2,g1.fr.trans (g2.fr.trans (g3.fr.trans (g4.fr.trans g5.fr))),fun i hi=>by cases hi⟩
set_option maxRecDepth 1000000 in
theorem Xd (n:Nat) (hn:n<=10000000000):aW Tryz.prog 73 [.nil,.int .i64 n] [] (if n=0 then .nil else .row 56 2 0 []) []:=by
 refine ⟨⟨_,rfl,rfl,rfl⟩,Nat.le_refl _,fun lim bs w vs m hvl hm H=>?_⟩;have hbs:bs=[]:=List.eq_nil_of_length_eq_zero (by rw [H.len];rfl);subst hbs;have hvs:vs=[.slice none 0 0,.int .i64 n]:=by have h:=DX hvl H;simp only [AV.Rs,AV.R] at h;obtain ⟨v,r,rfl,rfl,v2,r2,rfl,rfl,rfl⟩:=h;rfl
 subst hvs;refine (Po n w hn).mono ?_;rintro e w' (⟨h0,rfl,rfl⟩|⟨h0,c,cs,rfl,rfl,h1,h2⟩)
 ·rw [if_pos h0];exact ⟨_,lim,[],rfl,aM.res H.top (by rw [AV.R]) rfl (fun g hh=>by cases hh),Fr.refl,fun i hi=>rfl⟩
 ·rw [if_neg oM];have hs:(w.drew.alloc (.cells cs 56)).heap.size=w.heap.size+1:=by simp
  have hfr:Fr m lim w lim (w.drew.alloc (.cells cs 56)):=by have hold:∀b,b<w.heap.size->(w.drew.alloc (.cells cs 56)).heap[b]?=w.heap[b]?:=fun b hb=>heap_alloc_old w.drew _ hb;exact ⟨((Below.refl 0 w).drew).alloc (Nat.zero_le _) _,fun b hb _=>⟨hold b hb,rfl⟩,fun _ _=>Nat.le_refl _,fun b j hb _=>World.cell?_of_block (hold b hb),fun b cur e p h=>⟨cur,(hold b (di h)).trans h,rfl⟩⟩
  refine ⟨_,lim,[],rfl,aM.res (fun b hb=>H.top b oM) (ES (V:=cs) (Nat.zero_mul _).symm rfl (heap_alloc_new w.drew _) (Nat.zero_le _) h2 h1 (H.top _ (Nat.le_refl _)) ⟨[],by rw [AV.Rs],by rw [Nat.zero_mul,List.take_zero]⟩) rfl (fun g _ hg=>?_),hfr,fun i hi=>rfl⟩;have hg':w.heap.size=g:=by simpa [Value.ownBlock] using hg
  exact hm _ oM
end Ab
namespace V
open Ab
open Bk (Cm)
def A7 (ts:List (List Cm)):List AV:=ts.map cs
def oF:List (List Cm)->Nat
 |[]=>0
 |t::ts=>t.length+oF ts
theorem vO:∀(a b:List (List Cm)),oF (a++b)=oF a+oF b
 |[],b=>by rw [List.nil_append,oF,Nat.zero_add]
 |t::a,b=>by rw [List.cons_append,oF,oF,vO a b];omega
theorem QI:∀(ts:List (List Cm)),ts.flatten.length=oF ts
 |[]=>rfl
 |t::ts=>by rw [List.flatten_cons,List.length_append,oF,QI ts]
def c43:aC:=fun args bx K=>match args,bx with
 |[.sl n l],[]=>∃ts:List (List Cm),(n=ts.length∧l=A7 ts)∧(oF ts<=10000000000∧ts.length<=100)∧K (.row 56 2 (oF ts) (fQ ts.flatten)) []
 |_,_=>False
theorem WP.aes {P:Program} {T:jL} {cal:xR} {n0 base:Nat} {σ σ':aJ} {Q:wL->aJ->Prop} (HT:kN P T) (HC:eT P cal) (an:zy) {i:Nat} {ops:Array Oper} {draw:Bool} (h:uU cal T an base i ops draw σ=some σ') (hok:Ok σ->Ok σ') (hQ:Q .normal σ'):WP P n0 base (.region i ops draw) σ Q:=
 WP.mk fun hg hσ=>⟨.normal,σ',fun hn hb H hm hK=>EW HT HC hg hn hb H hm h hK,hok hσ,hQ⟩
def Dw (O:Int->Option (AV×List (List AV))):xR:=fun f args bx=>
 match Nat.beq f 73 with
 |false=>none
 |true=>
  match args,bx with
  |[.nil,.int .i64 m],[]=>O m
  |_,_=>none
theorem Us {O:Int->Option (AV×List (List AV))} (h:∀m r b,O m=some (r,b)->aW Tryz.prog 73 [.nil,.int .i64 m] [] r b):eT Tryz.prog (Dw O):=by
 intro f args bx r b hc;unfold Dw at hc;split at hc
 ·cases hc
 ·rename_i hf;have:=Nat.eq_of_beq_eq_true hf;subst this;split at hc
  ·exact h _ _ _ hc
  ·cases hc
theorem EP {T:jL} {an:zy} {O:Int->Option (AV×List (List AV))} {s:Int} {q:Option (AV×List (List AV))} {ops:Array Oper} {σ σ':aJ} (hO:O s=q) (h1:uU (Dw O) T an 0 9 ops false σ=uU (Dw fun _=>O s) T an 0 9 ops false σ) (h2:uU (Dw fun _=>q) T an 0 9 ops false σ=some σ'):uU (Dw O) T an 0 9 ops false σ=some σ':=by rw [h1,hO,h2]
open Classical in
theorem TQ {s:Int} (h1:0<=s) (h2:s<=10000000000):∃(O:Int->Option (AV×List (List AV))) (r:AV),eT Tryz.prog (Dw O)∧O s=some (r,[])∧(r=.nil∨r=.row 56 2 0 []):=by
 refine ⟨fun m=>if m=s then some (if s.toNat=0 then .nil else .row 56 2 0 [],[]) else none,_,Us fun m r b h=>?_,if_pos rfl,?_⟩
 ·have:=Xd s.toNat oM;rw [Int.toNat_of_nonneg h1] at this;split at h
  ·rename_i e;cases h;rw [e];exact this
  ·cases h
 ·split
  ·exact .inl rfl
  ·exact .inr rfl
theorem JZ {a post:List (List Cm)} {t:List Cm} {n:Nat} (hn:n=a.length):List.drop (n*1) (A7 (a++t::post))=[cs t]++A7 post:=by subst hn;unfold A7;rw [Nat.mul_one,List.map_append,List.drop_left' (by rw [List.length_map])];rfl
theorem Xq {ts:List (List Cm)}:(A7 ts).length=ts.length:=List.length_map _
theorem nS:∀{ts:List (List Cm)},jR (A7 ts)=true
 |[]=>rfl
 |t::ts=>by have:=nS (ts:=ts);rw [A7] at this;rw [A7,List.map_cons,jR,this];rw [show wv (cs t)=true from sM t,show (cs t).pf=true from bE (aA t),show (cs t).flat=true from jv t];rfl
def CC1 (ts:List (List Cm)) (j:Nat) (τ:aJ):Prop:=∃(a r:List (List Cm)) (i s:Int),ts=a++r∧i=a.length∧s=oF a∧j=r.length∧τ=⟨[(11,.int .i64 i),(10,.int .i64 ts.length),(9,.sl ts.length (A7 ts)),(3,.int .i64 s),(0,.sl ts.length (A7 ts))],[]⟩
def CC2 (ts:List (List Cm)) (j:Nat) (τ:aJ):Prop:=∃(a r:List (List Cm)) (i:Int) (n:Nat) (l:List AV),ts=a++r∧i=a.length∧n=oF a∧l=fQ a.flatten∧j=r.length∧τ=⟨[(27,.int .i64 i),(26,.int .i64 ts.length),(25,.sl ts.length (A7 ts)),(6,.row 56 2 n l)],[]⟩
theorem amv {y z:AV} {i:Int}:Ok ⟨[(27,.int .i64 i),(26,y),(25,z),(6,.row 56 2 0 [])],[]⟩->Rx 0 ⟨[(27,.int .i64 i),(26,y),(25,z),(6,.nil)],[]⟩ ⟨[(27,.int .i64 i),(26,y),(25,z),(6,.row 56 2 0 [])],[]⟩:=fun h=>
 Rx.wv .nil (.cons .refl (.cons .refl (.cons .refl (.cons .mo .nil)))) h
def alY:=fN 43 Tryz.f43 36 [.tmp 2]
theorem Od:∀{a b:List (List Cm)},A7 a=A7 b->a=b
 |[],[],_=>rfl
 |[],c::b,h=>by cases h
 |c::a,[],h=>by cases h
 |c::a,d::b,h=>by unfold A7 at h;rw [List.map_cons,List.map_cons,List.cons.injEq] at h;rw [Od (a:=a) (b:=b) h.2];have:=h.1;unfold cs at this;rw [AV.sl.injEq] at this;rw [uq this.2]
theorem Zr {ts a:List (List Cm)} {n:Nat} {l:List AV} {K:AV->List (List AV)->Prop} (hk:ts=a++[]) (hn:n=oF a) (hl:l=fQ a.flatten) (h:c43 [.sl ts.length (A7 ts)] [] K):K (.row 56 2 n l) []:=by rw [List.append_nil] at hk;subst hk hn hl;unfold c43 at h;obtain ⟨ts',⟨-,e⟩,-,h⟩:=h;obtain rfl:=Od e;exact h
theorem ajU.xt {p:Prop} (g:p:=by ((first|exact Q7|exact Q8|exact Q6|(exact rfl)|exact Yu|(exact ag.mk (by rw [hl];exact aA _) rfl fun K hK=>Zr hk hn hl hK)|fail);(repeat' (first|exact bN|fail));first|done|fail)):p:=g
theorem ajT.xt {p:Prop} (g:p:=by ((first|exact Q7|exact Q8|exact Q6|(exact rfl)|exact Yu|(exact ag.mk (by rw [hl];exact aA _) rfl fun K hK=>Zr hk hn hl hK)|fail);(repeat' (first|exact bN|fail));first|done|fail)):p:=g
theorem ajS.xt {p:Prop} (g:p:=by ((first|exact Q7|exact Q8|exact Q6|((with_reducible refine (?_:∃(j:Nat) (τ':aJ),j<_∧Rx 0 _ τ'∧_));(refine ⟨post.length,_,?_,Rx.refl,a++[c0],post,i+1,s+c0.length,by rw [hk];simp,by rw [hi,List.length_append];rfl,by rw [hs,vO,oF,oF];omega,rfl,rfl⟩);(try simp only [List.length_cons]);omega)|fail);(repeat' (first|exact bN|fail));first|done|fail)):p:=g
theorem V5:aC.OK Tryz.prog 43 c43:=by
 intro args bx K0 h;unfold c43 at h;split at h
 ·rename_i n l;obtain ⟨ts,⟨rfl,rfl⟩,⟨h1,h2⟩,-⟩:=h;refine alY.okW (base:=0) rfl (by rw [gZ,gZ,wv,nS];rfl) rfl ?_;have B:=V.base af.nil
  conv=>whnf
  repeat' (first
  |with_reducible refine WP.seq ?_
  |(with_reducible first|refine Go.mk ?_|refine WP.oC B (aH 43) ?_|refine WP.draw B (aH 43) ?_|refine WP.cond ?_|refine WP.exit ?_|refine WP.skip ?_|refine WP.ret ?_);conv=>whnf
  |with_reducible refine WP.block ?_
  |with_reducible assumption
  |with_reducible refine And.intro ?_ ?_
  |exact cL
  |(with_reducible intro h);first|(cases h;done)|(try simp only [lG,reduceCtorEq] at h);first|done|(exfalso;omega)|replace h:=h trivial aZ|replace h:=h aZ|skip
  |fail)
  refine WP.loop (CC1 ts) ⟨[],ts,0,0,rfl,rfl,rfl,rfl,rfl⟩ ?_;rintro j τ ⟨a,r,i,s,hk,hi,hs,rfl,rfl⟩
  (have e1:=congrArg List.length hk;rw [List.length_append] at e1;have e2:=congrArg oF hk;rw [vO] at e2;rcases r with _|⟨c0,post⟩;all_goals (first|(rw [List.length_cons] at e1;rw [oF] at e2)|(rw [List.length_nil] at e1;rw [oF] at e2)))
  all_goals skip
  ·subst hs;obtain ⟨O,r,HC,hO,hr⟩:=TQ (s:=oF a) oM oM;have hlp:jR (A7 ts)=true:=nS;have okw:∀{v:AV} {tm:Tm},wv v=true->tm=[(6,v),(0,.sl ts.length (A7 ts))]->Ok ⟨tm,[]⟩:=fun {v tm} hv e=>by subst e;exact ⟨by rw [ni,ni,ni,hv,show wv (.sl ts.length (A7 ts))=true from hlp];rfl,rfl⟩
   rcases hr with rfl|rfl
   ·
    repeat' (first
    |((with_reducible refine (?_:WP _ _ _ (.region 9 _ _) _ _));refine WP.aes B.tok HC (aH 43) (σ':=⟨[(6,.nil),(0,.sl ts.length (A7 ts))],[]⟩) ?_ ?_ ?_;(focus (refine EP hO ?_ ?_<;>kernel_rfl));(focus (exact fun _=>okw rfl rfl));(conv=>whnf))
    |with_reducible refine WP.seq ?_
    |(with_reducible first|refine Go.mk ?_|refine WP.oC B (aH 43) ?_|refine WP.draw B (aH 43) ?_|refine WP.cond ?_|refine WP.exit ?_|refine WP.skip ?_|refine WP.ret ?_);conv=>whnf
    |with_reducible refine WP.block ?_
    |with_reducible assumption
    |with_reducible refine And.intro ?_ ?_
    |exact cL
    |(with_reducible intro h);first|(cases h;done)|(try simp only [lG,reduceCtorEq] at h);first|done|(exfalso;omega)|replace h:=h trivial aZ|replace h:=h aZ|skip
    |fail)
    refine WP.jB (amv ⟨by rw [ni,ni,ni,ni,ni,show wv (.sl ts.length (A7 ts))=true from hlp];rfl,rfl⟩) ?_;refine WP.loop (CC2 ts) ⟨[],ts,0,0,[],rfl,rfl,rfl,rfl,rfl,rfl⟩ ?_;clear hk hi e1 e2 h;rintro j τ ⟨a',r,i',n',l',hk,hi,hn,hl,rfl,rfl⟩
    (have e1:=congrArg List.length hk;rw [List.length_append] at e1;have e2:=congrArg oF hk;rw [vO] at e2;rcases r with _|⟨c0,post⟩;all_goals (first|(rw [List.length_cons] at e1;rw [oF] at e2)|(rw [List.length_nil] at e1;rw [oF] at e2)))
    all_goals skip
    all_goals (let zA:=(aH 43);open ajU in exact bN)
   ·
    repeat' (first
    |((with_reducible refine (?_:WP _ _ _ (.region 9 _ _) _ _));refine WP.aes B.tok HC (aH 43) (σ':=⟨[(6,.row 56 2 0 []),(0,.sl ts.length (A7 ts))],[]⟩) ?_ ?_ ?_;(focus (refine EP hO ?_ ?_<;>kernel_rfl));(focus (exact fun _=>okw rfl rfl));(conv=>whnf))
    |with_reducible refine WP.seq ?_
    |(with_reducible first|refine Go.mk ?_|refine WP.oC B (aH 43) ?_|refine WP.draw B (aH 43) ?_|refine WP.cond ?_|refine WP.exit ?_|refine WP.skip ?_|refine WP.ret ?_);conv=>whnf
    |with_reducible refine WP.block ?_
    |with_reducible assumption
    |with_reducible refine And.intro ?_ ?_
    |exact cL
    |(with_reducible intro h);first|(cases h;done)|(try simp only [lG,reduceCtorEq] at h);first|done|(exfalso;omega)|replace h:=h trivial aZ|replace h:=h aZ|skip
    |fail)
    refine WP.loop (CC2 ts) ⟨[],ts,0,0,[],rfl,rfl,rfl,rfl,rfl,rfl⟩ ?_;clear hk hi e1 e2 h;rintro j τ ⟨a',r,i',n',l',hk,hi,hn,hl,rfl,rfl⟩
    (have e1:=congrArg List.length hk;rw [List.length_append] at e1;have e2:=congrArg oF hk;rw [vO] at e2;rcases r with _|⟨c0,post⟩;all_goals (first|(rw [List.length_cons] at e1;rw [oF] at e2)|(rw [List.length_nil] at e1;rw [oF] at e2)))
    all_goals skip
    all_goals (let zA:=(aH 43);open ajT in exact bN)
  ·
   let zA:=(aH 43)
   open ajS in exact bN
 ·exact h.elim
def ai9:aC:=fun args bx K=>match args with
 |[.ptr s 0,.ptr b o]=>∃(blk:Bool) (GV:List Cm) (pre:List AV) (k y p bb:Int) (an tg tx:ByteArray) (kc:AV) (lead:List Cm) (fc:AV) (h:Bool) (tr:ByteArray) (post:List AV),(aV bx=true∧jl bx.length bx∧s≠b∧bx[s]?=some [.bool blk,cs GV]∧wZ bx b o pre ⟨k,y,p,bb,an,tg,tx,kc,cs lead,fc,h,tr⟩ post∧GV.length+lead.length<=10000000000)∧
   ∀bx':List (List AV),bx'.length=bx.length->jl bx.length bx'->bx'[s]?=some [.bool blk,cs []]->wZ bx' b o pre ⟨k,y,p,bb,an,tg,tx,kc,cr (GV++lead),fc,h,tr⟩ post->(∀j,j≠s->j≠b->bx'[j]?=bx[j]?)->K (.bX []) bx'
 |_=>False
theorem GU (a b:List Cm):AV.row 56 2 (oF [a,b]) (fQ [a,b].flatten)=cr (a++b):=by simp only [oF,List.flatten_cons,List.flatten_nil,List.append_nil,Nat.add_zero,cr,List.length_append]
theorem T9 (a b c:List Cm):AV.row 56 2 (oF [a,b,c]) (fQ [a,b,c].flatten)=cr (a++b++c):=by simp only [oF,List.flatten_cons,List.flatten_nil,List.append_nil,Nat.add_zero,cr,List.length_append,List.append_assoc,Nat.add_assoc]
def aib:=fN 100 Tryz.f100 20 []
theorem Si:aC.OK Tryz.prog 100 ai9:=by
 intro args bx K0 h;unfold ai9 at h;split at h
 ·rename_i s b o;obtain ⟨blk,GV,pre,k,y,p,bb,an,tg,tx,kc,lead,fc,hh,tr,post,⟨hw,hcl,hsb,hs,hx,hn⟩,-⟩:=h;have hb:bx[b]?=some (pre++(.int .i64 k::.int .i64 y::.int .i64 p::.int .i64 bb::.str an::.str tg::.str tx::kc::cs lead::fc::.bool hh::.str tr::post)):=hx.1;have ho:=hx.2;have hs0:=hs;have hb0:=hb;have hn2:oF [GV,lead]<=10000000000:=by simp only [oF];omega
  refine aib.U8 rfl hw ?_;have B:=V.base (af.cons V5 af.nil);have zE:Ev _ _ _ (aH 100) [] []:=⟨B⟩
  conv=>whnf
  repeat' (first
  |((with_reducible refine (?_:∃c:List AV,_∧_));refine ⟨_,(by first|exact hb|exact hs),?_⟩;(conv=>whnf))
  |refine nX ?_;conv=>whnf
  |(with_reducible refine (?_:wv _=true->aV _=true->_));intro hwr hwb
  |(with_reducible refine (?_:aV _=true->_));intro hw;conv=>whnf
  |with_reducible assumption
  |((with_reducible refine (?_:∃ts:List (List Cm),_∧_));refine ⟨[GV,lead],⟨rfl,rfl⟩,⟨hn2,by simp⟩,?_⟩;(conv=>whnf))
  |(exact bE (nS (ts:=[GV,lead])))
  |((with_reducible refine gQ.mk (i:=s) ?_);intro b2 hl2 hs2 hr2;(conv=>whnf))
  |((with_reducible refine gQ.mk (i:=b) ?_);intro b1 hl1 hb1 hr1;replace hs:=(hr1 s hsb).trans hs;clear hb;(conv=>whnf))
  |(first|with_reducible refine aX ho ?_|with_reducible refine aQ ho ?_|with_reducible refine aD ho ?_|with_reducible refine ay ho ?_|with_reducible refine az ?_);conv=>whnf
  |with_reducible refine And.intro ?_ ?_
  |exact cL
  |(with_reducible intro h);first|(cases h;done)|(try simp only [lG,reduceCtorEq] at h);first|done|(exfalso;omega)|replace h:=h trivial aZ|replace h:=h aZ|skip
  |fail)
  replace hl1:b1.length=bx.length:=hl1;replace hl2:b2.length=b1.length:=hl2;replace hr1:∀j,j≠b->b1[j]?=bx[j]?:=hr1;replace hr2:∀j,j≠s->b2[j]?=b1[j]?:=hr2;replace hs2:b2[s]?=some ([.bool blk]++ .nil::[]):=hs2;replace hb1:b1[b]?=some (pre++(.int .i64 k::.int .i64 y::.int .i64 p::.int .i64 bb::.str an::.str tg::.str tx::kc::.row 56 2 (oF [GV,lead]) (fQ [GV,lead].flatten)::fc::.bool hh::.str tr::post)):=hb1;rw [GU] at hb1;refine ag.cell hwb (x:=.nil) (y:=cs []) hs2 Wk.sK (vD []) fun b3 hw3 hl3 hs3 hr3=>?_;replace hl3:b3.length=b2.length:=hl3;replace hr3:∀j,j≠s->b3[j]?=b2[j]?:=hr3;refine ag.mk hwr hw3 fun K hK=>?_;obtain ⟨ab8,anP,pre',k',y',p',bb',PX,OV,OQ,SQ,mD,fc',h',EF,post',⟨-,-,-,hs',hx',-⟩,hK⟩:=hK;obtain ⟨rfl,e,rfl⟩:=hx.inj hx';simp only [Ce.mk.injEq] at e;obtain ⟨rfl,rfl,rfl,rfl,rfl,rfl,rfl,rfl,e,rfl,rfl,rfl⟩:=e;obtain rfl:=oK e;rw [hs0,Option.some.injEq,List.cons.injEq,List.cons.injEq,AV.bool.injEq] at hs';obtain ⟨rfl,e2,-⟩:=hs';obtain rfl:=oK e2;have hbl:=(List.getElem?_eq_some_iff.1 hb0).1;have hb3:=((hr3 b (Ne.symm hsb)).trans (hr2 b (Ne.symm hsb))).trans hb1;have zX:jl bx.length b1:=hcl.KR (q:=b) (fun j _ hne=>hr1 j hne) hb0 hb1 (fun i hi=>by
   rw [dA] at hi⊢;simpa only [AV.aN,AV.ids,dM,kS,List.nil_append,List.append_nil] using hi)
  refine hK b3 oM (zX.KR (q:=s) (fun j _ hne=>(hr3 j hne).trans (hr2 j hne)) hs hs3 (fun i hi=>?_)) hs3 ⟨hb3,ho⟩ (fun j h1 h2=>(hr3 j h1).trans ((hr2 j h1).trans (hr1 j h2)));simp only [List.cons_append,List.nil_append,AV.aN,AV.ids,dM,List.append_nil,List.not_mem_nil] at hi
 ·exact h.elim
theorem IU (blk:Bool) (pre c:List Cm) (x:Nd):aL blk pre c x=aL blk [] c (x.ld (pre++x.lead)):=by
 obtain ⟨k,y,p,b,an,tg,tx,kids,lead,ae,h,tr⟩:=x;cases kids with
 |nil=>simp only [Nd.ld,Nd.lead,aL,List.nil_append,List.append_assoc]
 |cons x l=>simp only [Nd.ld,Nd.lead,aL,List.nil_append,List.append_assoc]
def Om (m:Nat):aC:=fun args bx K=>match args with
 |[.ptr s 0,.ptr b o]=>∃(blk:Bool) (c:List Cm) (pre:List AV) (k y p bb:Int) (an tg tx:ByteArray) (kc:AV) (lead ae:List Cm) (h:Bool) (tr:ByteArray) (post:List AV) (kids:List Nd) (I:List Nat),(aV bx=true∧jl bx.length bx∧bx[s]?=some [.bool blk,cs c]∧wZ bx b o pre ⟨k,y,p,bb,an,tg,tx,kc,cr lead,cs ae,h,tr⟩ post∧eQ bx kids kc I∧(s::b::I).Nodup∧(yX (.mk k y p bb an tg tx kids lead ae h tr)=true∧Bh (.mk k y p bb an tg tx kids lead ae h tr)=true)∧fD (.mk k y p bb an tg tx kids lead ae h tr)<=m∧c.length+iI (.mk k y p bb an tg tx kids lead ae h tr)<=9000000000∧fD (.mk k y p bb an tg tx kids lead ae h tr)<=9000000000)∧
   ∀bx':List (List AV),bx'.length=bx.length->jl bx.length bx'->bx'[s]?=some [.bool blk,cs (aL blk [] c (.mk k y p bb an tg tx kids lead ae h tr)).2]->wZ bx' b o pre ((aL blk [] c (.mk k y p bb an tg tx kids lead ae h tr)).1.ce kc) post->eQ bx' (aL blk [] c (.mk k y p bb an tg tx kids lead ae h tr)).1.kids kc I->(∀j,j≠s->j≠b->j ∉ I->bx'[j]?=bx[j]?)->K (.bX []) bx'
 |_=>False
def G6 (m:Nat):aC:=fun args bx K=>match args with
 |[.ptr s 0,.ptr q ok,.ptr q' ov]=>∃(blk:Bool) (c:List Cm) (pre:List AV) (x1 x2:Nd) (uN zT:AV) (post:List AV) (I1 I2:List Nat),(aV bx=true∧jl bx.length bx∧bx[s]?=some [.bool blk,cs c]∧q=q'∧bx[q]?=some (pre++((x1.ce uN).l++((x2.ce zT).l++post)))∧pre.length=ok∧ov=ok+12∧eQ bx x1.kids uN I1∧eQ bx x2.kids zT I2∧(s::q::(I1++I2)).Nodup∧(yX x2=true∧Bh x1=true∧Bh x2=true)∧fD x1+fD x2<=m∧c.length+iI x1+iI x2<=9000000000∧fD x1+fD x2<=9000000000)∧
   ∀bx':List (List AV),bx'.length=bx.length->jl bx.length bx'->bx'[s]?=some [.bool blk,cs (gY (aL blk (aj x1).2 [] x2).1 (aL blk (aj x1).2 [] x2).2).2]->bx'[q]?=some (pre++((((aj x1).1.ld (c++x1.lead)).ce uN).l++(((gY (aL blk (aj x1).2 [] x2).1 (aL blk (aj x1).2 [] x2).2).1.ce zT).l++post)))->eQ bx' (aj x1).1.kids uN I1->eQ bx' (gY (aL blk (aj x1).2 [] x2).1 (aL blk (aj x1).2 [] x2).2).1.kids zT I2->(∀j,j≠s->j≠q->j ∉ I1->j ∉ I2->bx'[j]?=bx[j]?)->K (.bX []) bx'
 |_=>False
theorem Uo {x x':Nd} {kc SQ:AV} (h:x.ce kc=x'.ce SQ):kc=SQ∧(x.kids=x'.kids->x=x'):=by obtain ⟨k,y,p,b,an,tg,tx,kids,lead,ae,h,tr⟩:=x;obtain ⟨k',y',p',b',PX,OV,OQ,jC,mD,qA,h',EF⟩:=x';simp only [Nd.ce,Ce.mk.injEq] at h;obtain ⟨rfl,rfl,rfl,rfl,rfl,rfl,rfl,rfl,e1,e2,rfl,rfl⟩:=h;obtain rfl:=oK e1;obtain rfl:=oK e2;exact ⟨rfl,fun e=>by simp only [Nd.kids] at e;rw [e]⟩
theorem zF {blk:Bool} {pre c:List Cm} {k y p b:Int} {an tg tx:ByteArray} {kids:List Nd} {lead ae:List Cm} {h:Bool} {tr:ByteArray} (hk:¬(k=3∨k=4)):aL blk pre c (.mk k y p b an tg tx kids lead ae h tr)=(.mk k y p b an tg tx kids (pre++lead) ae h tr,c):=by
 cases kids with
 |nil=>rw [aL,if_neg hk]
 |cons x l=>rw [aL,if_neg hk]
theorem Sm {blk:Bool} {c:List Cm} {k y p b:Int} {an tg tx:ByteArray} {kids:List Nd} {lead ae:List Cm} {h:Bool} {tr:ByteArray} (hh:¬((k=1∧y=1∧tx=ByteArray.empty)∧0<lead.length)):gY (aL blk [] c (.mk k y p b an tg tx kids lead ae h tr)).1 (aL blk [] c (.mk k y p b an tg tx kids lead ae h tr)).2=aL blk [] c (.mk k y p b an tg tx kids lead ae h tr):=by
 by_cases hk:k=3∨k=4
 ·have hv:∀z:Nd,z.k=k->oU z=false:=by intro z hz;unfold oU;rw [decide_eq_false_iff_not,hz];rintro ⟨e,-⟩;omega
  have hk2:(aL blk [] c (.mk k y p b an tg tx kids lead ae h tr)).1.k=k:=by
   cases kids with
   |nil=>rw [aL,if_pos hk];rfl
   |cons x l=>
    rw [aL,if_pos hk];simp only [mK];split
    ·rfl
    ·split<;>rfl
  unfold gY;rw [hv _ hk2]
 ·rw [zF hk];simp only [List.nil_append];unfold gY;split
  ·rename_i m l h1 h2;exfalso;have h1':decide (k=1∧y=1∧tx=ByteArray.empty)=true:=h1;have h2':lead=m::l:=h2;exact hh ⟨of_decide_eq_true h1',by rw [h2'];simp⟩
  ·rfl
theorem Sk {blk:Bool} {k y p b:Int} {an tg tx:ByteArray} {kids:List Nd} {lead ae:List Cm} {h:Bool} {tr:ByteArray} (hv:k=1∧y=1∧tx=ByteArray.empty) (hl:0<lead.length):gY (aL blk [] [] (.mk k y p b an tg tx kids lead ae h tr)).1 (aL blk [] [] (.mk k y p b an tg tx kids lead ae h tr)).2=(.mk k y p b an tg tx kids [] ae false ByteArray.empty,lead++kg h tr):=by
 have hk:¬(k=3∨k=4):=oM;rw [zF hk];simp only [List.nil_append];unfold gY;have h1:oU (.mk k y p b an tg tx kids lead ae h tr)=true:=by exact decide_eq_true hv
 rw [h1];simp only [Nd.lead];cases lead with
 |nil=>simp at hl
 |cons m l=>rfl
theorem jW {A l:List AV} {a j:Nat} (h:A.length=a):(A++l).drop (a+j)=l.drop j:=by subst h;rw [List.drop_append];simp
def aia:=fN 101 Tryz.f101 47 []
theorem af9 (m:Nat) (Zg:aC.OK Tryz.prog 42 (Om m)):aC.OK Tryz.prog 101 (G6 (m+1)):=by
 intro args bx K0 h;unfold G6 at h;split at h
 ·rename_i s q ok q' ov;obtain ⟨blk,c,pre,x1,x2,uN,zT,post,I1,I2,⟨hw,hcl,hs,rfl,hq,ho,rfl,hk1,hk2,hnd,⟨hev,ht1,ht2⟩,hm,hn,hz⟩,-⟩:=h;obtain ⟨k1,y1,p1,bb1,ed,dZ,dY,aF,aG,aI,h1,dU⟩:=x1;obtain ⟨k2,y2,p2,bb2,iO,iK,iJ,bI,bV,bq,h2,iF⟩:=x2;have hs0:=hs;have hq0:=hq;rw [List.nodup_cons,List.nodup_cons] at hnd;obtain ⟨LQ,Tc,agM⟩:=hnd;have zu:s≠q:=fun e=>LQ (by rw [e];exact List.mem_cons_self);have Wz:s ∉ I1:=fun e=>LQ (List.mem_cons_of_mem _ (List.mem_append_left _ e));have abm:s ∉ I2:=fun e=>LQ (List.mem_cons_of_mem _ (List.mem_append_right _ e));have Pe:q ∉ I1:=fun e=>Tc (List.mem_append_left _ e);have WG:q ∉ I2:=fun e=>Tc (List.mem_append_right _ e);rw [List.nodup_append] at agM;obtain ⟨hn1,hn2,AX⟩:=agM;have Gz:=(List.getElem?_eq_some_iff.1 hq).1;have hsl:=(List.getElem?_eq_some_iff.1 hs).1;rw [fD,fD] at hm hz;rw [iI,iI] at hn;have hcs1:=kE aF;have apk:=QM h1 dU;refine aia.U8 rfl hw ?_;have B:=V.base (af.cons Zg (af.cons (af1 (bS aF+1)) (af.cons Si (af.cons af0 (af.cons aaL (af.cons V5 af.nil))))));have zE:Ev _ _ _ (aH 101) [100,118,42] [117,72]:=⟨B⟩
  conv=>whnf
  have apv:=hev;have htt:(h1||decide (dU=ByteArray.empty))=true∧zD aF=true:=by rw [Bh] at ht1;simpa only [Bool.and_eq_true] using ht1
  have hI1:=hk1.lt;have hI2:=hk2.lt
  repeat' (first
  |((with_reducible refine (?_:∃c:List AV,_∧_));refine ⟨_,(by first|exact hq|exact hs),?_⟩;(conv=>whnf))
  |((with_reducible refine (?_:_∧jl _ _∧_));refine aR.get ?_)
  |((with_reducible refine (?_:∃(blk:Bool),_));refine aR.get ?_)
  |refine nX ?_;conv=>whnf
  |(with_reducible refine (?_:wv _=true->aV _=true->_));intro hwr hwb
  |(with_reducible refine (?_:aV _=true->_));intro hw;conv=>whnf
  |with_reducible assumption
  |(first|with_reducible refine aX ho ?_|with_reducible refine aQ ho ?_|with_reducible refine aD ho ?_|with_reducible refine ay ho ?_|with_reducible refine az ?_);conv=>whnf
  |with_reducible refine And.intro ?_ ?_
  |exact cL
  |(with_reducible intro h);first|(cases h;done)|(try simp only [lG,reduceCtorEq] at h);first|done|(exfalso;omega)|replace h:=h trivial aZ|replace h:=h aZ|skip
  |fail)
  refine aR.mk ⟨blk,c,pre,k1,y1,p1,bb1,ed,dZ,dY,uN,aG,cs aI,h1,dU,_,⟨hw,hcl,zu,hs,⟨hq,ho⟩,oM⟩,?_⟩;clear hs hq;intro ba hla WU hsa hxa hra;replace hla:ba.length=bx.length:=hla;replace hra:∀j,j≠s->j≠q->ba[j]?=bx[j]?:=hra;replace WU:jl bx.length ba:=WU
  conv=>whnf
  repeat' (first
  |((with_reducible refine (?_:∃c:List AV,_∧_));refine ⟨_,(by first|exact hq|exact hs),?_⟩;(conv=>whnf))
  |((with_reducible refine (?_:_∧jl _ _∧_));refine aR.get ?_)
  |((with_reducible refine (?_:∃(blk:Bool),_));refine aR.get ?_)
  |refine nX ?_;conv=>whnf
  |(with_reducible refine (?_:wv _=true->aV _=true->_));intro hwr hwb
  |(with_reducible refine (?_:aV _=true->_));intro hw;conv=>whnf
  |with_reducible assumption
  |(first|with_reducible refine aX ho ?_|with_reducible refine aQ ho ?_|with_reducible refine aD ho ?_|with_reducible refine ay ho ?_|with_reducible refine az ?_);conv=>whnf
  |with_reducible refine And.intro ?_ ?_
  |exact cL
  |(with_reducible intro h);first|(cases h;done)|(try simp only [lG,reduceCtorEq] at h);first|done|(exfalso;omega)|replace h:=h trivial aZ|replace h:=h aZ|skip
  |fail)
  refine aR.mk ⟨by show bx.length<=ba.length;omega,WU,?_⟩
  conv=>whnf
  refine ⟨wR.ptr Gz,?_⟩;intro b0 hl0 hr0 hw0;replace hr0:∀j,j<bx.length->b0[j]?=ba[j]?:=hr0;replace hl0:b0.length=bx.length:=hl0
  conv=>whnf
  refine ⟨pre,k1,y1,p1,bb1,ed,dZ,dY,uN,cr (c++aG),aI,h1,dU,_,aF,I1,⟨hw0,by rw [hl0];exact WU.same hr0,⟨(hr0 q Gz).trans hxa.1,ho⟩,hk1.fr (fun i hi=>?_),List.nodup_cons.2 ⟨Pe,hn1⟩,⟨htt.2,htt.1⟩,Nat.le_refl _,oM,oM⟩,?_⟩
  ·exact (hr0 i (hI1 i hi)).trans (hra i (fun e=>Wz (e▸hi)) (fun e=>Pe (e▸hi)))
  intro b5 hl5 mX hx5 hk5 AU;refine ⟨hl5.trans hl0,?_⟩;intro b6 NS xD Y5;replace NS:b6.length=ba.length:=NS;replace xD:∀j,j<bx.length->b6[j]?=b5[j]?:=xD;have hs:=(xD s hsl).trans ((AU s zu Wz).trans ((hr0 s hsl).trans hsa));have hx6:=(xD q Gz).trans hx5.1;rw [←List.append_assoc] at hx6;have hq:=hx6;have hok:=ho;have ho:(pre++(Ce.mk k1 y1 p1 bb1 ed dZ dY uN (cr (c++aG)) (cs []) false ByteArray.empty).l).length=ok+12:=by rw [List.length_append,Un,hok]
  have hoa:(pre++(Ce.mk k1 y1 p1 bb1 ed dZ dY uN (cr (c++aG)) (cs aI) h1 dU).l).length=ok+12:=by rw [List.length_append,Un,hok]
  have agt:=hxa.1;rw [←List.append_assoc] at agt;have Ph:jl bx.length b6:=by rw [hl0] at mX;exact mX.same xD
  have hn43:oF [(aP aF).2++aI++kg h1 dU,bV]<=10000000000:=by simp only [oF,List.length_append];omega
  conv=>whnf
  repeat' (first
  |((with_reducible refine (?_:∃c:List AV,_∧_));refine ⟨_,(by first|exact hq|exact hs),?_⟩;(conv=>whnf))
  |((with_reducible refine (?_:_∧jl _ _∧_));refine aR.get ?_)
  |((with_reducible refine (?_:∃(blk:Bool),_));refine aR.get ?_)
  |((with_reducible refine (?_:∃(pre:List AV),_));refine aR.get ?_)
  |refine nX ?_;conv=>whnf
  |(with_reducible refine (?_:wv _=true->aV _=true->_));intro hwr hwb
  |(with_reducible refine (?_:aV _=true->_));intro hw;conv=>whnf
  |with_reducible assumption
  |((with_reducible refine (?_:∃ts:List (List Cm),_∧_));refine ⟨[(aP aF).2++aI++kg h1 dU,bV],⟨rfl,rfl⟩,⟨hn43,by simp⟩,?_⟩;(conv=>whnf))
  |(exact bE (nS (ts:=[(aP aF).2++aI++kg h1 dU,bV])))
  |((with_reducible refine (?_:l6 _ _ _ _));refine l6.ld Gz agt hx6 (by simp only [List.length_append];rfl) ?_;rw [jW ho,jW hoa])
  |((with_reducible refine gQ.mk (i:=q) ?_);intro b8 Y6 hq yM;have hs:=(yM s zu).trans hs;(conv=>whnf))
  |(first|with_reducible refine aX ho ?_|with_reducible refine aQ ho ?_|with_reducible refine aD ho ?_|with_reducible refine ay ho ?_|with_reducible refine az ?_);conv=>whnf
  |with_reducible refine And.intro ?_ ?_
  |exact cL
  |(with_reducible intro h);first|(cases h;done)|(try simp only [lG,reduceCtorEq] at h);first|done|(exfalso;omega)|replace h:=h trivial aZ|replace h:=h aZ|skip
  |fail)
  replace Y6:b8.length=b6.length:=Y6;replace yM:∀j,j≠q->b8[j]?=b6[j]?:=yM;replace hq:b8[q]?=some ((pre++(Ce.mk k1 y1 p1 bb1 ed dZ dY uN (cr (c++aG)) (cs []) false ByteArray.empty).l)++((Ce.mk k2 y2 p2 bb2 iO iK iJ zT (.row 56 2 (oF [(aP aF).2++aI++kg h1 dU,bV]) (fQ [(aP aF).2++aI++kg h1 dU,bV].flatten)) (cs bq) h2 iF).l++post)):=hq;rw [GU] at hq;generalize hLL:(aP aF).2++aI++kg h1 dU++bV=LL at hq;have Tx:jl bx.length b8:=Ph.KR (q:=q) (fun j _ hne=>yM j hne) hx6 hq (fun i hi=>by
   rw [dA] at hi⊢;simpa only [Nd.ce,Ce.l,dA,AV.aN,AV.ids,dM,kS,List.cons_append,List.nil_append,List.append_nil] using hi)
  refine aR.mk ⟨_,_,post,⟨hw,hq,ho⟩,?_⟩;have hall:∀j,j≠s->j≠q->j ∉ I1->j<bx.length->b8[j]?=bx[j]?:=fun j g1 g2 g3 g4=>(yM j g2).trans ((xD j g4).trans ((AU j g2 g3).trans ((hr0 j g4).trans (hra j g1 g2))));have Tj:eQ b8 (aP aF).1 uN I1:=hk5.fr fun i hi=>(yM i (fun e=>Pe (e▸hi))).trans (xD i (hI1 i hi));have abr:eQ b8 bI zT I2:=hk2.fr fun i hi=>hall i (fun e=>abm (e▸hi)) (fun e=>WG (e▸hi)) (fun e=>AX i e i hi rfl) (hI2 i hi);have hqk:∀{b:List (List AV)} {z:List AV} {K:AV->List (List AV)->Prop},G6 (m+1) [.ptr s 0,.ptr q ok,.ptr q (ok+12)] bx K->b.length=bx.length->aV b=true->jl bx.length b->b[s]?=some [.bool blk,cs (gY (aL blk [] [] (.mk k2 y2 p2 bb2 iO iK iJ bI LL bq h2 iF)).1 (aL blk [] [] (.mk k2 y2 p2 bb2 iO iK iJ bI LL bq h2 iF)).2).2]->b[q]?=some (pre++((Ce.mk k1 y1 p1 bb1 ed dZ dY uN (cs (c++aG)) (cs []) false ByteArray.empty).l++(((gY (aL blk [] [] (.mk k2 y2 p2 bb2 iO iK iJ bI LL bq h2 iF)).1 (aL blk [] [] (.mk k2 y2 p2 bb2 iO iK iJ bI LL bq h2 iF)).2).1.ce zT).l++post)))->eQ b (aP aF).1 uN I1->eQ b (gY (aL blk [] [] (.mk k2 y2 p2 bb2 iO iK iJ bI LL bq h2 iF)).1 (aL blk [] [] (.mk k2 y2 p2 bb2 iO iK iJ bI LL bq h2 iF)).2).1.kids zT I2->(∀j,j≠s->j≠q->j ∉ I1->j ∉ I2->b[j]?=bx[j]?)->K (.bX []) b:=by
   intro b z K hK d1 d2 d3 d4 d5 d6 d7 d8;obtain ⟨ab8,c',pre',x1',x2',apf,ape,post',I1',I2',⟨-,-,hs',-,hq',ho',-,akZ,akY,-⟩,hK⟩:=hK;rw [hs0,Option.some.injEq,List.cons.injEq,List.cons.injEq,AV.bool.injEq] at hs';obtain ⟨rfl,e2,-⟩:=hs';obtain rfl:=oK e2;rw [hq0,Option.some.injEq] at hq';obtain ⟨rfl,e3⟩:=List.append_inj hq' (by rw [hok,ho']);obtain ⟨e4,e5⟩:=List.append_inj e3 rfl;obtain ⟨e6,rfl⟩:=List.append_inj e5 rfl;obtain ⟨rfl,e7⟩:=Uo (Ce.inj e4);obtain ⟨rfl,e8⟩:=Uo (Ce.inj e6);obtain ⟨e9,rfl⟩:=eQ.inj hk1 akZ;obtain ⟨e10,rfl⟩:=eQ.inj hk2 akY;obtain rfl:=e7 e9;obtain rfl:=e8 e10;have hset:aL blk (aj (.mk k1 y1 p1 bb1 ed dZ dY aF aG aI h1 dU)).2 [] (.mk k2 y2 p2 bb2 iO iK iJ bI bV bq h2 iF)=aL blk [] [] (.mk k2 y2 p2 bb2 iO iK iJ bI LL bq h2 iF):=by rw [IU,aj,←hLL];rfl
   rw [hset] at hK;refine hK b d1 d3 d4 ?_ ?_ d7 d8
   ·rw [d5,aj];rfl
   ·rw [aj];exact d6
  have hLn:LL.length=(aP aF).2.length+aI.length+(kg h1 dU).length+bV.length:=by rw [←hLL];simp only [List.length_append]
  have agX:yX (.mk k2 y2 p2 bb2 iO iK iJ bI LL bq h2 iF)=true:=by rw [yX] at hev⊢;exact hev
  have agB:Bh (.mk k2 y2 p2 bb2 iO iK iJ bI LL bq h2 iF)=true:=by rw [Bh] at ht2⊢;exact ht2
  have Tc:(s::q::I2).Nodup:=List.nodup_cons.2 ⟨fun e=>by
   rcases List.mem_cons.1 e with e|e
   ·exact zu e
   ·exact abm e,List.nodup_cons.2 ⟨WG,hn2⟩⟩
  have ag4:fD (.mk k2 y2 p2 bb2 iO iK iJ bI LL bq h2 iF)<=m:=by rw [fD];omega
  have ag3:fD (.mk k2 y2 p2 bb2 iO iK iJ bI LL bq h2 iF)<=9000000000:=by rw [fD];omega
  have ag5:([]:List Cm).length+iI (.mk k2 y2 p2 bb2 iO iK iJ bI LL bq h2 iF)<=9000000000:=by rw [iI,List.length_nil];omega
  have hend:∀{b9:List (List AV)},¬((k2=1∧y2=1∧iJ=ByteArray.empty)∧0<LL.length)->wv (AV.bX [])=true->aV b9=true->b9.length=b8.length->jl b8.length b9->b9[s]?=some [.bool blk,cs (aL blk [] [] (.mk k2 y2 p2 bb2 iO iK iJ bI LL bq h2 iF)).2]->wZ b9 q (ok+12) (pre++(Ce.mk k1 y1 p1 bb1 ed dZ dY uN (cr (c++aG)) (cs []) false ByteArray.empty).l) ((aL blk [] [] (.mk k2 y2 p2 bb2 iO iK iJ bI LL bq h2 iF)).1.ce zT) post->eQ b9 (aL blk [] [] (.mk k2 y2 p2 bb2 iO iK iJ bI LL bq h2 iF)).1.kids zT I2->(∀j,j≠s->j≠q->j ∉ I2->b9[j]?=b8[j]?)->ag (G6 (m+1)) [.ptr s 0,.ptr q ok,.ptr q (ok+12)] bx (.bX []) b9:=by
   intro b9 hno hwr hwb Zi Pt gs9 gx9 gk9 gr9;have gq9:b9[q]?=some ((pre++[.int .i64 k1,.int .i64 y1,.int .i64 p1,.int .i64 bb1,.str ed,.str dZ,.str dY,uN])++cr (c++aG)::([cs [],.bool false,.str ByteArray.empty]++(((aL blk [] [] (.mk k2 y2 p2 bb2 iO iK iJ bI LL bq h2 iF)).1.ce zT).l++post))):=by rw [gx9.1,List.append_assoc,List.append_assoc];rfl
   refine ag.cell hwb (x:=cr (c++aG)) (y:=cs (c++aG)) gq9 (Wk.cr _) (vD _) fun d hwd gld gqd grd=>?_;refine ag.mk hwr hwd fun K hK=>?_;have hof:=Sm (blk:=blk) (c:=[]) (p:=p2) (b:=bb2) (an:=iO) (tg:=iK) (kids:=bI) (ae:=bq) (h:=h2) (tr:=iF) hno;have alj:d[q]?=some (pre++((Ce.mk k1 y1 p1 bb1 ed dZ dY uN (cs (c++aG)) (cs []) false ByteArray.empty).l++(((aL blk [] [] (.mk k2 y2 p2 bb2 iO iK iJ bI LL bq h2 iF)).1.ce zT).l++post))):=by rw [gqd,List.append_assoc];rfl
   have ak2:jl bx.length d:=by
    rw [Y6,NS,hla] at Pt;exact Pt.KR (q:=q) (fun j _ hne=>grd j hne) gq9 gqd (fun i hi=>by
     rw [dA] at hi⊢;simpa only [List.cons_append,List.nil_append,dA,AV.aN,AV.ids,dM,kS,List.append_nil] using hi)
   have akR:∀i ∈ I1,d[i]?=b8[i]?:=fun i hi=>(grd i (fun e=>Pe (e▸hi))).trans (gr9 i (fun e=>Wz (e▸hi)) (fun e=>Pe (e▸hi)) (fun e=>AX i hi i e rfl));refine hqk (z:=[]) hK oM hwd ak2 ?_ ?_ (Tj.fr akR) ?_ ?_
   ·rw [hof];exact (grd s zu).trans gs9
   ·rw [hof];exact alj
   ·rw [hof];exact gk9.fr fun i hi=>grd i (fun e=>WG (e▸hi))
   ·intro j g1 g2 g3 g4;by_cases hjl:j<bx.length
    ·exact (grd j g2).trans ((gr9 j g1 g2 g4).trans (hall j g1 g2 g3 hjl))
    ·rw [List.getElem?_eq_none oM,List.getElem?_eq_none oM]
  by_cases hv:k2=1∧y2=1∧iJ=ByteArray.empty
  ·rcases Nat.eq_zero_or_pos LL.length with hz0|hz0
   ·conv=>whnf
    repeat' (first
    |((with_reducible refine (?_:∃c:List AV,_∧_));refine ⟨_,(by first|exact hq|exact hs),?_⟩;(conv=>whnf))
    |((with_reducible refine (?_:_∧jl _ _∧_));refine aR.get ?_)
    |((with_reducible refine (?_:∃(blk:Bool),_));refine aR.get ?_)
    |((with_reducible refine (?_:∃(pre:List AV),_));refine aR.get ?_)
    |refine nX ?_;conv=>whnf
    |(with_reducible refine (?_:wv _=true->aV _=true->_));intro hwr hwb
    |(with_reducible refine (?_:aV _=true->_));intro hw;conv=>whnf
    |with_reducible assumption
    |((with_reducible intro h);exfalso;(first|exact absurd hv (of_decide_eq_false h)|exact hv (of_decide_eq_true h));done)
    |(first|with_reducible refine aX ho ?_|with_reducible refine aQ ho ?_|with_reducible refine aD ho ?_|with_reducible refine ay ho ?_|with_reducible refine az ?_);conv=>whnf
    |with_reducible refine And.intro ?_ ?_
    |exact cL
    |(with_reducible intro h);first|(cases h;done)|(try simp only [lG,reduceCtorEq] at h);first|done|(exfalso;omega)|replace h:=h trivial aZ|replace h:=h aZ|skip
    |fail)
    refine aR.mk ⟨blk,[],_,k2,y2,p2,bb2,iO,iK,iJ,zT,LL,bq,h2,iF,post,bI,I2,⟨hw,by show jl b8.length b8;rw [Y6,NS,hla];exact Tx,hs,⟨hq,ho⟩,abr,Tc,⟨agX,agB⟩,ag4,ag5,ag3⟩,?_⟩;intro b9 Zi Pt gs9 gx9 gk9 gr9;replace Zi:b9.length=b8.length:=Zi
    conv=>whnf
    repeat' (first
    |((with_reducible refine (?_:∃c:List AV,_∧_));refine ⟨_,(by first|exact hq|exact hs),?_⟩;(conv=>whnf))
    |((with_reducible refine (?_:_∧jl _ _∧_));refine aR.get ?_)
    |((with_reducible refine (?_:∃(blk:Bool),_));refine aR.get ?_)
    |((with_reducible refine (?_:∃(pre:List AV),_));refine aR.get ?_)
    |refine nX ?_;conv=>whnf
    |(with_reducible refine (?_:wv _=true->aV _=true->_));intro hwr hwb
    |(with_reducible refine (?_:aV _=true->_));intro hw;conv=>whnf
    |with_reducible assumption
    |((with_reducible intro h);exfalso;(first|exact absurd hv (of_decide_eq_false h)|exact hv (of_decide_eq_true h));done)
    |(first|with_reducible refine aX ho ?_|with_reducible refine aQ ho ?_|with_reducible refine aD ho ?_|with_reducible refine ay ho ?_|with_reducible refine az ?_);conv=>whnf
    |with_reducible refine And.intro ?_ ?_
    |exact cL
    |(with_reducible intro h);first|(cases h;done)|(try simp only [lG,reduceCtorEq] at h);first|done|(exfalso;omega)|replace h:=h trivial aZ|replace h:=h aZ|skip
    |fail)
    exact hend (fun e=>by omega) hwr hwb Zi Pt gs9 gx9 gk9 gr9
   ·conv=>whnf
    repeat' (first
    |((with_reducible refine (?_:∃c:List AV,_∧_));refine ⟨_,(by first|exact hq|exact hs),?_⟩;(conv=>whnf))
    |((with_reducible refine (?_:_∧jl _ _∧_));refine aR.get ?_)
    |((with_reducible refine (?_:∃(blk:Bool),_));refine aR.get ?_)
    |((with_reducible refine (?_:∃(pre:List AV),_));refine aR.get ?_)
    |refine nX ?_;conv=>whnf
    |(with_reducible refine (?_:wv _=true->aV _=true->_));intro hwr hwb
    |(with_reducible refine (?_:aV _=true->_));intro hw;conv=>whnf
    |with_reducible assumption
    |((with_reducible intro h);exfalso;(first|exact absurd hv (of_decide_eq_false h)|exact hv (of_decide_eq_true h));done)
    |(first|with_reducible refine aX ho ?_|with_reducible refine aQ ho ?_|with_reducible refine aD ho ?_|with_reducible refine ay ho ?_|with_reducible refine az ?_);conv=>whnf
    |with_reducible refine And.intro ?_ ?_
    |exact cL
    |(with_reducible intro h);first|(cases h;done)|(try simp only [lG,reduceCtorEq] at h);first|done|(exfalso;omega)|replace h:=h trivial aZ|replace h:=h aZ|skip
    |fail)
    have hq8:b8[q]?=some (((pre++(Ce.mk k1 y1 p1 bb1 ed dZ dY uN (cr (c++aG)) (cs []) false ByteArray.empty).l)++(Ce.mk k2 y2 p2 bb2 iO iK iJ zT (cr LL) (cs bq) h2 iF).l)++post):=by rw [List.append_assoc];exact hq
    refine aR.mk ⟨by show bx.length<=b8.length;omega,Tx,?_⟩
    conv=>whnf
    refine ⟨wR.ptr Gz,?_⟩;intro c0 gl0 gr0 gw0;replace gr0:∀j,j<bx.length->c0[j]?=b8[j]?:=gr0;replace gl0:c0.length=bx.length:=gl0
    conv=>whnf
    refine ⟨_,_,post,⟨gw0,(gr0 q Gz).trans hq,ho⟩,?_⟩;intro c5 gl5 gx5 gr5;refine ⟨gl5.trans gl0,?_⟩;intro c6 gl6 gr6 gr7;replace gl6:c6.length=b8.length:=gl6;replace gr6:∀j,j<bx.length->c6[j]?=c5[j]?:=gr6;have hoff:Ce.off (Ce.mk k2 y2 p2 bb2 iO iK iJ zT (cr LL) (cs bq) h2 iF)=⟨k2,y2,p2,bb2,iO,iK,iJ,zT,cr LL,cs bq,false,ByteArray.empty⟩:=by
     rw [Bh,Bool.and_eq_true] at ht2;have ht3:=ht2.1;cases h2 with
     |true=>rfl
     |false=>
      simp only [Bool.false_or,decide_eq_true_eq] at ht3;rw [ht3];rfl
    have hqo:=hq;have hq6:=(gr6 q Gz).trans gx5.1;rw [hoff] at hq6;have hq:=hq6;have hs:=(gr6 s hsl).trans ((gr5 s zu).trans ((gr0 s hsl).trans hs));have akV:oF [LL,kg h2 iF]<=10000000000:=by simp only [oF];omega
    conv=>whnf
    repeat' (first
    |((with_reducible refine (?_:∃c:List AV,_∧_));refine ⟨_,(by first|exact hq|exact hs),?_⟩;(conv=>whnf))
    |((with_reducible refine (?_:_∧jl _ _∧_));refine aR.get ?_)
    |((with_reducible refine (?_:∃(blk:Bool),_));refine aR.get ?_)
    |((with_reducible refine (?_:∃(pre:List AV),_));refine aR.get ?_)
    |refine nX ?_;conv=>whnf
    |(with_reducible refine (?_:wv _=true->aV _=true->_));intro hwr hwb
    |(with_reducible refine (?_:aV _=true->_));intro hw;conv=>whnf
    |with_reducible assumption
    |((with_reducible intro h);exfalso;(first|exact absurd hv (of_decide_eq_false h)|exact hv (of_decide_eq_true h));done)
    |((with_reducible refine (?_:∃ts:List (List Cm),_∧_));refine ⟨[LL,kg h2 iF],⟨rfl,rfl⟩,⟨akV,by simp⟩,?_⟩;(conv=>whnf))
    |(exact bE (nS (ts:=[LL,kg h2 iF])))
    |((with_reducible refine (?_:l6 _ _ _ _));refine l6.ld Gz hqo hq6 (by simp only [List.length_append];rfl) ?_;rw [jW ho,jW ho];rfl)
    |((with_reducible refine gQ.mk (i:=q) ?_);intro d2 fl2 hq fr2;have hs:=(fr2 s zu).trans hs;(conv=>whnf))
    |((with_reducible refine gQ.mk (i:=s) ?_);intro d1 fl1 hs fr1;have hq:=(fr1 q (Ne.symm zu)).trans hq;(conv=>whnf))
    |(first|with_reducible refine aX ho ?_|with_reducible refine aQ ho ?_|with_reducible refine aD ho ?_|with_reducible refine ay ho ?_|with_reducible refine az ?_);conv=>whnf
    |with_reducible refine And.intro ?_ ?_
    |exact cL
    |(with_reducible intro h);first|(cases h;done)|(try simp only [lG,reduceCtorEq] at h);first|done|(exfalso;omega)|replace h:=h trivial aZ|replace h:=h aZ|skip
    |fail)
    replace fl1:d1.length=c6.length:=fl1;replace fl2:d2.length=d1.length:=fl2;replace fr1:∀j,j≠s->d1[j]?=c6[j]?:=fr1;replace fr2:∀j,j≠q->d2[j]?=d1[j]?:=fr2;replace hs:d2[s]?=some ([.bool blk]++ .row 56 2 (oF [LL,kg h2 iF]) (fQ [LL,kg h2 iF].flatten)::[]):=hs;rw [GU] at hs;replace hq:d2[q]?=some ((pre++(Ce.mk k1 y1 p1 bb1 ed dZ dY uN (cr (c++aG)) (cs []) false ByteArray.empty).l)++((Ce.mk k2 y2 p2 bb2 iO iK iJ zT .nil (cs bq) false ByteArray.empty).l++post)):=hq;have om:∀j,j≠s->j≠q->j<bx.length->d2[j]?=b8[j]?:=fun j g1 g2 g3=>(fr2 j g2).trans ((fr1 j g1).trans ((gr6 j g3).trans ((gr5 j g2).trans (gr0 j g3))));refine ag.cell hwb (x:=cr (LL++kg h2 iF)) (y:=cs (LL++kg h2 iF)) hs (Wk.cr _) (vD _) fun e1 akI el1 es1 er1=>?_;replace el1:e1.length=d2.length:=el1;have eq1:e1[q]?=some ((pre++(Ce.mk k1 y1 p1 bb1 ed dZ dY uN (cr (c++aG)) (cs []) false ByteArray.empty).l++[.int .i64 k2,.int .i64 y2,.int .i64 p2,.int .i64 bb2,.str iO,.str iK,.str iJ,zT])++ .nil::([cs bq,.bool false,.str ByteArray.empty]++post)):=by rw [er1 q (Ne.symm zu)];refine hq.trans ?_;simp only [List.append_assoc];rfl
    refine ag.cell akI (x:=.nil) (y:=cs []) eq1 Wk.sK (vD _) fun e2 akH el2 es2 er2=>?_;replace el2:e2.length=e1.length:=el2;have eq2:e2[q]?=some ((pre++[.int .i64 k1,.int .i64 y1,.int .i64 p1,.int .i64 bb1,.str ed,.str dZ,.str dY,uN])++cr (c++aG)::([cs [],.bool false,.str ByteArray.empty]++((Ce.mk k2 y2 p2 bb2 iO iK iJ zT (cs []) (cs bq) false ByteArray.empty).l++post))):=by rw [es2];simp only [List.append_assoc];rfl
    refine ag.cell akH (x:=cr (c++aG)) (y:=cs (c++aG)) eq2 (Wk.cr _) (vD _) fun e3 agu el3 es3 er3=>?_;refine ag.mk hwr agu fun K hK=>?_;have hov:=Sk (blk:=blk) (p:=p2) (b:=bb2) (an:=iO) (tg:=iK) (kids:=bI) (ae:=bq) (h:=h2) (tr:=iF) hv hz0;have hs3:e3[s]?=some [.bool blk,cs (LL++kg h2 iF)]:=(er3 s zu).trans ((er2 s zu).trans es1);have hq3:e3[q]?=some (pre++((Ce.mk k1 y1 p1 bb1 ed dZ dY uN (cs (c++aG)) (cs []) false ByteArray.empty).l++((Ce.mk k2 y2 p2 bb2 iO iK iJ zT (cs []) (cs bq) false ByteArray.empty).l++post))):=by rw [es3];simp only [List.append_assoc];rfl
    have NT:∀j,j≠s->j≠q->j<bx.length->e3[j]?=b8[j]?:=fun j g1 g2 g3=>(er3 j g2).trans ((er2 j g2).trans ((er1 j g1).trans (om j g1 g2 g3)));have hce:jl bx.length e3:=.mk fun j z hj hz i hi=>by
     by_cases e1:j=s
     ·subst e1;rw [hs3] at hz;cases hz;simp only [AV.aN,AV.ids,dM,List.append_nil,List.not_mem_nil] at hi
     ·by_cases e2:j=q
      ·subst e2;rw [hq3] at hz;cases hz;refine Tx.out j _ hj hqo i ?_;simpa only [Ce.l,dA,AV.aN,AV.ids,dM,kS,List.cons_append,List.nil_append,List.append_nil,List.append_assoc] using hi
      ·exact Tx.out j z hj ((NT j e1 e2 hj)▸hz) i hi
    refine hqk (z:=[]) hK oM agu hce ?_ ?_ (Tj.fr fun i hi=>NT i (fun e=>Wz (e▸hi)) (fun e=>Pe (e▸hi)) (hI1 i hi)) ?_ ?_
    ·rw [hov];exact hs3
    ·rw [hov];exact hq3
    ·rw [hov];exact abr.fr fun i hi=>NT i (fun e=>abm (e▸hi)) (fun e=>WG (e▸hi)) (hI2 i hi)
    ·intro j g1 g2 g3 g4;by_cases hjl:j<bx.length
     ·exact (NT j g1 g2 hjl).trans (hall j g1 g2 g3 hjl)
     ·rw [List.getElem?_eq_none oM,List.getElem?_eq_none oM]
  ·conv=>whnf
   repeat' (first
   |((with_reducible refine (?_:∃c:List AV,_∧_));refine ⟨_,(by first|exact hq|exact hs),?_⟩;(conv=>whnf))
   |((with_reducible refine (?_:_∧jl _ _∧_));refine aR.get ?_)
   |((with_reducible refine (?_:∃(blk:Bool),_));refine aR.get ?_)
   |((with_reducible refine (?_:∃(pre:List AV),_));refine aR.get ?_)
   |refine nX ?_;conv=>whnf
   |(with_reducible refine (?_:wv _=true->aV _=true->_));intro hwr hwb
   |(with_reducible refine (?_:aV _=true->_));intro hw;conv=>whnf
   |with_reducible assumption
   |((with_reducible intro h);exfalso;(first|exact absurd hv (of_decide_eq_false h)|exact hv (of_decide_eq_true h));done)
   |(first|with_reducible refine aX ho ?_|with_reducible refine aQ ho ?_|with_reducible refine aD ho ?_|with_reducible refine ay ho ?_|with_reducible refine az ?_);conv=>whnf
   |with_reducible refine And.intro ?_ ?_
   |exact cL
   |(with_reducible intro h);first|(cases h;done)|(try simp only [lG,reduceCtorEq] at h);first|done|(exfalso;omega)|replace h:=h trivial aZ|replace h:=h aZ|skip
   |fail)
   refine aR.mk ⟨blk,[],_,k2,y2,p2,bb2,iO,iK,iJ,zT,LL,bq,h2,iF,post,bI,I2,⟨hw,by show jl b8.length b8;rw [Y6,NS,hla];exact Tx,hs,⟨hq,ho⟩,abr,Tc,⟨agX,agB⟩,ag4,ag5,ag3⟩,?_⟩;intro b9 Zi Pt gs9 gx9 gk9 gr9;replace Zi:b9.length=b8.length:=Zi
   conv=>whnf
   repeat' (first
   |((with_reducible refine (?_:∃c:List AV,_∧_));refine ⟨_,(by first|exact hq|exact hs),?_⟩;(conv=>whnf))
   |((with_reducible refine (?_:_∧jl _ _∧_));refine aR.get ?_)
   |((with_reducible refine (?_:∃(blk:Bool),_));refine aR.get ?_)
   |((with_reducible refine (?_:∃(pre:List AV),_));refine aR.get ?_)
   |refine nX ?_;conv=>whnf
   |(with_reducible refine (?_:wv _=true->aV _=true->_));intro hwr hwb
   |(with_reducible refine (?_:aV _=true->_));intro hw;conv=>whnf
   |with_reducible assumption
   |((with_reducible intro h);exfalso;(first|exact absurd hv (of_decide_eq_false h)|exact hv (of_decide_eq_true h));done)
   |(first|with_reducible refine aX ho ?_|with_reducible refine aQ ho ?_|with_reducible refine aD ho ?_|with_reducible refine ay ho ?_|with_reducible refine az ?_);conv=>whnf
   |with_reducible refine And.intro ?_ ?_
   |exact cL
   |(with_reducible intro h);first|(cases h;done)|(try simp only [lG,reduceCtorEq] at h);first|done|(exfalso;omega)|replace h:=h trivial aZ|replace h:=h aZ|skip
   |fail)
   exact hend (fun e=>hv e.1) hwr hwb Zi Pt gs9 gx9 gk9 gr9
 ·exact h.elim
def lX (blk:Bool) (k:Int) (c:List Cm) (kids:List Nd):List Nd×List Cm:=if k=3 then bP blk c kids else bO blk c kids
def Zw (m:Nat):aC:=fun args bx K=>match args with
 |[.ptr s 0,.ptr b o]=>∃(blk:Bool) (c:List Cm) (pre:List AV) (k y p bb:Int) (an tg tx:ByteArray) (q:Nat) (lc fc:AV) (h:Bool) (tr:ByteArray) (post:List AV) (kids:List Nd) (cc:List AV) (J:List Nat),(aV bx=true∧jl bx.length bx∧bx[s]?=some [.bool blk,cs c]∧wZ bx b o pre ⟨k,y,p,bb,an,tg,tx,.bU q 35 12 kids.length,lc,fc,h,tr⟩ post∧bx[q]?=some cc∧eF bx kids cc J∧(s::b::q::J).Nodup∧(k=3∨k=4∧kids.length % 2=0)∧(uK kids=true∧zD kids=true)∧bS kids<=m∧c.length+cK kids<=9000000000∧bS kids<=9000000000)∧
   ∀(bx':List (List AV)) (cc':List AV),bx'.length=bx.length->jl bx.length bx'->bx'[s]?=some [.bool blk,cs (lX blk k c kids).2]->bx'[q]?=some cc'->eF bx' (lX blk k c kids).1 cc' J->(∀j,j≠s->j≠q->j ∉ J->bx'[j]?=bx[j]?)->K (.bX []) bx'
 |_=>False
def SqI (bx:List (List AV)) (s b o q:Nat) (blk:Bool) (c:List Cm) (kids:List Nd) (J:List Nat) (j:Nat) (τ:aJ):Prop:=∃(a r:List Nd) (ca Qf:List AV) (Ja Jr:List Nat) (bx1:List (List AV)),kids=a++r∧j=r.length∧τ=⟨[(10,.int .i64 a.length),(9,.int .i64 kids.length),(1,.ptr b o),(0,.ptr s 0)],bx1⟩∧bx1.length=bx.length∧bx1[s]?=some [.bool blk,cs (bP blk c a).2]∧bx1[q]?=some (ca++Qf)∧eF bx1 (bP blk c a).1 ca Ja∧eF bx1 r Qf Jr∧J=Ja++Jr∧(∀j,j≠s->j≠q->j ∉ J->bx1[j]?=bx[j]?)∧jl bx.length bx1
def ahf:=fN 71 Tryz.f71 55 []
theorem Zq {m s b o q:Nat} {blk:Bool} {c:List Cm} {pre post:List AV} {k y p bb:Int} {an tg tx tr:ByteArray} {lc fc:AV} {h:Bool} {kids:List Nd} {cc cc':List AV} {J:List Nat} {bx bx':List (List AV)} {K:AV->List (List AV)->Prop} (hK:Zw m [.ptr s 0,.ptr b o] bx K) (hs:bx[s]?=some [.bool blk,cs c]) (hx:wZ bx b o pre ⟨k,y,p,bb,an,tg,tx,.bU q 35 12 kids.length,lc,fc,h,tr⟩ post) (hq:bx[q]?=some cc) (hF:eF bx kids cc J)
  (d1:bx'.length=bx.length) (d2:jl bx.length bx') (d3:bx'[s]?=some [.bool blk,cs (lX blk k c kids).2]) (d4:bx'[q]?=some cc') (d5:eF bx' (lX blk k c kids).1 cc' J) (d6:∀j,j≠s->j≠q->j ∉ J->bx'[j]?=bx[j]?):K (.bX []) bx':=by
 obtain ⟨ab8,c',pre',k',y',p',bb',PX,OV,OQ,q',lc',fc',h',EF,post',jC,cc2,J',⟨-,-,hs',hx',hq',hF',-⟩,hK⟩:=hK;rw [hs,Option.some.injEq,List.cons.injEq,List.cons.injEq,AV.bool.injEq] at hs';obtain ⟨rfl,e2,-⟩:=hs';obtain rfl:=oK e2;obtain ⟨rfl,e,rfl⟩:=hx.inj hx';simp only [Ce.mk.injEq,AV.bU.injEq] at e;obtain ⟨rfl,rfl,rfl,rfl,rfl,rfl,rfl,⟨rfl,-,-,-⟩,rfl,rfl,rfl,rfl⟩:=e;rw [hq,Option.some.injEq] at hq';subst hq';obtain ⟨rfl,rfl⟩:=eF.inj hF hF';exact hK bx' cc' d1 d2 d3 d4 d5 d6
theorem aeV {m:Nat} (Zg:aC.OK Tryz.prog 42 (Om m)) {s b o:Nat} {bx:List (List AV)} {blk:Bool} {c:List Cm} {pre:List AV} {y p bb:Int} {an tg tx:ByteArray} {q:Nat} {lc fc:AV} {hh:Bool} {tr:ByteArray} {post:List AV} {kids:List Nd} {cc:List AV} {J:List Nat}
  (hw:aV bx=true) (hcl:jl bx.length bx) (hs:bx[s]?=some [.bool blk,cs c]) (hx:wZ bx b o pre ⟨3,y,p,bb,an,tg,tx,.bU q 35 12 kids.length,lc,fc,hh,tr⟩ post) (hq:bx[q]?=some cc) (hF:eF bx kids cc J) (hnd:(s::b::q::J).Nodup) (hev:uK kids=true) (htr:zD kids=true) (hm:bS kids<=m) (hn:c.length+cK kids<=9000000000) (hz:bS kids<=9000000000):
  ∃r bx',aW Tryz.prog 71 [.ptr s 0,.ptr b o] bx r bx'∧wv r=true∧aV bx'=true∧∀K,Zw m [.ptr s 0,.ptr b o] bx K->K r bx':=by
 have hb:bx[b]?=some (pre++(.int .i64 3::.int .i64 y::.int .i64 p::.int .i64 bb::.str an::.str tg::.str tx::.bU q 35 12 kids.length::lc::fc::.bool hh::.str tr::post)):=hx.1;have ho:=hx.2;have hs0:=hs;have hb0:=hb;have hq0:=hq;rw [List.nodup_cons,List.nodup_cons,List.nodup_cons] at hnd;obtain ⟨n1,n2,n3,hnJ⟩:=hnd;have hsb:s≠b:=fun e=>n1 (by rw [e];exact List.mem_cons_self);have zu:s≠q:=fun e=>n1 (by rw [e];exact List.mem_cons_of_mem _ List.mem_cons_self);have hsJ:s ∉ J:=fun e=>n1 (List.mem_cons_of_mem _ (List.mem_cons_of_mem _ e));have hbq:b≠q:=fun e=>n2 (by rw [e];exact List.mem_cons_self);have Pj:b ∉ J:=fun e=>n2 (List.mem_cons_of_mem _ e);have hJl:=hF.lt;have hzl:=sw kids;refine ahf.U8 rfl hw ?_;have B:=V.base (af.cons Zg (af.cons Si af.nil));have zE:Ev _ _ _ (aH 71) [100,42] []:=⟨B⟩
 conv=>whnf
 repeat' (first
 |((with_reducible refine (?_:∃c:List AV,_∧_));refine ⟨_,(by first|exact hb|exact hq|exact hs),?_⟩;(conv=>whnf))
 |refine nX ?_;conv=>whnf
 |(with_reducible refine (?_:wv _=true->aV _=true->_));intro hwr hwb
 |(with_reducible refine (?_:aV _=true->_));intro hw;conv=>whnf
 |with_reducible assumption
 |((with_reducible refine (?_:WP _ _ _ (.loop _) _ _));refine WP.loop (SqI bx s b o q blk c kids J) ⟨[],kids,[],cc,[],J,bx,rfl,rfl,rfl,rfl,(by rw [bP];exact hs),hq,(by rw [bP];exact fJ.2 ⟨rfl,rfl⟩),hF,rfl,fun j _ _ _=>rfl,hcl⟩ ?_;clear hs hq hb)
 |((with_reducible refine (?_:∀(k:Nat) (τ:aJ),SqI _ _ _ _ _ _ _ _ _ k τ->_));refine aR.get ?_)
 |(first|with_reducible refine aX ho ?_|with_reducible refine aQ ho ?_|with_reducible refine aD ho ?_|with_reducible refine ay ho ?_|with_reducible refine az ?_);conv=>whnf
 |with_reducible refine And.intro ?_ ?_
 |exact cL
 |(with_reducible intro h);first|(cases h;done)|(try simp only [lG,reduceCtorEq] at h);first|done|(exfalso;omega)|replace h:=h trivial aZ|replace h:=h aZ|skip
 |fail)
 refine aR.mk ?_;rintro j τ ⟨a,r,ca,Qf,Ja,Jr,bx1,hkk,rfl,rfl,hl,hs,hq,hA,hR,hJ,hag,zX⟩;have hb:=(hag b (Ne.symm hsb) hbq Pj).trans hb0;have Zb:=hA.len;rw [jS] at Zb;rcases r with _|⟨x,r⟩
 ·rw [List.append_nil] at hkk;obtain ⟨rfl,rfl⟩:=fJ.1 hR;subst hkk;rw [List.append_nil] at hq hJ
  repeat' (first
  |((with_reducible refine (?_:∃c:List AV,_∧_));refine ⟨_,(by first|exact hb|exact hq|exact hs),?_⟩;(conv=>whnf))
  |refine nX ?_;conv=>whnf
  |(with_reducible refine (?_:wv _=true->aV _=true->_));intro hwr hwb
  |(with_reducible refine (?_:aV _=true->_));intro hw;conv=>whnf
  |with_reducible assumption
  |((with_reducible intro h);exfalso;simp at h;done)
  |(first|with_reducible refine aX ho ?_|with_reducible refine aQ ho ?_|with_reducible refine aD ho ?_|with_reducible refine ay ho ?_|with_reducible refine az ?_);conv=>whnf
  |with_reducible refine And.intro ?_ ?_
  |exact cL
  |(with_reducible intro h);first|(cases h;done)|(try simp only [lG,reduceCtorEq] at h);first|done|(exfalso;omega)|replace h:=h trivial aZ|replace h:=h aZ|skip
  |fail)
  refine ag.mk hwr hwb fun K hK=>?_;exact Zq hK hs0 hx hq0 hF hl zX (by rw [lX,if_pos rfl];exact hs) hq (by rw [lX,if_pos rfl,hJ];exact hA) hag
 ·have hkl:kids.length=a.length+r.length+1:=by rw [hkk,List.length_append,List.length_cons];omega
  obtain ⟨c1,c2,J1,J2,rfl,rfl,hX,hR2⟩:=dm.1 hR;obtain ⟨k1,y1,p1,q1,ed,dZ,dY,aF,aG,aI,h1,dU⟩:=x;obtain ⟨uN,rfl,hk1⟩:=gF.1 hX;have hcn:cK kids=cK a+((aG.length+cK aF+aI.length+(kg h1 dU).length)+cK r):=by rw [hkk,iV,cK,iI]
  have hsz:bS kids=bS a+(1+bS aF+bS r):=by rw [hkk,gB,bS,fD]
  have agY:=um blk c a;have abu:yX (.mk k1 y1 p1 q1 ed dZ dY aF ((bP blk c a).2++aG) aI h1 dU)=true:=by rw [hkk,pM,uK] at hev;simp only [Bool.and_eq_true] at hev;have:=hev.2.1;rw [yX] at this⊢;exact this
  have Wy:Bh (.mk k1 y1 p1 q1 ed dZ dY aF ((bP blk c a).2++aG) aI h1 dU)=true:=by rw [hkk,Bi,zD] at htr;simp only [Bool.and_eq_true] at htr;have:=htr.2.1;rw [Bh] at this⊢;exact this
  have yS:∀i ∈ J1,i ∈ J:=fun i hi=>by rw [hJ];exact List.mem_append_right _ (List.mem_append_left _ hi)
  have Ze:=hnJ;rw [hJ,List.nodup_append] at Ze;obtain ⟨hn1,hn2,AX⟩:=Ze;rw [List.nodup_append] at hn2;have LQ:(s::q::J1).Nodup:=List.nodup_cons.2 ⟨fun e=>by
   rcases List.mem_cons.1 e with e|e
   ·exact zu e
   ·exact hsJ (yS _ e),List.nodup_cons.2 ⟨fun e=>n3 (yS _ e),hn2.1⟩⟩
  repeat' (first
  |((with_reducible refine (?_:∃c:List AV,_∧_));refine ⟨_,(by first|exact hb|exact hq|exact hs),?_⟩;(conv=>whnf))
  |((with_reducible refine (?_:∃(blk:Bool),_));refine aR.get ?_)
  |refine nX ?_;conv=>whnf
  |(with_reducible refine (?_:wv _=true->aV _=true->_));intro hwr hwb
  |(with_reducible refine (?_:aV _=true->_));intro hw;conv=>whnf
  |with_reducible assumption
  |((with_reducible intro h);exfalso;simp at h;done)
  |((with_reducible refine (?_:∃(j:Nat) (τ':aJ),_));refine aR.get ?_)
  |(first|with_reducible refine aX ho ?_|with_reducible refine aQ ho ?_|with_reducible refine aD ho ?_|with_reducible refine ay ho ?_|with_reducible refine az ?_);conv=>whnf
  |with_reducible refine And.intro ?_ ?_
  |exact cL
  |(with_reducible intro h);first|(cases h;done)|(try simp only [lG,reduceCtorEq] at h);first|done|(exfalso;omega)|replace h:=h trivial aZ|replace h:=h aZ|skip
  |fail)
  have Tz:jl bx1.length bx1:=by rw [hl];exact zX
  refine aR.mk ⟨blk,(bP blk c a).2,ca,k1,y1,p1,q1,ed,dZ,dY,uN,aG,cs aI,h1,dU,c2,⟨hw,Tz,zu,hs,⟨hq,by rw [Zb];rfl⟩,oM⟩,?_⟩;clear hs;intro b3 hl3 JR hs hx3 hr3;replace hl3:b3.length=bx1.length:=hl3;replace hr3:∀j,j≠s->j≠q->b3[j]?=bx1[j]?:=hr3;replace JR:jl bx1.length b3:=JR;have hb:=(hr3 b (Ne.symm hsb) hbq).trans hb
  conv=>whnf
  repeat' (first
  |((with_reducible refine (?_:∃c:List AV,_∧_));refine ⟨_,(by first|exact hb|exact hq|exact hs),?_⟩;(conv=>whnf))
  |((with_reducible refine (?_:∃(blk:Bool),_));refine aR.get ?_)
  |refine nX ?_;conv=>whnf
  |(with_reducible refine (?_:wv _=true->aV _=true->_));intro hwr hwb
  |(with_reducible refine (?_:aV _=true->_));intro hw;conv=>whnf
  |with_reducible assumption
  |((with_reducible intro h);exfalso;simp at h;done)
  |((with_reducible refine (?_:∃(j:Nat) (τ':aJ),_));refine aR.get ?_)
  |(first|with_reducible refine aX ho ?_|with_reducible refine aQ ho ?_|with_reducible refine aD ho ?_|with_reducible refine ay ho ?_|with_reducible refine az ?_);conv=>whnf
  |with_reducible refine And.intro ?_ ?_
  |exact cL
  |(with_reducible intro h);first|(cases h;done)|(try simp only [lG,reduceCtorEq] at h);first|done|(exfalso;omega)|replace h:=h trivial aZ|replace h:=h aZ|skip
  |fail)
  refine aR.mk ⟨blk,[],ca,k1,y1,p1,q1,ed,dZ,dY,uN,(bP blk c a).2++aG,aI,h1,dU,c2,aF,J1,⟨hw,by show jl b3.length b3;rw [hl3];exact JR,hs,hx3,hk1.fr (fun i hi=>hr3 i (fun e=>hsJ (yS i hi|>fun z=>e▸z)) (fun e=>n3 (e▸yS i hi))),LQ,⟨abu,Wy⟩,by rw [fD];omega,by rw [iI,List.length_append,List.length_nil];omega,by rw [fD];omega⟩,?_⟩;clear hs;intro b5 hl5 mX hs5 hx5 hk5 AU;replace hl5:b5.length=b3.length:=hl5;replace mX:jl b3.length b5:=mX;replace AU:∀j,j≠s->j≠q->j ∉ J1->b5[j]?=b3[j]?:=AU
  conv=>whnf
  repeat' (first
  |((with_reducible refine (?_:∃c:List AV,_∧_));refine ⟨_,(by first|exact hb|exact hq|exact hs),?_⟩;(conv=>whnf))
  |((with_reducible refine (?_:∃(blk:Bool),_));refine aR.get ?_)
  |refine nX ?_;conv=>whnf
  |(with_reducible refine (?_:wv _=true->aV _=true->_));intro hwr hwb
  |(with_reducible refine (?_:aV _=true->_));intro hw;conv=>whnf
  |with_reducible assumption
  |((with_reducible intro h);exfalso;simp at h;done)
  |((with_reducible refine (?_:∃(j:Nat) (τ':aJ),_));refine aR.get ?_)
  |(first|with_reducible refine aX ho ?_|with_reducible refine aQ ho ?_|with_reducible refine aD ho ?_|with_reducible refine ay ho ?_|with_reducible refine az ?_);conv=>whnf
  |with_reducible refine And.intro ?_ ?_
  |exact cL
  |(with_reducible intro h);first|(cases h;done)|(try simp only [lG,reduceCtorEq] at h);first|done|(exfalso;omega)|replace h:=h trivial aZ|replace h:=h aZ|skip
  |fail)
  have om:∀j,j≠s->j≠q->j ∉ J1->b5[j]?=bx1[j]?:=fun j g1 g2 g3=>(AU j g1 g2 g3).trans (hr3 j g1 g2);have hsn:=Co blk (Nd.mk k1 y1 p1 q1 ed dZ dY aF aG aI h1 dU) c a;have hsp:aL blk (bP blk c a).2 [] (Nd.mk k1 y1 p1 q1 ed dZ dY aF aG aI h1 dU)=aL blk [] [] (.mk k1 y1 p1 q1 ed dZ dY aF ((bP blk c a).2++aG) aI h1 dU):=IU ..;rw [hsp] at hsn;refine aR.mk ⟨r.length,_,by simp,Rx.prune [0,1,9,10],a++[Nd.mk k1 y1 p1 q1 ed dZ dY aF aG aI h1 dU],r,ca++((aL blk [] [] (.mk k1 y1 p1 q1 ed dZ dY aF ((bP blk c a).2++aG) aI h1 dU)).1.ce uN).l,c2,Ja++J1,J2,b5,by rw [hkk,List.append_assoc];rfl,rfl,by rw [List.length_append];rfl,oM,by rw [hsn];exact hs5,by rw [hx5.1,List.append_assoc],?_,?_,by rw [hJ,List.append_assoc],?_,by rw [hl3,hl] at mX;exact mX⟩
  ·rw [hsn];refine sS.2 ⟨ca,_,Ja,J1,rfl,rfl,hA.fr fun i hi=>?_,eF.one (gF.2 ⟨uN,rfl,hk5⟩)⟩;have Fj:i ∈ J:=by rw [hJ];exact List.mem_append_left _ hi
   exact om i (fun e=>hsJ (e▸Fj)) (fun e=>n3 (e▸Fj)) (fun e=>AX i hi i (List.mem_append_left _ e) rfl)
  ·refine hR2.fr fun i hi=>?_;have Fj:i ∈ J:=by rw [hJ];exact List.mem_append_right _ (List.mem_append_right _ hi)
   exact om i (fun e=>hsJ (e▸Fj)) (fun e=>n3 (e▸Fj)) (fun e=>hn2.2.2 i e i hi rfl)
  ·intro j g1 g2 g3;exact (om j g1 g2 (fun e=>g3 (yS j e))).trans (hag j g1 g2 g3)
theorem Wo (x:Nd) (l:List Cm):(x.ld l).kids=x.kids:=by cases x;rfl
def MqI (bx:List (List AV)) (s b o q:Nat) (blk:Bool) (c:List Cm) (kids:List Nd) (J:List Nat) (j:Nat) (τ:aJ):Prop:=∃(a r:List Nd) (ca Qf:List AV) (Ja Jr:List Nat) (bx1:List (List AV)) (i:Int),kids=a++r∧a.length % 2=0∧(i=a.length∨(i=a.length+1∧2<=r.length))∧j=(kids.length-i).toNat∧τ=⟨[(10,.int .i64 i),(9,.int .i64 kids.length),(1,.ptr b o),(0,.ptr s 0)],bx1⟩∧bx1.length=bx.length∧bx1[s]?=some [.bool blk,cs (bO blk c a).2]∧bx1[q]?=some (ca++Qf)∧eF bx1 (bO blk c a).1 ca Ja∧eF bx1 r Qf Jr∧J=Ja++Jr∧(∀j,j≠s->j≠q->j ∉ J->bx1[j]?=bx[j]?)∧jl bx.length bx1
theorem aeW {m:Nat} (Zg:aC.OK Tryz.prog 42 (Om m)) (abD:aC.OK Tryz.prog 101 (G6 m)) {s b o:Nat} {bx:List (List AV)} {blk:Bool} {c:List Cm} {pre:List AV} {y p bb:Int} {an tg tx:ByteArray} {q:Nat} {lc fc:AV} {hh:Bool} {tr:ByteArray} {post:List AV} {kids:List Nd} {cc:List AV} {J:List Nat}
  (hw:aV bx=true) (hcl:jl bx.length bx) (hs:bx[s]?=some [.bool blk,cs c]) (hx:wZ bx b o pre ⟨4,y,p,bb,an,tg,tx,.bU q 35 12 kids.length,lc,fc,hh,tr⟩ post) (hq:bx[q]?=some cc) (hF:eF bx kids cc J) (hnd:(s::b::q::J).Nodup) (he2:kids.length % 2=0) (hev:uK kids=true) (htr:zD kids=true) (hm:bS kids<=m) (hn:c.length+cK kids<=9000000000) (hz:bS kids<=9000000000):
  ∃r bx',aW Tryz.prog 71 [.ptr s 0,.ptr b o] bx r bx'∧wv r=true∧aV bx'=true∧∀K,Zw m [.ptr s 0,.ptr b o] bx K->K r bx':=by
 have hb:bx[b]?=some (pre++(.int .i64 4::.int .i64 y::.int .i64 p::.int .i64 bb::.str an::.str tg::.str tx::.bU q 35 12 kids.length::lc::fc::.bool hh::.str tr::post)):=hx.1;have ho:=hx.2;have hs0:=hs;have hb0:=hb;have hq0:=hq;rw [List.nodup_cons,List.nodup_cons,List.nodup_cons] at hnd;obtain ⟨n1,n2,n3,hnJ⟩:=hnd;have hsb:s≠b:=fun e=>n1 (by rw [e];exact List.mem_cons_self);have zu:s≠q:=fun e=>n1 (by rw [e];exact List.mem_cons_of_mem _ List.mem_cons_self);have hsJ:s ∉ J:=fun e=>n1 (List.mem_cons_of_mem _ (List.mem_cons_of_mem _ e));have hbq:b≠q:=fun e=>n2 (by rw [e];exact List.mem_cons_self);have Pj:b ∉ J:=fun e=>n2 (List.mem_cons_of_mem _ e);have hJl:=hF.lt;have hzl:=sw kids;refine ahf.U8 rfl hw ?_;have B:=V.base (af.cons abD (af.cons Zg (af.cons Si af.nil)));have zE:Ev _ _ _ (aH 71) [100,42,101] []:=⟨B⟩
 conv=>whnf
 repeat' (first
 |((with_reducible refine (?_:∃c:List AV,_∧_));refine ⟨_,(by first|exact hb|exact hq|exact hs),?_⟩;(conv=>whnf))
 |refine nX ?_;conv=>whnf
 |(with_reducible refine (?_:wv _=true->aV _=true->_));intro hwr hwb
 |(with_reducible refine (?_:aV _=true->_));intro hw;conv=>whnf
 |with_reducible assumption
 |((with_reducible refine (?_:WP _ _ _ (.loop _) _ _));refine WP.loop (MqI bx s b o q blk c kids J) ⟨[],kids,[],cc,[],J,bx,0,rfl,rfl,.inl rfl,rfl,rfl,rfl,(by rw [bO];exact hs),hq,(by rw [bO];exact fJ.2 ⟨rfl,rfl⟩),hF,rfl,fun j _ _ _=>rfl,hcl⟩ ?_;clear hs hq hb)
 |((with_reducible refine (?_:∀(k:Nat) (τ:aJ),MqI _ _ _ _ _ _ _ _ _ k τ->_));refine aR.get ?_)
 |(first|with_reducible refine aX ho ?_|with_reducible refine aQ ho ?_|with_reducible refine aD ho ?_|with_reducible refine ay ho ?_|with_reducible refine az ?_);conv=>whnf
 |with_reducible refine And.intro ?_ ?_
 |exact cL
 |(with_reducible intro h);first|(cases h;done)|(try simp only [lG,reduceCtorEq] at h);first|done|(exfalso;omega)|replace h:=h trivial aZ|replace h:=h aZ|skip
 |fail)
 refine aR.mk ?_;rintro j τ ⟨a,r,ca,Qf,Ja,Jr,bx1,i,hkk,ha2,hi,rfl,rfl,hl,hs,hq,hA,hR,hJ,hag,zX⟩;have hb:=(hag b (Ne.symm hsb) hbq Pj).trans hb0;have Zb:=hA.len;rw [iQ] at Zb;have hkl:kids.length=a.length+r.length:=by rw [hkk,List.length_append]
 rcases r with _|⟨x,r⟩
 ·have hi2:i=a.length:=by
   rcases hi with e|⟨-,e⟩
   ·exact e
   ·simp at e
  subst hi2;rw [List.append_nil] at hkk;obtain ⟨rfl,rfl⟩:=fJ.1 hR;subst hkk;rw [List.append_nil] at hq hJ
  repeat' (first
  |((with_reducible refine (?_:∃c:List AV,_∧_));refine ⟨_,(by first|exact hb|exact hq|exact hs),?_⟩;(conv=>whnf))
  |refine nX ?_;conv=>whnf
  |(with_reducible refine (?_:wv _=true->aV _=true->_));intro hwr hwb
  |(with_reducible refine (?_:aV _=true->_));intro hw;conv=>whnf
  |with_reducible assumption
  |((with_reducible intro h);exfalso;simp at h;done)
  |(first|with_reducible refine aX ho ?_|with_reducible refine aQ ho ?_|with_reducible refine aD ho ?_|with_reducible refine ay ho ?_|with_reducible refine az ?_);conv=>whnf
  |with_reducible refine And.intro ?_ ?_
  |exact cL
  |(with_reducible intro h);first|(cases h;done)|(try simp only [lG,reduceCtorEq] at h);first|done|(exfalso;omega)|replace h:=h trivial aZ|replace h:=h aZ|skip
  |fail)
  refine ag.mk hwr hwb fun K hK=>?_;exact Zq hK hs0 hx hq0 hF hl zX (by rw [lX,if_neg dE];exact hs) hq (by rw [lX,if_neg dE,hJ];exact hA) hag
 ·rcases r with _|⟨v,r⟩
  ·rw [hkl] at he2;simp only [lL] at he2;omega
  ·simp only [List.length_cons] at hkl;rcases hi with rfl|⟨rfl,-⟩
   ·have WB:(a.length:Int).tmod 2=0:=by rw [Int.tmod_eq_emod_of_nonneg oM];omega
    repeat' (first
    |((with_reducible refine (?_:∃c:List AV,_∧_));refine ⟨_,(by first|exact hb|exact hq|exact hs),?_⟩;(conv=>whnf))
    |((with_reducible refine (?_:∃(blk:Bool),_));refine aR.get ?_)
    |refine nX ?_;conv=>whnf
    |(with_reducible refine (?_:wv _=true->aV _=true->_));intro hwr hwb
    |(with_reducible refine (?_:aV _=true->_));intro hw;conv=>whnf
    |with_reducible assumption
    |((with_reducible intro h);exfalso;simp only [WB,decide_eq_true_eq,decide_eq_false_iff_not] at h;first|done|omega|exact h rfl)
    |((with_reducible intro h);exfalso;simp at h;done)
    |((with_reducible refine (?_:∃(j:Nat) (τ':aJ),_));refine aR.get ?_)
    |(first|with_reducible refine aX ho ?_|with_reducible refine aQ ho ?_|with_reducible refine aD ho ?_|with_reducible refine ay ho ?_|with_reducible refine az ?_);conv=>whnf
    |with_reducible refine And.intro ?_ ?_
    |exact cL
    |(with_reducible intro h);first|(cases h;done)|(try simp only [lG,reduceCtorEq] at h);first|done|(exfalso;omega)|replace h:=h trivial aZ|replace h:=h aZ|skip
    |fail)
    refine aR.mk ⟨_,_,?_,Rx.prune [0,1,9,10],a,x::v::r,ca,Qf,Ja,Jr,bx1,a.length+1,hkk,ha2,.inr ⟨rfl,by simp⟩,rfl,rfl,hl,hs,hq,hA,hR,hJ,hag,zX⟩;omega
   ·have WB:((a.length:Int)+1).tmod 2=1:=by rw [Int.tmod_eq_emod_of_nonneg oM];omega
    obtain ⟨c1,c2,J1,J2,rfl,rfl,hX,hR2⟩:=dm.1 hR;obtain ⟨d1,d2,K1,K2,rfl,rfl,hV,hR3⟩:=dm.1 hR2;obtain ⟨uN,rfl,hk1⟩:=gF.1 hX;obtain ⟨zT,rfl,hk2⟩:=gF.1 hV;have hcn:cK kids=cK a+(iI x+(iI v+cK r)):=by rw [hkk,iV,cK,cK]
    have hsz:bS kids=bS a+(fD x+(fD v+bS r)):=by rw [hkk,gB,bS,bS]
    have agY:=uo blk c a;have abu:yX v=true:=by rw [hkk,pM,uK,uK] at hev;simp only [Bool.and_eq_true] at hev;exact hev.2.2.1
    have Wy:Bh x=true∧Bh v=true:=by rw [hkk,Bi,zD,zD] at htr;simp only [Bool.and_eq_true] at htr;exact ⟨htr.2.1,htr.2.2.1⟩
    have Ze:=hnJ;rw [hJ,List.nodup_append] at Ze;obtain ⟨hn1,hn2,AX⟩:=Ze;rw [List.nodup_append] at hn2;obtain ⟨hn4,hn5,hn6⟩:=hn2;rw [List.nodup_append] at hn5;have yS:∀i ∈ J1,i ∈ J:=fun i hi=>by rw [hJ];exact List.mem_append_right _ (List.mem_append_left _ hi)
    have abC:∀i ∈ K1,i ∈ J:=fun i hi=>by rw [hJ];exact List.mem_append_right _ (List.mem_append_right _ (List.mem_append_left _ hi))
    have alf:∀i ∈ K2,i ∈ J:=fun i hi=>by rw [hJ];exact List.mem_append_right _ (List.mem_append_right _ (List.mem_append_right _ hi))
    have alg:∀i ∈ Ja,i ∈ J:=fun i hi=>by rw [hJ];exact List.mem_append_left _ hi
    have LQ:(s::q::(J1++K1)).Nodup:=List.nodup_cons.2 ⟨fun e=>by
     rcases List.mem_cons.1 e with e|e
     ·exact zu e
     ·rcases List.mem_append.1 e with e|e
      ·exact hsJ (yS _ e)
      ·exact hsJ (abC _ e),List.nodup_cons.2 ⟨fun e=>by
      rcases List.mem_append.1 e with e|e
      ·exact n3 (yS _ e)
      ·exact n3 (abC _ e),List.nodup_append.2 ⟨hn4,hn5.1,fun i hi j hj=>hn6 i hi j (List.mem_append_left _ hj)⟩⟩⟩
    repeat' (first
    |((with_reducible refine (?_:∃c:List AV,_∧_));refine ⟨_,(by first|exact hb|exact hq|exact hs),?_⟩;(conv=>whnf))
    |((with_reducible refine (?_:∃(blk:Bool),_));refine aR.get ?_)
    |refine nX ?_;conv=>whnf
    |(with_reducible refine (?_:wv _=true->aV _=true->_));intro hwr hwb
    |(with_reducible refine (?_:aV _=true->_));intro hw;conv=>whnf
    |with_reducible assumption
    |((with_reducible intro h);exfalso;simp only [WB,decide_eq_true_eq,decide_eq_false_iff_not] at h;first|done|omega|exact h rfl)
    |((with_reducible intro h);exfalso;simp at h;done)
    |((with_reducible refine (?_:∃(j:Nat) (τ':aJ),_));refine aR.get ?_)
    |(first|with_reducible refine aX ho ?_|with_reducible refine aQ ho ?_|with_reducible refine aD ho ?_|with_reducible refine ay ho ?_|with_reducible refine az ?_);conv=>whnf
    |with_reducible refine And.intro ?_ ?_
    |exact cL
    |(with_reducible intro h);first|(cases h;done)|(try simp only [lG,reduceCtorEq] at h);first|done|(exfalso;omega)|replace h:=h trivial aZ|replace h:=h aZ|skip
    |fail)
    have Tz:jl bx1.length bx1:=by rw [hl];exact zX
    refine aR.mk ⟨blk,(bO blk c a).2,ca,x,v,uN,zT,d2,J1,K1,⟨hw,Tz,hs,rfl,hq,oM,oM,hk1,hk2,LQ,⟨abu,Wy.1,Wy.2⟩,oM,oM,oM⟩,?_⟩;clear hs;intro b5 hl5 mX hs5 hx5 hk5 hk6 AU;replace hl5:b5.length=bx1.length:=hl5;replace mX:jl bx1.length b5:=mX;replace AU:∀j,j≠s->j≠q->j ∉ J1->j ∉ K1->b5[j]?=bx1[j]?:=AU
    conv=>whnf
    repeat' (first
    |((with_reducible refine (?_:∃c:List AV,_∧_));refine ⟨_,(by first|exact hb|exact hq|exact hs),?_⟩;(conv=>whnf))
    |((with_reducible refine (?_:∃(blk:Bool),_));refine aR.get ?_)
    |refine nX ?_;conv=>whnf
    |(with_reducible refine (?_:wv _=true->aV _=true->_));intro hwr hwb
    |(with_reducible refine (?_:aV _=true->_));intro hw;conv=>whnf
    |with_reducible assumption
    |((with_reducible intro h);exfalso;simp only [WB,decide_eq_true_eq,decide_eq_false_iff_not] at h;first|done|omega|exact h rfl)
    |((with_reducible intro h);exfalso;simp at h;done)
    |((with_reducible refine (?_:∃(j:Nat) (τ':aJ),_));refine aR.get ?_)
    |(first|with_reducible refine aX ho ?_|with_reducible refine aQ ho ?_|with_reducible refine aD ho ?_|with_reducible refine ay ho ?_|with_reducible refine az ?_);conv=>whnf
    |with_reducible refine And.intro ?_ ?_
    |exact cL
    |(with_reducible intro h);first|(cases h;done)|(try simp only [lG,reduceCtorEq] at h);first|done|(exfalso;omega)|replace h:=h trivial aZ|replace h:=h aZ|skip
    |fail)
    have hsn:=yH blk x v c a ha2;refine aR.mk ⟨_,_,?_,Rx.prune [0,1,9,10],a++[x,v],r,ca++((((aj x).1.ld ((bO blk c a).2++x.lead)).ce uN).l++(((gY (aL blk (aj x).2 [] v).1 (aL blk (aj x).2 [] v).2).1.ce zT).l)),d2,Ja++(J1++K1),K2,b5,a.length+1+1,by rw [hkk,List.append_assoc];rfl,by simp only [lL];omega,.inl ?_,rfl,rfl,oM,by rw [hsn];exact hs5,by rw [hx5,List.append_assoc,List.append_assoc],?_,?_,by rw [hJ,List.append_assoc,List.append_assoc],?_,by rw [hl] at mX;exact mX⟩
    ·omega
    ·simp only [lL];omega
    ·rw [hsn];refine sS.2 ⟨ca,_,Ja,_,rfl,rfl,hA.fr fun i hi=>?_,dm.2 ⟨_,_,J1,K1,rfl,rfl,gF.2 ⟨uN,rfl,by rw [Wo];exact hk5⟩,eF.one (gF.2 ⟨zT,rfl,hk6⟩)⟩⟩;have Fj:=alg i hi;exact AU i (fun e=>hsJ (e▸Fj)) (fun e=>n3 (e▸Fj)) (fun e=>AX i hi i (List.mem_append_left _ e) rfl) (fun e=>AX i hi i (List.mem_append_right _ (List.mem_append_left _ e)) rfl)
    ·refine hR3.fr fun i hi=>?_;have Fj:=alf i hi;exact AU i (fun e=>hsJ (e▸Fj)) (fun e=>n3 (e▸Fj)) (fun e=>hn6 i e i (List.mem_append_right _ hi) rfl) (fun e=>hn5.2.2 i e i hi rfl)
    ·intro j g1 g2 g3;exact (AU j g1 g2 (fun e=>g3 (yS j e)) (fun e=>g3 (abC j e))).trans (hag j g1 g2 g3)
theorem aeX {m:Nat} (Zg:aC.OK Tryz.prog 42 (Om m)) (abD:aC.OK Tryz.prog 101 (G6 m)):aC.OK Tryz.prog 71 (Zw m):=by
 intro args bx K0 h;unfold Zw at h;split at h
 ·obtain ⟨blk,c,pre,k,y,p,bb,an,tg,tx,q,lc,fc,h,tr,post,kids,cc,J,⟨h1,h2,h3,h4,h5,h6,h7,h8,⟨h9,h10⟩,h11,h12,LX⟩,-⟩:=h;rcases h8 with rfl|⟨rfl,h8⟩
  ·exact aeV Zg h1 h2 h3 h4 h5 h6 h7 h9 h10 h11 h12 LX
  ·exact aeW Zg abD h1 h2 h3 h4 h5 h6 h7 h8 h9 h10 h11 h12 LX
 ·exact h.elim
theorem Cn {blk:Bool} {c:List Cm} {k y p b:Int} {an tg tx:ByteArray} {kids:List Nd} {lead ae:List Cm} {h:Bool} {tr:ByteArray} (hk:k=3∨k=4) (hne:0<kids.length):aL blk [] c (.mk k y p b an tg tx kids lead ae h tr)=mK blk k y p b an tg tx (bC (decide (y=6)||(blk && decide (y=7))) (lX blk k c kids).1).1 (lead++(bC (decide (y=6)||(blk && decide (y=7))) (lX blk k c kids).1).2) ae h tr (lX blk k c kids).2:=by
 cases kids with
 |nil=>simp at hne
 |cons x l=>
  rw [aL,if_pos hk];simp only [List.nil_append,lX]
theorem Rq {blk:Bool} {c:List Cm} {k y p b:Int} {an tg tx:ByteArray} {lead ae:List Cm} {h:Bool} {tr:ByteArray} (hk:k=3∨k=4):aL blk [] c (.mk k y p b an tg tx [] lead ae h tr)=(.mk k y p b an tg tx [] (lead++ae) [] h tr,c):=by rw [aL,if_pos hk];simp only [List.nil_append]
theorem zP {blk:Bool} {k:Int} {c:List Cm} {kids:List Nd}:(lX blk k c kids).1.length=kids.length:=by
 unfold lX;split
 ·exact jS blk c kids
 ·exact iQ blk c kids
theorem zR {blk:Bool} {k:Int} {c:List Cm} {kids:List Nd}:cK (lX blk k c kids).1+(lX blk k c kids).2.length<=c.length+cK kids:=by
 unfold lX;split
 ·exact um blk c kids
 ·exact uo blk c kids
theorem ag.node {mY:aC} {args:List AV} {bx:List (List AV)} {r:AV} {b:List (List AV)} {i o:Nat} {pre post:List AV} {k y p bb:Int} {an tg tx:ByteArray} {kc lc fc:AV} {h:Bool} {tr:ByteArray} {l1 l2:List Cm} (hb:aV b=true) (hx:wZ b i o pre ⟨k,y,p,bb,an,tg,tx,kc,lc,fc,h,tr⟩ post) (h1:Wk lc (cs l1)) (h2:Wk fc (cs l2))
  (hh:∀b2:List (List AV),aV b2=true->b2.length=b.length->wZ b2 i o pre ⟨k,y,p,bb,an,tg,tx,kc,cs l1,cs l2,h,tr⟩ post->(∀j,j≠i->b2[j]?=b[j]?)->ag mY args bx r b2):ag mY args bx r b:=by
 have hx1:=hx.1;refine ag.box hb hx1 (c':=pre++((Ce.mk k y p bb an tg tx kc (cs l1) (cs l2) h tr).l++post)) (mQ.app (.refl pre) (mQ.app ?_ (.refl post))) ?_ (fun b2 g1 g2 g3 g4=>hh b2 g1 g2 ⟨g3,hx.2⟩ g4)
 ·exact .cons (.refl _) (.cons (.refl _) (.cons (.refl _) (.cons (.refl _) (.cons (.refl _) (.cons (.refl _) (.cons (.refl _) (.cons (.refl _) (.cons h1 (.cons h2 (.refl _))))))))))
 ·have h0:=KP hb hx1;rw [dB] at h0⊢;intro v hv;rcases List.mem_append.1 hv with hv|hv
  ·exact h0 v (List.mem_append_left _ hv)
  ·rcases List.mem_append.1 hv with hv|hv
   ·have hc:∀l:List Cm,(cs l).one=true∧wv (cs l)=true:=fun l=>⟨rfl,sM l⟩;have hkc:=h0 kc (List.mem_append_right _ (List.mem_append_left _ (by simp [Ce.l])));simp only [Ce.l,List.mem_cons,List.not_mem_nil,or_false] at hv;rcases hv with rfl|rfl|rfl|rfl|rfl|rfl|rfl|rfl|rfl|rfl|rfl|rfl<;>first|exact hkc|exact hc _|exact ⟨rfl,rfl⟩
   ·exact h0 v (List.mem_append_right _ (List.mem_append_right _ hv))
theorem JW {m s b o:Nat} {blk:Bool} {c:List Cm} {pre post:List AV} {k y p bb:Int} {an tg tx tr:ByteArray} {kc:AV} {lead ae:List Cm} {h:Bool} {kids:List Nd} {I:List Nat} {bx bx':List (List AV)} {K:AV->List (List AV)->Prop} (hK:Om m [.ptr s 0,.ptr b o] bx K) (hs:bx[s]?=some [.bool blk,cs c]) (hx:wZ bx b o pre ⟨k,y,p,bb,an,tg,tx,kc,cr lead,cs ae,h,tr⟩ post) (hk:eQ bx kids kc I) {R:Nd×List Cm} (hR:aL blk [] c (.mk k y p bb an tg tx kids lead ae h tr)=R)
  (d1:bx'.length=bx.length) (d2:jl bx.length bx') (d3:bx'[s]?=some [.bool blk,cs R.2]) (d4:wZ bx' b o pre (R.1.ce kc) post) (d5:eQ bx' R.1.kids kc I) (d6:∀j,j≠s->j≠b->j ∉ I->bx'[j]?=bx[j]?):K (.bX []) bx':=by
 subst hR;obtain ⟨ab8,c',pre',k',y',p',bb',PX,OV,OQ,SQ,mD,qA,h',EF,post',jC,I',⟨-,-,hs',hx',hk',-⟩,hK⟩:=hK;rw [hs,Option.some.injEq,List.cons.injEq,List.cons.injEq,AV.bool.injEq] at hs';obtain ⟨rfl,e2,-⟩:=hs';obtain rfl:=oK e2;obtain ⟨rfl,e,rfl⟩:=hx.inj hx';simp only [Ce.mk.injEq] at e;obtain ⟨rfl,rfl,rfl,rfl,rfl,rfl,rfl,rfl,e3,e4,rfl,rfl⟩:=e;obtain rfl:=Ua e3;obtain rfl:=oK e4;obtain ⟨rfl,rfl⟩:=eQ.inj hk hk';exact hK bx' d1 d2 d3 d4 d5 d6
theorem FT.mld {k k2 i c0 n:Nat} {wr wr2 al al2:Bool} {Ei:List Nat} {c c':List AV} {ch2:List (Nat×List AV×List AV)} (h1:c.length=c'.length) (h2:(c.drop c0).take n=(c'.drop c0).take n):FT ⟨k,[i],wr,al,none,[(i,c,c')]⟩ ⟨k2,Ei,wr2,al2,some (i,c0,n),ch2⟩:=FT.uJ (by
 unfold wY;simp only [assoc,Nat.beq_refl];exact ⟨h1,h2⟩)
def abI:=fN 42 Tryz.f42 123 []
theorem afa {m s b o:Nat} {blk:Bool} {c:List Cm} {pre post:List AV} {k y p bb:Int} {an tg tx tr:ByteArray} {lead ae:List Cm} {hh:Bool} {bx:List (List AV)} (hk:k=3∨k=4) (hw:aV bx=true) (hcl:jl bx.length bx) (hs:bx[s]?=some [.bool blk,cs c]) (hx:wZ bx b o pre ⟨k,y,p,bb,an,tg,tx,.sl 0 [],cr lead,cs ae,hh,tr⟩ post) (hsb:s≠b) (hn:lead.length+ae.length<=10000000000):
  ∃r bx',aW Tryz.prog 42 [.ptr s 0,.ptr b o] bx r bx'∧wv r=true∧aV bx'=true∧∀K,Om (m+1) [.ptr s 0,.ptr b o] bx K->K r bx':=by
 have hb:bx[b]?=some (pre++(.int .i64 k::.int .i64 y::.int .i64 p::.int .i64 bb::.str an::.str tg::.str tx::.sl 0 []::cr lead::cs ae::.bool hh::.str tr::post)):=hx.1;have ho:=hx.2;have hs0:=hs;have hb0:=hb;have hl:bx.length=bx.length:=rfl;have hag:∀j,j≠s->j≠b->bx[j]?=bx[j]?:=fun _ _ _=>rfl;refine abI.U8 rfl hw ?_;have B:=V.base (af.nil);have zE:Ev _ _ _ (aH 42) [] []:=⟨B⟩
 conv=>whnf
 repeat' (first
 |((with_reducible refine (?_:∃c:List AV,_∧_));refine ⟨_,(by first|exact hb|exact hs),?_⟩;(conv=>whnf))
 |((with_reducible refine (?_:∃(blk:Bool),_));refine aR.get ?_)
 |refine nX ?_;conv=>whnf
 |(with_reducible refine (?_:wv _=true->aV _=true->_));intro hwr hwb
 |(with_reducible refine (?_:aV _=true->_));intro hw;conv=>whnf
 |with_reducible assumption
 |((with_reducible intro h);exfalso;simp at h;done)
 |((with_reducible refine (?_:FT _ _));refine FT.mld (by simp only [List.length_append];rfl) ?_;rw [jW ho,jW ho];rfl)
 |((with_reducible refine gQ.mk (i:=b) ?_);intro b1 hl1 hb hr1;replace hl:=hl1.trans hl;replace hs:=(hr1 s hsb).trans hs;replace hag:=(fun j g1 g2=>(hr1 j g2).trans (hag j g1 g2));(conv=>whnf))
 |(first|with_reducible refine aX ho ?_|with_reducible refine aQ ho ?_|with_reducible refine aD ho ?_|with_reducible refine ay ho ?_|with_reducible refine az ?_);conv=>whnf
 |with_reducible refine And.intro ?_ ?_
 |exact cL
 |(with_reducible intro h);first|(cases h;done)|(try simp only [lG,reduceCtorEq] at h);first|done|(exfalso;omega)|replace h:=h trivial aZ|replace h:=h aZ|skip
 |fail)
 all_goals
  replace hl:b1.length=bx.length:=hl;replace hag:∀j,j≠s->j≠b->b1[j]?=bx[j]?:=hag;have hx1:wZ b1 b o pre ⟨k,y,p,bb,an,tg,tx,.sl 0 [],.row 56 2 (lead.length+ae.length) (fQ lead++fQ ae),.nil,hh,tr⟩ post:=⟨hb,ho⟩;rw [Ad] at hx1;refine ag.node hwb hx1 (Wk.cr _) Wk.sK fun b2 hw2 hl2 hx2 hr2=>?_;replace hl2:b2.length=b1.length:=hl2;replace hr2:∀j,j≠b->b2[j]?=b1[j]?:=hr2;refine ag.mk hwr hw2 fun K hK=>?_;refine JW hK hs0 hx (I:=[]) (kids:=[]) (.inl ⟨rfl,rfl,rfl⟩) (Rq hk) oM (hcl.KR (q:=b) (fun j _ hne=>?_) hb0 hx2.1 (fun i hi=>?_)) ((hr2 s hsb).trans hs) hx2 (.inl ⟨rfl,rfl,rfl⟩) (fun j g1 g2 _=>(hr2 j g2).trans (hag j g1 g2))
  ·by_cases e:j=s
   ·rw [e,hr2 s hsb,hs0];exact hs
   ·exact (hr2 j hne).trans (hag j e hne)
  ·rw [dA,dA,oN] at hi;simp only [dM,AV.ids,AV.aN,List.append_nil,List.nil_append] at hi;rw [dA];simpa only [AV.aN,AV.ids,dM,kS,List.nil_append,List.append_nil] using hi
def c10:aC:=fun args bx K=>match args,bx with
 |[],[]=>K (.bool true) []
 |_,_=>False
theorem Sj:aC.OK Tryz.prog 10 c10:=by
 intro args bx K0 h;unfold c10 at h;split at h
 ·exact ⟨.bool true,[],UJ,rfl,rfl,fun K hK=>hK⟩
 ·exact h.elim
def c13:aC:=fun args bx K=>match args,bx with
 |[.agg dc,.bool blk],[]=>∃d:Dc,dc=rR d∧((fD d.root<=3210000000∧iI d.root+d.ae.length<=3210000000∧d.head.length<=60000∧d.gM.length<=20000∧yX d.root=true∧Bh d.root=true)∧K (.agg (rR (nU blk d))) [])
 |_,_=>False
theorem N8 {a post:List Dc} {d:Dc} {n:Nat} (hn:n=a.length):List.drop (n*16) (jY (a++d::post))=rR d++jY post:=by subst hn;rw [GN,←BB,List.drop_left,jY]
theorem Lu (x:Nd) (l:List Cm):fD (x.ld l)=fD x:=by cases x;rw [Nd.ld,fD,fD]
mutual
theorem Fa:∀x:Nd,fD (aj x).1=fD x
 |.mk k y p b an tg tx kids lead ae h tr=>by rw [aj,fD,fD,CQ kids]
theorem CQ:∀l:List Nd,bS (aP l).1=bS l
 |[]=>rfl
 |x::l=>by rw [aP,bS,bS,CQ l,Lu,Fa x]
end
theorem V8 (x:Nd) (c:List Cm):fD (gY x c).1=fD x:=by
 unfold gY;split
 ·cases x;rw [Nd.bare,fD,fD]
 ·rfl
theorem Pb (b:Bool) (l:List Nd):bS (bC b l).1=bS l:=by
 unfold bC;split
 ·rw [bS,bS,Lu]
 ·rfl
theorem V9 {blk:Bool} {k y p b:Int} {an tg tx:ByteArray} {kids:List Nd} {lead ae:List Cm} {h:Bool} {tr:ByteArray} {c:List Cm}:fD (mK blk k y p b an tg tx kids lead ae h tr c).1=1+bS kids:=by
 unfold mK;split
 ·rw [fD]
 ·split
  ·rw [fD]
  ·rw [fD]
mutual
theorem Gs (blk:Bool):∀(pre c:List Cm) (x:Nd),fD (aL blk pre c x).1=fD x
 |pre,c,.mk k y p b an tg tx [] lead ae h tr=>by
  rw [aL];split
  ·rw [fD,fD]
  ·rw [fD,fD]
 |pre,c,.mk k y p b an tg tx (x::l) lead ae h tr=>by
  rw [aL];split
  ·simp only [];rw [V9,Pb,fD];split
   ·rw [Ny blk c (x::l)]
   ·rw [Nz blk c (x::l)]
  ·rw [fD,fD]
theorem Ny (blk:Bool):∀(c:List Cm) (l:List Nd),bS (bP blk c l).1=bS l
 |c,[]=>by rw [bP]
 |c,x::l=>by rw [bP];simp only [];rw [bS,bS,Gs blk c [] x,Ny blk _ l]
theorem Nz (blk:Bool):∀(c:List Cm) (l:List Nd),bS (bO blk c l).1=bS l
 |c,[]=>by rw [bO]
 |c,[x]=>by rw [bO]
 |c,x::v::l=>by rw [bO];simp only [];rw [bS,bS,bS,bS,Lu,Fa,V8,Gs blk _ [] v,Nz blk _ l]
end
theorem IX (blk:Bool) (d:Dc):fD (nU blk d).root=fD d.root:=Gs blk [] [] d.root
theorem IY (blk:Bool) (d:Dc):iI (nU blk d).root+(nU blk d).ae.length<=iI d.root+d.ae.length:=by have:=mO blk [] [] d.root;simp only [List.length_nil] at this;show iI (aL blk [] [] d.root).1+((aL blk [] [] d.root).2++d.ae).length<=_;rw [List.length_append];omega
theorem Di {ds:List Dc} (h:∀d ∈ ds,DW d):∀d ∈ ds,FU d:=fun d hd=>(h d hd).jA
theorem Jn {ids:List Nat}:∀{tm:Tm},(∀p ∈ tm,iY p.2=[])->ny ids tm tm
 |[],_=> .nil
 |(k,v)::r,h=> .cons (.same (h (k,v) (by simp))) (Jn fun p hp=>h p (by simp [hp]))
theorem Xm {tm:Tm} {bx:List (List AV)} (h:∀p ∈ tm,iY p.2=[]):Rx 0 ⟨tm,bx⟩ ⟨tm,[]⟩:=fun hσ=>Rx.pick [] dE (fun i hi=>absurd hi (Nat.not_lt_zero _)) .nil (Jn h) ⟨hσ.tm,rfl⟩ hσ
theorem GI {ds a post:List Dc} {d:Dc} (h:∀d ∈ ds,FU d) (hk:ds=a++d::post):FU d:=h d (by rw [hk];simp)
def LT1 (n:Nat) (l:List AV) (blk:Bool) (j:Nat) (τ:aJ):Prop:=∃(i:Int) (s:ByteArray),(0<=i∧i<=2)∧s.size<=20000∧j=(2-i).toNat∧τ=⟨[(7,.int .i64 i),(2,.bool blk),(1,.sl n l),(0,.str s)],[]⟩
def LT2 (n:Nat) (l:List AV) (blk:Bool) (i:Int) (ds:List Dc) (T:AV) (j:Nat) (τ:aJ):Prop:=(∀d ∈ ds,FU d)∧∃a r:List Dc,ds=a++r∧j=r.length∧τ=⟨[(11,.int .i64 a.length),(8,.ptr 0 0),(7,.int .i64 i),(2,.bool blk),(1,.sl n l)],[[.sl ds.length (jY ds),T]]⟩
def c3:aC:=fun args bx K=>match args,bx with
 |[.str s,.sl n l,.bool blk],[]=>(∃ks:List Int,(n=ks.length∧l=jh ks))∧K (.bool true) []
 |_,_=>False
theorem Zu {tm:Tm} {b:List AV} {r:List (List AV)} (h:∀p ∈ tm,iY p.2=[]∨iY p.2=[0]) (hb:bW b=[]) (hp:ny [0] tm tm):Rx 0 ⟨tm,b::r⟩ ⟨tm,[b]⟩:=fun hσ=>Rx.pick [0] dE (fun i hi=>absurd hi (Nat.not_lt_zero _)) (.same rfl hb .nil) hp ⟨hσ.tm,by
 have:=hσ.bx;rw [aV,Bool.and_eq_true] at this;rw [aV,this.1];rfl⟩ hσ
theorem vI {l a post:List Nd} {x:Nd} (h:l=a++x::post):l[a.length]?=some x:=by rw [h,List.getElem?_append_right (Nat.le_refl _)];simp
end V
end
end Go.Proofs.YtlmjabnkjmfcmaaGreat
