/- Parts of a proof; no condition. -/
import Derived.Test.YtlmjabnkjmfcmaaGreatR8
namespace Go.Proofs.YtlmjabnkjmfcmaaGreat
open Go Go.RowKit Go.PlainAid
set_option linter.unusedVariables false
set_option linter.unusedSimpArgs false
set_option linter.unusedSectionVars false
set_option maxHeartbeats 20000000
set_option linter.defProp false
section
variable [nM]
namespace V
open Ab
variable {P : Program} {T : kZ} {sp : Sp} {n0 base : Nat} {σ τ : aF} {Q : zV -> aF -> Prop} {cal : BR}
def ae2 (sp:Sp) (T:kZ) (md:Md) (all:List Oper) (kn:Kn) (o:Oper) (σ:aF) (K:Kn->aF->Prop):Prop:=
 match o.op with
 |.call c=>
  match He c with
  |some (x,y,t)=>
   match o.dst with
   |some d=>
    match mem d md.arr with
    |true=>
     match o.guard with
     |none=>∃τ,E8 T md d σ x y t=some τ∧Ok τ∧Go (K [] τ)
     |some _=>False
    |false=>Ol sp false T md all kn o σ fun _ kn τ=>K kn τ
   |none=>Ol sp false T md all kn o σ fun _ kn τ=>K kn τ
  |none=>Ol sp false T md all kn o σ fun _ kn τ=>K kn τ
 |_=>Ol sp false T md all kn o σ fun _ kn τ=>K kn τ
theorem KN.nil (σ:aF):KN [] σ:=by intro x b h;cases x<;>cases h
theorem abb (hI:Is sp cal) (hT:sW T) {md:Md} {all:List Oper} {kn:Kn} {o:Oper} {K:Kn->aF->Prop} (hσ:Ok σ) (hk:KN kn σ) (h:ae2 sp T md all kn o σ K):∃σ1 σ2 zx,yx cal T md all o σ=some σ1∧Ok σ2∧Xx false σ1 σ2∧KN zx σ2∧K zx σ2:=by
 have hG:(Ol sp false T md all kn o σ fun _ kn τ=>K kn τ)->∃σ1 σ2 zx,nK cal T md all o σ=some σ1∧Ok σ2∧Xx false σ1 σ2∧KN zx σ2∧K zx σ2:=by intro h;obtain ⟨σ1,σ2,go,zx,h1,h2,h3,h4,h5,h6⟩:=TZ hI hT hσ hk h;exact ⟨σ1,σ2,zx,h1,h3,h4,h5,h6⟩
 unfold ae2 at h;unfold yx;split at h
 ·rename_i c hc;rw [hc];simp only [];split at h
  ·rename_i x y t hap;rw [hap];simp only [];split at h
   ·rename_i d hd;rw [hd];simp only [];split at h
    ·rename_i hm;rw [hm];simp only [];split at h
     ·rename_i hg;rw [hg];obtain ⟨τ,h1,h2,h3⟩:=h;exact ⟨τ,τ,[],h1,h2,.inl rfl,KN.nil τ,h3⟩
     ·exact h.elim
    ·rename_i hm;rw [hm];exact hG h
   ·rename_i hd;rw [hd];exact hG h
  ·rename_i hap;rw [hap];exact hG h
 ·rename_i hno;split
  ·rename_i c hc;exact absurd hc (hno c)
  ·exact hG h
def ae1 (sp:Sp) (T:kZ) (md:Md) (all:List Oper):List Oper->Kn->aF->(aF->Prop)->Prop
 |[],_,σ,K=>K σ
 |o::r,kn,σ,K=>ae2 sp T md all kn o σ fun kn τ=>ae1 sp T md all r kn τ K
theorem Xx.hold {ex:Bool} {m:Nat->Prop} {lim:Nat->Nat} {bs:List Nat} {w:World} {a:Act} (h:Xx ex σ τ) (H:aB lim bs w σ.bx (Sl σ.tm a) m):aB lim bs w τ.bx (Sl τ.tm a) m:=by
 rcases h with rfl|⟨-,tm,d,e,z,b,rfl,rfl⟩
 ·exact H
 ·have hg:∀(v:AV) (k:Nat),Sl (put tm d v) a k=if k=d then (v,a.tmps.getD k undef) else Sl tm a k:=by intro v k;unfold Sl;rw [ah];split<;>rfl
  have h0:AV.R lim bs w .nil (a.tmps.getD d undef):=by have:=H.slot d;rw [show (Sl (put tm d AV.nil) a d)=(AV.nil,a.tmps.getD d undef) from by rw [hg,if_pos rfl]] at this;exact this
  rw [AV.R] at h0;have ho:∀p g,Ab.Own w bs b (Sl (put tm d (.row e z 0 [])) a) p g->Ab.Own w bs b (Sl (put tm d .nil) a) p g:=by
   intro p g hp;cases p with
   |b i j=>exact hp
   |t k=>
    obtain ⟨h1,h2⟩:=hp;rw [hg] at h1 h2;by_cases hk:k=d
    ·subst hk;rw [if_pos rfl] at h2;have h2:(a.tmps.getD k undef).ownBlock=some g:=h2;rw [h0] at h2;cases h2
    ·rw [if_neg hk] at h1 h2;exact ⟨by rw [hg,if_neg hk];exact h1,by rw [hg,if_neg hk];exact h2⟩
  refine ⟨H.len,H.BX,H.free,H.mb,H.box,fun k=>?_,fun k=>?_,H.top,fun p g hp=>H.own p g (ho p g hp),fun p q g hp hq=>H.qO p q g (ho p g hp) (ho q g hq)⟩
  ·have:=H.slot k;rw [hg] at this⊢;by_cases hk:k=d
   ·subst hk;rw [if_pos rfl];show AV.R lim bs w (.row e z 0 []) _;rw [AV.R];exact ⟨by simp,rfl,.inl ⟨h0,rfl⟩⟩
   ·rw [if_neg hk] at this⊢;exact this
  ·have:=H.kN k;rw [hg] at this⊢;by_cases hk:k=d
   ·rw [if_pos hk];rfl
   ·rw [if_neg hk] at this⊢;exact this
theorem Xx.go {ex:Bool} {n:Nat} {m:Nat->Prop} {lim lim':Nat->Nat} {bs bs':List Nat} {w w':World} {a a':Act} {ρ:aF} (h:Xx ex σ τ) (hg:rW n m lim bs w a σ lim' bs' w' a'):rW n m lim bs w a τ lim' bs' w' a':=⟨h.hold hg.hold,hg.fr,hg.pre,hg.nt,hg.df⟩
theorem TW (HT:mM P T) (HC:fB P cal) (hI:Is sp cal) (hT:sW T) {ops:Array Oper} {md:Md} {K:aF->Prop}:∀(l:List Oper) {kn:Kn} {σ:aF},Ok σ->KN kn σ->ae1 sp T md ops.toList l kn σ K->∃τ,Ok τ∧K τ∧∀{m:Nat->Prop} {lim:Nat->Nat} {bs:List Nat} {w:World} {a:Act} {Q:Exit->Act->World->Prop},(∀o ∈ l,∀k,o.dst=some k->k<a.tmps.size)->aB lim bs w σ.bx (Sl σ.tm a) m->(∀b,w.heap.size<=b->m b)->kJ md.base m lim bs w a τ (Q .normal)->wpList P ops Q l a w
 |[],kn,σ,hσ,hk,h=>⟨σ,hσ,h,fun hd H hm hK=>wpList_nil (hK _ _ _ _ ⟨H,Fr.refl,fun _ _ _ h=>h,rfl,rfl⟩)⟩
 |o::l,kn,σ,hσ,hk,h=>by obtain ⟨σ1,σ2,zx,h1,h2,h3,h4,h5⟩:=abb (cal:=cal) hI hT hσ hk h;obtain ⟨τ,g1,g2,g3⟩:=TW HT HC hI hT l h2 h4 h5;refine ⟨τ,g1,g2,fun hd H hm hK=>wpList_step fun K' hK'=>?_⟩;refine ED HT HC H hm (fun k hk=>hd o List.mem_cons_self k hk) h1 (fun eQ mY w1 a2 hg=>hK' a2 w1 ?_);have hg:=h3.go (ρ:=σ) hg;exact g3 (fun o ho k hk=>by rw [hg.nt];exact hd o (List.mem_cons_of_mem _ ho) k hk) hg.hold (fun b hb=>hm b (Nat.le_trans hg.fr.bel.size hb)) (fun jB wR w2 a3 hg2=>hK jB wR w2 a3 (hg.trans hg2))
theorem rU {i:Nat} {ops:Array Oper} {draw:Bool} (hg:jK n0 (.region i ops draw)=true) {a:Act} (hn:n0<=a.tmps.size):∀o ∈ ops.toList,∀d,o.dst=some d->d<a.tmps.size:=by rw [jK,Bool.and_eq_true] at hg;intro o ho d hd;have h1:=hg.1;rw [List.all_eq_true] at h1;have:=h1 o ho;rw [hd] at this;simp only [decide_eq_true_eq] at this;exact Nat.lt_of_lt_of_le this hn
def Qu (live:List Nat) (Q:zV->aF->Prop) (τ:aF):Prop:=
 match τ with
 |⟨tm,bx⟩=>JG live tm fun tm=>Q .normal ⟨tm,bx⟩
structure Em (P:Program) (T:kZ) (sp:Sp):Prop where
 tok:mM P T
 well:sW T
 sp:ae P sp
def opK:List Oper->(List Oper->Prop)->Prop
 |[],K=>K []
 |o::r,K=>opK r fun r=>K (o::r)
theorem EE:∀(l:List Oper) (K:List Oper->Prop),opK l K=K l
 |[],_=>rfl
 |o::r,K=>by rw [opK,EE r]
theorem WP.qy (B:Em P T sp) (an:Gm) {i:Nat} {ops:Array Oper} (h:opK ops.toList fun all=>AY (qU all++an.adl) fun ad=>AY an.arr fun arr=>AY (an.live.getD i []) fun live=>ae1 sp T ⟨ad,arr,base⟩ all all [] σ (Qu live Q)):WP P n0 base (.region i ops false) σ Q:=by refine WP.mk fun hg hσ=>?_;obtain ⟨cal,HC,hI⟩:=qM B.sp;rw [EE,kP,kP,kP] at h;obtain ⟨τ,g1,g2,g3⟩:=TW B.tok HC hI B.well ops.toList hσ (KN.nil σ) h;change (JG (an.live.getD i []) τ.tm fun tm=>Q .normal ⟨tm,τ.bx⟩) at g2;rw [xI] at g2;refine ⟨.normal,⟨prune (an.live.getD i []) τ.tm,τ.bx⟩,fun hn hb H hm hK=>?_,⟨iZ _ g1.tm,g1.bx⟩,g2⟩;exact wp_region_list (g3 (rU hg hn) H hm fun lim' bs' w' a' hgo=>hK lim' bs' w' a' ⟨hgo.hold.prune _,hgo.fr,hgo.pre,hgo.nt,hgo.df⟩)
def ldG (T:kZ) (ad:List Nat) (go:Bool) (o:Oper) (σ:aF):Option (Nat×Nat×Nat):=
 match go with
 |true=>
  match o.op with
  |.load t a=>
   match jb ad o.dst with
   |true=>none
   |false=>
    match val σ.tm a with
    |.ptr i c=>
     match T t with
     |some d=>some (i,c,if d.agg=true then d.size else 1)
     |none=>none
    |_=>none
  |_=>none
 |false=>none
def abn (go:Bool) (o:Oper) (σ:aF):List Nat:=
 match go with
 |true=>OD (val σ.tm) σ.bx o.op
 |false=>[]
def Xl (T:kZ) (ad:List Nat) (go:Bool) (k:Nat) (o:Oper) (σ τ:aF):jk:=
 ⟨k,abn go o σ++news σ.bx.length τ.bx.length,lI ad o,!Nat.ble τ.bx.length σ.bx.length,ldG T ad go o σ,if lI ad o=true then EY σ τ (abn go o σ) else []⟩
theorem VL {ad:List Nat} {all:List Oper} {go:Bool} {k:Nat} {o:Oper} (hσ:Ok σ) (hg:sU all o σ=some go):jH T ad all k o σ τ=Xl T ad go k o σ τ:=by
 have h1:dW all o σ=abn go o σ:=by
  unfold dW abn;rw [hg];cases go with
  |true=>exact CG (rX hσ.tm) hσ.bx o.op
  |false=>rfl
 unfold jH Xl;rw [h1];congr 1;unfold AZ ldG;rw [hg];cases go<;>rfl
def XI (sp:Sp) (T:kZ) (md:Md) (all:List Oper):List (Nat×Oper)->Kn->aF->List jk->(List jk->aF->Prop)->Prop
 |[],_,σ,A,K=>K A σ
 |(k,o)::r,kn,σ,A,K=>Ol sp true T md all kn o σ fun go kn τ=>
  match (Xl T md.ad go k o σ τ).ids.isEmpty && !(Xl T md.ad go k o σ τ).al with
  |true=>XI sp T md all r kn τ A K
  |false=>XI sp T md all r kn τ (A++[Xl T md.ad go k o σ τ]) K
theorem LJ (hI:Is sp cal) (hT:sW T) {md:Md} {all:List Oper} {K:List jk->aF->Prop}:∀(l:List (Nat×Oper)) {kn:Kn} {σ:aF} {A:List jk},Ok σ->KN kn σ->XI sp T md all l kn σ A K->∃B τ,vT cal T all md l σ=some (B,τ)∧Ok τ∧K (A++B) τ
 |[],kn,σ,A,hσ,hk,h=>⟨[],σ,rfl,hσ,by rw [List.append_nil];exact h⟩
 |(k,o)::r,kn,σ,A,hσ,hk,h=>by
  rw [XI] at h;obtain ⟨σ1,σ2,go,zx,h1,h2,h3,h4,h5,h6⟩:=TZ (cal:=cal) hI hT hσ hk h;have:σ2=σ1:=by
   rcases h4 with e|⟨e,-⟩
   ·exact e
   ·cases e
  subst this;split at h6
  ·rename_i hn;obtain ⟨B,τ,g1,g2,g3⟩:=LJ hI hT r h3 h5 h6;refine ⟨B,τ,?_,g2,g3⟩;rw [vT,h1];simp only [];rw [g1];simp only [];rw [VL hσ h2,eX,if_pos hn]
  ·rename_i hn;obtain ⟨B,τ,g1,g2,g3⟩:=LJ hI hT r h3 h5 h6;refine ⟨Xl T md.ad go k o σ σ2::B,τ,?_,g2,by rw [List.append_assoc] at g3;exact g3⟩;rw [vT,h1];simp only [];rw [g1];simp only [];rw [VL hσ h2,eX,if_neg (by rw [hn];simp)]
def zo (a b:jk):Prop:=
 match a.ld with
 |some (i,o,n)=>
  match assoc b.ch i with
  |some (c,c')=>c.length=c'.length∧(c.drop o).take n=(c'.drop o).take n
  |none=>False
 |none=>
  match b.ld with
  |some (i,o,n)=>
   match assoc a.ch i with
   |some (c,c')=>c.length=c'.length∧(c.drop o).take n=(c'.drop o).take n
   |none=>False
  |none=>False
def Si (an:List Nat) (a:jk):List jk->Prop
 |[]=>True
 |b::l=>
  match (an.getD b.at_ 0).testBit a.at_||!(((a.wr||b.wr) && meets a.ids b.ids)||(a.al && b.al)) with
  |true=>Si an a l
  |false=>
   match a.al && b.al with
   |true=>False
   |false=>zo a b∧Si an a l
def RV (an:List Nat):List jk->Prop
 |[]=>True
 |a::l=>Si an a l∧RV an l
mutual
theorem beq_refl:∀(x:AV),beq x x=true
 |.bool a=>by simp [beq]
 |.int k a=>by simp [beq]
 |.str a=>by simp [beq]
 |.ptr i o=>by simp [beq]
 |.nil=>rfl
 |.sl n l=>by rw [beq,oQ l];simp
 |.row e z n l=>by rw [beq,oQ l];simp
 |.el l=>by rw [beq,oQ l]
 |.agg l=>by rw [beq,oQ l]
 |.bW l=>by rw [beq,oQ l]
 |.fn f l=>by rw [beq,oQ l];simp
 |.nz k=>by simp [beq]
 |.ql k=>by simp [beq]
 |.low k d m=>by simp [beq]
 |.dm i e z n=>by simp [beq]
 |.bad=>rfl
theorem oQ:∀(l:List AV),BO l l=true
 |[]=>rfl
 |x::l=>by rw [BO,beq_refl x,oQ l];rfl
end
theorem U0 {a b:jk} (h:zo a b):(a.yu b||b.yu a)=true:=by
 have key:∀{a b:jk} {i o n:Nat},a.ld=some (i,o,n)->(match assoc b.ch i with|some (c,c')=>c.length=c'.length∧(c.drop o).take n=(c'.drop o).take n|none=>False)->a.yu b=true:=by
  intro a b i o n h1 h2;unfold jk.yu;rw [h1];simp only [];split at h2
  ·rename_i c c' hc;rw [hc];simp only [];rw [h2.1,h2.2,oQ,uN];rfl
  ·exact h2.elim
 unfold zo at h;split at h
 ·rename_i i o n hl;rw [key hl h];rfl
 ·split at h
  ·rename_i i o n hl;rw [key hl h,Bool.or_true]
  ·exact h.elim
theorem ML {an:List Nat} {a:jk}:∀{l:List jk},Si an a l->(l.all fun b=>(an.getD b.at_ 0).testBit a.at_||!a.mJ b||Dy none a.at_ b.at_)=true
 |[],_=>rfl
 |b::l,h=>by
  rw [Si] at h;rw [List.all_cons];split at h
  ·rename_i hc;rw [ML h,Bool.and_true];rw [Bool.or_eq_true] at hc;rcases hc with hc|hc
   ·rw [hc];rfl
   ·have:a.mJ b=false:=by unfold jk.mJ;rw [Bool.not_eq_true'] at hc;rw [Bool.or_eq_false_iff] at hc;rw [hc.2];rw [hc.1];rfl
    rw [this];simp
  ·split at h
   ·exact h.elim
   ·rename_i hal;rw [ML h.2,Bool.and_true];have:a.mJ b=false:=by unfold jk.mJ;rw [hal,U0 h.1];simp
    rw [this];simp
theorem Ky {an:List Nat}:∀{l:List jk},RV an l->vF an none l=true
 |[],_=>rfl
 |a::l,h=>by rw [vF,ML h.1,Ky h.2];rfl
def bef (all:List Oper):Nat->Nat->Nat->Bool
 |0,_,_=>false
 |n+1,a,b=>
  match all[b]? with
  |some o=>mem a (dL o)||(dL o).any fun c=>bef all n a c
  |none=>false
theorem TG {all:List Oper} (hp:∀(j:Nat) (o:Oper),all[j]?=some o->∀i ∈ dL o,i<j):∀(n:Nat) {a b:Nat},bef all n a b=true->((jX [] all).getD b 0).testBit a=true
 |0,a,b,h=>by cases h
 |n+1,a,b,h=>by
  rw [bef] at h;split at h
  ·rename_i o ho;obtain ⟨-,h2⟩:=AO all [];obtain ⟨NS,g1,g2,g3⟩:=h2 b o ho;simp only [List.length_nil,Nat.zero_add] at g1 g3;rw [List.getD_eq_getElem?_getD,g3,Option.getD_some,uu];rw [Bool.or_eq_true] at h;rcases h with h|h
   ·exact ⟨a,mem_iff.1 h,.inl rfl⟩
   ·obtain ⟨c,hc,h⟩:=List.any_eq_true.1 h;have hcb:c<b:=hp b o ho c hc;refine ⟨c,hc,.inr ?_⟩;have:=TG hp n h;rw [List.getD_eq_getElem?_getD,←g2 c oM,←List.getD_eq_getElem?_getD];exact this
  ·cases h
def Yz (all:List Oper) (a:jk):List jk->Prop->Prop
 |[],R=>R
 |b::l,R=>
  match !(((a.wr||b.wr) && meets a.ids b.ids)||(a.al && b.al))||bef all 3 a.at_ b.at_ with
  |true=>Yz all a l R
  |false=>
   match a.al && b.al with
   |true=>False
   |false=>zo a b∧Go (Yz all a l R)
def RX (all:List Oper):List jk->Prop->Prop
 |[],R=>R
 |a::l,R=>Yz all a l (RX all l R)
theorem Dk {all:List Oper} (hp:∀(j:Nat) (o:Oper),all[j]?=some o->∀i ∈ dL o,i<j) {a:jk}:∀{l:List jk} {R:Prop},Yz all a l R->Si (jX [] all) a l∧R
 |[],R,h=>⟨trivial,h⟩
 |b::l,R,h=>by
  rw [Yz] at h;rw [Si];split at h
  ·rename_i hc;have hc2:((jX [] all).getD b.at_ 0).testBit a.at_||!(((a.wr||b.wr) && meets a.ids b.ids)||(a.al && b.al)):=by
    rw [Bool.or_eq_true] at hc;rcases hc with hc|hc
    ·rw [hc,Bool.or_true]
    ·rw [TG hp 3 hc];rfl
   rw [hc2];exact Dk hp h
  ·split at h
   ·exact h.elim
   ·rename_i hal;refine ⟨?_,(Dk hp h.2).2⟩;split
    ·exact (Dk hp h.2).1
    ·exact ⟨h.1,(Dk hp h.2).1⟩
theorem Kz {all:List Oper} (hp:∀(j:Nat) (o:Oper),all[j]?=some o->∀i ∈ dL o,i<j):∀{l:List jk} {R:Prop},RX all l R->RV (jX [] all) l∧R
 |[],R,h=>⟨trivial,h⟩
 |a::l,R,h=>by obtain ⟨h1,h2⟩:=Dk hp h;obtain ⟨h3,h4⟩:=Kz hp h2;exact ⟨⟨h1,h3⟩,h4⟩
theorem WP.draw (B:Em P T sp) (an:Gm) {i:Nat} {ops:Array Oper} (h:opK ops.toList fun all=>AY (qU all) fun ad=>AY an.arr fun arr=>AY (an.live.getD i []) fun live=>XI sp T ⟨ad,arr,base⟩ all (dR 0 all) [] σ [] fun A τ=>RX all A (Qu live Q τ)):WP P n0 base (.region i ops true) σ Q:=by
 refine WP.mk fun hg hσ=>?_;obtain ⟨cal,HC,hI⟩:=qM B.sp;rw [EE,kP,kP,kP] at h;obtain ⟨A,τ,g1,g2,g3⟩:=LJ hI B.well _ hσ (KN.nil σ) h;rw [List.nil_append] at g3;have hko:qK ops.toList=true:=by rw [jK,Bool.and_eq_true] at hg;simpa using hg.2
 obtain ⟨g3,g4⟩:=Kz (rO hko).1 g3;change (JG (an.live.getD i []) τ.tm fun tm=>Q .normal ⟨tm,τ.bx⟩) at g4;rw [xI] at g4;have hrun:Af cal T ⟨qU ops.toList,an.arr,base⟩ ops.toList σ=some τ:=by unfold Af;rw [g1];simp only [];rw [if_pos (Ky g3)]
 refine ⟨.normal,⟨prune (an.live.getD i []) τ.tm,τ.bx⟩,fun hn hb H hm hK=>?_,⟨iZ _ g2.tm,g2.bx⟩,g4⟩;refine BA (md:=⟨qU ops.toList,an.arr,base⟩) B.tok HC rfl hko (rU hg hn) H hm (KY hrun) (fun σ' hF=>?_);subst hF;exact fun lim' bs' w' a' hgo=>hK lim' bs' w' a' ⟨hgo.hold.prune _,hgo.fr,fun i b _ hb=>hgo.pre i b hb,hgo.nt,hgo.df⟩
mutual
def pfT:AV->Bool
 |.ptr .. |.dm .. =>false
 |.agg l|.bW l|.fn _ l=>IA l
 |_=>true
def IA:List AV->Bool
 |[]=>true
 |v::l=>pfT v && IA l
end
mutual
theorem UG:∀{x:AV},wv x=true->pfT x=true->x.pf=true
 |.ptr ..,_,h=>by cases h
 |.dm ..,_,h=>by cases h
 |.bool _,_,_=>rfl
 |.int _ _,_,_=>rfl
 |.str _,_,_=>rfl
 |.nil,_,_=>rfl
 |.nz _,_,_=>rfl
 |.ql _,_,_=>rfl
 |.low _ _ _,_,_=>rfl
 |.bad,_,_=>rfl
 |.sl n l,h,_=>bn (l:=l) h
 |.row e z n l,h,_=>bn (l:=l) h
 |.el l,h,_=>bn (l:=l) h
 |.agg l,h,k=>Iz (l:=l) (Gw h) k
 |.bW l,h,k=>Iz (l:=l) (tC h) k
 |.fn f l,h,k=>Iz (l:=l) (tC h) k
theorem Iz:∀{l:List AV},iE l=true->IA l=true->AV.y8 l=true
 |[],_,_=>rfl
 |x::l,h,k=>by rw [iE,Bool.and_eq_true] at h;rw [IA,Bool.and_eq_true] at k;rw [AV.y8,UG h.1 k.1,Iz h.2 k.2];rfl
end
def XD (T:kZ) (σ:aF) (r:ResultVar) (K:AV->Prop):Prop:=
 match r with
 |.tmp t=>hdK (get σ.tm t) K
 |.cell a t=>
  match T t with
  |none=>False
  |some d=>
   match get σ.tm a with
   |.ptr i o=>
    match σ.bx[i]? with
    |none=>False
    |some c=>
     match d.agg with
     |true=>V9 d.size (c.drop o) fun l=>
      match Nat.blt 0 d.size with
      |true=>K (.agg l)
      |false=>False
     |false=>zl c o fun v=>D6 v K
   |_=>False
theorem XC {r:ResultVar} {n:Nat} {K:AV->Prop} (hσ:Ok σ) (h:XD T σ r K):∃v,Gi T n σ r=some v∧wv v=true∧K v:=by
 unfold XD at h;split at h
 ·rw [SS] at h;exact ⟨_,rfl,tH _ hσ.tm,h⟩
 ·rename_i a t;unfold Gi;simp only [];split at h
  ·exact h.elim
  rename_i d hd;rw [hd];split at h
  ·rename_i i o ha;split at h
   ·exact h.elim
   rename_i c hc;have hcw:=aY.1 hσ.bx c (List.mem_of_getElem? hc);show ∃v,(match get σ.tm a with|.ptr i o=>fK (σ.bx[i]?) fun c=>if d.agg=true then (if o+d.size<=c.length then some (.agg (((c.drop o).take d.size).map AV.cO)) else none) else (c[o]?).map AV.cO|_=>none)=some v∧_;rw [ha];show ∃v,(fK (σ.bx[i]?) fun c=>if d.agg=true then (if o+d.size<=c.length then some (.agg (((c.drop o).take d.size).map AV.cO)) else none) else (c[o]?).map AV.cO)=some v∧_;rw [hc];show ∃v,(if d.agg=true then (if o+d.size<=c.length then some (.agg (((c.drop o).take d.size).map AV.cO)) else none) else (c[o]?).map AV.cO)=some v∧_;split at h
   ·rename_i hA;obtain ⟨h1,h3⟩:=GH h;rw [List.length_drop] at h1;split at h3
    case h_2=>exact h3.elim
    rename_i h2;rw [aaB] at h2;rw [if_pos hA,if_pos oM];exact ⟨_,rfl,LQ (Ou _ (Ov _ hcw)),h3⟩
   ·rename_i hA;obtain ⟨v,h1,h2⟩:=Dp h;rw [og] at h2;rw [if_neg (by rw [hA];simp),h1];exact ⟨_,rfl,ny (dP.1 hcw v (List.mem_of_getElem? h1)).2,h2⟩
  ·exact h.elim
def JV (T:kZ) (σ:aF):List ResultVar->(List AV->Prop)->Prop
 |[],K=>K []
 |r::l,K=>XD T σ r fun v=>JV T σ l fun vs=>K (v::vs)
theorem Cf {n:Nat} (hσ:Ok σ):∀{l:List ResultVar} {K:List AV->Prop},JV T σ l K->∃vs,uO T n σ l=some vs∧iE vs=true∧K vs
 |[],K,h=>⟨[],rfl,rfl,h⟩
 |r::l,K,h=>by rw [JV] at h;obtain ⟨v,h1,h2,h3⟩:=XC (n:=n) hσ h;obtain ⟨vs,g1,g2,g3⟩:=Cf hσ h3;refine ⟨v::vs,?_,by rw [iE,h2,g2];rfl,g3⟩;rw [uO,h1,g1]
def abL (vs:List AV) (K:AV->Prop):Prop:=
 match vs with
 |[v]=>K v
 |vs=>Qx vs fun l=>K (.bW l)
theorem Mc (vs:List AV) (K:AV->Prop):abL vs K=K (kH vs):=by
 cases vs with
 |nil=>rfl
 |cons v r=>
  cases r with
  |nil=>rfl
  |cons u r=>exact Jd _ _
theorem uq {vs:List AV} (h:iE vs=true):wv (kH vs)=true:=by
 have hh:wv (.bW (vs.map AV.cO))=true:=Cj.2 fun v hv=>by obtain ⟨u,hu,rfl⟩:=List.mem_map.1 hv;have:=jR.1 h u hu;exact ⟨oD this,ny this⟩
 unfold kH;split
 ·rw [iE,iE,Bool.and_true] at h;exact h
 ·exact hh
def af9 (n:Nat) (b:List (List AV)) (l:List Nat):List Nat:=Iw 1000000 b (dG ((b.take n).flatMap id)++l) (List.range n)
def ae5 (T:kZ) (σ:aF) (rs:List ResultVar) (n:Nat) (G:AV->List (List AV)->Prop):Prop:=
 JV T σ rs fun vs=>abL vs fun v=>
  match pfT v && TP IA (σ.bx.take n) && Nat.ble n σ.bx.length with
  |true=>F8 (σ.bx.take n) fun b=>G v b
  |false=>AY (af9 n σ.bx (kQ v)) fun ids=>
   match bD σ.bx ids with
   |none=>False
   |some cs=>
    match TP (fun c=>CP (dG c) ids) cs && CP (kQ v) ids with
    |true=>JM (uk ids.idxOf v) fun v=>F8 (cs.map (gJ ids.idxOf)) fun b=>G v b
    |false=>False
theorem af8 {n:Nat} {b:List (List AV)} {l:List Nat} (h:aN b=true):nZ n b l=af9 n b l:=by
 unfold nZ af9;have:iE ((b.take n).flatMap id)=true:=jR.2 fun v hv=>by obtain ⟨c,hc,hv⟩:=List.mem_flatMap.1 hv;exact (dP.1 (aY.1 h c (List.mem_of_mem_take hc)) v hv).2
 rw [CZ h,mX this]
theorem abg {rs:List ResultVar} {n:Nat} {G:AV->List (List AV)->Prop} (hσ:Ok σ) (h:ae5 T σ rs n G):∃Xu r b,JQ T Xu σ rs n=some (r,b)∧wv r=true∧aN b=true∧G r b:=by
 obtain ⟨vs,h1,h2,h3⟩:=Cf (n:=n) hσ h;rw [Mc,uI] at h3;split at h3
 ·rename_i hc;rw [Bool.and_eq_true,Bool.and_eq_true,Eh,Nat.ble_eq] at hc;have hbt:aN (σ.bx.take n)=true:=aY.2 fun c hc=>aY.1 hσ.bx c (List.mem_of_mem_take hc);refine ⟨true,kH vs,σ.bx.take n,?_,uq h2,hbt,h3⟩;unfold JQ;rw [h1];simp only [];rw [show lh σ.bx n 1000 (kH vs)=some (kH vs) from by unfold lh;rw [UG (uq h2) hc.1.1]];simp only [];refine if_pos ⟨hc.2,?_⟩;rw [List.all_eq_true];intro c hcc;exact Iz (xg (aY.1 hbt c hcc)) (List.all_eq_true.1 hc.1.2 c hcc)
 ·rw [kP,←af8 hσ.bx] at h3;split at h3
  ·exact h3.elim
  rename_i cs hcs;split at h3
  ·rename_i hc;rw [Bool.and_eq_true,Eh] at hc;rw [Az,uI,←xQ (uq h2),←MB (uq h2),←(pU (oH hσ.bx hcs)).1] at h3;refine ⟨false,_,_,?_,Ep (uq h2),(pU (oH hσ.bx hcs)).2,h3⟩;have hA:(cs.all fun c=>CP (AV.aA c) (nZ n σ.bx (kH vs).ids))=true:=by rw [Js (p:=fun l=>CP l (nZ n σ.bx (kH vs).ids)) (oH hσ.bx hcs),xQ (uq h2)];exact hc.1
   have hp:Ab.pick n σ.bx (kH vs).ids=some (nZ n σ.bx (kH vs).ids,cs.map (AV.aG (nZ n σ.bx (kH vs).ids).idxOf)):=by unfold Ab.pick;rw [xQ (uq h2)] at hA⊢;rw [hcs];simp only [];rw [if_pos ⟨hA,hc.2⟩]
   unfold JQ;rw [h1];simp only [];rw [hp]
  ·exact h3.elim
def A7 (T:kZ) (rs:List ResultVar) (n:Nat) (G:AV->List (List AV)->Prop) (e:zV) (τ:aF):Prop:=
 match e with
 |.exit _=>False
 |_=>ae5 T τ rs n G
theorem qE:∀{l:List AV} {k:Nat} {tm:Tm},iE l=true->uh tm=true->uh (params tm k l)=true
 |[],_,_,_,h=>h
 |v::l,k,tm,hl,h=>by rw [iE,Bool.and_eq_true] at hl;rw [params];exact qE hl.2 (by rw [uh,hl.1,h];rfl)
theorem agB (HT:mM P T) {f:Nat} {fn:Func} {c:Code} (hf:P.funcs[f]?=some fn) (hg:sS fn=true) (hb:fn.body=some c) {args:List AV} {bx:List (List AV)} (ha:iE args=true) (hbx:aN bx=true) {G:AV->List (List AV)->Prop} (h:WP P fn.ntmps bx.length c ⟨params [] 0 args,bx⟩ (A7 T fn.results.toList bx.length G)):∃r bx',aV P f args bx r bx'∧wv r=true∧aN bx'=true∧G r bx':=by
 unfold sS at hg;rw [Bool.and_eq_true] at hg;obtain ⟨hg1,hg2⟩:=hg;rw [hb] at hg2;obtain ⟨e,σ,h1,h2,h3⟩:=WP.out h hg2 ⟨qE ha rfl,hbx⟩;have he:(e=.normal∨e=.ret)∧ae5 T σ fn.results.toList bx.length G:=by
  cases e with
  |normal=>exact ⟨.inl rfl,h3⟩
  |ret=>exact ⟨.inr rfl,h3⟩
  |exit i=>exact h3.elim
 obtain ⟨he,h3⟩:=he;obtain ⟨Xu,r,bx',g1,g2,g3,g4⟩:=abg h2 h3;refine ⟨r,bx',?_,g2,g3,g4⟩;have hlen:bx.length<=bx'.length:=by
  unfold JQ at g1;split at g1
  ·cases g1
  ·split at g1
   ·split at g1
    ·split at g1
     ·rename_i hc;cases g1;rw [List.length_take];omega
     ·cases g1
    ·cases g1
   ·split at g1
    ·rename_i ids uU hp;cases g1;obtain ⟨-,q2,⟨cs,q3,rfl,-⟩,-⟩:=Dh hp;rw [List.length_map,(oP q3).1];rcases Nat.eq_zero_or_pos bx.length with e|e
     ·omega
     ·have:=(List.getElem?_eq_some_iff.1 (q2 (bx.length-1) oM)).1;omega
    ·cases g1
 refine ⟨⟨fn,hf,by simpa using hg1,by rw [hb];rfl⟩,hlen,fun lim bs w vs m hl hm H=>?_⟩;refine calls_of_wp hf hb ?_;have hsz:fn.ntmps<=(vs.toArray++Array.replicate (fn.ntmps-vs.toArray.size) undef).size:=kU;have hbs:bs.length=bx.length:=H.len;refine h1 (m:=m) hsz (Nat.le_refl _) (kW hl H) hm fun lim' bs' w' a' hgo=>?_;have hlen2:bx.length<=σ.bx.length:=by have:=uG (by rw [hbs];exact Nat.le_refl _) hgo.pre;rw [hgo.hold.len] at this;exact this
 obtain ⟨u,jB,wR,u1,u2,u3,u4,u5⟩:=KX (fn:=fn) HT hgo.hold hlen2 g1;have hpost:a'.defers=[]∧∃v,(results fn a'.tmps).run P w'=.ok v w'∧(∃v' lim' bs',Ending.returned v=.returned v'∧aB lim' bs' w' bx' (rS r v') m∧Fr m lim w lim' w'∧∀i,i<bx.length->bs'[i]?=bs[i]?):=by refine ⟨hgo.df,u,u1,u,jB,wR,rfl,u2,hgo.fr.trans u3,fun i hi=>?_⟩;have hib:i<bs.length:=oM;rw [u5 i hi,hgo.pre i _ hi (List.getElem?_eq_getElem hib),List.getElem?_eq_getElem hib]
 rcases he with rfl|rfl
 ·exact hpost
 ·exact hpost
end V
set_option maxRecDepth 100000
namespace V
open Ab
theorem XO {t:Nat} {d:TD} (h:jJ t=some d):(t,d) ∈ tyL:=mZ h
theorem aiA:sW jJ:=by
 have hall:(tyL.all fun p=>decide (0<p.2.size) && (!p.2.agg||decide (1<p.2.size)) && gG p.2.zero && AV.aj p.2.zero)=true:=dK;have hh:∀t d,jJ t=some d->0<d.size∧(d.agg=true->1<d.size)∧gG d.zero=true∧AV.aj d.zero=true:=by intro t d h;have:=List.all_eq_true.1 hall _ (XO h);simp only [Bool.and_eq_true,decide_eq_true_eq,Bool.or_eq_true,Bool.not_eq_true'] at this;obtain ⟨⟨⟨h1,h2⟩,h3⟩,h4⟩:=this;exact ⟨h1,fun hA=>h2.elim (fun e=>by rw [hA] at e;cases e) id,h3,h4⟩
 exact ⟨fun t d h=>(hh t d h).1,fun t d h=>(hh t d h).2.1,fun t d h=>(hh t d h).2.2⟩
theorem base {sp:Sp} (h:ae Tryz.prog sp):Em Tryz.prog jJ sp:=⟨tok,aiA,h⟩
theorem ae.nil {P:Program}:ae P []:=fun f c h=>by cases h
structure Fn (P:Program) (f:Nat) (fn:Func) (c:Code) (n0:Nat) (rs:List ResultVar):Prop where
 at_:P.funcs[f]?=some fn
 jK:sS fn=true
 body:fn.body=some c
 nt:fn.ntmps=n0
 rs:fn.results.toList=rs
theorem fN (f:Nat) (fn:Func) (n0:Nat) (rs:List ResultVar) (h1:Tryz.prog.funcs[f]?=some fn:=by rfl) (h2:sS fn=true:=by decide+kernel) (h3:fn.body=some (fn.body.getD .skip):=by rfl) (h4:fn.ntmps=n0:=by rfl) (h5:fn.results.toList=rs:=by rfl):Fn Tryz.prog f fn (fn.body.getD .skip) n0 rs:=⟨h1,h2,h3,h4,h5⟩
def PR (args:List AV) (K:Tm->Prop):Prop:=
 match args with
 |[]=>K []
 |[a]=>K [(0,a)]
 |[a,b]=>K [(1,b),(0,a)]
 |[a,b,c]=>K [(2,c),(1,b),(0,a)]
 |[a,b,c,d]=>K [(3,d),(2,c),(1,b),(0,a)]
 |[a,b,c,d,e]=>K [(4,e),(3,d),(2,c),(1,b),(0,a)]
 |_=>False
theorem Dj {args:List AV} {K:Tm->Prop} (h:PR args K):K (params [] 0 args):=by
 unfold PR at h;split at h<;>first|exact h|exact h.elim
def sV (c:Code) (K:Code->Prop):Prop:=
 match c with
 |.seq a b=>K (.seq a b)
 |.cond x a b=>K (.cond x a b)
 |.block i a=>K (.block i a)
 |.region i ops d=>K (.region i ops d)
 |.ret=>K .ret
 |_=>False
theorem jW {c:Code} {K:Code->Prop} (h:sV c K):K c:=by
 unfold sV at h;split at h<;>first|exact h|exact h.elim
def QT (rf:az) (args:List AV) (bx:List (List AV)) (r:AV) (bx':List (List AV)):Prop:=∀K,rf args bx K->K r bx'
theorem QT.bool {rf:az} {args:List AV} {bx:List (List AV)} {b:Bool} {bx':List (List AV)} (h1:b=true->QT rf args bx (.bool true) bx') (h2:b=false->QT rf args bx (.bool false) bx'):QT rf args bx (.bool b) bx':=by
 cases b
 ·exact h2 rfl
 ·exact h1 rfl
theorem jA {f:Nat} {g:List AV->Option AV} (hp:assoc UE f=some g) {rf:az} (h:∀args bx K0,rf args bx K0->bx=[]∧∃v,g args=some v∧wv v=true∧∀K,rf args bx K->K v []):az.OK Tryz.prog f rf:=by intro args bx K0 h0;obtain ⟨rfl,v,h1,h2,h3⟩:=h args bx K0 h0;exact ⟨v,[],PH _ (mZ hp) args v h1,h2,rfl,h3⟩
attribute [irreducible] QT
end V
end
section
variable [nM]
namespace V
open Ab
def Wk (a b:AV):Prop:=(∀(lim:Nat->Nat) (bs:List Nat) (w:World) (v:Value),AV.R lim bs w a v->AV.R lim bs w b v)∧(b.isRow=true->b=a)
def qi:List AV->List AV->Prop
 |[],l=>l=[]
 |a::r,l=>∃b q,l=b::q∧Wk a b∧qi r q
theorem Wk.refl (a:AV):Wk a a:=⟨fun _ _ _ _ h=>h,fun _=>rfl⟩
theorem qi.nil:qi [] []:=rfl
theorem qi.cons {a b:AV} {r q:List AV} (h:Wk a b) (k:qi r q):qi (a::r) (b::q):=⟨b,q,rfl,h,k⟩
theorem qi.refl:∀(l:List AV),qi l l
 |[]=>rfl
 |a::r=> .cons (.refl a) (.refl r)
theorem qi.len:∀{l k:List AV},qi l k->k.length=l.length
 |[],k,h=>by rw [show k=[] from h]
 |a::r,k,h=>by obtain ⟨b,q,rfl,-,h⟩:=h;rw [List.length_cons,List.length_cons,h.len]
theorem qi.get:∀{l k:List AV} {j:Nat} {b:AV},qi l k->k[j]?=some b->∃a,l[j]?=some a∧Wk a b
 |[],k,j,b,h,hb=>by rw [show k=[] from h] at hb;simp at hb
 |a::r,k,j,b,h,hb=>by
  obtain ⟨b',q,rfl,h1,h2⟩:=h;cases j with
  |zero=>simp at hb;subst hb;exact ⟨a,rfl,h1⟩
  |succ j=>obtain ⟨a',g1,g2⟩:=h2.get (j:=j) (by simpa using hb);exact ⟨a',by simpa using g1,g2⟩
theorem qi.Rs {lim:Nat->Nat} {bs:List Nat} {w:World}:∀{l k:List AV} {vs:List Value},qi l k->AV.Rs lim bs w l vs->AV.Rs lim bs w k vs
 |[],k,vs,h,hr=>by rw [show k=[] from h];exact hr
 |a::r,k,vs,h,hr=>by obtain ⟨b,q,rfl,h1,h2⟩:=h;rw [AV.Rs] at hr⊢;obtain ⟨v,vs',rfl,h3,h4⟩:=hr;exact ⟨v,vs',rfl,h1.1 _ _ _ _ h3,h2.Rs h4⟩
theorem Wk.agg {l k:List AV} (h:qi l k):Wk (.agg l) (.agg k):=⟨fun lim bs w v hr=>by
 rw [AV.R] at hr;rw [AV.R];obtain ⟨vs,h1,h2⟩:=hr;exact ⟨vs,h1,h.Rs h2⟩,fun h=>by cases h⟩
theorem Wk.bW {l k:List AV} (h:qi l k):Wk (.bW l) (.bW k):=⟨fun lim bs w v hr=>by
 rw [AV.R] at hr;rw [AV.R];obtain ⟨vs,h1,h2⟩:=hr;exact ⟨vs,h1,h.Rs h2⟩,fun h=>by cases h⟩
theorem Wk.nil:Wk .nil (.sl 0 []):=⟨fun lim bs w v hr=>by
 rw [AV.R] at hr;rw [AV.R];exact ⟨none,0,hr,Nat.le_refl _,.inl rfl⟩,fun h=>by cases h⟩
theorem Wk.row {e z n:Nat} {l:List AV}:Wk (.row e z n l) (.sl n l):=⟨fun lim bs w v hr=>hr.cO,fun h=>by cases h⟩
theorem Wk.lM {e z:Nat} {v:Value} {lim:Nat->Nat} {bs:List Nat} {w:World} (h:AV.R lim bs w .nil v):AV.R lim bs w (.row e z 0 []) v:=by rw [AV.R] at h;rw [AV.R];exact ⟨by simp,rfl,.inl ⟨h,rfl⟩⟩
theorem Wk.ql {k:IntKind} {n:Int}:Wk (.int k n) (.ql k):=⟨fun lim bs w v hr=>by
 rw [AV.R] at hr;rw [AV.R];exact ⟨n,hr⟩,fun h=>by cases h⟩
theorem Wk.nz {k:IntKind} {n:Int} (hn:n≠0):Wk (.int k n) (.nz k):=⟨fun lim bs w v hr=>by
 rw [AV.R] at hr;rw [AV.R];exact ⟨n,hn,hr⟩,fun h=>by cases h⟩
def Bh:List (List AV)->List (List AV)->Prop
 |[],l=>l=[]
 |a::r,l=>∃b q,l=b::q∧qi a b∧Bh r q
theorem Bh.refl:∀(l:List (List AV)),Bh l l
 |[]=>rfl
 |a::r=>⟨a,r,rfl,.refl a,.refl r⟩
theorem Bh.len:∀{l k:List (List AV)},Bh l k->k.length=l.length
 |[],k,h=>by rw [show k=[] from h]
 |a::r,k,h=>by obtain ⟨b,q,rfl,-,h⟩:=h;rw [List.length_cons,List.length_cons,h.len]
theorem Bh.get:∀{l k:List (List AV)} {j:Nat} {b:List AV},Bh l k->k[j]?=some b->∃a,l[j]?=some a∧qi a b
 |[],k,j,b,h,hb=>by rw [show k=[] from h] at hb;simp at hb
 |a::r,k,j,b,h,hb=>by
  obtain ⟨b',q,rfl,h1,h2⟩:=h;cases j with
  |zero=>simp at hb;subst hb;exact ⟨a,rfl,h1⟩
  |succ j=>obtain ⟨a',g1,g2⟩:=h2.get (j:=j) (by simpa using hb);exact ⟨a',by simpa using g1,g2⟩
theorem aB.aW {lim:Nat->Nat} {bs:List Nat} {w:World} {bx bx':List (List AV)} {S S':uP} {m:Nat->Prop} (H:aB lim bs w bx S m) (hb:Bh bx bx') (hbt:∀c ∈ bx',c.all AV.top=true) (hS:∀k,(S' k).2=(S k).2∧Wk (S k).1 (S' k).1∧(S' k).1.top=true):aB lim bs w bx' S' m:=by
 have ho:∀p g,Ab.Own w bs bx' S' p g->Ab.Own w bs bx S p g:=by
  intro p g hp;cases p with
  |t k=>
   obtain ⟨h1,h2⟩:=hp;obtain ⟨e1,e2,-⟩:=hS k;have:=e2.2 h1;exact ⟨by rw [←this];exact h1,by rw [←e1];exact h2⟩
  |b i j=>
   obtain ⟨b,x,y,v,q1,q2,q3,q4,q5⟩:=hp;obtain ⟨a,g1,g2⟩:=hb.get q2;obtain ⟨c,g3,g4⟩:=g2.get q3;have:=g4.2 q4;subst this;exact ⟨b,a,_,v,q1,g1,g3,q4,q5⟩
 refine ⟨by rw [hb.len];exact H.len,H.BX,H.free,H.mb,fun i b x hi hx=>?_,fun k=>?_,fun k=>(hS k).2.2,H.top,fun p g hp=>H.own p g (ho p g hp),fun p q g hp hq=>H.qO p q g (ho p g hp) (ho q g hq)⟩
 ·obtain ⟨a,g1,g2⟩:=hb.get hx;obtain ⟨c,tl,t,h1,h2,h3⟩:=H.box i b a hi g1;exact ⟨c,tl,t,h1,g2.Rs h2,hbt x (List.mem_of_getElem? hx)⟩
 ·obtain ⟨e1,e2,-⟩:=hS k;rw [e1];exact e2.1 _ _ _ _ (H.slot k)
theorem Hy {c:List AV} (h:gG c=true):c.all AV.top=true:=by rw [List.all_eq_true];exact fun x hx=>yK (dP.1 h x hx).2
theorem aV.aW {P:Program} {f:Nat} {args:List AV} {bx b b2:List (List AV)} {r r2:AV} (h:aV P f args bx r b) (hr:Wk r r2) (hb:Bh b b2) (h1:wv r2=true) (h2:aN b2=true):aV P f args bx r2 b2:=by
 refine ⟨h.Og,by rw [hb.len];exact h.len,fun lim bs w vs m hl hm H=>(h.call lim bs w vs m hl hm H).mono ?_⟩;rintro e w' ⟨v,lim',bs',rfl,h3,h4,h5⟩;refine ⟨v,lim',bs',rfl,aB.aW h3 hb (fun c hc=>Hy (aY.1 h2 c hc)) (fun k=>?_),h4,h5⟩;unfold rS;by_cases hk:k=0
 ·rw [if_pos hk,if_pos hk];exact ⟨rfl,hr,yK h1⟩
 ·rw [if_neg hk,if_neg hk];exact ⟨rfl,Wk.refl _,rfl⟩
mutual
theorem agS:∀(x:AV),Wk x (can x)
 |.nil=>Wk.nil
 |.agg l=>Wk.agg (Ed l)
 |.bW l=>Wk.bW (Ed l)
 |.fn f l=>⟨fun lim bs w v hr=>by
   rw [AV.R] at hr;rw [can,AV.R];obtain ⟨vs,h1,h2⟩:=hr;exact ⟨vs,h1,(Ed l).Rs h2⟩,fun h=>by cases h⟩
 |.bool _=> .refl _
 |.int _ _=> .refl _
 |.str _=> .refl _
 |.ptr _ _=> .refl _
 |.sl _ _=> .refl _
 |.row _ _ _ _=> .refl _
 |.el _=> .refl _
 |.nz _=> .refl _
 |.ql _=> .refl _
 |.low _ _ _=> .refl _
 |.dm _ _ _ _=> .refl _
 |.bad=> .refl _
theorem Ed:∀(l:List AV),qi l (sH l)
 |[]=> .nil
 |v::l=> .cons (agS v) (Ed l)
end
mutual
theorem Tz:∀{x:AV},wv x=true->wv (can x)=true∧(can x).one=x.one∧(x.flat=true->(can x).flat=true)
 |.nil,_=>⟨rfl,rfl,fun _=>rfl⟩
 |.agg l,h=>⟨(vM (l:=l)).1 h,rfl,fun _=>ui ((vM (l:=l)).1 h)⟩
 |.bW l,h=>⟨(vM (l:=l)).2 h,rfl,fun _=>lF ((vM (l:=l)).2 h)⟩
 |.fn f l,h=>⟨(vM (l:=l)).2 h,rfl,fun _=>lF ((vM (l:=l)).2 h)⟩
 |.bool _,h=>⟨h,rfl,id⟩
 |.int _ _,h=>⟨h,rfl,id⟩
 |.str _,h=>⟨h,rfl,id⟩
 |.ptr _ _,h=>⟨h,rfl,id⟩
 |.sl _ _,h=>⟨h,rfl,id⟩
 |.row _ _ _ _,h=>⟨h,rfl,id⟩
 |.el _,h=>⟨h,rfl,id⟩
 |.nz _,h=>⟨h,rfl,id⟩
 |.ql _,h=>⟨h,rfl,id⟩
 |.low _ _ _,h=>⟨h,rfl,id⟩
 |.dm _ _ _ _,h=>⟨h,rfl,id⟩
 |.bad,h=>⟨h,rfl,id⟩
theorem vM:∀{l:List AV},(uX l=true->uX (sH l)=true)∧(CB l=true->CB (sH l)=true)
 |[]=>⟨fun _=>rfl,fun _=>rfl⟩
 |v::l=>by
  constructor
  ·intro h;rw [uX] at h;simp only [Bool.and_eq_true] at h;obtain ⟨h1,h2,h3⟩:=Tz h.1.2;rw [sH,uX,h1,h2,h3 h.1.1.1,h.1.1.2,(vM (l:=l)).1 h.2];rfl
  ·intro h;rw [CB] at h;simp only [Bool.and_eq_true] at h;obtain ⟨h1,h2,h3⟩:=Tz h.1.2;rw [sH,CB,h1,h3 h.1.1,(vM (l:=l)).2 h.2];rfl
end
theorem QD:∀{l:List AV},iE l=true->iE (sH l)=true
 |[],_=>rfl
 |v::l,h=>by rw [iE,Bool.and_eq_true] at h;rw [sH,iE,(Tz h.1).1,QD h.2];rfl
theorem aV.can {P:Program} {f:Nat} {args:List AV} {bx b:List (List AV)} {r:AV} (ha:iE args=true) (h:aV P f (sH args) bx r b):aV P f args bx r b:=by
 have hk:=Ed args;refine ⟨h.Og,h.len,fun lim bs w vs m hl hm H=>h.call lim bs w vs m (by rw [hl,hk.len]) hm (aB.aW H (.refl bx) (fun c hc=>?_) fun k=>?_)⟩
 ·obtain ⟨i,hi⟩:=List.getElem?_of_mem hc;have hlt:i<bs.length:=by rw [H.len];exact (List.getElem?_eq_some_iff.1 hi).1
  obtain ⟨_,_,_,_,_,h3⟩:=H.box i _ c (List.getElem?_eq_getElem hlt) hi;exact h3
 ·refine ⟨rfl,?_,?_⟩
  ·show Wk (args.getD k .bad) ((sH args).getD k .bad);rw [List.getD_eq_getElem?_getD,List.getD_eq_getElem?_getD];cases hc:(sH args)[k]? with
   |none=>
    have:args[k]?=none:=by rw [List.getElem?_eq_none_iff] at hc⊢;rw [←hk.len];exact hc
    rw [this];exact .refl _
   |some x=>
    obtain ⟨a,g1,g2⟩:=hk.get hc;rw [g1];exact g2
  ·show ((sH args).getD k .bad).top=true;rw [List.getD_eq_getElem?_getD];cases hc:(sH args)[k]? with
   |none=>rfl
   |some x=>exact yK (jR.1 (QD ha) x (List.mem_of_getElem? hc))
theorem ae.cons {P:Program} {sp:Sp} {f:Nat} {c:az} (h:az.OK P f c) (k:ae P sp):ae P ((f,c)::sp):=by
 intro g c' h';rw [assoc] at h';split at h'
 ·rename_i e;cases h';rw [Nat.eq_of_beq_eq_true e];intro args bx K0 hw hK;obtain ⟨r,bx',h1,h2⟩:=h _ bx K0 hK;exact ⟨r,bx',aV.can hw h1,h2⟩
 ·exact k g c' h'
def af (rf:az) (args:List AV) (bx:List (List AV)) (r:AV) (bx':List (List AV)):Prop:=∃r2 b2,Wk r r2∧Bh bx' b2∧wv r2=true∧aN b2=true∧∀K,rf args bx K->K r2 b2
theorem Fn.okW {f:Nat} {fn:Func} {c:Code} {n0:Nat} {rs:List ResultVar} (F:Fn Tryz.prog f fn c n0 rs) {rf:az} {args:List AV} {bx:List (List AV)} {base:Nat} (hb:bx.length=base) (ha:iE args=true) (hbx:aN bx=true) (h:PR args fun tm=>sV c fun c=>WP Tryz.prog n0 base c ⟨tm,bx⟩ (A7 jJ rs base (af rf args bx))):∃r bx',aV Tryz.prog f args bx r bx'∧wv r=true∧aN bx'=true∧∀K,rf args bx K->K r bx':=by have h:=jW (Dj h);subst hb;rw [←F.nt,←F.rs] at h;obtain ⟨r,b,h1,h2,h3,r2,b2,g1,g2,g3,g4,g5⟩:=agB tok F.at_ F.jK F.body ha hbx h;exact ⟨r2,b2,aV.aW h1 g1 g2 g3 g4,g3,g4,g5⟩
theorem af.mk {rf:az} {args:List AV} {bx:List (List AV)} {r:AV} {bx':List (List AV)} (hr:wv r=true) (hb:aN bx'=true) (h:∀K,rf args bx K->K r bx'):af rf args bx r bx':=⟨r,bx',.refl r,.refl bx',hr,hb,h⟩
theorem af.aW {rf:az} {args:List AV} {bx:List (List AV)} {r r2:AV} {bx' b2:List (List AV)} (hr:Wk r r2) (hb:Bh bx' b2) (h1:wv r2=true) (h2:aN b2=true) (h:∀K,rf args bx K->K r2 b2):af rf args bx r bx':=⟨r2,b2,hr,hb,h1,h2,h⟩
theorem af.bool {rf:az} {args:List AV} {bx:List (List AV)} {b:Bool} {bx':List (List AV)} (h1:b=true->af rf args bx (.bool true) bx') (h2:b=false->af rf args bx (.bool false) bx'):af rf args bx (.bool b) bx':=by
 cases b
 ·exact h2 rfl
 ·exact h1 rfl
attribute [irreducible] af
section
variable {lim lim' : Nat -> Nat} {bs bs' : List Nat} {w w' : World}
mutual
theorem aaR:∀{x:AV} {v:Value},AV.R lim bs w x v->∀i ∈ AV.ids x,i<bs.length
 |.ptr i o,v,h,j,hj=>by rw [AV.R] at h;obtain ⟨b,h1,-⟩:=h;rw [AV.ids,List.mem_singleton] at hj;subst hj;exact (List.getElem?_eq_some_iff.1 h1).1
 |.dm i e z n,v,h,j,hj=>by rw [AV.R] at h;obtain ⟨b,c,cur,h1,-⟩:=h;rw [AV.ids,List.mem_singleton] at hj;subst hj;exact (List.getElem?_eq_some_iff.1 h1).1
 |.bool _,v,_,j,hj=>by rw [AV.ids] at hj<;>first|cases hj|(intros;contradiction)
 |.int _ _,v,_,j,hj=>by rw [AV.ids] at hj<;>first|cases hj|(intros;contradiction)
 |.str _,v,_,j,hj=>by rw [AV.ids] at hj<;>first|cases hj|(intros;contradiction)
 |.nil,v,_,j,hj=>by rw [AV.ids] at hj<;>first|cases hj|(intros;contradiction)
 |.nz _,v,_,j,hj=>by rw [AV.ids] at hj<;>first|cases hj|(intros;contradiction)
 |.ql _,v,_,j,hj=>by rw [AV.ids] at hj<;>first|cases hj|(intros;contradiction)
 |.low _ _ _,v,_,j,hj=>by rw [AV.ids] at hj<;>first|cases hj|(intros;contradiction)
 |.bad,v,_,j,hj=>by rw [AV.ids] at hj<;>first|cases hj|(intros;contradiction)
 |.sl n l,v,h,j,hj=>by
  rw [AV.R] at h;rw [AV.ids] at hj;obtain ⟨a,c,h1,h2,h3⟩:=h;rcases h3 with rfl|⟨b,o,h4,h5,h6,h7⟩
  ·rw [AV.aA] at hj;cases hj
  ·exact NY h7 j hj
 |.row e z n l,v,h,j,hj=>by
  rw [AV.R] at h;rw [AV.ids] at hj;obtain ⟨h1,h2,h3⟩:=h;rcases h3 with ⟨h4,h5⟩|⟨g,c,cur,h4,h5,h6,h7,h8,h9,h10⟩
  ·subst h5;have hl:l=[]:=List.eq_nil_of_length_eq_zero (by rw [h1,Nat.zero_mul]);rw [hl,AV.aA] at hj;cases hj
  ·exact NY h10 j hj
 |.el l,v,h,j,hj=>by rw [AV.R] at h;rw [AV.ids] at hj;obtain ⟨b,o,h4,h5,h6,h7⟩:=h;exact NY h7 j hj
 |.agg l,v,h,j,hj=>by rw [AV.R] at h;rw [AV.ids] at hj;obtain ⟨vs,h1,h2⟩:=h;exact Ju h2 j hj
 |.bW l,v,h,j,hj=>by rw [AV.R] at h;rw [AV.ids] at hj;obtain ⟨vs,h1,h2⟩:=h;exact Ju h2 j hj
 |.fn f l,v,h,j,hj=>by rw [AV.R] at h;rw [AV.ids] at hj;obtain ⟨vs,h1,h2⟩:=h;exact Ju h2 j hj
theorem Ju:∀{l:List AV} {vs:List Value},AV.Rs lim bs w l vs->∀i ∈ AV.aA l,i<bs.length
 |[],vs,_,j,hj=>by rw [AV.aA] at hj;cases hj
 |x::l,vs,h,j,hj=>by
  rw [AV.Rs] at h;rw [AV.aA,List.mem_append] at hj;obtain ⟨v,r,h1,h2,h3⟩:=h;rcases hj with hj|hj
  ·exact aaR h2 j hj
  ·exact Ju h3 j hj
theorem NY:∀{l:List AV} {b o:Nat},AV.Rm lim bs w b o l->∀i ∈ AV.aA l,i<bs.length
 |[],b,o,_,j,hj=>by rw [AV.aA] at hj;cases hj
 |x::l,b,o,h,j,hj=>by
  rw [AV.Rm] at h;rw [AV.aA,List.mem_append] at hj;obtain ⟨⟨v,h1,h2⟩,h3⟩:=h;rcases hj with hj|hj
  ·exact aaR h2 j hj
  ·exact NY h3 j hj
end
mutual
theorem su {f:Nat->Nat}:∀{x:AV},(∀i ∈ AV.ids x,f i=i)->AV.bP f x=x
 |.ptr i o,h=>by rw [AV.bP,h i (by rw [AV.ids];exact List.mem_singleton.2 rfl)]
 |.dm i e z n,h=>by rw [AV.bP,h i (by rw [AV.ids];exact List.mem_singleton.2 rfl)]
 |.bool _,_=>rfl
 |.int _ _,_=>rfl
 |.str _,_=>rfl
 |.nil,_=>rfl
 |.nz _,_=>rfl
 |.ql _,_=>rfl
 |.low _ _ _,_=>rfl
 |.bad,_=>rfl
 |.sl n l,h=>by rw [AV.ids] at h;rw [AV.bP,iI h]
 |.row e z n l,h=>by rw [AV.ids] at h;rw [AV.bP,iI h]
 |.el l,h=>by rw [AV.ids] at h;rw [AV.bP,iI h]
 |.agg l,h=>by rw [AV.ids] at h;rw [AV.bP,iI h]
 |.bW l,h=>by rw [AV.ids] at h;rw [AV.bP,iI h]
 |.fn g l,h=>by rw [AV.ids] at h;rw [AV.bP,iI h]
theorem iI {f:Nat->Nat}:∀{l:List AV},(∀i ∈ AV.aA l,f i=i)->AV.aG f l=l
 |[],_=>rfl
 |x::l,h=>by rw [AV.aA] at h;rw [AV.aG,su fun i hi=>h i (List.mem_append_left _ hi),iI fun i hi=>h i (List.mem_append_right _ hi)]
end
theorem NL {bx:List (List AV)} {S:uP} {m:Nat->Prop} (H:aB lim bs w bx S m):∀c ∈ bx,∀i ∈ AV.aA c,i<bx.length:=by
 intro c hc i hi;obtain ⟨k,hk⟩:=List.getElem?_of_mem hc;have hkl:k<bs.length:=by rw [H.len];exact (List.getElem?_eq_some_iff.1 hk).1
 obtain ⟨cc,tl,t,h1,h2,h3⟩:=H.box k bs[k] c (List.getElem?_eq_getElem hkl) hk;have:=Ju h2 i hi;rw [H.len] at this;exact this
end
theorem rP {n i:Nat} (h:i<n):(List.range n).idxOf i=i:=by
 have:=List.nodup_range (n:=n);have h2:=this.idxOf_getElem i (by rw [List.length_range];exact h)
 rwa [List.getElem_range] at h2
theorem Ib {n k:Nat}:jr (List.range n) n k=k:=by
 unfold jr;rcases Nat.lt_or_ge k n with h|h
 ·rw [List.getElem?_range h]
 ·rw [List.getElem?_eq_none (by rw [List.length_range];exact h),List.length_range];simp only [];omega
theorem Jf {bx:List (List AV)}:∀(l:List (List AV)) (k:Nat),bx.drop k=l->bD bx (List.range' k l.length)=some l
 |[],k,h=>rfl
 |c::r,k,h=>by
  have hk:bx[k]?=some c:=by have:=List.getElem?_drop (xs:=bx) (i:=k) (j:=0);rw [h] at this;exact this.symm
  have hr:bx.drop (k+1)=r:=by rw [←List.tail_drop,h];rfl
  rw [List.length_cons,List.range'_succ,bD,hk,Jf r (k+1) hr]
theorem Le (bx:List (List AV)):bD bx (List.range bx.length)=some bx:=by rw [List.range_eq_range'];exact Jf bx 0 rfl
theorem ZF (bs:List Nat):((List.range bs.length).map fun i=>bs.getD i 0)=bs:=by
 apply List.ext_getElem?;intro i;rw [List.getElem?_map];rcases Nat.lt_or_ge i bs.length with h|h
 ·rw [List.getElem?_range h,Option.map_some,List.getD_eq_getElem?_getD,List.getElem?_eq_getElem h];rfl
 ·rw [List.getElem?_eq_none (by rw [List.length_range];exact h),List.getElem?_eq_none h];rfl
theorem oK:∀(l:List (List AV)) (bx:List (List AV)) (k i:Nat),k+l.length<=bx.length->(ak bx (List.range' k l.length) l)[i]?=if k<=i∧i<k+l.length then l[i-k]? else bx[i]?
 |[],bx,k,i,h=>by
  rw [List.length_nil,List.range'_zero,ak];rw [if_neg oM]
  all_goals intros;contradiction
 |c::r,bx,k,i,h=>by
  rw [List.length_cons] at h;rw [List.length_cons,List.range'_succ,ak,oK r (bx.set k c) (k+1) i (by rw [List.length_set];omega)];by_cases e:i=k
  ·subst e;rw [if_neg oM,if_pos oM,List.getElem?_set_self oM,Nat.sub_self];rfl
  ·rw [List.getElem?_set_ne (fun h=>e h.symm)];by_cases e2:k+1<=i∧i<k+1+r.length
   ·rw [if_pos e2,if_pos oM];obtain ⟨j,rfl⟩:∃j,i=k+1+j:=⟨i-(k+1),oM⟩;rw [show k+1+j-(k+1)=j from by omega,show k+1+j-k=j+1 from by omega,List.getElem?_cons_succ]
   ·rw [if_neg e2,if_neg oM]
theorem OW {bx l:List (List AV)} (h:l.length=bx.length):ak bx (List.range bx.length) l=l:=by
 apply List.ext_getElem?;intro i;rw [List.range_eq_range',←h,oK l bx 0 i oM];by_cases hi:i<l.length
 ·rw [if_pos oM];rfl
 ·rw [if_neg oM,List.getElem?_eq_none oM,List.getElem?_eq_none oM]
theorem Yt {n:Nat} (x:AV):AV.bP (jr (List.range n) n) x=x:=su fun i _=>Ib
theorem Kt {n:Nat} (b:List (List AV)):b.map (AV.aG (jr (List.range n) n))=b:=(List.map_congr_left fun c _=>iI fun i _=>Ib).trans (List.map_id _)
section
variable {lim lim' : Nat -> Nat} {bs bs' : List Nat} {w w' : World} {P : Program} {a : Act} {o : Oper} {m : Nat -> Prop} {K : Act -> World -> Prop} {Q : Exit -> Act -> World -> Prop} {σ : aF}
theorem aao {g:Nat} {cap ys:List AV} {r:AV} {bx':List (List AV)} (HC:aV P g ys σ.bx r bx') (H:aB lim bs w σ.bx (Sl σ.tm a) m) (hm:∀b,w.heap.size<=b->m b) (hd:∀k,o.dst=some k->k<a.tmps.size) {c:Call} {f:Operand} (ho:o.op=.call c) (hc:c.callee=.value f) (hv:val σ.tm f=.fn g cap) (hcf:AV.aj cap=true)
  (hys:ys=(c.args.toList.map (val σ.tm)).map AV.cO++cap) (hK:yA m lim bs w a ⟨eG σ.tm o.dst r,bx'⟩ K):o.wp P a w K Q:=by
 obtain ⟨Og,adk,hcall⟩:=HC;have hfr:=(pg H f).1.r;rw [hv,AV.R] at hfr;obtain ⟨vc,hfe,hcap⟩:=hfr;obtain ⟨hargs,yj⟩:=qV H c.args.toList;have hall:AV.Rs lim bs w ys (c.args.toList.map a.eval++vc.toList):=by rw [hys];exact ng hargs hcap
 have hyf:AV.aj ys=true:=by rw [hys];exact fA yj hcf
 have hlen2:(c.args.toList.map a.eval++vc.toList).length=ys.length:=AV.gK hall;have hgd:((List.range σ.bx.length).map fun i=>bs.getD i 0)=bs:=by rw [←H.len];exact ZF bs
 have hrn:σ.bx.map (AV.aG (List.range σ.bx.length).idxOf)=σ.bx:=(List.map_congr_left fun c hc=>iI fun i hi=>rP (NL H c hc i hi)).trans (List.map_id _);have DK:∀(k:Nat) (x:AV) (v:Value),ys[k]?=some x->(c.args.toList.map a.eval++vc.toList)[k]?=some v->AV.R lim ((List.range σ.bx.length).map fun i=>bs.getD i 0) w x v:=by intro k x v hk hv;obtain ⟨v',h1,h2⟩:=mO hall hk;rw [hv] at h1;cases h1;rw [hgd];exact h2
 have DN:∀(k:Nat) (x:AV),ys[k]?=some x->x.flat=true:=fun k x hk=>fJ hyf hk;have hE:=H.enter (List.nodup_range (n:=σ.bx.length)) (Le σ.bx) (fun c hc i hi=>List.mem_range.2 (NL H c hc i hi)) (args:=ys) (vs:=c.args.toList.map a.eval++vc.toList) hlen2 DN DK;rw [hgd,hrn] at hE;obtain ⟨HE,hE1,hE2,hE3⟩:=hE;have hrun:(execOp a.eval o).run P w=.ok (.enter g (c.args.map a.eval++vc)) w:=by unfold execOp;simp only [ho,resolve,hc,hfe,Deferred.ofValue,Sem.run_bind,Sem.run_pure,Result.andThen_ok,invoke,Array.empty_append];exact qh Og _
 have hvs:(c.args.toList.map a.eval++vc.toList).toArray=c.args.map a.eval++vc:=by rw [←Array.toList_inj];simp
 unfold Oper.wp;rw [hrun];show Calls P g (c.args.map a.eval++vc) w _;rw [←hvs];refine (hcall lim _ w _ _ hlen2 (fun b hb=> .inr (.inr hb)) HE).mono ?_;rintro e w' ⟨v,lim',bsn,rfl,H',Nl,hpre⟩;have hL:=H.leave hm (List.nodup_range (n:=σ.bx.length)) (Le σ.bx) (bx':=bx') (by rw [List.length_range];exact adk) (r:=r) (v:=v) (Sc:=aS ys (c.args.toList.map a.eval++vc.toList)) (bsc:=bs) (bsn:=bsn) (lim':=lim') (w':=w') hgd.symm (fun i hi=>hpre i (by rwa [List.length_range] at hi)) (by rw [hrn];exact hE1) (by rw [hrn];exact hE2) hE3 (by rw [hrn];exact H') (by rw [hrn];exact Nl) o.dst;rw [Kt,Kt,Yt,List.length_range,OW (by rw [List.length_take];omega),List.take_append_drop] at hL;obtain ⟨HL,hfl⟩:=hL;refine hK lim' (bs++bsn.drop σ.bx.length) w' _ ⟨?_,hfl,fun i b hi=>by rw [List.getElem?_append_left (List.getElem?_eq_some_iff.1 hi).1];exact hi,bY _ _ _,put_defers _ _ _⟩;show aB lim' _ w' _ (Sl (eG σ.tm o.dst r) (a.put o.dst v)) m;rw [jh hd];exact HL
end
variable {P : Program} {T : kZ} {sp : Sp} {n0 base : Nat} {σ τ : aF} {Q : zV -> aF -> Prop} {cal : BR}
def Q3 (bx:List (List AV)) (ids:List Nat) (K:List (List AV)->Prop):Prop:=
 match ids with
 |[]=>K []
 |[i]=>∃c,bx[i]?=some c∧K [c]
 |_=>False
theorem VW {bx:List (List AV)} {ids:List Nat} {K:List (List AV)->Prop} (h:Q3 bx ids K):∃cs,bD bx ids=some cs∧K cs:=by
 unfold Q3 at h;split at h
 ·exact ⟨[],rfl,h⟩
 ·rename_i i;obtain ⟨c,h1,h2⟩:=h;exact ⟨[c],by rw [bD,h1,bD],h2⟩
 ·exact h.elim
def gZ (bx:List (List AV)) (i:Nat) (c c':List AV) (K:List (List AV)->Prop):Prop:=bx[i]?=some c->∀b,b.length=bx.length->b[i]?=some c'->(∀j,j≠i->b[j]?=bx[j]?)->K b
theorem gZ.same {bx:List (List AV)} {i:Nat} {c:List AV} {K:List (List AV)->Prop} (h:K bx):gZ bx i c c K:=by
 intro h1 b h2 h3 h4;have:b=bx:=by
  apply List.ext_getElem?;intro j;by_cases e:j=i
  ·rw [e,h3,h1]
  ·exact h4 j e
 rw [this];exact h
theorem gZ.mk {bx:List (List AV)} {i:Nat} {c c':List AV} {K:List (List AV)->Prop} (h:∀b,b.length=bx.length->b[i]?=some c'->(∀j,j≠i->b[j]?=bx[j]?)->K b):gZ bx i c c' K:=fun _=>h
theorem gZ.out {bx:List (List AV)} {i:Nat} {c c':List AV} {K:List (List AV)->Prop} (h:gZ bx i c c' K) (h1:bx[i]?=some c):K (bx.set i c'):=
 h h1 _ (by rw [List.length_set]) (List.getElem?_set_self (List.getElem?_eq_some_iff.1 h1).1) (fun j hj=>List.getElem?_set_ne fun e=>hj e.symm)
attribute [irreducible] gZ
def wX (bx:List (List AV)) (c:List AV) (K:List (List AV)->Prop):Prop:=∀b,b.length=bx.length+1->b[bx.length]?=some c->(∀j,j<bx.length->b[j]?=bx[j]?)->K b
theorem wX.mk {bx:List (List AV)} {c:List AV} {K:List (List AV)->Prop} (h:∀b,b.length=bx.length+1->b[bx.length]?=some c->(∀j,j<bx.length->b[j]?=bx[j]?)->K b):wX bx c K:=h
theorem wX.out {bx:List (List AV)} {c:List AV} {K:List (List AV)->Prop} (h:wX bx c K):K (bx++[c]):=
 h _ (by rw [List.length_append];rfl) (by rw [List.getElem?_append_right (Nat.le_refl _),Nat.sub_self];rfl) (fun j hj=>List.getElem?_append_left hj)
attribute [irreducible] wX
def aeY (bx:List (List AV)) (ids:List Nat) (cs bs:List (List AV)) (K:List (List AV)->Prop):Prop:=
 match ids with
 |[]=>K bx
 |i::_=>
  match cs,bs with
  |[c],[c']=>gZ bx i c c' K
  |_,_=>False
theorem aa7 {bx cs bs:List (List AV)} {ids:List Nat} {K:List (List AV)->Prop} (hc:bD bx ids=some cs) (h:aeY bx ids cs bs K):K (ak bx ids bs):=by
 unfold aeY at h;split at h
 ·rw [ak]
  ·exact h
  ·intros;contradiction
 ·rename_i i r;split at h
  ·rename_i c c';unfold bD at hc;split at hc
   ·rename_i c2 cs2 h1 h2;cases hc;have hr:r=[]:=by
     cases r with
     |nil=>rfl
     |cons j r=>
      unfold bD at h2;split at h2<;>cases h2
    subst hr;rw [ak,ak]
    ·exact h.out h1
    ·intros;contradiction
   ·cases hc
  ·exact h.elim
def aeZ (bx nw:List (List AV)) (K:List (List AV)->Prop):Prop:=
 match nw with
 |[]=>K bx
 |[c]=>wX bx c K
 |_=>False
theorem aba {bx nw:List (List AV)} {K:List (List AV)->Prop} (h:aeZ bx nw K):K (bx++nw):=by
 unfold aeZ at h;split at h
 ·rw [List.append_nil];exact h
 ·exact h.out
 ·exact h.elim
def yOp (sp:Sp) (T:kZ) (md:Md) (kn:Kn) (o:Oper) (σ:aF) (K:aF->Prop):Prop:=
 match σ with
 |⟨tm,bx⟩=>AY (OD (val tm) bx o.op) fun ids=>Q3 bx ids fun cs=>JW sp false T (jb md.ad o.dst) (jb md.arr o.dst) bx.length kn (val tm) cs ids o.op fun v bs nw=>
   Qq (kS (jb md.ad o.dst) o.op) tm fun tm=>y7 tm o.dst v fun tm=>aeY bx ids cs bs fun b=>aeZ b nw fun b=>K ⟨tm,b⟩
theorem QZ (hI:Is sp cal) (hT:sW T) {md:Md} {kn:Kn} {o:Oper} {K:aF->Prop} (hσ:Ok σ) (hk:KN kn σ) (h:yOp sp T md kn o σ K):∃σ1 σ2,VM cal T md o σ=some σ1∧Ok σ2∧Xx false σ1 σ2∧KN (knD kn o.dst) σ2∧K σ2:=by
 unfold yOp at h;change AY (OD (val σ.tm) σ.bx o.op) _ at h;rw [kP,←CG (rX hσ.tm) hσ.bx o.op] at h;obtain ⟨cs,hcs,h⟩:=VW h;obtain ⟨out,v,h1,h2,h3,h4,h5,h6,h7,h8⟩:=Ci (ty:=o.type) hI hT (rX hσ.tm) (oH hσ.bx hcs) hk h;rw [Au,pK] at h8;have h8:=aba (aa7 hcs h8);refine ⟨fin o.dst out (eH (val σ.tm) σ.bx o.op) (kS (jb md.ad o.dst) o.op) σ,_,?_,⟨rq h4 (vY hσ.tm),lX (uY hσ.bx h5) h6⟩,?_,hk.next _ _ _ _,h8⟩
 ·unfold VM Bc;rw [hcs];simp only [];rw [h1];simp only [];rw [if_pos h2]
 ·rcases h7 with rfl|⟨e1,e2,e,z,rfl⟩
  ·exact .inl rfl
  ·cases hd:o.dst with
   |none=>exact .inl rfl
   |some d=>
    refine .inr ⟨e1,_,d,e,z,_,?_,rfl⟩;unfold fin;rw [e2];rfl
def VV (sp:Sp) (T:kZ) (md:Md) (all:List Oper) (kn:Kn) (o:Oper) (σ:aF) (K:Kn->aF->Prop):Prop:=
 match o.guard with
 |none=>yOp sp T md kn o σ fun τ=>Oc kn o.dst fun kn=>K kn τ
 |some (j,want)=>
  match (all[j]?).bind (·.dst) with
  |none=>False
  |some t=>
   match assoc kn t with
   |some b=>
    match b==want with
    |true=>yOp sp T md kn o σ fun τ=>Oc kn o.dst fun kn=>K kn τ
    |false=>skK o.dst σ fun τ=>Oc kn o.dst fun kn=>K kn τ
   |none=>
    match get σ.tm t with
    |.bool b=>(b=want->Go (yOp sp T md ((t,want)::kn) o σ fun τ=>Oc ((t,want)::kn) o.dst fun kn=>K kn τ))∧(b=(!want)->Go (skK o.dst σ fun τ=>Oc ((t,!want)::kn) o.dst fun kn=>K kn τ))
    |.bW []=>skK o.dst σ fun τ=>Oc kn o.dst fun kn=>K kn τ
    |_=>False
theorem aa9 (hI:Is sp cal) (hT:sW T) {md:Md} {all:List Oper} {kn:Kn} {o:Oper} {K:Kn->aF->Prop} (hσ:Ok σ) (hk:KN kn σ) (h:VV sp T md all kn o σ K):∃σ1 σ2 zx,nK cal T md all o σ=some σ1∧Ok σ2∧Xx false σ1 σ2∧KN zx σ2∧K zx σ2:=by
 unfold VV at h;unfold nK sU;split at h
 ·rename_i hg;rw [hg];obtain ⟨σ1,σ2,h1,h2,h3,h4,h5⟩:=QZ hI hT hσ hk h;rw [zu] at h5;exact ⟨σ1,σ2,_,h1,h2,h3,h4,h5⟩
 ·rename_i j want hg;rw [hg];simp only [];split at h
  ·exact h.elim
  rename_i t ht;rw [ht];simp only [];have hsk:∀{kn:Kn},KN kn σ->(skK o.dst σ fun τ=>Oc kn o.dst fun kn=>K kn τ)->∃σ1 σ2 zx,some (Ii o σ)=some σ1∧Ok σ2∧Xx false σ1 σ2∧KN zx σ2∧K zx σ2:=by intro kn hk h;change (y7 σ.tm o.dst (.bW []) fun tm=>Oc kn o.dst fun kn=>K kn ⟨tm,σ.bx⟩) at h;rw [pK,zu] at h;exact ⟨_,_,_,rfl,(GK hσ hk).1,.inl rfl,(GK hσ hk).2,h⟩
  split at h
  ·rename_i b hb;have hgt:get σ.tm t=.bool b:=hk (.tmp t) b hb;rw [hgt];simp only [];split at h
   ·rename_i e;rw [e];obtain ⟨σ1,σ2,h1,h2,h3,h4,h5⟩:=QZ hI hT hσ hk h;rw [zu] at h5;exact ⟨σ1,σ2,_,h1,h2,h3,h4,h5⟩
   ·rename_i e;rw [e];exact hsk hk h
  ·split at h
   ·rename_i b hb;rw [hb];simp only [];by_cases e:b=want
    ·rw [show (b==want)=true from by rw [e];exact beq_self_eq_true want];obtain ⟨σ1,σ2,h1,h2,h3,h4,h5⟩:=QZ hI hT hσ (hk.cons (by rw [hb,e])) (h.1 e);rw [zu] at h5;exact ⟨σ1,σ2,_,h1,h2,h3,h4,h5⟩
    ·have e2:b=(!want):=by cases b<;>cases want<;>first|rfl|exact absurd rfl e
     rw [show (b==want)=false from by rw [e2];cases want<;>rfl];exact hsk (hk.cons (by rw [hb,e2])) (h.2 e2)
   ·rename_i hb;rw [hb];exact hsk hk h
   ·exact h.elim
def XB (sp:Sp) (g:Nat) (c:List AV) (xs:List AV) (bx:List (List AV)) (K:AV->List (List AV)->Prop):Prop:=
 match assoc sp g with
 |some rf=>vI (sH (xs.map AV.cO++c)) fun args=>aN bx=true->rf args bx fun r b=>Go (JM r fun r=>K r b)
 |none=>False
theorem XA (hS:ae P sp) {g:Nat} {c xs:List AV} {bx:List (List AV)} {K:AV->List (List AV)->Prop} (hb:aN bx=true) (hc:CB c=true) (hx:iE xs=true) (h:XB sp g c xs bx K):∃r bx',aV P g (xs.map AV.cO++c) bx r bx'∧wv r=true∧aN bx'=true∧K r bx':=by
 unfold XB at h;split at h
 ·rename_i rf hcon;rw [lu] at h;have h:=h hb;obtain ⟨r,b,g1,g2,g3,g4⟩:=hS g rf hcon _ _ _ (Bq (yJ hx) (tC hc)) h;have:=g4 _ h;unfold Go at this;rw [Az] at this;exact ⟨r,b,g1,g2,g3,this⟩
 ·exact h.elim
def VU (sp:Sp) (al:List Nat) (T:kZ) (md:Md) (all:List Oper) (kn:Kn) (o:Oper) (σ:aF) (K:Kn->aF->Prop):Prop:=
 match o.op with
 |.call c=>
  match c.callee with
  |.value f=>
   match val σ.tm f with
   |.fn g cap=>
    match mem g al with
    |true=>
     match o.guard with
     |none=>XB sp g cap (c.args.toList.map (val σ.tm)) σ.bx fun r b=>y7 σ.tm o.dst r fun tm=>K [] ⟨tm,b⟩
     |some _=>False
    |false=>VV sp T md all kn o σ K
   |_=>False
  |_=>VV sp T md all kn o σ K
 |_=>VV sp T md all kn o σ K
theorem Gv (HT:mM P T) (HC:fB P cal) (hS:ae P sp) (hI:Is sp cal) (hT:sW T) {al:List Nat} {md:Md} {all:List Oper} {kn:Kn} {o:Oper} {K:Kn->aF->Prop} (hσ:Ok σ) (hk:KN kn σ) (h:VU sp al T md all kn o σ K):
  ∃τ zx,Ok τ∧KN zx τ∧K zx τ∧∀{m:Nat->Prop} {lim:Nat->Nat} {bs:List Nat} {w:World} {a:Act} {Kc:Act->World->Prop} {Q:Exit->Act->World->Prop} {ops:Array Oper},ops.toList=all->(∀k,o.dst=some k->k<a.tmps.size)->aB lim bs w σ.bx (Sl σ.tm a) m->(∀b,w.heap.size<=b->m b)->kJ md.base m lim bs w a τ Kc->if Region.wanted o (yielded ops a.tmps)=true then o.wp P a w Kc Q else Kc (a.put o.dst undef) w:=by
 have hG:VV sp T md all kn o σ K->∃τ zx,Ok τ∧KN zx τ∧K zx τ∧∀{m:Nat->Prop} {lim:Nat->Nat} {bs:List Nat} {w:World} {a:Act} {Kc:Act->World->Prop} {Q:Exit->Act->World->Prop} {ops:Array Oper},ops.toList=all->(∀k,o.dst=some k->k<a.tmps.size)->aB lim bs w σ.bx (Sl σ.tm a) m->(∀b,w.heap.size<=b->m b)->kJ md.base m lim bs w a τ Kc->if Region.wanted o (yielded ops a.tmps)=true then o.wp P a w Kc Q else Kc (a.put o.dst undef) w:=by intro h;obtain ⟨σ1,σ2,zx,h1,h2,h3,h4,h5⟩:=aa9 (cal:=cal) hI hT hσ hk h;refine ⟨σ2,zx,h2,h4,h5,fun {m lim bs w a Kc Q ops} he hd H hm hK=>?_⟩;subst he;exact qI HT HC H hm hd h1 (fun eQ mY w1 a2 hg=>hK _ _ _ _ (h3.go (ρ:=σ) hg.B))
 unfold VU at h;split at h
 ·rename_i c hc;split at h
  ·rename_i f hf;split at h
   ·rename_i g cap hv;split at h
    ·split at h
     ·rename_i hg;have hwf:wv (val σ.tm f)=true:=rX hσ.tm f;rw [hv] at hwf;obtain ⟨r,b,g1,g2,g3,g4⟩:=XA hS hσ.bx hwf (jR.2 fun v hv=>by
       obtain ⟨x,_,rfl⟩:=List.mem_map.1 hv;exact rX hσ.tm x) h
      rw [pK] at g4;refine ⟨⟨eG σ.tm o.dst r,b⟩,[],⟨rq g2 hσ.tm,g3⟩,KN.nil _,g4,fun {m lim bs w a Kc Q ops} he hd H hm hK=>?_⟩;rw [if_pos (by simp [Region.wanted,hg])];exact aao g1 H hm hd hc hf hv (lF hwf) rfl (fun eQ mY w1 a2 hgo=>hK _ _ _ _ hgo.B)
     ·exact h.elim
    ·exact hG h
   ·exact h.elim
  ·exact hG h
 ·exact hG h
def aa8 (sp:Sp) (al:List Nat) (T:kZ) (md:Md) (all:List Oper):List Oper->Kn->aF->(aF->Prop)->Prop
 |[],_,σ,K=>K σ
 |o::r,kn,σ,K=>VU sp al T md all kn o σ fun kn τ=>aa8 sp al T md all r kn τ K
theorem TV (HT:mM P T) (HC:fB P cal) (hS:ae P sp) (hI:Is sp cal) (hT:sW T) {al:List Nat} {ops:Array Oper} {md:Md} {K:aF->Prop}:∀(l:List Oper) {kn:Kn} {σ:aF},Ok σ->KN kn σ->aa8 sp al T md ops.toList l kn σ K->∃τ,Ok τ∧K τ∧∀{m:Nat->Prop} {lim:Nat->Nat} {bs:List Nat} {w:World} {a:Act} {Q:Exit->Act->World->Prop},(∀o ∈ l,∀k,o.dst=some k->k<a.tmps.size)->aB lim bs w σ.bx (Sl σ.tm a) m->(∀b,w.heap.size<=b->m b)->kJ md.base m lim bs w a τ (Q .normal)->wpList P ops Q l a w
 |[],kn,σ,hσ,hk,h=>⟨σ,hσ,h,fun hd H hm hK=>wpList_nil (hK _ _ _ _ ⟨H,Fr.refl,fun _ _ _ h=>h,rfl,rfl⟩)⟩
 |o::l,kn,σ,hσ,hk,h=>by obtain ⟨σ2,zx,h2,h4,h5,h6⟩:=Gv (cal:=cal) HT HC hS hI hT hσ hk h;obtain ⟨τ,g1,g2,g3⟩:=TV HT HC hS hI hT l h2 h4 h5;refine ⟨τ,g1,g2,fun hd H hm hK=>wpList_step fun K' hK'=>?_⟩;refine h6 rfl (fun k hk=>hd o List.mem_cons_self k hk) H hm (fun eQ mY w1 a2 hg=>hK' a2 w1 ?_);exact g3 (fun o ho k hk=>by rw [hg.nt];exact hd o (List.mem_cons_of_mem _ ho) k hk) hg.hold (fun b hb=>hm b (Nat.le_trans hg.fr.bel.size hb)) (fun jB wR w2 a3 hg2=>hK jB wR w2 a3 (hg.trans hg2))
theorem WP.afy (B:Em P T sp) (an:Gm) (al:List Nat) {i:Nat} {ops:Array Oper} (h:opK ops.toList fun all=>AY (qU all++an.adl) fun ad=>AY an.arr fun arr=>AY (an.live.getD i []) fun live=>aa8 sp al T ⟨ad,arr,base⟩ all all [] σ (Qu live Q)):WP P n0 base (.region i ops false) σ Q:=by refine WP.mk fun hg hσ=>?_;obtain ⟨cal,HC,hI⟩:=qM B.sp;rw [EE,kP,kP,kP] at h;obtain ⟨τ,g1,g2,g3⟩:=TV B.tok HC B.sp hI B.well ops.toList hσ (KN.nil σ) h;change (JG (an.live.getD i []) τ.tm fun tm=>Q .normal ⟨tm,τ.bx⟩) at g2;rw [xI] at g2;refine ⟨.normal,⟨prune (an.live.getD i []) τ.tm,τ.bx⟩,fun hn hb H hm hK=>?_,⟨iZ _ g1.tm,g1.bx⟩,g2⟩;exact wp_region_list (g3 (rU hg hn) H hm fun lim' bs' w' a' hgo=>hK lim' bs' w' a' ⟨hgo.hold.prune _,hgo.fr,hgo.pre,hgo.nt,hgo.df⟩)
def ae0 (T:kZ) (σ:aF) (rs:List ResultVar) (n:Nat) (G:AV->List (List AV)->Prop):Prop:=
 JV T σ rs fun vs=>abL vs fun v=>σ.bx.length=n∧G v σ.bx
def amr (T:kZ) (rs:List ResultVar) (n:Nat) (G:AV->List (List AV)->Prop) (e:zV) (τ:aF):Prop:=
 match e with
 |.exit _=>False
 |_=>ae0 T τ rs n G
theorem Nr (HT:mM P T) {f:Nat} {fn:Func} {c:Code} (hf:P.funcs[f]?=some fn) (hg:sS fn=true) (hb:fn.body=some c) {args:List AV} {bx:List (List AV)} (ha:iE args=true) (hbx:aN bx=true) {G:AV->List (List AV)->Prop} (h:WP P fn.ntmps bx.length c ⟨params [] 0 args,bx⟩ (amr T fn.results.toList bx.length G)):∃r bx',aV P f args bx r bx'∧wv r=true∧aN bx'=true∧G r bx':=by
 unfold sS at hg;rw [Bool.and_eq_true] at hg;obtain ⟨hg1,hg2⟩:=hg;rw [hb] at hg2;obtain ⟨e,σ,h1,h2,h3⟩:=WP.out h hg2 ⟨qE ha rfl,hbx⟩;have he:(e=.normal∨e=.ret)∧ae0 T σ fn.results.toList bx.length G:=by
  cases e with
  |normal=>exact ⟨.inl rfl,h3⟩
  |ret=>exact ⟨.inr rfl,h3⟩
  |exit i=>exact h3.elim
 obtain ⟨he,h3⟩:=he;unfold ae0 at h3;obtain ⟨vs,q1,q2,q3⟩:=Cf (n:=bx.length) h2 h3;rw [Mc] at q3;obtain ⟨q3,q4⟩:=q3;refine ⟨kH vs,σ.bx,?_,uq q2,h2.bx,q4⟩;refine ⟨⟨fn,hf,by simpa using hg1,by rw [hb];rfl⟩,Nat.le_of_eq q3.symm,fun lim bs w ws m hl hm H=>?_⟩;refine calls_of_wp hf hb ?_;have hsz:fn.ntmps<=(ws.toArray++Array.replicate (fn.ntmps-ws.toArray.size) undef).size:=kU;have hbs:bs.length=bx.length:=H.len;refine h1 (m:=m) hsz (Nat.le_refl _) (kW hl H) hm fun lim' bs' w' a' hgo=>?_;obtain ⟨u,u1,u2⟩:=jw (fn:=fn) HT hgo.hold q1;have hpost:a'.defers=[]∧∃v,(results fn a'.tmps).run P w'=.ok v w'∧(∃v' lim' bs',Ending.returned v=.returned v'∧aB lim' bs' w' σ.bx (rS (kH vs) v') m∧Fr m lim w lim' w'∧∀i,i<bx.length->bs'[i]?=bs[i]?):=by refine ⟨hgo.df,u,u1,u,lim',bs',rfl,u2,hgo.fr,fun i hi=>?_⟩;have hib:i<bs.length:=oM;rw [hgo.pre i _ hi (List.getElem?_eq_getElem hib),List.getElem?_eq_getElem hib]
 rcases he with rfl|rfl
 ·exact hpost
 ·exact hpost
theorem Fn.UK {f:Nat} {fn:Func} {c:Code} {n0:Nat} {rs:List ResultVar} (F:Fn Tryz.prog f fn c n0 rs) {rf:az} {args:List AV} {bx:List (List AV)} (ha:iE args=true) (hbx:aN bx=true) (h:PR args fun tm=>sV c fun c=>WP Tryz.prog n0 bx.length c ⟨tm,bx⟩ (amr jJ rs bx.length fun r b=>wv r=true->aN b=true->af rf args bx r b)):∃r bx',aV Tryz.prog f args bx r bx'∧wv r=true∧aN bx'=true∧∀K,rf args bx K->K r bx':=by have h:=jW (Dj h);rw [←F.nt,←F.rs] at h;obtain ⟨r,b,h1,h2,h3,h4⟩:=Nr tok F.at_ F.jK F.body ha hbx h;have h4:=h4 h2 h3;unfold af at h4;obtain ⟨r2,b2,g1,g2,g3,g4,g5⟩:=h4;exact ⟨r2,b2,aV.aW h1 g1 g2 g3 g4,g3,g4,g5⟩
end V
namespace V
open Ab
variable {lim lim' : Nat -> Nat} {bs bs' : List Nat} {w w' : World} {P : Program} {T : kZ} {a : Act} {o : Oper} {m : Nat -> Prop} {bx bx' : List (List AV)} {S S' : uP} {K : Act -> World -> Prop} {Q : Exit -> Act -> World -> Prop} {cal : BR} {σ σ' σ1 σ2 : aF}
def aK (P:Program) (base:Nat) (ops:Array Oper) (o:Oper) (σ τ:aF):Prop:=∀{m:Nat->Prop} {lim:Nat->Nat} {bs:List Nat} {w:World} {a:Act} {K:Act->World->Prop} {Q:Exit->Act->World->Prop},(∀k,o.dst=some k->k<a.tmps.size)->aB lim bs w σ.bx (Sl σ.tm a) m->(∀b,w.heap.size<=b->m b)->kJ base m lim bs w a τ K->if Region.wanted o (yielded ops a.tmps)=true then o.wp P a w K Q else K (a.put o.dst undef) w
theorem ado {base:Nat} {ops:Array Oper} {M:List (Nat×Oper)->aF->Prop} (hko:qK ops.toList=true) (hdst:∀o ∈ ops.toList,∀k,o.dst=some k->k<a.tmps.size) {Fin:aF->Prop} (hM0:∀σ,M [] σ->Fin σ)
  (hMs:∀(pre post:List (Nat×Oper)) (i:Nat) (o:Oper) (σ:aF),M (pre++(i,o)::post) σ->ops[i]?=some o->(∀p ∈ pre++(i,o)::post,ops[p.1]?=some p.2)->(pre++(i,o)::post).Pairwise (fun p q=>p.1<q.1)->(∀p ∈ pre++post,((jX [] ops.toList).getD i 0).testBit p.1=false)->∃σ1,aK P base ops o σ σ1∧M (pre++post) σ1):
  ∀(n:Nat) (l:List (Nat×Oper)),l.length=n->∀{lim:Nat->Nat} {bs:List Nat} {w:World} {σ:aF} {a1:Act} {listed:Array Bool},listed.size=ops.size->l.Pairwise (fun p q=>p.1<q.1)->(∀p ∈ l,ops[p.1]?=some p.2)->(∀k,listed.getD k true=false↔∃o,(k,o) ∈ l)->
   (∀(j:Nat) (o:Oper),ops[j]?=some o->listed.getD j false=true->∀i ∈ dL o,listed.getD i false=true)->
   a1.tmps.size=a.tmps.size->aB lim bs w σ.bx (Sl σ.tm a1) m->(∀b,w.heap.size<=b->m b)->M l σ->(∀σ',Fin σ'->kJ base m lim bs w a1 σ' (Q .normal))->wpAny P .any ops Q n listed a1 w:=by
 obtain ⟨hk1,hk2⟩:=rO hko;have hall:∀j,ops.toList[j]?=ops[j]?:=fun j=>Array.getElem?_toList;have hpr:∀{o:Oper} {i:Nat},i ∈ dL o↔∃e ∈ o.after,Region.binds .any e=true∧e.on=i:=by
  intro o i;unfold dL;rw [List.mem_filterMap];constructor
  ·rintro ⟨e,h1,h2⟩;split at h2
   ·rename_i hb;cases h2;exact ⟨e,by simpa using h1,hb,rfl⟩
   ·cases h2
  ·rintro ⟨e,h1,h2,rfl⟩;exact ⟨e,by simpa using h1,by rw [if_pos h2]⟩
 intro n
 induction n with
 |zero=>
  intro l hl lim bs w σ a1 listed hsz hs hin hun hdc hts H hm h hK;obtain rfl:=List.eq_nil_of_length_eq_zero hl;have hfin:Fin σ:=hM0 σ h;refine ⟨?_,hK σ hfin lim bs w a1 ⟨H,Fr.refl,fun _ _ _ h=>h,rfl,rfl⟩⟩;rw [List.eq_nil_iff_forall_not_mem];intro i hi;obtain ⟨h0,-⟩:=mem_ready.1 hi;obtain ⟨o,ho⟩:=(hun i).1 h0;cases ho
 |succ n ih=>
  intro l hl lim bs w σ a1 listed hsz hs hin hun hdc hts H hm h hK;refine ⟨fun hr=>?_,fun i hi=>?_⟩
  ·
   exfalso;cases l with
   |nil=>simp at hl
   |cons p l=>
    obtain ⟨k,o⟩:=p;have EM:=hin _ List.mem_cons_self;have:k ∈ Region.ready .any ops listed:=by
     refine mem_ready.2 ⟨(hun k).2 ⟨o,List.mem_cons_self⟩,o,EM,fun e he hb=>?_⟩;have hlt:e.on<k:=hk1 k o (by rw [hall];exact EM) e.on (hpr.2 ⟨e,he,hb,rfl⟩);have ak0:k<ops.size:=(Array.getElem?_eq_some_iff.1 EM).1;have hnot:¬listed.getD e.on true=false:=by
      intro hf;obtain ⟨o2,ho2⟩:=(hun e.on).1 hf;rcases List.mem_cons.1 ho2 with h1|h1
      ·cases h1;omega
      ·have:=(List.pairwise_cons.1 hs).1 _ h1;simp only at this;omega
     have hlt2:e.on<listed.size:=oM;simpa [hlt2] using hnot
    rw [hr] at this;cases this
  ·obtain ⟨h0,o,ho,F6⟩:=mem_ready.1 hi;obtain ⟨o',ho'⟩:=(hun i).1 h0;have:=hin _ ho';simp only [] at this;rw [ho] at this;cases this;obtain ⟨pre,post,rfl⟩:=List.append_of_mem ho';have hs0:=hs;rw [List.pairwise_append] at hs;obtain ⟨s1,s2,s3⟩:=hs;have zG:∀j ∈ dL o,listed.getD j false=true:=by intro j hj;obtain ⟨e,e1,e2,rfl⟩:=hpr.1 hj;exact F6 e e1 e2
   have EL:∀p ∈ pre++post,((jX [] ops.toList).getD i 0).testBit p.1=false:=by
    intro p hp;cases hb:((jX [] ops.toList).getD i 0).testBit p.1 with
    |false=>rfl
    |true=>
     exfalso;have:=NQ (D:=fun k=>listed.getD k false=true) hk1 (fun j o2 hj hD=>hdc j o2 (by rw [←hall];exact hj) hD) (i+1) i o oM (by rw [hall];exact ho) zG p.1 hb;have hpl:p ∈ pre++(i,o)::post:=by
      rcases List.mem_append.1 hp with hp|hp
      ·exact List.mem_append_left _ hp
      ·exact List.mem_append_right _ (List.mem_cons_of_mem _ hp)
     have h2:=BH ((hun p.1).2 ⟨p.2,hpl⟩);rw [h2] at this;cases this
   obtain ⟨σ1,g1,g3⟩:=hMs pre post i o σ h ho hin hs0 EL;refine wpOp_step ho fun K' hK'=>?_;refine g1 (fun k hk=>by rw [hts];exact hdst o (List.mem_of_getElem? (by rw [hall];exact ho)) k hk) H hm (fun eQ mY w1 a2 hg=>hK' a2 w1 ?_);have hlen:(pre++post).length=n:=by rw [List.length_append,List.length_cons] at hl;rw [List.length_append];omega
   refine ih (pre++post) hlen (by simpa using hsz) ?_ (fun p hp=>hin p ?_) (fun k=>?_) (fun j o2 hj hD=>?_) (hg.nt.trans hts) hg.hold (fun b hb=>hm b (Nat.le_trans hg.fr.bel.size hb)) g3 (fun σ' hF jB wR w2 a3 hg2=>hK σ' hF jB wR w2 a3 (hg.trans hg2))
   ·rw [List.pairwise_append];exact ⟨s1,(List.pairwise_cons.1 s2).2,fun p hp q hq=>s3 p hp q (List.mem_cons_of_mem _ hq)⟩
   ·rcases List.mem_append.1 hp with hp|hp
    ·exact List.mem_append_left _ hp
    ·exact List.mem_append_right _ (List.mem_cons_of_mem _ hp)
   ·by_cases hki:k=i
    ·subst hki;have hlt:k<listed.size:=by rw [hsz];exact (Array.getElem?_eq_some_iff.1 ho).1
     constructor
     ·intro h;simp [hlt] at h
     ·rintro ⟨o2,h2⟩;exfalso;rcases List.mem_append.1 h2 with h2|h2
      ·have:=s3 _ h2 (k,o) List.mem_cons_self;simp only [] at this;omega
      ·have:=(List.pairwise_cons.1 s2).1 _ h2;simp only [] at this;omega
    ·rw [getD_set_ne true (Ne.symm hki),hun k];constructor
     ·rintro ⟨o2,h2⟩;refine ⟨o2,?_⟩;rcases List.mem_append.1 h2 with h2|h2
      ·exact List.mem_append_left _ h2
      ·rcases List.mem_cons.1 h2 with e|h2
       ·cases e;exact absurd rfl hki
       ·exact List.mem_append_right _ h2
     ·rintro ⟨o2,h2⟩;refine ⟨o2,?_⟩;rcases List.mem_append.1 h2 with h2|h2
      ·exact List.mem_append_left _ h2
      ·exact List.mem_append_right _ (List.mem_cons_of_mem _ h2)
   ·intro j2 hj2;refine getD_set_true ?_;by_cases hji:j=i
    ·subst hji;rw [ho] at hj;cases hj;exact zG j2 hj2
    ·rw [getD_set_ne false (Ne.symm hji)] at hD;exact hdc j o2 hj hD j2 hj2
theorem Xm {base:Nat} (HT:mM P T) {ops:Array Oper} {M:List (Nat×Oper)->aF->Prop} (hko:qK ops.toList=true) (hdst:∀o ∈ ops.toList,∀k,o.dst=some k->k<a.tmps.size) {id:Nat} {Fin:aF->Prop} (hM0:∀σ,M [] σ->Fin σ)
  (hMs:∀(pre post:List (Nat×Oper)) (i:Nat) (o:Oper) (σ:aF),M (pre++(i,o)::post) σ->ops[i]?=some o->(∀p ∈ pre++(i,o)::post,ops[p.1]?=some p.2)->(pre++(i,o)::post).Pairwise (fun p q=>p.1<q.1)->(∀p ∈ pre++post,((jX [] ops.toList).getD i 0).testBit p.1=false)->∃σ1,aK P base ops o σ σ1∧M (pre++post) σ1)
  (H:aB lim bs w σ.bx (Sl σ.tm a) m) (hm:∀b,w.heap.size<=b->m b) (h:M (dR 0 ops.toList) σ) (hK:∀σ',Fin σ'->kJ base m lim bs w a σ' (Q .normal)):(Code.region id ops true).wp P Q a w:=by
 have hfr:Fr m lim w lim {w with drawn:=w.drawn+1}:=Fr.drew;have H2:aB lim bs {w with drawn:=w.drawn+1} σ.bx (Sl σ.tm a) m:=(H.world (hfr.ext (fun _ _ h=>h)) (fun b hb=>⟨rfl,H.free b hb⟩) (fun p g _=>⟨rfl,rfl⟩) (fun b hb=>H.top b hb)).1;refine wp_region_any HT.mix (ado hko hdst hM0 hMs ops.size _ (by rw [pO];simp) (by simp) (jP _ _) ?_ ?_ ?_ rfl H2 hm h ?_)
 ·intro p hp;have:=((eF _ _ p.1 p.2).1 hp).2;simpa using this
 ·intro k;constructor
  ·intro hk;have hlt:k<ops.size:=by
    rcases Nat.lt_or_ge k ops.size with h'|h'
    ·exact h'
    ·simp [Array.getD,h'] at hk;omega
   exact ⟨ops[k],(eF _ _ _ _).2 ⟨Nat.zero_le _,by simp [hlt]⟩⟩
  ·rintro ⟨o,ho⟩;have hh:=((eF _ _ _ _).1 ho).2;have hlt:k<ops.size:=by simpa using (List.getElem?_eq_some_iff.1 hh).1
   simp [hlt]
 ·intro j o hj hD;exfalso;rw [Array.getD_eq_getD_getElem?] at hD;cases hh:(Array.replicate ops.size false)[j]? with
  |none=>rw [hh] at hD;cases hD
  |some b=>
   rw [hh] at hD;have:=Array.getElem?_replicate (n:=ops.size) (v:=false) (i:=j);rw [hh] at this;split at this
   ·cases this;cases hD
   ·cases this
 ·intro σ' hF lim' bs' w' a' hg;exact hK σ' hF lim' bs' w' a' ⟨hg.hold,hfr.trans hg.fr,hg.pre,hg.nt,hg.df⟩
theorem Lc {bx:List (List AV)}:∀(l:List (List AV)) (k:Nat),(∀(j:Nat) (c:List AV),l[j]?=some c->bx[k+j]?=some c)->bD bx (List.range' k l.length)=some l
 |[],k,h=>rfl
 |c::r,k,h=>by
  have h0:bx[k]?=some c:=h 0 c rfl;rw [List.length_cons,List.range'_succ,bD,h0,Lc r (k+1) (fun j c hj=>by
   have:=h (j+1) c (by simpa using hj);rw [show k+1+j=k+(j+1) from by omega];exact this)]
theorem BL {bx:List (List AV)} {n:Nat} (hn:n<=bx.length):bD bx (List.range n)=some (bx.take n):=by
 have hl:(bx.take n).length=n:=by rw [List.length_take];omega
 have:=Lc (bx:=bx) (bx.take n) 0 (fun j c hj=>by
  rw [Nat.zero_add];exact (iK hj).2)
 rw [hl] at this;rw [List.range_eq_range'];exact this
theorem JF {bx l:List (List AV)} {n:Nat} (hn:n<=bx.length) (h:l.length=n):ak bx (List.range n) l=l++bx.drop n:=by
 subst h;apply List.ext_getElem?;intro i;rw [List.range_eq_range',oK l bx 0 i oM];by_cases hi:i<l.length
 ·rw [if_pos oM,List.getElem?_append_left hi];rfl
 ·rw [if_neg oM,List.getElem?_append_right oM,List.getElem?_drop];congr 1;omega
theorem OA {n L k:Nat} (h:k<n):jr (List.range n) L k=k:=by unfold jr;rw [List.getElem?_range h]
theorem TA {g n:Nat} {cap ys:List AV} {r:AV} {bx':List (List AV)} (hn:n<=σ.bx.length) (HC:aV P g ys (σ.bx.take n) r bx') (hlen:bx'.length=n) (hcl:∀c ∈ σ.bx.take n,∀i ∈ AV.aA c,i<n) (hyi:∀i ∈ AV.aA ys,i<n)
  (H:aB lim bs w σ.bx (Sl σ.tm a) m) (hm:∀b,w.heap.size<=b->m b) (hd:∀k,o.dst=some k->k<a.tmps.size) {c:Call} {f:Operand} (ho:o.op=.call c) (hc:c.callee=.value f) (hv:val σ.tm f=.fn g cap) (hcf:AV.aj cap=true)
  (hys:ys=(c.args.toList.map (val σ.tm)).map AV.cO++cap) (hK:yA m lim bs w a ⟨eG σ.tm o.dst r,bx'++σ.bx.drop n⟩ K):o.wp P a w K Q:=by
 obtain ⟨Og,adk,hcall⟩:=HC;have hfr:=(pg H f).1.r;rw [hv,AV.R] at hfr;obtain ⟨vc,hfe,hcap⟩:=hfr;obtain ⟨hargs,yj⟩:=qV H c.args.toList;have hall:AV.Rs lim bs w ys (c.args.toList.map a.eval++vc.toList):=by rw [hys];exact ng hargs hcap
 have hyf:AV.aj ys=true:=by rw [hys];exact fA yj hcf
 have hlen2:(c.args.toList.map a.eval++vc.toList).length=ys.length:=AV.gK hall;have hbl:bs.length=σ.bx.length:=H.len;have Qo:=GV bs (List.range n) (fun i hi=>by have:=List.mem_range.1 hi;omega);have hrn:(σ.bx.take n).map (AV.aG (List.range n).idxOf)=σ.bx.take n:=(List.map_congr_left fun c hc=>iI fun i hi=>rP (hcl c hc i hi)).trans (List.map_id _);have DK:∀(k:Nat) (x:AV) (v:Value),ys[k]?=some x->(c.args.toList.map a.eval++vc.toList)[k]?=some v->AV.R lim ((List.range n).map fun i=>bs.getD i 0) w x v:=by
  intro k x v hk hv;obtain ⟨v',h1,h2⟩:=mO hall hk;rw [hv] at h1;cases h1;have hxi:∀i ∈ AV.ids x,i<n:=fun i hi=>hyi i (AV.jV.2 ⟨x,List.mem_of_getElem? hk,hi⟩);have:=AV.R.bP (f:=(List.range n).idxOf) (Iu Qo (fun i hi=>List.mem_range.2 (hxi i hi))) h2
  rwa [su (fun i hi=>rP (hxi i hi))] at this
 have DN:∀(k:Nat) (x:AV),ys[k]?=some x->x.flat=true:=fun k x hk=>fJ hyf hk;have hE:=H.enter (List.nodup_range (n:=n)) (BL hn) (fun c hc i hi=>List.mem_range.2 (hcl c hc i hi)) (args:=ys) (vs:=c.args.toList.map a.eval++vc.toList) hlen2 DN DK;rw [hrn] at hE;obtain ⟨HE,hE1,hE2,hE3⟩:=hE;have hrun:(execOp a.eval o).run P w=.ok (.enter g (c.args.map a.eval++vc)) w:=by unfold execOp;simp only [ho,resolve,hc,hfe,Deferred.ofValue,Sem.run_bind,Sem.run_pure,Result.andThen_ok,invoke,Array.empty_append];exact qh Og _
 have hvs:(c.args.toList.map a.eval++vc.toList).toArray=c.args.map a.eval++vc:=by rw [←Array.toList_inj];simp
 unfold Oper.wp;rw [hrun];show Calls P g (c.args.map a.eval++vc) w _;rw [←hvs];refine (hcall lim _ w _ _ hlen2 (fun b hb=> .inr (.inr hb)) HE).mono ?_;rintro e w' ⟨v,lim',bsn,rfl,H',Nl,hpre⟩;have htl:(σ.bx.take n).length=n:=by rw [List.length_take];omega
 have hL:=H.leave hm (List.nodup_range (n:=n)) (BL hn) (bx':=bx') (by rw [List.length_range];omega) (r:=r) (v:=v) (Sc:=aS ys (c.args.toList.map a.eval++vc.toList)) (bsc:=(List.range n).map fun i=>bs.getD i 0) (bsn:=bsn) (lim':=lim') (w':=w') rfl (fun i hi=>hpre i (by rw [List.length_range] at hi;omega)) (by rw [hrn];exact hE1) (by rw [hrn];exact hE2) hE3 (by rw [hrn];exact H') (by rw [hrn];exact Nl) o.dst;have hbi:=NL H';have hri:∀i ∈ AV.ids r,i<n:=by have:=aaR (H'.slot 0);intro i hi;have h2:=this i hi;rw [H'.len,hlen] at h2;exact h2
 have hbn:bx'.map (AV.aG (jr (List.range n) σ.bx.length))=bx':=(List.map_congr_left fun c hc=>iI fun i hi=>OA (by have:=hbi c hc i hi;omega)).trans (List.map_id _);have hd0:bx'.drop n=[]:=List.drop_eq_nil_of_le oM;have ht0:bx'.take n=bx':=List.take_of_length_le oM;rw [List.length_range,hd0,ht0,hbn,su (fun i hi=>OA (hri i hi)),List.map_nil,List.append_nil,JF hn hlen] at hL;obtain ⟨HL,hfl⟩:=hL;refine hK lim' (bs++bsn.drop n) w' _ ⟨?_,hfl,fun i b hi=>by rw [List.getElem?_append_left (List.getElem?_eq_some_iff.1 hi).1];exact hi,bY _ _ _,put_defers _ _ _⟩;show aB lim' _ w' _ (Sl (eG σ.tm o.dst r) (a.put o.dst v)) m;rw [jh hd];exact HL
end V
namespace V
open Ab
variable {P : Program} {T : kZ} {o : Oper} {cal : BR} {σ σ' σ1 σ2 : aF}
structure CD where
 k:Nat
 n:Nat
 g:Nat
 ys:List AV
 b0:List (List AV)
 b1:List (List AV)
 r:AV
structure CD.Ok (P:Program) (D:CD):Prop where
 call:aV P D.g D.ys D.b0 D.r D.b1
 l0:D.b0.length=D.n
 l1:D.b1.length=D.n
 cl:∀c ∈ D.b0,∀i ∈ AV.aA c,i<D.n
 cy:∀i ∈ AV.aA D.ys,i<D.n
structure VS (D:CD) (o:Oper) (σ σ1:aF):Prop where
 gd:o.guard=none
 ops:∃c f cap,o.op=.call c∧c.callee=.value f∧val σ.tm f=.fn D.g cap∧AV.aj cap=true∧D.ys=(c.args.toList.map (val σ.tm)).map AV.cO++cap
 bx:σ.bx.take D.n=D.b0
 out:σ1=⟨eG σ.tm o.dst D.r,D.b1++σ.bx.drop D.n⟩
def Safe (D:CD) (a:jk):Prop:=a.ids=[]∨(∀i ∈ a.ids,D.n<=i)∨(a.wr=false∧∃i c0 n c c',a.ld=some (i,c0,n)∧D.b0[i]?=some c∧D.b1[i]?=some c'∧c.length=c'.length∧(c.drop c0).take n=(c'.drop c0).take n)
def qok (D:Option CD) (a:jk):Prop:=a.al=false∧∀D',D=some D'->Safe D' a
def stp (cal:BR) (T:kZ) (md:Md) (all:List Oper) (D:Option CD) (k:Nat) (o:Oper) (σ σ1:aF) (a:jk):Prop:=
 (∃D',D=some D'∧k=D'.k∧VS D' o σ σ1∧a=⟨k,[],true,false,none,[]⟩)∨((∀D',D=some D'->k≠D'.k)∧nK cal T md all o σ=some σ1∧a=jH T md.ad all k o σ σ1∧qok D a)
theorem VS.aiv {D:CD} {all:List Oper} (h:VS D o σ σ1) (hk:∀t ∈ Gn all o,get σ2.tm t=get σ.tm t):∃c f cap,o.op=.call c∧c.callee=.value f∧val σ2.tm f=.fn D.g cap∧AV.aj cap=true∧D.ys=(c.args.toList.map (val σ2.tm)).map AV.cO++cap:=by
 obtain ⟨c,f,cap,h1,h2,h3,h4,h5⟩:=h.ops;have hv:=val_congr (o:=o) (σ:=σ2) (σ2:=σ) hk;obtain ⟨aqX,args,ats⟩:=c;have Gp:aqX=.value f:=h2;subst Gp;have hin:∀x,x=f∨x ∈ args.toList->val σ2.tm x=val σ.tm x:=by
  intro x hx;refine hv x ?_;rw [h1];rcases hx with rfl|hx
  ·simp [Op.operands,Call.operands]
  ·simp [Op.operands,Call.operands];exact .inr (by simpa using hx)
 refine ⟨⟨.value f,args,ats⟩,f,cap,h1,rfl,by rw [hin f (.inl rfl)];exact h3,h4,?_⟩;rw [h5];congr 2;exact List.map_congr_left fun x hx=>(hin x (.inr hx)).symm
theorem Wj {b1 bx:List (List AV)} {n i:Nat} {c:List AV} (h1:b1.length=n) (hi:n<=i):(b1++bx.drop n).set i c=b1++(bx.set i c).drop n:=by rw [List.set_append_right _ _ oM,List.drop_set,if_neg oM,h1]
theorem xx {b1:List (List AV)} {n:Nat} (h1:b1.length=n):∀(ids:List Nat) (cs bx:List (List AV)),(∀i ∈ ids,n<=i)->ak (b1++bx.drop n) ids cs=b1++(ak bx ids cs).drop n∧(ak bx ids cs).take n=bx.take n
 |[],cs,bx,_=>by rw [aC,aC];exact ⟨rfl,rfl⟩
 |i::r,[],bx,_=>by unfold ak;exact ⟨rfl,rfl⟩
 |i::r,c::cs,bx,h=>by have hi:=h i List.mem_cons_self;have ih:=xx h1 r cs (bx.set i c) (fun j hj=>h j (List.mem_cons_of_mem _ hj));rw [ak,ak,Wj h1 hi,ih.1,ih.2];refine ⟨rfl,?_⟩;rw [List.take_set,List.set_eq_of_length_le];rw [List.length_take];omega
theorem F7 {tm:Tm} {d:Option Nat} {v:AV} {t:Nat} (h:∀k,d=some k->k≠t):get (eG tm d v) t=get tm t:=by
 cases d with
 |none=>rfl
 |some k=>
  show get (put tm k v) t=get tm t;rw [ah,if_neg (fun e=>h k rfl e.symm)]
theorem Qw {md:Md} {o:Oper} {v:AV}:∀p ∈ I8 o.dst v,p.1 ∈ Ot md.ad o:=by
 intro p hp;refine List.mem_append_left _ ?_;unfold I8 at hp;cases hd:o.dst with
 |none=>rw [hd] at hp;cases hp
 |some k=>rw [hd] at hp;rw [List.mem_singleton.1 hp];simp
theorem XN {md:Md} {o:Oper} {k:Nat} (h:o.dst=some k):k ∈ Ot md.ad o:=by refine List.mem_append_left _ ?_;rw [h];simp
theorem O8 {D:CD} (h0:D.b0.length=D.n) (h1:D.b1.length=D.n) {md:Md} {all:List Oper} {k:Nat} {x:Oper} {τ:aF} {E:Hm} {b b':List (List AV)} (hb:σ.bx=b) (hb':σ'.bx=b') (hbt:(b.take D.n=D.b0∧b'=D.b1++b.drop D.n)∨(b'.take D.n=D.b0∧b=D.b1++b'.drop D.n))
  (hq:Safe D (jH T md.ad all k x σ τ)) (htm:∀t ∈ Gn all x,get σ.tm t=get σ'.tm t) (he:∀i ∈ E.ids,i ∈ dW all x σ∧lI md.ad x=true):Ab.Alike T md.ad all x σ σ'∧∀i ∈ E.ids,D.n<=i:=by
 have hsame:∀i,D.n<=i->σ.bx[i]?=σ'.bx[i]?:=by
  intro i hi;rw [hb,hb'];rcases hbt with ⟨_,h⟩|⟨_,h⟩
  ·rw [h,List.getElem?_append_right oM,List.getElem?_drop];congr 1;omega
  ·rw [h,List.getElem?_append_right oM,List.getElem?_drop];congr 1;omega
 have tX:(jH T md.ad all k x σ τ).ids=dW all x σ++news σ.bx.length τ.bx.length:=rfl;rcases hq with hq|hq|⟨hw,i,c0,n,c,c',g1,g2,g3,g4,g5⟩
 ·rw [tX] at hq;have ht:dW all x σ=[]:=(List.append_eq_nil_iff.1 hq).1;exact ⟨⟨htm,.inr fun i hi=>by rw [ht] at hi;cases hi⟩,fun i hi=>by have:=(he i hi).1;rw [ht] at this;cases this⟩
 ·rw [tX] at hq;exact ⟨⟨htm,.inr fun i hi=>hsame i (hq i (List.mem_append_left _ hi))⟩,fun i hi=>hq i (List.mem_append_left _ (he i hi).1)⟩
 ·have hw':lI md.ad x=false:=hw;have g1':AZ T md.ad all x σ=some (i,c0,n):=g1;have hi0:i<D.n:=by have:=(List.getElem?_eq_some_iff.1 g2).1;omega
  have ak3:∀{q:List (List AV)} {z:List AV},D.b1[i]?=some z->(D.b1++q)[i]?=some z:=fun {q z} hz=>by rw [List.getElem?_append_left (List.getElem?_eq_some_iff.1 hz).1];exact hz
  have htk:∀{q:List (List AV)},q.take D.n=D.b0->q[i]?=some c:=by
   intro q hq;have:(q.take D.n)[i]?=some c:=by rw [hq];exact g2
   exact (iK this).2
  refine ⟨⟨htm,.inl ?_⟩,fun j hj=>by have:=(he j hj).2;rw [hw'] at this;cases this⟩;rcases hbt with ⟨e1,e2⟩|⟨e1,e2⟩
  ·exact ⟨i,c0,n,c,c',g1',by rw [hb];exact htk e1,by rw [hb',e2];exact ak3 g3,g4,g5⟩
  ·exact ⟨i,c0,n,c',c,g1',by rw [hb,e2];exact ak3 g3,by rw [hb'];exact htk e1,g4.symm,g5.symm⟩
theorem X7 {md:Md} {all:List Oper} {D:Option CD} (hD:∀D',D=some D'->D'.b0.length=D'.n∧D'.b1.length=D'.n) {k j:Nat} {x y:Oper} {a b:jk} (hne:k≠j) (hx:stp cal T md all D k x σ σ1 a) (hy:stp cal T md all D j y σ1 σ2 b) (hk:kY all md.ad x y=false) (hc:a.mJ b=false):
  ∃Cc,stp cal T md all D j y σ Cc b∧stp cal T md all D k x Cc σ2 a:=by
 have hk0:=hk;unfold kY at hk;simp only [Bool.or_eq_false_iff] at hk;obtain ⟨⟨k1,k2⟩,k3⟩:=hk;rcases hx with ⟨D',d1,d2,d3,d4⟩|⟨x1,x2,x3,x4⟩
 ·rcases hy with ⟨D2,e1,e2,-⟩|⟨y1,y2,y3,y4⟩
  ·rw [d1] at e1;cases e1;exact absurd (d2.trans e2.symm) hne
  ·obtain ⟨h0,h1⟩:=hD D' d1;obtain ⟨F,f1,f2,f3,f4,f5,f6⟩:=GU y2;have hal:F.nw=[]:=by have:=y4.1;rw [y3] at this;have h':(!Nat.ble σ2.bx.length σ1.bx.length)=false:=this;rw [f1] at h';exact Ei h'
   have hs:=y4.2 D' d1;rw [y3] at hs;have hd:∀t ∈ Gn all y,get σ1.tm t=get σ.tm t:=by intro t ht;rw [d3.out];exact F7 fun q hq e=>iw k1 q (XN hq) (by rw [e];exact ht)
   obtain ⟨hA,hF⟩:=O8 h0 h1 (σ:=σ1) (σ':=σ) (E:=F) rfl rfl (.inr ⟨d3.bx,by rw [d3.out]⟩) hs hd f3;obtain ⟨g1,g2⟩:=f6 σ hA (fun h=>absurd hal h);have hacc:=x8 (E:=F) (k:=j) f4 hA (fun h=>absurd hal h) g2;have htl:=xx h1 F.ids F.cs σ.bx hF;refine ⟨F.app σ,.inr ⟨y1,g1,?_,y4⟩,.inl ⟨D',d1,d2,⟨d3.gd,d3.aiv (all:=all) fun t ht=>?_,?_,?_⟩,d4⟩⟩
   ·rw [hacc,y3,←f1]
   ·exact zI _ _ _ (fun p hp e=>iw k3 p.1 (f2 p hp) (by rw [e];exact ht))
   ·show (ak σ.bx F.ids F.cs++F.nw).take D'.n=D'.b0;rw [hal,List.append_nil,htl.2,d3.bx]
   ·rw [f1,d3.out];show (⟨rH (eG σ.tm x.dst D'.r) F.ps,ak (D'.b1++σ.bx.drop D'.n) F.ids F.cs++F.nw⟩:aF)=⟨eG (rH σ.tm F.ps) x.dst D'.r,D'.b1++(ak σ.bx F.ids F.cs++F.nw).drop D'.n⟩;rw [hal,List.append_nil,List.append_nil,htl.1,mW,mW];congr 1;exact Ai _ _ _ (fun p hp q hq e=>iw k2 p.1 (Qw p hp) (by rw [e];exact f2 q hq))
 ·rcases hy with ⟨D',d1,d2,d3,d4⟩|⟨y1,y2,y3,y4⟩
  ·obtain ⟨h0,h1⟩:=hD D' d1;obtain ⟨E,e1,e2,e3,e4,e5,e6⟩:=GU x2;have hal:E.nw=[]:=by have:=x4.1;rw [x3] at this;have h':(!Nat.ble σ1.bx.length σ.bx.length)=false:=this;rw [e1] at h';exact Ei h'
   have hs:=x4.2 D' d1;rw [x3] at hs;have hE:∀i ∈ E.ids,D'.n<=i:=by
    intro i hi;obtain ⟨q1,q2⟩:=e3 i hi;rcases hs with hs|hs|⟨hw,-⟩
    ·have:dW all x σ=[]:=(List.append_eq_nil_iff.1 hs).1;rw [this] at q1;cases q1
    ·exact hs i (List.mem_append_left _ q1)
    ·have hw':lI md.ad x=false:=hw;rw [hw'] at q2;cases q2
   have htl:=xx h1 E.ids E.cs σ.bx hE;have hb1:σ1.bx=ak σ.bx E.ids E.cs:=by rw [e1];show ak σ.bx E.ids E.cs++E.nw=_;rw [hal,List.append_nil]
   have hbx:σ.bx.take D'.n=D'.b0:=by rw [←htl.2,←hb1];exact d3.bx
   have hd:∀t ∈ Gn all x,get σ.tm t=get (eG σ.tm y.dst D'.r) t:=by intro t ht;exact (F7 fun q hq e=>iw k3 q (XN hq) (by rw [e];exact ht)).symm
   obtain ⟨hA,-⟩:=O8 h0 h1 (σ:=σ) (σ':=⟨eG σ.tm y.dst D'.r,D'.b1++σ.bx.drop D'.n⟩) (E:=E) rfl rfl (.inl ⟨hbx,rfl⟩) hs hd e3;obtain ⟨g1,g2⟩:=e6 _ hA (fun h=>absurd hal h);have hacc:=x8 (E:=E) (k:=k) e4 hA (fun h=>absurd hal h) g2;have hto:E.app ⟨eG σ.tm y.dst D'.r,D'.b1++σ.bx.drop D'.n⟩=σ2:=by rw [d3.out,hb1,e1];show (⟨rH (eG σ.tm y.dst D'.r) E.ps,ak (D'.b1++σ.bx.drop D'.n) E.ids E.cs++E.nw⟩:aF)=⟨eG (rH σ.tm E.ps) y.dst D'.r,D'.b1++(ak σ.bx E.ids E.cs).drop D'.n⟩;rw [hal,List.append_nil,htl.1,mW,mW];congr 1;exact (Ai _ _ _ (fun p hp q hq e=>iw k2 p.1 (e2 p hp) (by rw [e];exact Qw q hq))).symm
   refine ⟨⟨eG σ.tm y.dst D'.r,D'.b1++σ.bx.drop D'.n⟩,.inl ⟨D',d1,d2,⟨d3.gd,d3.aiv (all:=all) fun t ht=>?_,hbx,rfl⟩,d4⟩,.inr ⟨x1,by rw [g1,hto],?_,x4⟩⟩
   ·rw [e1];exact (zI _ _ _ (fun p hp e=>iw k1 p.1 (e2 p hp) (by rw [e];exact ht))).symm
   ·rw [←hto,hacc,x3,←e1]
  ·rw [x3,y3] at hc;obtain ⟨Cc,c1,c2,c3,c4⟩:=UI x2 y2 hk0 hc;exact ⟨Cc,.inr ⟨y1,c1,by rw [c2];exact y3,y4⟩,.inr ⟨x1,c3,by rw [c4];exact x3,x4⟩⟩
def chn (cal:BR) (T:kZ) (md:Md) (all:List Oper) (D:Option CD):List (Nat×Oper)->aF->List jk->aF->Prop
 |[],σ,A,σ'=>A=[]∧σ'=σ
 |(k,o)::r,σ,A,σ'=>∃σ1 a A1,A=a::A1∧stp cal T md all D k o σ σ1 a∧chn cal T md all D r σ1 A1 σ'
theorem X8 {md:Md} {all:List Oper} {D:Option CD} {k:Nat} {a:jk} (h:stp cal T md all D k o σ σ1 a):a.at_=k:=by
 rcases h with ⟨D',-,-,-,rfl⟩|⟨-,-,rfl,-⟩
 ·rfl
 ·rfl
theorem Ll {md:Md} {all:List Oper} {D:Option CD} (hD:∀D',D=some D'->D'.b0.length=D'.n∧D'.b1.length=D'.n) {j:Nat} {y:Oper} {post:List (Nat×Oper)}:∀(pre:List (Nat×Oper)) {σ σ':aF} {A:List jk},chn cal T md all D (pre++(j,y)::post) σ A σ'->(∀p ∈ pre,p.1≠j)->(∀p ∈ pre,kY all md.ad p.2 y=false)->
  ∃A1 b A2,A=A1++b::A2∧A1.map jk.at_=pre.map (·.1)∧b.at_=j∧((∀a ∈ A1,a.mJ b=false)->∃σ1,stp cal T md all D j y σ σ1 b∧chn cal T md all D (pre++post) σ1 (A1++A2) σ')
 |[],σ,σ',A,h,_,_=>by obtain ⟨σ1,a,A1,rfl,h1,h2⟩:=h;exact ⟨[],a,A1,rfl,rfl,X8 h1,fun _=>⟨σ1,h1,h2⟩⟩
 |(k,x)::pre,σ,σ',A,h,hn,hk=>by obtain ⟨σ1,a,A1,rfl,h1,h2⟩:=h;have hkx:kY all md.ad x y=false:=hk _ List.mem_cons_self;have hnx:k≠j:=hn _ List.mem_cons_self;obtain ⟨B1,b,B2,rfl,f2,f3,f4⟩:=Ll hD pre h2 (fun p hp=>hn p (List.mem_cons_of_mem _ hp)) (fun p hp=>hk p (List.mem_cons_of_mem _ hp));refine ⟨a::B1,b,B2,rfl,by rw [List.map_cons,List.map_cons,f2,X8 h1],f3,fun hc=>?_⟩;obtain ⟨σ3,g1,g3⟩:=f4 (fun a ha=>hc a (List.mem_cons_of_mem _ ha));obtain ⟨Cc,c1,c3⟩:=X7 hD hnx h1 g1 hkx (hc _ List.mem_cons_self);exact ⟨Cc,c1,σ3,a,B1++B2,rfl,c3,g3⟩
end V
namespace V
open Ab
variable {P : Program} {T : kZ} {sp : Sp} {n0 base : Nat} {o : Oper} {cal : BR} {σ σ' σ1 σ2 τ : aF} {Q : zV -> aF -> Prop}
def aow (cal:BR) (T:kZ) (md:Md) (all:List Oper) (D:Option CD) (k:Nat) (o:Oper) (σ σ1:aF) (a:jk):Prop:=
 (∃D',D=some D'∧k=D'.k∧VS D' o σ σ1∧a=⟨k,[],true,false,none,[]⟩)∨((∀D',D=some D'->k≠D'.k)∧nK cal T md all o σ=some σ1∧a=jH T md.ad all k o σ σ1)
def ac1 (cal:BR) (T:kZ) (md:Md) (all:List Oper) (D:Option CD):List (Nat×Oper)->aF->List jk->aF->Prop
 |[],σ,A,σ'=>A=[]∧σ'=σ
 |(k,o)::r,σ,A,σ'=>∃σ1 a A1,A=a::A1∧aow cal T md all D k o σ σ1 a∧ac1 cal T md all D r σ1 A1 σ'
theorem VA {md:Md} {all:List Oper} {D:Option CD}:∀(l:List (Nat×Oper)) {σ σ':aF} {A:List jk},ac1 cal T md all D l σ A σ'->(∀a ∈ A,qok D a)->chn cal T md all D l σ A σ'
 |[],σ,σ',A,h,_=>h
 |(k,o)::r,σ,σ',A,h,hq=>by
  obtain ⟨σ1,a,A1,rfl,h1,h2⟩:=h;refine ⟨σ1,a,A1,rfl,?_,VA r h2 fun b hb=>hq b (List.mem_cons_of_mem _ hb)⟩;rcases h1 with h1|⟨g1,g2,g3⟩
  ·exact .inl h1
  ·exact .inr ⟨g1,g2,g3,hq a List.mem_cons_self⟩
inductive QY:List jk->List jk->Prop
 |nil:QY [] []
 |skip {a:jk} {l r:List jk} (h:a.ids=[]) (h2:a.al=false) (k:QY l r):QY (a::l) r
 |pV {a:jk} {l r:List jk} (h2:a.al=false) (k:QY l r):QY (a::l) (a::r)
theorem QY.all {l r:List jk} (h:QY l r) {D:Option CD} (hr:∀a ∈ r,∀D',D=some D'->Safe D' a):∀a ∈ l,qok D a:=by
 induction h with
 |nil=>intro a ha;cases ha
 |skip h h2 k ih=>
  intro a ha;rcases List.mem_cons.1 ha with rfl|ha
  ·exact ⟨h2,fun D' _=> .inl h⟩
  ·exact ih hr a ha
 |pV h2 k ih=>
  intro a ha;rcases List.mem_cons.1 ha with rfl|ha
  ·exact ⟨h2,hr _ List.mem_cons_self⟩
  ·exact ih (fun a ha=>hr a (List.mem_cons_of_mem _ ha)) a ha
theorem wP {a b:jk} (h:a.ids=[]∨b.ids=[]) (ha:a.al=false):a.mJ b=false:=by
 unfold jk.mJ;rw [ha];have:meets a.ids b.ids=false:=by
  rcases h with h|h
  ·rw [h];rfl
  ·rw [h];unfold meets;rw [List.any_eq_false];intro x _ hx;cases hx
 rw [this];simp
theorem QY.mem {l r:List jk} (h:QY l r):∀b ∈ l,(b.ids=[]∨b ∈ r)∧b.al=false:=by
 induction h with
 |nil=>intro b hb;cases hb
 |skip h h2 k ih=>
  intro b hb;rcases List.mem_cons.1 hb with rfl|hb
  ·exact ⟨.inl h,h2⟩
  ·exact ih b hb
 |pV h2 k ih=>
  intro b hb;rcases List.mem_cons.1 hb with rfl|hb
  ·exact ⟨.inr List.mem_cons_self,h2⟩
  ·exact ⟨(ih b hb).1.imp id (List.mem_cons_of_mem _),(ih b hb).2⟩
theorem QY.ai9 {an:List Nat} {l r:List jk} (h:QY l r) (hr:r.Pairwise fun a b=>(an.getD b.at_ 0).testBit a.at_=true∨a.mJ b=false):ji an none l:=by
 unfold ji
 induction h with
 |nil=>exact .nil
 |skip h h2 k ih=>exact List.pairwise_cons.2 ⟨fun b _=> .inr (.inl (wP (.inl h) h2)),ih hr⟩
 |pV h2 k ih=>
  rw [List.pairwise_cons] at hr;refine List.pairwise_cons.2 ⟨fun b hb=>?_,ih hr.2⟩;rcases (k.mem b hb).1 with e|e
  ·exact .inr (.inl (wP (.inr e) h2))
  ·exact (hr.1 b e).imp id .inl
def LH (a b:jk):Prop:=(∀i ∈ a.ids,i ∉ b.ids)∨zo a b
theorem LH.ne {k k2 i j:Nat} {wr al wr2 al2:Bool} {ld ld2:Option (Nat×Nat×Nat)} {ch ch2:List (Nat×List AV×List AV)} (h:i≠j):LH ⟨k,[i],wr,al,ld,ch⟩ ⟨k2,[j],wr2,al2,ld2,ch2⟩:=.inl fun x hx hy=>by simp only [List.mem_singleton] at hx hy;exact h (hx.symm.trans hy)
theorem LH.yu {a b:jk} (h:zo a b):LH a b:=.inr h
def Yy (all:List Oper) (a:jk):List jk->Prop->Prop
 |[],R=>R
 |b::l,R=>
  match !(a.wr||b.wr)||bef all 3 a.at_ b.at_ with
  |true=>Yy all a l R
  |false=>LH a b∧Go (Yy all a l R)
def RU (all:List Oper):List jk->Prop->Prop
 |[],R=>R
 |a::l,R=>Yy all a l (RU all l R)
def PT (all:List Oper) (a b:jk):Prop:=((jX [] all).getD b.at_ 0).testBit a.at_=true∨(a.wr||b.wr)=false∨LH a b
theorem MK {all:List Oper} (hp:∀(j:Nat) (o:Oper),all[j]?=some o->∀i ∈ dL o,i<j) {a:jk}:∀{l:List jk} {R:Prop},Yy all a l R->(∀b ∈ l,PT all a b)∧R
 |[],R,h=>⟨fun b hb=>(by cases hb),h⟩
 |b::l,R,h=>by
  rw [Yy] at h;split at h
  ·rename_i hc;obtain ⟨h1,h2⟩:=MK hp h;refine ⟨fun c hc'=>?_,h2⟩;rcases List.mem_cons.1 hc' with rfl|hc'
   ·rw [Bool.or_eq_true] at hc;rcases hc with hc|hc
    ·exact .inr (.inl (by simpa using hc))
    ·exact .inl (TG hp 3 hc)
   ·exact h1 c hc'
  ·obtain ⟨h1,h2⟩:=MK hp h.2;refine ⟨fun c hc'=>?_,h2⟩;rcases List.mem_cons.1 hc' with rfl|hc'
   ·exact .inr (.inr h.1)
   ·exact h1 c hc'
theorem Kw {all:List Oper} (hp:∀(j:Nat) (o:Oper),all[j]?=some o->∀i ∈ dL o,i<j):∀{l:List jk} {R:Prop},RU all l R->l.Pairwise (PT all)∧R
 |[],R,h=>⟨.nil,h⟩
 |a::l,R,h=>by obtain ⟨h1,h2⟩:=MK hp h;obtain ⟨h3,h4⟩:=Kw hp h2;exact ⟨List.pairwise_cons.2 ⟨h1,h3⟩,h4⟩
theorem PS {all:List Oper} {a b:jk} (h:PT all a b) (ha:a.al=false):((jX [] all).getD b.at_ 0).testBit a.at_=true∨a.mJ b=false:=by
 rcases h with h|h|h|h
 ·exact .inl h
 ·right;unfold jk.mJ;rw [h,ha];simp
 ·right;unfold jk.mJ;have:meets a.ids b.ids=false:=by unfold meets;rw [List.any_eq_false];intro x hx hm;exact h x hx (mem_iff.1 hm)
  rw [this,ha];simp
 ·right;unfold jk.mJ;rw [U0 h,ha];simp
def oU (n:Nat) (bx bx':List (List AV)) (a:jk):Prop:=(∃i,a.ids=[i]∧n<=i)∨(a.wr=false∧∃i c0 k c c',a.ld=some (i,c0,k)∧i<n∧bx[i]?=some c∧bx'[i]?=some c'∧c.length=c'.length∧(c.drop c0).take k=(c'.drop c0).take k)
theorem oU.hi {n k i:Nat} {wr al:Bool} {ld:Option (Nat×Nat×Nat)} {ch:List (Nat×List AV×List AV)} {bx bx':List (List AV)} (h:n<=i):oU n bx bx' ⟨k,[i],wr,al,ld,ch⟩:=.inl ⟨i,rfl,h⟩
theorem oU.ld {n k i c0 q:Nat} {al:Bool} {ids:List Nat} {ch:List (Nat×List AV×List AV)} {bx bx':List (List AV)} {c c':List AV} (h:i<n) (h1:bx[i]?=some c) (h2:bx'[i]?=some c') (h3:c.length=c'.length) (h4:(c.drop c0).take q=(c'.drop c0).take q):oU n bx bx' ⟨k,ids,false,al,some (i,c0,q),ch⟩:=.inr ⟨rfl,i,c0,q,c,c',rfl,h,h1,h2,h3,h4⟩
def Us (n:Nat) (D:Option (List (List AV)×List (List AV))):List jk->Prop->Prop
 |[],R=>R
 |a::l,R=>
  match D with
  |none=>R
  |some (bx,bx')=>oU n bx bx' a∧Go (Us n D l R)
theorem O9 {n:Nat} {D:Option (List (List AV)×List (List AV))}:∀{l:List jk} {R:Prop},Us n D l R->(∀bx bx',D=some (bx,bx')->∀a ∈ l,oU n bx bx' a)∧R
 |[],R,h=>⟨fun _ _ _ a ha=>(by cases ha),h⟩
 |a::l,R,h=>by
  unfold Us at h;split at h
  ·exact ⟨fun _ _ e=>(by cases e),h⟩
  ·rename_i bx bx';obtain ⟨h1,h2⟩:=O9 h.2;refine ⟨fun b b' e c hc=>?_,h2⟩;cases e;rcases List.mem_cons.1 hc with rfl|hc
   ·exact h.1
   ·exact h1 _ _ rfl c hc
attribute [irreducible] LH oU
def dOp (sp:Sp) (T:kZ) (md:Md) (k:Nat) (o:Oper) (σ:aF) (K:List jk->aF->Prop):Prop:=
 match o.guard with
 |some _=>False
 |none=>
  match σ with
  |⟨tm,bx⟩=>AY (OD (val tm) bx o.op) fun ids=>
   match ids with
   |[]=>JW sp true T (jb md.ad o.dst) (jb md.arr o.dst) bx.length [] (val tm) [] [] o.op fun v bs nw=>
    match nw with
    |[]=>Qq (kS (jb md.ad o.dst) o.op) tm fun tm=>y7 tm o.dst v fun tm=>K [] ⟨tm,bx⟩
    |_=>False
   |[i]=>∃c,bx[i]?=some c∧JW sp true T (jb md.ad o.dst) (jb md.arr o.dst) bx.length [] (val tm) [c] [i] o.op fun v bs nw=>
    match bs with
    |[c']=>
     match nw with
     |[]=>Qq (kS (jb md.ad o.dst) o.op) tm fun tm'=>y7 tm' o.dst v fun tm'=>gZ bx i c c' fun b=>K [⟨k,[i],lI md.ad o,false,ldG T md.ad true o ⟨tm,bx⟩,if lI md.ad o=true then [(i,c,c')] else []⟩] ⟨tm',b⟩
     |_=>False
    |_=>False
   |_=>False
theorem agO (hI:Is sp cal) (hT:sW T) {md:Md} {all:List Oper} {k:Nat} {o:Oper} {K:List jk->aF->Prop} (hσ:Ok σ) (h:dOp sp T md k o σ K):∃σ1 A0,nK cal T md all o σ=some σ1∧Ok σ1∧K A0 σ1∧QY [jH T md.ad all k o σ σ1] A0:=by
 unfold dOp at h;split at h
 ·exact h.elim
 rename_i hg;change AY (OD (val σ.tm) σ.bx o.op) _ at h;rw [kP] at h;have hte:=CG (rX hσ.tm) hσ.bx o.op;have hgo:sU all o σ=some true:=by unfold sU;rw [hg]
 have hbs:∀{cs:List (List AV)},bD σ.bx (eH (val σ.tm) σ.bx o.op)=some cs->(∀out,core cal T (jb md.ad o.dst) (jb md.arr o.dst) σ.bx.length (val σ.tm) cs (eH (val σ.tm) σ.bx o.op) o.type o.op=some out->out.ok=true->nK cal T md all o σ=some (fin o.dst out (eH (val σ.tm) σ.bx o.op) (kS (jb md.ad o.dst) o.op) σ)):=by intro cs hcs out ho hk;unfold nK;rw [hgo];simp only [];unfold VM Bc;rw [hcs];simp only [];rw [ho];simp only [];rw [if_pos hk]
 split at h
 ·
  rename_i ht;have hc0:bD σ.bx (eH (val σ.tm) σ.bx o.op)=some []:=by rw [hte,ht];rfl
  obtain ⟨out,v,h1,h2,h3,h4,h5,h6,h7,h8⟩:=Ci (ty:=o.type) hI hT (rX hσ.tm) (show aN []=true from rfl) (KN.nil σ) h;have hv:v=out.v:=by
   rcases h7 with e|⟨e,-⟩
   ·exact e
   ·cases e
  subst hv;split at h8
  ·rename_i hnw;rw [Au,pK] at h8;have hrun:=hbs hc0 out (by rw [hte,ht];exact h1) h2;have hfin:fin o.dst out (eH (val σ.tm) σ.bx o.op) (kS (jb md.ad o.dst) o.op) σ=⟨eG (gu σ.tm (kS (jb md.ad o.dst) o.op)) o.dst out.v,σ.bx⟩:=by unfold fin;rw [hte,ht,aC,hnw,List.append_nil]
   rw [hfin] at hrun;refine ⟨_,_,hrun,⟨rq h4 (vY hσ.tm),hσ.bx⟩,h8,.skip ?_ ?_ .nil⟩
   ·show dW all o σ++news σ.bx.length σ.bx.length=[];rw [Ak _ _ (Nat.le_refl _),List.append_nil];unfold dW;rw [hgo];exact hte.trans ht
   ·show (!Nat.ble σ.bx.length σ.bx.length)=false;rw [Nat.ble_eq_true_of_le (Nat.le_refl _)];rfl
  ·exact h8.elim
 ·
  rename_i i ht;obtain ⟨c,hc,h⟩:=h;have hc0:bD σ.bx (eH (val σ.tm) σ.bx o.op)=some [c]:=by rw [hte,ht,bD,hc];rfl
  obtain ⟨out,v,h1,h2,h3,h4,h5,h6,h7,h8⟩:=Ci (ty:=o.type) hI hT (rX hσ.tm) (oH hσ.bx (by rw [hte,ht] at hc0;exact hc0)) (KN.nil σ) h;have hv:v=out.v:=by
   rcases h7 with e|⟨e,-⟩
   ·exact e
   ·cases e
  subst hv;split at h8
  ·rename_i c' hb;split at h8
   ·rename_i hnw;rw [Au,pK] at h8;have h8:=h8.out hc;have hrun:=hbs hc0 out (by rw [hte,ht];exact h1) h2;have hil:=(List.getElem?_eq_some_iff.1 hc).1;have hfin:fin o.dst out (eH (val σ.tm) σ.bx o.op) (kS (jb md.ad o.dst) o.op) σ=⟨eG (gu σ.tm (kS (jb md.ad o.dst) o.op)) o.dst out.v,σ.bx.set i c'⟩:=by unfold fin;rw [hte,ht,hb,ak,aC,hnw,List.append_nil]
    have hok:aN (ak σ.bx [i] out.bs)=true:=uY hσ.bx h5;rw [hb,ak,aC] at hok;rw [hfin] at hrun;refine ⟨_,_,hrun,⟨rq h4 (vY hσ.tm),hok⟩,h8,?_⟩;have htg:dW all o σ=[i]:=by unfold dW;rw [hgo];exact hte.trans ht
    have hacc:∀tm',jH T md.ad all k o σ ⟨tm',σ.bx.set i c'⟩=⟨k,[i],lI md.ad o,false,ldG T md.ad true o σ,if lI md.ad o=true then [(i,c,c')] else []⟩:=by
     intro tm';have hl:(σ.bx.set i c').length=σ.bx.length:=List.length_set;unfold jH;rw [htg];simp only [hl,Ak _ _ (Nat.le_refl _),List.append_nil,Nat.ble_eq_true_of_le (Nat.le_refl _),Bool.not_true];congr 1
     ·unfold AZ ldG;rw [hgo];rfl
     ·have e1:σ.bx.getD i []=c:=by rw [List.getD_eq_getElem?_getD,hc];rfl
      have e2:(σ.bx.set i c').getD i []=c':=by rw [List.getD_eq_getElem?_getD,List.getElem?_set_self hil];rfl
      simp only [EY,e1,e2]
    rw [hacc];exact .pV rfl .nil
   ·exact h8.elim
  ·exact h8.elim
 ·exact h.elim
def gB (n:Nat) (bx:List (List AV)):Prop:=∀(j:Nat) (c:List AV),j<n->bx[j]?=some c->∀i ∈ AV.aA c,i<n
theorem gB.mk {n:Nat} {bx:List (List AV)} (h:∀(j:Nat) (c:List AV),j<n->bx[j]?=some c->∀i ∈ AV.aA c,i<n):gB n bx:=h
theorem gB.out {n:Nat} {bx:List (List AV)} (h:gB n bx):∀(j:Nat) (c:List AV),j<n->bx[j]?=some c->∀i ∈ AV.aA c,i<n:=h
def uV (n:Nat) (ys:List AV):Prop:=∀i ∈ AV.aA ys,i<n
theorem uV.mk {n:Nat} {ys:List AV} (h:∀i ∈ AV.aA ys,i<n):uV n ys:=h
theorem uV.out {n:Nat} {ys:List AV} (h:uV n ys):∀i ∈ AV.aA ys,i<n:=h
attribute [irreducible] gB uV
def ZQ (sp:Sp) (base g:Nat) (cap xs:List AV) (bx:List (List AV)) (K:AV->List (List AV)->Prop):Prop:=
 match assoc sp g with
 |some rf=>vI (sH (xs.map AV.cO++cap)) fun args=>base<=bx.length∧gB base bx∧vI (xs.map AV.cO++cap) fun ys=>uV base ys∧
   ∀b0:List (List AV),b0.length=base->(∀j,j<base->b0[j]?=bx[j]?)->aN b0=true->rf args b0 fun r b1=>b1.length=base∧∀bx':List (List AV),bx'.length=bx.length->(∀j,j<base->bx'[j]?=b1[j]?)->(∀j,base<=j->bx'[j]?=bx[j]?)->Go (JM r fun r=>K r bx')
 |none=>False
theorem Ox {bx:List (List AV)} {n:Nat} (h:aN bx=true):aN (bx.take n)=true:=aY.2 fun c hc=>aY.1 h c (List.mem_of_mem_take hc)
theorem XP {bx:List (List AV)} {n:Nat} (h:aN bx=true):aN (bx.drop n)=true:=aY.2 fun c hc=>aY.1 h c (List.mem_of_mem_drop hc)
theorem ZP (hS:ae P sp) {g:Nat} {c xs:List AV} {bx:List (List AV)} {K:AV->List (List AV)->Prop} (hb:aN bx=true) (hc:CB c=true) (hx:iE xs=true) (h:ZQ sp base g c xs bx K):
  ∃r b1,aV P g (xs.map AV.cO++c) (bx.take base) r b1∧base<=bx.length∧b1.length=base∧gB base bx∧(∀i ∈ AV.aA (xs.map AV.cO++c),i<base)∧wv r=true∧aN (b1++bx.drop base)=true∧K r (b1++bx.drop base):=by
 unfold ZQ at h;split at h
 ·rename_i rf hcon;rw [lu] at h;obtain ⟨h1,h2,h3⟩:=h;rw [lu] at h3;obtain ⟨h3,h4⟩:=h3;have hl:(bx.take base).length=base:=by rw [List.length_take];omega
  have h5:=h4 (bx.take base) hl (fun j hj=>by rw [List.getElem?_take,if_pos hj]) (Ox hb);obtain ⟨r,b1,g1,g2,g3,g4⟩:=hS g rf hcon _ _ _ (Bq (yJ hx) (tC hc)) h5;obtain ⟨e1,e2⟩:=g4 _ h5;have hh:=e2 (b1++bx.drop base) (by rw [List.length_append,List.length_drop];omega) (fun j hj=>by rw [List.getElem?_append_left oM]) (fun j hj=>by
   rw [List.getElem?_append_right oM,List.getElem?_drop];congr 1;omega)
  unfold Go at hh;rw [Az] at hh;exact ⟨r,b1,g1,h1,e1,h2,h3.out,g2,lX g3 (XP hb),hh⟩
 ·exact h.elim
def Gq (sp:Sp) (al fi:List Nat) (T:kZ) (md:Md) (all:List Oper):List (Nat×Oper)->aF->Option (List (List AV)×List (List AV))->List jk->(aF->Prop)->Prop
 |[],_,_,_,_=>False
 |(k,o)::r,σ,D,A,R=>
  match r with
  |[]=>RU all A (Us md.base D A (VU sp al T md all [] o σ fun _ τ=>R τ))
  |_::_=>
   match o.op with
   |.call c=>
    match c.callee with
    |.value f=>
     match val σ.tm f with
     |.fn g cap=>
      match mem g fi with
      |true=>
       match o.guard with
       |none=>
        match D with
        |none=>ZQ sp md.base g cap (c.args.toList.map (val σ.tm)) σ.bx fun rr b=>y7 σ.tm o.dst rr fun tm=>Gq sp al fi T md all r ⟨tm,b⟩ (some (σ.bx,b)) A R
        |some _=>False
       |some _=>False
      |false=>dOp sp T md k o σ fun A0 τ=>Gq sp al fi T md all r τ D (A++A0) R
     |_=>dOp sp T md k o σ fun A0 τ=>Gq sp al fi T md all r τ D (A++A0) R
    |_=>dOp sp T md k o σ fun A0 τ=>Gq sp al fi T md all r τ D (A++A0) R
   |_=>dOp sp T md k o σ fun A0 τ=>Gq sp al fi T md all r τ D (A++A0) R
def DR (base:Nat) (Dx:Option (List (List AV)×List (List AV))) (D:Option CD):Prop:=(Dx=none∧D=none)∨∃d bx,D=some d∧Dx=some (bx,d.b1++bx.drop base)∧d.n=base∧d.b0=bx.take base∧d.b1.length=base
theorem DR.safe {Dx:Option (List (List AV)×List (List AV))} {D:Option CD} (h:DR base Dx D) {a:jk} (hs:∀bx bx',Dx=some (bx,bx')->oU base bx bx' a):∀D',D=some D'->Safe D' a:=by
 intro D' hD;rcases h with ⟨-,e⟩|⟨d,bx,e1,e2,e3,e4,e5⟩
 ·rw [e] at hD;cases hD
 ·rw [e1] at hD;cases hD;have:=hs _ _ e2;unfold oU at this;rcases this with ⟨i,g1,g2⟩|⟨g0,i,c0,k,c,c',g1,g2,g3,g4,g5,g6⟩
  ·refine .inr (.inl fun j hj=>?_);rw [g1] at hj;rw [List.mem_singleton.1 hj,e3];exact g2
  ·refine .inr (.inr ⟨g0,i,c0,k,c,c',g1,?_,?_,g5,g6⟩)
   ·rw [e4,List.getElem?_take,if_pos g2];exact g3
   ·rw [List.getElem?_append_left oM] at g4;exact g4
theorem Ny (HT:mM P T) (HC:fB P cal) (hS:ae P sp) (hI:Is sp cal) (hT:sW T) {al fi:List Nat} {md:Md} {ops:Array Oper} (hp:∀(j:Nat) (o:Oper),ops.toList[j]?=some o->∀i ∈ dL o,i<j) {R:aF->Prop}:
  ∀(l:List (Nat×Oper)) {σ:aF} {Dx:Option (List (List AV)×List (List AV))} {D:Option CD} {A:List jk},Ok σ->l.Pairwise (fun p q=>p.1<q.1)->DR md.base Dx D->(∀d,D=some d->CD.Ok P d∧∀p ∈ l,p.1≠d.k)->Gq sp al fi T md ops.toList l σ Dx A R->
   ∃(Dn:Option CD) (l':List (Nat×Oper)) (kL:Nat) (oL:Oper) (A' A0:List jk) (σL τ:aF),l=l'++[(kL,oL)]∧((D=none∧∀d,Dn=some d->∃p ∈ l',p.1=d.k)∨Dn=D)∧(∀d,Dn=some d->CD.Ok P d)∧ac1 cal T md ops.toList Dn l' σ A' σL∧QY A' A0∧(A++A0).Pairwise (PT ops.toList)∧(∀a ∈ A++A0,∀d,Dn=some d->Safe d a)∧aK P md.base ops oL σL τ∧Ok τ∧R τ
 |[],σ,Dx,D,A,hσ,hs,hDR,hD,h=>by unfold Gq at h;exact h.elim
 |(k,o)::r,σ,Dx,D,A,hσ,hs,hDR,hD,h=>by
  cases r with
  |nil=>
   unfold Gq at h;obtain ⟨h1,h2⟩:=Kw hp h;obtain ⟨h3,h4⟩:=O9 h2;obtain ⟨τ,zx,g1,g2,g3,g4⟩:=Gv (cal:=cal) HT HC hS hI hT hσ (KN.nil σ) h4;refine ⟨D,[],k,o,[],[],σ,τ,rfl,.inr rfl,fun d hd=>(hD d hd).1,⟨rfl,rfl⟩,.nil,by rw [List.append_nil];exact h1,?_,?_,g1,g3⟩
   ·intro a ha;rw [List.append_nil] at ha;exact hDR.safe fun bx bx' e=>h3 bx bx' e a ha
   ·intro m lim bs w a K Q hd H hm hK;exact g4 rfl hd H hm hK
  |cons p r=>
   rw [List.pairwise_cons] at hs;have hD2:∀d,D=some d->CD.Ok P d∧∀q ∈ p::r,q.1≠d.k:=fun d hd=>⟨(hD d hd).1,fun q hq=>(hD d hd).2 q (List.mem_cons_of_mem _ hq)⟩;have hOp:(dOp sp T md k o σ fun A0 τ=>Gq sp al fi T md ops.toList (p::r) τ Dx (A++A0) R)->
     ∃(Dn:Option CD) (l':List (Nat×Oper)) (kL:Nat) (oL:Oper) (A' A0:List jk) (σL τ:aF),(k,o)::p::r=l'++[(kL,oL)]∧((D=none∧∀d,Dn=some d->∃p ∈ l',p.1=d.k)∨Dn=D)∧(∀d,Dn=some d->CD.Ok P d)∧ac1 cal T md ops.toList Dn l' σ A' σL∧QY A' A0∧(A++A0).Pairwise (PT ops.toList)∧(∀a ∈ A++A0,∀d,Dn=some d->Safe d a)∧aK P md.base ops oL σL τ∧Ok τ∧R τ:=by
    intro h;obtain ⟨σ1,B0,h1,h2,h3,h4⟩:=agO (all:=ops.toList) hI hT hσ h;obtain ⟨Dn,l',kL,oL,A',A0,σL,τ,g1,g2,g3,g4,g5,g6,g7,g8,g9,g10⟩:=Ny HT HC hS hI hT hp (p::r) h2 hs.2 hDR hD2 h3;refine ⟨Dn,(k,o)::l',kL,oL,jH T md.ad ops.toList k o σ σ1::A',B0++A0,σL,τ,by rw [g1];rfl,?_,g3,⟨σ1,_,A',rfl,.inr ⟨fun d hd=>?_,h1,rfl⟩,g4⟩,?_,by rw [←List.append_assoc];exact g6,by rw [←List.append_assoc];exact g7,g8,g9,g10⟩
    ·rcases g2 with ⟨e1,e2⟩|e
     ·exact .inl ⟨e1,fun d hd=>by obtain ⟨q,hq,e⟩:=e2 d hd;exact ⟨q,List.mem_cons_of_mem _ hq,e⟩⟩
     ·exact .inr e
    ·rcases g2 with ⟨e1,e2⟩|e
     ·obtain ⟨q,hq,e⟩:=e2 d hd;have:=hs.1 q (by rw [g1];exact List.mem_append_left _ hq);simp only at this;omega
     ·exact (hD d (by rw [←e];exact hd)).2 (k,o) List.mem_cons_self
    ·cases h4 with
     |skip e1 e2 e3=>cases e3;exact .skip e1 e2 g5
     |pV e2 e3=>cases e3;exact .pV e2 g5
   unfold Gq at h;simp only [] at h;split at h
   ·rename_i c hc;split at h
    ·rename_i f hf;split at h
     ·rename_i g cap hv;split at h
      ·split at h
       ·rename_i hg;split at h
        ·
         have hwf:wv (val σ.tm f)=true:=rX hσ.tm f;rw [hv] at hwf;obtain ⟨rr,b1,q1,q2,q3,q4,q5,q6,q7,q8⟩:=ZP hS hσ.bx hwf (jR.2 fun v hv=>by
          obtain ⟨x,_,rfl⟩:=List.mem_map.1 hv;exact rX hσ.tm x) h
         rw [pK] at q8;have hDn:D=none:=by
          rcases hDR with ⟨-,e⟩|⟨d,bx,-,e,-⟩
          ·exact e
          ·cases e
         have htl:(σ.bx.take md.base).length=md.base:=by rw [List.length_take];omega
         have hok:CD.Ok P ⟨k,md.base,g,(c.args.toList.map (val σ.tm)).map AV.cO++cap,σ.bx.take md.base,b1,rr⟩:=⟨q1,htl,q3,fun c hc i hi=>by
          obtain ⟨j,hj⟩:=List.getElem?_of_mem hc;obtain ⟨hj1,hj2⟩:=iK hj;exact q4.out j c hj1 hj2 i hi,q5⟩
         obtain ⟨Dn,l',kL,oL,A',A0,σL,τ,g1,g2,g3,g4,g5,g6,g7,g8,g9,g10⟩:=Ny HT HC hS hI hT hp (p::r) (σ:=⟨eG σ.tm o.dst rr,b1++σ.bx.drop md.base⟩) (D:=some ⟨k,md.base,g,(c.args.toList.map (val σ.tm)).map AV.cO++cap,σ.bx.take md.base,b1,rr⟩) ⟨rq q6 hσ.tm,q7⟩ hs.2 (.inr ⟨_,σ.bx,rfl,rfl,rfl,rfl,q3⟩) (fun d hd=>by
          cases hd;exact ⟨hok,fun q hq e=>by have:=hs.1 q hq;simp only at this e;omega⟩) q8
         have hDe:Dn=some ⟨k,md.base,g,(c.args.toList.map (val σ.tm)).map AV.cO++cap,σ.bx.take md.base,b1,rr⟩:=by
          rcases g2 with ⟨e,-⟩|e
          ·cases e
          ·exact e
         refine ⟨Dn,(k,o)::l',kL,oL,⟨k,[],true,false,none,[]⟩::A',A0,σL,τ,by rw [g1];rfl,.inl ⟨hDn,fun d hd=>⟨(k,o),List.mem_cons_self,?_⟩⟩,g3,⟨_,_,A',rfl,.inl ⟨_,hDe,rfl,⟨hg,⟨c,f,cap,hc,hf,hv,lF hwf,rfl⟩,rfl,rfl⟩,rfl⟩,g4⟩,.skip rfl rfl g5,g6,g7,g8,g9,g10⟩;rw [hDe] at hd;cases hd;rfl
        ·exact h.elim
       ·exact h.elim
      ·exact hOp h
     ·exact hOp h
    ·exact hOp h
   ·exact hOp h
theorem QY.alr {l r:List jk} (h:QY l r):∀a ∈ r,a.al=false:=by
 induction h with
 |nil=>intro a ha;cases ha
 |skip _ _ _ ih=>exact ih
 |pV h2 _ ih=>
  intro a ha;rcases List.mem_cons.1 ha with rfl|ha
  ·exact h2
  ·exact ih a ha
theorem FX:∀(k:Nat) (l:List Oper) (j:Nat) {p:Nat×Oper},(dR k l)[j]?=some p->p.1=k+j
 |k,[],j,p,h=>by simp [dR] at h
 |k,o::r,0,p,h=>by rw [dR] at h;simp at h;rw [←h];rfl
 |k,o::r,j+1,p,h=>by rw [dR] at h;have:=FX (k+1) r j (p:=p) (by simpa using h);omega
def SE (all:List Oper):Bool:=
 match all.length with
 |0=>false
 |n+1=>(List.range n).all fun k=>((jX [] all).getD n 0).testBit k
theorem WP.amz (B:Em P T sp) (an:Gm) (al fi:List Nat) {i:Nat} {ops:Array Oper} (hL:SE ops.toList=true) (h:opK ops.toList fun all=>AY (qU all) fun ad=>AY an.arr fun arr=>AY (an.live.getD i []) fun live=>Gq sp al fi T ⟨ad,arr,base⟩ all (dR 0 all) σ none [] (Qu live Q)):WP P n0 base (.region i ops true) σ Q:=by
 refine WP.mk fun hg hσ=>?_;have hko:qK ops.toList=true:=by rw [jK,Bool.and_eq_true] at hg;simpa using hg.2
 obtain ⟨hk1,hk2⟩:=rO hko;obtain ⟨cal,HC,hI⟩:=qM B.sp;rw [EE,kP,kP,kP] at h;obtain ⟨D,l',kL,oL,A',A0,σL,τ,g1,g2,g3,g4,g5,g6,g7,g8,g9,g10⟩:=Ny B.tok HC B.sp hI B.well hk1 (dR 0 ops.toList) hσ (jP _ _) (.inl ⟨rfl,rfl⟩) (fun d hd=>by cases hd) h;rw [List.nil_append] at g6 g7;have agA:Qu (an.live.getD i []) Q τ:=g10;change (JG (an.live.getD i []) τ.tm fun tm=>Q .normal ⟨tm,τ.bx⟩) at agA;rw [xI] at agA;have hDl:∀D',D=some D'->D'.b0.length=D'.n∧D'.b1.length=D'.n:=fun D' e=>⟨(g3 D' e).l0,(g3 D' e).l1⟩;have hch:=VA l' g4 (g5.all g7);have hpr:ji (jX [] ops.toList) none A':=g5.ai9 (by
  have hal:∀a ∈ A0,a.al=false:=g5.alr;exact g6.imp_of_mem fun {a b} ha hb h=>PS h (hal a ha))
 have hkl:kL+1=ops.toList.length∧∀p ∈ l',p.1<kL:=by
  have hs:=jP ops.toList 0;rw [g1,List.pairwise_append] at hs;have hlen:l'.length+1=ops.toList.length:=by have:=congrArg List.length g1;rw [pO,List.length_append] at this;simpa using this.symm
  refine ⟨?_,fun p hp=>hs.2.2 p hp _ (List.mem_singleton.2 rfl)⟩;have hat:(dR 0 ops.toList)[l'.length]?=some (kL,oL):=by rw [g1,List.getElem?_append_right (Nat.le_refl _),Nat.sub_self];rfl
  have:=FX 0 ops.toList l'.length hat;omega
 have agw:∀k,k<kL->((jX [] ops.toList).getD kL 0).testBit k=true:=by unfold SE at hL;rw [←hkl.1] at hL;simp only [List.all_eq_true,List.mem_range] at hL;exact hL
 refine ⟨.normal,⟨prune (an.live.getD i []) τ.tm,τ.bx⟩,fun hn hb H hm hK=>?_,⟨iZ _ g9.tm,g9.bx⟩,agA⟩;refine Xm (base:=base) (M:=fun l σ=>(l=[]∧σ=τ)∨∃l' A,l=l'++[(kL,oL)]∧chn cal T ⟨qU ops.toList,an.arr,base⟩ ops.toList D l' σ A σL∧ji (jX [] ops.toList) none A) B.tok hko (rU hg hn) (Fin:=fun σ'=>σ'=τ) ?_ ?_ H hm (.inr ⟨l',A',g1,hch,hpr⟩) (fun σ' hF=>?_)
 ·intro σ h;rcases h with ⟨-,e⟩|⟨l',A,e,-⟩
  ·exact e
  ·simp at e
 ·intro pre post i o σ h ho hin hs hno;have EM:∀p ∈ pre,kY ops.toList (qU ops.toList) p.2 o=false:=by
   intro p hp;rw [List.pairwise_append] at hs;have hlt:p.1<i:=hs.2.2 p hp (i,o) List.mem_cons_self;have hp2:=hin p (List.mem_append_left _ hp);rcases hk2 p.1 i p.2 o hlt (by simpa using hp2) (by simpa using ho) with hh|hh
   ·rw [hno p (List.mem_append_left _ hp)] at hh;cases hh
   ·exact hh
  rcases h with ⟨e,-⟩|⟨l',A,e,h1,h2⟩
  ·simp at e
  ·rcases List.eq_nil_or_concat post with rfl|⟨post',q,rfl⟩
   ·
    obtain ⟨e1,e2⟩:=List.append_inj' e rfl;simp only [List.cons.injEq,Prod.mk.injEq,and_true] at e2;obtain ⟨rfl,rfl⟩:=e2;have hpre:pre=[]:=by
     cases pre with
     |nil=>rfl
     |cons p pre=>
      exfalso;have h3:=hno p (by simp);rw [List.pairwise_append] at hs;have hlt:p.1<i:=hs.2.2 p List.mem_cons_self (i,o) List.mem_cons_self;rw [agw p.1 hlt] at h3;cases h3
    subst hpre;subst e1;obtain ⟨rfl,rfl⟩:=h1;exact ⟨τ,g8,.inl ⟨rfl,rfl⟩⟩
   ·rw [List.concat_eq_append,←List.cons_append,←List.append_assoc] at e;obtain ⟨e1,e2⟩:=List.append_inj' e rfl;simp only [List.cons.injEq,and_true] at e2;subst e2;subst e1;rw [List.pairwise_append] at hs;obtain ⟨A1,b,A2,rfl,f2,f3,f4⟩:=Ll hDl pre h1 (fun p hp=>by have:=hs.2.2 p hp (i,o) List.mem_cons_self;simp only at this;omega) EM;obtain ⟨σ1,s1,s2⟩:=f4 (fun x hx=>by
     have hx1:x.at_ ∈ pre.map (·.1):=by rw [←f2];exact List.mem_map_of_mem hx
     obtain ⟨y,hy,e⟩:=List.mem_map.1 hx1;rcases h2.mid x hx with hh|hh|hh
     ·rw [f3,←e,hno y (List.mem_append_left _ hy)] at hh;cases hh
     ·exact hh
     ·cases hh)
    refine ⟨σ1,?_,.inr ⟨pre++post',A1++A2,by rw [List.concat_eq_append,List.append_assoc],s2,h2.drop⟩⟩;intro m lim bs w a K Q hd H hm hK;rcases s1 with ⟨D',d1,d2,d3,-⟩|⟨-,y2,-,-⟩
    ·have hDo:=g3 D' d1;rw [if_pos (by simp [Region.wanted,d3.gd])];obtain ⟨c,f,cap,c1,c2,c3,c4,c5⟩:=d3.ops;have hnl:D'.n<=σ.bx.length:=by have h1:=congrArg List.length d3.bx;rw [hDo.l0,List.length_take] at h1;omega
     refine TA (g:=D'.g) (n:=D'.n) (ys:=D'.ys) (r:=D'.r) (bx':=D'.b1) hnl (by rw [d3.bx];exact hDo.call) hDo.l1 (fun c hc=>hDo.cl c (by rw [←d3.bx];exact hc)) hDo.cy H hm hd c1 c2 c3 c4 c5 ?_;rw [←d3.out];exact fun eQ mY w1 a2 hg=>hK _ _ _ _ hg.B
    ·exact qI B.tok HC H hm hd y2 (fun eQ mY w1 a2 hg=>hK _ _ _ _ hg.B)
 ·subst hF;exact fun lim' bs' w' a' hgo=>hK lim' bs' w' a' ⟨hgo.hold.prune _,hgo.fr,hgo.pre,hgo.nt,hgo.df⟩
end V
namespace V
open Ab
class Nx (p:Prop) (q:outParam Prop):Prop where
 h:q->p
class Ev (P:Program) (T:outParam kZ) (sp:outParam Sp) (an:outParam Gm) (al fi:outParam (List Nat)):Prop where
 b:Em P T sp
theorem nX {p q:Prop} [n:Nx p q] (h:q):p:=n.h h
variable {P : Program} {T : kZ} {sp : Sp} {an : Gm} {al fi : List Nat} {n0 base : Nat} {σ : aF} {Q : zV -> aF -> Prop}
instance {p:Prop}:Nx (Go p) p:=⟨Go.mk⟩
instance {x y:Code}:Nx (WP P n0 base (.seq x y) σ Q) (WP P n0 base x σ (X4 P n0 base y Q)):=⟨WP.seq⟩
instance {x:Operand} {y z:Code}:Nx (WP P n0 base (.cond x y z) σ Q) (aab P n0 base y z σ Q (val σ.tm x)):=⟨WP.cond⟩
instance {i:Nat} {x:Code}:Nx (WP P n0 base (.block i x) σ Q) (WP P n0 base x σ (NM i Q)):=⟨WP.block⟩
instance:Nx (WP P n0 base .skip σ Q) (Q .normal σ):=⟨WP.skip⟩
instance:Nx (WP P n0 base .ret σ Q) (Q .ret σ):=⟨WP.ret⟩
instance {i:Nat}:Nx (WP P n0 base (.exit i) σ Q) (Q (.exit i) σ):=⟨WP.exit⟩
instance {bx:List (List AV)} {i:Nat} {c:List AV} {K:List (List AV)->Prop}:Nx (gZ bx i c c K) (K bx):=⟨gZ.same⟩
instance [e:Ev P T sp an al fi] {i:Nat} {ops:Array Oper}:Nx (WP P n0 base (.region i ops false) σ Q) (opK ops.toList fun all=>AY (qU all++an.adl) fun ad=>AY an.arr fun arr=>AY (an.live.getD i []) fun live=>aa8 sp al T ⟨ad,arr,base⟩ all all [] σ (Qu live Q)):=⟨WP.afy e.b an al⟩
def lsB (b:Bool) (p:Prop):Prop:=
 match b with
 |true=>p
 |false=>False
theorem Y3 {b:Bool} {p:Prop} (h:lsB b p):b=true∧p:=by
 cases b
 ·exact h.elim
 ·exact ⟨rfl,h⟩
instance [e:Ev P T sp an al fi] {i:Nat} {ops:Array Oper}:Nx (WP P n0 base (.region i ops true) σ Q) (lsB (SE ops.toList) (opK ops.toList fun all=>AY (qU all) fun ad=>AY an.arr fun arr=>AY (an.live.getD i []) fun live=>Gq sp al fi T ⟨ad,arr,base⟩ all (dR 0 all) σ none [] (Qu live Q))):=⟨fun h=>WP.amz e.b an al fi (Y3 h).1 (Y3 h).2⟩
end V
end
end Go.Proofs.YtlmjabnkjmfcmaaGreat
