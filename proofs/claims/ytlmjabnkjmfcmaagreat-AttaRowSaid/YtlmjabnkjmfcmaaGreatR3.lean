/- Parts of a proof; no condition. -/
import Derived.Test.YtlmjabnkjmfcmaaGreatR2
namespace Go.Proofs.YtlmjabnkjmfcmaaGreat
open Go Go.RowKit Go.PlainAid
set_option linter.unusedVariables false
set_option linter.unusedSimpArgs false
set_option linter.unusedSectionVars false
set_option maxHeartbeats 20000000
set_option linter.defProp false
section
variable [nM]
namespace Ab
variable {lim lim' : Nat -> Nat} {bs bs' : List Nat} {w w' : World} {P : Program} {T : kZ} {a : Act} {o : Oper} {cs : List (List AV)} {out : Out} {m : Nat -> Prop} {bx bx' : List (List AV)} {S S' : uP} {K : Act -> World -> Prop} {Q : Exit -> Act -> World -> Prop} {cal : BR} {σ σ' : aF}
theorem gU {α β:Type} {x:Option α} {f:α->Option β} {b:β} (h:fK x f=some b):∃y,x=some y∧f y=some b:=by
 unfold fK at h;split at h
 ·cases h
 ·exact ⟨_,rfl,h⟩
theorem ed {bx:List (List AV)} {cs:List (List AV)} (h:bD bx []=some cs):cs=[]:=by rw [bD] at h;cases h;rfl
theorem IW (x:AV):(∃i o,x=.ptr i o∧uS x=[i])∨uS x=[]:=by cases x<;>first|exact .inr rfl|exact .inl ⟨_,_,rfl,rfl⟩
theorem JE {ρ:Operand->AV} {bx:List (List AV)} {c:Call} {b:Builtin} (h:c.callee=.builtin b):eH ρ bx (.call c)=[]:=by obtain ⟨x,y,z⟩:=c;cases h;rfl
theorem OB {ρ:Operand->AV} {bx:List (List AV)} {c:Call} {f:Operand} (h:c.callee=.value f):eH ρ bx (.call c)=reach 1000000 bx (AV.ids (ρ f)++AV.aA (c.args.toList.map ρ)) []:=by obtain ⟨x,y,z⟩:=c;cases h;rfl
theorem P7 (HT:mM P T) (H:aB lim bs w σ.bx (Sl σ.tm a) m) (hm:∀b,w.heap.size<=b->m b) (hd:∀k,o.dst=some k->k<a.tmps.size) {t e:Nat} {d:TD} {n c:Operand} (ho:o.op=.makeSlice t n c) (ht:AA T t=some (e,d)) {X Y:AV} (hn:Av lim bs w X (a.eval n)) (hc:Av lim bs w Y (a.eval c))
  (h:qP e d X Y cs=some out) (hok:out.ok=true) (hK:yA m lim bs w a (fin o.dst out [] [] σ) K):o.wp P a w K Q:=by
 unfold qP at h;split at h
 case h_2=>cases h
 rename_i kn n';split at h
 case h_2=>cases h
 rename_i kc c';have:=dS h;subst this;simp only [Bool.and_eq_true,decide_eq_true_eq] at hok;obtain ⟨⟨⟨⟨⟨k1,k2⟩,k3⟩,k4⟩,k5⟩,k6⟩:=hok;have hml:c'.toNat<=maxLen:=by have:(100000:Nat)<=maxLen:=dE;omega
 have hn1:=hn.r;have hc1:=hc.r;rw [AV.R] at hn1 hc1;subst k1;obtain ⟨hu,he⟩:=tY HT ht;obtain ⟨i,z,hi,hs,hby,hz,hzc,hzr⟩:=HT.info e d he;have hrun:(execOp a.eval o).run P w=.ok (.value (.slice (some ⟨w.heap.size,0,none⟩) 0 c'.toNat)) (w.alloc (.cells (madeCells z.cells (c'.toNat*i.size)) e)):=by
  unfold execOp;simp only [ho,hn1,hc1];have hb:(i.bytes:Int)*c'<=281474976710656:=by
   have h1:(i.bytes:Int)<=1000:=by rw [hby];omega
   have h2:(i.bytes:Int)*c'<=1000*c':=Int.mul_le_mul_of_nonneg_right h1 k2;omega
  rw [Sem.run_bind,run_make w t e i z hu hi hz kn kc 0 c' (Int.le_refl _) k2 hb oM];rfl
 obtain ⟨H2,hfr,hown⟩:=H.grow (w':=w.alloc (.cells (madeCells z.cells (c'.toNat*i.size)) e)) (g:=w.heap.size) (n:=0) (fun hb=>Nat.lt_irrefl _ (lU H hb)) (hm _ (Nat.le_refl _)) (by rw [kG];omega) (by rw [kG];omega) (AP w _) (fun k hk _=>alloc_old w _ hk) (fun p hp=>Nat.lt_irrefl _ (Own.lt H hp)) (.inr ⟨rfl,kG w _⟩) (by rw [H.top _ (Nat.le_refl _)];omega) (fun j hj=>absurd hj (Nat.lt_irrefl _)) (fun cur e p hh=>absurd (dO hh) (Nat.lt_irrefl _));refine jq hrun (hK _ bs _ _ ⟨?_,hfr,fun _ _ h=>h,bY _ _ _,put_defers _ _ _⟩);show aB _ bs _ (ak σ.bx [] cs++[]) (Sl (eG σ.tm o.dst (.row e d.size 0 [])) (a.put o.dst _)) m;rw [List.append_nil,aC,jh hd];refine H2.eG (Px (Nat.zero_mul _).symm rfl (uo w _) (Nat.zero_le _) ?_ (by rw [size_madeCells,hs]) (by simp) ⟨[],by rw [AV.Rs],by rw [Nat.zero_mul,List.take_zero]⟩) (by rw [AV.top];rfl) (fun k g _ _ hg=>?_)
 ·exact hml
 ·have hg':w.heap.size=g:=by simpa [Value.ownBlock] using hg
  subst hg';exact ⟨hm _ (Nat.le_refl _),fun hb=>Nat.lt_irrefl _ (lU H hb),fun p hp=>absurd (Own.lt H (hown p _ hp)) (Nat.lt_irrefl _)⟩
theorem PV (HT:mM P T) (HC:fB P cal) (H:aB lim bs w σ.bx (Sl σ.tm a) m) (hm:∀b,w.heap.size<=b->m b) (hd:∀k,o.dst=some k->k<a.tmps.size) {md:Md} (h:VM cal T md o σ=some σ') (hK:yA m lim bs w a σ' K):o.wp P a w K Q:=by
 unfold VM Bc at h;split at h
 ·cases h
 rename_i cs hcs;split at h
 ·cases h
 rename_i out hcore;have hok:out.ok=true:=by
  by_cases hh:out.ok=true
  ·exact hh
  ·rw [if_neg hh] at h;cases h
 rw [if_pos hok] at h;cases h;have V:=fun x=>pg H x;unfold core at hcore;split at hcore
 ·
  rename_i x ho;rw [ho] at hcs hK;have hc0:=ed (show bD σ.bx []=some cs from hcs);subst hc0;cases hA:jb md.ad o.dst with
  |true=>
   rw [hA] at hcore hK;have:=kK hcore;subst this;exact KE H hd (.inl ho) (V x).1.r (V x).1.t (fun hr=> .inl ((V x).2 hr)) hK
  |false=>
   rw [hA] at hcore hK;exact fH H hd (afm ho (V x).1 hcore) _ hK
 ·
  rename_i x ho;rw [ho] at hcs hK;have hc0:=ed (show bD σ.bx []=some cs from hcs);subst hc0;have:=kK hcore;subst this;exact KE H hd (.inr ho) (V x).1.r (V x).1.t (fun hr=> .inl ((V x).2 hr)) hK
 ·rename_i c x y ho;rw [ho] at hcs hK;have hc0:=ed (show bD σ.bx []=some cs from hcs);subst hc0;exact fH H hd (afl ho (V c).1 (V x).1 (V y).1 hcore) _ hK
 ·
  rename_i t ho;rw [ho] at hcs hK;have hc0:=ed (show bD σ.bx []=some cs from hcs);subst hc0;obtain ⟨d,ht,hc⟩:=gU hcore;unfold Lm at hc;cases hc;obtain ⟨Vv,hrun,hz⟩:=Xk (w:=w) (a:=a) HT ho ht;obtain ⟨z1,z2,z3,z4⟩:=adE (lim:=lim) (bs:=bs) (w:=w) hz;exact KG H hm hd hrun z1 z2 (fun j y v hy hv hr=>by rw [z4 j y v hy hv hr];rfl) hK
 ·
  rename_i t x ho;rw [ho] at hcs hK;have hc0:=ed (show bD σ.bx []=some cs from hcs);subst hc0;unfold Lm at hcore;cases hcore;rw [Bool.and_eq_true] at hok;have hcl:=G8 hok.1 (V x).1.r.cO;have hfl:AV.aj (cells (val σ.tm x).cO)=true:=by
   have:∀y:AV,y.flat=true->AV.aj (cells y)=true:=by
    intro y hy;cases y<;>first
     |(show AV.aj [_]=true;rw [AV.aj,hy];rfl)
     |exact hy
   exact this _ hok.2
  exact KG H hm hd (adi ho) hcl (lH hfl) (fun j y v hy hv hr=>by rw [nJ (fJ hfl hy)] at hr;cases hr) hK
 ·
  rename_i t ps ho;rw [ho] at hcs hK;have hc0:=ed (show bD σ.bx []=some cs from hcs);subst hc0;obtain ⟨d,ht,hc⟩:=gU hcore;exact fH H hd (abA HT ho ht (aaS H ps.toList) hc hok) _ hK
 ·rename_i t len ps ho;rw [ho] at hcs hK;have hc0:=ed (show bD σ.bx []=some cs from hcs);subst hc0;obtain ⟨⟨e,d⟩,ht,hc⟩:=gU hcore;exact QH HT H hm hd ho ht (aaS H ps.toList) hc hok hK
 ·rename_i t n c ho;rw [ho] at hcs hK;have hc0:=ed (show bD σ.bx []=some cs from hcs);subst hc0;obtain ⟨⟨e,d⟩,ht,hc⟩:=gU hcore;exact P7 HT H hm hd ho ht (V n).1 (V c).1 hc hok hK
 ·
  rename_i t x ho;rw [ho] at hcs hK;obtain ⟨d,ht,hc⟩:=gU hcore;rcases IW (val σ.tm x) with ⟨i,o',he,hid⟩|hid
  ·have hcs2:bD σ.bx [i]=some cs:=by rw [show eH (val σ.tm) σ.bx (.load t x)=uS (val σ.tm x) from rfl,hid] at hcs;exact hcs
   rw [show eH (val σ.tm) σ.bx (.load t x)=uS (val σ.tm x) from rfl,hid] at hK;obtain ⟨c,hc1,rfl⟩:=Ld hcs2;rw [he] at hc;have hR:=(V x).1.r;rw [he] at hR;exact WE HT H hd ho ht hR hc1 hc hok (fun hA=>by
    cases hdst:o.dst with
    |none=>rw [hdst] at hA;cases hA
    |some k=>rfl) hK
  ·have hcs2:bD σ.bx []=some cs:=by rw [show eH (val σ.tm) σ.bx (.load t x)=uS (val σ.tm x) from rfl,hid] at hcs;exact hcs
   rw [show eH (val σ.tm) σ.bx (.load t x)=uS (val σ.tm x) from rfl,hid] at hK;have hc0:=ed hcs2;subst hc0;cases hv:val σ.tm x<;>rw [hv] at hc hid<;>first
    |(cases hid;done)
    |(have hA:=(V x).1;rw [hv] at hA;exact fH H hd (Wn HT ho ht hA hc hok) _ hK)
    |(cases hc;done)
 ·
  rename_i t p x ho;rw [ho] at hcs hK;obtain ⟨d,ht,hc⟩:=gU hcore;rcases IW (val σ.tm p) with ⟨i,o',he,hid⟩|hid
  ·have hcs2:bD σ.bx [i]=some cs:=by rw [show eH (val σ.tm) σ.bx (.store t p x)=uS (val σ.tm p) from rfl,hid] at hcs;exact hcs
   rw [show eH (val σ.tm) σ.bx (.store t p x)=uS (val σ.tm p) from rfl,hid] at hK;obtain ⟨c,hc1,rfl⟩:=Ld hcs2;rw [he] at hc;have hR:=(V p).1.r;rw [he] at hR;exact Ry HT H hd ho ht hR (V x).1 (V x).2 hc1 hc hok hK
  ·cases hv:val σ.tm p<;>rw [hv] at hc hid<;>first|(cases hid;done)|(cases hc;done)
 ·rename_i x ho;rw [ho] at hcs hK;have hc0:=ed (show bD σ.bx []=some cs from hcs);subst hc0;exact fH H hd (aiM ho (V x).1 hcore) _ hK
 ·rename_i op t x y t' ho;rw [ho] at hcs hK;have hc0:=ed (show bD σ.bx []=some cs from hcs);subst hc0;exact fH H hd (aiO HT ho (V x).1 (V y).1 hcore hok) _ hK
 ·rename_i op t x ho;rw [ho] at hcs hK;have hc0:=ed (show bD σ.bx []=some cs from hcs);subst hc0;exact fH H hd (aiL ho (V x).1 hcore) _ hK
 ·rename_i s t x ho;rw [ho] at hcs hK;have hc0:=ed (show bD σ.bx []=some cs from hcs);subst hc0;exact fH H hd (afo HT ho (V x).1 hcore hok) _ hK
 ·
  rename_i fn first cap ho
  rw [ho] at hcs hK;have hc0:=ed (show bD σ.bx []=some cs from hcs);subst hc0;split at hcore
  ·rename_i f;split at hcore
   ·rename_i hf;obtain ⟨r1,r2⟩:=qV H cap.toList;rw [List.map_map] at r1 r2;exact fH H hd (afn ho hf r1 r2 hcore) _ hK
   ·cases hcore
  ·cases hcore
 ·
  rename_i t x lo hi mx ho;rw [ho] at hcs hK;have hc0:=ed (show bD σ.bx []=some cs from hcs);subst hc0;split at hcore
  ·cases hcore
  ·rename_i hmx;have apC:mx=none:=by cases mx<;>first|rfl|exact absurd rfl hmx
   subst apC;exact fH H hd (abx HT ho (V x).1 (fun y hy=>⟨_,by rw [hy];rfl,(V y).1⟩) (fun hn=>by rw [hn];rfl) (fun y hy=>⟨_,by rw [hy];rfl,(V y).1⟩) (fun hn=>by rw [hn];rfl) hcore hok) _ hK
 ·rename_i t x f ho;rw [ho] at hcs hK;have hc0:=ed (show bD σ.bx []=some cs from hcs);subst hc0;obtain ⟨d,ht,hc⟩:=gU hcore;obtain ⟨q,hq,hc⟩:=gU hc;exact fH H hd (Pg HT ho ht hq (V x).1 hc hok) _ hK
 ·rename_i t x f ho;rw [ho] at hcs hK;have hc0:=ed (show bD σ.bx []=some cs from hcs);subst hc0;obtain ⟨d,ht,hc⟩:=gU hcore;obtain ⟨q,hq,hc⟩:=gU hc;exact fH H hd (abz HT ho ht hq (V x).1 hc hok) _ hK
 ·rename_i t x i ho;rw [ho] at hcs hK;have hc0:=ed (show bD σ.bx []=some cs from hcs);subst hc0;obtain ⟨⟨e,d⟩,ht,hc⟩:=gU hcore;exact fH H hd (Pe HT ho ht (V x).1 (V i).1 hc hok) _ hK
 ·rename_i t x i ho;rw [ho] at hcs hK;have hc0:=ed (show bD σ.bx []=some cs from hcs);subst hc0;exact fH H hd (aby HT ho (V x).1 (V i).1 hcore hok) _ hK
 ·rename_i x i ho;rw [ho] at hcs hK;have hc0:=ed (show bD σ.bx []=some cs from hcs);subst hc0;exact fH H hd (Wp ho (V x).1 hcore) _ hK
 ·
  rename_i c ho;rw [ho] at hcs hK;split at hcore
  ·rename_i b hb;have SN:eH (val σ.tm) σ.bx (.call c)=[]:=JE hb;rw [SN] at hcs hK;have hc0:=ed hcs;subst hc0;unfold Ee at hcore;split at hcore
   ·
    split at hcore
    ·rename_i X hX;obtain ⟨x,hx,rfl⟩:∃x,c.args.toList=[x]∧X=val σ.tm x:=by
      cases hh:c.args.toList with
      |nil=>rw [hh] at hX;cases hX
      |cons x r=>
       rw [hh] at hX;cases r with
       |nil=>simp only [List.map_cons,List.map_nil,List.cons.injEq,and_true] at hX;exact ⟨x,rfl,hX.symm⟩
       |cons y r=>simp at hX
     have hargs:c.args=#[x]:=by rw [←Array.toList_inj];exact hx
     exact fH H hd (aiN HT ho hb hargs (V x).1 hcore hok) _ hK
    ·cases hcore
   ·split at hcore
    ·rename_i X Y hX;obtain ⟨x,y,hx,rfl,rfl⟩:∃x y,c.args.toList=[x,y]∧X=val σ.tm x∧Y=val σ.tm y:=by
      cases hh:c.args.toList with
      |nil=>rw [hh] at hX;cases hX
      |cons x r=>
       rw [hh] at hX;cases r with
       |nil=>simp at hX
       |cons y r=>
        cases r with
        |nil=>simp only [List.map_cons,List.map_nil,List.cons.injEq,and_true] at hX;exact ⟨x,y,rfl,hX.1.symm,hX.2.symm⟩
        |cons z r=>simp at hX
     have hargs:c.args=#[x,y]:=by rw [←Array.toList_inj];exact hx
     cases he:Nu true (val σ.tm x) (val σ.tm y) with
     |none=>rw [he] at hcore;cases hcore
     |some v=>
      rw [he] at hcore;have:=kK hcore;subst this;exact fH H hd (adN (mx:=true) ho hb hargs (V x).1 (V y).1 he) _ hK
    ·cases hcore
   ·split at hcore
    ·rename_i X Y hX;obtain ⟨x,y,hx,rfl,rfl⟩:∃x y,c.args.toList=[x,y]∧X=val σ.tm x∧Y=val σ.tm y:=by
      cases hh:c.args.toList with
      |nil=>rw [hh] at hX;cases hX
      |cons x r=>
       rw [hh] at hX;cases r with
       |nil=>simp at hX
       |cons y r=>
        cases r with
        |nil=>simp only [List.map_cons,List.map_nil,List.cons.injEq,and_true] at hX;exact ⟨x,y,rfl,hX.1.symm,hX.2.symm⟩
        |cons z r=>simp at hX
     have hargs:c.args=#[x,y]:=by rw [←Array.toList_inj];exact hx
     cases he:Nu false (val σ.tm x) (val σ.tm y) with
     |none=>rw [he] at hcore;cases hcore
     |some v=>
      rw [he] at hcore;have:=kK hcore;subst this;exact fH H hd (adN (mx:=false) ho hb hargs (V x).1 (V y).1 he) _ hK
    ·cases hcore
   ·
    split at hcore
    ·rename_i X Y hX;obtain ⟨x,y,hx,rfl,rfl⟩:∃x y,c.args.toList=[x,y]∧X=val σ.tm x∧Y=val σ.tm y:=by
      cases hh:c.args.toList with
      |nil=>rw [hh] at hX;cases hX
      |cons x r=>
       rw [hh] at hX;cases r with
       |nil=>simp at hX
       |cons y r=>
        cases r with
        |nil=>simp only [List.map_cons,List.map_nil,List.cons.injEq,and_true] at hX;exact ⟨x,y,rfl,hX.1.symm,hX.2.symm⟩
        |cons z r=>simp at hX
     have hargs:c.args=#[x,y]:=by rw [←Array.toList_inj];exact hx
     split at hcore
     ·rename_i t t' hts;split at hcore
      ·cases hcore
      ·rename_i e d he;have htt:t'=t:=by
        unfold tZ at hcore;split at hcore
        ·cases hcore
        ·split at hcore
         ·cases hcore
         ·have:=dS hcore;subst this;simp only [Bool.and_eq_true,decide_eq_true_eq] at hok;exact hok.1.1.1.1.1.1
       subst htt;have SL:c.argTypes=#[t',t']:=by rw [←Array.toList_inj];exact hts
       rw [show decide (t'=t')=true by simp] at hcore;have hg:kS (jb md.ad o.dst) (.call c)=fM x:=by show LC c=fM x;unfold LC;rw [hb];show GY c.args.toList=_;rw [hx];rfl
       rw [hg] at hK;exact aaH HT H hm hd ho hb hargs SL he (V x).1 (V x).2 (V y).1 hcore hok hK
     ·cases hcore
    ·cases hcore
   ·cases hcore
  ·rename_i f hf;have SN:=OB (ρ:=val σ.tm) (bx:=σ.bx) hf;have hg:kS (jb md.ad o.dst) (.call c)=[]:=by show LC c=[];unfold LC;rw [hf]
   rw [ho] at hcore;rw [hg] at hK;exact WY HC H hm hd ho hf (by rw [SN];exact vz _ _ _ _ List.nodup_nil) hcs hcore hok hK
  ·cases hcore
 ·cases hcore
end Ab
namespace Ab
variable {lim lim' : Nat -> Nat} {bs bs' : List Nat} {w w' : World} {P : Program} {T : kZ} {a : Act} {o : Oper} {cs : List (List AV)} {out : Out} {m : Nat -> Prop} {bx bx' : List (List AV)} {S S' : uP} {K : Act -> World -> Prop} {Q : Exit -> Act -> World -> Prop} {cal : BR} {σ σ' σ1 σ2 : aF}
mutual
theorem su:∀(x:AV),AV.bP id x=x
 |.ptr .. =>rfl
 |.dm .. =>rfl
 |.bool _=>rfl
 |.int _ _=>rfl
 |.str _=>rfl
 |.nz _=>rfl
 |.nil=>rfl
 |.ql _=>rfl
 |.low _ _ _=>rfl
 |.bad=>rfl
 |.sl n l=>by rw [AV.bP,iI l]
 |.row e z n l=>by rw [AV.bP,iI l]
 |.el l=>by rw [AV.bP,iI l]
 |.agg l=>by rw [AV.bP,iI l]
 |.bW l=>by rw [AV.bP,iI l]
 |.fn g l=>by rw [AV.bP,iI l]
theorem iI:∀(l:List AV),AV.aG id l=l
 |[]=>rfl
 |x::l=>by rw [AV.aG,su x,iI l]
end
theorem aeP {x:AV} {v:Value} (hb:∀i ∈ x.ids,∀b,bs[i]?=some b->bs'[i]?=some b) (h:AV.R lim bs w x v):AV.R lim bs' w x v:=by have:=AV.R.bP (f:=id) (bs':=bs') hb h;rw [su] at this;exact this
theorem aaP {x:List AV} {v:List Value} (hb:∀i ∈ AV.aA x,∀b,bs[i]?=some b->bs'[i]?=some b) (h:AV.Rs lim bs w x v):AV.Rs lim bs' w x v:=by have:=AV.Rs.bP (f:=id) (bs':=bs') hb h;rw [iI] at this;exact this
theorem xM:∀{l:List Nat},(∀(i j x:Nat),l[i]?=some x->l[j]?=some x->i=j)->l.Nodup
 |[],_=>List.nodup_nil
 |y::l,h=>by
  rw [List.nodup_cons];refine ⟨fun hm=>?_,xM fun i j x hi hj=>?_⟩
  ·obtain ⟨k,hk,e⟩:=List.getElem_of_mem hm;have:=h 0 (k+1) y rfl (by rw [List.getElem?_cons_succ,List.getElem?_eq_getElem hk,e]);omega
  ·have:=h (i+1) (j+1) x (by simpa using hi) (by simpa using hj);omega
theorem Aa {α:Type} {l:List α} {i j:Nat} {x y:α} (h:(l.set i x)[j]?=some y):(j=i∧y=x∧i<l.length)∨(j≠i∧l[j]?=some y):=by
 rw [List.getElem?_set] at h;split at h
 ·rename_i e;split at h
  ·rename_i hl;cases h;exact .inl ⟨e.symm,rfl,hl⟩
  ·cases h
 ·rename_i e;exact .inr ⟨fun h=>e h.symm,h⟩
theorem aB.aiU (H:aB lim bs w bx S m) {i b g:Nat} (hi:bs[i]?=some b) (hg:g=b∨(g ∉ bs∧∀p,¬Own w bs bx S p g)) (Qo:m g) (hlg:lim g=0) (hoth:∀k,k<w.heap.size->k≠g->w'.heap[k]?=w.heap[k]?) (hfr:Fr m lim w lim w')
  {V tl:List Value} {e:TypeId} (hV:w'.heap[g]?=some (.cells (V++tl).toArray e (0,0))) {x:List AV} (hR:AV.Rs lim bs w x V) (hx:AV.aj x=true) (hxi:i ∉ AV.aA x) (hS:∀k,i ∉ (S k).1.ids) (hB:∀(j:Nat) (c:List AV),bx[j]?=some c->j≠i->i ∉ AV.aA c):aB lim (bs.set i g) w' (bx.set i x) S m:=by
 have hil:i<bs.length:=(List.getElem?_eq_some_iff.1 hi).1;have henv:∀{l:List Nat},i ∉ l->∀j ∈ l,∀b',bs[j]?=some b'->(bs.set i g)[j]?=some b':=by intro l hl j hj b' hb';rw [List.getElem?_set,if_neg (fun e=>hl (by rw [e];exact hj))];exact hb'
 have qm:AV.Ext lim bs w lim bs w':=hfr.ext (fun _ _ h=>h);have hgo:∀p g',Own w bs bx S p g'->g'≠g:=by
  rintro p g' hp rfl;rcases hg with rfl|⟨-,h⟩
  ·exact (H.own p _ hp).2 (List.mem_of_getElem? hi)
  ·exact h p hp
 have hgb:∀j b',j≠i->bs[j]?=some b'->b'≠g:=by
  rintro j b' hj hb' rfl;rcases hg with rfl|⟨h,-⟩
  ·exact hj (gm H.BX hb' hi)
  ·exact h (List.mem_of_getElem? hb')
 have hmem:∀b',b' ∈ bs.set i g->b'=g∨b' ∈ bs:=by
  intro b' h;obtain ⟨j,hj,e⟩:=List.getElem_of_mem h;rcases Aa (List.getElem?_eq_getElem hj) with ⟨-,h2,-⟩|⟨-,h2⟩
  ·exact .inl (by rw [←e,h2])
  ·exact .inr (by rw [←e];exact List.mem_of_getElem? h2)
 have ho:∀p g',Own w' (bs.set i g) (bx.set i x) S p g'->Own w bs bx S p g':=by
  intro p g' hp;cases p with
  |t k=>exact hp
  |b j k=>
   obtain ⟨b',c,y,v,q1,q2,q3,q4,q5,q6⟩:=hp;rcases Aa q2 with ⟨e,rfl,-⟩|⟨hj,q2⟩
   ·rw [nJ (fJ hx q3)] at q4;cases q4
   ·rw [List.getElem?_set,if_neg (fun e=>hj e.symm)] at q1;exact ⟨b',c,y,v,q1,q2,q3,q4,by rw [←World.cell?_of_block (w':=w') (hoth b' (lU H (List.mem_of_getElem? q1)) (hgb j b' hj q1))];exact q5,q6⟩
 refine ⟨by rw [List.length_set,List.length_set];exact H.len,xM fun j k y hj hk=>?_,fun b' hb'=>?_,fun b' hb'=>?_,fun j b' c hj hc=>?_,fun k=>?_,H.kN,fun b' hb'=>H.top b' (Nat.le_trans hfr.bel.size hb'),fun p g' hp=>⟨(H.own p g' (ho p g' hp)).1,fun h=>?_⟩,fun p q g' hp hq=>H.qO p q g' (ho p g' hp) (ho q g' hq)⟩
 ·rcases Aa hj with ⟨e1,e2,-⟩|⟨n1,h1⟩
  ·rcases Aa hk with ⟨e3,-,-⟩|⟨n2,h2⟩
   ·rw [e1,e3]
   ·exact absurd e2 (hgb k y n2 h2)
  ·rcases Aa hk with ⟨e3,e4,-⟩|⟨n2,h2⟩
   ·exact absurd e4 (hgb j y n1 h1)
   ·exact gm H.BX h1 h2
 ·rcases hmem b' hb' with rfl|h
  ·exact hlg
  ·exact H.free b' h
 ·rcases hmem b' hb' with rfl|h
  ·exact Qo
  ·exact H.mb b' h
 ·rcases Aa hc with ⟨e1,rfl,-⟩|⟨n1,hc⟩
  ·subst e1;rw [List.getElem?_set,if_pos rfl,if_pos hil] at hj;cases hj;exact ⟨V,tl,e,hV,aaP (henv hxi) (AV.Rs.ext qm hx hR),lH hx⟩
  ·rw [List.getElem?_set,if_neg (fun e=>n1 e.symm)] at hj;obtain ⟨C,tl2,t2,g1,g2,g3⟩:=H.box j b' c hj hc;refine ⟨C,tl2,t2,(hoth b' (dO g1) (hgb j b' n1 hj)).trans g1,aaP (henv (hB j c hc n1)) (qj qm g3 (fun k y v g' hy hv hr hgg=>?_) g2),g3⟩;have hown:Own w bs bx S (.b j k) g':=⟨b',c,y,v,hj,hc,hy,hr,dV g1 hv,hgg⟩;exact ⟨hoth g' (Own.lt H hown) (hgo _ _ hown),rfl⟩
 ·exact aeP (henv (hS k)) (AV.R.pV qm (H.kN k) (fun g' h1 h2=>⟨hoth g' (Own.lt H (p:=.t k) ⟨h1,h2⟩) (hgo (.t k) g' ⟨h1,h2⟩),rfl⟩) (H.slot k))
 ·rcases hmem g' h with e|h
  ·exact hgo p g' (ho p g' hp) e
  ·exact (H.own p g' (ho p g' hp)).2 h
theorem aB.push (H:aB lim bs w bx S m) {g:Nat} (hg:g ∉ bs) (hgo:∀p,¬Own w bs bx S p g) (Qo:m g) (hlg:lim g=0) {V tl:List Value} {e:TypeId} (hV:w.heap[g]?=some (.cells (V++tl).toArray e (0,0))) {x:List AV} (hR:AV.Rs lim bs w x V) (hx:AV.aj x=true):aB lim (bs++[g]) w (bx++[x]) S m:=by
 have tX:∀(i b:Nat),bs[i]?=some b->(bs++[g])[i]?=some b:=fun i b h=>by rw [di,if_neg (fun e=>by subst e;simp at h)];exact h
 have qm:AV.Ext lim bs w lim (bs++[g]) w:=⟨tX,Nat.le_refl _,fun _ _=>Nat.le_refl _,fun _ _ _ _=>rfl,fun b cur e p h=>⟨cur,h,rfl⟩⟩;have ho:∀p g',Own w (bs++[g]) (bx++[x]) S p g'->Own w bs bx S p g':=by
  intro p g' hp;cases p with
  |t k=>exact hp
  |b j k=>
   obtain ⟨b',c,y,v,q1,q2,q3,q4,q5,q6⟩:=hp;rw [di] at q1 q2;rw [←H.len] at q2;split at q2
   ·cases q2;rw [nJ (fJ hx q3)] at q4;cases q4
   ·rename_i e;rw [if_neg e] at q1;exact ⟨b',c,y,v,q1,q2,q3,q4,q5,q6⟩
 refine ⟨by rw [List.length_append,List.length_append,H.len];rfl,?_,fun b' hb'=>?_,fun b' hb'=>?_,fun j b' c hj hc=>?_,fun k=>?_,H.kN,H.top,fun p g' hp=>⟨(H.own p g' (ho p g' hp)).1,fun h=>?_⟩,fun p q g' hp hq=>H.qO p q g' (ho p g' hp) (ho q g' hq)⟩
 ·rw [List.nodup_append];exact ⟨H.BX,by simp,fun x hx y hy e=>by rw [List.mem_singleton.1 hy] at e;exact hg (e▸hx)⟩
 ·rcases List.mem_append.1 hb' with h|h
  ·exact H.free b' h
  ·rw [List.mem_singleton.1 h];exact hlg
 ·rcases List.mem_append.1 hb' with h|h
  ·exact H.mb b' h
  ·rw [List.mem_singleton.1 h];exact Qo
 ·rw [di] at hj hc;rw [←H.len] at hc;split at hj
  ·rename_i e1;cases hj;rw [if_pos e1] at hc;cases hc;exact ⟨V,tl,e,hV,AV.Rs.ext qm hx hR,lH hx⟩
  ·rename_i e1;rw [if_neg e1] at hc;obtain ⟨C,tl2,t2,g1,g2,g3⟩:=H.box j b' c hj hc;exact ⟨C,tl2,t2,g1,qj qm g3 (fun _ _ _ _ _ _ _ _=>⟨rfl,rfl⟩) g2,g3⟩
 ·exact AV.R.pV qm (H.kN k) (fun _ _ _=>⟨rfl,rfl⟩) (H.slot k)
 ·rcases List.mem_append.1 h with h|h
  ·exact (H.own p g' (ho p g' hp)).2 h
  ·rw [List.mem_singleton.1 h] at hp;exact hgo p (ho p g hp)
theorem jU (i:Nat) (x:AV):(fC i x=x∧i ∉ x.ids)∨fC i x=.bad:=by
 unfold fC;split
 ·exact .inr rfl
 ·rename_i h;exact .inl ⟨rfl,fun hm=>by rw [mem_iff.2 hm] at h;cases h⟩
theorem KL (i:Nat) (x:AV):i ∉ (fC i x).ids:=by
 rcases jU i x with ⟨e,h⟩|e
 ·rw [e];exact h
 ·rw [e];simp [AV.ids]
theorem DX (i:Nat):∀(tm:Tm) (k:Nat),get (tm.map fun p=>(p.1,fC i p.2)) k=fC i (get tm k)
 |[],k=>by unfold fC;rfl
 |(j,v)::r,k=>by
  rw [List.map_cons,bH,bH];split
  ·rfl
  ·exact DX i r k
theorem VO (i:Nat):∀{x:List AV} {c:List Value},AV.Rs lim bs w x c->AV.Rs lim bs w (x.map (fC i)) c
 |[],c,h=>h
 |y::x,c,h=>by
  rw [AV.Rs] at h;obtain ⟨v,r,rfl,h1,h2⟩:=h;rw [List.map_cons,AV.Rs];refine ⟨v,r,rfl,?_,VO i h2⟩;rcases jU i y with ⟨e,-⟩|e
  ·rw [e];exact h1
  ·rw [e];exact oV _
theorem aB.kill (H:aB lim bs w σ.bx (Sl σ.tm a) m) (i:Nat):aB lim bs w (kill i σ).bx (Sl (kill i σ).tm a) m∧(∀p g,Own w bs (Ab.kill i σ).bx (Sl (Ab.kill i σ).tm a) p g->Own w bs σ.bx (Sl σ.tm a) p g)∧(∀k,i ∉ (get (Ab.kill i σ).tm k).ids)∧∀(j:Nat) (c:List AV),(Ab.kill i σ).bx[j]?=some c->i ∉ AV.aA c:=by
 have hget:∀k,get (Ab.kill i σ).tm k=fC i (get σ.tm k):=fun k=>DX i σ.tm k;have hbx:∀(j:Nat) (c:List AV),(Ab.kill i σ).bx[j]?=some c->∃c0,σ.bx[j]?=some c0∧c=c0.map (fC i):=by
  intro j c h;have h':(σ.bx.map fun c=>c.map (fC i))[j]?=some c:=h;rw [List.getElem?_map] at h';cases hc:σ.bx[j]? with
  |none=>rw [hc] at h';cases h'
  |some c0=>rw [hc] at h';cases h';exact ⟨c0,rfl,rfl⟩
 have ho:∀p g,Own w bs (Ab.kill i σ).bx (Sl (Ab.kill i σ).tm a) p g->Own w bs σ.bx (Sl σ.tm a) p g:=by
  intro p g hp;cases p with
  |t k=>
   obtain ⟨h1,h2⟩:=hp;have h1':(get (Ab.kill i σ).tm k).isRow=true:=h1;rw [hget] at h1';rcases jU i (get σ.tm k) with ⟨e,-⟩|e
   ·rw [e] at h1';exact ⟨h1',h2⟩
   ·rw [e] at h1';cases h1'
  |b j k=>
   obtain ⟨b',c,y,v,q1,q2,q3,q4,q5,q6⟩:=hp;obtain ⟨c0,h1,rfl⟩:=hbx j c q2;rw [List.getElem?_map] at q3;cases hy:c0[k]? with
   |none=>rw [hy] at q3;cases q3
   |some y0=>
    rw [hy] at q3;simp only [Option.map_some,Option.some.injEq] at q3;subst q3;rcases jU i y0 with ⟨e,-⟩|e
    ·rw [e] at q4;exact ⟨b',c0,y0,v,q1,h1,hy,q4,q5,q6⟩
    ·rw [e] at q4;cases q4
 refine ⟨⟨by rw [H.len];show _=(σ.bx.map _).length;rw [List.length_map],H.BX,H.free,H.mb,fun j b c hj hc=>?_,fun k=>?_,fun k=>?_,H.top,fun p g hp=>H.own p g (ho p g hp),fun p q g hp hq=>H.qO p q g (ho p g hp) (ho q g hq)⟩,ho,fun k=>by rw [hget];exact KL _ _,fun j c hc=>?_⟩
 ·obtain ⟨c0,h1,rfl⟩:=hbx j c hc;obtain ⟨C,tl,t,g1,g2,g3⟩:=H.box j b c0 hj h1;refine ⟨C,tl,t,g1,VO i g2,?_⟩;rw [List.all_map,List.all_eq_true];rw [List.all_eq_true] at g3;intro y hy;show (fC i y).top=true;rcases jU i y with ⟨e,-⟩|e
  ·rw [e];exact g3 y hy
  ·rw [e];rfl
 ·show AV.R lim bs w (get (Ab.kill i σ).tm k) (a.tmps.getD k undef);rw [hget];rcases jU i (get σ.tm k) with ⟨e,-⟩|e
  ·rw [e];exact H.slot k
  ·rw [e];exact oV _
 ·show (get (Ab.kill i σ).tm k).top=true;rw [hget];rcases jU i (get σ.tm k) with ⟨e,-⟩|e
  ·rw [e];exact H.kN k
  ·rw [e];rfl
 ·obtain ⟨c0,h1,rfl⟩:=hbx j c hc;intro hm;obtain ⟨y,hy,hi⟩:=AV.jV.1 hm;obtain ⟨z,-,rfl⟩:=List.mem_map.1 hy;exact KL _ _ hi
structure rW (n0:Nat) (m:Nat->Prop) (lim:Nat->Nat) (bs:List Nat) (w:World) (a:Act) (σ':aF) (lim':Nat->Nat) (bs':List Nat) (w':World) (a':Act):Prop where
 hold:aB lim' bs' w' σ'.bx (Sl σ'.tm a') m
 fr:Fr m lim w lim' w'
 pre:∀(i b:Nat),i<n0->bs[i]?=some b->bs'[i]?=some b
 nt:a'.tmps.size=a.tmps.size
 df:a'.defers=a.defers
abbrev kJ (n0:Nat) (m:Nat->Prop) (lim:Nat->Nat) (bs:List Nat) (w:World) (a:Act) (σ':aF) (K:Act->World->Prop):Prop:=∀lim' bs' w' a',rW n0 m lim bs w a σ' lim' bs' w' a'->K a' w'
theorem N9.B {n0:Nat} {a':Act} (h:N9 m lim bs w a σ' lim' bs' w' a'):rW n0 m lim bs w a σ' lim' bs' w' a':=⟨h.hold,h.fr,fun i b _ hb=>h.pre i b hb,h.nt,h.df⟩
theorem kJ.all {n0:Nat} (h:kJ n0 m lim bs w a σ' K):yA m lim bs w a σ' K:=fun lim' bs' w' a' hg=>h lim' bs' w' a' hg.B
theorem rW.trans {n0:Nat} {eQ:Nat->Nat} {mY:List Nat} {w1:World} {a1 a':Act} (h:rW n0 m lim bs w a σ1 eQ mY w1 a1) (k:rW n0 m eQ mY w1 a1 σ' lim' bs' w' a'):rW n0 m lim bs w a σ' lim' bs' w' a':=
 ⟨k.hold,h.fr.trans k.fr,fun i b hi hb=>k.pre i b hi (h.pre i b hi hb),k.nt.trans h.nt,k.df.trans h.df⟩
theorem Qd {lim:Nat->Nat} {g:Nat} (h:lim g=0):(fun b=>if b=g then 0 else lim b)=lim:=by
 funext b;split
 ·rename_i e;rw [e,h]
 ·rfl
theorem VI (HT:mM P T) (H:aB lim bs w σ.bx (Sl σ.tm a) m) (hm:∀b,w.heap.size<=b->m b) {dd:Nat} (hd:dd<a.tmps.size) (hdst:o.dst=some dd) {c:Call} {t:Nat} {s x:Operand} (ho:o.op=.call c) (Gp:c.callee=.builtin .append) (hargs:c.args=#[s,x]) (SL:c.argTypes=#[t,t])
  {md:Md} (h:E8 T md dd σ s x t=some σ') (hK:kJ md.base m lim bs w a σ' K):o.wp P a w K Q:=by
 unfold E8 at h;split at h
 ·cases h
 rename_i e d ht;split at h
 ·cases h
 rename_i m' k hel;split at h
 case isFalse=>cases h
 rename_i hcond;obtain ⟨km,k2,k3,k4,k5,k7⟩:=hcond;obtain ⟨hu,he⟩:=tY HT ht;obtain ⟨inf,zv,hi,hsz,hby,hz,hzc,hzr⟩:=HT.info e d he;have hs:=(pg H s).1;have hsrc:=(pg H s).2;have hx:=(pg H x).1;obtain ⟨ad,cp,e1,e2,e3,e4⟩:=D5 hx hel;have KQ:∀v w2,(Builtin.append_ #[t,t] o.type #[a.eval s,a.eval x]).run P w=.ok v w2->(execOp a.eval o).run P w=.ok (.value v) w2:=by intro v w2 hr;unfold execOp;simp [ho,resolve,Gp,hargs,SL,invoke,builtin,hr]
 have e4':∃b o',ad=some ⟨b,o',none⟩∧b<w.heap.size∧o'+k.length<=lim b∧AV.Rm lim bs w b o' k:=by
  rcases e4 with e4|e4
  ·subst e4;have:0<m'*d.size:=Nat.mul_pos km k3;simp at k2;omega
  ·exact e4
 obtain ⟨b,o',rfl,f1,f2,f3⟩:=e4';obtain ⟨news,n1,n2,n3⟩:=yf f3;have hput:∀{lim':Nat->Nat} {bs':List Nat} {w2:World} {bx':List (List AV)} {tm':Tm} {i n cap:Nat} {cur:Array Value},aB lim' bs' w2 bx' (Sl tm' a) m->(∃b',bs'[i]?=some b'∧w2.heap[b']?=some (.cells cur e (0,0))∧cur.size=cap*d.size∧n<=cap∧cap<=maxLen∧∀g,g=b'->True)->
   ∀b',bs'[i]?=some b'->w2.heap[b']?=some (.cells cur e (0,0))->cur.size=cap*d.size->n<=cap->cap<=maxLen->aB lim' bs' w2 bx' (Sl (put tm' dd (.dm i e d.size n)) (a.put o.dst (.slice (some ⟨b',0,none⟩) n cap))) m:=by
  intro lim' bs' w2 bx' tm' i n cap cur HH _ b' q1 q2 q3 q4 q5;rw [hdst,vX hd];refine HH.put ?_ rfl (fun g hh=>by cases hh);rw [AV.R];exact ⟨b',cap,cur,q1,q2,q3,q4,q5,rfl⟩
 have hsplit:∀{cur':Array Value} {n:Nat} {L:List Value},cur'.toList.take n=L->cur'.toList=L++cur'.toList.drop n:=by intro cur' n L h;rw [←h,List.take_append_drop]
 split at h
 ·
  rename_i hnil;split at h
  case isFalse=>cases h
  rename_i hle;cases h;have h1:=hs.r;rw [hnil,AV.R] at h1;obtain ⟨g,cap,cur',w2,r1,r2,r3,r4,r5,r6,r7,r8⟩:=GL (P:=P) (w:=w) (ty:=o.type) (b:=b) (o':=o') (c:=cp) (n:=0) (xs:=[]) (u:=a.eval s) hu hi hz hsz hby hzc k3 k4 (by simp) (.inl ⟨h1,rfl⟩) (by rw [n1,k2]) n3 (EF k5 n2) km oM;rcases r8 with ⟨g1,-⟩|⟨g1,g2,g3⟩
  ·rw [h1] at g1;cases g1
  have hr:=KQ _ w2 (by rw [e1];exact r1);obtain ⟨H2,hfr,hown⟩:=H.grow (w':=w2) (g:=g) (n:=0) (by rw [g1];exact fun hb=>Nat.lt_irrefl _ (lU H hb)) (hm _ oM) oM oM r7 (fun k hk _=>g3 k hk) (fun p hp=>by have:=Own.lt H hp;omega) (.inr ⟨g1,g2⟩) (by rw [H.top g oM];omega) (fun j hj=>by omega) (fun cur e p hh=>by have:=dO hh;omega);have hlg:lim g=0:=H.top g oM;rw [Qd hlg] at H2 hfr;have r6':cur'.toList.take (m'*d.size)=news:=by rw [Nat.zero_add] at r6;simpa using r6
  have H3:=H2.push (g:=g) (V:=news) (tl:=cur'.toList.drop (m'*d.size)) (e:=e) (x:=k) (by rw [g1];exact fun hb=>Nat.lt_irrefl _ (lU H hb)) (fun p hp=>by have:=Own.lt H (hown p g hp);omega) (hm _ oM) hlg (by rw [←hsplit r6'];simpa using r2) (AV.Rs.ext (hfr.ext (fun _ _ h=>h)) k7 n2) k7;refine jq hr (hK lim (bs++[g]) w2 _ ⟨?_,hfr,fun i b _ hb=>?_,bY _ _ _,put_defers _ _ _⟩)
  ·show aB lim _ w2 (σ.bx++[k]) (Sl (put σ.tm dd (.dm σ.bx.length e d.size m')) _) m;rw [Nat.zero_add] at r3⊢;have hq:(bs++[g])[σ.bx.length]?=some g:=by rw [di,if_pos H.len.symm]
   exact hput H3 ⟨g,hq,r2,r5,r3,r4,fun _ _=>trivial⟩ g hq r2 r5 r3 r4
  ·rw [di,if_neg (fun e=>by subst e;simp at hb)];exact hb
 ·
  rename_i e' z' hrow;split at h
  case isFalse=>cases h
  rename_i hle;obtain ⟨hle,rfl,rfl⟩:=hle;cases h;have h1:=hs.r;rw [hrow,AV.R] at h1;obtain ⟨-,-,h1⟩:=h1;obtain ⟨ks,rfl,hSk⟩:=hsrc (by rw [hrow];rfl);obtain ⟨HG,hg3,hg4⟩:=yM H (fM (.tmp ks));have hu0:(a.eval (.tmp ks)=.slice none 0 0∧(0:Nat)=0)∨∃g cap cur,a.eval (.tmp ks)=.slice (some ⟨g,0,none⟩) 0 cap∧w.heap[g]?=some (.cells cur e' (0,0))∧0<=cap∧cap<=maxLen∧cur.size=cap*d.size∧cur.toList.take (0*d.size)=([]:List Value):=by
   rcases h1 with h1|⟨g,c',cur,q1,q2,q3,q4,q5,-⟩
   ·exact .inl h1
   ·exact .inr ⟨g,c',cur,q1,q2,q3,q4,q5,by simp⟩
  obtain ⟨g,cap,cur',w2,r1,r2,r3,r4,r5,r6,r7,r8⟩:=GL (P:=P) (w:=w) (ty:=o.type) (b:=b) (o':=o') (c:=cp) (n:=0) (xs:=[]) (u:=a.eval (.tmp ks)) hu hi hz hsz hby hzc k3 k4 (by simp) hu0 (by rw [n1,k2]) n3 (EF k5 n2) km oM;have hr:=KQ _ w2 (by rw [e1];exact r1);have hgm:m g∧g ∉ bs∧(∀p,¬Own w bs σ.bx (Sl (gu σ.tm (fM (.tmp ks))) a) p g)∧lim g=0∧(w2.heap.size<=w.heap.size∨g=w.heap.size∧w2.heap.size=w.heap.size+1)∧w.heap.size<=w2.heap.size∧g<w2.heap.size∧(∀kk,kk<w.heap.size->kk≠g->w2.heap[kk]?=w.heap[kk]?)∧(∀(cur:Array Value) (e:TypeId) (p:Nat×Nat),w.heap[g]?=some (Obj.cells cur e p)->∃cur':Array Value,w2.heap[g]?=some (.cells cur' e p)∧cur'.size=cur.size):=by
   rcases r8 with ⟨g1,g2,g3,WV,s5,s6⟩|⟨g1,g2,g3⟩
   ·have ho1:Own w bs σ.bx (Sl σ.tm a) (.t ks) g:=⟨by show (get σ.tm ks).isRow=true;rw [←hSk,hrow];rfl,g1⟩;refine ⟨(H.own _ _ ho1).1,(H.own _ _ ho1).2,fun p hp=>?_,?_,.inl oM,oM,by have:=Own.lt H ho1;omega,fun kk _ hk=>g3 kk hk,fun cur e p hh=>by rw [s5] at hh;cases hh;exact ⟨cur',r2,s6.symm⟩⟩
    ·have:=H.qO p (.t ks) g (hg3 p g hp) ho1;subst this;exact hg4 ks g (by simp [fM]) hp
    ·rcases h1 with ⟨q1,-⟩|⟨g',c',cur,q1,-,-,-,-,q6,-⟩
     ·rw [q1] at g1;cases g1
     ·rw [q1] at g1;have hgg:g'=g:=by simpa [Value.ownBlock] using g1
      subst hgg;simpa using q6
   ·refine ⟨hm _ oM,by rw [g1];exact fun hb=>Nat.lt_irrefl _ (lU H hb),fun p hp=>?_,H.top g oM,.inr ⟨g1,g2⟩,oM,oM,fun kk hk _=>g3 kk hk,fun cur e p hh=>by have:=dO hh;omega⟩;have:=Own.lt HG hp;omega
  obtain ⟨a1,a2,a3,a4,a5,a6,a7,a9,a10⟩:=hgm;obtain ⟨H2,hfr,hown⟩:=HG.grow (w':=w2) (g:=g) (n:=0) a2 a1 a7 a6 r7 a9 a3 a5 oM (fun j _ hj=>by omega) a10;rw [Qd a4] at H2 hfr;have r6':cur'.toList.take (m'*d.size)=news:=by rw [Nat.zero_add] at r6;simpa using r6
  have H3:=H2.push (g:=g) (V:=news) (tl:=cur'.toList.drop (m'*d.size)) (e:=e') (x:=k) a2 (fun p hp=>a3 p (hown p g hp)) a1 a4 (by rw [←hsplit r6'];simpa using r2) (AV.Rs.ext (hfr.ext (fun _ _ h=>h)) k7 n2) k7;refine jq hr (hK lim (bs++[g]) w2 _ ⟨?_,hfr,fun i b _ hb=>?_,bY _ _ _,put_defers _ _ _⟩)
  ·show aB lim _ w2 (σ.bx++[k]) (Sl (put (gu σ.tm (fM (.tmp ks))) dd (.dm σ.bx.length e' d.size m')) _) m;rw [Nat.zero_add] at r3⊢;have hq:(bs++[g])[σ.bx.length]?=some g:=by rw [di,if_pos H.len.symm]
   exact hput H3 ⟨g,hq,r2,r5,r3,r4,fun _ _=>trivial⟩ g hq r2 r5 r3 r4
  ·rw [di,if_neg (fun e=>by subst e;simp at hb)];exact hb
 ·
  rename_i i e' z' n apK;split at h
  ·cases h
  rename_i c0 hc0;split at h
  case isFalse=>cases h
  rename_i hcond;obtain ⟨j1,rfl,rfl,j4,j5,j6,j7⟩:=hcond;cases h;have h1:=hs.r;rw [apK,AV.R] at h1;obtain ⟨b0,cp0,cur,q1,q2,q3,q4,q5,q6⟩:=h1;obtain ⟨C,tl,tt,g1,g2,g3⟩:=H.box i b0 c0 q1 hc0;rw [q2] at g1;cases g1;have hCl:=AV.gK g2;have hb0:b0 ∈ bs:=List.mem_of_getElem? q1;obtain ⟨HK,hk1,hk2,hk3⟩:=H.kill i;have hni:i ∉ AV.aA (c0++k):=fun h=>by rw [mem_iff.2 h] at j6;cases j6
  have hu0:(a.eval s=.slice none 0 0∧n=0)∨∃g cap cur,a.eval s=.slice (some ⟨g,0,none⟩) n cap∧w.heap[g]?=some (.cells cur e' (0,0))∧n<=cap∧cap<=maxLen∧cur.size=cap*d.size∧cur.toList.take (n*d.size)=C:=
   .inr ⟨b0,cp0,_,q6,q2,q4,q5,q3,by rw [List.toList_toArray,←j5,←hCl];exact List.take_left⟩
  obtain ⟨g,cap,cur',w2,r1,r2,r3,r4,r5,r6,r7,r8⟩:=GL (P:=P) (w:=w) (ty:=o.type) (b:=b) (o':=o') (c:=cp) (n:=n) (xs:=C) (u:=a.eval s) hu hi hz hsz hby hzc k3 k4 (by rw [hCl,j5]) hu0 (by rw [n1,k2]) n3 (EF k5 n2) km j4;have hr:=KQ _ w2 (by rw [e1];exact r1);have hgm:(g=b0∨(g ∉ bs∧∀p,¬Own w bs (kill i σ).bx (Sl (kill i σ).tm a) p g))∧m g∧lim g=0∧w.heap.size<=w2.heap.size∧(∀kk,kk<w.heap.size->kk≠g->w2.heap[kk]?=w.heap[kk]?)∧(∀(cur:Array Value) (e:TypeId) (p:Nat×Nat),w.heap[g]?=some (Obj.cells cur e p)->∃cur':Array Value,w2.heap[g]?=some (.cells cur' e p)∧cur'.size=cur.size):=by
   rcases r8 with ⟨s1,s2,s3,WV,s5,s6⟩|⟨s1,s2,s3⟩
   ·rw [q6] at s1;have hgg:b0=g:=by simpa [Value.ownBlock] using s1
    subst hgg;exact ⟨.inl rfl,H.mb _ hb0,H.free _ hb0,oM,fun kk _ hk=>s3 kk hk,fun cur e p hh=>by rw [s5] at hh;cases hh;exact ⟨cur',r2,s6.symm⟩⟩
   ·refine ⟨.inr ⟨by rw [s1];exact fun hb=>Nat.lt_irrefl _ (lU H hb),fun p hp=>?_⟩,hm _ oM,H.top g oM,oM,fun kk hk _=>s3 kk hk,fun cur e p hh=>by have:=dO hh;omega⟩;have:=Own.lt HK hp;omega
  obtain ⟨a1,a2,a4,a6,a9,a10⟩:=hgm;have hfr:Fr m lim w lim w2:=by
   refine ⟨r7,fun kk hk hmm=>⟨a9 kk hk (fun e=>hmm (e▸a2)),rfl⟩,fun _ _=>Nat.le_refl _,fun kk j hk hj=>?_,fun kk cur e p hk=>?_⟩
   ·by_cases he:kk=g
    ·subst he;rw [a4] at hj;omega
    ·exact World.cell?_of_block (a9 kk hk he)
   ·by_cases he:kk=g
    ·subst he;exact a10 cur e p hk
    ·exact ⟨cur,(a9 kk (dO hk) he).trans hk,rfl⟩
  have hkc:(kill i σ).bx[i]?=some c0:=by
   show (σ.bx.map fun c=>c.map (fC i))[i]?=some c0;rw [List.getElem?_map,hc0];have:c0.map (fC i)=c0:=by
    have hall:∀y ∈ c0,fC i y=y:=by
     intro y hy;rcases jU i y with ⟨e,-⟩|e
     ·exact e
     ·unfold fC;cases hm:mem i y.ids with
      |true=>exact absurd (AV.jV.2 ⟨y,List.mem_append_left _ hy,mem_iff.1 hm⟩) hni
      |false=>rfl
    exact (List.map_congr_left hall).trans (List.map_id _)
   rw [Option.map_some,this]
  have HR:=HK.aiU (w':=w2) (g:=g) (V:=C++news) (tl:=cur'.toList.drop ((n+m')*d.size)) (e:=e') (x:=c0++k) q1 a1 a2 a4 a9 hfr (by rw [←hsplit r6];simpa using r2) (ng g2 n2) (fA j7 k7) hni hk2 (fun j c hc _=>hk3 j c hc);have hil:i<bs.length:=(List.getElem?_eq_some_iff.1 q1).1;refine jq hr (hK lim (bs.set i g) w2 _ ⟨?_,hfr,fun j b' hj hb'=>?_,bY _ _ _,put_defers _ _ _⟩)
  ·have hq:(bs.set i g)[i]?=some g:=by rw [List.getElem?_set,if_pos rfl,if_pos hil]
   exact hput HR ⟨g,hq,r2,r5,r3,r4,fun _ _=>trivial⟩ g hq r2 r5 r3 r4
  ·rw [List.getElem?_set,if_neg oM];exact hb'
 ·cases h
theorem adw:AV.R lim bs w (.bW []) undef:=by rw [AV.R];exact ⟨#[],rfl,by rw [AV.Rs]⟩
theorem V8 {v:Value} {t:Nat} (h:a.tmps.getD t undef=v) (hv:v≠undef):a.tmps[t]?=some v:=by
 rw [Array.getD_eq_getD_getElem?] at h;cases hh:a.tmps[t]? with
 |none=>rw [hh] at h;exact absurd h.symm hv
 |some u=>rw [hh] at h;rw [←h];rfl
theorem JX (H:aB lim bs w σ.bx (Sl σ.tm a) m) {ops:Array Oper} {g:Bool} (h:sU ops.toList o σ=some g):Region.wanted o (yielded ops a.tmps)=g:=by
 unfold sU at h;split at h
 ·rename_i hg;cases h;simp [Region.wanted,hg]
 ·rename_i j want hg;split at h
  ·cases h
  ·rename_i t ht;have ht2:(ops[j]?).bind (·.dst)=some t:=by rw [←ht];congr 1;simp
   have hy:yielded ops a.tmps j=match a.tmps[t]? with|some (.bool b)=>some b|_=>none:=by unfold yielded;rw [ht2];rfl
   split at h
   ·rename_i b hb;have hv:=H.slot t;rw [show (Sl σ.tm a t).1=get σ.tm t from rfl,hb,AV.R] at hv;have hts:=V8 hv (by intro e;cases e);have hyb:yielded ops a.tmps j=some b:=by rw [hy,hts]
    cases h;simp [Region.wanted,hg,hyb]
   ·rename_i hb;cases h;have hv:=H.slot t;rw [show (Sl σ.tm a t).1=get σ.tm t from rfl,hb,AV.R] at hv;obtain ⟨vs,h1,h2⟩:=hv;rw [AV.Rs] at h2;have hyb:yielded ops a.tmps j=none:=by
     rw [hy];have h1':a.tmps.getD t undef=.tuple vs:=h1;rw [Array.getD_eq_getD_getElem?] at h1';cases hh:a.tmps[t]? with
     |none=>rfl
     |some u=>rw [hh] at h1';simp at h1';subst h1';rfl
    simp [Region.wanted,hg,hyb]
   ·cases h
theorem qI (HT:mM P T) (HC:fB P cal) (H:aB lim bs w σ.bx (Sl σ.tm a) m) (hm:∀b,w.heap.size<=b->m b) (hd:∀k,o.dst=some k->k<a.tmps.size) {md:Md} {ops:Array Oper} (h:nK cal T md ops.toList o σ=some σ') (hK:yA m lim bs w a σ' K):
  if Region.wanted o (yielded ops a.tmps)=true then o.wp P a w K Q else K (a.put o.dst undef) w:=by
 unfold nK at h;split at h
 ·cases h
 ·rename_i hg;rw [JX H hg,if_pos rfl];exact PV HT HC H hm hd h hK
 ·rename_i hg;cases h;rw [JX H hg,if_neg (by simp)];refine hK lim bs w _ ⟨?_,Fr.refl,fun _ _ h=>h,bY _ _ _,put_defers _ _ _⟩;show aB lim bs w σ.bx (Sl (eG σ.tm o.dst (.bW [])) (a.put o.dst undef)) m;rw [jh hd];exact H.eG adw rfl (fun k g _ hh=>by cases hh)
theorem QM {c:Call} {x y:Operand} {t:Nat} (h:He c=some (x,y,t)):c.callee=.builtin .append∧c.args=#[x,y]∧c.argTypes=#[t,t]:=by
 unfold He at h;split at h
 ·rename_i b hb;split at h
  ·split at h
   ·rename_i x' y' hx;split at h
    ·rename_i t1 t2 ht;split at h
     ·rename_i e;cases h;subst e;exact ⟨hb,by rw [←Array.toList_inj];exact hx,by rw [←Array.toList_inj];exact ht⟩
     ·cases h
    ·cases h
   ·cases h
  ·cases h
 ·cases h
theorem ED (HT:mM P T) (HC:fB P cal) (H:aB lim bs w σ.bx (Sl σ.tm a) m) (hm:∀b,w.heap.size<=b->m b) (hd:∀k,o.dst=some k->k<a.tmps.size) {md:Md} {ops:Array Oper} (h:yx cal T md ops.toList o σ=some σ') (hK:kJ md.base m lim bs w a σ' K):
  if Region.wanted o (yielded ops a.tmps)=true then o.wp P a w K Q else K (a.put o.dst undef) w:=by
 unfold yx at h;split at h
 ·rename_i c ho;split at h
  ·rename_i x y t hap;split at h
   ·rename_i d hdst;split at h
    ·split at h
     ·rename_i hg;obtain ⟨h1,h2,h3⟩:=QM hap;rw [if_pos (by simp [Region.wanted,hg])];exact VI HT H hm (hd d hdst) hdst ho h1 h2 h3 h hK
     ·cases h
    ·exact qI HT HC H hm hd h hK.all
   ·exact qI HT HC H hm hd h hK.all
  ·exact qI HT HC H hm hd h hK.all
 ·exact qI HT HC H hm hd h hK.all
theorem xP (HT:mM P T) (HC:fB P cal) {ops:Array Oper} {md:Md} (hdst:∀o ∈ ops.toList,∀k,o.dst=some k->k<a.tmps.size):
  ∀(l:List Oper),(∀o ∈ l,o ∈ ops.toList)->∀{lim:Nat->Nat} {bs:List Nat} {w:World} {σ:aF} {a1:Act},a1.tmps.size=a.tmps.size->aB lim bs w σ.bx (Sl σ.tm a1) m->(∀b,w.heap.size<=b->m b)->dJ cal T ops.toList md l σ=some σ'->kJ md.base m lim bs w a1 σ' (Q .normal)->wpList P ops Q l a1 w
 |[],_,lim,bs,w,σ,a1,hs,H,hm,h,hK=>by rw [dJ] at h;cases h;exact wpList_nil (hK lim bs w a1 ⟨H,Fr.refl,fun _ _ _ h=>h,rfl,rfl⟩)
 |o::l,hl,lim,bs,w,σ,a1,hs,H,hm,h,hK=>by
  rw [dJ] at h;split at h
  ·cases h
  ·rename_i σ1 h1;refine wpList_step fun K' hK'=>?_;refine ED HT HC H hm (fun k hk=>by rw [hs];exact hdst o (hl o List.mem_cons_self) k hk) h1 (fun eQ mY w1 a2 hg=>hK' a2 w1 ?_);exact xP HT HC hdst l (fun o ho=>hl o (List.mem_cons_of_mem _ ho)) (hg.nt.trans hs) hg.hold (fun b hb=>hm b (Nat.le_trans hg.fr.bel.size hb)) h (fun jB wR w2 a3 hg2=>hK jB wR w2 a3 (hg.trans hg2))
structure Hm where
 ps:List (Nat×AV)
 ids:List Nat
 cs:List (List AV)
 nw:List (List AV)
def rH (tm:Tm):List (Nat×AV)->Tm
 |[]=>tm
 |(k,v)::r=>rH (put tm k v) r
def Hm.app (E:Hm) (σ:aF):aF:=⟨rH σ.tm E.ps,ak σ.bx E.ids E.cs++E.nw⟩
theorem put_comm:∀(tm:Tm) (i j:Nat) (u v:AV),i≠j->put (put tm i u) j v=put (put tm j v) i u
 |[],i,j,u,v,h=>by
  simp only [put,jy];rcases Nat.lt_or_ge i j with h1|h1
  ·rw [if_pos h1,if_neg oM,if_neg oM]
  ·rw [if_neg oM,if_neg (fun e=>h e.symm),if_pos oM]
 |(k,x)::r,i,j,u,v,h=>by
  have ih:=put_comm r i j u v h;simp only [jy];by_cases a1:k<i<;>by_cases a2:k<j
  ·simp only [a1,a2,if_true,jy];rcases Nat.lt_or_ge i j with h1|h1
   ·rw [if_pos h1,if_neg oM,if_neg h]
   ·rw [if_neg oM,if_neg (fun e=>h e.symm),if_pos oM]
  ·simp only [a1,a2,if_true,if_false,jy];by_cases b2:j=k
   ·subst b2;simp only [if_true,jy,if_neg (show ¬i<j by omega),if_neg (fun e=>h e.symm:¬j=i),if_neg (Nat.lt_irrefl j),if_pos a1]
   ·simp only [b2,if_false,jy,if_neg (show ¬i<j by omega),if_neg (fun e=>h e.symm:¬j=i),if_neg a2,if_pos a1]
  ·simp only [a1,a2,if_true,if_false,jy];by_cases b2:i=k
   ·subst b2;simp only [if_true,jy,if_neg (show ¬j<i by omega),if_neg h,if_neg (Nat.lt_irrefl i),if_pos a2]
   ·simp only [b2,if_false,jy,if_neg (show ¬j<i by omega),if_neg h,if_neg a1,if_pos a2]
  ·simp only [a1,a2,if_false];by_cases b1:i=k
   ·by_cases b2:j=k
    ·omega
    ·simp only [b1,b2,if_true,if_false,jy,if_neg a2,Nat.lt_irrefl]
   ·by_cases b2:j=k
    ·simp only [b1,b2,if_true,if_false,jy,if_neg a1,Nat.lt_irrefl]
    ·simp only [b1,b2,if_false,jy,if_neg a1,if_neg a2,ih]
theorem PG:∀(l:List (Nat×AV)) (tm:Tm) (i:Nat) (u:AV),(∀p ∈ l,p.1≠i)->rH (put tm i u) l=put (rH tm l) i u
 |[],tm,i,u,_=>rfl
 |(k,v)::r,tm,i,u,h=>by rw [rH,rH,put_comm tm i k u v (fun e=>h (k,v) List.mem_cons_self e.symm),PG r _ i u (fun p hp=>h p (List.mem_cons_of_mem _ hp))]
theorem Ai:∀(l l2:List (Nat×AV)) (tm:Tm),(∀p ∈ l,∀q ∈ l2,p.1≠q.1)->rH (rH tm l) l2=rH (rH tm l2) l
 |[],l2,tm,_=>rfl
 |(k,v)::r,l2,tm,h=>by rw [rH,Ai r l2 (put tm k v) (fun p hp=>h p (List.mem_cons_of_mem _ hp)),PG l2 tm k v (fun q hq e=>h (k,v) List.mem_cons_self q hq e.symm),rH]
theorem l7:∀(ids:List Nat) (cs:List (List AV)) (bx:List (List AV)),(ak bx ids cs).length=bx.length
 |[],cs,bx=>by rw [aC]
 |i::r,[],bx=>by unfold ak;rfl
 |i::r,c::cs,bx=>by rw [ak,l7 r cs,List.length_set]
theorem FM:∀(ids:List Nat) (cs:List (List AV)) (bx:List (List AV)) (i:Nat) (c:List AV),i ∉ ids->ak (bx.set i c) ids cs=(ak bx ids cs).set i c
 |[],cs,bx,i,c,_=>by rw [aC,aC]
 |j::r,[],bx,i,c,_=>by unfold ak;rfl
 |j::r,d::cs,bx,i,c,h=>by rw [List.mem_cons,not_or] at h;rw [ak,ak,List.set_comm _ _ h.1,FM r cs _ i c h.2]
theorem xA:∀(ids:List Nat) (cs:List (List AV)) (JJ:List Nat) (cs2:List (List AV)) (bx:List (List AV)),(∀i ∈ ids,i ∉ JJ)->ak (ak bx ids cs) JJ cs2=ak (ak bx JJ cs2) ids cs
 |[],cs,JJ,cs2,bx,_=>by rw [aC,aC]
 |j::r,[],JJ,cs2,bx,_=>by
  have e:∀b:List (List AV),ak b (j::r) []=b:=fun b=>by unfold ak;rfl
  rw [e,e]
 |j::r,d::cs,JJ,cs2,bx,h=>by rw [ak,xA r cs JJ cs2 _ (fun i hi=>h i (List.mem_cons_of_mem _ hi)),FM JJ cs2 bx j d (h j List.mem_cons_self),ak]
theorem uz:∀(ids:List Nat) (cs:List (List AV)) (bx c:List (List AV)),(∀i ∈ ids,i<bx.length)->ak (bx++c) ids cs=ak bx ids cs++c
 |[],cs,bx,c,_=>by rw [aC,aC]
 |j::r,[],bx,c,_=>by unfold ak;rfl
 |j::r,d::cs,bx,c,h=>by rw [ak,ak,List.set_append_left _ _ (h j List.mem_cons_self),uz r cs _ c (fun i hi=>by rw [List.length_set];exact h i (List.mem_cons_of_mem _ hi))]
theorem Hm.comm {E F:Hm} {σ:aF} (hk:∀p ∈ E.ps,∀q ∈ F.ps,p.1≠q.1) (hi:∀i ∈ E.ids,i ∉ F.ids) (hn:E.nw=[]∨F.nw=[]) (hE:∀i ∈ E.ids,i<σ.bx.length) (hF:∀i ∈ F.ids,i<σ.bx.length):F.app (E.app σ)=E.app (F.app σ):=by
 unfold Hm.app;simp only [aF.mk.injEq];refine ⟨Ai _ _ _ hk,?_⟩;rcases hn with h|h
 ·rw [h,List.append_nil,List.append_nil,uz _ _ _ _ (fun i h=>by rw [l7];exact hE i h),xA _ _ _ _ _ hi]
 ·rw [h,List.append_nil,List.append_nil,uz _ _ _ _ (fun i h=>by rw [l7];exact hF i h),xA _ _ _ _ _ hi]
end Ab
namespace AV
mutual
theorem Ku {f g:Nat->Nat}:∀{x:AV},(∀i ∈ ids x,f i=g i)->bP f x=bP g x
 |.ptr i o,h=>by rw [bP,bP,h i (by simp [ids])]
 |.dm i e z n,h=>by rw [bP,bP,h i (by simp [ids])]
 |.bool _,_=>rfl
 |.int _ _,_=>rfl
 |.str _,_=>rfl
 |.nz _,_=>rfl
 |.nil,_=>rfl
 |.ql _,_=>rfl
 |.low _ _ _,_=>rfl
 |.bad,_=>rfl
 |.sl n l,h=>by rw [bP,bP,mg (by simpa [ids] using h)]
 |.row e z n l,h=>by rw [bP,bP,mg (by simpa [ids] using h)]
 |.el l,h=>by rw [bP,bP,mg (by simpa [ids] using h)]
 |.agg l,h=>by rw [bP,bP,mg (by simpa [ids] using h)]
 |.bW l,h=>by rw [bP,bP,mg (by simpa [ids] using h)]
 |.fn k l,h=>by rw [bP,bP,mg (by simpa [ids] using h)]
theorem mg {f g:Nat->Nat}:∀{l:List AV},(∀i ∈ aA l,f i=g i)->aG f l=aG g l
 |[],_=>rfl
 |x::l,h=>by rw [aA] at h;rw [aG,aG,Ku (fun i hi=>h i (List.mem_append_left _ hi)),mg (fun i hi=>h i (List.mem_append_right _ hi))]
end
end AV
namespace Ab
variable {T : kZ} {o : Oper} {cal : BR} {σ σ' σ1 σ2 : aF}
theorem y5 {ρ ρ2:Operand->AV}:∀{l:List (Nat×Operand)},(∀x ∈ l.map (·.2),ρ x=ρ2 x)->uB ρ l=uB ρ2 l
 |[],_=>rfl
 |(i,x)::l,h=>by rw [uB,uB,h x (by simp),y5 (l:=l) (fun y hy=>h y (by rw [List.map_cons];exact List.mem_cons_of_mem _ hy))]
theorem Je {ρ ρ2:Operand->AV} {ad mt:Bool} {L:Nat} {bs:List (List AV)} {ids:List Nat} {ty:Nat} {op:Op} (h:∀x ∈ op.operands.toList,ρ x=ρ2 x):core cal T ad mt L ρ bs ids ty op=core cal T ad mt L ρ2 bs ids ty op:=by
 cases op with
 |call c=>
  obtain ⟨callee,args,tys⟩:=c;cases callee with
  |value f=>
   have h1:ρ f=ρ2 f:=h f (by simp [Op.operands,Call.operands]);have h2:args.toList.map ρ=args.toList.map ρ2:=List.map_congr_left (fun x hx=>h x (by simp [Op.operands,Call.operands];exact .inr (by simpa using hx)));simp only [core,h1,h2]
  |builtin b=>
   have h2:args.toList.map ρ=args.toList.map ρ2:=List.map_congr_left (fun x hx=>h x (by simp [Op.operands,Call.operands];simpa using hx));simp only [core,h2]
  |invoke r n=>rfl
 |build t ps=>simp only [core,y5 (fun x hx=>h x (by simp only [Op.operands,List.toList_toArray];exact hx))]
 |buildSlice t n ps=>simp only [core,y5 (fun x hx=>h x (by simp only [Op.operands,List.toList_toArray];exact hx))]
 |makeFunc fn first cap=>
  have h2:cap.toList.map (fun x=>(ρ x).cO)=cap.toList.map (fun x=>(ρ2 x).cO):=List.map_congr_left (fun x hx=>by rw [h x (by simp [Op.operands];exact .inr (by simpa using hx))]);simp only [core,h2]
 |makeSlice t n c=>simp only [core,h n (by simp [Op.operands]),h c (by simp [Op.operands])]
 |slice t x lo hi mx=>
  have h1:ρ x=ρ2 x:=h x (by simp [Op.operands]);have h2:lo.map ρ=lo.map ρ2:=by
   cases lo with
   |none=>rfl
   |some y=>rw [Option.map_some,Option.map_some,h y (by simp [Op.operands])]
  have h3:hi.map ρ=hi.map ρ2:=by
   cases hi with
   |none=>rfl
   |some y=>rw [Option.map_some,Option.map_some,h y (by simp [Op.operands])]
  simp only [core,h1,h2,h3]
 |move x=>simp only [core,h x (by simp [Op.operands])]
 |assign x=>simp only [core,h x (by simp [Op.operands])]
 |pick c x y=>simp only [core,h c (by simp [Op.operands]),h x (by simp [Op.operands]),h y (by simp [Op.operands])]
 |box t x=>simp only [core,h x (by simp [Op.operands])]
 |load t x=>simp only [core,h x (by simp [Op.operands])]
 |store t p x=>simp only [core,h p (by simp [Op.operands]),h x (by simp [Op.operands])]
 |nilCheck x=>simp only [core,h x (by simp [Op.operands])]
 |binOp op t x y t'=>simp only [core,h x (by simp [Op.operands]),h y (by simp [Op.operands])]
 |unOp op t x=>simp only [core,h x (by simp [Op.operands])]
 |convert s t x=>simp only [core,h x (by simp [Op.operands])]
 |fieldAddr t x f=>simp only [core,h x (by simp [Op.operands])]
 |field t x f=>simp only [core,h x (by simp [Op.operands])]
 |indexAddr t x i=>simp only [core,h x (by simp [Op.operands]),h i (by simp [Op.operands])]
 |index t x i=>simp only [core,h x (by simp [Op.operands]),h i (by simp [Op.operands])]
 |extract x i=>simp only [core,h x (by simp [Op.operands])]
 |_=>rfl
theorem Ey:∀(n:Nat) (bx:List (List AV)) (todo seen:List Nat),∀i ∈ seen,i ∈ reach n bx todo seen
 |0,_,_,seen,i,h=>h
 |n+1,bx,[],seen,i,h=>h
 |n+1,bx,j::r,seen,i,h=>by
  rw [reach];split
  ·exact Ey n bx r seen i h
  ·exact Ey n bx _ _ i (List.mem_append_left _ h)
theorem Nq {l l2:List (List AV)} {i:Nat} (h:l[i]?=l2[i]?):l.getD i []=l2.getD i []:=by rw [List.getD_eq_getElem?_getD,List.getD_eq_getElem?_getD,h]
theorem yZ:∀(n:Nat) (bx uU:List (List AV)) (todo seen:List Nat),(∀i ∈ reach n bx todo seen,bx[i]?=uU[i]?)->reach n bx todo seen=reach n uU todo seen
 |0,_,_,_,_,_=>rfl
 |n+1,bx,uU,[],seen,h=>rfl
 |n+1,bx,uU,j::r,seen,h=>by
  rw [reach] at h;rw [reach,reach];split
  ·rename_i hm;rw [hm] at h;exact yZ n bx uU r seen h
  ·rename_i hm;rw [hm] at h;simp only [] at h;have hj:=h j (Ey _ _ _ _ j (List.mem_append_right _ (by simp)));rw [←Nq hj];exact yZ n bx uU _ _ h
theorem OC {ρ ρ2:Operand->AV} {bx uU:List (List AV)} {op:Op} (h:∀x ∈ op.operands.toList,ρ x=ρ2 x) (hb:(∃t x,op=.load t x)∨∀i ∈ eH ρ bx op,bx[i]?=uU[i]?):eH ρ bx op=eH ρ2 uU op:=by
 cases op with
 |load t x=>simp only [eH,h x (by simp [Op.operands])]
 |store t p x=>simp only [eH,h p (by simp [Op.operands])]
 |call c=>
  obtain ⟨callee,args,tys⟩:=c;cases callee with
  |value f=>
   have h1:ρ f=ρ2 f:=h f (by simp [Op.operands,Call.operands]);have h2:args.toList.map ρ=args.toList.map ρ2:=List.map_congr_left (fun x hx=>h x (by simp [Op.operands,Call.operands];exact .inr (by simpa using hx)));rcases hb with ⟨t,x,e⟩|hb
   ·cases e
   ·simp only [eH] at hb⊢;rw [←h1,←h2];exact yZ _ _ _ _ _ hb
  |_=>rfl
 |_=>rfl
theorem WM {ad:Bool} {op:Op}:(kS ad op=[]∨∃t,kS ad op=[t]∧.tmp t ∈ op.operands.toList):=by
 have ht:∀x:Operand,fM x=[]∨∃t,fM x=[t]∧x=.tmp t:=fun x=>by
  cases x<;>first|exact .inl rfl|exact .inr ⟨_,rfl,rfl⟩
 cases op with
 |move x=>
  cases ad with
  |false=>exact .inl rfl
  |true=>
   rcases ht x with e|⟨t,e,rfl⟩
   ·exact .inl e
   ·exact .inr ⟨t,e,by simp [Op.operands]⟩
 |assign x=>
  rcases ht x with e|⟨t,e,rfl⟩
  ·exact .inl e
  ·exact .inr ⟨t,e,by simp [Op.operands]⟩
 |store t p x=>
  rcases ht x with e|⟨t,e,rfl⟩
  ·exact .inl e
  ·exact .inr ⟨t,e,by simp [Op.operands]⟩
 |call c=>
  obtain ⟨callee,args,tys⟩:=c;cases callee with
  |builtin b=>
   cases b<;>first|exact .inl rfl|skip
   show GY args.toList=[]∨∃t,GY args.toList=[t]∧_;cases hh:args.toList with
   |nil=>exact .inl rfl
   |cons x r=>
    rcases ht x with e|⟨t,e,rfl⟩
    ·exact .inl e
    ·have hm:Operand.tmp t ∈ args.toList:=by rw [hh];exact List.mem_cons_self
     exact .inr ⟨t,e,by simp [Op.operands,Call.operands];simpa using hm⟩
  |_=>exact .inl rfl
 |_=>exact .inl rfl
theorem xY:∀{ids:List Nat} {bx cs:List (List AV)},bD bx ids=some cs->ak bx ids cs=bx
 |[],bx,cs,h=>aC bx cs
 |i::r,bx,cs,h=>by
  rw [bD] at h;split at h
  ·rename_i c cs' hc hcs;cases h;rw [ak,uy hc,xY hcs]
  ·cases h
theorem Gf:∀{ids:List Nat} {bx uU:List (List AV)},(∀i ∈ ids,bx[i]?=uU[i]?)->bD bx ids=bD uU ids
 |[],bx,uU,_=>rfl
 |i::r,bx,uU,h=>by rw [bD,bD,h i List.mem_cons_self,Gf (fun j hj=>h j (List.mem_cons_of_mem _ hj))]
structure Alike (T:kZ) (ad:List Nat) (all:List Oper) (o:Oper) (σ σ2:aF):Prop where
 tm:∀t ∈ Gn all o,get σ.tm t=get σ2.tm t
 bx:(∃i c0 n c c2,AZ T ad all o σ=some (i,c0,n)∧σ.bx[i]?=some c∧σ2.bx[i]?=some c2∧c.length=c2.length∧(c.drop c0).take n=(c2.drop c0).take n)∨∀i ∈ dW all o σ,σ.bx[i]?=σ2.bx[i]?
theorem val_congr {all:List Oper} (h:∀t ∈ Gn all o,get σ.tm t=get σ2.tm t):∀x ∈ o.op.operands.toList,val σ.tm x=val σ2.tm x:=by
 intro x hx;cases x with
 |tmp t=>
  refine h t (List.mem_append_left _ ?_);unfold tmpsOf;rw [List.mem_filterMap];exact ⟨_,hx,rfl⟩
 |_=>rfl
theorem acW {ρ:Operand->AV} {ad mt:Bool} {L:Nat} {bs:List (List AV)} {ids:List Nat} {ty:Nat} {t:TypeId} {x:Operand} {out:Out} (h:core cal T ad mt L ρ bs ids ty (.load t x)=some out) (ha:ad=false):out.bs=bs∧out.nw=[]:=by
 subst ha;simp only [core] at h;obtain ⟨d,-,h⟩:=gU h;unfold rV at h;split at h
 ·split at h
  ·split at h
   ·have:=dS h;subst this;exact ⟨rfl,rfl⟩
   ·split at h
    ·cases h;exact ⟨rfl,rfl⟩
    ·cases h
  ·cases h
 ·split at h
  ·have:=dS h;subst this;exact ⟨rfl,rfl⟩
  ·split at h
   ·have:=kK h;subst this;exact ⟨rfl,rfl⟩
   ·cases h
 ·cases h
theorem Uk {ids:List Nat} {L L2 j:Nat} (h:j<ids.length):jr ids L j=jr ids L2 j:=by unfold jr;rw [List.getElem?_eq_getElem h]
theorem Lr {n:Nat} {l:List Nat}:below n l=true↔∀i ∈ l,i<n:=by
 unfold below;rw [List.all_eq_true];constructor
 ·intro h i hi;have:=h i hi;simpa using this
 ·intro h i hi;simpa using h i hi
theorem acV {ρ:Operand->AV} {ad mt:Bool} {L L2:Nat} {bs:List (List AV)} {ids:List Nat} {ty:Nat} {op:Op} {out:Out} (h:core cal T ad mt L ρ bs ids ty op=some out) (hok:out.ok=true) (hn:out.nw=[]):core cal T ad mt L2 ρ bs ids ty op=some out:=by
 cases op with
 |alloc t=>
  simp only [core] at h;obtain ⟨d,-,h⟩:=gU h;cases h;cases hn
 |box t x=>
  simp only [core] at h;cases h;cases hn
 |buildSlice t n ps=>
  simp only [core] at h⊢;obtain ⟨q,hq,h⟩:=gU h;rw [hq];show gy mt L2 q.1 q.2 n _ bs=some out;unfold gy at h⊢;split at h
  ·cases h
  ·rename_i l hl;cases h;cases mt with
   |true=>cases hn
   |false=>rfl
 |call c=>
  obtain ⟨callee,args,tys⟩:=c;cases callee with
  |value f=>
   simp only [core] at h⊢;unfold Lp at h⊢;split at h
   ·rename_i g cap;split at h
    ·rename_i hc;simp only [if_pos hc];split at h
     ·rename_i v bs' Gp;cases h;simp only [Bool.and_eq_true,decide_eq_true_eq] at hok;obtain ⟨h1,h2,h3⟩:=hok;have hd:bs'.drop ids.length=[]:=by have hn':(bs'.drop ids.length).map (AV.aG (jr ids L))=[]:=hn;simpa using hn'
      have hl:bs'.length=ids.length:=by have:=congrArg List.length hd;simp at this;omega
      rw [Lr] at h2;rw [List.all_eq_true] at h3;have e1:v.bP (jr ids L2)=v.bP (jr ids L):=AV.Ku fun i hi=>Uk (by rw [←hl];exact h2 i hi);have e2:(bs'.take ids.length).map (AV.aG (jr ids L2))=(bs'.take ids.length).map (AV.aG (jr ids L)):=List.map_congr_left fun c hc=>AV.mg fun i hi=>Uk (by rw [←hl];exact Lr.1 (h3 c (List.mem_of_mem_take hc)) i hi);simp only [Gp,e1,e2,hd,List.map_nil]
     ·cases h
    ·cases h
   ·cases h
  |builtin b=>exact h
  |invoke r n=>exact h
 |_=>exact h
theorem Z9 {ids:List Nat} {bx cs:List (List AV)} (h:bD bx ids=some cs):∀i ∈ ids,i<bx.length:=by
 induction ids generalizing cs with
 |nil=>intro i hi;cases hi
 |cons j r ih=>
  rw [bD] at h;split at h
  ·rename_i c cs' hc hcs;intro i hi;rcases List.mem_cons.1 hi with e|e
   ·subst e;rcases Nat.lt_or_ge i bx.length with h'|h'
    ·exact h'
    ·rw [List.getElem?_eq_none h'] at hc;cases hc
   ·exact ih hcs i e
  ·cases h
def SY (tm:Tm):List Nat->List (Nat×AV)
 |[t]=>match get tm t with
  |.row _ _ n l=>[(t,.sl n l)]
  |_=>[]
 |_=>[]
theorem EO {tm:Tm} {l:List Nat} (h:l=[]∨∃t,l=[t]):gu tm l=rH tm (SY tm l):=by
 rcases h with rfl|⟨t,rfl⟩
 ·rfl
 ·rw [gu];cases hh:get tm t<;>simp only [SY,hh,rH,gu]
def I8 (d:Option Nat) (v:AV):List (Nat×AV):=
 match d with
 |some k=>[(k,v)]
 |none=>[]
theorem mW (tm:Tm) (d:Option Nat) (v:AV):eG tm d v=rH tm (I8 d v):=by cases d<;>rfl
theorem vC:∀(a b:List (Nat×AV)) (tm:Tm),rH tm (a++b)=rH (rH tm a) b
 |[],b,tm=>rfl
 |(k,v)::r,b,tm=>by rw [List.cons_append,rH,rH,vC r b]
theorem ug (E:Hm) (σ:aF):(E.app σ).bx.length=σ.bx.length+E.nw.length:=by unfold Hm.app;simp only [List.length_append,l7]
theorem afE {md:Md} {all:List Oper} (h:VM cal T md o σ=some σ') (hgo:sU all o σ=some true):∃E:Hm,σ'=E.app σ∧(∀p ∈ E.ps,p.1 ∈ Ot md.ad o)∧(∀i ∈ E.ids,i ∈ eH (val σ.tm) σ.bx o.op∧lI md.ad o=true)∧(∀i ∈ eH (val σ.tm) σ.bx o.op,i<σ.bx.length)∧(lI md.ad o=false->E.nw=[])∧
  ∀σ2,Alike T md.ad all o σ σ2->(E.nw≠[]->σ.bx.length=σ2.bx.length)->VM cal T md o σ2=some (E.app σ2)∧eH (val σ2.tm) σ2.bx o.op=eH (val σ.tm) σ.bx o.op:=by
 unfold VM Bc at h;split at h
 ·cases h
 rename_i cs hcs;split at h
 ·cases h
 rename_i out hcore;have hok:out.ok=true:=by
  by_cases hh:out.ok=true
  ·exact hh
  ·rw [if_neg hh] at h;cases h
 rw [if_pos hok] at h;cases h;have htg:dW all o σ=eH (val σ.tm) σ.bx o.op:=by unfold dW;rw [hgo]
 have hgl:=WM (ad:=jb md.ad o.dst) (op:=o.op);have acy:kS (jb md.ad o.dst) o.op=[]∨∃t,kS (jb md.ad o.dst) o.op=[t]:=by
  rcases hgl with e|⟨t,e,-⟩
  ·exact .inl e
  ·exact .inr ⟨t,e⟩
 have hbx:lI md.ad o=false->out.bs=cs∧out.nw=[]:=by
  intro hw;unfold lI at hw;split at hw
  ·rename_i t x ho;rw [ho] at hcore;exact acW hcore hw
  ·cases hw
 have hset:∀{uU cs2:List (List AV)},bD uU (eH (val σ.tm) σ.bx o.op)=some cs2->(cs2=cs∨lI md.ad o=false)->ak uU (if lI md.ad o=true then eH (val σ.tm) σ.bx o.op else []) out.bs=ak uU (eH (val σ.tm) σ.bx o.op) (if lI md.ad o=true then out.bs else cs2):=by
  intro uU cs2 h2 h3;cases hw:lI md.ad o with
  |true=>rfl
  |false=>
   simp only [Bool.false_eq_true,if_false];rw [xY h2];exact aC _ _
 refine ⟨⟨SY σ.tm (kS (jb md.ad o.dst) o.op)++I8 o.dst out.v,if lI md.ad o=true then eH (val σ.tm) σ.bx o.op else [],out.bs,out.nw⟩,?_,?_,?_,Z9 hcs,fun hw=>(hbx hw).2,?_⟩
 ·unfold fin Hm.app;simp only [vC,←EO acy,←mW];rw [hset hcs (.inl rfl)];cases hw:lI md.ad o with
  |true=>rfl
  |false=>rw [(hbx hw).1];rfl
 ·intro p hp;rcases List.mem_append.1 hp with hp|hp
  ·refine List.mem_append_right _ ?_;rcases acy with e|⟨t,e⟩
   ·rw [e] at hp;cases hp
   ·rw [e] at hp⊢;unfold SY at hp;simp only [] at hp;split at hp
    ·rw [List.mem_singleton.1 hp];simp
    ·cases hp
  ·refine List.mem_append_left _ ?_;unfold I8 at hp;cases hd:o.dst with
   |none=>rw [hd] at hp;cases hp
   |some k=>rw [hd] at hp;rw [List.mem_singleton.1 hp];simp
 ·intro i hi;cases hw:lI md.ad o with
  |true=>rw [hw,if_pos rfl] at hi;exact ⟨hi,rfl⟩
  |false=>rw [hw,if_neg (by simp)] at hi;cases hi
 ·intro σ2 hA hal;have hv:=val_congr hA.tm;have hgv:SY σ.tm (kS (jb md.ad o.dst) o.op)=SY σ2.tm (kS (jb md.ad o.dst) o.op):=by
   rcases hgl with e|⟨t,e,hm⟩
   ·rw [e];rfl
   ·rw [e];have:=hv _ hm;have h2:get σ.tm t=get σ2.tm t:=this;unfold SY;simp only [h2]
  rcases hA.bx with ⟨i,c0,n,c,c2,hld,q1,q2,q3,q4⟩|hb
  ·
   unfold AZ at hld;rw [hgo] at hld;simp only [] at hld;split at hld
   case h_2=>cases hld
   rename_i t x ho;split at hld
   ·cases hld
   rename_i had;split at hld
   case h_2=>cases hld
   rename_i i' c' hval;split at hld
   case h_2=>cases hld
   rename_i d hT;cases hld;have aeg:val σ2.tm x=.ptr i c0:=by rw [←hv x (by rw [ho];simp [Op.operands]),hval]
   have ht1:eH (val σ.tm) σ.bx o.op=[i]:=by rw [ho];show uS (val σ.tm x)=[i];rw [hval];rfl
   have ht2:eH (val σ2.tm) σ2.bx o.op=[i]:=by rw [ho];show uS (val σ2.tm x)=[i];rw [aeg];rfl
   have hcs2:bD σ2.bx [i]=some [c2]:=by simp [bD,q2]
   have hcs1:cs=[c]:=by rw [ht1] at hcs;simp [bD,q1] at hcs;exact hcs.symm
   subst hcs1;have hw:lI md.ad o=false:=by unfold lI;rw [ho];exact had
   obtain ⟨b1,b2⟩:=hbx hw;refine ⟨?_,by rw [ht2,ht1]⟩;have SV:core cal T (jb md.ad o.dst) (jb md.arr o.dst) σ2.bx.length (val σ2.tm) [c2] [i] o.type o.op=some ⟨out.v,[c2],[],out.ok⟩:=by
    rw [ho] at hcore⊢;simp only [core,hT,fK] at hcore⊢;rw [hval] at hcore;rw [aeg];rw [had] at hcore⊢;unfold rV at hcore⊢;simp only [] at hcore⊢;split at hcore
    ·rename_i ha;rw [if_pos ha];have:=dS hcore;rw [if_pos ha] at q4;rw [this];unfold gQ;simp only [q4,q3]
    ·rename_i ha;rw [if_neg ha];rw [if_neg ha] at q4;have hcc:c[c0]?=c2[c0]?:=by have h1:=congrArg (·[0]?) q4;simp only [List.getElem?_take,List.getElem?_drop] at h1;simpa using h1
     rw [←hcc];split at hcore
     ·rename_i v hvv;cases hcore;simp
     ·cases hcore
   unfold VM Bc;rw [ht2,hcs2];simp only [SV,hok,if_true];congr 1;unfold fin Hm.app;simp only [vC,hgv,←EO acy,←mW];rw [hw,b2];simp only [Bool.false_eq_true,if_false,aC,vg,uy q2]
  ·rw [htg] at hb;have ht:eH (val σ2.tm) σ2.bx o.op=eH (val σ.tm) σ.bx o.op:=(OC hv (.inr hb)).symm;refine ⟨?_,ht⟩;have hcs2:bD σ2.bx (eH (val σ.tm) σ.bx o.op)=some cs:=by rw [←hcs];exact (Gf hb).symm
   have SV:core cal T (jb md.ad o.dst) (jb md.arr o.dst) σ2.bx.length (val σ2.tm) cs (eH (val σ.tm) σ.bx o.op) o.type o.op=some out:=by
    by_cases hnw:out.nw=[]
    ·refine acV (L:=σ.bx.length) ?_ hok hnw;rw [←hcore];exact (Je hv).symm
    ·rw [←hal hnw,←hcore];exact (Je hv).symm
   unfold VM Bc;rw [ht,hcs2];simp only [SV,hok,if_true];congr 1;unfold fin Hm.app;simp only [vC,hgv,←EO acy,←mW];rw [hset hcs2 (.inl rfl)];cases hw:lI md.ad o with
   |true=>rfl
   |false=>rw [(hbx hw).1];rfl
theorem zH {all:List Oper} (h:∀t ∈ Gn all o,get σ.tm t=get σ2.tm t):sU all o σ2=sU all o σ:=by
 unfold sU;split
 ·rfl
 ·rename_i j want hg;split
  ·rfl
  ·rename_i t ht;have:get σ.tm t=get σ2.tm t:=by refine h t ?_;unfold Gn;rw [hg];refine List.mem_append_right _ ?_;simp only [ht];simp
   rw [this]
theorem GU {md:Md} {all:List Oper} (h:nK cal T md all o σ=some σ'):∃E:Hm,σ'=E.app σ∧(∀p ∈ E.ps,p.1 ∈ Ot md.ad o)∧(∀i ∈ E.ids,i ∈ dW all o σ∧lI md.ad o=true)∧(∀i ∈ dW all o σ,i<σ.bx.length)∧(lI md.ad o=false->E.nw=[])∧
  ∀σ2,Alike T md.ad all o σ σ2->(E.nw≠[]->σ.bx.length=σ2.bx.length)->nK cal T md all o σ2=some (E.app σ2)∧dW all o σ2=dW all o σ:=by
 unfold nK at h;split at h
 ·cases h
 ·rename_i hg;obtain ⟨E,e1,e2,e3,e4,e5,e6⟩:=afE h hg;have htg:dW all o σ=eH (val σ.tm) σ.bx o.op:=by unfold dW;rw [hg]
  refine ⟨E,e1,e2,by rw [htg];exact e3,by rw [htg];exact e4,e5,fun σ2 hA hal=>?_⟩;have hg2:=(zH hA.tm).trans hg;unfold nK dW;rw [hg2,hg];exact e6 σ2 hA hal
 ·rename_i hg;cases h;have htg:dW all o σ=[]:=by unfold dW;rw [hg]
  refine ⟨⟨I8 o.dst (.bW []),[],[],[]⟩,?_,?_,(fun i hi=>by cases hi),(fun i hi=>by rw [htg] at hi;cases hi),fun _=>rfl,fun σ2 hA hal=>?_⟩
  ·unfold Ii Hm.app;simp only [mW,aC,List.append_nil]
  ·intro p hp;refine List.mem_append_left _ ?_;unfold I8 at hp;cases hd:o.dst with
   |none=>rw [hd] at hp;cases hp
   |some k=>rw [hd] at hp;rw [List.mem_singleton.1 hp];simp
  ·have hg2:=(zH hA.tm).trans hg;unfold nK dW;rw [hg2,hg];unfold Ii Hm.app;simp only [mW,aC,List.append_nil];exact ⟨trivial,trivial⟩
theorem Be:∀(ids:List Nat) (cs:List (List AV)) {bx uU:List (List AV)} {j:Nat},bx[j]?=uU[j]?->(ak bx ids cs)[j]?=(ak uU ids cs)[j]?
 |[],cs,bx,uU,j,h=>by rw [aC,aC];exact h
 |i::r,[],bx,uU,j,h=>by unfold ak;exact h
 |i::r,c::cs,bx,uU,j,h=>by
  rw [ak,ak];refine Be r cs ?_;have hl:j<bx.length↔j<uU.length:=by
   constructor
   ·intro hj;rw [List.getElem?_eq_getElem hj] at h;exact (List.getElem?_eq_some_iff.1 h.symm).1
   ·intro hj;rw [List.getElem?_eq_getElem hj] at h;exact (List.getElem?_eq_some_iff.1 h).1
  rw [List.getElem?_set,List.getElem?_set];split
  ·rename_i e;subst e;by_cases hj:i<bx.length
   ·rw [if_pos hj,if_pos (hl.1 hj)]
   ·rw [if_neg hj,if_neg (fun hh=>hj (hl.2 hh))]
  ·exact h
theorem Ji {σ σ' τ τ':aF}:∀{ids:List Nat},(∀i ∈ ids,σ.bx[i]?=τ.bx[i]?)->(∀i ∈ ids,σ'.bx[i]?=τ'.bx[i]?)->EY σ σ' ids=EY τ τ' ids
 |[],_,_=>rfl
 |i::r,h1,h2=>by rw [EY,EY,Nq (h1 i List.mem_cons_self),Nq (h2 i List.mem_cons_self),Ji (ids:=r) (fun j hj=>h1 j (List.mem_cons_of_mem _ hj)) (fun j hj=>h2 j (List.mem_cons_of_mem _ hj))]
theorem Ak (n m:Nat) (h:m<=n):news n m=[]:=by unfold news;rw [show m-n=0 by omega];rfl
theorem x8 {md:Md} {all:List Oper} {E:Hm} {k:Nat} (h1:∀i ∈ dW all o σ,i<σ.bx.length) (hA:Alike T md.ad all o σ σ2) (hal:E.nw≠[]->σ.bx.length=σ2.bx.length) (ht:dW all o σ2=dW all o σ):jH T md.ad all k o σ2 (E.app σ2)=jH T md.ad all k o σ (E.app σ):=by
 have hlen:news σ2.bx.length (E.app σ2).bx.length=news σ.bx.length (E.app σ).bx.length:=by
  rw [ug,ug];by_cases hn:E.nw=[]
  ·rw [hn,Ak _ _ (by simp),Ak _ _ (by simp)]
  ·rw [hal hn]
 have hle:Nat.ble (E.app σ2).bx.length σ2.bx.length=Nat.ble (E.app σ).bx.length σ.bx.length:=by
  rw [ug,ug];have:∀n k:Nat,Nat.ble (n+k) n=decide (k=0):=by
   intro n k;cases hb:Nat.ble (n+k) n with
   |true=>have:=Nat.le_of_ble_eq_true hb;symm;simp;omega
   |false=>
    symm;simp only [decide_eq_false_iff_not];intro e;subst e;rw [Nat.add_zero] at hb;have:=Nat.ble_eq_true_of_le (Nat.le_refl n);rw [hb] at this;cases this
  rw [this,this]
 have hgo:=zH hA.tm;have hv:=val_congr hA.tm;have hld:AZ T md.ad all o σ2=AZ T md.ad all o σ:=by
  unfold AZ;rw [hgo];split
  ·split
   ·rename_i t x ho;rw [hv x (by rw [ho];simp [Op.operands])]
   ·rfl
  ·rfl
 unfold jH;rw [ht,hlen,hle,hld];congr 1;cases hw:lI md.ad o with
 |false=>rfl
 |true=>
  simp only [if_true];have hb:∀i ∈ dW all o σ,σ.bx[i]?=σ2.bx[i]?:=by
   rcases hA.bx with ⟨i,c0,n,c,c2,hl,-⟩|hb
   ·exfalso;unfold AZ at hl;split at hl
    ·split at hl
     ·rename_i t x ho;split at hl
      ·cases hl
      ·rename_i had;unfold lI at hw;rw [ho] at hw;rw [had] at hw;cases hw
     ·cases hl
    ·cases hl
   ·exact hb
  refine Ji (fun i hi=>(hb i hi).symm) (fun i hi=>?_);unfold Hm.app;have hi1:=h1 i hi;have hi2:i<σ2.bx.length:=by have:=hb i hi;rw [List.getElem?_eq_getElem hi1] at this;exact (List.getElem?_eq_some_iff.1 this.symm).1
  simp only [];rw [List.getElem?_append_left (by rw [l7];exact hi2),List.getElem?_append_left (by rw [l7];exact hi1)];exact Be _ _ (hb i hi).symm
end Ab
namespace Ab
variable {T : kZ} {o : Oper} {cal : BR} {σ σ' σ1 σ2 : aF} {P : Program}
mutual
theorem beq_eq:∀{x y:AV},beq x y=true->x=y
 |.bool a,y,h=>by cases y<;>simp [beq] at h;rw [h]
 |.int k a,y,h=>by cases y<;>simp [beq] at h;rw [h.1,h.2]
 |.str a,y,h=>by cases y<;>simp [beq] at h;rw [h]
 |.ptr i o,y,h=>by cases y<;>simp [beq] at h;rw [h.1,h.2]
 |.nil,y,h=>by cases y<;>simp [beq] at h;rfl
 |.sl n l,y,h=>by cases y<;>simp [beq] at h;rw [h.1,uf h.2]
 |.row e z n l,y,h=>by cases y<;>simp [beq] at h;rw [h.1.1.1,h.1.1.2,h.1.2,uf h.2]
 |.el l,y,h=>by cases y<;>simp [beq] at h;rw [uf h]
 |.agg l,y,h=>by cases y<;>simp [beq] at h;rw [uf h]
 |.bW l,y,h=>by cases y<;>simp [beq] at h;rw [uf h]
 |.fn f l,y,h=>by cases y<;>simp [beq] at h;rw [h.1,uf h.2]
 |.nz k,y,h=>by cases y<;>simp [beq] at h;rw [h]
 |.ql k,y,h=>by cases y<;>simp [beq] at h;rw [h]
 |.low k d m,y,h=>by cases y<;>simp [beq] at h;rw [h.1.1,h.1.2,h.2]
 |.dm i e z n,y,h=>by cases y<;>simp [beq] at h;rw [h.1.1.1,h.1.1.2,h.1.2,h.2]
 |.bad,y,h=>by cases y<;>simp [beq] at h;rfl
theorem uf:∀{x y:List AV},BO x y=true->x=y
 |[],[],_=>rfl
 |[],_::_,h=>by simp [BO] at h
 |_::_,[],h=>by simp [BO] at h
 |x::l,y::r,h=>by rw [BO,Bool.and_eq_true] at h;rw [beq_eq h.1,uf h.2]
end
theorem VG:∀{x y:List (List AV)},Xg x y=true->x=y
 |[],[],_=>rfl
 |[],_::_,h=>by simp [Xg] at h
 |_::_,[],h=>by simp [Xg] at h
 |x::l,y::r,h=>by rw [Xg,Bool.and_eq_true] at h;rw [uf h.1,VG h.2]
theorem VF:∀{x y:Tm},Xf x y=true->x=y
 |[],[],_=>rfl
 |[],_::_,h=>by simp [Xf] at h
 |_::_,[],h=>by simp [Xf] at h
 |(k,x)::l,(j,y)::r,h=>by rw [Xf,Bool.and_eq_true,Bool.and_eq_true] at h;rw [Nat.eq_of_beq_eq_true h.1.1,beq_eq h.1.2,VF h.2]
theorem aaC {a b:aF} (h:aaD a b=true):a=b:=by unfold aaD at h;rw [Bool.and_eq_true] at h;cases a;cases b;rw [aF.mk.injEq];exact ⟨VF h.1,VG h.2⟩
theorem iw {a b:List Nat} (h:meets a b=false):∀x ∈ a,x ∉ b:=by intro x hx hb;unfold meets at h;rw [List.any_eq_false] at h;exact h x hx (mem_iff.2 hb)
theorem zI:∀(l:List (Nat×AV)) (tm:Tm) (t:Nat),(∀p ∈ l,p.1≠t)->get (rH tm l) t=get tm t
 |[],tm,t,_=>rfl
 |(k,v)::r,tm,t,h=>by rw [rH,zI r _ t (fun p hp=>h p (List.mem_cons_of_mem _ hp)),ah,if_neg (fun e=>h (k,v) List.mem_cons_self e.symm)]
theorem Bd:∀(ids:List Nat) (cs bx:List (List AV)) (i:Nat),i ∉ ids->(ak bx ids cs)[i]?=bx[i]?
 |[],cs,bx,i,_=>by rw [aC]
 |j::r,[],bx,i,_=>by unfold ak;rfl
 |j::r,c::cs,bx,i,h=>by rw [List.mem_cons,not_or] at h;rw [ak,Bd r cs _ i h.2,List.getElem?_set,if_neg (fun e=>h.1 e.symm)]
theorem TM (E:Hm) (σ:aF) (i:Nat) (hi:i ∉ E.ids) (hl:i<σ.bx.length):(E.app σ).bx[i]?=σ.bx[i]?:=by unfold Hm.app;simp only [];rw [List.getElem?_append_left (by rw [l7];exact hl)];exact Bd _ _ _ _ hi
theorem BP {σ σ':aF} {i:Nat} {c c':List AV}:∀{ids:List Nat},assoc (EY σ σ' ids) i=some (c,c')->i ∈ ids∧c=σ.bx.getD i []∧c'=σ'.bx.getD i []
 |[],h=>by rw [EY,assoc] at h;cases h
 |j::r,h=>by
  rw [EY,assoc] at h;split at h
  ·rename_i e;have e:=Nat.eq_of_beq_eq_true e;subst e;cases h;exact ⟨List.mem_cons_self,rfl,rfl⟩
  ·obtain ⟨h1,h2⟩:=BP h;exact ⟨List.mem_cons_of_mem _ h1,h2⟩
theorem Am {a b:jk} (h:a.yu b=true):∃i c0 n c c',a.ld=some (i,c0,n)∧assoc b.ch i=some (c,c')∧c.length=c'.length∧(c.drop c0).take n=(c'.drop c0).take n:=by
 unfold jk.yu at h;split at h
 ·rename_i i c0 n hl;split at h
  ·rename_i c c' hc;rw [Bool.and_eq_true] at h;exact ⟨i,c0,n,c,c',hl,hc,Nat.eq_of_beq_eq_true h.1,uf h.2⟩
  ·cases h
 ·cases h
theorem Y7 {ad:List Nat} {all:List Oper} {q:Nat×Nat×Nat} (h:AZ T ad all o σ=some q):lI ad o=false∧dW all o σ=[q.1]:=by
 unfold AZ at h;split at h
 ·rename_i hgo;split at h
  ·rename_i t x ho;split at h
   ·cases h
   ·rename_i had;split at h
    ·rename_i i c hv;split at h
     ·cases h;refine ⟨by unfold lI;rw [ho];exact had,?_⟩;unfold dW;rw [hgo,ho];show uS (val σ.tm x)=_;rw [hv];rfl
     ·cases h
    ·cases h
  ·cases h
 ·cases h
theorem Ei {E:Hm} {σ:aF} (h:(!Nat.ble (E.app σ).bx.length σ.bx.length)=false):E.nw=[]:=by
 rw [ug] at h;have:Nat.ble (σ.bx.length+E.nw.length) σ.bx.length=true:=by simpa using h
 have:=Nat.le_of_ble_eq_true this;exact List.eq_nil_of_length_eq_zero oM
theorem getD_some {l:List (List AV)} {i:Nat} (h:i<l.length):l[i]?=some (l.getD i []):=by rw [List.getD_eq_getElem?_getD,List.getElem?_eq_getElem h];rfl
theorem UI {md:Md} {all:List Oper} {x y:Oper} {k j:Nat} (hx:nK cal T md all x σ=some σ1) (hy:nK cal T md all y σ1=some σ2) (hk:kY all md.ad x y=false) (hb:(jH T md.ad all k x σ σ1).mJ (jH T md.ad all j y σ1 σ2)=false):
  ∃Cc,nK cal T md all y σ=some Cc∧jH T md.ad all j y σ Cc=jH T md.ad all j y σ1 σ2∧nK cal T md all x Cc=some σ2∧jH T md.ad all k x Cc σ2=jH T md.ad all k x σ σ1:=by
 obtain ⟨E,e1,e2,e3,e4,e5,e6⟩:=GU hx;obtain ⟨F,f1,f2,f3,f4,f5,f6⟩:=GU hy;unfold kY at hk;simp only [Bool.or_eq_false_iff] at hk;obtain ⟨⟨k1,k2⟩,k3⟩:=hk;unfold jk.mJ at hb;rw [Bool.or_eq_false_iff] at hb;obtain ⟨b1,b2⟩:=hb;have hal:E.nw=[]∨F.nw=[]:=by
  rw [Bool.and_eq_false_iff] at b2;rcases b2 with h|h
  ·left;have h':(!Nat.ble σ1.bx.length σ.bx.length)=false:=h;rw [e1] at h';exact Ei h'
  ·right;have h':(!Nat.ble σ2.bx.length σ1.bx.length)=false:=h;rw [f1] at h';exact Ei h'
 have agi:∀t ∈ Gn all y,get σ1.tm t=get σ.tm t:=by intro t ht;rw [e1];exact zI _ _ _ (fun p hp e=>iw k1 p.1 (e2 p hp) (by rw [e];exact ht))
 have agh:∀t ∈ Gn all x,get σ.tm t=get (F.app σ).tm t:=by intro t ht;exact (zI _ _ _ (fun p hp e=>iw k3 p.1 (f2 p hp) (by rw [e];exact ht))).symm
 have apV:lI md.ad x=false->σ1.bx=σ.bx∧E.ids=[]:=by
  intro hw;have h1:E.ids=[]:=by
   cases hh:E.ids with
   |nil=>rfl
   |cons i r=>
    have:=(e3 i (by rw [hh];exact List.mem_cons_self)).2;rw [hw] at this;cases this
  rw [e1];unfold Hm.app;simp only [h1,aC,e5 hw,List.append_nil];exact ⟨trivial,trivial⟩
 have acF:lI md.ad y=false->(∀τ:aF,(F.app τ).bx=τ.bx)∧F.ids=[]:=by
  intro hw;have h1:F.ids=[]:=by
   cases hh:F.ids with
   |nil=>rfl
   |cons i r=>
    have:=(f3 i (by rw [hh];exact List.mem_cons_self)).2;rw [hw] at this;cases this
  refine ⟨fun τ=>?_,h1⟩;unfold Hm.app;simp only [h1,aC,f5 hw,List.append_nil]
 have key:Alike T md.ad all y σ1 σ∧Alike T md.ad all x σ (F.app σ)∧(∀i ∈ E.ids,i ∉ F.ids)∧∀i ∈ F.ids,i<σ.bx.length:=by
  cases hwx:lI md.ad x with
  |false=>
   obtain ⟨x1,x2⟩:=apV hwx;refine ⟨⟨agi,.inr fun i _=>by rw [x1]⟩,⟨agh,?_⟩,(fun i hi=>by rw [x2] at hi;cases hi),fun i hi=>by rw [←x1];exact f4 i (f3 i hi).1⟩;cases hwy:lI md.ad y with
   |false=>exact .inr fun i _=>by rw [(acF hwy).1]
   |true=>
    by_cases hm:meets (dW all x σ++news σ.bx.length σ1.bx.length) (dW all y σ1++news σ1.bx.length σ2.bx.length)=true
    ·have wE:((jH T md.ad all k x σ σ1).yu (jH T md.ad all j y σ1 σ2)||(jH T md.ad all j y σ1 σ2).yu (jH T md.ad all k x σ σ1))=true:=by
      cases hh:((jH T md.ad all k x σ σ1).yu (jH T md.ad all j y σ1 σ2)||(jH T md.ad all j y σ1 σ2).yu (jH T md.ad all k x σ σ1)) with
      |true=>rfl
      |false=>
       rw [hh] at b1;unfold jH at b1;simp only [hm,hwy,Bool.or_true,Bool.true_and,Bool.not_false] at b1;cases b1
     rw [Bool.or_eq_true] at wE;rcases wE with wE|wE
     ·obtain ⟨i,c0,n,c,c',h1,h2,h3,h4⟩:=Am wE;have h1':AZ T md.ad all x σ=some (i,c0,n):=h1;have h2':assoc (if lI md.ad y=true then EY σ1 σ2 (dW all y σ1) else []) i=some (c,c'):=h2;rw [hwy,if_pos rfl] at h2';obtain ⟨g1,g2,g3⟩:=BP h2';have hi1:=f4 i g1;rw [x1] at hi1 g2;refine .inl ⟨i,c0,n,c,c',h1',by rw [g2];exact getD_some hi1,?_,h3,h4⟩;have hbx:(F.app σ).bx=σ2.bx:=by rw [f1];unfold Hm.app;rw [x1]
      rw [hbx,g3];refine getD_some ?_;rw [←hbx,ug];omega
     ·obtain ⟨i,c0,n,c,c',h1,-⟩:=Am wE;have h1':AZ T md.ad all y σ1=some (i,c0,n):=h1;rw [(Y7 h1').1] at hwy;cases hwy
    ·refine .inr fun i hi=>(TM F σ i (fun hf=>?_) (e4 i hi)).symm;exact iw (by simpa using hm) i (List.mem_append_left _ hi) (List.mem_append_left _ (f3 i hf).1)
  |true=>
   by_cases hm:meets (dW all x σ++news σ.bx.length σ1.bx.length) (dW all y σ1++news σ1.bx.length σ2.bx.length)=true
   ·have wE:((jH T md.ad all k x σ σ1).yu (jH T md.ad all j y σ1 σ2)||(jH T md.ad all j y σ1 σ2).yu (jH T md.ad all k x σ σ1))=true:=by
     cases hh:((jH T md.ad all k x σ σ1).yu (jH T md.ad all j y σ1 σ2)||(jH T md.ad all j y σ1 σ2).yu (jH T md.ad all k x σ σ1)) with
     |true=>rfl
     |false=>
      rw [hh] at b1;unfold jH at b1;simp only [hm,hwx,Bool.true_or,Bool.true_and,Bool.not_false] at b1;cases b1
    rw [Bool.or_eq_true] at wE;rcases wE with wE|wE
    ·obtain ⟨i,c0,n,c,c',h1,-⟩:=Am wE;have h1':AZ T md.ad all x σ=some (i,c0,n):=h1;rw [(Y7 h1').1] at hwx;cases hwx
    ·obtain ⟨i,c0,n,c,c',h1,h2,h3,h4⟩:=Am wE;have h1':AZ T md.ad all y σ1=some (i,c0,n):=h1;have h2':assoc (if lI md.ad x=true then EY σ σ1 (dW all x σ) else []) i=some (c,c'):=h2;rw [hwx,if_pos rfl] at h2';obtain ⟨g1,g2,g3⟩:=BP h2';have hi1:=e4 i g1;have hwy:=(Y7 h1').1;refine ⟨⟨agi,.inl ⟨i,c0,n,c',c,h1',?_,by rw [g2];exact getD_some hi1,h3.symm,h4.symm⟩⟩,⟨agh,.inr fun i _=>by rw [(acF hwy).1]⟩,(fun i _ hf=>by rw [(acF hwy).2] at hf;cases hf),fun i hf=>by rw [(acF hwy).2] at hf;cases hf⟩;rw [g3];refine getD_some ?_;rw [e1,ug];omega
   ·have hno:=iw (show meets _ _=false by simpa using hm);have hlt:∀i ∈ dW all y σ1,i<σ.bx.length∧i ∉ E.ids:=by
     intro i hi;have h1:=f4 i hi;constructor
     ·rcases Nat.lt_or_ge i σ.bx.length with h|h
      ·exact h
      ·exfalso;refine hno i (List.mem_append_right _ ?_) (List.mem_append_left _ hi);unfold news;rw [List.mem_range'_1];omega
     ·intro he;exact hno i (List.mem_append_left _ (e3 i he).1) (List.mem_append_left _ hi)
    refine ⟨⟨agi,.inr fun i hi=>?_⟩,⟨agh,.inr fun i hi=>(TM F σ i (fun hf=>?_) (e4 i hi)).symm⟩,fun i hi hf=>(hlt i (f3 i hf).1).2 hi,fun i hf=>(hlt i (f3 i hf).1).1⟩
    ·rw [e1];exact TM E σ i (hlt i hi).2 (hlt i hi).1
    ·exact hno i (List.mem_append_left _ hi) (List.mem_append_left _ (f3 i hf).1)
 obtain ⟨hA,hA2,hEF,hF⟩:=key;have hl1:F.nw≠[]->σ1.bx.length=σ.bx.length:=fun h=>by rw [e1,ug,hal.resolve_right h];simp
 have hl2:E.nw≠[]->σ.bx.length=(F.app σ).bx.length:=fun h=>by rw [ug,hal.resolve_left h];simp
 obtain ⟨g1,g2⟩:=f6 σ hA hl1;obtain ⟨g3,g4⟩:=e6 (F.app σ) hA2 hl2;have hcomm:E.app (F.app σ)=σ2:=by rw [f1,e1];exact (Hm.comm (fun p hp q hq e=>iw k2 p.1 (e2 p hp) (by rw [e];exact f2 q hq)) hEF hal (fun i hi=>e4 i (e3 i hi).1) hF).symm
 refine ⟨F.app σ,g1,?_,by rw [g3,hcomm],?_⟩
 ·have:=x8 (E:=F) (k:=j) f4 hA hl1 g2;rw [this,←f1]
 ·have:=x8 (E:=E) (k:=k) e4 hA2 hl2 g4;rw [hcomm] at this;rw [this,←e1]
def AX (cal:BR) (T:kZ) (all:List Oper) (md:Md):List (Nat×Oper)->aF->Option (List jk×aF)
 |[],σ=>some ([],σ)
 |(k,o)::r,σ=>
  match nK cal T md all o σ with
  |none=>none
  |some σ1=>
   match AX cal T all md r σ1 with
   |none=>none
   |some (l,σ2)=>some (jH T md.ad all k o σ σ1::l,σ2)
theorem Ae {all:List Oper} {md:Md} {k:Nat} {r:List (Nat×Oper)} {A:List jk} (h:AX cal T all md ((k,o)::r) σ=some (A,σ')):∃σ1 A1,nK cal T md all o σ=some σ1∧AX cal T all md r σ1=some (A1,σ')∧A=jH T md.ad all k o σ σ1::A1:=by
 rw [AX] at h;split at h
 ·cases h
 ·rename_i σ1 h1;split at h
  ·cases h
  ·rename_i l σ2 h2;cases h;exact ⟨σ1,l,h1,h2,rfl⟩
theorem Il {all:List Oper} {md:Md} {k:Nat} {r:List (Nat×Oper)} {A:List jk} (h1:nK cal T md all o σ=some σ1) (h2:AX cal T all md r σ1=some (A,σ')):AX cal T all md ((k,o)::r) σ=some (jH T md.ad all k o σ σ1::A,σ'):=by rw [AX,h1];simp only [h2]
theorem front {all:List Oper} {md:Md} {j:Nat} {y:Oper} {post:List (Nat×Oper)}:∀(pre:List (Nat×Oper)) {σ σ':aF} {A:List jk},AX cal T all md (pre++(j,y)::post) σ=some (A,σ')->(∀p ∈ pre,kY all md.ad p.2 y=false)->
  ∃A1 b A2,A=A1++b::A2∧A1.map jk.at_=pre.map (·.1)∧b.at_=j∧((∀a ∈ A1,a.mJ b=false)->∃σ1,nK cal T md all y σ=some σ1∧b=jH T md.ad all j y σ σ1∧AX cal T all md (pre++post) σ1=some (A1++A2,σ'))
 |[],σ,σ',A,h,_=>by obtain ⟨σ1,A1,h1,h2,rfl⟩:=Ae h;exact ⟨[],_,A1,rfl,rfl,rfl,fun _=>⟨σ1,h1,rfl,h2⟩⟩
 |(k,x)::pre,σ,σ',A,h,hk=>by rw [List.cons_append] at h;obtain ⟨σ1,A1,h1,h2,rfl⟩:=Ae h;have hkx:kY all md.ad x y=false:=hk _ List.mem_cons_self;obtain ⟨B1,b,B2,rfl,f2,f3,f4⟩:=front pre h2 (fun p hp=>hk p (List.mem_cons_of_mem _ hp));refine ⟨jH T md.ad all k x σ σ1::B1,b,B2,rfl,by rw [List.map_cons,List.map_cons,f2];rfl,f3,fun hc=>?_⟩;obtain ⟨σ3,g1,rfl,g3⟩:=f4 (fun a ha=>hc a (List.mem_cons_of_mem _ ha));obtain ⟨Cc,c1,c2,c3,c4⟩:=UI (j:=j) h1 g1 hkx (hc _ List.mem_cons_self);refine ⟨Cc,c1,c2.symm,?_⟩;rw [List.cons_append,List.cons_append,←c4];exact Il c3 g3
def ji (an:List Nat) (two:Option (Nat×Nat)) (A:List jk):Prop:=List.Pairwise (fun a b=>(an.getD b.at_ 0).testBit a.at_=true∨a.mJ b=false∨Dy two a.at_ b.at_=true) A
theorem ji.drop {an:List Nat} {two:Option (Nat×Nat)} {A1 A2:List jk} {b:jk} (h:ji an two (A1++b::A2)):ji an two (A1++A2):=h.sublist (List.Sublist.append_left (List.sublist_cons_self b A2) A1)
theorem ji.mid {an:List Nat} {two:Option (Nat×Nat)} {A1 A2:List jk} {b:jk} (h:ji an two (A1++b::A2)):∀a ∈ A1,(an.getD b.at_ 0).testBit a.at_=true∨a.mJ b=false∨Dy two a.at_ b.at_=true:=by intro a ha;unfold ji at h;rw [List.pairwise_append] at h;exact h.2.2 a ha b List.mem_cons_self
theorem ji.one {an:List Nat} {two:Option (Nat×Nat)} {A:List jk} (h:ji an two A) (hn:∀a ∈ A,∀b ∈ A,Dy two a.at_ b.at_=false):ji an none A:=by
 unfold ji at h⊢;refine h.imp_of_mem fun {a b} ha hb hab=>?_;rcases hab with h1|h1|h1
 ·exact .inl h1
 ·exact .inr (.inl h1)
 ·rw [hn a ha b hb] at h1;cases h1
theorem uu (acc:List Nat) (k:Nat):∀(l:List Nat),(zt acc l).testBit k=true↔∃i ∈ l,k=i∨(acc.getD i 0).testBit k=true
 |[]=>by simp [zt]
 |i::r=>by
  rw [zt,Nat.testBit_or,Nat.testBit_or,Bool.or_eq_true,Bool.or_eq_true,uu acc k r,Nat.testBit_two_pow];constructor
  ·rintro ((h|h)|⟨j,h1,h2⟩)
   ·exact ⟨i,List.mem_cons_self,.inl (by simp at h;omega)⟩
   ·exact ⟨i,List.mem_cons_self,.inr h⟩
   ·exact ⟨j,List.mem_cons_of_mem _ h1,h2⟩
  ·rintro ⟨j,h1,h2⟩;rcases List.mem_cons.1 h1 with rfl|h1
   ·rcases h2 with h2|h2
    ·exact .inl (.inl (by simp;omega))
    ·exact .inl (.inr h2)
   ·exact .inr ⟨j,h1,h2⟩
theorem AO:∀(r:List Oper) (acc:List Nat),(∀i,i<acc.length->(jX acc r)[i]?=acc[i]?)∧∀(j:Nat) (o:Oper),r[j]?=some o->∃NS,NS.length=acc.length+j∧(∀i,i<NS.length->(jX acc r)[i]?=NS[i]?)∧(jX acc r)[acc.length+j]?=some (zt NS (dL o))
 |[],acc=>⟨fun i _=>rfl,fun j o h=>by simp at h⟩
 |o::r,acc=>by
  rw [jX];obtain ⟨h1,h2⟩:=AO r (acc++[zt acc (dL o)]);have hlen:(acc++[zt acc (dL o)]).length=acc.length+1:=by simp
  refine ⟨fun i hi=>?_,fun j o' hj=>?_⟩
  ·rw [h1 i oM,List.getElem?_append_left hi]
  ·cases j with
   |zero=>
    simp at hj;subst hj;refine ⟨acc,rfl,fun i hi=>?_,?_⟩
    ·rw [h1 i oM,List.getElem?_append_left hi]
    ·rw [Nat.add_zero,h1 _ oM];simp
   |succ j=>
    obtain ⟨NS,g1,g2,g3⟩:=h2 j o' (by simpa using hj);refine ⟨NS,oM,g2,?_⟩;rw [←g3];congr 1;omega
theorem NQ {all:List Oper} {D:Nat->Prop} (hp:∀(j:Nat) (o:Oper),all[j]?=some o->∀i ∈ dL o,i<j) (hD:∀(j:Nat) (o:Oper),all[j]?=some o->D j->∀i ∈ dL o,D i):
  ∀(n j:Nat) (o:Oper),j<n->all[j]?=some o->(∀i ∈ dL o,D i)->∀k,((jX [] all).getD j 0).testBit k=true->D k
 |0,j,o,hn,_,_,k,_=>by omega
 |n+1,j,o,hn,hj,hi,k,hk=>by
  obtain ⟨-,h2⟩:=AO all [];obtain ⟨NS,g1,g2,g3⟩:=h2 j o hj;simp only [List.length_nil,Nat.zero_add] at g1 g3;rw [List.getD_eq_getElem?_getD,g3,Option.getD_some,uu] at hk;obtain ⟨i,hi1,hi2⟩:=hk;rcases hi2 with rfl|hi2
  ·exact hi k hi1
  ·have hij:i<j:=hp j o hj i hi1;have hlt:i<all.length:=Nat.lt_trans hij (List.getElem?_eq_some_iff.1 hj).1;rw [List.getD_eq_getElem?_getD,←g2 i oM,←List.getD_eq_getElem?_getD] at hi2;exact NQ hp hD n i _ oM (List.getElem?_eq_getElem hlt) (hD i _ (List.getElem?_eq_getElem hlt) (hi i hi1)) k hi2
theorem rO {all:List Oper} (h:qK all=true):(∀(j:Nat) (o:Oper),all[j]?=some o->∀i ∈ dL o,i<j)∧∀(i j:Nat) (x y:Oper),i<j->all[i]?=some x->all[j]?=some y->((jX [] all).getD j 0).testBit i=true∨kY all (qU all) x y=false:=by
 unfold qK at h;rw [Bool.and_eq_true,List.all_eq_true,List.all_eq_true] at h;obtain ⟨h1,h2⟩:=h;refine ⟨fun j o hj i hi=>?_,fun i j x y hij hx hy=>?_⟩
 ·have:=h1 j (List.mem_range.2 (List.getElem?_eq_some_iff.1 hj).1);rw [hj] at this;simp only [List.all_eq_true,decide_eq_true_eq] at this;exact this i hi
 ·have:=h2 j (List.mem_range.2 (List.getElem?_eq_some_iff.1 hy).1);rw [List.all_eq_true] at this;have:=this i (List.mem_range.2 hij);rw [hx,hy,Bool.or_eq_true] at this;simpa using this
end Ab
namespace Ab
variable {lim lim' : Nat -> Nat} {bs bs' : List Nat} {w w' : World} {P : Program} {T : kZ} {a : Act} {o : Oper} {m : Nat -> Prop} {bx bx' : List (List AV)} {S S' : uP} {K : Act -> World -> Prop} {Q : Exit -> Act -> World -> Prop} {cal : BR} {σ σ' σ1 σ2 : aF}
theorem N9.trans {eQ:Nat->Nat} {mY:List Nat} {w1:World} {a1 a':Act} (h:N9 m lim bs w a σ1 eQ mY w1 a1) (k:N9 m eQ mY w1 a1 σ' lim' bs' w' a'):N9 m lim bs w a σ' lim' bs' w' a':=
 ⟨k.hold,h.fr.trans k.fr,fun i b hb=>k.pre i b (h.pre i b hb),k.nt.trans h.nt,k.df.trans h.df⟩
theorem LZ {all:List Oper} {md:Md}:∀{l:List (Nat×Oper)} {σ σ':aF} {A:List jk},AX cal T all md l σ=some (A,σ')->A.map jk.at_=l.map (·.1)
 |[],σ,σ',A,h=>by rw [AX] at h;cases h;rfl
 |(k,o)::l,σ,σ',A,h=>by obtain ⟨σ1,A1,-,h2,rfl⟩:=Ae h;rw [List.map_cons,List.map_cons,LZ h2];rfl
theorem BH {l:Array Bool} {i:Nat} (h:l.getD i true=false):l.getD i false=false:=by
 rw [Array.getD_eq_getD_getElem?] at h⊢;cases hh:l[i]? with
 |none=>rfl
 |some b=>rw [hh] at h;exact h
theorem SA {a b:List Nat} (h:meets a b=false):meets b a=false:=by
 cases hh:meets b a with
 |false=>rfl
 |true=>
  unfold meets at hh;rw [List.any_eq_true] at hh;obtain ⟨x,h1,h2⟩:=hh;exact absurd h1 (iw h x (mem_iff.1 h2))
theorem QC {all:List Oper} {ad:List Nat} {x y:Oper} (h:kY all ad x y=false):kY all ad y x=false:=by unfold kY at h⊢;simp only [Bool.or_eq_false_iff] at h⊢;exact ⟨⟨h.2,SA h.1.2⟩,h.1.1⟩
theorem AB {q:Nat} {p:Nat×Oper}:∀{l:List (Nat×Oper)},p ∈ lC q l↔p ∈ l∧p.1≠q
 |[]=>by simp [lC]
 |(k,o)::r=>by
  rw [lC];split
  ·rename_i e;have e:=Nat.eq_of_beq_eq_true e;subst e;rw [AB (l:=r)];constructor
   ·rintro ⟨h1,h2⟩;exact ⟨List.mem_cons_of_mem _ h1,h2⟩
   ·rintro ⟨h1,h2⟩;rcases List.mem_cons.1 h1 with e|h1
    ·subst e;exact absurd rfl h2
    ·exact ⟨h1,h2⟩
  ·rename_i e;have hkq:k≠q:=fun h=>by subst h;rw [Nat.beq_refl] at e;cases e
   rw [List.mem_cons,List.mem_cons,AB (l:=r)];constructor
   ·rintro (h|⟨h1,h2⟩)
    ·subst h;exact ⟨.inl rfl,hkq⟩
    ·exact ⟨.inr h1,h2⟩
   ·rintro ⟨h1|h1,h2⟩
    ·exact .inl h1
    ·exact .inr ⟨h1,h2⟩
theorem pY {q:Nat}:∀(l r:List (Nat×Oper)),lC q (l++r)=lC q l++lC q r
 |[],r=>rfl
 |(k,o)::l,r=>by
  rw [List.cons_append,lC,lC];split
  ·exact pY l r
  ·rw [pY l r];rfl
theorem Jc {q i:Nat} {o:Oper} {l:List (Nat×Oper)} (h:i≠q):lC q ((i,o)::l)=(i,o)::lC q l:=by
 rw [lC];split
 ·rename_i e;exact absurd (Nat.eq_of_beq_eq_true e) h
 ·rfl
theorem Jb {q:Nat} {l:List (Nat×Oper)} (h:∀p ∈ l,p.1≠q):lC q l=l:=by
 induction l with
 |nil=>rfl
 |cons p r ih=>
  obtain ⟨k,o⟩:=p;rw [Jc (h _ List.mem_cons_self),ih (fun p hp=>h p (List.mem_cons_of_mem _ hp))]
def Mode (cal:BR) (T:kZ) (md:Md) (all:List Oper) (Fin:aF->Prop) (l:List (Nat×Oper)) (σ:aF):Prop:=
 (∃A σ',AX cal T all md l σ=some (A,σ')∧ji (jX [] all) none A∧Fin σ')∨
 ∃p q oq A B σa σb,p<q∧(q,oq) ∈ l∧all[q]?=some oq∧dL oq=[]∧AX cal T all md l σ=some (A,σa)∧AX cal T all md ((q,oq)::lC q l) σ=some (B,σb)∧ji (jX [] all) (some (p,q)) A∧ji (jX [] all) (some (p,q)) B∧Fin σa∧Fin σb
theorem BB {p q a b:Nat} (h:Dy (some (p,q)) a b=true):(a=p∧b=q)∨(a=q∧b=p):=by unfold Dy at h;simp only [Bool.or_eq_true,Bool.and_eq_true,Nat.beq_eq] at h;exact h
theorem Qj {p q a b:Nat} (h1:¬(a=p∧b=q)) (h2:¬(a=q∧b=p)):Dy (some (p,q)) a b=false:=by
 cases hh:Dy (some (p,q)) a b with
 |false=>rfl
 |true=>rcases BB hh with h|h<;>contradiction
theorem Mode.step {md:Md} {all:List Oper} {Fin:aF->Prop} {pre post:List (Nat×Oper)} {i:Nat} (h:Mode cal T md all Fin (pre++(i,o)::post) σ) (hs:(pre++(i,o)::post).Pairwise (fun p q=>p.1<q.1)) (hk:∀p ∈ pre++post,((jX [] all).getD i 0).testBit p.1=false) (hkk:∀p ∈ pre++post,((jX [] all).getD p.1 0).testBit i=false->kY all md.ad p.2 o=false) (ho:all[i]?=some o) (hpq:∀q oq,all[q]?=some oq->dL oq=[]->(jX [] all).getD q 0=0) (hpre:∀p ∈ pre,kY all md.ad p.2 o=false):
  ∃σ1,nK cal T md all o σ=some σ1∧Mode cal T md all Fin (pre++post) σ1:=by
 have hs0:=hs;rw [List.pairwise_append] at hs;obtain ⟨s1,s2,s3⟩:=hs;have hlt:∀p ∈ pre,p.1<i:=fun p hp=>s3 p hp (i,o) List.mem_cons_self;have hgt:∀p ∈ post,i<p.1:=fun p hp=>(List.pairwise_cons.1 s2).1 p hp;have hne:∀p ∈ pre++post,p.1≠i:=by
  intro p hp;rcases List.mem_append.1 hp with hp|hp
  ·have:=hlt p hp;omega
  ·have:=hgt p hp;omega
 rcases h with ⟨A,σ',h1,h2,h3⟩|⟨p,q,oq,A,B,σa,σb,h0,hq,hqa,hqp,h1,h2,h3,h4,h5,h6⟩
 ·obtain ⟨A1,b,A2,rfl,f2,f3,f4⟩:=front pre h1 hpre;obtain ⟨σ1,g1,-,g3⟩:=f4 (fun x hx=>by
   have hx1:x.at_ ∈ pre.map (·.1):=by rw [←f2];exact List.mem_map_of_mem hx
   obtain ⟨y,hy,e⟩:=List.mem_map.1 hx1;rcases h2.mid x hx with hh|hh|hh
   ·rw [f3,←e,hk y (List.mem_append_left _ hy)] at hh;cases hh
   ·exact hh
   ·cases hh)
  exact ⟨σ1,g1,.inl ⟨_,σ',g3,h2.drop,h3⟩⟩
 ·by_cases hiq:i=q
  ·
   subst hiq;have hoq:o=oq:=by rw [hqa] at ho;exact (Option.some.inj ho).symm
   subst hoq;obtain ⟨σ1,B1,g1,g2,rfl⟩:=Ae h2;have hd:lC i (pre++(i,o)::post)=pre++post:=by rw [pY,lC,Nat.beq_refl];simp only [];rw [Jb (fun p hp=>by have:=hlt p hp;omega),Jb (fun p hp=>by have:=hgt p hp;omega)]
   rw [hd] at g2;have hp2:ji (jX [] all) (some (p,i)) B1:=(List.pairwise_cons.1 h4).2;refine ⟨σ1,g1,.inl ⟨B1,σb,g2,hp2.one (fun a ha b hb=>?_),h6⟩⟩;have hat:=LZ g2;have hin:∀a ∈ B1,a.at_≠i:=by
    intro a ha e;have:a.at_ ∈ (pre++post).map (·.1):=by rw [←hat];exact List.mem_map_of_mem ha
    obtain ⟨y,hy,e2⟩:=List.mem_map.1 this;exact hne y hy (by rw [e2,e])
   exact Qj (fun h=>hin b hb h.2) (fun h=>hin a ha h.1)
  ·have hqm:(q,oq) ∈ pre++post:=by
    rcases List.mem_append.1 hq with h|h
    ·exact List.mem_append_left _ h
    ·rcases List.mem_cons.1 h with e|h
     ·cases e;exact absurd rfl hiq
     ·exact List.mem_append_right _ h
   obtain ⟨A1,b,A2,rfl,f2,f3,f4⟩:=front pre h1 hpre;obtain ⟨σ1,g1,-,g3⟩:=f4 (fun x hx=>by
    have hx1:x.at_ ∈ pre.map (·.1):=by rw [←f2];exact List.mem_map_of_mem hx
    obtain ⟨y,hy,e⟩:=List.mem_map.1 hx1;rcases h3.mid x hx with hh|hh|hh
    ·rw [f3,←e,hk y (List.mem_append_left _ hy)] at hh;cases hh
    ·exact hh
    ·exfalso;have hyi:=hlt y hy;rcases BB hh with ⟨e1,e2⟩|⟨e1,e2⟩
     ·exact hiq (by rw [←f3,e2])
     ·have:y.1=q:=by rw [e,e1]
      have:i=p:=by rw [←f3,e2]
      omega)
   have h3d:=h3.drop;by_cases hip:i=p
   ·
    subst hip;refine ⟨σ1,g1,.inl ⟨_,σa,g3,h3d.one (fun a ha b hb=>?_),h5⟩⟩;have hat:=LZ g3;have hin:∀a ∈ A1++A2,a.at_≠i:=by
     intro a ha e;have:a.at_ ∈ (pre++post).map (·.1):=by rw [←hat];exact List.mem_map_of_mem ha
     obtain ⟨y,hy,e2⟩:=List.mem_map.1 this;exact hne y hy (by rw [e2,e])
    exact Qj (fun h=>hin a ha h.1) (fun h=>hin b hb h.2)
   ·have hd:lC q (pre++(i,o)::post)=lC q pre++(i,o)::lC q post:=by rw [pY,Jc hiq]
    rw [hd,←List.cons_append] at h2;have hkq:kY all md.ad oq o=false:=hkk (q,oq) hqm (by rw [hpq q oq hqa hqp];simp);obtain ⟨B1,b2,B2,rfl,f2',f3',f4'⟩:=front ((q,oq)::lC q pre) h2 (fun x hx=>by
     rcases List.mem_cons.1 hx with e|hx
     ·rw [e];exact hkq
     ·exact hpre x (AB.1 hx).1)
    obtain ⟨Cc,g1',-,g3'⟩:=f4' (fun x hx=>by
     have hx1:x.at_ ∈ ((q,oq)::lC q pre).map (·.1):=by rw [←f2'];exact List.mem_map_of_mem hx
     obtain ⟨y,hy,e⟩:=List.mem_map.1 hx1;have hym:y ∈ pre++post:=by
      rcases List.mem_cons.1 hy with e|hy
      ·rw [e];exact hqm
      ·exact List.mem_append_left _ (AB.1 hy).1
     rcases h4.mid x hx with hh|hh|hh
     ·rw [f3',←e,hk y hym] at hh;cases hh
     ·exact hh
     ·exfalso;rcases BB hh with ⟨e1,e2⟩|⟨e1,e2⟩
      ·exact hiq (by rw [←f3',e2])
      ·exact hip (by rw [←f3',e2]))
    rw [g1] at g1';cases g1';refine ⟨σ1,g1,.inr ⟨p,q,oq,_,_,σa,σb,h0,hqm,hqa,hqp,g3,?_,h3d,h4.drop,h5,h6⟩⟩;rw [pY,←List.cons_append];exact g3'
theorem Xj {all:List Oper} {q:Nat} {oq:Oper} (h:all[q]?=some oq) (hp:dL oq=[]):(jX [] all).getD q 0=0:=by obtain ⟨-,h2⟩:=AO all [];obtain ⟨NS,-,-,g3⟩:=h2 q oq h;simp only [List.length_nil,Nat.zero_add] at g3;rw [List.getD_eq_getElem?_getD,g3,hp];rfl
theorem Xi (HT:mM P T) (HC:fB P cal) {md:Md} {ops:Array Oper} (hmd:md.ad=qU ops.toList) (hko:qK ops.toList=true) (hdst:∀o ∈ ops.toList,∀k,o.dst=some k->k<a.tmps.size) {Fin:aF->Prop}:
  ∀(n:Nat) (l:List (Nat×Oper)),l.length=n->∀{lim:Nat->Nat} {bs:List Nat} {w:World} {σ:aF} {a1:Act} {listed:Array Bool},listed.size=ops.size->l.Pairwise (fun p q=>p.1<q.1)->(∀p ∈ l,ops[p.1]?=some p.2)->(∀k,listed.getD k true=false↔∃o,(k,o) ∈ l)->
   (∀(j:Nat) (o:Oper),ops[j]?=some o->listed.getD j false=true->∀i ∈ dL o,listed.getD i false=true)->
   a1.tmps.size=a.tmps.size->aB lim bs w σ.bx (Sl σ.tm a1) m->(∀b,w.heap.size<=b->m b)->Mode cal T md ops.toList Fin l σ->(∀σ',Fin σ'->yA m lim bs w a1 σ' (Q .normal))->wpAny P .any ops Q n listed a1 w:=by
 obtain ⟨hk1,hk2⟩:=rO hko;have hall:∀j,ops.toList[j]?=ops[j]?:=fun j=>Array.getElem?_toList;have hpr:∀{o:Oper} {i:Nat},i ∈ dL o↔∃e ∈ o.after,Region.binds .any e=true∧e.on=i:=by
  intro o i;unfold dL;rw [List.mem_filterMap];constructor
  ·rintro ⟨e,h1,h2⟩;split at h2
   ·rename_i hb;cases h2;exact ⟨e,by simpa using h1,hb,rfl⟩
   ·cases h2
  ·rintro ⟨e,h1,h2,rfl⟩;exact ⟨e,by simpa using h1,by rw [if_pos h2]⟩
 intro n
 induction n with
 |zero=>
  intro l hl lim bs w σ a1 listed hsz hs hin hun hdc hts H hm h hK;obtain rfl:=List.eq_nil_of_length_eq_zero hl;have hfin:Fin σ:=by
   rcases h with ⟨A,σ',h1,h2,h3⟩|⟨p,q,oq,A,B,σa,σb,h0,hq,-⟩
   ·rw [AX] at h1;cases h1;exact h3
   ·cases hq
  refine ⟨?_,hK σ hfin lim bs w a1 ⟨H,Fr.refl,fun _ _ h=>h,rfl,rfl⟩⟩;rw [List.eq_nil_iff_forall_not_mem];intro i hi;obtain ⟨h0,-⟩:=mem_ready.1 hi;obtain ⟨o,ho⟩:=(hun i).1 h0;cases ho
 |succ n ih=>
  intro l hl lim bs w σ a1 listed hsz hs hin hun hdc hts H hm h hK;refine ⟨fun hr=>?_,fun i hi=>?_⟩
  ·
   exfalso;cases l with
   |nil=>simp at hl
   |cons p l=>
    obtain ⟨k,o⟩:=p;have EM:=hin _ List.mem_cons_self;have:k ∈ Region.ready .any ops listed:=by
     refine mem_ready.2 ⟨(hun k).2 ⟨o,List.mem_cons_self⟩,o,EM,fun e he hb=>?_⟩;have hlt:e.on<k:=hk1 k o (by rw [hall];exact EM) e.on (hpr.2 ⟨e,he,hb,rfl⟩);have ak0:k<ops.size:=(Array.getElem?_eq_some_iff.1 EM).1;have hnot:¬listed.getD e.on true=false:=by
      intro hf;obtain ⟨o2,ho2⟩:=(hun e.on).1 hf;rcases List.mem_cons.1 ho2 with h1|h1
      ·cases h1;omega
      ·have:=(List.pairwise_cons.1 hs).1 _ h1;simp only at this;omega
     have hlt2:e.on<listed.size:=oM;simpa [hlt2] using hnot
    rw [hr] at this;cases this
  ·obtain ⟨h0,o,ho,F6⟩:=mem_ready.1 hi;obtain ⟨o',ho'⟩:=(hun i).1 h0;have:=hin _ ho';simp only [] at this;rw [ho] at this;cases this;obtain ⟨pre,post,rfl⟩:=List.append_of_mem ho';have hs0:=hs;rw [List.pairwise_append] at hs;obtain ⟨s1,s2,s3⟩:=hs;have zG:∀j ∈ dL o,listed.getD j false=true:=by intro j hj;obtain ⟨e,e1,e2,rfl⟩:=hpr.1 hj;exact F6 e e1 e2
   have EL:∀p ∈ pre++post,((jX [] ops.toList).getD i 0).testBit p.1=false:=by
    intro p hp;cases hb:((jX [] ops.toList).getD i 0).testBit p.1 with
    |false=>rfl
    |true=>
     exfalso;have:=NQ (D:=fun k=>listed.getD k false=true) hk1 (fun j o2 hj hD=>hdc j o2 (by rw [←hall];exact hj) hD) (i+1) i o oM (by rw [hall];exact ho) zG p.1 hb;have hpl:p ∈ pre++(i,o)::post:=by
      rcases List.mem_append.1 hp with hp|hp
      ·exact List.mem_append_left _ hp
      ·exact List.mem_append_right _ (List.mem_cons_of_mem _ hp)
     have h2:=BH ((hun p.1).2 ⟨p.2,hpl⟩);rw [h2] at this;cases this
   have Zq:∀p ∈ pre,kY ops.toList md.ad p.2 o=false:=by
    intro p hp;rw [hmd];have hlt:p.1<i:=s3 p hp (i,o) List.mem_cons_self;rcases hk2 p.1 i p.2 o hlt (by rw [hall];exact hin p (List.mem_append_left _ hp)) (by rw [hall];exact ho) with hh|hh
    ·rw [EL p (List.mem_append_left _ hp)] at hh;cases hh
    ·exact hh
   have acA:∀p ∈ pre++post,((jX [] ops.toList).getD p.1 0).testBit i=false->kY ops.toList md.ad p.2 o=false:=by
    intro p hp hb;rcases List.mem_append.1 hp with hp|hp
    ·exact Zq p hp
    ·rw [hmd];have hlt:i<p.1:=(List.pairwise_cons.1 s2).1 p hp;rcases hk2 i p.1 o p.2 hlt (by rw [hall];exact ho) (by rw [hall];exact hin p (List.mem_append_right _ (List.mem_cons_of_mem _ hp))) with hh|hh
     ·rw [hb] at hh;cases hh
     ·exact QC hh
   obtain ⟨σ1,g1,g3⟩:=h.step hs0 EL acA (by rw [hall];exact ho) (fun q oq h1 h2=>Xj h1 h2) Zq;refine wpOp_step ho fun K' hK'=>?_;refine qI HT HC H hm (fun k hk=>by rw [hts];exact hdst o (List.mem_of_getElem? (by rw [hall];exact ho)) k hk) g1 (fun eQ mY w1 a2 hg=>hK' a2 w1 ?_);have hlen:(pre++post).length=n:=by rw [List.length_append,List.length_cons] at hl;rw [List.length_append];omega
   refine ih (pre++post) hlen (by simpa using hsz) ?_ (fun p hp=>hin p ?_) (fun k=>?_) (fun j o2 hj hD=>?_) (hg.nt.trans hts) hg.hold (fun b hb=>hm b (Nat.le_trans hg.fr.bel.size hb)) g3 (fun σ' hF jB wR w2 a3 hg2=>hK σ' hF jB wR w2 a3 (hg.trans hg2))
   ·rw [List.pairwise_append];exact ⟨s1,(List.pairwise_cons.1 s2).2,fun p hp q hq=>s3 p hp q (List.mem_cons_of_mem _ hq)⟩
   ·rcases List.mem_append.1 hp with hp|hp
    ·exact List.mem_append_left _ hp
    ·exact List.mem_append_right _ (List.mem_cons_of_mem _ hp)
   ·by_cases hki:k=i
    ·subst hki;have hlt:k<listed.size:=by rw [hsz];exact (Array.getElem?_eq_some_iff.1 ho).1
     constructor
     ·intro h;simp [hlt] at h
     ·rintro ⟨o2,h2⟩;exfalso;rcases List.mem_append.1 h2 with h2|h2
      ·have:=s3 _ h2 (k,o) List.mem_cons_self;simp only [] at this;omega
      ·have:=(List.pairwise_cons.1 s2).1 _ h2;simp only [] at this;omega
    ·rw [getD_set_ne true (Ne.symm hki),hun k];constructor
     ·rintro ⟨o2,h2⟩;refine ⟨o2,?_⟩;rcases List.mem_append.1 h2 with h2|h2
      ·exact List.mem_append_left _ h2
      ·rcases List.mem_cons.1 h2 with e|h2
       ·cases e;exact absurd rfl hki
       ·exact List.mem_append_right _ h2
     ·rintro ⟨o2,h2⟩;refine ⟨o2,?_⟩;rcases List.mem_append.1 h2 with h2|h2
      ·exact List.mem_append_left _ h2
      ·exact List.mem_append_right _ (List.mem_cons_of_mem _ h2)
   ·intro j2 hj2;refine getD_set_true ?_;by_cases hji:j=i
    ·subst hji;rw [ho] at hj;cases hj;exact zG j2 hj2
    ·rw [getD_set_ne false (Ne.symm hji)] at hD;exact hdc j o2 hj hD j2 hj2
theorem vk {all:List Oper} {md:Md}:∀{l:List (Nat×Oper)} {σ σ':aF} {B:List jk},vT cal T all md l σ=some (B,σ')->∃A,AX cal T all md l σ=some (A,σ')∧B=A.filter fun x=>!(x.ids.isEmpty && !x.al)
 |[],σ,σ',B,h=>by rw [vT] at h;cases h;exact ⟨[],rfl,rfl⟩
 |(k,o)::l,σ,σ',B,h=>by
  rw [vT] at h;split at h
  ·cases h
  ·rename_i σ1 h1;split at h
   ·cases h
   ·rename_i B1 σ2 h2;cases h;obtain ⟨A,h3,rfl⟩:=vk h2;refine ⟨jH T md.ad all k o σ σ1::A,Il h1 h3,?_⟩;rw [List.filter_cons];unfold eX;cases hh:((jH T md.ad all k o σ σ1).ids.isEmpty && !(jH T md.ad all k o σ σ1).al)<;>rfl
theorem wP {a b:jk} (h:(a.ids.isEmpty && !a.al)=true):a.mJ b=false∧b.mJ a=false:=by
 rw [Bool.and_eq_true] at h;obtain ⟨h1,h2⟩:=h;have h1':a.ids=[]:=by simpa using h1
 have h2':a.al=false:=by simpa using h2
 unfold jk.mJ meets;rw [h1',h2'];simp [mem]
theorem pM {an:List Nat} {two:Option (Nat×Nat)}:∀{A:List jk},vF an two (A.filter fun x=>!(x.ids.isEmpty && !x.al))=true->ji an two A
 |[],_=>List.Pairwise.nil
 |a::A,h=>by
  rw [List.filter_cons] at h;cases hh:(a.ids.isEmpty && !a.al) with
  |true=>
   rw [hh] at h;exact List.Pairwise.cons (fun b _=> .inr (.inl (wP hh).1)) (pM h)
  |false=>
   rw [hh] at h;simp only [Bool.not_false,if_true] at h;rw [vF,Bool.and_eq_true,List.all_eq_true] at h;refine List.Pairwise.cons (fun b hb=>?_) (pM h.2);cases hb2:(b.ids.isEmpty && !b.al) with
   |true=>exact .inr (.inl (wP hb2).2)
   |false=>
    have:=h.1 b (List.mem_filter.2 ⟨hb,by rw [hb2];rfl⟩);rw [Bool.or_eq_true,Bool.or_eq_true] at this;rcases this with (h1|h1)|h1
    ·exact .inl h1
    ·exact .inr (.inl (by simpa using h1))
    ·exact .inr (.inr h1)
theorem eF:∀(l:List Oper) (k j:Nat) (o:Oper),(j,o) ∈ dR k l↔k<=j∧l[j-k]?=some o
 |[],k,j,o=>by simp [dR]
 |x::l,k,j,o=>by
  rw [dR,List.mem_cons,eF l];constructor
  ·rintro (h|⟨h1,h2⟩)
   ·cases h;simp
   ·refine ⟨oM,?_⟩;rw [show j-k=j-(k+1)+1 by omega,List.getElem?_cons_succ];exact h2
  ·rintro ⟨h1,h2⟩;by_cases e:j=k
   ·subst e;simp at h2;left;rw [h2]
   ·right;refine ⟨oM,?_⟩;rw [show j-k=j-(k+1)+1 by omega,List.getElem?_cons_succ] at h2;exact h2
theorem pO:∀(l:List Oper) (k:Nat),(dR k l).length=l.length
 |[],k=>rfl
 |x::l,k=>by rw [dR,List.length_cons,List.length_cons,pO l]
theorem jP:∀(l:List Oper) (k:Nat),(dR k l).Pairwise (fun p q=>p.1<q.1)
 |[],k=>List.Pairwise.nil
 |x::l,k=>by rw [dR];refine List.Pairwise.cons (fun p hp=>?_) (jP l (k+1));have:=((eF l (k+1) p.1 p.2).1 hp).1;simp only [];omega
theorem Fr.drew:Fr m lim w lim {w with drawn:=w.drawn+1}:=by refine ⟨⟨rfl,rfl,rfl,Nat.le_refl _,fun _ _=>rfl⟩,fun _ _ _=>⟨rfl,rfl⟩,fun _ _=>Nat.le_refl _,fun _ _ _ _=>rfl,fun b cur e p h=>⟨cur,h,rfl⟩⟩
theorem BA (HT:mM P T) (HC:fB P cal) {md:Md} {ops:Array Oper} (hmd:md.ad=qU ops.toList) (hko:qK ops.toList=true) (hdst:∀o ∈ ops.toList,∀k,o.dst=some k->k<a.tmps.size) {id:Nat} {Fin:aF->Prop}
  (H:aB lim bs w σ.bx (Sl σ.tm a) m) (hm:∀b,w.heap.size<=b->m b) (h:Mode cal T md ops.toList Fin (dR 0 ops.toList) σ) (hK:∀σ',Fin σ'->yA m lim bs w a σ' (Q .normal)):(Code.region id ops true).wp P Q a w:=by
 have hfr:Fr m lim w lim {w with drawn:=w.drawn+1}:=Fr.drew;have H2:aB lim bs {w with drawn:=w.drawn+1} σ.bx (Sl σ.tm a) m:=(H.world (hfr.ext (fun _ _ h=>h)) (fun b hb=>⟨rfl,H.free b hb⟩) (fun p g _=>⟨rfl,rfl⟩) (fun b hb=>H.top b hb)).1;refine wp_region_any HT.mix (Xi HT HC hmd hko hdst ops.size _ (by rw [pO];simp) (by simp) (jP _ _) ?_ ?_ ?_ rfl H2 hm h ?_)
 ·intro p hp;have:=((eF _ _ p.1 p.2).1 hp).2;simpa using this
 ·intro k;constructor
  ·intro hk;have hlt:k<ops.size:=by
    rcases Nat.lt_or_ge k ops.size with h'|h'
    ·exact h'
    ·simp [Array.getD,h'] at hk;omega
   exact ⟨ops[k],(eF _ _ _ _).2 ⟨Nat.zero_le _,by simp [hlt]⟩⟩
  ·rintro ⟨o,ho⟩;have hh:=((eF _ _ _ _).1 ho).2;have hlt:k<ops.size:=by simpa using (List.getElem?_eq_some_iff.1 hh).1
   simp [hlt]
 ·intro j o hj hD;exfalso;rw [Array.getD_eq_getD_getElem?] at hD;cases hh:(Array.replicate ops.size false)[j]? with
  |none=>rw [hh] at hD;cases hD
  |some b=>
   rw [hh] at hD;have:=Array.getElem?_replicate (n:=ops.size) (v:=false) (i:=j);rw [hh] at this;split at this
   ·cases this;cases hD
   ·cases this
 ·intro σ' hF lim' bs' w' a' hg;exact hK σ' hF lim' bs' w' a' ⟨hg.hold,hfr.trans hg.fr,hg.pre,hg.nt,hg.df⟩
theorem KY {md:Md} {all:List Oper} (h:Af cal T md all σ=some σ'):Mode cal T md all (·=σ') (dR 0 all) σ:=by
 unfold Af at h;split at h
 ·rename_i B σ2 h1;split at h
  ·rename_i hp;cases h;obtain ⟨A,h2,rfl⟩:=vk h1;exact .inl ⟨A,_,h2,pM hp,rfl⟩
  ·cases h
 ·cases h
theorem Tn {md:Md} {all:List Oper} {p q:Nat} (h:Io cal T md all p q σ=some (σ1,σ2)):Mode cal T md all (fun τ=>τ=σ1∨τ=σ2) (dR 0 all) σ:=by
 unfold Io at h;split at h
 ·cases h
 rename_i oq hq;split at h
 ·cases h
 rename_i A σa h1;split at h
 ·cases h
 rename_i B σb h2;split at h
 ·rename_i hc;cases h;obtain ⟨c1,c2,c3,c4⟩:=hc;obtain ⟨A',h3,rfl⟩:=vk h1;obtain ⟨B',h4,rfl⟩:=vk h2;have hpq:p<q:=by simpa using c1
  exact .inr ⟨p,q,oq,A',B',_,_,hpq,(eF _ _ _ _).2 ⟨Nat.zero_le _,hq⟩,hq,by simpa using c2,h3,h4,pM c3,pM c4,.inl rfl,.inr rfl⟩
 ·cases h
end Ab
namespace Ab
variable {lim lim' : Nat -> Nat} {bs bs' : List Nat} {w w' : World} {P : Program} {T : kZ} {a : Act} {o : Oper} {cs : List (List AV)} {m : Nat -> Prop} {bx bx' : List (List AV)} {S S' : uP} {K : Act -> World -> Prop} {Q : Exit -> Act -> World -> Prop} {cal : BR} {σ σ' σ1 σ2 : aF}
theorem aB.prune (H:aB lim bs w σ.bx (Sl σ.tm a) m) (ks:List Nat):aB lim bs w σ.bx (Sl (prune ks σ.tm) a) m:=
 (H.sub (S':=Sl (Ab.prune ks σ.tm) a) (fun k=>⟨rfl,(WN ks σ.tm k).imp id .inr⟩)).1
theorem iK {α:Type} {l:List α} {n i:Nat} {x:α} (h:(l.take n)[i]?=some x):i<n∧l[i]?=some x:=by
 rw [List.getElem?_take] at h;split at h
 ·rename_i hi;exact ⟨hi,h⟩
 ·cases h
theorem aB.pick (H:aB lim bs w bx S m) {ids:List Nat} (hn:ids.Nodup) (hc:bD bx ids=some cs) (hcl:∀c ∈ cs,∀i ∈ AV.aA c,i ∈ ids) (hS:∀k,∀i ∈ (S k).1.ids,i ∈ ids):
  aB lim (ids.map fun i=>bs.getD i 0) w (cs.map (AV.aG ids.idxOf)) (fun k=>((S k).1.bP ids.idxOf,(S k).2)) m∧(∀(k i b:Nat),ids[k]?=some i->bs[i]?=some b->(ids.map fun i=>bs.getD i 0)[k]?=some b)∧
  ∀p g,Own w (ids.map fun i=>bs.getD i 0) (cs.map (AV.aG ids.idxOf)) (fun k=>((S k).1.bP ids.idxOf,(S k).2)) p g->∃q,Own w bs bx S q g∧((∃k,p=.t k∧q=.t k)∨∃k i j,p=.b k j∧q=.b i j∧ids[k]?=some i):=by
 obtain ⟨IZ,hcg⟩:=oP hc;have hin:∀i ∈ ids,i<bs.length:=by intro i hi;obtain ⟨k,hk,rfl⟩:=List.getElem_of_mem hi;obtain ⟨c,h1,-⟩:=hcg k _ (List.getElem?_eq_getElem hk);rw [H.len];exact (List.getElem?_eq_some_iff.1 h1).1
 have hget:∀(k b:Nat),(ids.map fun i=>bs.getD i 0)[k]?=some b->∃i,ids[k]?=some i∧bs[i]?=some b:=by
  intro k b hk;rw [List.getElem?_map] at hk;cases hi:ids[k]? with
  |none=>rw [hi] at hk;cases hk
  |some i=>
   rw [hi] at hk;simp only [Option.map_some,Option.some.injEq] at hk;have hlt:=hin i (List.mem_of_getElem? hi);refine ⟨i,rfl,?_⟩;rw [←hk];simp [hlt]
 have Qp:∀(k:Nat) (x:List AV),(cs.map (AV.aG ids.idxOf))[k]?=some x->∃c,cs[k]?=some c∧x=AV.aG ids.idxOf c:=by
  intro k x hk;rw [List.getElem?_map] at hk;cases hi:cs[k]? with
  |none=>rw [hi] at hk;cases hk
  |some c=>rw [hi] at hk;cases hk;exact ⟨c,rfl,rfl⟩
 have hsub:∀b,b ∈ (ids.map fun i=>bs.getD i 0)->b ∈ bs:=fun b hb=>by obtain ⟨k,hk⟩:=List.getElem?_of_mem hb;obtain ⟨i,-,h⟩:=hget k b hk;exact List.mem_of_getElem? h
 have Qo:=GV bs ids hin;have ho:∀p g,Own w (ids.map fun i=>bs.getD i 0) (cs.map (AV.aG ids.idxOf)) (fun k=>((S k).1.bP ids.idxOf,(S k).2)) p g->∃q,Own w bs bx S q g∧((∃k,p=.t k∧q=.t k)∨∃k i j,p=.b k j∧q=.b i j∧ids[k]?=some i):=by
  intro p g hp;cases p with
  |t k=>
   obtain ⟨h1,h2⟩:=hp;exact ⟨.t k,⟨by rw [AV.oO] at h1;exact h1,h2⟩,.inl ⟨k,rfl,rfl⟩⟩
  |b k j=>
   obtain ⟨b,x,y,v,q1,q2,q3,q4,q5,q6⟩:=hp;obtain ⟨i,h1,h2⟩:=hget k b q1;obtain ⟨c,h3,h4⟩:=hcg k i h1;obtain ⟨c',h5,h6⟩:=Qp k x q2;rw [h4] at h5;cases h5;subst h6;obtain ⟨z,hz,rfl⟩:=PD q3;rw [AV.oO] at q4;exact ⟨.b i j,⟨b,c,z,v,h2,h3,hz,q4,q5,q6⟩,.inr ⟨k,i,j,rfl,rfl,h1⟩⟩
 refine ⟨⟨by rw [List.length_map,List.length_map,IZ],xM fun i j x hi hj=>?_,fun b hb=>H.free b (hsub b hb),fun b hb=>H.mb b (hsub b hb),fun k b x hk hx=>?_,fun k=>?_,fun k=>?_,H.top,fun p g hp=>?_,fun p q g hp hq=>?_⟩,Qo,ho⟩
 ·obtain ⟨i1,a1,a2⟩:=hget i x hi;obtain ⟨j1,b1,b2⟩:=hget j x hj;have:=gm H.BX a2 b2;subst this;exact gm hn a1 b1
 ·obtain ⟨i,h1,h2⟩:=hget k b hk;obtain ⟨c,h3,h4⟩:=hcg k i h1;obtain ⟨c',h5,h6⟩:=Qp k x hx;rw [h4] at h5;cases h5;subst h6;obtain ⟨C,tl,t,g1,g2,g3⟩:=H.box i b c h2 h3;exact ⟨C,tl,t,g1,AV.Rs.bP (Iu Qo (hcl c (List.mem_of_getElem? h4))) g2,JZ g3⟩
 ·exact AV.R.bP (Iu Qo (hS k)) (H.slot k)
 ·show ((S k).1.bP _).top=true;rw [AV.zY];exact H.kN k
 ·obtain ⟨q,hq,-⟩:=ho p g hp;exact ⟨(H.own q g hq).1,fun h=>(H.own q g hq).2 (hsub g h)⟩
 ·obtain ⟨p',hp',e1⟩:=ho p g hp;obtain ⟨q',hq',e2⟩:=ho q g hq;have:=H.qO p' q' g hp' hq';subst this;rcases e1 with ⟨k,a1,a2⟩|⟨k,i,j,a1,a2,a3⟩
  ·rcases e2 with ⟨k2,b1,b2⟩|⟨k2,i2,j2,b1,b2,b3⟩
   ·rw [a2] at b2;cases b2;rw [a1,b1]
   ·rw [a2] at b2;cases b2
  ·rcases e2 with ⟨k2,b1,b2⟩|⟨k2,i2,j2,b1,b2,b3⟩
   ·rw [a2] at b2;cases b2
   ·rw [a2] at b2;cases b2;have:=gm hn a3 b3;rw [a1,b1,this]
theorem Ez:∀(n:Nat) (bx:List (List AV)) (todo seen:List Nat),∃r,reach n bx todo seen=seen++r
 |0,_,_,seen=>⟨[],by rw [reach,List.append_nil]⟩
 |n+1,bx,[],seen=>⟨[],by rw [reach,List.append_nil]⟩
 |n+1,bx,j::t,seen=>by
  rw [reach];split
  ·exact Ez n bx t seen
  ·obtain ⟨r,h⟩:=Ez n bx (AV.aA (bx.getD j [])++t) (seen++[j]);exact ⟨[j]++r,by rw [h,List.append_assoc]⟩
theorem Dh {n:Nat} {l ids:List Nat} (h:Ab.pick n bx l=some (ids,bx')):ids.Nodup∧(∀i,i<n->ids[i]?=some i)∧(∃cs,bD bx ids=some cs∧bx'=cs.map (AV.aG ids.idxOf)∧∀c ∈ cs,∀i ∈ AV.aA c,i ∈ ids)∧∀i ∈ l,i ∈ ids:=by
 unfold Ab.pick at h;split at h
 ·cases h
 rename_i cs hcs;split at h
 case isFalse=>cases h
 rename_i hc;cases h;obtain ⟨c1,c2⟩:=hc;rw [List.all_eq_true] at c1;refine ⟨vz _ _ _ _ List.nodup_range,fun i hi=>?_,⟨cs,hcs,rfl,fun c hc=>CO.1 (c1 c hc)⟩,CO.1 c2⟩;unfold nZ;obtain ⟨r,h⟩:=Ez 1000000 bx (AV.aA ((bx.take n).flatMap id)++l) (List.range n);rw [h,List.getElem?_append_left (by rw [List.length_range];exact hi),List.getElem?_range hi]
theorem KR (f:Nat->Nat):∀(tm:Tm) (k:Nat),get (J3 f tm) k=(get tm k).bP f
 |[],k=>rfl
 |(j,v)::r,k=>by
  rw [J3,bH,bH];split
  ·rfl
  ·exact KR f r k
theorem KT {i:Nat}:∀{tm:Tm} {k:Nat},i ∈ (get tm k).ids->i ∈ Um tm
 |[],k,h=>by simp [get,AV.ids] at h
 |(j,v)::r,k,h=>by
  rw [bH] at h;rw [Um];split at h
  ·exact List.mem_append_left _ h
  ·exact List.mem_append_right _ (KT h)
theorem Jp (H:aB lim bs w σ.bx (Sl σ.tm a) m) {n:Nat} (h:back n σ=some σ'):∃bs',aB lim bs' w σ'.bx (Sl σ'.tm a) m∧∀(i b:Nat),i<n->bs[i]?=some b->bs'[i]?=some b:=by
 unfold back at h;split at h
 ·cases h
 rename_i ids uU hp;cases h;obtain ⟨h1,h2,⟨cs,h3,rfl,h4⟩,h5⟩:=Dh hp;obtain ⟨HP,Qo,-⟩:=H.pick h1 h3 h4 (fun k i hi=>h5 i (KT (tm:=σ.tm) (k:=k) hi));refine ⟨_,?_,fun i b hi hb=>Qo i i b (h2 i hi) hb⟩;have:(Sl (J3 ids.idxOf σ.tm) a)=fun k=>((Sl σ.tm a k).1.bP ids.idxOf,(Sl σ.tm a k).2):=by funext k;unfold Sl;rw [KR]
 show aB lim _ w _ (Sl (J3 ids.idxOf σ.tm) a) m;rw [this];exact HP
def WU:zV->Exit
 |.normal=> .normal
 |.exit i=> .exit i
 |.ret=> .ret
theorem qR (x:Operand) (H:aB lim bs w σ.bx (Sl σ.tm a) m) {t:Bool} (h:val σ.tm x=.bool t):a.eval x=.bool t:=by
 cases x with
 |tmp k=>
  have h1:=H.slot k;rw [show (Sl σ.tm a k).1=get σ.tm k from rfl,show get σ.tm k=.bool t from h,AV.R] at h1;exact h1
 |const v=>
  have h1:cst v=.bool t:=h;unfold cst at h1;split at h1<;>first|(cases h1;done)|(cases h1;rfl)|(split at h1<;>cases h1)
 |func f=>cases h
 |global g=>cases h
def CW (P:Program) (n:Nat) (Q:Exit->Act->World->Prop) (a:Act) (w:World):Code->Prop
 |.loop x=>Code.rounds P x Q n a w
 |c=>c.wp P Q a w
theorem CW.wp {n:Nat}:∀{c:Code},CW P n Q a w c->c.wp P Q a w:=by
 intro c h;cases c<;>first|exact h|exact wp_loop_rounds n h
theorem uG {n0:Nat} (hb:n0<=bs.length) (h:∀(i b:Nat),i<n0->bs[i]?=some b->bs'[i]?=some b):n0<=bs'.length:=by
 rcases Nat.eq_zero_or_pos n0 with e|e
 ·omega
 ·have:=h (n0-1) _ oM (List.getElem?_eq_getElem (show n0-1<bs.length by omega));have:=(List.getElem?_eq_some_iff.1 this).1;omega
theorem Kv (HT:mM P T) (HC:fB P cal) {an:Gm} {base i n0:Nat} {ops:Array Oper} {draw:Bool} (hg:jK n0 (.region i ops draw)=true) (hn:n0<=a.tmps.size) (hbase:base<=σ.bx.length) (H:aB lim bs w σ.bx (Sl σ.tm a) m) (hm:∀b,w.heap.size<=b->m b) (h:yX cal T an base i ops draw σ=some σ') (hK:kJ base m lim bs w a σ' (Q .normal)):(Code.region i ops draw).wp P Q a w:=by
 rw [jK,Bool.and_eq_true] at hg;have hdst:∀o ∈ ops.toList,∀d,o.dst=some d->d<a.tmps.size:=by intro o ho d hd;have h1:=hg.1;rw [List.all_eq_true] at h1;have:=h1 o ho;rw [hd] at this;simp only [decide_eq_true_eq] at this;exact Nat.lt_of_lt_of_le this hn
 have hpr:∀{τ:aF},kJ base m lim bs w a (EC an i τ) (Q .normal)->kJ base m lim bs w a τ (Q .normal):=fun h lim' bs' w' a' hgo=>h lim' bs' w' a' ⟨hgo.hold.prune _,hgo.fr,hgo.pre,hgo.nt,hgo.df⟩;unfold yX at h;split at h
 ·cases hr:dJ cal T ops.toList ⟨qU ops.toList++an.adl,an.arr,base⟩ ops.toList σ with
  |none=>rw [hr] at h;cases h
  |some τ=>
   rw [hr] at h;cases h;exact wp_region_list (xP (md:=⟨qU ops.toList++an.adl,an.arr,base⟩) HT HC hdst ops.toList (fun _ h=>h) rfl H hm hr (hpr hK))
 ·have hko:qK ops.toList=true:=by simpa using hg.2
  split at h
  ·cases hr:Af cal T ⟨qU ops.toList,an.arr,base⟩ ops.toList σ with
   |none=>rw [hr] at h;cases h
   |some τ=>
    rw [hr] at h;cases h;refine BA (md:=⟨qU ops.toList,an.arr,base⟩) HT HC rfl hko hdst H hm (KY hr) (fun σ' hF=>?_);subst hF;exact (hpr hK).all
  ·split at h
   ·cases h
   rename_i σa σb hr;split at h
   ·rename_i τ τ' h1 h2;split at h
    ·rename_i he;cases h;have he:=aaC he;rw [←he] at h2;refine BA (md:=⟨qU ops.toList,an.arr,base⟩) HT HC rfl hko hdst H hm (Tn hr) (fun ρ hF=>?_);have hb:∃ρ0,ρ0=EC an i ρ∧back σ.bx.length ρ0=some σ':=by
      rcases hF with e|e
      ·exact ⟨_,rfl,by rw [e];exact h1⟩
      ·exact ⟨_,rfl,by rw [e];exact h2⟩
     obtain ⟨ρ0,e0,hb⟩:=hb;intro lim' bs' w' a' hgo;have hP:=hgo.hold.prune (an.live.getD i []);obtain ⟨wR,g1,g2⟩:=Jp (σ:=ρ0) (by rw [e0];exact hP) hb;exact hK lim' wR w' a' ⟨g1,hgo.fr,fun j b hj hb=>g2 j b oM (hgo.pre j b hb),hgo.nt,hgo.df⟩
    ·cases h
   ·cases h
theorem Qz (HT:mM P T) (HC:fB P cal) {an:Gm} {base n0:Nat}:∀(n:Nat) (c:Code) {lim:Nat->Nat} {bs:List Nat} {w:World} {σ σ':aF} {a:Act} {e:zV} {Q:Exit->Act->World->Prop},jK n0 c=true->n0<=a.tmps.size->base<=σ.bx.length->aB lim bs w σ.bx (Sl σ.tm a) m->(∀b,w.heap.size<=b->m b)->yt cal T an base n c σ=some (e,σ')->kJ base m lim bs w a σ' (Q (WU e))->CW P n Q a w c:=by
 intro n
 induction n with
 |zero=>intro c lim bs w σ σ' a e Q _ _ _ _ _ h _;unfold yt at h;cases h
 |succ n ih=>
  intro c lim bs w σ σ' a e Q hg hn hb H hm h hK;have hlen:∀{lim':Nat->Nat} {bs':List Nat} {w':World} {a':Act} {τ:aF},rW base m lim bs w a τ lim' bs' w' a'->base<=τ.bx.length:=fun hgo=>by have:=uG (by rw [H.len];exact hb) hgo.pre;rw [hgo.hold.len] at this;exact this
  unfold yt at h;split at h
  ·cases h;exact wp_skip (hK lim bs w a ⟨H,Fr.refl,fun _ _ _ h=>h,rfl,rfl⟩)
  ·rename_i i ops draw;split at h
   ·rename_i σ1 h1;cases h;exact Kv HT HC hg hn hb H hm h1 hK
   ·cases h
  ·rename_i x y;rw [jK,Bool.and_eq_true] at hg;split at h
   ·rename_i σ1 h1;refine wp_seq (CW.wp<|ih x hg.1 hn hb H hm h1 fun eQ mY w1 a1 hgo=>?_);exact CW.wp<|ih y hg.2 (by rw [hgo.nt];exact hn) (hlen hgo) hgo.hold (fun b hb=>hm b (Nat.le_trans hgo.fr.bel.size hb)) h (fun jB wR w2 a2 hg2=>hK jB wR w2 a2 (hgo.trans hg2))
   ·rename_i hne;refine wp_seq (CW.wp<|ih x hg.1 hn hb H hm h fun eQ mY w1 a1 hgo=>?_);cases e with
    |normal=>exact absurd h (hne _)
    |exit i=>exact hK eQ mY w1 a1 hgo
    |ret=>exact hK eQ mY w1 a1 hgo
  ·rename_i x y z;rw [jK,Bool.and_eq_true] at hg;split at h
   ·rename_i t ht;refine wp_cond (qR x H ht) ?_;refine CW.wp<|ih _ ?_ hn hb H hm h hK
    cases t
    ·exact hg.2
    ·exact hg.1
   ·cases h
  ·rename_i i x;rw [jK] at hg;split at h
   ·rename_i j σ1 h1;cases h;refine wp_block (CW.wp<|ih x hg hn hb H hm h1 fun eQ mY w1 a1 hgo=>?_);show if j=i then Q .normal a1 w1 else Q (.exit j) a1 w1;have:=hK eQ mY w1 a1 hgo;split
    ·rename_i e;rw [if_pos e] at this;exact this
    ·rename_i e;rw [if_neg e] at this;exact this
   ·rename_i hne;refine wp_block (CW.wp<|ih x hg hn hb H hm h fun eQ mY w1 a1 hgo=>?_);cases e with
    |normal=>exact hK eQ mY w1 a1 hgo
    |exit j=>exact absurd h (hne _ _)
    |ret=>exact hK eQ mY w1 a1 hgo
  ·rename_i x;rw [jK] at hg;show x.wp P (Exit.then (Code.rounds P x Q n) Q) a w;split at h
   ·rename_i σ1 h1;split at h
    ·rename_i σ2 h2;refine CW.wp (ih x hg hn hb H hm h1 fun eQ mY w1 a1 hgo=>?_);obtain ⟨wR,g1,g2⟩:=Jp hgo.hold h2;have hg1:rW base m lim bs w a σ2 eQ wR w1 a1:=⟨g1,hgo.fr,fun i b hi hbb=>g2 i b oM (hgo.pre i b hi hbb),hgo.nt,hgo.df⟩;exact ih (.loop x) (by rw [jK];exact hg) (by rw [hgo.nt];exact hn) (hlen hg1) g1 (fun b hb=>hm b (Nat.le_trans hgo.fr.bel.size hb)) h (fun jB bs3 w2 a2 hg2=>hK jB bs3 w2 a2 (hg1.trans hg2))
    ·cases h
   ·rename_i hne;refine CW.wp (ih x hg hn hb H hm h fun eQ mY w1 a1 hgo=>?_);cases e with
    |normal=>exact absurd h (hne _)
    |exit i=>exact hK eQ mY w1 a1 hgo
    |ret=>exact hK eQ mY w1 a1 hgo
  ·cases h;exact wp_exit (hK lim bs w a ⟨H,Fr.refl,fun _ _ _ h=>h,rfl,rfl⟩)
  ·cases h;exact wp_ret (hK lim bs w a ⟨H,Fr.refl,fun _ _ _ h=>h,rfl,rfl⟩)
  ·cases h
theorem Tq (HT:mM P T) (HC:fB P cal) {an:Gm} {base n0 n:Nat} {c:Code} {e:zV} (hg:jK n0 c=true) (hn:n0<=a.tmps.size) (hb:base<=σ.bx.length) (H:aB lim bs w σ.bx (Sl σ.tm a) m) (hm:∀b,w.heap.size<=b->m b) (h:yt cal T an base n c σ=some (e,σ')) (hK:kJ base m lim bs w a σ' (Q (WU e))):c.wp P Q a w:=
 CW.wp (Qz HT HC n c hg hn hb H hm h hK)
end Ab
end
end Go.Proofs.YtlmjabnkjmfcmaaGreat
