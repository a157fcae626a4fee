/- Parts of a proof; no condition. -/
import Derived.Test.YtlmjabnkjmfcmaaGreatR1
namespace Go.Proofs.YtlmjabnkjmfcmaaGreat
open Go Go.RowKit Go.PlainAid
set_option linter.unusedVariables false
set_option linter.unusedSimpArgs false
set_option linter.unusedSectionVars false
set_option maxHeartbeats 20000000
set_option linter.defProp false
section
open Bk (Cm)
theorem Gu.afk {B:Nat} {v:Value} {l:List Cm} {w:World} (h:Gu B v l w):∃a cp,v=.slice a l.length cp∧CSl w (fun i=>B<=i) l a∧l.length<=cp:=by
 obtain ⟨a,cp,hv,hs⟩:=h.slice;refine ⟨a,cp,hv,hs,?_⟩;rcases h.2 with ⟨hv2,h0⟩|⟨g,cap,cur,hv2,hg,hgb,hn,hm,hs,ht⟩
 ·omega
 ·rw [hv] at hv2;cases hv2;exact hn
def yg (r:Option (List Cm×Bool×Nat)) (w:World) (e:Ending) (w':World):Prop:=
 match r with
 |some (l,same,p)=>(∃a cp,e=.returned (.tuple #[.slice a l.length cp,.bool same,.int .i64 p,.int .i64 0])∧CSl w' (fun i=>w.heap.size<=i) l a∧l.length<=cp)∧Below w.heap.size w w'
 |none=>(∃p c:Int,e=.returned (.tuple #[.slice none 0 0,.bool false,.int .i64 p,.int .i64 c])∧(c=4∨c=5))∧Below w.heap.size w w'
theorem Ef {r:Option (List Cm×Bool×Nat)} {l:List Cm} {same:Bool} {p n cp:Nat} {a:Option Addr} {w w':World} (hr:r=some (l,same,p)) (hn:n=l.length) (hs:CSl w' (fun i=>w.heap.size<=i) l a∧l.length<=cp) (hb:Below w.heap.size w w'):
  yg r w (.returned (.tuple #[.slice a n cp,.bool same,.int .i64 p,.int .i64 0])) w':=by subst hr hn;exact ⟨⟨a,cp,rfl,hs⟩,hb⟩
theorem Jn {r:Option (List Cm×Bool×Nat)} {p c:Int} {w w':World} (hr:r=none) (hc:c=4∨c=5) (hb:Below w.heap.size w w'):
  yg r w (.returned (.tuple #[.slice none 0 0,.bool false,.int .i64 p,.int .i64 c])) w':=by subst hr;exact ⟨⟨p,c,rfl,hc⟩,hb⟩
set_option maxRecDepth 100000 in
theorem QI (s:ByteArray) (q:Nat) (n:Int) (wi:Bool) (w:World) (hs:s.size<=1000000) (hq:q<=s.size):
  Calls Tryz.prog 60 #[.string s,.int .i64 q,.int .i64 n,.bool wi] w (yg (Bk.sK s q n wi) w):=by
 have hb:=get_bt s;have hh:Bk.aP s (q:Int)=q:=by unfold Bk.aP;omega
 obtain ⟨R,hR⟩:∃R,R=Bk.sK s q n wi:=⟨_,rfl⟩;rw [←hR];obtain ⟨m0,hm0⟩:∃m0,m0=decide (q=Bk.bI s q):=⟨_,rfl⟩;obtain ⟨f0,hf0⟩:∃f0,f0=Bk.bI s q:=⟨_,rfl⟩;obtain ⟨t0,ht0⟩:∃t0,t0=Bk.oI s q:=⟨_,rfl⟩;have HR:Hid (R=Bk.kF s q n wi (s.size+1) q m0 f0 [] false):=Lib.hid (by rw [hR,hm0,hf0];rfl);have akW:m0=decide (q=f0):=by rw [hm0,hf0]
 have hmm:((q:Int)==(f0:Int))=m0:=by rw [akW,Bool.eq_iff_iff];simp;omega
 have HF0:=Lib.hid hf0;have HT0:=Lib.hid ht0;have HH:=Lib.hid hh;have hmx:max 0 (min (q:Int) (s.size:Int))=q:=oM;clear hR hm0 hf0 ht0 hh akW
 go_enter Tryz.func60,Tryz.ntmps60
 go_wp2_with (go_at_call 32;refine (dC s _ _ oM).mono ?_;rintro e w' ⟨rfl,rfl⟩;rw [HH.out,←HF0.out,←HT0.out])
 have HV0:=Lib.hid (Z8 w.heap.size w);have HW0:=Lib.hid (Below.refl w.heap.size w)
 go_loopg [12,13,14,15,16,17] (s.size-q) (fun g v row tt same p met wr=>∃(l:List Cm) (rw':Nat) (t':Int) (sm:Bool) (k:Nat) (mt:Bool) (f:Nat),g=s.size-k∧k<=s.size∧s.size+1<=k+f∧l.length<=k∧row=.int .i64 rw'∧tt=.int .i64 t'∧same=.bool sm∧p=.int .i64 k∧met=.bool mt∧Hid (R=Bk.kF s q n wi f k mt rw' l sm)∧Hid (Gu w.heap.size v l wr)∧Hid (Below w.heap.size w wr))
 case atStart=>exact ⟨[],f0,t0,false,q,m0,s.size+1,rfl,hq,oM,by show 0<=q;omega,rfl,rfl,rfl,rfl,rfl,HR,HV0,HW0⟩
 case round=>
  obtain ⟨l,row,tt,same,p,met,f,rfl,hp,hf,hlp,rfl,rfl,rfl,rfl,rfl,HRR,HV,HW⟩:=hrel;obtain ⟨av,cv,hv,hsl⟩:=HV.out.afk;subst hv;have HSL:=Lib.hid hsl;obtain ⟨L,hL⟩:∃L,L=l.length:=⟨_,rfl⟩;rw [←hL] at hlp HV⊢;have N7:=Lib.hid hL;have HV2:Hid (Gu w.heap.size (.slice av L cv) l wr):=HV;clear hsl hL;by_cases hlt:p<s.size
  ·obtain ⟨f,rfl⟩:∃g,f=g+1:=⟨f-1,oM⟩;obtain ⟨fp,hfp⟩:∃fp,fp=Bk.bI s p:=⟨_,rfl⟩;obtain ⟨tp,htp⟩:∃tp,tp=Bk.oI s p:=⟨_,rfl⟩;have apF:=Bk.iF s p;have apu:=Bk.vS s p;have agj:=Bk.xq (s:=s) (k:=p) oM;rw [←hfp] at apF;rw [←htp] at apu agj;have hhp:Bk.aP s (p:Int)=p:=by unfold Bk.aP;omega
   have Eo:=Lib.hid hhp;have N8:=Lib.hid hfp;have JA:=Lib.hid htp;have HFT:Hid (fp<=tp):=Lib.hid oM;have HTZ:Hid (tp<=s.size):=Lib.hid agj;clear hfp htp hhp
   go_upto_if 41 with fail
   go_cut [13,14,17] (fun aox ttv apb wx=>wr=wx∧∃(Jw:Nat) (t':Int),aox=.int .i64 Jw∧ttv=.int .i64 t'∧apb=.bool false∧Hid (R=if Bk.dB (bt s p)=true then Bk.kF s q n wi f (p+1) false Jw l same
    else if bt s p=10 then Bk.kF s q n wi f (p+1) true Jw l same
    else if Bk.sO s p=true then Bk.kF s q n wi f tp false Jw (l++[Bk.xZ s p]) (if L=0 then decide (f0≠q) && decide (f0=Jw) else same)
    else some (l,same,p)))
   case first=>
    cases met with
    |false=>
     have H2:Hid (R=if Bk.dB (bt s p)=true then Bk.kF s q n wi f (p+1) false row l same
      else if bt s p=10 then Bk.kF s q n wi f (p+1) true row l same
      else if Bk.sO s p=true then Bk.kF s q n wi f tp false row (l++[Bk.xZ s p]) (if L=0 then decide (f0≠q) && decide (f0=row) else same)
      else some (l,same,p)):=Lib.hid (by rw [HRR.out,Bk.kF,if_pos hlt,HF0.out,N7.out,JA.out];simp)
     go_wp2_with fail
     go_meet
     exact ⟨rfl,row,tt,rfl,rfl,rfl,H2⟩
    |true=>
     obtain ⟨K,hK⟩:∃K,Bk.fE s p=K:=⟨_,rfl⟩;have HKP:=Lib.hid hK;by_cases Zy:K=3∨K=4
     ·have hr:R=(if wi=true∧p≠q then none else some (l,same,p)):=by rw [HRR.out,Bk.kF,if_pos hlt,if_pos ⟨rfl,by rw [hK];exact Zy⟩]
      clear hK;cases wi with
      |false=>
       have HE:Hid (R=some (l,same,p)):=Lib.hid (by rw [hr];rfl);clear hr;rcases Zy with rfl|rfl
       all_goals
        go_wp2_with first
         |(go_at_call 32;(with_reducible refine (dC s p _ oM).mono ?_);rintro e w' ⟨rfl,rfl⟩;rw [Eo.out,←N8.out,←JA.out])
         |(go_at_call 30;refine (jO s _ _ oM).mono ?_;rintro e w' ⟨rfl,rfl⟩;rw [Eo.out,HKP.out])
        (try simp only [Exit.inBlock,Exit.then])
        refine bodyPost_ret (gW rfl _ _ _) rfl ?_;exact Ef HE.out N7.out HSL.out HW.out
      |true=>
       by_cases hpq:p=q
       ·have HE:Hid (R=some (l,same,p)):=Lib.hid (by rw [hr,if_neg (fun h=>h.2 hpq)]);have e1:((p:Int) !=(q:Int))=false:=by simp;omega
        clear hr hpq;rcases Zy with rfl|rfl
        all_goals
         go_wp2_with first
          |(go_at_call 32;(with_reducible refine (dC s p _ oM).mono ?_);rintro e w' ⟨rfl,rfl⟩;rw [Eo.out,←N8.out,←JA.out])
          |(go_at_call 30;refine (jO s _ _ oM).mono ?_;rintro e w' ⟨rfl,rfl⟩;rw [Eo.out,HKP.out])
         (try simp only [Exit.inBlock,Exit.then])
         refine bodyPost_ret (gW rfl _ _ _) rfl ?_;exact Ef HE.out N7.out HSL.out HW.out
       ·have HE:Hid (R=none):=Lib.hid (by rw [hr,if_pos ⟨rfl,hpq⟩]);have e1:((p:Int) !=(q:Int))=true:=by simp;omega
        clear hr hpq;rcases Zy with rfl|rfl
        all_goals
         go_wp2_with first
          |(go_at_call 32;(with_reducible refine (dC s p _ oM).mono ?_);rintro e w' ⟨rfl,rfl⟩;rw [Eo.out,←N8.out,←JA.out])
          |(go_at_call 30;refine (jO s _ _ oM).mono ?_;rintro e w' ⟨rfl,rfl⟩;rw [Eo.out,HKP.out])
         (try simp only [Exit.inBlock,Exit.then])
         refine bodyPost_ret (gW rfl _ _ _) rfl ?_;exact Jn HE.out (.inr rfl) HW.out
     ·by_cases hK5:K=5
      ·subst hK5;cases wi with
       |false=>
        obtain ⟨tb,htb⟩:∃tb,Bk.OJ s fp tp=tb:=⟨_,rfl⟩;have HTB:=Lib.hid htb;by_cases akO:0<=tb
        ·have HE:Hid (R=none):=Lib.hid (by rw [HRR.out,Bk.kF,if_pos hlt,if_neg (by rw [hK];exact fun h=>by omega),if_pos ⟨rfl,hK,rfl,by rw [←N8.out,←JA.out,htb];exact akO⟩]);clear hK htb
         go_wp2_with first
          |(go_at_call 32;(with_reducible refine (dC s p _ oM).mono ?_);rintro e w' ⟨rfl,rfl⟩;rw [Eo.out,←N8.out,←JA.out])
          |(go_at_call 30;refine (jO s _ _ oM).mono ?_;rintro e w' ⟨rfl,rfl⟩;rw [Eo.out,HKP.out])
          |(go_at_call 87;refine (Un s fp tp _ oM HFT.out HTZ.out).mono ?_;rintro e w' ⟨rfl,rfl⟩;rw [HTB.out])
         (try simp only [Exit.inBlock,Exit.then])
         refine bodyPost_ret (gW rfl _ _ _) rfl ?_;exact Jn HE.out (.inl rfl) HW.out
        ·have hn1:¬(true=true∧(Bk.fE s p=3∨Bk.fE s p=4)):=by rw [hK];omega
         have hn2:¬(true=true∧Bk.fE s p=5∧false=false∧0<=Bk.OJ s (Bk.bI s p) (Bk.oI s p)):=by rw [←N8.out,←JA.out,htb];exact fun h=>akO h.2.2.2
         have hn3:¬(true=true∧Bk.fE s p=5∧false=true∧p≠q∧(Bk.uH s p:Int)<=n):=fun h=>by cases h.2.2.1
         have H2:Hid (R=if Bk.dB (bt s p)=true then Bk.kF s q n false f (p+1) false fp l same
          else if bt s p=10 then Bk.kF s q n false f (p+1) true fp l same
          else if Bk.sO s p=true then Bk.kF s q n false f tp false fp (l++[Bk.xZ s p]) (if L=0 then decide (f0≠q) && decide (f0=fp) else same)
          else some (l,same,p)):=Lib.hid (by rw [HRR.out,Bk.kF,if_pos hlt,HF0.out,N7.out,JA.out];rw [if_neg hn1,if_neg hn2,if_neg hn3,if_pos rfl,←N8.out])
         clear hK htb hn1 hn2 hn3
         go_wp2_with first
          |(go_at_call 32;(with_reducible refine (dC s p _ oM).mono ?_);rintro e w' ⟨rfl,rfl⟩;rw [Eo.out,←N8.out,←JA.out])
          |(go_at_call 30;refine (jO s _ _ oM).mono ?_;rintro e w' ⟨rfl,rfl⟩;rw [Eo.out,HKP.out])
          |(go_at_call 87;refine (Un s fp tp _ oM HFT.out HTZ.out).mono ?_;rintro e w' ⟨rfl,rfl⟩;rw [HTB.out])
         go_meet
         exact ⟨rfl,fp,tp,rfl,rfl,rfl,H2⟩
       |true=>
        by_cases hpq:p=q
        ·have hn1:¬(true=true∧(Bk.fE s p=3∨Bk.fE s p=4)):=by rw [hK];omega
         have hn2:¬(true=true∧Bk.fE s p=5∧true=false∧0<=Bk.OJ s (Bk.bI s p) (Bk.oI s p)):=fun h=>by cases h.2.2.1
         have hn3:¬(true=true∧Bk.fE s p=5∧true=true∧p≠q∧(Bk.uH s p:Int)<=n):=fun h=>h.2.2.2.1 hpq;have e0:((p:Int) !=(q:Int))=false:=by simp;omega
         have H2:Hid (R=if Bk.dB (bt s p)=true then Bk.kF s q n true f (p+1) false fp l same
          else if bt s p=10 then Bk.kF s q n true f (p+1) true fp l same
          else if Bk.sO s p=true then Bk.kF s q n true f tp false fp (l++[Bk.xZ s p]) (if L=0 then decide (f0≠q) && decide (f0=fp) else same)
          else some (l,same,p)):=Lib.hid (by rw [HRR.out,Bk.kF,if_pos hlt,HF0.out,N7.out,JA.out];rw [if_neg hn1,if_neg hn2,if_neg hn3,if_pos rfl,←N8.out])
         clear hK hn1 hn2 hn3 hpq
         go_wp2_with first
          |(go_at_call 32;(with_reducible refine (dC s p _ oM).mono ?_);rintro e w' ⟨rfl,rfl⟩;rw [Eo.out,←N8.out,←JA.out])
          |(go_at_call 30;refine (jO s _ _ oM).mono ?_;rintro e w' ⟨rfl,rfl⟩;rw [Eo.out,HKP.out])
         go_meet
         exact ⟨rfl,fp,tp,rfl,rfl,rfl,H2⟩
        ·have e0:((p:Int) !=(q:Int))=true:=by simp;omega
         obtain ⟨iN,hiN⟩:∃iN,iN=Bk.uH s p:=⟨_,rfl⟩;have HIN:=Lib.hid hiN;by_cases hin:(iN:Int)<=n
         ·have HE:Hid (R=none):=Lib.hid (by rw [HRR.out,Bk.kF,if_pos hlt,if_neg (by rw [hK];exact fun h=>by omega),if_neg (fun h=>by cases h.2.2.1),if_pos ⟨rfl,hK,rfl,hpq,by rw [←hiN];exact hin⟩]);clear hK hiN hpq
          go_wp2_with first
           |(go_at_call 32;(with_reducible refine (dC s p _ oM).mono ?_);rintro e w' ⟨rfl,rfl⟩;rw [Eo.out,←N8.out,←JA.out])
           |(go_at_call 30;refine (jO s _ _ oM).mono ?_;rintro e w' ⟨rfl,rfl⟩;rw [Eo.out,HKP.out])
           |(go_at_call 88;refine (L6 s _ _ oM).mono ?_;rintro e w' ⟨rfl,rfl⟩;rw [Eo.out,←HIN.out])
           |(go_at_call 33;refine (ou s fp tp _ oM HTZ.out).mono ?_;rintro e w' ⟨rfl,rfl⟩)
          (try simp only [Exit.inBlock,Exit.then])
          refine bodyPost_ret (gW rfl _ _ _) rfl ?_;exact Jn HE.out (.inr rfl) HW.out
         ·have hn1:¬(true=true∧(Bk.fE s p=3∨Bk.fE s p=4)):=by rw [hK];omega
          have hn2:¬(true=true∧Bk.fE s p=5∧true=false∧0<=Bk.OJ s (Bk.bI s p) (Bk.oI s p)):=fun h=>by cases h.2.2.1
          have hn3:¬(true=true∧Bk.fE s p=5∧true=true∧p≠q∧(Bk.uH s p:Int)<=n):=fun h=>hin (by rw [hiN];exact h.2.2.2.2);have H2:Hid (R=if Bk.dB (bt s p)=true then Bk.kF s q n true f (p+1) false fp l same
           else if bt s p=10 then Bk.kF s q n true f (p+1) true fp l same
           else if Bk.sO s p=true then Bk.kF s q n true f tp false fp (l++[Bk.xZ s p]) (if L=0 then decide (f0≠q) && decide (f0=fp) else same)
           else some (l,same,p)):=Lib.hid (by rw [HRR.out,Bk.kF,if_pos hlt,HF0.out,N7.out,JA.out];rw [if_neg hn1,if_neg hn2,if_neg hn3,if_pos rfl,←N8.out])
          clear hK hiN hn1 hn2 hn3 hpq
          go_wp2_with first
           |(go_at_call 32;(with_reducible refine (dC s p _ oM).mono ?_);rintro e w' ⟨rfl,rfl⟩;rw [Eo.out,←N8.out,←JA.out])
           |(go_at_call 30;refine (jO s _ _ oM).mono ?_;rintro e w' ⟨rfl,rfl⟩;rw [Eo.out,HKP.out])
           |(go_at_call 88;refine (L6 s _ _ oM).mono ?_;rintro e w' ⟨rfl,rfl⟩;rw [Eo.out,←HIN.out])
          go_meet
          exact ⟨rfl,fp,tp,rfl,rfl,rfl,H2⟩
      ·have hn1:¬(true=true∧(Bk.fE s p=3∨Bk.fE s p=4)):=by rw [hK];exact fun h=>Zy h.2
       have hn2:¬(true=true∧Bk.fE s p=5∧wi=false∧0<=Bk.OJ s (Bk.bI s p) (Bk.oI s p)):=fun h=>hK5 (by rw [←hK];exact h.2.1);have hn3:¬(true=true∧Bk.fE s p=5∧wi=true∧p≠q∧(Bk.uH s p:Int)<=n):=fun h=>hK5 (by rw [←hK];exact h.2.1);have k3:(K==3)=false:=by simp;omega
       have k4:(K==4)=false:=by simp;omega
       have k5:(K==5)=false:=by simp;omega
       have H2:Hid (R=if Bk.dB (bt s p)=true then Bk.kF s q n wi f (p+1) false fp l same
        else if bt s p=10 then Bk.kF s q n wi f (p+1) true fp l same
        else if Bk.sO s p=true then Bk.kF s q n wi f tp false fp (l++[Bk.xZ s p]) (if L=0 then decide (f0≠q) && decide (f0=fp) else same)
        else some (l,same,p)):=Lib.hid (by rw [HRR.out,Bk.kF,if_pos hlt,HF0.out,N7.out,JA.out];rw [if_neg hn1,if_neg hn2,if_neg hn3,if_pos rfl,←N8.out])
       clear hK hn1 hn2 hn3
       go_wp2_with first
        |(go_at_call 32;(with_reducible refine (dC s p _ oM).mono ?_);rintro e w' ⟨rfl,rfl⟩;rw [Eo.out,←N8.out,←JA.out])
        |(go_at_call 30;refine (jO s _ _ oM).mono ?_;rintro e w' ⟨rfl,rfl⟩;rw [Eo.out,HKP.out])
       go_meet
       exact ⟨rfl,fp,tp,rfl,rfl,rfl,H2⟩
   case rest=>
    obtain ⟨rfl,Jw,t',rfl,rfl,rfl,H2⟩:=hcut;cases hwh:Bk.dB (bt s p) with
    |true=>
     have HWH:=Lib.hid hwh;have H3:Hid (R=Bk.kF s q n wi f (p+1) false Jw l same):=Lib.hid (by rw [H2.out,if_pos hwh]);clear hwh
     go_wp2_with first
      |(go_at_call 63;refine (dU _ _).mono ?_;rintro e w' ⟨rfl,rfl⟩;rw [HWH.out])
     go_roundg (s.size-(p+1))
     case measure=>omega
     case rel=>exact ⟨l,Jw,_,same,p+1,false,f,oM,oM,oM,by rw [←N7.out];omega,rfl,rfl,rfl,by go_num,rfl,H3,HV2,HW⟩
    |false=>
     have HWH:=Lib.hid hwh;by_cases h10:bt s p=10
     ·have q10:(bt s p==10)=true:=by simp [h10]
      have W10:Bk.dB 10=false:=rfl;have H3:Hid (R=Bk.kF s q n wi f (p+1) true Jw l same):=Lib.hid (by rw [H2.out,if_neg (by rw [hwh];decide),if_pos h10]);clear hwh
      go_wp2_with first
       |(go_at_call 63;refine (dU _ _).mono ?_;rintro e w' ⟨rfl,rfl⟩;first|rw [HWH.out]|rw [W10])
      go_roundg (s.size-(p+1))
      case measure=>omega
      case rel=>exact ⟨l,Jw,_,same,p+1,true,f,oM,oM,oM,by rw [←N7.out];omega,rfl,rfl,rfl,by go_num,rfl,H3,HV2,HW⟩
     ·have q10:(bt s p==10)=false:=by simp [h10]
      cases hnt:Bk.sO s p with
      |true=>
       have HNT:=Lib.hid hnt;have htm:=Bk.Ul hlt h10;rw [←JA.out] at htm;have hez:=Bk.Yc s (p+1) tp agj;have HCZ:Hid ((s.extract (p+1) tp).size<=1000000000):=Lib.hid (by rw [hez];omega);have HCM:Hid (Bk.xZ s p=⟨Bk.ET (s.extract (p+1) tp),Bk.oC s p⟩):=Lib.hid (by unfold Bk.xZ;rw [JA.out]);have h3:R=Bk.kF s q n wi f tp false Jw (l++[Bk.xZ s p]) (if L=0 then decide (f0≠q) && decide (f0=Jw) else same):=by rw [H2.out,if_neg (by rw [hwh];decide),if_neg h10,if_pos hnt]
       clear hwh hnt;by_cases hL0:L=0
       ·rw [if_pos hL0] at h3;subst hL0;by_cases hfq:f0=q
        ·have H3:Hid (R=Bk.kF s q n wi f tp false Jw (l++[Bk.xZ s p]) false):=Lib.hid (by rw [h3];simp [hfq]);have e1:((f0:Int) !=(q:Int))=false:=by simp;omega
         clear h3 hfq
         go_wp2_with first
          |(go_at_call 32;(with_reducible refine (dC s p _ oM).mono ?_);rintro e w' ⟨rfl,rfl⟩;rw [Eo.out,←N8.out,←JA.out])
          |(go_at_call 32;(with_reducible refine (dC s q _ oM).mono ?_);rintro e w' ⟨rfl,rfl⟩;rw [HH.out,←HF0.out,←HT0.out])
          |(go_at_call 63;refine (dU _ _).mono ?_;rintro e w' ⟨rfl,rfl⟩;rw [HWH.out])
          |(go_at_call 89;refine (zn s p _ oM hlt).mono ?_;rintro e w' ⟨rfl,rfl⟩;rw [HNT.out])
          |(go_at_call 34;refine (D8 _ _ HCZ.out).mono ?_;rintro e w' ⟨rfl,rfl⟩)
          |(go_at_call 90;refine (uA s _ _ oM).mono ?_;rintro e w' ⟨rfl,rfl⟩;rw [Eo.out])
          |(at_builtin;refine NP (w0:=w) rfl (.tmp 145) (.tmp 156) rfl _ l (Bk.xZ s p) rfl rfl HV (by rw [←N7.out];omega) (by rw [HCM.out]) HW ?_;intro v3 w3 HV3 HW3)
         go_roundg (s.size-tp)
         case measure=>omega
         case rel=>exact ⟨_,Jw,_,false,tp,false,f,oM,oM,oM,by rw [List.length_append,←N7.out];show 0+1<=tp;omega,rfl,rfl,rfl,rfl,rfl,H3,HV3,HW3⟩
        ·by_cases hfr:f0=Jw
         ·have H3:Hid (R=Bk.kF s q n wi f tp false Jw (l++[Bk.xZ s p]) true):=Lib.hid (by rw [h3,decide_eq_true hfq,decide_eq_true hfr];rfl);have e1:((f0:Int) !=(q:Int))=true:=by simp;omega
          have e2:((f0:Int)==(Jw:Int))=true:=by simp;omega
          clear h3 hfq hfr
          go_wp2_with first
           |(go_at_call 32;(with_reducible refine (dC s p _ oM).mono ?_);rintro e w' ⟨rfl,rfl⟩;rw [Eo.out,←N8.out,←JA.out])
           |(go_at_call 32;(with_reducible refine (dC s q _ oM).mono ?_);rintro e w' ⟨rfl,rfl⟩;rw [HH.out,←HF0.out,←HT0.out])
           |(go_at_call 63;refine (dU _ _).mono ?_;rintro e w' ⟨rfl,rfl⟩;rw [HWH.out])
           |(go_at_call 89;refine (zn s p _ oM hlt).mono ?_;rintro e w' ⟨rfl,rfl⟩;rw [HNT.out])
           |(go_at_call 34;refine (D8 _ _ HCZ.out).mono ?_;rintro e w' ⟨rfl,rfl⟩)
           |(go_at_call 90;refine (uA s _ _ oM).mono ?_;rintro e w' ⟨rfl,rfl⟩;rw [Eo.out])
           |(at_builtin;refine NP (w0:=w) rfl (.tmp 145) (.tmp 156) rfl _ l (Bk.xZ s p) rfl rfl HV (by rw [←N7.out];omega) (by rw [HCM.out]) HW ?_;intro v3 w3 HV3 HW3)
          go_roundg (s.size-tp)
          case measure=>omega
          case rel=>exact ⟨_,Jw,_,true,tp,false,f,oM,oM,oM,by rw [List.length_append,←N7.out];show 0+1<=tp;omega,rfl,rfl,by first|rfl|rw [e2]|(rw [e1,e2];rfl),rfl,rfl,H3,HV3,HW3⟩
         ·have H3:Hid (R=Bk.kF s q n wi f tp false Jw (l++[Bk.xZ s p]) false):=Lib.hid (by rw [h3,decide_eq_true hfq,decide_eq_false hfr];rfl);have e1:((f0:Int) !=(q:Int))=true:=by simp;omega
          have e2:((f0:Int)==(Jw:Int))=false:=by simp;omega
          clear h3 hfq hfr
          go_wp2_with first
           |(go_at_call 32;(with_reducible refine (dC s p _ oM).mono ?_);rintro e w' ⟨rfl,rfl⟩;rw [Eo.out,←N8.out,←JA.out])
           |(go_at_call 32;(with_reducible refine (dC s q _ oM).mono ?_);rintro e w' ⟨rfl,rfl⟩;rw [HH.out,←HF0.out,←HT0.out])
           |(go_at_call 63;refine (dU _ _).mono ?_;rintro e w' ⟨rfl,rfl⟩;rw [HWH.out])
           |(go_at_call 89;refine (zn s p _ oM hlt).mono ?_;rintro e w' ⟨rfl,rfl⟩;rw [HNT.out])
           |(go_at_call 34;refine (D8 _ _ HCZ.out).mono ?_;rintro e w' ⟨rfl,rfl⟩)
           |(go_at_call 90;refine (uA s _ _ oM).mono ?_;rintro e w' ⟨rfl,rfl⟩;rw [Eo.out])
           |(at_builtin;refine NP (w0:=w) rfl (.tmp 145) (.tmp 156) rfl _ l (Bk.xZ s p) rfl rfl HV (by rw [←N7.out];omega) (by rw [HCM.out]) HW ?_;intro v3 w3 HV3 HW3)
          go_roundg (s.size-tp)
          case measure=>omega
          case rel=>exact ⟨_,Jw,_,false,tp,false,f,oM,oM,oM,by rw [List.length_append,←N7.out];show 0+1<=tp;omega,rfl,rfl,by first|rfl|rw [e2]|(rw [e1,e2];rfl),rfl,rfl,H3,HV3,HW3⟩
       ·rw [if_neg hL0] at h3;have H3:=Lib.hid h3;clear h3
        go_wp2_with first
         |(go_at_call 32;(with_reducible refine (dC s p _ oM).mono ?_);rintro e w' ⟨rfl,rfl⟩;rw [Eo.out,←N8.out,←JA.out])
         |(go_at_call 63;refine (dU _ _).mono ?_;rintro e w' ⟨rfl,rfl⟩;rw [HWH.out])
         |(go_at_call 89;refine (zn s p _ oM hlt).mono ?_;rintro e w' ⟨rfl,rfl⟩;rw [HNT.out])
         |(go_at_call 34;refine (D8 _ _ HCZ.out).mono ?_;rintro e w' ⟨rfl,rfl⟩)
         |(go_at_call 90;refine (uA s _ _ oM).mono ?_;rintro e w' ⟨rfl,rfl⟩;rw [Eo.out])
         |(at_builtin;refine NP (w0:=w) rfl (.tmp 145) (.tmp 156) rfl _ l (Bk.xZ s p) rfl rfl HV (by rw [←N7.out];omega) (by rw [HCM.out]) HW ?_;intro v3 w3 HV3 HW3)
        go_roundg (s.size-tp)
        case measure=>omega
        case rel=>exact ⟨_,Jw,_,same,tp,false,f,oM,oM,oM,by rw [List.length_append,←N7.out];show L+1<=tp;omega,rfl,rfl,rfl,rfl,rfl,H3,HV3,HW3⟩
      |false=>
       have HNT:=Lib.hid hnt;have HE:Hid (R=some (l,same,p)):=Lib.hid (by rw [H2.out,if_neg (by rw [hwh];decide),if_neg h10,if_neg (by rw [hnt];decide)]);clear hwh hnt
       go_wp2_with first
        |(go_at_call 63;refine (dU _ _).mono ?_;rintro e w' ⟨rfl,rfl⟩;rw [HWH.out])
        |(go_at_call 89;refine (zn s p _ oM hlt).mono ?_;rintro e w' ⟨rfl,rfl⟩;rw [HNT.out])
       (try simp only [Exit.inBlock,Exit.then])
       refine bodyPost_ret (gW rfl _ _ _) rfl ?_;exact Ef HE.out N7.out HSL.out HW.out
  ·have HE:Hid (R=some (l,same,p)):=Lib.hid (by
    obtain ⟨f,rfl⟩:∃g,f=g+1:=⟨f-1,oM⟩;rw [HRR.out,Bk.kF,if_neg hlt])
   go_wp2_with fail
   (try simp only [Exit.inBlock,Exit.then])
   refine bodyPost_ret (gW rfl _ _ _) rfl ?_;exact Ef HE.out N7.out HSL.out HW.out
theorem NJ (s:ByteArray) (q:Nat) (n:Int) (wi:Bool) (r:Option (List Cm×Bool×Nat)) (w:World) (hs:s.size<=1000000) (hq:q<=s.size) (hr:Bk.sK s q n wi=r):
  Calls Tryz.prog 60 #[.string s,.int .i64 q,.int .i64 n,.bool wi] w (yg r w):=by subst hr;exact QI s q n wi w hs hq
theorem Ya (s:ByteArray) (q:Nat) (w:World) (hs:s.size<=1000000) (hq:q<=s.size):
  Calls Tryz.prog 29 #[.string s,.int .i64 q] w (yg (Bk.sK s q 0 false) w):=by
 cases hr:Bk.sK s q 0 false with
 |none=>
  go_enter Tryz.func29,Tryz.ntmps29
  go_wp2_with (go_at_call 60;refine (NJ s q 0 false _ _ hs hq hr).mono ?_;rintro e w1 ⟨⟨p,c,rfl,hc⟩,hb⟩)
  (try simp only [Exit.inBlock,Exit.then])
  refine bodyPost_ret (gW rfl _ _ _) rfl ?_;exact ⟨⟨p,c,rfl,hc⟩,hb⟩
 |some x=>
  obtain ⟨l,same,p⟩:=x
  go_enter Tryz.func29,Tryz.ntmps29
  go_wp2_with (go_at_call 60;refine (NJ s q 0 false _ _ hs hq hr).mono ?_;rintro e w1 ⟨⟨a,cp,rfl,hsl⟩,hb⟩)
  (try simp only [Exit.inBlock,Exit.then])
  refine bodyPost_ret (gW rfl _ _ _) rfl ?_;exact ⟨⟨a,cp,rfl,hsl⟩,hb⟩
theorem Rj (s:ByteArray) (q:Nat) (n:Int) (w:World) (hs:s.size<=1000000) (hq:q<=s.size):
  Calls Tryz.prog 159 #[.string s,.int .i64 q,.int .i64 n] w (yg (Bk.sK s q n true) w):=by
 cases hr:Bk.sK s q n true with
 |none=>
  go_enter Tryz.func159,Tryz.ntmps159
  go_wp2_with (go_at_call 60;refine (NJ s q n true _ _ hs hq hr).mono ?_;rintro e w1 ⟨⟨p,c,rfl,hc⟩,hb⟩)
  (try simp only [Exit.inBlock,Exit.then])
  refine bodyPost_ret (gW rfl _ _ _) rfl ?_;exact ⟨⟨p,c,rfl,hc⟩,hb⟩
 |some x=>
  obtain ⟨l,same,p⟩:=x
  go_enter Tryz.func159,Tryz.ntmps159
  go_wp2_with (go_at_call 60;refine (NJ s q n true _ _ hs hq hr).mono ?_;rintro e w1 ⟨⟨a,cp,rfl,hsl⟩,hb⟩)
  (try simp only [Exit.inBlock,Exit.then])
  refine bodyPost_ret (gW rfl _ _ _) rfl ?_;exact ⟨⟨a,cp,rfl,hsl⟩,hb⟩
end
end Go.Proofs.YtlmjabnkjmfcmaaGreat
