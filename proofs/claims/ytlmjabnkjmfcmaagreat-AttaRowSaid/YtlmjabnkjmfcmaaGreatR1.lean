/- Parts of a proof; no condition. -/
import Derived.PlainAid
import Derived.Test.YtlmjabnkjmfcmaaGreatProg
import Derived.WalkSpells
import Derived.WalkLawsBesides
import Derived.Handy
import Derived.Lib.Hide
import Derived.Shelf.Strings.Repeat
import Derived.Shelf.Strings.LastIndex
import Derived.Shelf.Strings.Search1
import Derived.BigQuiet
import Derived.Laws.AppendOwnNone
import Derived.Lib.AppendZerosOnto
import Derived.Deep.AppendLies
import Derived.Deep.MidRow
import Derived.Great.BuildSlice
import Derived.Test.YtlmjabnkjmfcmaaGreatR0
namespace Go.Proofs.YtlmjabnkjmfcmaaGreat
open Go Go.RowKit Go.PlainAid
set_option linter.unusedVariables false
set_option linter.unusedSimpArgs false
set_option linter.unusedSectionVars false
set_option maxHeartbeats 20000000
set_option linter.defProp false
namespace Bk
def rZ (p:Nat->Bool):Nat->Nat->Nat
 |0,_=>0
 |f+1,k=>if p k then rZ p f (k+1)+1 else 0
theorem CV (p:Nat->Bool):∀f k,rZ p f k<=f
 |0,_=>Nat.le_refl _
 |f+1,k=>by
  unfold rZ;split
  ·have:=CV p f (k+1);omega
  ·omega
theorem Pq (p:Nat->Bool):∀f k j,j<rZ p f k->p (k+j)=true
 |0,k,j,h=>by simp [rZ] at h
 |f+1,k,j,h=>by
  unfold rZ at h;split at h
  ·rename_i hp;cases j with
   |zero=>exact hp
   |succ j=>have:=Pq p f (k+1) j oM;rw [show k+(j+1)=k+1+j from by omega];exact this
  ·omega
theorem CX (p:Nat->Bool):∀f k,rZ p f k<f->p (k+rZ p f k)=false
 |0,k,h=>by simp [rZ] at h
 |f+1,k,h=>by
  unfold rZ at h⊢;split
  ·rename_i hp;rw [if_pos hp] at h;have:=CX p f (k+1) oM;rw [show k+(rZ p f (k+1)+1)=k+1+rZ p f (k+1) from by omega];exact this
  ·rename_i hp;simpa using hp
theorem GM {p:Nat->Bool} {f k n:Nat} (h:n<=f) (h1:∀j,j<n->p (k+j)=true) (h2:n<f->p (k+n)=false):rZ p f k=n:=by
 have a:=CV p f k;rcases Nat.lt_trichotomy (rZ p f k) n with h3|h3|h3
 ·have:=CX p f k oM;rw [h1 _ h3] at this;exact absurd this dE
 ·exact h3
 ·have b:=Pq p f k n h3;rw [h2 oM] at b;exact absurd b dE
def qB (p:Nat->Bool):Nat->Nat
 |0=>0
 |k+1=>if p k then qB p k else k+1
theorem Jq (p:Nat->Bool):∀k,qB p k<=k
 |0=>Nat.le_refl _
 |k+1=>by
  unfold qB;split
  ·have:=Jq p k;omega
  ·omega
theorem Lu (p:Nat->Bool):∀k j,qB p k<=j->j<k->p j=true
 |0,j,_,h=>by omega
 |k+1,j,h0,h=>by
  unfold qB at h0;split at h0
  ·rename_i hp;by_cases e:j=k
   ·subst e;exact hp
   ·exact Lu p k j h0 oM
  ·omega
theorem Lt (p:Nat->Bool):∀k,0<qB p k->p (qB p k-1)=false
 |0,h=>by simp [qB] at h
 |k+1,h=>by
  unfold qB at h⊢;split
  ·rename_i hp;rw [if_pos hp] at h;exact Lt p k h
  ·rename_i hp;simpa using hp
theorem aaG {p:Nat->Bool} {k n:Nat} (h:n<=k) (h1:∀j,n<=j->j<k->p j=true) (h2:0<n->p (n-1)=false):qB p k=n:=by
 have a:=Jq p k;rcases Nat.lt_trichotomy (qB p k) n with h3|h3|h3
 ·have:=Lu p k (n-1) oM oM;rw [h2 oM] at this;exact absurd this dE
 ·exact h3
 ·have b:=Lt p k oM;rw [h1 _ oM oM] at b;exact absurd b dE
def nU (s:ByteArray) (k:Nat):Bool:=bt s k !=10
def aP (s:ByteArray) (a:Int):Nat:=min a.toNat s.size
theorem pW (s:ByteArray) (a:Int):aP s a<=s.size:=Nat.min_le_right _ _
def bI (s:ByteArray) (k:Nat):Nat:=qB (nU s) k
def oI (s:ByteArray) (k:Nat):Nat:=k+rZ (nU s) (s.size-k) k
theorem iF (s:ByteArray) (k:Nat):bI s k<=k:=Jq _ _
theorem vS (s:ByteArray) (k:Nat):k<=oI s k:=Nat.le_add_right _ _
theorem xq {s:ByteArray} {k:Nat} (h:k<=s.size):oI s k<=s.size:=by unfold oI;have:=CV (nU s) (s.size-k) k;omega
theorem X0 {s:ByteArray} {k n:Nat} (h:k<=n) (h0:n<=s.size) (h1:∀j,k<=j->j<n->bt s j≠10) (h2:n<s.size->bt s n=10):oI s k=n:=by
 unfold oI;have:rZ (nU s) (s.size-k) k=n-k:=by
  refine GM oM (fun j hj=>?_) (fun hj=>?_)
  ·unfold nU;simpa using h1 (k+j) oM oM
  ·unfold nU;rw [show k+(n-k)=n from by omega];simpa using h2 oM
 omega
theorem ZH {s:ByteArray} {k n:Nat} (h:n<=k) (h1:∀j,n<=j->j<k->bt s j≠10) (h2:0<n->bt s (n-1)=10):bI s k=n:=by
 refine aaG h (fun j a b=>?_) (fun a=>?_)
 ·unfold nU;simpa using h1 j a b
 ·unfold nU;simpa using h2 a
theorem LV {s:ByteArray} {k:Nat} (h:oI s k<s.size):bt s (oI s k)=10:=by unfold oI at h⊢;have:=CX (nU s) (s.size-k) k oM;change (bt s (k+rZ (nU s) (s.size-k) k) !=10)=false at this;simpa using this
def dB (c:Int):Bool:=c==32||c==9
def wI (c:Int):Bool:=c==44||c==91||c==93||c==123||c==125
def mG (s:ByteArray) (a:Int):Bool:=decide (a<0)||decide ((s.size:Int)<=a)||dB (bt s a.toNat)||bt s a.toNat==10
def uH (s:ByteArray) (k:Nat):Nat:=rZ (fun i=>bt s i==32) (oI s k-bI s k) (bI s k)
def iV (s:ByteArray) (k m:Nat):Nat:=k+rZ (fun i=>dB (bt s i)) (m-k) k
theorem EP {s:ByteArray} {k m:Nat} (h:k<=m):iV s k m<=m:=by unfold iV;have:=CV (fun i=>dB (bt s i)) (m-k) k;omega
theorem ER (s:ByteArray) (k m:Nat):k<=iV s k m:=Nat.le_add_right _ _
theorem Tc {s:ByteArray} {k m:Nat} (h:iV s k m<m):dB (bt s (iV s k m))=false:=by unfold iV at h⊢;exact CX (fun i=>dB (bt s i)) (m-k) k oM
theorem KW {s:ByteArray} {k m n:Nat} (h:k<=n) (h0:n<=m) (h1:∀j,k<=j->j<n->dB (bt s j)=true) (h2:n<m->dB (bt s n)=false):iV s k m=n:=by
 unfold iV;have:rZ (fun i=>dB (bt s i)) (m-k) k=n-k:=by refine GM oM (fun j hj=>h1 (k+j) oM oM) (fun hj=>?_);rw [show k+(n-k)=n from by omega];exact h2 oM
 omega
def wK (s:ByteArray) (k:Nat) (c:Int):Bool:=decide (k+3<=s.size) && bt s k==c && bt s (k+1)==c && bt s (k+2)==c
def lS (s:ByteArray) (k:Nat) (c:Int):Bool:=wK s k c && mG s ((k:Int)+3)
def fE (s:ByteArray) (k:Nat):Int:=
 if lS s (bI s k) 45 then 3 else if lS s (bI s k) 46 then 4
 else if iV s (bI s k) (oI s k)=oI s k then 1 else if bt s (iV s (bI s k) (oI s k))=35 then 2 else 5
def sN (s:ByteArray):Nat->Nat->Nat
 |0,_=>0
 |f+1,k=>if k=0 then 0 else if fE s (bI s (k-1))=1 then sN s f (bI s (k-1))+1 else 0
def oC (s:ByteArray) (k:Nat):Nat:=if iV s (bI s k) k<k then 0 else sN s s.size (bI s k)
theorem LD (s:ByteArray):∀f k,sN s f k<=k
 |0,_=>Nat.zero_le _
 |f+1,k=>by
  unfold sN;split
  ·omega
  ·split
   ·have h1:=LD s f (bI s (k-1));have h2:=iF s (k-1);omega
   ·omega
def hasB (l:ByteArray) (c:Int):Bool:=l.data.toList.any fun b=>(b.toNat:Int)==c
theorem Zw {l:ByteArray} {c:Int} {k:Nat} (h:k<l.size) (e:bt l k=c):hasB l c=true:=by
 unfold hasB;rw [List.any_eq_true];refine ⟨l[k],?_,?_⟩
 ·exact Array.mem_toList_iff.2 (Array.getElem_mem h)
 ·have:=get_bt l k h;simp [this,e]
theorem acE {l:ByteArray} {c:Int} (h:∀k,k<l.size->bt l k≠c):hasB l c=false:=by unfold hasB;rw [List.any_eq_false];intro b hb;obtain ⟨k,hk,rfl⟩:=Array.getElem_of_mem (Array.mem_toList_iff.1 hb);have h1:=h k hk;have h2:=get_bt l k hk;simp only [beq_iff_eq];intro h3;exact h1 (by rw [←h2];exact h3)
theorem I4 (l:List UInt8) (c:Int):hasB ⟨l.toArray⟩ c=(l.map fun b=>(b.toNat:Int)).contains c:=by unfold hasB;rw [Bool.eq_iff_iff];simp [List.any_eq_true]
def SH (c:Int):Bool:=[45,63,58,35,38,42,33,124,62,39,34,37,64,96].contains c||wI c
def Ue (c:Int):Bool:=decide (97<=c∧c<=122)||decide (65<=c∧c<=90)||decide (48<=c∧c<=57)||c==45
def ae9 (c:Int):Bool:=[35,59,47,63,58,64,38,61,43,36,95,46,33,126,42,39,40,41,37,44,91,93].contains c||Ue c
theorem acD (c:Int):hasB ⟨#[45,63,58,44,91,93,123,125,35,38,42,33,124,62,39,34,37,64,96]⟩ c=SH c:=by rw [I4 [45,63,58,44,91,93,123,125,35,38,42,33,124,62,39,34,37,64,96]];rw [Bool.eq_iff_iff];simp [SH,wI];omega
end Bk
theorem gV {a b:Bool} (h:a=b):Ending.returned (.bool a)=.returned (.bool b):=by rw [h]
theorem dU (c:Int) (w:World):
  Calls Tryz.prog 63 #[.int .u8 c] w fun e w'=>e=.returned (.bool (Bk.dB c))∧w=w':=by
 go_enter Tryz.func63,Tryz.ntmps63
 go_wp2
 all_goals (go_ret;refine ⟨?_,rfl⟩;simp_all [Bk.dB])
theorem Iq (l:ByteArray) (c:Int) (w:World) (hs:l.size<=4611686018427387904):
  Calls Tryz.prog 109 #[.string l,.int .u8 c] w fun e w'=>e=.returned (.bool (Bk.hasB l c))∧w=w':=by
 have hb:=get_bt l
 go_enter Tryz.func109,Tryz.ntmps109
 go_wp2
 go_loop [5] (fun i=>∃k:Nat,k<=l.size∧i=.int .i64 k∧∀j,j<k->bt l j≠c) (fun i=>l.size-(intOf i).toNat)
 case atStart=>exact ⟨0,Nat.zero_le _,rfl,fun j h=>absurd h oM⟩
 case round=>
  obtain ⟨k,hk,rfl,hall⟩:=hrel;have H:=Lib.hid hall;clear hall;by_cases hlt:k<l.size
  ·by_cases hc:bt l k=c
   ·have HY:=Lib.hid (Bk.Zw hlt hc);subst hc
    go_wp2
    go_ret
    exact ⟨gV HY.out.symm,rfl⟩
   ·have h1:(bt l k==c)=false:=by simp [hc]
    have hc':=Lib.hid hc;clear hc
    go_wp2
    go_round
    case rel=>
     refine ⟨k+1,oM,by go_num,?_⟩;intro j hj;by_cases e:j=k
     ·subst e;exact hc'.out
     ·exact H.out j oM
    case measure=>simp [intOf];omega
  ·have HN:=Lib.hid (Bk.acE (l:=l) (c:=c) (fun j hj=>H.out j oM))
   go_wp2
   go_ret
   exact ⟨gV HN.out.symm,rfl⟩
theorem Yr (c:Int) (w:World):
  Calls Tryz.prog 142 #[.int .u8 c] w fun e w'=>e=.returned (.bool (Bk.SH c))∧w=w':=by
 go_enter Tryz.func142,Tryz.ntmps142
 go_wp2_with (go_at_call 109;refine (Iq _ _ _ dE).mono ?_;rintro e w' ⟨rfl,rfl⟩)
 go_ret
 exact ⟨gV (Bk.acD c),rfl⟩
namespace Bk
theorem Zv (c:Int):hasB ⟨#[44,91,93,123,125]⟩ c=wI c:=by rw [I4 [44,91,93,123,125]];rw [Bool.eq_iff_iff];simp [wI];omega
theorem acC (c:Int):hasB ⟨#[35,59,47,63,58,64,38,61,43,36,95,46,33,126,42,39,40,41,37,44,91,93]⟩ c=[35,59,47,63,58,64,38,61,43,36,95,46,33,126,42,39,40,41,37,44,91,93].contains c:=by rw [I4 [35,59,47,63,58,64,38,61,43,36,95,46,33,126,42,39,40,41,37,44,91,93]];rfl
end Bk
theorem Ws (c:Int) (w:World):
  Calls Tryz.prog 93 #[.int .u8 c] w fun e w'=>e=.returned (.bool (Bk.wI c))∧w=w':=by
 go_enter Tryz.func93,Tryz.ntmps93
 go_wp2_with (go_at_call 109;refine (Iq _ _ _ dE).mono ?_;rintro e w' ⟨rfl,rfl⟩)
 go_ret
 exact ⟨gV (Bk.Zv c),rfl⟩
theorem J6 (c:Int) (w:World):
  Calls Tryz.prog 108 #[.int .u8 c] w fun e w'=>e=.returned (.bool (Bk.Ue c))∧w=w':=by
 go_enter Tryz.func108,Tryz.ntmps108
 go_wp2
 all_goals (go_ret;refine ⟨gV ?_,rfl⟩;rw [Bool.eq_iff_iff];simp [Bk.Ue];omega)
theorem Yl (c:Int) (w:World):
  Calls Tryz.prog 95 #[.int .u8 c] w fun e w'=>e=.returned (.bool (Bk.ae9 c))∧w=w':=by
 go_enter Tryz.func95,Tryz.ntmps95
 go_wp2_with first|(go_at_call 108;refine (J6 _ _).mono ?_;rintro e w' ⟨rfl,rfl⟩)|(go_at_call 109;refine (Iq _ _ _ dE).mono ?_;rintro e w' ⟨rfl,rfl⟩)
 all_goals (go_ret;refine ⟨gV ?_,rfl⟩;simp_all [Bk.ae9,Bk.acC])
theorem um (s:ByteArray) (a:Int) (w:World):
  Calls Tryz.prog 61 #[.string s,.int .i64 a] w fun e w'=>e=.returned (.bool (Bk.mG s a))∧w=w':=by
 have hb:=get_bt s;by_cases h0:a<0
 ·go_enter Tryz.func61,Tryz.ntmps61
  go_wp2
  go_ret
  exact ⟨gV (by simp [Bk.mG,h0]),rfl⟩
 ·obtain ⟨k,rfl⟩:=Int.eq_ofNat_of_zero_le (by omega:0<=a);by_cases h1:k<s.size
  ·go_enter Tryz.func61,Tryz.ntmps61
   go_wp2_with (go_at_call 63;refine (dU _ _).mono ?_;rintro e w' ⟨rfl,rfl⟩)
   all_goals (go_ret;refine ⟨gV ?_,rfl⟩;rw [Bool.eq_iff_iff];simp [Bk.mG, *];try omega)
  ·go_enter Tryz.func61,Tryz.ntmps61
   go_wp2
   go_ret
   exact ⟨gV (by simp [Bk.mG];omega),rfl⟩
namespace Bk
def JY:Int:=18446744073709551616
def JI (x n:Int):Nat:=(x % JY % n).toNat
theorem aca {x:Int} {n:Int} (h:0<n):(JI x n:Int)<n:=by unfold JI;have h1:=Int.emod_nonneg (x % JY) (by omega:n≠0);have h2:=Int.emod_lt_of_pos (x % JY) h;omega
theorem Y5 {x n:Int} (hn:1<=n) (hn':n<=1000000000):wrap64 ((IntKind.u64.wrap x).tmod n)=(JI x n:Int):=by
 have hl:=aca (x:=x) (n:=n) oM;have h0:0<=IntKind.u64.wrap x:=by rw [IntKind.wrap_u64];omega
 rw [Int.tmod_eq_emod_of_nonneg h0];have e:IntKind.u64.wrap x % n=(JI x n:Int):=by unfold JI JY;rw [IntKind.wrap_u64];have h1:=Int.emod_nonneg (x % 18446744073709551616) (by omega:n≠0);omega
 rw [e];exact IntWalk.wrap64_in _ ⟨oM,oM⟩
end Bk
theorem je {k:IntKind} {a b:Int} (h:a=b):Ending.returned (.int k a)=.returned (.int k b):=by rw [h]
theorem U1 (x n:Int) (w:World) (hn:1<=n) (hn':n<=1000000000):
  Calls Tryz.prog 22 #[.int .i64 x,.int .i64 n] w fun e w'=>e=.returned (.int .i64 (Bk.JI x n:Nat))∧w=w':=by
 go_enter Tryz.func22,Tryz.ntmps22
 go_wp2
 go_ret
 exact ⟨je (Bk.Y5 hn hn'),rfl⟩
namespace Bk
theorem Yc (s:ByteArray) (a b:Nat) (h:b<=s.size):(s.extract a b).size=b-a:=by simp [ByteArray.size_extract];omega
end Bk
theorem Pz {k l:IntKind} {a b c d:Int} (h:a=b) (h':c=d):Ending.returned (.tuple #[.int k a,.int l c])=.returned (.tuple #[.int k b,.int l d]):=by rw [h,h']
theorem Ag (s:ByteArray) (a:Int) (w:World):
  Calls Tryz.prog 62 #[.string s,.int .i64 a] w fun e w'=>e=.returned (.int .i64 (Bk.aP s a:Nat))∧w=w':=by
 go_enter Tryz.func62,Tryz.ntmps62
 go_wp2
 go_ret
 exact ⟨je (by unfold Bk.aP;omega),rfl⟩
theorem dC (s:ByteArray) (a:Int) (w:World) (hs:s.size<=4611686018427387903):
  Calls Tryz.prog 32 #[.string s,.int .i64 a] w fun e w'=>e=.returned (.tuple #[.int .i64 (Bk.bI s (Bk.aP s a):Nat),.int .i64 (Bk.oI s (Bk.aP s a):Nat)])∧w=w':=by
 have hb:=get_bt s;have hh:=Bk.pW s a;obtain ⟨h,hq⟩:∃h,h=Bk.aP s a:=⟨_,rfl⟩;rw [←hq] at hh⊢;have HQ:=Lib.hid hq;clear hq
 go_enter Tryz.func32,Tryz.ntmps32
 go_wp2_with (go_at_call 62;refine (Ag _ _ _).mono ?_;rintro e w' ⟨rfl,rfl⟩;rw [←HQ.out])
 go_loop [6] (fun i=>∃k:Nat,k<=h∧i=.int .i64 k∧Hid (∀j,k<=j->j<h->bt s j≠10)) (fun i=>(intOf i).toNat)
 case atStart=>exact ⟨h,Nat.le_refl _,rfl,Lib.hid fun j _ _=>by omega⟩
 case round=>
  obtain ⟨k,hk,rfl,H⟩:=hrel;by_cases hp:0<k∧bt s (k-1)≠10
  ·obtain ⟨hp,hq⟩:=hp;have h1:(bt s (k-1) !=10)=true:=by simpa using hq
   have HQ2:=Lib.hid hq;clear hq;have e1:((k:Int)-1).toNat=k-1:=oM
   go_wp2
   go_round
   case rel=>
    refine ⟨k-1,oM,by rw [Int.ofNat_sub oM];rfl,Lib.hid fun j hj hj'=>?_⟩;by_cases e:j=k-1
    ·subst e;exact HQ2.out
    ·exact H.out j oM hj'
   case measure=>simp [intOf];omega
  ·have HF:=Lib.hid (Bk.ZH hk H.out (fun h0=>by
    by_cases e:bt s (k-1)=10
    ·exact e
    ·exact absurd ⟨h0,e⟩ hp))
   have h1:0<k->(bt s (k-1) !=10)=false:=fun h0=>by
    by_cases e:bt s (k-1)=10
    ·simp [e]
    ·exact absurd ⟨h0,e⟩ hp
   clear hp;by_cases h0:0<k
   all_goals
    (try have h2:=h1 h0)
    clear h1
    go_wp2
    go_loop [7] (fun i=>∃m:Nat,h<=m∧m<=s.size∧i=.int .i64 m∧Hid (∀j,h<=j->j<m->bt s j≠10)) (fun i=>s.size-(intOf i).toNat)
    case atStart=>exact ⟨h,Nat.le_refl _,hh,rfl,Lib.hid fun j _ _=>by omega⟩
    case round=>
     obtain ⟨m,hm0,hm,rfl,HM⟩:=hrel;by_cases hlt:m<s.size
     ·by_cases hc:bt s m=10
      ·have HT:=Lib.hid (Bk.X0 hm0 hm HM.out (fun _=>hc));have h3:(bt s m !=10)=false:=by simp [hc]
       clear hc
       go_wp2
       go_ret2
       exact ⟨Pz (by rw [HF.out]) (by rw [HT.out]),rfl⟩
      ·have h3:(bt s m !=10)=true:=by simpa using hc
       have HC:=Lib.hid hc;clear hc
       go_wp2
       go_round
       case rel=>
        refine ⟨m+1,oM,oM,by go_num,Lib.hid fun j hj hj'=>?_⟩;by_cases e:j=m
        ·subst e;exact HC.out
        ·exact HM.out j hj oM
       case measure=>simp [intOf];omega
     ·have HT:=Lib.hid (Bk.X0 hm0 hm HM.out (fun h=>absurd h hlt))
      go_wp2
      go_ret2
      exact ⟨Pz (by rw [HF.out]) (by rw [HT.out]),rfl⟩
theorem L6 (s:ByteArray) (a:Int) (w:World) (hs:s.size<=4611686018427387903):
  Calls Tryz.prog 88 #[.string s,.int .i64 a] w fun e w'=>e=.returned (.int .i64 (Bk.uH s (Bk.aP s a):Nat))∧w=w':=by
 have hb:=get_bt s;have hh:=Bk.pW s a;have hf:=Bk.iF s (Bk.aP s a);have hg:=Bk.vS s (Bk.aP s a);have ht:=Bk.xq hh;have HIN:Hid (Bk.uH s (Bk.aP s a)=Bk.rZ (fun i=>bt s i==32) (Bk.oI s (Bk.aP s a)-Bk.bI s (Bk.aP s a)) (Bk.bI s (Bk.aP s a))):=Lib.hid rfl
 go_enter Tryz.func88,Tryz.ntmps88
 go_wp2_with (go_at_call 32;refine (dC _ _ _ hs).mono ?_;rintro e w' ⟨rfl,rfl⟩)
 generalize Bk.bI s (Bk.aP s a)=f at*;generalize Bk.oI s (Bk.aP s a)=t at*
 go_loop [7] (fun i=>∃n:Nat,f+n<=t∧i=.int .i64 n∧Hid (∀j,j<n->(bt s (f+j)==32)=true)) (fun i=>t-f-(intOf i).toNat)
 case atStart=>exact ⟨0,oM,rfl,Lib.hid fun j h=>absurd h oM⟩
 case round=>
  obtain ⟨n,hn,rfl,H⟩:=hrel;by_cases hlt:f+n<t
  ·by_cases hc:bt s (f+n)=32
   ·have h1:(bt s (f+n)==32)=true:=by simp [hc]
    have HC:=Lib.hid hc;clear hc
    go_wp2
    go_round
    case rel=>
     refine ⟨n+1,oM,by go_num,Lib.hid fun j hj=>?_⟩;by_cases e:j=n
     ·subst e;rw [HC.out];rfl
     ·exact H.out j oM
    case measure=>simp [intOf];omega
   ·have h1:(bt s (f+n)==32)=false:=by simpa using hc
    have HE:=Lib.hid (HIN.out.trans (Bk.GM oM H.out (fun _=>by simpa using hc)));clear hc
    go_wp2
    go_ret
    exact ⟨je (by rw [HE.out]),rfl⟩
  ·have HE:=Lib.hid (HIN.out.trans (Bk.GM oM H.out (fun _=>by omega)))
   go_wp2
   go_ret
   exact ⟨je (by rw [HE.out]),rfl⟩
theorem Yv (s:ByteArray) (a:Int) (w:World) (hs:s.size<=4611686018427387903):
  Calls Tryz.prog 31 #[.string s,.int .i64 a] w fun e w'=>e=.returned (.int .i64 ((Bk.aP s a:Nat)-(Bk.bI s (Bk.aP s a):Nat)))∧w=w':=by
 have hh:=Bk.pW s a;have hf:=Bk.iF s (Bk.aP s a)
 go_enter Tryz.func31,Tryz.ntmps31
 go_wp2_with first
  |(go_at_call 32;refine (dC _ _ _ hs).mono ?_;rintro e w' ⟨rfl,rfl⟩)
  |(go_at_call 62;refine (Ag _ _ _).mono ?_;rintro e w' ⟨rfl,rfl⟩)
 go_ret
 exact ⟨rfl,rfl⟩
theorem ou (s:ByteArray) (f t:Nat) (w:World) (hs:s.size<=4611686018427387903) (ht:t<=s.size):
  Calls Tryz.prog 33 #[.string s,.int .i64 f,.int .i64 t] w fun e w'=>e=.returned (.int .i64 (Bk.iV s f t:Nat))∧w=w':=by
 have hb:=get_bt s
 go_enter Tryz.func33,Tryz.ntmps33
 go_wp2
 go_loop [1] (fun i=>∃p:Nat,f<=p∧(p=f∨p<=t)∧i=.int .i64 p∧Hid (∀j,f<=j->j<p->Bk.dB (bt s j)=true)) (fun i=>t-(intOf i).toNat)
 case atStart=>exact ⟨f,oM,oM,rfl,Lib.hid fun j _ _=>by omega⟩
 case round=>
  obtain ⟨p,hp,hp',rfl,H⟩:=hrel;by_cases hlt:p<t
  ·cases hw:Bk.dB (bt s p) with
   |true=>
    have HC:Hid (Bk.dB (bt s p)=true):=Lib.hid hw
    go_wp2_with (go_at_call 63;refine (dU _ _).mono ?_;rintro e w' ⟨rfl,rfl⟩)
    go_round
    case rel=>
     refine ⟨p+1,oM,oM,by go_num,Lib.hid fun j hj hj'=>?_⟩;by_cases e:j=p
     ·subst e;exact HC.out
     ·exact H.out j hj oM
    case measure=>simp [intOf];omega
   |false=>
    have HE:=Lib.hid (Bk.KW (m:=t) hp oM H.out (fun _=>hw))
    go_wp2_with (go_at_call 63;refine (dU _ _).mono ?_;rintro e w' ⟨rfl,rfl⟩)
    go_ret
    exact ⟨je (by rw [HE.out]),rfl⟩
  ·have HE:Hid (Bk.iV s f t=p):=Lib.hid (by
    by_cases e:f<=t
    ·exact Bk.KW (m:=t) hp oM H.out (fun h=>absurd h hlt)
    ·unfold Bk.iV;rw [show t-f=0 from by omega];show f+0=p;omega)
   go_wp2
   go_ret
   exact ⟨je (by rw [HE.out]),rfl⟩
theorem xG {a b:ByteArray} (h:a=b):Ending.returned (.string a)=.returned (.string b):=by rw [h]
namespace Bk
def IY (c:Int):Int:=if 48<=c∧c<=57 then c-48 else if 97<=c∧c<=102 then c-97+10 else if 65<=c∧c<=70 then c-65+10 else -1
end Bk
theorem nH (c:Int) (w:World) (h0:0<=c) (h1:c<=255):Calls Tryz.prog 107 #[.int .u8 c] w fun e w'=>e=.returned (.int .i32 (Bk.IY c))∧w=w':=by
 have HX:Hid (Bk.IY c=if 48<=c∧c<=57 then c-48 else if 97<=c∧c<=102 then c-97+10 else if 65<=c∧c<=70 then c-65+10 else -1):=Lib.hid rfl;rcases (by omega:(48<=c∧c<=57)∨(97<=c∧c<=102)∨(65<=c∧c<=70)∨c<48∨(58<=c∧c<=64)∨(71<=c∧c<=96)∨103<=c) with h|h|h|h|h|h|h
 all_goals
  go_enter Tryz.func107,Tryz.ntmps107
  go_wp2
  go_ret
  exact ⟨je (by rw [HX.out];(repeat' split)<;>omega),rfl⟩
namespace Bk
theorem Nw {s:ByteArray} {k:Nat} {c:Int} (h:wK s k c=true):k+3<=s.size∧bt s k=c∧bt s (k+1)=c∧bt s (k+2)=c:=by simpa [wK,and_assoc] using h
theorem KF {s:ByteArray} {k f t:Nat} {c:Int} (hf:f<=k) (hg:k<=t) (ht:t<=s.size) (he:t<s.size->bt s t=10) (hc:c≠10) (h:wK s f c=true):f+3<=t:=by obtain ⟨h0,h1,h2,h3⟩:=Nw h;apply Nat.le_of_not_lt;intro hlt;have:=he oM;rcases (by omega:t=f∨t=f+1∨t=f+2) with e|e|e<;>rw [e] at this<;>omega
theorem ZY {s:ByteArray} {k:Nat} (h:k+3<=s.size) (c:UInt8):((s.extract k (k+3)).toList==[c,c,c])=wK s k (c.toNat:Int):=by
 have e0:=get_bt s k oM;have e1:=get_bt s (k+1) oM;have e2:=get_bt s (k+2) oM;have hl:(s.extract k (k+3)).toList=[s[k],s[k+1],s[k+2]]:=by
  rw [Lib.toList_data];have hlen:s.data.toList.length=s.size:=by simp
  simp only [ByteArray.data_extract,Array.toList_extract,List.extract_eq_take_drop];rw [show k+3-k=3 from by omega,List.drop_eq_getElem_cons oM,List.drop_eq_getElem_cons oM,List.drop_eq_getElem_cons oM];rfl
 rw [hl];unfold wK;rw [←e0,←e1,←e2,Bool.eq_iff_iff];have q:∀(a b:UInt8),((a.toNat:Int)=(b.toNat:Int))↔a=b:=fun a b=>⟨fun e=>(UInt8.toNat_inj.1 oM),fun e=>by rw [e]⟩;simp [h,q,and_assoc]
end Bk
theorem jO (s:ByteArray) (a:Int) (w:World) (hs:s.size<=4611686018427387903):
  Calls Tryz.prog 30 #[.string s,.int .i64 a] w fun e w'=>e=.returned (.int .i64 (Bk.fE s (Bk.aP s a)))∧w=w':=by
 have hb:=get_bt s;have hh:=Bk.pW s a;have hf:=Bk.iF s (Bk.aP s a);have hg:=Bk.vS s (Bk.aP s a);have ht:=Bk.xq hh;have hend:=@Bk.LV s (Bk.aP s a);have hp:=Bk.EP (s:=s) (k:=Bk.bI s (Bk.aP s a)) (m:=Bk.oI s (Bk.aP s a)) oM;have hp0:=Bk.ER s (Bk.bI s (Bk.aP s a)) (Bk.oI s (Bk.aP s a));have HK:Hid (Bk.fE s (Bk.aP s a)=if Bk.lS s (Bk.bI s (Bk.aP s a)) 45 then 3 else if Bk.lS s (Bk.bI s (Bk.aP s a)) 46 then 4
  else if Bk.iV s (Bk.bI s (Bk.aP s a)) (Bk.oI s (Bk.aP s a))=Bk.oI s (Bk.aP s a) then 1 else if bt s (Bk.iV s (Bk.bI s (Bk.aP s a)) (Bk.oI s (Bk.aP s a)))=35 then 2 else 5):=Lib.hid rfl
 obtain ⟨K,hK⟩:∃K,K=Bk.fE s (Bk.aP s a):=⟨_,rfl⟩;rw [←hK] at HK⊢;clear hK;obtain ⟨f,hF⟩:∃f,f=Bk.bI s (Bk.aP s a):=⟨_,rfl⟩;obtain ⟨t,hT⟩:∃t,t=Bk.oI s (Bk.aP s a):=⟨_,rfl⟩;rw [←hF,←hT] at hp hp0 HK;rw [←hF] at hf;rw [←hT] at hg ht hend;obtain ⟨p,hP⟩:∃p,p=Bk.iV s f t:=⟨_,rfl⟩;rw [←hP] at hp hp0 HK;have HF:=Lib.hid hF;have HT:=Lib.hid hT;have HP:=Lib.hid hP;clear hF hT hP;have hr45:Bk.wK s f 45=true->f+3<=t:=Bk.KF hf hg ht hend dE;have hr46:Bk.wK s f 46=true->f+3<=t:=Bk.KF hf hg ht hend dE;clear hend;cases hm:Bk.lS s f 45 with
 |true=>
  have HE:Hid (K=3):=Lib.hid (by rw [HK.out,hm];rfl);have hm':Bk.wK s f 45=true∧Bk.mG s ((f:Int)+3)=true:=by simpa [Bk.lS] using hm
  obtain ⟨hd,he⟩:=hm';have h3:=hr45 hd;have h1:((s.extract f (f+3)).toList==[45,45,45])=true:=(Bk.ZY oM 45).trans hd;clear hr45 hr46 hm hd
  go_enter Tryz.func30,Tryz.ntmps30
  go_wp2_with first
   |(go_at_call 32;refine (dC _ _ _ hs).mono ?_;rintro e w' ⟨rfl,rfl⟩;rw [←HF.out,←HT.out])
   |(go_at_call 61;refine (um _ _ _).mono ?_;rintro e w' ⟨rfl,rfl⟩)
  go_ret
  exact ⟨je HE.out.symm,rfl⟩
 |false=>
  cases hm2:Bk.lS s f 46 with
  |true=>
   have HE:Hid (K=4):=Lib.hid (by rw [HK.out,hm,hm2];rfl);have hm':Bk.wK s f 46=true∧Bk.mG s ((f:Int)+3)=true:=by simpa [Bk.lS] using hm2
   obtain ⟨hd,he⟩:=hm';have h3:=hr46 hd;have h1:((s.extract f (f+3)).toList==[46,46,46])=true:=(Bk.ZY oM 46).trans hd;have h2:((s.extract f (f+3)).toList==[45,45,45])=false:=by
    refine (Bk.ZY oM 45).trans ?_;show Bk.wK s f 45=false;cases h4:Bk.wK s f 45 with
    |false=>rfl
    |true=>have:=(Bk.Nw h4).2.1;have:=(Bk.Nw hd).2.1;omega
   clear hr45 hr46 hm hm2 hd
   go_enter Tryz.func30,Tryz.ntmps30
   go_wp2_with first
    |(go_at_call 32;refine (dC _ _ _ hs).mono ?_;rintro e w' ⟨rfl,rfl⟩;rw [←HF.out,←HT.out])
    |(go_at_call 61;refine (um _ _ _).mono ?_;rintro e w' ⟨rfl,rfl⟩)
   go_ret
   exact ⟨je HE.out.symm,rfl⟩
  |false=>
   have hway:t<f+3∨(f+3<=t∧Bk.mG s ((f:Int)+3)=false)∨(f+3<=t∧Bk.mG s ((f:Int)+3)=true∧((s.extract f (f+3)).toList==[45,45,45])=false∧((s.extract f (f+3)).toList==[46,46,46])=false):=by
    by_cases h3:f+3<=t
    ·cases he:Bk.mG s ((f:Int)+3) with
     |false=>exact .inr (.inl ⟨h3,rfl⟩)
     |true=>
      refine .inr (.inr ⟨h3,rfl,(Bk.ZY oM 45).trans ?_,(Bk.ZY oM 46).trans ?_⟩)
      ·simpa [Bk.lS,he] using hm
      ·simpa [Bk.lS,he] using hm2
    ·exact .inl oM
   clear hr45 hr46;have HMM:=Lib.hid (And.intro hm hm2);clear hm hm2;rcases hway with hw|⟨hw,hw2⟩|⟨hw,hw2,hw3,hw4⟩
   all_goals
    by_cases hpt:p=t
    ·have HE:Hid (K=1):=Lib.hid (by rw [HK.out,HMM.out.1,HMM.out.2,if_pos hpt];rfl);have h1:(((p:Int))==(t:Int))=true:=by simp [hpt]
     have hpt':=Lib.hid hpt;clear hpt
     go_enter Tryz.func30,Tryz.ntmps30
     go_wp2_with first
      |(go_at_call 32;refine (dC _ _ _ hs).mono ?_;rintro e w' ⟨rfl,rfl⟩;rw [←HF.out,←HT.out])
      |(go_at_call 61;refine (um _ _ _).mono ?_;rintro e w' ⟨rfl,rfl⟩)
      |(go_at_call 33;refine (ou s f t _ hs ht).mono ?_;rintro e w' ⟨rfl,rfl⟩;rw [←HP.out])
     go_ret
     exact ⟨je HE.out.symm,rfl⟩
    ·have hlt:p<t:=oM;cases hc:(bt s p==35) with
     |true=>
      have HE:Hid (K=2):=Lib.hid (by rw [HK.out,HMM.out.1,HMM.out.2];simp [hpt];simpa using hc)
      go_enter Tryz.func30,Tryz.ntmps30
      go_wp2_with first
       |(go_at_call 32;refine (dC _ _ _ hs).mono ?_;rintro e w' ⟨rfl,rfl⟩;rw [←HF.out,←HT.out])
       |(go_at_call 61;refine (um _ _ _).mono ?_;rintro e w' ⟨rfl,rfl⟩)
       |(go_at_call 33;refine (ou s f t _ hs ht).mono ?_;rintro e w' ⟨rfl,rfl⟩;rw [←HP.out])
      go_ret
      exact ⟨je HE.out.symm,rfl⟩
     |false=>
      have HE:Hid (K=5):=Lib.hid (by rw [HK.out,HMM.out.1,HMM.out.2];simp [hpt];simpa using hc)
      go_enter Tryz.func30,Tryz.ntmps30
      go_wp2_with first
       |(go_at_call 32;refine (dC _ _ _ hs).mono ?_;rintro e w' ⟨rfl,rfl⟩;rw [←HF.out,←HT.out])
       |(go_at_call 61;refine (um _ _ _).mono ?_;rintro e w' ⟨rfl,rfl⟩)
       |(go_at_call 33;refine (ou s f t _ hs ht).mono ?_;rintro e w' ⟨rfl,rfl⟩;rw [←HP.out])
      go_ret
      exact ⟨je HE.out.symm,rfl⟩
namespace Bk
theorem EN {s:ByteArray} {k:Nat} (h:k<=s.size):aP s (k:Int)=k:=by unfold aP;omega
theorem vW (s:ByteArray):∀(f g k:Nat),k<=f->k<=g->sN s f k=sN s g k
 |0,0,_,_,_=>rfl
 |0,g+1,k,h,_=>by unfold sN;rw [if_pos oM]
 |f+1,0,k,_,h=>by unfold sN;rw [if_pos oM]
 |f+1,g+1,k,h1,h2=>by
  unfold sN;by_cases h0:k=0
  ·rw [if_pos h0,if_pos h0]
  ·have:=iF s (k-1);rw [if_neg h0,if_neg h0,vW s f g (bI s (k-1)) oM oM]
def upN (s:ByteArray) (k:Nat):Nat:=sN s k k
theorem XQ (s:ByteArray):upN s 0=0:=rfl
theorem XR {s:ByteArray} {k:Nat} (h0:0<k):upN s k=if fE s (bI s (k-1))=1 then upN s (bI s (k-1))+1 else 0:=by obtain ⟨m,rfl⟩:∃m,k=m+1:=⟨k-1,oM⟩;have:=iF s (m+1-1);unfold upN;rw [show sN s (m+1) (m+1)=if m+1=0 then 0 else if fE s (bI s (m+1-1))=1 then sN s m (bI s (m+1-1))+1 else 0 from rfl,if_neg oM];rw [vW s m (bI s (m+1-1)) _ oM (Nat.le_refl _)]
theorem Xn {s:ByteArray} {k:Nat} (h:k<=s.size):oC s k=if iV s (bI s k) k<k then 0 else upN s (bI s k):=by have:=iF s k;unfold oC upN;rw [vW s s.size (bI s k) _ oM (Nat.le_refl _)]
end Bk
theorem uA (s:ByteArray) (a:Int) (w:World) (hs:s.size<=4611686018427387903):
  Calls Tryz.prog 90 #[.string s,.int .i64 a] w fun e w'=>e=.returned (.int .i64 (Bk.oC s (Bk.aP s a):Nat))∧w=w':=by
 have hh:=Bk.pW s a;have HA:=Lib.hid (Bk.Xn hh);obtain ⟨h,hH⟩:∃h,h=Bk.aP s a:=⟨_,rfl⟩;rw [←hH] at hh HA⊢;have HH:=Lib.hid hH;clear hH;have hn:=Bk.EN hh;have hf:=Bk.iF s h;have hp0:=Bk.ER s (Bk.bI s h) h;have hp:=Bk.EP (s:=s) hf;by_cases hlt:Bk.iV s (Bk.bI s h) h<h
 ·have HE:Hid (Bk.oC s h=0):=Lib.hid (by rw [HA.out,if_pos hlt])
  go_enter Tryz.func90,Tryz.ntmps90
  go_wp2_with first
   |(go_at_call 62;refine (Ag _ _ _).mono ?_;rintro e w' ⟨rfl,rfl⟩;rw [←HH.out])
   |(go_at_call 32;refine (dC s h _ hs).mono ?_;rintro e w' ⟨rfl,rfl⟩;rw [hn])
   |(go_at_call 33;refine (ou s (Bk.bI s h) h _ hs hh).mono ?_;rintro e w' ⟨rfl,rfl⟩)
  go_ret
  exact ⟨je (by rw [HE.out];rfl),rfl⟩
 ·have HE:Hid (Bk.oC s h=Bk.upN s (Bk.bI s h)):=Lib.hid (by rw [HA.out,if_neg hlt])
  go_enter Tryz.func90,Tryz.ntmps90
  go_wp2_with first
   |(go_at_call 62;refine (Ag _ _ _).mono ?_;rintro e w' ⟨rfl,rfl⟩;rw [←HH.out])
   |(go_at_call 32;refine (dC s h _ hs).mono ?_;rintro e w' ⟨rfl,rfl⟩;rw [hn])
   |(go_at_call 33;refine (ou s (Bk.bI s h) h _ hs hh).mono ?_;rintro e w' ⟨rfl,rfl⟩)
  clear hlt hp hp0 hn
  go_loop [5,7] (fun i n=>∃k m:Nat,k<=s.size∧i=.int .i64 k∧n=.int .i64 m∧k+m<=s.size∧Hid (Bk.oC s h=Bk.upN s k+m)) (fun i _=>(intOf i).toNat)
  case atStart=>exact ⟨Bk.bI s h,0,oM,rfl,rfl,oM,Lib.hid (by rw [HE.out,Nat.add_zero])⟩
  case round=>
   obtain ⟨k,m,hk,rfl,rfl,hkm,H⟩:=hrel;by_cases h0:0<k
   ·have e1:((k:Int)-1)=((k-1:Nat):Int):=oM;have hn:=Bk.EN (s:=s) (k:=k-1) oM;have hq:=Bk.iF s (k-1);have hn2:=Bk.EN (s:=s) (k:=Bk.bI s (k-1)) oM;have HS:=Lib.hid (Bk.XR (s:=s) h0);have HN:=Lib.hid hn;have HN2:=Lib.hid hn2;have E1:=Lib.hid e1;clear hn hn2 e1;cases hc:(Bk.fE s (Bk.bI s (k-1)) !=1) with
    |true=>
     have HE2:=Lib.hid (show Bk.oC s h=m from by rw [H.out,HS.out,if_neg (by simpa using hc)];omega)
     go_wp2_with first
      |(go_at_call 32;rw [E1.out];refine (dC s _ _ hs).mono ?_;rintro e w' ⟨rfl,rfl⟩;rw [HN.out])
      |(go_at_call 30;refine (jO s _ _ hs).mono ?_;rintro e w' ⟨rfl,rfl⟩;rw [HN2.out])
     go_ret
     exact ⟨je (by rw [HE2.out]),rfl⟩
    |false=>
     have HE2:=Lib.hid (show Bk.oC s h=Bk.upN s (Bk.bI s (k-1))+(m+1) from by rw [H.out,HS.out,if_pos (by simpa using hc)];omega)
     go_wp2_with first
      |(go_at_call 32;rw [E1.out];refine (dC s _ _ hs).mono ?_;rintro e w' ⟨rfl,rfl⟩;rw [HN.out])
      |(go_at_call 30;refine (jO s _ _ hs).mono ?_;rintro e w' ⟨rfl,rfl⟩;rw [HN2.out])
     go_round
     case rel=>exact ⟨Bk.bI s (k-1),m+1,oM,rfl,by go_num,oM,HE2⟩
     case measure=>simp [intOf];omega
   ·have HE2:=Lib.hid (show Bk.oC s h=m from by rw [H.out,show k=0 from by omega,Bk.XQ];omega)
    go_wp2
    go_ret
    exact ⟨je (by rw [HE2.out]),rfl⟩
namespace Bk
def CS (c:Int):Bool:=c==45||c==63||c==58
theorem aT (a b:ByteArray):(a++b).size=a.size+b.size:=by simp
theorem adh {a b:ByteArray} {j:Nat} (h:j<a.size):bt (a++b) j=bt a j:=by rw [←get_bt a j h,←get_bt (a++b) j (by rw [aT];omega)];simp [ByteArray.getElem_append_left h]
def Dq (c:UInt8):Nat->ByteArray
 |0=>ByteArray.empty
 |n+1=>Dq c n++⟨#[c]⟩
theorem xO (c:UInt8):∀n,(Dq c n).size=n
 |0=>rfl
 |n+1=>by rw [Dq,aT,xO c n];rfl
def apZ (n:Nat):ByteArray:=if n=0 then ⟨#[32]⟩ else Dq 10 n
end Bk
theorem RN (n:Int) (w:World) (hn:n<=140737488355328):
  Calls Tryz.prog 146 #[.int .i64 n] w fun e w'=>e=.returned (.string (Bk.Dq 10 n.toNat))∧w=w':=by
 have hone:({data:=#[10]}:ByteArray).size<=1:=dE
 go_enter Tryz.func146,Tryz.ntmps146
 go_wp2
 go_loop [3,4] (fun s i=>∃k:Nat,(k=0∨(k:Int)<=n)∧i=.int .i64 k∧s=.string (Bk.Dq 10 k)) (fun _ i=>n.toNat-(intOf i).toNat)
 case atStart=>exact ⟨0,.inl rfl,rfl,rfl⟩
 case round=>
  obtain ⟨k,hk,rfl,rfl⟩:=hrel;have hz:(Bk.Dq 10 k).size<=k:=by rw [Bk.xO];omega
  by_cases hlt:(k:Int)<n
  ·go_wp2
   go_round
   case rel=>exact ⟨k+1,.inr oM,by go_num,rfl⟩
   case measure=>simp [intOf];omega
  ·have hE:Hid (k=n.toNat):=Lib.hid oM
   go_wp2
   go_ret
   exact ⟨xG (by rw [hE.out]),rfl⟩
def TR (w:World) (a:Option Addr) (len:Nat) (xs:List ByteArray):Prop:=
 xs.length=len∧len<=140737488355328∧(len=0∨∃b off,a=some ⟨b,off,none⟩∧b<w.heap.size∧∀j,j<len->w.cell? ⟨b,off+j,none⟩=some (.string (xs.getD j ByteArray.empty)))
theorem TR.below {w w':World} {a:Option Addr} {len:Nat} {xs:List ByteArray} (h:TR w a len xs) (k:Below w.heap.size w w'):TR w' a len xs:=by
 obtain ⟨h1,h2,h3⟩:=h;refine ⟨h1,h2,?_⟩;rcases h3 with h3|⟨b,off,rfl,hb,hc⟩
 ·exact .inl h3
 ·refine .inr ⟨b,off,rfl,Nat.lt_of_lt_of_le hb k.size,fun j hj=>?_⟩;rw [k.cell (p:=⟨b,off+j,none⟩) hb];exact hc j hj
namespace Bk
def rowAt (xs:List ByteArray) (i:Nat):ByteArray:=xs.getD i ByteArray.empty
def I7 (xs:List ByteArray):Nat->ByteArray×Nat
 |0=>(ByteArray.empty,0)
 |i+1=>if (rowAt xs i).size=0∧0<i∧i+1<xs.length then ((I7 xs i).1,(I7 xs i).2+1)
  else ((if 0<i then (I7 xs i).1++apZ (I7 xs i).2 else (I7 xs i).1)++rowAt xs i,0)
def iL (xs:List ByteArray):Nat->Nat
 |0=>0
 |i+1=>iL xs i+(rowAt xs i).size+1
theorem zZ (xs:List ByteArray) (i:Nat):∀d,iL xs i<=iL xs (i+d)
 |0=>Nat.le_refl _
 |d+1=>by have:=zZ xs i d;show _<=iL xs (i+d)+_+1;omega
theorem CJ (xs ys:List ByteArray):∀j,iL (xs++ys) (xs.length+j)=iL xs xs.length+iL ys j
 |0=>by
  rw [Nat.add_zero];have:∀i,i<=xs.length->iL (xs++ys) i=iL xs i:=by
   intro i
   induction i with
   |zero=>intro _;rfl
   |succ i ih=>
    intro h;have e:rowAt (xs++ys) i=rowAt xs i:=by unfold rowAt;rw [List.getD_eq_getElem?_getD,List.getD_eq_getElem?_getD,List.getElem?_append_left oM]
    rw [iL,iL,ih oM,e]
  rw [this _ (Nat.le_refl _)];rfl
 |j+1=>by
  have e:rowAt (xs++ys) (xs.length+j)=rowAt ys j:=by unfold rowAt;rw [List.getD_eq_getElem?_getD,List.getD_eq_getElem?_getD,List.getElem?_append_right oM,Nat.add_sub_cancel_left]
  rw [←Nat.add_assoc,iL,iL,CJ xs ys j,e];omega
end Bk
def Own (B:Nat) (v:Value) (xs:List ByteArray) (w:World):Prop:=w.ownsRow B 9 1 v xs.length (xs.map Value.string)
theorem Own.below {B:Nat} {v:Value} {xs:List ByteArray} {w w':World} (h:Own B v xs w) (k:Below w.heap.size w w'):Own B v xs w':=by
 refine ⟨h.1,?_⟩;rcases h.2 with hn|⟨g,cap,cur,hv,hg,hgb,rest⟩
 ·exact .inl hn
 ·refine .inr ⟨g,cap,cur,hv,hg,(k.block g ?_).trans hgb,rest⟩;rcases Nat.lt_or_ge g w.heap.size with h'|h'
  ·exact h'
  ·simp [Array.getElem?_eq_none h'] at hgb
namespace Bk
theorem GR {ys:List ByteArray} {k M:Nat} (h:∀j,(rowAt ys j).size<=M):∀j,(rowAt (ys.set k ⟨#[]⟩) j).size<=M:=by
 intro j;have hj:=h j;unfold rowAt at hj⊢;rw [List.getD_eq_getElem?_getD,List.getElem?_set];by_cases e:k=j
 ·rw [if_pos e];by_cases e2:k<ys.length
  ·rw [if_pos e2];exact Nat.zero_le _
  ·rw [if_neg e2];exact Nat.zero_le _
 ·rw [if_neg e,←List.getD_eq_getElem?_getD];exact hj
def acT (s:ByteArray):Nat:=qB (fun i=>dB (bt s i)) s.size
def ET (s:ByteArray):ByteArray:=s.extract 0 (acT s)
def sO (s:ByteArray) (p:Nat):Bool:=bt s p==35 && (p==0||dB (bt s (p-1))||bt s (p-1)==10)
def OI (s:ByteArray) (t:Nat):Nat->Nat->Int
 |0,_=> -1
 |f+1,p=>if p<t then (if dB (bt s p)=true then (if bt s p=9 then (p:Int) else OI s t f (p+1)) else -1) else -1
def OJ (s:ByteArray) (p t:Nat):Int:=OI s t (t-p) p
end Bk
theorem D8 (s:ByteArray) (w:World) (hs:s.size<=1000000000):
  Calls Tryz.prog 34 #[.string s] w fun e w'=>e=.returned (.string (Bk.ET s))∧w=w':=by
 have hb:=get_bt s;have HC:Hid (Bk.acT s=Bk.qB (fun i=>Bk.dB (bt s i)) s.size):=Lib.hid rfl
 go_enter Tryz.func34,Tryz.ntmps34
 go_wp2_with fail
 go_loop [3] (fun n=>∃k:Nat,k<=s.size∧n=.int .i64 k∧Hid (Bk.acT s=Bk.qB (fun i=>Bk.dB (bt s i)) k)) (fun n=>(intOf n).toNat)
 case atStart=>exact ⟨s.size,Nat.le_refl _,rfl,HC⟩
 case round=>
  obtain ⟨k,hk,rfl,H⟩:=hrel;cases k with
  |zero=>
   have HE:Hid (Bk.ET s=s.extract 0 0):=Lib.hid (by unfold Bk.ET;rw [H.out];rfl)
   go_wp2_with fail
   go_ret
   exact ⟨xG (by rw [HE.out];simp),rfl⟩
  |succ k=>
   cases hq:Bk.dB (bt s k) with
   |true=>
    have H2:Hid (Bk.acT s=Bk.qB (fun i=>Bk.dB (bt s i)) k):=Lib.hid (by rw [H.out,Bk.qB,if_pos hq]);have HQ:=Lib.hid hq
    go_wp2_with (go_at_call 63;refine (dU _ _).mono ?_;rintro e w' ⟨rfl,rfl⟩;rw [HQ.out])
    go_round
    case rel=>exact ⟨k,oM,by go_num,H2⟩
    case measure=>simp [intOf]
   |false=>
    have HE:Hid (Bk.ET s=s.extract 0 (k+1)):=Lib.hid (by unfold Bk.ET;rw [H.out,Bk.qB,if_neg (by rw [hq];decide)]);have HQ:=Lib.hid hq
    go_wp2_with (go_at_call 63;refine (dU _ _).mono ?_;rintro e w' ⟨rfl,rfl⟩;rw [HQ.out])
    go_ret
    exact ⟨xG (by rw [HE.out]),rfl⟩
theorem zn (s:ByteArray) (p:Nat) (w:World) (hs:s.size<=1000000000) (hp:p<s.size):
  Calls Tryz.prog 89 #[.string s,.int .i64 p] w fun e w'=>e=.returned (.bool (Bk.sO s p))∧w=w':=by
 have hb:=get_bt s;have HN:Hid (Bk.sO s p=(bt s p==35 && (p==0||Bk.dB (bt s (p-1))||bt s (p-1)==10))):=Lib.hid rfl;cases q1:(bt s p==35) with
 |false=>
  have HE:Hid (Bk.sO s p=false):=Lib.hid (by rw [HN.out,q1];rfl)
  go_enter Tryz.func89,Tryz.ntmps89
  go_wp2_with fail
  go_ret
  exact ⟨gV (by rw [HE.out]),rfl⟩
 |true=>
  cases p with
  |zero=>
   have HE:Hid (Bk.sO s 0=true):=Lib.hid (by rw [HN.out,q1];rfl)
   go_enter Tryz.func89,Tryz.ntmps89
   go_wp2_with fail
   go_ret
   exact ⟨gV (by rw [HE.out]),rfl⟩
  |succ k=>
   have HE:Hid (Bk.sO s (k+1)=(Bk.dB (bt s k)||bt s k==10)):=Lib.hid (by rw [HN.out,q1];simp);cases q2:Bk.dB (bt s k) with
   |true=>
    have HQ:=Lib.hid q2;have HE2:Hid (Bk.sO s (k+1)=true):=Lib.hid (by rw [HE.out,q2];rfl)
    go_enter Tryz.func89,Tryz.ntmps89
    go_wp2_with (go_at_call 63;refine (dU _ _).mono ?_;rintro e w' ⟨rfl,rfl⟩;rw [HQ.out])
    go_ret
    exact ⟨gV (by rw [HE2.out]),rfl⟩
   |false=>
    have HQ:=Lib.hid q2;cases q3:(bt s k==10) with
    |true=>
     have HE2:Hid (Bk.sO s (k+1)=true):=Lib.hid (by rw [HE.out,q2,q3];rfl)
     go_enter Tryz.func89,Tryz.ntmps89
     go_wp2_with (go_at_call 63;refine (dU _ _).mono ?_;rintro e w' ⟨rfl,rfl⟩;rw [HQ.out])
     go_ret
     exact ⟨gV (by rw [HE2.out]),rfl⟩
    |false=>
     have HE2:Hid (Bk.sO s (k+1)=false):=Lib.hid (by rw [HE.out,q2,q3];rfl)
     go_enter Tryz.func89,Tryz.ntmps89
     go_wp2_with (go_at_call 63;refine (dU _ _).mono ?_;rintro e w' ⟨rfl,rfl⟩;rw [HQ.out])
     go_ret
     exact ⟨gV (by rw [HE2.out];simp;omega),rfl⟩
theorem Un (s:ByteArray) (p t:Nat) (w:World) (hs:s.size<=1000000000) (hp:p<=t) (ht:t<=s.size):
  Calls Tryz.prog 87 #[.string s,.int .i64 p,.int .i64 t] w fun e w'=>e=.returned (.int .i64 (Bk.OJ s p t))∧w=w':=by
 have hb:=get_bt s;obtain ⟨R,hR⟩:∃R,R=Bk.OJ s p t:=⟨_,rfl⟩;rw [←hR];have HR:Hid (R=Bk.OI s t (t-p) p):=Lib.hid (by rw [hR];rfl);clear hR
 go_enter Tryz.func87,Tryz.ntmps87
 go_wp2_with fail
 go_loop [7] (fun n=>∃k:Nat,k<=t∧n=.int .i64 k∧Hid (R=Bk.OI s t (t-k) k)) (fun n=>t-(intOf n).toNat)
 case atStart=>exact ⟨p,hp,rfl,HR⟩
 case round=>
  obtain ⟨k,hk,rfl,H⟩:=hrel;by_cases hlt:k<t
  ·obtain ⟨f,hf⟩:∃f,t-k=f+1:=⟨t-k-1,oM⟩;have hf2:t-(k+1)=f:=oM;cases hq:Bk.dB (bt s k) with
   |true=>
    have HQ:=Lib.hid hq;by_cases h9:bt s k=9
    ·have HE:Hid (R=k):=Lib.hid (by rw [H.out,hf,Bk.OI,if_pos hlt,if_pos hq,if_pos h9]);have q9:(bt s k==9)=true:=by simp [h9]
     have W9:Bk.dB 9=true:=rfl;clear hf hf2
     go_wp2_with (go_at_call 63;refine (dU _ _).mono ?_;rintro e w' ⟨rfl,rfl⟩;first|rw [HQ.out]|rw [W9])
     go_ret
     exact ⟨je (by rw [HE.out]),rfl⟩
    ·have HE:Hid (R=Bk.OI s t (t-(k+1)) (k+1)):=Lib.hid (by rw [H.out,hf,Bk.OI,if_pos hlt,if_pos hq,if_neg h9,hf2]);have q9:(bt s k==9)=false:=by simp [h9]
     clear hf hf2
     go_wp2_with (go_at_call 63;refine (dU _ _).mono ?_;rintro e w' ⟨rfl,rfl⟩;rw [HQ.out])
     go_round
     case rel=>exact ⟨k+1,oM,by go_num,HE⟩
     case measure=>simp [intOf];omega
   |false=>
    have HQ:=Lib.hid hq;have HE:Hid (R=-1):=Lib.hid (by rw [H.out,hf,Bk.OI,if_pos hlt,if_neg (by rw [hq];decide)]);clear hf hf2
    go_wp2_with (go_at_call 63;refine (dU _ _).mono ?_;rintro e w' ⟨rfl,rfl⟩;rw [HQ.out])
    go_ret
    exact ⟨je (by rw [HE.out]),rfl⟩
  ·have HE:Hid (R=-1):=Lib.hid (by rw [H.out,show t-k=0 from by omega];rfl)
   go_wp2_with fail
   go_ret
   exact ⟨je (by rw [HE.out]),rfl⟩
namespace Bk
structure Cm where
 t:ByteArray
 b:Int
def xZ (s:ByteArray) (p:Nat):Cm:=⟨ET (s.extract (p+1) (oI s p)),oC s p⟩
def kF (s:ByteArray) (q:Nat) (n:Int) (wi:Bool):Nat->Nat->Bool->Nat->List Cm->Bool->Option (List Cm×Bool×Nat)
 |0,_,_,_,_,_=>none
 |f+1,p,met,row,out,same=>
  if p<s.size then
   if met=true∧(fE s p=3∨fE s p=4) then (if wi=true∧p≠q then none else some (out,same,p))
   else if met=true∧fE s p=5∧wi=false∧0<=OJ s (bI s p) (oI s p) then none
   else if met=true∧fE s p=5∧wi=true∧p≠q∧(uH s p:Int)<=n then none
   else if dB (bt s p)=true then kF s q n wi f (p+1) false (if met=true then bI s p else row) out same
   else if bt s p=10 then kF s q n wi f (p+1) true (if met=true then bI s p else row) out same
   else if sO s p=true then kF s q n wi f (oI s p) false (if met=true then bI s p else row) (out++[xZ s p])
    (if out.length=0 then decide (bI s q≠q) && decide (bI s q=(if met=true then bI s p else row)) else same)
   else some (out,same,p)
  else some (out,same,p)
def sK (s:ByteArray) (q:Nat) (n:Int) (wi:Bool):Option (List Cm×Bool×Nat):=kF s q n wi (s.size+1) q (decide (q=bI s q)) (bI s q) [] false
theorem Ul {s:ByteArray} {p:Nat} (hp:p<s.size) (h:bt s p≠10):p+1<=oI s p:=by
 unfold oI;obtain ⟨f,hf⟩:∃f,s.size-p=f+1:=⟨s.size-p-1,oM⟩;rw [hf,rZ];have:nU s p=true:=by unfold nU;simp [h]
 rw [if_pos this];omega
theorem G9 (s:ByteArray) (q:Nat) (n:Int) (wi:Bool):∀(f p:Nat) (met:Bool) (row:Nat) (out:List Cm) (same:Bool) (r:List Cm×Bool×Nat),p<=s.size->kF s q n wi f p met row out same=some r->p<=r.2.2∧r.2.2<=s.size∧r.1.length+p<=out.length+r.2.2
 |0,p,met,row,out,same,r,_,h=>by cases h
 |f+1,p,met,row,out,same,r,hp,h=>by
  unfold kF at h;split at h
  ·rename_i hlt;split at h
   ·split at h
    ·cases h
    ·cases h;exact ⟨Nat.le_refl _,hp,Nat.le_refl _⟩
   split at h
   ·cases h
   split at h
   ·cases h
   split at h
   ·have:=G9 s q n wi f (p+1) _ _ _ _ r oM h;omega
   split at h
   ·have:=G9 s q n wi f (p+1) _ _ _ _ r oM h;omega
   split at h
   ·rename_i hn h10 hnt;have h1:=Ul hlt h10;have h2:=xq (s:=s) (k:=p) hp;have:=G9 s q n wi f (oI s p) _ _ _ _ r h2 h;rw [List.length_append] at this;simp only [lL] at this;omega
   ·cases h;exact ⟨Nat.le_refl _,hp,Nat.le_refl _⟩
  ·cases h;exact ⟨Nat.le_refl _,hp,Nat.le_refl _⟩
theorem Jm {s:ByteArray} {q:Nat} {n:Int} {wi:Bool} {l:List Cm} {same:Bool} {p:Nat} (hq:q<=s.size) (h:sK s q n wi=some (l,same,p)):q<=p∧p<=s.size∧l.length+q<=p:=by have:=G9 s q n wi _ _ _ _ _ _ _ hq h;simpa using this
def Jz:List Cm->List Value
 |[]=>[]
 |c::l=> .string c.t::.int .i64 c.b::Jz l
theorem Vw:∀l,(Jz l).length=l.length*2
 |[]=>rfl
 |c::l=>by simp only [Jz,List.length_cons,Vw l];omega
theorem Vx:∀a b,Jz (a++b)=Jz a++Jz b
 |[],b=>rfl
 |c::a,b=>by simp only [List.cons_append,Jz,Vx a b]
end Bk
section
open Bk (Cm)
def VT (w:World):List Cm->Nat->Nat->Prop
 |[],_,_=>True
 |c::l,b,off=>w.cell? ⟨b,off,none⟩=some (.string c.t)∧w.cell? ⟨b,off+1,none⟩=some (.int .i64 c.b)∧VT w l b (off+2)
def CSl (w:World) (ok:Nat->Prop) (l:List Cm) (a:Option Addr):Prop:=l.length=0∨∃b off,a=some ⟨b,off,none⟩∧b<w.heap.size∧ok b∧VT w l b off
def QU (ok:Nat->Prop) (w w':World):Prop:=w.heap.size<=w'.heap.size∧∀i,i<w.heap.size->ok i->w'.heap[i]?=w.heap[i]?
theorem QU.cell {ok:Nat->Prop} {w w':World} (h:QU ok w w') {b o:Nat} (hb:b<w.heap.size) (hk:ok b):w'.cell? ⟨b,o,none⟩=w.cell? ⟨b,o,none⟩:=World.cell?_of_block (h.2 b hb hk)
theorem QO {ok:Nat->Prop} {w w':World} (k:Below w.heap.size w w'):QU ok w w':=⟨k.size,fun i hi _=>k.block i hi⟩
theorem VT.agree {ok:Nat->Prop} {w w':World} (k:QU ok w w'):∀{l:List Cm} {b off:Nat},b<w.heap.size->ok b->VT w l b off->VT w' l b off
 |[],_,_,_,_,_=>trivial
 |c::l,b,off,hb,hk,⟨h1,h2,h3⟩=>⟨(k.cell hb hk).trans h1,(k.cell hb hk).trans h2,VT.agree k hb hk h3⟩
theorem CSl.agree {ok:Nat->Prop} {w w':World} {l:List Cm} {a:Option Addr} (h:CSl w ok l a) (k:QU ok w w'):CSl w' ok l a:=by
 rcases h with h|⟨b,off,rfl,hb,hk,h⟩
 ·exact .inl h
 ·exact .inr ⟨b,off,rfl,Nat.lt_of_lt_of_le hb k.1,hk,h.agree k hb hk⟩
theorem CSl.below {ok:Nat->Prop} {w w':World} {l:List Cm} {a:Option Addr} (h:CSl w ok l a) (k:Below w.heap.size w w'):CSl w' ok l a:=h.agree (QO k)
theorem VT.PZ {w:World} {b:Nat}:∀{l:List Cm} {off:Nat},(∀j,j<(Bk.Jz l).length->w.cell? ⟨b,off+j,none⟩=(Bk.Jz l)[j]?)->VT w l b off
 |[],off,h=>trivial
 |c::l,off,h=>by
  refine ⟨?_,?_,VT.PZ (fun j hj=>?_)⟩
  ·have:=h 0 (by simp [Bk.Jz]);simpa [Bk.Jz] using this
  ·have:=h 1 (by simp [Bk.Jz]);simpa [Bk.Jz] using this
  ·have:=h (j+2) (by simpa [Bk.Jz] using hj);rw [show off+2+j=off+(j+2) from by omega,this];rfl
theorem VT.cells {w:World} {b:Nat}:∀{l:List Cm} {off:Nat},VT w l b off->∀j u,(Bk.Jz l)[j]?=some u->w.cell? ⟨b,off+j,none⟩=some u
 |[],off,_,j,u,h=>by simp [Bk.Jz] at h
 |c::l,off,⟨h1,h2,h3⟩,j,u,h=>by
  match j,h with
  |0,h=>simp [Bk.Jz] at h;subst h;exact h1
  |1,h=>simp [Bk.Jz] at h;subst h;exact h2
  |j+2,h=>
   have:=VT.cells h3 j u (by simpa [Bk.Jz] using h);rw [show off+(j+2)=off+2+j from by omega];exact this
def Gu (B:Nat) (v:Value) (l:List Cm) (w:World):Prop:=w.ownsRow B 56 2 v l.length (Bk.Jz l)
theorem RY {B:Nat} {e:TypeId} {size n:Nat} {v:Value} {xs:List Value} {w w':World} (h:w.ownsRow B e size v n xs) (k:Below w.heap.size w w'):w'.ownsRow B e size v n xs:=by
 refine ⟨h.1,?_⟩;rcases h.2 with hn|⟨g,cap,cur,hv,hg,hgb,rest⟩
 ·exact .inl hn
 ·refine .inr ⟨g,cap,cur,hv,hg,(k.block g ?_).trans hgb,rest⟩;rcases Nat.lt_or_ge g w.heap.size with h'|h'
  ·exact h'
  ·simp [Array.getElem?_eq_none h'] at hgb
theorem agX {w:World} {i:Nat} {x:Obj} (h:w.heap[i]?=some x):i<w.heap.size:=by
 rcases Nat.lt_or_ge i w.heap.size with h'|h'
 ·exact h'
 ·simp [Array.getElem?_eq_none h'] at h
theorem Gu.below {B:Nat} {v:Value} {l:List Cm} {w w':World} (h:Gu B v l w) (k:Below w.heap.size w w'):Gu B v l w':=RY h k
theorem Z8 (B:Nat) (w:World):Gu B (.slice none 0 0) [] w:=World.ownsRow_nil _ _ _ _
theorem Gu.slice {B:Nat} {v:Value} {l:List Cm} {w:World} (h:Gu B v l w):∃a cp,v=.slice a l.length cp∧CSl w (fun i=>B<=i) l a:=by
 have hl:=Bk.Vw l;rcases h.2 with ⟨hv,h0⟩|⟨g,cap,cur,hv,hg,hgb,hn,hm,hs,ht⟩
 ·exact ⟨none,0,by rw [hv,h0],.inl h0⟩
 ·refine ⟨some ⟨g,0,none⟩,cap,hv,.inr ⟨g,0,rfl,agX hgb,hg,VT.PZ (fun j hj=>?_)⟩⟩;rw [Nat.zero_add];have h1:w.cell? ⟨g,j,none⟩=cur[j]?:=by simp [World.cell?,hgb]
  have h2:(cur.toList.take (l.length*2))[j]?=(Bk.Jz l)[j]?:=by rw [ht]
  rw [List.getElem?_take_of_lt oM,Array.getElem?_toList] at h2;rw [h1,h2]
theorem Tryz.Zb:(Tryz.prog.info? 56).map (fun i=>(i.zero,i.size,i.bytes))=some (some (.agg #[.string ByteArray.empty,.int .i64 0]),2,24):=by kernel_rfl
theorem NP {ops:Array Oper} {rest:List Oper} {o:Oper} {a:Act} {Q:Exit->Act->World->Prop} {w0 wr wx:World} (hgd:o.guard=none) (s x:Operand)
  (ho:o.op=.call {callee:=.builtin .append,args:=#[s,x],argTypes:=#[25,25]}) (v:Value) (l:List Cm) (c:Cm) (hs:a.eval s=v)
  (hx:a.eval x=.slice (some ⟨wr.heap.size,0,none⟩) 1 1) (hown:Hid (Gu w0.heap.size v l wr)) (hlen:l.length<=1000000000) (hwx:wx=wr.alloc (.cells #[.string c.t,.int .i64 c.b] 56)) (hb:Hid (Below w0.heap.size w0 wr))
  (h:∀v' w',Hid (Gu w0.heap.size v' (l++[c]) w')->Hid (Below w0.heap.size w0 w')->wpList Tryz.prog ops Q rest (a.put o.dst v') w'):
  wpList Tryz.prog ops Q (o::rest) a wx:=by
 subst hwx;obtain ⟨i0,hi,hz0,hz1,hz2⟩:=info_parts Tryz.Zb;have hB:w0.heap.size<=wr.heap.size:=hb.out.size;refine wpList_append_lies _ hgd s x 25 ho w0.heap.size 56 i0 _ 2 24 Tryz.underlying25 hi hz0 hz1 hz2 rfl dE v l.length (Bk.Jz l) hs (World.ownsRow.alloc hown.out _) ⟨wr.heap.size,0,none⟩ 1 1 [.string c.t,.int .i64 c.b] hx rfl ?_ ?_ dE ?_ ?_ ?_ (wr.heap.size+1) (by simp) ?_
 ·exact fun j u hu=>World.news_of_block (heap_alloc_new wr (.cells #[.string c.t,.int .i64 c.b] 56)) j u (by simpa using hu)
 ·simp [Value.oneCell']
 ·unfold maxLen;omega
 ·omega
 ·simp;omega
 ·intro g cap w' hown' hgrow hg hlt;refine h _ w' (Lib.hid ?_) (Lib.hid ((hb.out.alloc hB _).grown hgrow (by simp;omega) (fun k hk=>(World.ownsRow.lt hown.out k hk).1)));show w'.ownsRow _ _ _ _ _ _;rw [List.length_append,Bk.Vx];exact hown'
theorem gW {fn:Func} {t u v x:Tmp} (h:fn.results=#[.tmp t,.tmp u,.tmp v,.tmp x]) (tmps:Array Value) (P:Program) (w:World):
  (results fn tmps).run P w=.ok (.tuple #[tmps.getD t undef,tmps.getD u undef,tmps.getD v undef,tmps.getD x undef]) w:=by
 simp [results,h]
end
inductive AV where
 |bool (b:Bool)
 |int (k:IntKind) (n:Int)
 |str (s:ByteArray)
 |ptr (i o:Nat)
 |nil
 |sl (n:Nat) (l:List AV)
 |row (e z n:Nat) (l:List AV)
 |el (l:List AV)
 |agg (l:List AV)
 |bW (l:List AV)
 |fn (f:Nat) (c:List AV)
 |nz (k:IntKind)
 |ql (k:IntKind)
 |low (k:IntKind) (d m:Int)
 |dm (i e z n:Nat)
 |bad
 deriving Inhabited
class nM where
 wide:Bool
def nM.B [nM]:Nat:=bif nM.wide then 2000000000 else 1000000000
theorem nM.lo [nM]:1000000000<=nM.B:=by unfold nM.B;cases nM.wide<;>decide
theorem nM.hi [nM]:nM.B<=2000000000:=by unfold nM.B;cases nM.wide<;>decide
section
variable [nM]
namespace AV
def akq (n d:Int):Int:=n % 18446744073709551616 % d
mutual
def flat:AV->Bool
 |.row .. =>false
 |.sl _ l|.el l|.agg l|.bW l|.fn _ l=>aj l
 |_=>true
def aj:List AV->Bool
 |[]=>true
 |x::l=>flat x && aj l
end
mutual
def R (lim:Nat->Nat) (bs:List Nat) (w:World):AV->Value->Prop
 |.bool b,v=>v=.bool b
 |.int k n,v=>v=.int k n
 |.str s,v=>v=.string s∧s.size<=nM.B
 |.ptr i o,v=>∃b,bs[i]?=some b∧v=.pointer (some ⟨b,o,none⟩)
 |.nil,v=>v=.slice none 0 0
 |.sl n l,v=>∃a c,v=.slice a n c∧n<=c∧(l=[]∨∃b o,a=some ⟨b,o,none⟩∧b<w.heap.size∧o+l.length<=lim b∧Rm lim bs w b o l)
 |.row e z n l,v=>l.length=n*z∧aj l=true∧((v=.slice none 0 0∧n=0)∨
   ∃g c cur,v=.slice (some ⟨g,0,none⟩) n c∧w.heap[g]?=some (.cells cur e (0,0))∧n<=c∧c<=maxLen∧cur.size=c*z∧lim g=l.length∧Rm lim bs w g 0 l)
 |.el l,v=>∃b o,v=.pointer (some ⟨b,o,none⟩)∧b<w.heap.size∧o+l.length<=lim b∧Rm lim bs w b o l
 |.agg l,v=>∃vs,v=.agg vs∧Rs lim bs w l vs.toList
 |.bW l,v=>∃vs,v=.tuple vs∧Rs lim bs w l vs.toList
 |.fn f c,v=>∃vs,v=.func (.func f) #[] vs∧Rs lim bs w c vs.toList
 |.nz k,v=>∃n,n≠0∧v=.int k n
 |.ql k,v=>∃n,v=.int k n
 |.low k d m,v=>∃n,akq n d=m∧v=.int k n
 |.dm i e z n,v=>∃b c cur,bs[i]?=some b∧w.heap[b]?=some (.cells cur e (0,0))∧cur.size=c*z∧n<=c∧c<=maxLen∧v=.slice (some ⟨b,0,none⟩) n c
 |.bad,_=>True
def Rs (lim:Nat->Nat) (bs:List Nat) (w:World):List AV->List Value->Prop
 |[],vs=>vs=[]
 |x::l,vs=>∃v r,vs=v::r∧R lim bs w x v∧Rs lim bs w l r
def Rm (lim:Nat->Nat) (bs:List Nat) (w:World) (b o:Nat):List AV->Prop
 |[]=>True
 |x::l=>(∃v,w.cell? ⟨b,o,none⟩=some v∧R lim bs w x v)∧Rm lim bs w b (o+1) l
end
structure Ext (lim:Nat->Nat) (bs:List Nat) (w:World) (lim':Nat->Nat) (bs':List Nat) (w':World):Prop where
 ids:∀(i b:Nat),bs[i]?=some b->bs'[i]?=some b
 size:w.heap.size<=w'.heap.size
 le:∀b,b<w.heap.size->lim b<=lim' b
 cell:∀b j,b<w.heap.size->j<lim b->w'.cell? ⟨b,j,none⟩=w.cell? ⟨b,j,none⟩
 shape:∀(b:Nat) (cur:Array Value) (e:TypeId) (p:Nat×Nat),w.heap[b]?=some (Obj.cells cur e p)->∃cur':Array Value,w'.heap[b]?=some (.cells cur' e p)∧cur'.size=cur.size
def cO:AV->AV
 |.row _ _ n l=> .sl n l
 |v=>v
def one:AV->Bool
 |.agg _|.bW _|.bad=>false
 |_=>true
variable {lim lim' : Nat -> Nat} {bs bs' : List Nat} {w w' : World}
theorem gK:∀{l:List AV} {vs:List Value},Rs lim bs w l vs->vs.length=l.length
 |[],vs,h=>by rw [Rs] at h;rw [h];rfl
 |x::l,vs,h=>by rw [Rs] at h;obtain ⟨v,r,rfl,-,h2⟩:=h;rw [List.length_cons,List.length_cons,gK h2]
mutual
theorem R.ext (k:Ext lim bs w lim' bs' w'):∀{x:AV} {v:Value},flat x=true->R lim bs w x v->R lim' bs' w' x v
 |.bool b,v,_,h=>h
 |.int _ _,v,_,h=>h
 |.str s,v,_,h=>h
 |.nz _,v,_,h=>h
 |.nil,v,_,h=>h
 |.ql _,v,_,h=>h
 |.low _ _ _,v,_,h=>h
 |.ptr i o,v,_,h=>by rw [R] at h⊢;obtain ⟨b,h1,h2⟩:=h;exact ⟨b,k.ids _ _ h1,h2⟩
 |.dm i e z n,v,_,h=>by rw [R] at h⊢;obtain ⟨b,c,cur,h1,h2,h3,h4⟩:=h;obtain ⟨cur',e1,e2⟩:=k.shape b cur e _ h2;exact ⟨b,c,cur',k.ids _ _ h1,e1,e2.trans h3,h4⟩
 |.sl n l,v,hf,h=>by rw [R] at h⊢;rw [flat] at hf;obtain ⟨a,c,h1,h2,h3⟩:=h;refine ⟨a,c,h1,h2,h3.imp id ?_⟩;rintro ⟨b,o,h4,h5,h6,h7⟩;exact ⟨b,o,h4,Nat.lt_of_lt_of_le h5 k.size,Nat.le_trans h6 (k.le _ h5),Rm.ext k hf h5 h6 h7⟩
 |.row ..,v,hf,h=>by rw [flat] at hf;cases hf
 |.el l,v,hf,h=>by rw [R] at h⊢;rw [flat] at hf;obtain ⟨b,o,h4,h5,h6,h7⟩:=h;exact ⟨b,o,h4,Nat.lt_of_lt_of_le h5 k.size,Nat.le_trans h6 (k.le _ h5),Rm.ext k hf h5 h6 h7⟩
 |.agg l,v,hf,h=>by rw [R] at h⊢;rw [flat] at hf;obtain ⟨vs,h1,h2⟩:=h;exact ⟨vs,h1,Rs.ext k hf h2⟩
 |.bW l,v,hf,h=>by rw [R] at h⊢;rw [flat] at hf;obtain ⟨vs,h1,h2⟩:=h;exact ⟨vs,h1,Rs.ext k hf h2⟩
 |.fn f l,v,hf,h=>by rw [R] at h⊢;rw [flat] at hf;obtain ⟨vs,h1,h2⟩:=h;exact ⟨vs,h1,Rs.ext k hf h2⟩
 |.bad,v,_,_=>by rw [R];trivial
theorem Rs.ext (k:Ext lim bs w lim' bs' w'):∀{l:List AV} {vs:List Value},aj l=true->Rs lim bs w l vs->Rs lim' bs' w' l vs
 |[],vs,_,h=>h
 |x::l,vs,hf,h=>by rw [Rs] at h⊢;rw [aj,Bool.and_eq_true] at hf;obtain ⟨v,r,h1,h2,h3⟩:=h;exact ⟨v,r,h1,R.ext k hf.1 h2,Rs.ext k hf.2 h3⟩
theorem Rm.ext (k:Ext lim bs w lim' bs' w'):∀{l:List AV} {b o:Nat},aj l=true->b<w.heap.size->o+l.length<=lim b->Rm lim bs w b o l->Rm lim' bs' w' b o l
 |[],b,o,_,_,_,_=>by rw [Rm];trivial
 |x::l,b,o,hf,hb,hl,h=>by rw [Rm] at h⊢;rw [aj,Bool.and_eq_true] at hf;rw [List.length_cons] at hl;obtain ⟨⟨v,h1,h2⟩,h3⟩:=h;exact ⟨⟨v,(k.cell b o hb oM).trans h1,R.ext k hf.1 h2⟩,Rm.ext k hf.2 hb oM h3⟩
end
def isRow:AV->Bool
 |.row .. =>true
 |_=>false
def top (x:AV):Bool:=x.isRow||x.flat
theorem R.pV (k:Ext lim bs w lim' bs' w') {x:AV} {v:Value} (ht:x.top=true) (hr:∀g,x.isRow=true->v.ownBlock=some g->w'.heap[g]?=w.heap[g]?∧lim' g=lim g) (h:R lim bs w x v):R lim' bs' w' x v:=by
 cases hx:x.isRow with
 |false=>rw [top,hx,Bool.false_or] at ht;exact R.ext k ht h
 |true=>
  cases x<;>simp only [isRow,Bool.false_eq_true] at hx;rename_i e z n l;rw [R] at h⊢;obtain ⟨h1,h2,h3⟩:=h;refine ⟨h1,h2,h3.imp id ?_⟩;rintro ⟨g,c,cur,rfl,hb,hn,hc,hs,hl,hm⟩;obtain ⟨h4,h5⟩:=hr g rfl rfl;have hlt:g<w.heap.size:=by
   rcases Nat.lt_or_ge g w.heap.size with h'|h'
   ·exact h'
   ·simp [Array.getElem?_eq_none h'] at hb
  exact ⟨g,c,cur,rfl,h4.trans hb,hn,hc,hs,h5.trans hl,Rm.ext k h2 hlt oM hm⟩
theorem R.cO {x:AV} {v:Value} (h:R lim bs w x v):R lim bs w x.cO v:=by
 cases hx:x.isRow with
 |false=>cases x<;>first|exact h|cases hx
 |true=>
 cases x<;>simp only [isRow,Bool.false_eq_true] at hx;rename_i e z n l;show R lim bs w (.sl n l) v;rw [R] at h;rw [R];obtain ⟨h1,h2,h3⟩:=h;rcases h3 with ⟨rfl,rfl⟩|⟨g,c,cur,rfl,hb,hn,hc,hs,hl,hm⟩
 ·refine ⟨none,0,rfl,Nat.le_refl _,.inl (List.eq_nil_of_length_eq_zero (by simpa using h1))⟩
 ·have hlt:g<w.heap.size:=by
   rcases Nat.lt_or_ge g w.heap.size with h'|h'
   ·exact h'
   ·simp [Array.getElem?_eq_none h'] at hb
  exact ⟨_,c,rfl,hn,.inr ⟨g,0,rfl,hlt,oM,hm⟩⟩
theorem qc {x:AV} (h:x.top=true) (hr:∀e z n l,x=.row e z n l->aj l=true):x.cO.flat=true:=by
 cases x<;>simp only [AV.cO,flat,top,isRow,Bool.false_or] at h⊢<;>first|exact h|skip
 exact hr _ _ _ _ rfl
theorem R.Kr {e z n:Nat} {l:List AV} {v:Value} (h:R lim bs w (.row e z n l) v):aj l=true:=by rw [R] at h;exact h.2.1
theorem R.qc {x:AV} {v:Value} (ht:x.top=true) (h:R lim bs w x v):x.cO.flat=true:=by refine AV.qc ht ?_;rintro e z n l rfl;exact h.Kr
mutual
def pf:AV->Bool
 |.ptr .. |.dm .. =>false
 |.sl _ l|.row _ _ _ l|.el l|.agg l|.bW l|.fn _ l=>y8 l
 |_=>true
def y8:List AV->Bool
 |[]=>true
 |x::l=>pf x && y8 l
end
mutual
def ids:AV->List Nat
 |.ptr i _=>[i]
 |.dm i _ _ _=>[i]
 |.sl _ l|.row _ _ _ l|.el l|.agg l|.bW l|.fn _ l=>aA l
 |_=>[]
def aA:List AV->List Nat
 |[]=>[]
 |x::l=>ids x++aA l
end
mutual
def bP (f:Nat->Nat):AV->AV
 |.ptr i o=> .ptr (f i) o
 |.dm i e z n=> .dm (f i) e z n
 |.sl n l=> .sl n (aG f l)
 |.row e z n l=> .row e z n (aG f l)
 |.el l=> .el (aG f l)
 |.agg l=> .agg (aG f l)
 |.bW l=> .bW (aG f l)
 |.fn g l=> .fn g (aG f l)
 |v=>v
def aG (f:Nat->Nat):List AV->List AV
 |[]=>[]
 |x::l=>bP f x::aG f l
end
theorem yY (f:Nat->Nat):∀(l:List AV),(aG f l).length=l.length
 |[]=>rfl
 |x::l=>by rw [aG,List.length_cons,List.length_cons,yY f l]
theorem wu (f:Nat->Nat):∀(l:List AV),aG f l=l.map (bP f)
 |[]=>rfl
 |x::l=>by rw [aG,List.map_cons,wu f l]
theorem jV {i:Nat}:∀{l:List AV},i ∈ aA l↔∃x ∈ l,i ∈ ids x
 |[]=>by simp [aA]
 |x::l=>by rw [aA,List.mem_append,jV (l:=l)];simp
mutual
theorem DZ (f:Nat->Nat):∀(x:AV),(bP f x).flat=x.flat
 |.ptr .. =>rfl
 |.dm .. =>rfl
 |.bool _=>rfl
 |.int _ _=>rfl
 |.str _=>rfl
 |.nz _=>rfl
 |.nil=>rfl
 |.ql _=>rfl
 |.low _ _ _=>rfl
 |.bad=>rfl
 |.row .. =>rfl
 |.sl n l=>by rw [bP,flat,flat,mF f l]
 |.el l=>by rw [bP,flat,flat,mF f l]
 |.agg l=>by rw [bP,flat,flat,mF f l]
 |.bW l=>by rw [bP,flat,flat,mF f l]
 |.fn g l=>by rw [bP,flat,flat,mF f l]
theorem mF (f:Nat->Nat):∀(l:List AV),aj (aG f l)=aj l
 |[]=>rfl
 |x::l=>by rw [aG,aj,aj,DZ f x,mF f l]
end
theorem oO (f:Nat->Nat) (x:AV):(bP f x).isRow=x.isRow:=by cases x<;>rfl
theorem zY (f:Nat->Nat) (x:AV):(bP f x).top=x.top:=by unfold top;rw [DZ,oO]
mutual
theorem R.bP {f:Nat->Nat}:∀{x:AV} {v:Value},(∀i ∈ ids x,∀b,bs[i]?=some b->bs'[f i]?=some b)->R lim bs w x v->R lim bs' w (bP f x) v
 |.bool b,v,_,h=>h
 |.int _ _,v,_,h=>h
 |.str s,v,_,h=>h
 |.nz _,v,_,h=>h
 |.nil,v,_,h=>h
 |.ql _,v,_,h=>h
 |.low _ _ _,v,_,h=>h
 |.ptr i o,v,hf,h=>by rw [AV.bP,R];rw [R] at h;obtain ⟨b,h1,h2⟩:=h;exact ⟨b,hf i (by simp [ids]) b h1,h2⟩
 |.dm i e z n,v,hf,h=>by rw [AV.bP,R];rw [R] at h;obtain ⟨b,c,cur,h1,h2⟩:=h;exact ⟨b,c,cur,hf i (by simp [ids]) b h1,h2⟩
 |.sl n l,v,hf,h=>by rw [AV.bP,R];rw [R] at h;obtain ⟨a,c,h1,h2,h3⟩:=h;refine ⟨a,c,h1,h2,h3.imp (fun e=>by subst e;rfl) ?_⟩;rintro ⟨b,o,h4,h5,h6,h7⟩;exact ⟨b,o,h4,h5,by rw [yY];exact h6,Rm.bP (by simpa [ids] using hf) h7⟩
 |.row e z n l,v,hf,h=>by rw [AV.bP,R];rw [R] at h;rw [yY,mF];obtain ⟨h1,h2,h3⟩:=h;refine ⟨h1,h2,h3.imp id ?_⟩;rintro ⟨g,c,cur,e1,e2,e3,e4,e5,e6,hm⟩;exact ⟨g,c,cur,e1,e2,e3,e4,e5,e6,Rm.bP (by simpa [ids] using hf) hm⟩
 |.el l,v,hf,h=>by rw [AV.bP,R];rw [R] at h;obtain ⟨b,o,h4,h5,h6,h7⟩:=h;exact ⟨b,o,h4,h5,by rw [yY];exact h6,Rm.bP (by simpa [ids] using hf) h7⟩
 |.agg l,v,hf,h=>by rw [AV.bP,R];rw [R] at h;obtain ⟨vs,h1,h2⟩:=h;exact ⟨vs,h1,Rs.bP (by simpa [ids] using hf) h2⟩
 |.bW l,v,hf,h=>by rw [AV.bP,R];rw [R] at h;obtain ⟨vs,h1,h2⟩:=h;exact ⟨vs,h1,Rs.bP (by simpa [ids] using hf) h2⟩
 |.fn g l,v,hf,h=>by rw [AV.bP,R];rw [R] at h;obtain ⟨vs,h1,h2⟩:=h;exact ⟨vs,h1,Rs.bP (by simpa [ids] using hf) h2⟩
 |.bad,v,_,_=>by show R lim bs' w .bad v;rw [R];trivial
theorem Rs.bP {f:Nat->Nat}:∀{l:List AV} {vs:List Value},(∀i ∈ aA l,∀b,bs[i]?=some b->bs'[f i]?=some b)->Rs lim bs w l vs->Rs lim bs' w (aG f l) vs
 |[],vs,_,h=>by rw [Rs] at h;rw [aG,Rs];exact h
 |x::l,vs,hf,h=>by rw [Rs] at h;rw [aG,Rs];rw [aA] at hf;obtain ⟨v,r,h1,h2,h3⟩:=h;exact ⟨v,r,h1,R.bP (fun i hi=>hf i (List.mem_append_left _ hi)) h2,Rs.bP (fun i hi=>hf i (List.mem_append_right _ hi)) h3⟩
theorem Rm.bP {f:Nat->Nat}:∀{l:List AV} {b o:Nat},(∀i ∈ aA l,∀b,bs[i]?=some b->bs'[f i]?=some b)->Rm lim bs w b o l->Rm lim bs' w b o (aG f l)
 |[],b,o,_,_=>by rw [aG,Rm];trivial
 |x::l,b,o,hf,h=>by rw [Rm] at h;rw [aG,Rm];rw [aA] at hf;obtain ⟨⟨v,h1,h2⟩,h3⟩:=h;exact ⟨⟨v,h1,R.bP (fun i hi=>hf i (List.mem_append_left _ hi)) h2⟩,Rm.bP (fun i hi=>hf i (List.mem_append_right _ hi)) h3⟩
end
mutual
theorem Yu {f:Nat->Nat}:∀{x:AV},pf x=true->bP f x=x
 |.ptr ..,h=>by rw [pf] at h;cases h
 |.dm ..,h=>by rw [pf] at h;cases h
 |.bool _,_=>rfl
 |.int _ _,_=>rfl
 |.str _,_=>rfl
 |.nz _,_=>rfl
 |.nil,_=>rfl
 |.ql _,_=>rfl
 |.low _ _ _,_=>rfl
 |.bad,_=>rfl
 |.sl n l,h=>by rw [pf] at h;rw [bP,lQ h]
 |.row e z n l,h=>by rw [pf] at h;rw [bP,lQ h]
 |.el l,h=>by rw [pf] at h;rw [bP,lQ h]
 |.agg l,h=>by rw [pf] at h;rw [bP,lQ h]
 |.bW l,h=>by rw [pf] at h;rw [bP,lQ h]
 |.fn g l,h=>by rw [pf] at h;rw [bP,lQ h]
theorem lQ {f:Nat->Nat}:∀{l:List AV},y8 l=true->aG f l=l
 |[],_=>rfl
 |x::l,h=>by rw [y8,Bool.and_eq_true] at h;rw [aG,Yu h.1,lQ h.2]
end
mutual
theorem Zf:∀{x:AV},pf x=true->ids x=[]
 |.ptr ..,h=>by rw [pf] at h;cases h
 |.dm ..,h=>by rw [pf] at h;cases h
 |.bool _,_=>rfl
 |.int _ _,_=>rfl
 |.str _,_=>rfl
 |.nz _,_=>rfl
 |.nil,_=>rfl
 |.ql _,_=>rfl
 |.low _ _ _,_=>rfl
 |.bad,_=>rfl
 |.sl n l,h=>by rw [pf] at h;rw [ids,tV h]
 |.row e z n l,h=>by rw [pf] at h;rw [ids,tV h]
 |.el l,h=>by rw [pf] at h;rw [ids,tV h]
 |.agg l,h=>by rw [pf] at h;rw [ids,tV h]
 |.bW l,h=>by rw [pf] at h;rw [ids,tV h]
 |.fn g l,h=>by rw [pf] at h;rw [ids,tV h]
theorem tV:∀{l:List AV},y8 l=true->aA l=[]
 |[],_=>rfl
 |x::l,h=>by rw [y8,Bool.and_eq_true] at h;rw [aA,Zf h.1,tV h.2];rfl
end
theorem R.free {x:AV} {v:Value} (hp:pf x=true) (h:R lim bs w x v):R lim bs' w x v:=by have:=R.bP (f:=id) (bs':=bs') (fun i hi=>by rw [Zf hp] at hi;cases hi) h;rw [Yu hp] at this;exact this
theorem Rs.free {x:List AV} {v:List Value} (hp:y8 x=true) (h:Rs lim bs w x v):Rs lim bs' w x v:=by have:=Rs.bP (f:=id) (bs':=bs') (fun i hi=>by rw [tV hp] at hi;cases hi) h;rw [lQ hp] at this;exact this
end AV
namespace Ab
structure TD where
 size:Nat
 bytes:Nat
 agg:Bool
 jG:List (Nat×Nat×Bool)
 elem:Option Nat
 zero:List AV
abbrev kZ:=Nat->Option TD
abbrev Tm:=List (Nat×AV)
structure aF where
 tm:Tm
 bx:List (List AV)
def get:Tm->Nat->AV
 |[],_=> .bad
 |(k,v)::r,n=>
  match Nat.beq n k with
  |true=>v
  |false=>get r n
def put:Tm->Nat->AV->Tm
 |[],n,v=>[(n,v)]
 |(k,u)::r,n,v=>
  match Nat.ble n k with
  |false=>(n,v)::(k,u)::r
  |true=>
   match Nat.beq n k with
   |true=>(n,v)::r
   |false=>(k,u)::put r n v
def cst:Value->AV
 |.bool b=> .bool b
 |.int k n=> .int k n
 |.string s=>if s.size<=1000000000 then .str s else .bad
 |.slice none 0 0=> .nil
 |_=> .bad
def val (tm:Tm):Operand->AV
 |.tmp t=>get tm t
 |.const v=>cst v
 |.func f=> .fn f []
 |.global _=> .bad
def cells:AV->List AV
 |.agg l=>l
 |v=>[v]
def dZ:List AV->Bool
 |[]=>true
 |v::l=>v.one && dZ l
def setAt {α:Type}:List α->Nat->List α->List α
 |[],_,_=>[]
 |x::l,0,[]=>x::l
 |x::l,0,v::vs=>v::setAt l 0 vs
 |x::l,o+1,vs=>x::setAt l o vs
def assoc {α:Type}:List (Nat×α)->Nat->Option α
 |[],_=>none
 |(k,v)::r,n=>
  match Nat.beq n k with
  |true=>some v
  |false=>assoc r n
def mem (n:Nat):List Nat->Bool
 |[]=>false
 |k::r=>
  match Nat.beq n k with
  |true=>true
  |false=>mem n r
structure Out where
 v:AV
 bs:List (List AV)
 nw:List (List AV)
 ok:Bool
def yes (v:AV) (bs:List (List AV)):Option Out:=some ⟨v,bs,[],true⟩
def gQ (v:AV) (bs:List (List AV)) (ok:Bool):Option Out:=some ⟨v,bs,[],ok⟩
def agY (op:BinOp) (k:IntKind) (a b:Int):Option (AV×Bool):=
 match op with
 |.add=>some (.int k (k.wrap (a+b)),true)
 |.sub=>some (.int k (k.wrap (a-b)),true)
 |.mul=>some (.int k (k.wrap (a*b)),true)
 |.rem=>some (.int k (a.tmod b),decide (b≠0))
 |.quo=>some (.int k (k.wrap (a.tdiv b)),decide (b≠0))
 |.eql=>some (.bool (a==b),true)
 |.neq=>some (.bool (a !=b),true)
 |.lss=>some (.bool (decide (a<b)),true)
 |.leq=>some (.bool (decide (a<=b)),true)
 |.gtr=>some (.bool (decide (b<a)),true)
 |.geq=>some (.bool (decide (b<=a)),true)
 |_=>none
def anu (op:BinOp) (a b:ByteArray):Option (AV×Bool):=
 match op with
 |.add=>some (.str (a++b),decide (a.size+b.size<=nM.B))
 |.eql=>some (.bool (decide (a=b)),true)
 |.neq=>some (.bool (!decide (a=b)),true)
 |_=>none
def anv (op:BinOp):Option (AV×Bool):=
 match op with
 |.eql=>some (.bool false,true)
 |.neq=>some (.bool true,true)
 |_=>none
def bin (op:BinOp) (x y:AV):Option (AV×Bool):=
 match x with
 |.int k a=>
  match y with
  |.int k' b=>if k=k' then agY op k a b else none
  |_=>none
 |.str a=>
  match y with
  |.str b=>anu op a b
  |_=>none
 |.nz k=>
  match y with
  |.int k' b=>if k=k'∧b=0 then anv op else none
  |_=>none
 |_=>none
def elems:AV->Option (Nat×List AV)
 |.nil=>some (0,[])
 |.sl n l=>some (n,l)
 |.row _ _ n l=>some (n,l)
 |_=>none
def YY (e z:Nat):AV->Option (Nat×List AV)
 |.nil=>some (0,[])
 |.row e' z' n l=>if e'=e∧z'=z then some (n,l) else none
 |_=>none
def pX (jG:List (Nat×Nat×Bool)):List AV->List (Nat×AV)->Option (List AV)
 |cs,[]=>some cs
 |cs,(i,v)::r=>
  match jG[i]? with
  |none=>none
  |some (o,n,_)=>if (cells v).length=n∧o+n<=cs.length∧v.flat=true∧dZ (cells v)=true then pX jG (setAt cs o (cells v)) r else none
def parts:Nat->List (Nat×AV)->Option (List AV)
 |_,[]=>some []
 |k,(i,v)::r=>if i=k then (parts (k+1) r).map (cells v++·) else none
def uS:AV->List Nat
 |.ptr i _=>[i]
 |_=>[]
def reach:Nat->List (List AV)->List Nat->List Nat->List Nat
 |0,_,_,seen=>seen
 |_+1,_,[],seen=>seen
 |n+1,bx,i::r,seen=>
  match mem i seen with
  |true=>reach n bx r seen
  |false=>reach n bx (AV.aA (bx.getD i [])++r) (seen++[i])
def CP (l ids:List Nat):Bool:=l.all fun i=>mem i ids
def eH (ρ:Operand->AV) (bx:List (List AV)) (op:Op):List Nat:=
 match op with
 |.load _ a=>uS (ρ a)
 |.store _ a _=>uS (ρ a)
 |.call c=>
  match c.callee with
  |.value f=>reach 1000000 bx (AV.ids (ρ f)++AV.aA (c.args.toList.map ρ)) []
  |_=>[]
 |_=>[]
def below (n:Nat) (l:List Nat):Bool:=l.all fun i=>Nat.blt i n
def jr (ids:List Nat) (L j:Nat):Nat:=
 match ids[j]? with
 |some i=>i
 |none=>L+(j-ids.length)
abbrev BR:=Nat->List AV->List (List AV)->Option (AV×List (List AV))
def Nu (mx:Bool):AV->AV->Option AV
 |.int k a,.int k' b=>if k=k' then some (.int k (if mx then (if b>a then b else a) else (if b<a then b else a))) else none
 |_,_=>none
def AA (T:kZ) (t:Nat):Option (Nat×TD):=
 match T t with
 |none=>none
 |some d=>
  match d.elem with
  |none=>none
  |some e=>
   match T e with
   |none=>none
   |some d'=>some (e,d')
def rV (d:TD) (ad:Bool) (a:AV) (bs:List (List AV)):Option Out:=
 match a with
 |.ptr _ o=>
  match bs with
  |[c]=>
   if d.agg=true then gQ (.agg (((c.drop o).take d.size).map AV.cO)) bs (decide (o+d.size<=c.length))
   else match c[o]? with
    |some v=>some ⟨if ad=true then v else v.cO,[if ad=true then setAt c o [v.cO] else c],[],true⟩
    |none=>none
  |_=>none
 |.el l=>
  if d.agg=true then gQ (.agg (l.take d.size)) bs (decide (d.size<=l.length))
  else match l with
   |v::_=>yes v bs
   |[]=>none
 |_=>none
def uM (T:kZ) (t:Nat) (d:TD) (a x:AV) (bs:List (List AV)):Option Out:=
 match a with
 |.ptr _ o=>
  match bs with
  |[c]=>some ⟨.bad,[setAt c o (cells x)],[],decide ((cells x).length=d.size) && decide (o+d.size<=c.length) && (if d.agg=true then dZ (cells x) && AV.aj (cells x) else x.one)⟩
  |_=>none
 |_=>none
def Jk (T:kZ) (t:Nat) (x:AV) (lo hi:Option AV) (bs:List (List AV)):Option Out:=
 match x with
 |.str s=>
  match lo.getD (.int .i64 0) with
  |.int _ a=>
   match hi.getD (.int .i64 s.size) with
   |.int _ b=>gQ (.str (s.extract a.toNat b.toNat)) bs (decide (0<=a) && decide (a<=b) && decide (b<=s.size) && decide (t=9))
   |_=>none
  |_=>none
 |v=>
  match AA T t with
  |none=>none
  |some (_,d)=>
   match elems v with
   |none=>none
   |some (n,l)=>
    match lo.getD (.int .i64 0) with
    |.int _ a=>
     match hi.getD (.int .i64 n) with
     |.int _ b=>gQ (.sl (b.toNat-a.toNat) ((l.drop (a.toNat*d.size)).take ((b.toNat-a.toNat)*d.size))) bs (decide (0<=a) && decide (a<=b) && decide (b<=n))
     |_=>none
    |_=>none
def kE (q:Nat×Nat×Bool) (x:AV) (bs:List (List AV)):Option Out:=
 match x with
 |.ptr i o=>gQ (.ptr i (o+q.1)) bs (decide (0<q.2.1))
 |.el l=>gQ (.el (l.drop q.1)) bs (decide (0<q.2.1) && decide (q.1<l.length))
 |_=>none
def BN (q:Nat×Nat×Bool) (x:AV) (bs:List (List AV)):Option Out:=
 match x with
 |.agg l=>
  if q.2.2=true then gQ (.agg ((l.drop q.1).take q.2.1)) bs (decide (q.1+q.2.1<=l.length)) else
  match l[q.1]? with
  |some v=>yes v bs
  |none=>none
 |_=>none
def qQ (d:TD) (x i:AV) (bs:List (List AV)):Option Out:=
 match x with
 |.dm b _ z m=>
  match i with
  |.int _ n=>gQ (.ptr b (n.toNat*z)) bs (decide (0<=n) && decide (n<m) && decide (d.size=z))
  |_=>none
 |x=>
  match elems x with
  |none=>none
  |some (m,l)=>
   match i with
   |.int _ n=>gQ (.el (l.drop (n.toNat*d.size))) bs (decide (0<=n) && decide (n<m) && decide (n.toNat*d.size<l.length))
   |_=>none
def Jl (t:Nat) (x i:AV) (bs:List (List AV)):Option Out:=
 match x with
 |.str s=>
  match i with
  |.int _ n=>gQ (.int .u8 (bt s n.toNat)) bs (decide (0<=n) && decide (n<s.size) && decide (t=9))
  |_=>none
 |_=>none
def TN (s:AV) (e z n m:Nat) (l:List AV):AV:=
 match s with
 |.nil=>
  match m with
  |0=> .nil
  |_+1=> .row e z n l
 |_=> .row e z n l
def tZ (e:Nat) (d:TD) (s x:AV) (ok:Bool) (bs:List (List AV)):Option Out:=
 match YY e d.size s with
 |none=>none
 |some (n,l)=>
  match elems x with
  |none=>none
  |some (m,k)=>gQ (TN s e d.size (n+m) m (l++k)) bs (ok && decide (n+m<=10000000000) && decide (k.length=m*d.size) && decide (0<d.size) && decide (d.bytes<=1000) && dZ k && AV.aj k)
def aaq (T:kZ) (ts:List Nat) (x:AV) (bs:List (List AV)):Option Out:=
 match ts with
 |[t]=>
  match x with
  |.str s=>gQ (.int .i64 s.size) bs (decide (t=9))
  |.dm _ _ _ n=>gQ (.int .i64 n) bs (AA T t).isSome
  |v=>
   match elems v with
   |none=>none
   |some (n,_)=>gQ (.int .i64 n) bs (AA T t).isSome
 |_=>none
def Ee (T:kZ) (b:Builtin) (xs:List AV) (ts:List Nat) (bs:List (List AV)):Option Out:=
 match b with
 |.len=>
  match xs with
  |[x]=>aaq T ts x bs
  |_=>none
 |.max=>
  match xs with
  |[x,y]=>(Nu true x y).bind fun v=>yes v bs
  |_=>none
 |.min=>
  match xs with
  |[x,y]=>(Nu false x y).bind fun v=>yes v bs
  |_=>none
 |.append=>
  match xs with
  |[s,x]=>
   match ts with
   |[t,t']=>
    match AA T t with
    |none=>none
    |some (e,d)=>tZ e d s x (decide (t'=t)) bs
   |_=>none
  |_=>none
 |_=>none
def Lp (cal:BR) (ids:List Nat) (L:Nat) (f:AV) (xs:List AV) (bs:List (List AV)):Option Out:=
 match f with
 |.fn f c=>
  if AV.aj c=true∧CP (AV.aA (xs.map AV.cO++c)) ids=true∧(bs.all fun b=>CP (AV.aA b) ids)=true then
   match cal f (AV.aG ids.idxOf (xs.map AV.cO++c)) (bs.map (AV.aG ids.idxOf)) with
   |some (v,bs')=>some ⟨v.bP (jr ids L),(bs'.take ids.length).map (AV.aG (jr ids L)),(bs'.drop ids.length).map (AV.aG (jr ids L)),decide (ids.length<=bs'.length) && (below bs'.length v.ids && bs'.all fun c=>below bs'.length (AV.aA c))⟩
   |none=>none
  else none
 |_=>none
def zO (d:TD) (ps:List (Nat×AV)) (bs:List (List AV)):Option Out:=
 match pX d.jG d.zero ps with
 |none=>none
 |some l=>gQ (.agg l) bs (d.agg && AV.aj l)
def gy (mt:Bool) (L e:Nat) (d:TD) (len:Nat) (ps:List (Nat×AV)) (bs:List (List AV)):Option Out:=
 match parts 0 ps with
 |none=>none
 |some l=>some ⟨if mt=true then .dm L e d.size len else .row e d.size len l,bs,if mt=true then [l] else [],decide (0<d.size) && decide (ps.length=len) && decide (l.length=len*d.size) && decide (len*d.size<=1000000) && dZ l && AV.aj l && ps.all fun p=>decide ((cells p.2).length=d.size)⟩
def Lm (L:Nat) (bs:List (List AV)) (c:List AV) (ok:Bool):Option Out:=some ⟨.ptr L 0,bs,[c],ok⟩
def qP (e:Nat) (d:TD) (n c:AV) (bs:List (List AV)):Option Out:=
 match n with
 |.int _ n=>
  match c with
  |.int _ c=>gQ (.row e d.size 0 []) bs (decide (n=0) && decide (0<=c) && decide (c<=100000) && decide (0<d.size) && decide (d.size<=100) && decide (d.bytes<=1000))
  |_=>none
 |_=>none
def VC (c a b:AV) (bs:List (List AV)):Option Out:=
 match c with
 |.bool t=>yes (if t=true then a.cO else b.cO) bs
 |_=>none
def ac5 (x:AV) (bs:List (List AV)):Option Out:=
 match x with
 |.ptr i o=>yes (.ptr i o) bs
 |.el l=>yes (.el l) bs
 |_=>none
def ac4 (op:UnOp) (x:AV) (bs:List (List AV)):Option Out:=
 match x with
 |.bool b=>match op with
  |.not=>yes (.bool !b) bs
  |_=>none
 |_=>none
def QE (s t:Nat) (x:AV) (bs:List (List AV)):Option Out:=
 match x with
 |.int _ n=>gQ (.int .i64 (IntKind.i64.wrap n)) bs (decide (s=5) && decide (t=3))
 |_=>none
def Xe (t:Nat) (x y:AV):Option Bool:=
 match x with
 |.bool a=>
  match y with
  |.bool b=>if t=4 then some (decide (a=b)) else none
  |_=>none
 |.agg [.str a,.int .i64 n]=>
  match y with
  |.agg [.str b,.int .i64 m]=>if t=56 then some (decide (a=b∧n=m)) else none
  |_=>none
 |_=>none
def NH (op:BinOp) (t:Nat) (x y:AV) (bs:List (List AV)):Option Out:=
 match bin op x y with
 |some (v,ok)=>gQ v bs ok
 |none=>
  match Xe t x y with
  |none=>none
  |some b=>
   match op with
   |.eql=>yes (.bool b) bs
   |.neq=>yes (.bool !b) bs
   |_=>none
def zN (x:AV) (i:Nat) (bs:List (List AV)):Option Out:=
 match x with
 |.bW l=>match l[i]? with
  |some v=>yes v bs
  |none=>none
 |_=>none
def uB (ρ:Operand->AV):List (Nat×Operand)->List (Nat×AV)
 |[]=>[]
 |(i,x)::r=>(i,(ρ x).cO)::uB ρ r
def fK {α β:Type} (x:Option α) (f:α->Option β):Option β:=
 match x with
 |none=>none
 |some a=>f a
def core (cal:BR) (T:kZ) (ad mt:Bool) (L:Nat) (ρ:Operand->AV) (bs:List (List AV)) (ids:List Nat) (ty:Nat) (op:Op):Option Out:=
 match op with
 |.move x=>yes (if ad=true then ρ x else (ρ x).cO) bs
 |.assign x=>yes (ρ x) bs
 |.pick c a b=>VC (ρ c) (ρ a) (ρ b) bs
 |.alloc t=>fK (T t) fun d=>Lm L bs d.zero true
 |.box t x=>Lm L bs (cells (ρ x).cO) (dZ (cells (ρ x).cO) && (ρ x).cO.flat)
 |.build t ps=>fK (T t) fun d=>zO d (uB ρ ps.toList) bs
 |.buildSlice t len ps=>fK (AA T t) fun q=>gy mt L q.1 q.2 len (uB ρ ps.toList) bs
 |.makeSlice t n c=>fK (AA T t) fun q=>qP q.1 q.2 (ρ n) (ρ c) bs
 |.load t a=>fK (T t) fun d=>rV d ad (ρ a) bs
 |.store t a x=>fK (T t) fun d=>uM T t d (ρ a) (ρ x) bs
 |.nilCheck x=>ac5 (ρ x) bs
 |.binOp op t x y _=>NH op t (ρ x) (ρ y) bs
 |.unOp op _ x=>ac4 op (ρ x) bs
 |.convert s t x=>QE s t (ρ x) bs
 |.makeFunc fn first cap=>
  match fn with
  |.func f=>if first.size=0 then yes (.fn f (cap.toList.map fun x=>(ρ x).cO)) bs else none
  |_=>none
 |.slice t x lo hi mx=>if mx.isSome=true then none else Jk T t (ρ x) (lo.map ρ) (hi.map ρ) bs
 |.fieldAddr t x f=>fK (T t) fun d=>fK (d.jG[f]?) fun q=>kE q (ρ x) bs
 |.field t x f=>fK (T t) fun d=>fK (d.jG[f]?) fun q=>BN q (ρ x) bs
 |.indexAddr t x i=>fK (AA T t) fun q=>qQ q.2 (ρ x) (ρ i) bs
 |.index t x i=>Jl t (ρ x) (ρ i) bs
 |.extract x i=>zN (ρ x) i bs
 |.call c=>
  match c.callee with
  |.builtin b=>Ee T b (c.args.toList.map ρ) c.argTypes.toList bs
  |.value f=>Lp cal ids L (ρ f) (c.args.toList.map ρ) bs
  |_=>none
 |_=>none
def fM:Operand->List Nat
 |.tmp t=>[t]
 |_=>[]
def GY:List Operand->List Nat
 |x::_=>fM x
 |[]=>[]
def LC (c:Call):List Nat:=
 match c.callee with
 |.builtin b=>match b with
  |.append=>GY c.args.toList
  |_=>[]
 |_=>[]
def kS (ad:Bool) (op:Op):List Nat:=
 match op with
 |.move x=>if ad=true then fM x else []
 |.assign x=>fM x
 |.store _ _ x=>fM x
 |.call c=>LC c
 |_=>[]
def gu (tm:Tm):List Nat->Tm
 |[]=>tm
 |t::r=>
  match get tm t with
  |.row _ _ n l=>gu (put tm t (.sl n l)) r
  |_=>gu tm r
def ak (bx:List (List AV)):List Nat->List (List AV)->List (List AV)
 |i::r,c::cs=>ak (bx.set i c) r cs
 |_,_=>bx
def bD (bx:List (List AV)):List Nat->Option (List (List AV))
 |[]=>some []
 |i::r=>match bx[i]?,bD bx r with
  |some c,some cs=>some (c::cs)
  |_,_=>none
def eG (tm:Tm) (dst:Option Nat) (v:AV):Tm:=
 match dst with
 |some d=>put tm d v
 |none=>tm
def fin (dst:Option Nat) (out:Out) (ids gv:List Nat) (σ:aF):aF:=⟨eG (gu σ.tm gv) dst out.v,ak σ.bx ids out.bs++out.nw⟩
structure Md where
 ad:List Nat
 arr:List Nat
 base:Nat
def jb (ad:List Nat):Option Nat->Bool
 |some d=>mem d ad
 |none=>false
def Bc (cal:BR) (T:kZ) (ad mt:Bool) (o:Oper) (σ:aF) (ids:List Nat):Option aF:=
 match bD σ.bx ids with
 |none=>none
 |some cs=>
  match core cal T ad mt σ.bx.length (val σ.tm) cs ids o.type o.op with
  |none=>none
  |some out=>if out.ok=true then some (fin o.dst out ids (kS ad o.op) σ) else none
def VM (cal:BR) (T:kZ) (md:Md) (o:Oper) (σ:aF):Option aF:=Bc cal T (jb md.ad o.dst) (jb md.arr o.dst) o σ (eH (val σ.tm) σ.bx o.op)
def qU:List Oper->List Nat
 |[]=>[]
 |o::r=>
  match o.op with
  |.call c=>LC c++qU r
  |_=>qU r
def Ii (o:Oper) (σ:aF):aF:=⟨eG σ.tm o.dst (.bW []),σ.bx⟩
def sU (all:List Oper) (o:Oper) (σ:aF):Option Bool:=
 match o.guard with
 |none=>some true
 |some (j,want)=>
  match (all[j]?).bind (·.dst) with
  |none=>none
  |some t=>match get σ.tm t with
   |.bool b=>some (b==want)
   |.bW []=>some false
   |_=>none
def nK (cal:BR) (T:kZ) (md:Md) (all:List Oper) (o:Oper) (σ:aF):Option aF:=
 match sU all o σ with
 |none=>none
 |some true=>VM cal T md o σ
 |some false=>some (Ii o σ)
def dW (all:List Oper) (o:Oper) (σ:aF):List Nat:=
 match sU all o σ with
 |some true=>eH (val σ.tm) σ.bx o.op
 |_=>[]
def fC (i:Nat) (v:AV):AV:=
 match mem i v.ids with
 |true=> .bad
 |false=>v
def kill (i:Nat) (σ:aF):aF:=⟨σ.tm.map fun p=>(p.1,fC i p.2),σ.bx.map fun c=>c.map (fC i)⟩
def He (c:Call):Option (Operand×Operand×Nat):=
 match c.callee with
 |.builtin b=>
  match b with
  |.append=>
   match c.args.toList with
   |[x,y]=>match c.argTypes.toList with
    |[t,t']=>if t'=t then some (x,y,t) else none
    |_=>none
   |_=>none
  |_=>none
 |_=>none
def E8 (T:kZ) (md:Md) (d:Nat) (σ:aF) (x y:Operand) (t:Nat):Option aF:=
 match AA T t with
 |none=>none
 |some (e,q)=>
  match elems (val σ.tm y) with
  |none=>none
  |some (m,k)=>
   if 0<m∧k.length=m*q.size∧0<q.size∧q.bytes<=1000∧dZ k=true∧AV.aj k=true then
    match val σ.tm x with
    |.nil=>if m<=10000000000 then some ⟨put σ.tm d (.dm σ.bx.length e q.size m),σ.bx++[k]⟩ else none
    |.row e' z' 0 []=>if m<=10000000000∧e'=e∧z'=q.size then some ⟨put (gu σ.tm (fM x)) d (.dm σ.bx.length e q.size m),σ.bx++[k]⟩ else none
    |.dm i e' z' n=>
     match σ.bx[i]? with
     |none=>none
     |some c=>
      if md.base<=i∧e'=e∧z'=q.size∧n+m<=10000000000∧c.length=n*q.size∧mem i (AV.aA (c++k))=false∧AV.aj c=true then
       some ⟨put (kill i σ).tm d (.dm i e q.size (n+m)),(kill i σ).bx.set i (c++k)⟩
      else none
    |_=>none
   else none
def yx (cal:BR) (T:kZ) (md:Md) (all:List Oper) (o:Oper) (σ:aF):Option aF:=
 match o.op with
 |.call c=>
  match He c with
  |some (x,y,t)=>
   match o.dst with
   |some d=>match mem d md.arr with
    |true=>match o.guard with
     |none=>E8 T md d σ x y t
     |some _=>none
    |false=>nK cal T md all o σ
   |none=>nK cal T md all o σ
  |none=>nK cal T md all o σ
 |_=>nK cal T md all o σ
def dJ (cal:BR) (T:kZ) (all:List Oper) (md:Md):List Oper->aF->Option aF
 |[],σ=>some σ
 |o::r,σ=>
  match yx cal T md all o σ with
  |none=>none
  |some σ'=>dJ cal T all md r σ'
def dL (o:Oper):List Nat:=o.after.toList.filterMap fun e=>if Region.binds .any e then some e.on else none
def zt (acc:List Nat):List Nat->Nat
 |[]=>0
 |i::r=>(2 ^ i|||acc.getD i 0)|||zt acc r
def jX:List Nat->List Oper->List Nat
 |acc,[]=>acc
 |acc,o::r=>jX (acc++[zt acc (dL o)]) r
def tmpsOf (o:Oper):List Nat:=o.op.operands.toList.filterMap fun x=>match x with|.tmp t=>some t|_=>none
def Gn (all:List Oper) (o:Oper):List Nat:=tmpsOf o++(match o.guard with|some (j,_)=>((all[j]?).bind (·.dst)).toList|none=>[])
def Ot (ad:List Nat) (o:Oper):List Nat:=o.dst.toList++kS (jb ad o.dst) o.op
def meets (a b:List Nat):Bool:=a.any fun x=>mem x b
def kY (all:List Oper) (ad:List Nat) (a b:Oper):Bool:=meets (Ot ad a) (Gn all b)||meets (Ot ad a) (Ot ad b)||meets (Ot ad b) (Gn all a)
def qK (all:List Oper):Bool:=
 ((List.range all.length).all fun j=>match all[j]? with
  |some o=>(dL o).all fun i=>decide (i<j)
  |none=>false) &&
 (List.range all.length).all fun j=>(List.range j).all fun i=>((jX [] all).getD j 0).testBit i||match all[i]?,all[j]? with
  |some a,some b=>!kY all (qU all) a b
  |_,_=>false
mutual
def beq:AV->AV->Bool
 |.bool a,.bool b=>a==b
 |.int k a,.int k' b=>decide (k=k') && decide (a=b)
 |.str a,.str b=>decide (a=b)
 |.ptr i o,.ptr i' o'=>Nat.beq i i' && Nat.beq o o'
 |.nil,.nil=>true
 |.sl n l,.sl n' l'=>Nat.beq n n' && BO l l'
 |.row e z n l,.row e' z' n' l'=>Nat.beq e e' && Nat.beq z z' && Nat.beq n n' && BO l l'
 |.el l,.el l'=>BO l l'
 |.agg l,.agg l'=>BO l l'
 |.bW l,.bW l'=>BO l l'
 |.fn f l,.fn f' l'=>Nat.beq f f' && BO l l'
 |.nz k,.nz k'=>decide (k=k')
 |.ql k,.ql k'=>decide (k=k')
 |.low k d m,.low k' d' m'=>decide (k=k') && decide (d=d') && decide (m=m')
 |.dm i e z n,.dm i' e' z' n'=>Nat.beq i i' && Nat.beq e e' && Nat.beq z z' && Nat.beq n n'
 |.bad,.bad=>true
 |_,_=>false
def BO:List AV->List AV->Bool
 |[],[]=>true
 |x::l,y::r=>beq x y && BO l r
 |_,_=>false
end
def Xg:List (List AV)->List (List AV)->Bool
 |[],[]=>true
 |x::l,y::r=>BO x y && Xg l r
 |_,_=>false
def Xf:Tm->Tm->Bool
 |[],[]=>true
 |(k,x)::l,(j,y)::r=>Nat.beq k j && beq x y && Xf l r
 |_,_=>false
def aaD (a b:aF):Bool:=Xf a.tm b.tm && Xg a.bx b.bx
structure jk where
 at_:Nat
 ids:List Nat
 wr:Bool
 al:Bool
 ld:Option (Nat×Nat×Nat)
 ch:List (Nat×List AV×List AV)
def lI (ad:List Nat) (o:Oper):Bool:=
 match o.op with
 |.load _ _=>jb ad o.dst
 |_=>true
def AZ (T:kZ) (ad:List Nat) (all:List Oper) (o:Oper) (σ:aF):Option (Nat×Nat×Nat):=
 match sU all o σ with
 |some true=>
  match o.op with
  |.load t a=>
   match jb ad o.dst with
   |true=>none
   |false=>
    match val σ.tm a with
    |.ptr i c=>
     match T t with
     |some d=>some (i,c,if d.agg=true then d.size else 1)
     |none=>none
    |_=>none
  |_=>none
 |_=>none
def EY (σ σ':aF):List Nat->List (Nat×List AV×List AV)
 |[]=>[]
 |i::r=>(i,σ.bx.getD i [],σ'.bx.getD i [])::EY σ σ' r
def news (n m:Nat):List Nat:=List.range' n (m-n)
def jH (T:kZ) (ad:List Nat) (all:List Oper) (k:Nat) (o:Oper) (σ σ':aF):jk:=
 ⟨k,dW all o σ++news σ.bx.length σ'.bx.length,lI ad o,!Nat.ble σ'.bx.length σ.bx.length,AZ T ad all o σ,if lI ad o=true then EY σ σ' (dW all o σ) else []⟩
def jk.yu (a b:jk):Bool:=
 match a.ld with
 |some (i,o,n)=>
  match assoc b.ch i with
  |some (c,c')=>Nat.beq c.length c'.length && BO ((c.drop o).take n) ((c'.drop o).take n)
  |none=>false
 |none=>false
def jk.mJ (a b:jk):Bool:=((a.wr||b.wr) && meets a.ids b.ids && !(a.yu b||b.yu a))||(a.al && b.al)
def eX (a:jk) (l:List jk):List jk:=if a.ids.isEmpty && !a.al then l else a::l
def vT (cal:BR) (T:kZ) (all:List Oper) (md:Md):List (Nat×Oper)->aF->Option (List jk×aF)
 |[],σ=>some ([],σ)
 |(k,o)::r,σ=>
  match nK cal T md all o σ with
  |none=>none
  |some σ'=>
   match vT cal T all md r σ' with
   |none=>none
   |some (l,aeV)=>some (eX (jH T md.ad all k o σ σ') l,aeV)
def Dy (two:Option (Nat×Nat)) (a b:Nat):Bool:=
 match two with
 |some (p,q)=>(Nat.beq a p && Nat.beq b q)||(Nat.beq a q && Nat.beq b p)
 |none=>false
def vF (an:List Nat) (two:Option (Nat×Nat)):List jk->Bool
 |[]=>true
 |a::l=>(l.all fun b=>(an.getD b.at_ 0).testBit a.at_||!a.mJ b||Dy two a.at_ b.at_) && vF an two l
def dR (k:Nat):List Oper->List (Nat×Oper)
 |[]=>[]
 |o::r=>(k,o)::dR (k+1) r
def Af (cal:BR) (T:kZ) (md:Md) (all:List Oper) (σ:aF):Option aF:=
 match vT cal T all md (dR 0 all) σ with
 |some (arl,σ')=>if vF (jX [] all) none arl=true then some σ' else none
 |none=>none
def lC (q:Nat):List (Nat×Oper)->List (Nat×Oper)
 |[]=>[]
 |(k,o)::r=>
  match Nat.beq k q with
  |true=>lC q r
  |false=>(k,o)::lC q r
def Io (cal:BR) (T:kZ) (md:Md) (all:List Oper) (p q:Nat) (σ:aF):Option (aF×aF):=
 match all[q]? with
 |none=>none
 |some oq=>
  match vT cal T all md (dR 0 all) σ with
  |none=>none
  |some (A,σa)=>
   match vT cal T all md ((q,oq)::lC q (dR 0 all)) σ with
   |none=>none
   |some (B,σb)=>if Nat.blt p q=true∧(dL oq).isEmpty=true∧vF (jX [] all) (some (p,q)) A=true∧vF (jX [] all) (some (p,q)) B=true then some (σa,σb) else none
inductive zV where
 |normal
 |exit (i:Nat)
 |ret
def prune (ks:List Nat):Tm->Tm
 |[]=>[]
 |(k,v)::r=>if mem k ks=true then (k,v)::prune ks r else prune ks r
def nZ (n:Nat) (bx:List (List AV)) (l:List Nat):List Nat:=reach 1000000 bx (AV.aA ((bx.take n).flatMap id)++l) (List.range n)
def pick (n:Nat) (bx:List (List AV)) (l:List Nat):Option (List Nat×List (List AV)):=
 match bD bx (nZ n bx l) with
 |none=>none
 |some cs=>if (cs.all fun c=>CP (AV.aA c) (nZ n bx l))=true∧CP l (nZ n bx l)=true then some (nZ n bx l,cs.map (AV.aG (nZ n bx l).idxOf)) else none
def Um:Tm->List Nat
 |[]=>[]
 |(_,v)::r=>v.ids++Um r
def J3 (f:Nat->Nat):Tm->Tm
 |[]=>[]
 |(k,v)::r=>(k,v.bP f)::J3 f r
def back (n:Nat) (σ:aF):Option aF:=
 match pick n σ.bx (Um σ.tm) with
 |none=>none
 |some (ids,bx)=>some ⟨J3 ids.idxOf σ.tm,bx⟩
structure Gm where
 live:List (List Nat)
 arr:List Nat
 Xu:Bool
 two:List (Nat×Nat×Nat)
 adl:List Nat
def EC (an:Gm) (i:Nat) (σ:aF):aF:=⟨prune (an.live.getD i []) σ.tm,σ.bx⟩
def yX (cal:BR) (T:kZ) (an:Gm) (base i:Nat) (ops:Array Oper) (draw:Bool) (σ:aF):Option aF:=
 match draw with
 |false=>(dJ cal T ops.toList ⟨qU ops.toList++an.adl,an.arr,base⟩ ops.toList σ).map (EC an i)
 |true=>
  match assoc an.two i with
  |none=>(Af cal T ⟨qU ops.toList,an.arr,base⟩ ops.toList σ).map (EC an i)
  |some (p,q)=>
   match Io cal T ⟨qU ops.toList,an.arr,base⟩ ops.toList p q σ with
   |none=>none
   |some (σa,σb)=>
    match back σ.bx.length (EC an i σa),back σ.bx.length (EC an i σb) with
    |some τ,some τ'=>if aaD τ τ'=true then some τ else none
    |_,_=>none
def yt (cal:BR) (T:kZ) (an:Gm) (base:Nat):Nat->Code->aF->Option (zV×aF)
 |0,_,_=>none
 |n+1,c,σ=>
  match c with
  |.skip=>some (.normal,σ)
  |.region i ops draw=>
   match yX cal T an base i ops draw σ with
   |some σ'=>some (.normal,σ')
   |none=>none
  |.seq a b=>
   match yt cal T an base n a σ with
   |some (.normal,σ')=>yt cal T an base n b σ'
   |r=>r
  |.cond x a b=>
   match val σ.tm x with
   |.bool t=>yt cal T an base n (if t=true then a else b) σ
   |_=>none
  |.block i a=>
   match yt cal T an base n a σ with
   |some (.exit j,σ')=>some (if j=i then .normal else .exit j,σ')
   |r=>r
  |.loop a=>
   match yt cal T an base n a σ with
   |some (.normal,σ')=>
    match back σ.bx.length σ' with
    |some aeV=>yt cal T an base n (.loop a) aeV
    |none=>none
   |r=>r
  |.exit i=>some (.exit i,σ)
  |.ret=>some (.ret,σ)
  |_=>none
def jK (n:Nat):Code->Bool
 |.region _ ops draw=>(ops.toList.all fun o=>match o.dst with
  |some d=>decide (d<n)
  |none=>true) && (!draw||qK ops.toList)
 |.seq a b=>jK n a && jK n b
 |.cond _ a b=>jK n a && jK n b
 |.block _ a=>jK n a
 |.loop a=>jK n a
 |_=>true
def Gi (T:kZ) (n:Nat) (σ:aF):ResultVar->Option AV
 |.tmp t=>some (get σ.tm t)
 |.cell a t=>fK (T t) fun d=>
  match get σ.tm a with
  |.ptr i o=>fK (σ.bx[i]?) fun c=>
   if d.agg=true then (if o+d.size<=c.length then some (.agg (((c.drop o).take d.size).map AV.cO)) else none) else (c[o]?).map AV.cO
  |_=>none
def uO (T:kZ) (n:Nat) (σ:aF):List ResultVar->Option (List AV)
 |[]=>some []
 |r::l=>match Gi T n σ r,uO T n σ l with
  |some v,some vs=>some (v::vs)
  |_,_=>none
def kH (vs:List AV):AV:=
 match vs with
 |[v]=>v
 |vs=> .bW (vs.map AV.cO)
def oZ (g:AV->Option AV):List AV->Option (List AV)
 |[]=>some []
 |x::l=>
  match g x,oZ g l with
  |some y,some r=>some (y::r)
  |_,_=>none
def lh (bx:List (List AV)) (n:Nat):Nat->AV->Option AV
 |0,_=>none
 |k+1,v=>
  match v.pf with
  |true=>some v
  |false=>
   match v with
   |.dm j _ z m=>
    match bx[j]? with
    |some c=>if n<=j∧m*z<=c.length then (oZ (lh bx n k) ((c.take (m*z)).map AV.cO)).map (.sl m) else none
    |none=>none
   |.agg l=>(oZ (lh bx n k) l).map .agg
   |.bW l=>(oZ (lh bx n k) l).map .bW
   |.sl m l=>(oZ (lh bx n k) l).map (.sl m)
   |_=>none
def JQ (T:kZ) (Xu:Bool) (σ:aF) (l:List ResultVar) (n:Nat):Option (AV×List (List AV)):=
 match uO T n σ l with
 |none=>none
 |some vs=>
  match Xu with
  |true=>
   match lh σ.bx n 1000 (kH vs) with
   |some v=>if n<=σ.bx.length∧((σ.bx.take n).all AV.y8)=true then some (v,σ.bx.take n) else none
   |none=>none
  |false=>
   match pick n σ.bx (kH vs).ids with
   |some (ids,bx)=>some ((kH vs).bP ids.idxOf,bx)
   |none=>none
def params:Tm->Nat->List AV->Tm
 |tm,_,[]=>tm
 |tm,k,v::l=>params ((k,v)::tm) (k+1) l
def ag3 (cal:BR) (T:kZ) (an:Gm) (n:Nat) (fn:Func) (args:List AV) (bxs:List (List AV)):Option (AV×List (List AV)):=
 match fn.body with
 |none=>none
 |some c=>
  match yt cal T an bxs.length n c ⟨params [] 0 args,bxs⟩ with
  |some (.normal,σ)=>JQ T an.Xu σ fn.results.toList bxs.length
  |some (.ret,σ)=>JQ T an.Xu σ fn.results.toList bxs.length
  |_=>none
structure adx where
 T:kZ
 fns:Nat->Option Func
 ann:Nat->Gm
 abT:Nat->Option (List AV->Option AV)
 abu:Nat->Option (BR->List AV->List (List AV)->Option (AV×List (List AV)))
def Gj (K:adx):Nat->BR
 |0,_,_,_=>none
 |n+1,f,args,bxs=>
  match K.abT f with
  |some g=>
   match g args with
   |none=>none
   |some v=>if v.pf=true∧v.flat=true∧bxs.isEmpty=true then some (v,bxs) else none
  |none=>
   match K.abu f with
   |some g=>g (Gj K n) args bxs
   |none=>
    match K.fns f with
    |some fn=>ag3 (Gj K n) K.T (K.ann f) n fn args bxs
    |none=>none
theorem Jo {n k:Nat} (h:n≠k):Nat.beq n k=false:=by
 cases hb:Nat.beq n k with
 |false=>rfl
 |true=>exact absurd (Nat.eq_of_beq_eq_true hb) h
theorem uN (n:Nat):Nat.beq n n=true:=Nat.beq_refl n
theorem bH (k:Nat) (v:AV) (r:Tm) (n:Nat):get ((k,v)::r) n=if n=k then v else get r n:=by
 rw [get];by_cases h:n=k
 ·subst h;rw [uN,if_pos rfl]
 ·rw [Jo h,if_neg h]
theorem jy (k:Nat) (u:AV) (r:Tm) (n:Nat) (v:AV):put ((k,u)::r) n v=if k<n then (n,v)::(k,u)::r else if n=k then (n,v)::r else (k,u)::put r n v:=by
 rw [put];by_cases h1:k<n
 ·have:Nat.ble n k=false:=by
   cases hb:Nat.ble n k with
   |false=>rfl
   |true=>have:=Nat.le_of_ble_eq_true hb;omega
  rw [this,if_pos h1]
 ·have:Nat.ble n k=true:=Nat.ble_eq_true_of_le oM;rw [this,if_neg h1];by_cases h:n=k
  ·subst h;rw [uN,if_pos rfl]
  ·rw [Jo h,if_neg h]
theorem ah (tm:Tm) (d:Nat) (v:AV) (n:Nat):get (put tm d v) n=if n=d then v else get tm n:=by
 induction tm with
 |nil=>rw [put,bH]
 |cons p r ih=>
  obtain ⟨k,u⟩:=p;rw [jy];split
  ·rw [bH]
  ·split
   ·rename_i h;subst h;rw [bH];split
    ·rfl
    ·rename_i h;rw [bH,if_neg h]
   ·rw [bH,ih,bH];split
    ·rename_i h1 h2 h;subst h;rw [if_neg (fun e=>h2 e.symm)]
    ·rfl
theorem WN (ks:List Nat) (tm:Tm) (n:Nat):get (prune ks tm) n=get tm n∨get (prune ks tm) n=.bad:=by
 induction tm with
 |nil=>exact .inl rfl
 |cons p r ih=>
  obtain ⟨k,u⟩:=p;rw [prune];split
  ·rw [bH,bH];split
   ·exact .inl rfl
   ·exact ih
  ·rename_i hm;rw [bH];by_cases h:n=k
   ·subst h;right;have:∀r:Tm,get (prune ks r) n=.bad:=by
     intro r
     induction r with
     |nil=>rfl
     |cons q r ih2=>
      obtain ⟨k2,u2⟩:=q;rw [prune];split
      ·rename_i h2;rw [bH];split
       ·rename_i e;subst e;exact absurd h2 hm
       ·exact ih2
      ·exact ih2
    exact this r
   ·rw [if_neg h];exact ih
inductive Loc where
 |t (k:Nat)
 |b (i j:Nat)
abbrev uP:=Nat->AV×Value
def Sl (tm:Tm) (a:Act):uP:=fun k=>(get tm k,a.tmps.getD k undef)
def up (S:uP) (d:Nat) (x:AV×Value):uP:=fun k=>if k=d then x else S k
theorem vX {tm:Tm} {a:Act} {d:Nat} (hd:d<a.tmps.size) (v:AV) (u:Value):Sl (put tm d v) (a.put (some d) u)=up (Sl tm a) d (v,u):=by
 funext k;unfold Sl up Act.put;rw [ah];by_cases h:k=d
 ·subst h;simp [hd]
 ·simp [h,Ne.symm h]
def Own (w:World) (bs:List Nat) (bx:List (List AV)) (S:uP):Loc->Nat->Prop
 |.t k,g=>(S k).1.isRow=true∧(S k).2.ownBlock=some g
 |.b i j,g=>∃b x y v,bs[i]?=some b∧bx[i]?=some x∧x[j]?=some y∧y.isRow=true∧w.cell? ⟨b,j,none⟩=some v∧v.ownBlock=some g
structure aB (lim:Nat->Nat) (bs:List Nat) (w:World) (bx:List (List AV)) (S:uP) (m:Nat->Prop):Prop where
 len:bs.length=bx.length
 BX:bs.Nodup
 free:∀b ∈ bs,lim b=0
 mb:∀b ∈ bs,m b
 box:∀(i b:Nat) (x:List AV),bs[i]?=some b->bx[i]?=some x->∃(c tl:List Value) (t:TypeId),w.heap[b]?=some (Obj.cells (c++tl).toArray t (0,0))∧AV.Rs lim bs w x c∧x.all AV.top=true
 slot:∀k,AV.R lim bs w (S k).1 (S k).2
 kN:∀k,(S k).1.top=true
 top:∀b,w.heap.size<=b->lim b=0
 own:∀(p:Loc) (g:Nat),Own w bs bx S p g->m g∧g ∉ bs
 qO:∀(p q:Loc) (g:Nat),Own w bs bx S p g->Own w bs bx S q g->p=q
structure Fr (m:Nat->Prop) (rJ:Nat->Nat) (w0:World) (lim:Nat->Nat) (w:World):Prop where
 bel:Below 0 w0 w
 pV:∀b,b<w0.heap.size->¬m b->w.heap[b]?=w0.heap[b]?∧lim b=rJ b
 le:∀b,b<w0.heap.size->rJ b<=lim b
 cell:∀b j,b<w0.heap.size->j<rJ b->w.cell? ⟨b,j,none⟩=w0.cell? ⟨b,j,none⟩
 shape:∀(b:Nat) (cur:Array Value) (e:TypeId) (p:Nat×Nat),w0.heap[b]?=some (Obj.cells cur e p)->∃cur':Array Value,w.heap[b]?=some (.cells cur' e p)∧cur'.size=cur.size
variable {m m' : Nat -> Prop} {lim rJ eQ lim' : Nat -> Nat} {bs bs' : List Nat} {w w0 w1 w' : World} {bx bx' : List (List AV)} {S S' : uP}
theorem Fr.refl:Fr m lim w lim w:=⟨Below.refl _ _,fun _ _ _=>⟨rfl,rfl⟩,fun _ _=>Nat.le_refl _,fun _ _ _ _=>rfl,fun b cur e p h=>⟨cur,h,rfl⟩⟩
theorem Fr.trans (h:Fr m rJ w0 eQ w1) (k:Fr m eQ w1 lim w):Fr m rJ w0 lim w:=by
 refine ⟨h.bel.trans k.bel,fun b hb hm=>?_,fun b hb=>?_,fun b j hb hj=>?_,fun b cur e p hb=>?_⟩
 ·have hb1:=Nat.lt_of_lt_of_le hb h.bel.size;have h1:=h.pV b hb hm;have h2:=k.pV b hb1 hm;exact ⟨h2.1.trans h1.1,h2.2.trans h1.2⟩
 ·exact Nat.le_trans (h.le b hb) (k.le b (Nat.lt_of_lt_of_le hb h.bel.size))
 ·exact (k.cell b j (Nat.lt_of_lt_of_le hb h.bel.size) (Nat.lt_of_lt_of_le hj (h.le b hb))).trans (h.cell b j hb hj)
 ·obtain ⟨c1,e1,s1⟩:=h.shape b cur e p hb;obtain ⟨c2,e2,s2⟩:=k.shape b c1 e p e1;exact ⟨c2,e2,s2.trans s1⟩
theorem Fr.ext (h:Fr m lim w lim' w') (hb:∀(i b:Nat),bs[i]?=some b->bs'[i]?=some b):AV.Ext lim bs w lim' bs' w':=⟨hb,h.bel.size,h.le,h.cell,h.shape⟩
theorem Fr.aW (h:Fr m' rJ w0 lim w) (hm:∀b,b<w0.heap.size->m' b->m b):Fr m rJ w0 lim w:=
 ⟨h.bel,fun b hb hn=>h.pV b hb (fun e=>hn (hm b hb e)),h.le,h.cell,h.shape⟩
theorem oV (v:Value):AV.R lim bs w .bad v:=by rw [AV.R];trivial
theorem aB.sub (H:aB lim bs w bx S m) (h:∀k,(S' k).2=(S k).2∧((S' k).1=(S k).1∨(S' k).1=(S k).1.cO∨(S' k).1=.bad)):aB lim bs w bx S' m∧∀p g,Own w bs bx S' p g->Own w bs bx S p g:=by
 have hr:∀x:AV,x.cO.isRow=false:=fun x=>by cases x<;>rfl
 have ho:∀p g,Own w bs bx S' p g->Own w bs bx S p g:=by
  intro p g hp;cases p with
  |b i j=>exact hp
  |t k=>
   obtain ⟨h1,h2⟩:=hp;obtain ⟨e,h3⟩:=h k;rcases h3 with h3|h3|h3
   ·exact ⟨by rw [←h3];exact h1,by rw [←e];exact h2⟩
   ·rw [h3,hr] at h1;cases h1
   ·rw [h3] at h1;cases h1
 refine ⟨⟨H.len,H.BX,H.free,H.mb,H.box,fun k=>?_,fun k=>?_,H.top,fun p g hp=>H.own p g (ho p g hp),fun p q g hp hq=>H.qO p q g (ho p g hp) (ho q g hq)⟩,ho⟩
 ·obtain ⟨e,h3⟩:=h k;rw [e];rcases h3 with h3|h3|h3<;>rw [h3]
  ·exact H.slot k
  ·exact (H.slot k).cO
  ·exact oV _
 ·obtain ⟨e,h3⟩:=h k;rcases h3 with h3|h3|h3<;>rw [h3]
  ·exact H.kN k
  ·unfold AV.top;rw [AV.R.qc (H.kN k) (H.slot k)];simp
  ·rfl
theorem aB.put (H:aB lim bs w bx S m) {d:Nat} {v:AV} {u:Value} (hv:AV.R lim bs w v u) (ht:v.top=true)
  (hrow:∀g,v.isRow=true->u.ownBlock=some g->m g∧g ∉ bs∧∀p,Own w bs bx S p g->p=.t d):aB lim bs w bx (up S d (v,u)) m:=by
 have ho:∀p g,Own w bs bx (up S d (v,u)) p g->(p=.t d∧v.isRow=true∧u.ownBlock=some g)∨(p≠.t d∧Own w bs bx S p g):=by
  intro p g hp;cases p with
  |b i j=>exact .inr ⟨by simp,hp⟩
  |t k=>
   obtain ⟨h1,h2⟩:=hp;unfold up at h1 h2;by_cases e:k=d
   ·rw [if_pos e] at h1 h2;exact .inl ⟨by rw [e],h1,h2⟩
   ·rw [if_neg e] at h1 h2;exact .inr ⟨by simpa using e,h1,h2⟩
 refine ⟨H.len,H.BX,H.free,H.mb,H.box,fun k=>?_,fun k=>?_,H.top,fun p g hp=>?_,fun p q g hp hq=>?_⟩
 ·unfold up;split
  ·exact hv
  ·exact H.slot k
 ·unfold up;split
  ·exact ht
  ·exact H.kN k
 ·rcases ho p g hp with ⟨-,h1,h2⟩|⟨-,h1⟩
  ·exact ⟨(hrow g h1 h2).1,(hrow g h1 h2).2.1⟩
  ·exact H.own p g h1
 ·rcases ho p g hp with ⟨e1,h1,h2⟩|⟨e1,h1⟩
  ·rcases ho q g hq with ⟨e2,-,-⟩|⟨e2,h3⟩
   ·rw [e1,e2]
   ·exact absurd ((hrow g h1 h2).2.2 q h3) e2
  ·rcases ho q g hq with ⟨e2,h3,h4⟩|⟨e2,h3⟩
   ·exact absurd ((hrow g h3 h4).2.2 p h1) e1
   ·exact H.qO p q g h1 h3
theorem kD {w:World} {b off:Nat} {cs:List Value} {t:TypeId} (hb:w.heap[b]?=some (.cells cs.toArray t (0,0))):w.cell? ⟨b,off,none⟩=cs[off]?:=by simp [World.cell?,hb]
theorem dV {w:World} {b off:Nat} {cs tl:List Value} {t:TypeId} {v:Value} (hb:w.heap[b]?=some (.cells (cs++tl).toArray t (0,0))) (hv:cs[off]?=some v):w.cell? ⟨b,off,none⟩=some v:=by rw [kD hb,List.getElem?_append_left (List.getElem?_eq_some_iff.1 hv).1];exact hv
theorem dO {w:World} {i:Nat} {x:Obj} (h:w.heap[i]?=some x):i<w.heap.size:=by
 rcases Nat.lt_or_ge i w.heap.size with h'|h'
 ·exact h'
 ·simp [Array.getElem?_eq_none h'] at h
theorem Gl {x:AV} {v:Value} {g:Nat} (h:AV.R lim bs w x v) (hr:x.isRow=true) (hg:v.ownBlock=some g):g<w.heap.size:=by
 cases x<;>simp only [AV.isRow,Bool.false_eq_true] at hr;rw [AV.R] at h;obtain ⟨-,-,h3⟩:=h;rcases h3 with ⟨rfl,-⟩|⟨g',c,cur,rfl,hb,-⟩
 ·cases hg
 ·cases hg;exact dO hb
theorem mO:∀{x:List AV} {c:List Value} {j:Nat} {y:AV},AV.Rs lim bs w x c->x[j]?=some y->∃v,c[j]?=some v∧AV.R lim bs w y v
 |[],c,j,y,_,hy=>by simp at hy
 |z::x,c,0,y,h,hy=>by rw [AV.Rs] at h;obtain ⟨v,r,rfl,h1,-⟩:=h;simp at hy;subst hy;exact ⟨v,rfl,h1⟩
 |z::x,c,j+1,y,h,hy=>by rw [AV.Rs] at h;obtain ⟨v,r,rfl,-,h2⟩:=h;simp at hy;obtain ⟨v',h3,h4⟩:=mO h2 hy;exact ⟨v',by simpa using h3,h4⟩
theorem Own.lt (H:aB lim bs w bx S m) {p:Loc} {g:Nat} (h:Own w bs bx S p g):g<w.heap.size:=by
 cases p with
 |t k=>exact Gl (H.slot k) h.1 h.2
 |b i j=>
  obtain ⟨b,x,y,v,h1,h2,h3,h4,h5,h6⟩:=h;obtain ⟨c,tl,t,hb,hx,-⟩:=H.box i b x h1 h2;obtain ⟨v',h7,h8⟩:=mO hx h3;rw [dV hb h7] at h5;cases h5;exact Gl h8 h4 h6
theorem qj (k:AV.Ext lim bs w lim' bs' w'):∀{x:List AV} {c:List Value},x.all AV.top=true->(∀(j:Nat) (y:AV) (v:Value) (g:Nat),x[j]?=some y->c[j]?=some v->y.isRow=true->v.ownBlock=some g->w'.heap[g]?=w.heap[g]?∧lim' g=lim g)->AV.Rs lim bs w x c->AV.Rs lim' bs' w' x c
 |[],c,_,_,h=>by rw [AV.Rs] at h⊢;exact h
 |z::x,c,ht,hr,h=>by rw [AV.Rs] at h⊢;obtain ⟨v,r,rfl,h1,h2⟩:=h;rw [List.all_cons,Bool.and_eq_true] at ht;refine ⟨v,r,rfl,AV.R.pV k ht.1 (fun g hg1 hg2=>hr 0 z v g rfl rfl hg1 hg2) h1,qj k ht.2 (fun j y v' g hy hv hg1 hg2=>hr (j+1) y v' g (by simpa using hy) (by simpa using hv) hg1 hg2) h2⟩
theorem aB.world (H:aB lim bs w bx S m) (k:AV.Ext lim bs w lim' bs w') (hbox:∀b ∈ bs,w'.heap[b]?=w.heap[b]?∧lim' b=0) (hrow:∀p g,Own w bs bx S p g->w'.heap[g]?=w.heap[g]?∧lim' g=lim g) (htop:∀b,w'.heap.size<=b->lim' b=0):
  aB lim' bs w' bx S m∧∀p g,Own w' bs bx S p g->Own w bs bx S p g:=by
 have hc:∀i b j,bs[i]?=some b->w'.cell? ⟨b,j,none⟩=w.cell? ⟨b,j,none⟩:=fun i b j hi=>World.cell?_of_block (hbox b (List.mem_of_getElem? hi)).1;have ho:∀p g,Own w' bs bx S p g->Own w bs bx S p g:=by
  intro p g hp;cases p with
  |t k=>exact hp
  |b i j=>
   obtain ⟨b,x,y,v,h1,h2,h3,h4,h5,h6⟩:=hp;exact ⟨b,x,y,v,h1,h2,h3,h4,by rw [←hc i b j h1];exact h5,h6⟩
 refine ⟨⟨H.len,H.BX,fun b hb=>(hbox b hb).2,H.mb,fun i b x hi hx=>?_,fun k'=>?_,H.kN,htop,fun p g hp=>H.own p g (ho p g hp),fun p q g hp hq=>H.qO p q g (ho p g hp) (ho q g hq)⟩,ho⟩
 ·obtain ⟨c,tl,t,hb,hr,ht⟩:=H.box i b x hi hx;refine ⟨c,tl,t,(hbox b (List.mem_of_getElem? hi)).1.trans hb,qj k ht (fun j y v g hy hv h1 h2=>hrow (.b i j) g ⟨b,x,y,v,hi,hx,hy,h1,dV hb hv,h2⟩) hr,ht⟩
 ·exact AV.R.pV k (H.kN k') (fun g h1 h2=>hrow (.t k') g ⟨h1,h2⟩) (H.slot k')
end Ab
namespace Ab
variable {lim : Nat -> Nat} {bs : List Nat} {w : World} {P : Program}
theorem toList_data (a:ByteArray):a.toList=a.data.toList:=by
 have key:∀(n i:Nat) (r:List UInt8),a.size-i=n->ByteArray.toList.loop a i r=r.reverse++a.data.toList.drop i:=by
  intro n
  induction n with
  |zero=>
   intro i r h;unfold ByteArray.toList.loop;rw [if_neg oM];have hl:a.data.toList.length<=i:=by have:a.data.toList.length=a.size:=Array.length_toList;omega
   rw [List.drop_eq_nil_of_le hl,List.append_nil]
  |succ n ih=>
   intro i r h;unfold ByteArray.toList.loop;rw [if_pos oM,ih (i+1) _ oM];have hi:i<a.data.toList.length:=by have:a.data.toList.length=a.size:=Array.length_toList;omega
   rw [List.drop_eq_getElem_cons hi];have hg:a.get! i=a.data.toList[i]:=by
    have h2:i<a.data.size:=by simpa using hi
    simp only [ByteArray.get!,Array.getElem_toList];exact getElem!_pos a.data i h2
   rw [hg];simp
 have:=key a.size 0 [] (by simp);unfold ByteArray.toList;rw [this];simp
theorem Ru (a b:ByteArray):(a.toList==b.toList)=decide (a=b):=by
 rw [Bool.eq_iff_iff,beq_iff_eq,decide_eq_true_eq,toList_data,toList_data];constructor
 ·intro h;cases a;cases b;simp only [ByteArray.mk.injEq];exact Array.toList_inj.1 h
 ·rintro rfl;rfl
theorem abD {op:BinOp} {t:TypeId} {ox oy:Operand} {x y v:AV} {vx vy:Value} {ok:Bool} (h:bin op x y=some (v,ok)) (hok:ok=true) (hx:AV.R lim bs w x vx) (hy:AV.R lim bs w y vy):
  ∃u,(do eqGuard op t ox oy vx vy;binOp op t vx vy).run P w=.ok u w∧AV.R lim bs w v u∧v.flat=true∧v.isRow=false:=by
 unfold bin at h;split at h
 ·rename_i k a;split at h
  ·rename_i k' b;split at h
   ·rename_i hk;subst hk;rw [AV.R] at hx hy;subst hx hy;unfold agY at h;cases op<;>simp only [Option.some.injEq,Prod.mk.injEq,reduceCtorEq] at h<;>obtain ⟨rfl,rfl⟩:=h<;>
     first
     |(refine ⟨_,?_,by rw [AV.R],rfl,rfl⟩;simp [eqGuard,binOp,Op.intArith,Op.intCmp];done)
     |(refine ⟨_,?_,by rw [AV.R],rfl,rfl⟩;have hb:b≠0:=by simpa using hok
       simp [eqGuard,binOp,Op.intDiv,hb];done)
   ·cases h
  ·cases h
 ·rename_i a;split at h
  ·rename_i b;rw [AV.R] at hx hy;obtain ⟨rfl,-⟩:=hx;obtain ⟨rfl,-⟩:=hy;unfold anu at h;cases op<;>simp only [Option.some.injEq,Prod.mk.injEq,reduceCtorEq] at h<;>obtain ⟨rfl,rfl⟩:=h
   ·have hb:a.size+b.size<=nM.B:=by simpa using hok
    have hB:=nM.hi;refine ⟨_,?_,by rw [AV.R];exact ⟨rfl,by rw [ByteArray.size_append];exact hb⟩,rfl,rfl⟩;have:¬((a.size:Int)+(b.size:Int)>IntKind.i64.max):=by have:IntKind.i64.max=9223372036854775807:=dE;omega
    simp [eqGuard,binOp,Op.stringOp];omega
   ·refine ⟨_,?_,by rw [AV.R],rfl,rfl⟩;simp [eqGuard,binOp,Op.stringOp,Ru]
   ·refine ⟨_,?_,by rw [AV.R],rfl,rfl⟩;simp [eqGuard,binOp,Op.stringOp,Ru]
  ·cases h
 ·rename_i k;split at h
  ·rename_i k' b;split at h
   ·rename_i hk;obtain ⟨rfl,rfl⟩:=hk;rw [AV.R] at hx;rw [AV.R] at hy;obtain ⟨n,hn,rfl⟩:=hx;subst hy;unfold anv at h;cases op<;>simp only [Option.some.injEq,Prod.mk.injEq,reduceCtorEq] at h<;>obtain ⟨rfl,rfl⟩:=h
    ·refine ⟨_,?_,by rw [AV.R],rfl,rfl⟩;simp [eqGuard,binOp,Op.intCmp,hn]
    ·refine ⟨_,?_,by rw [AV.R],rfl,rfl⟩;simp [eqGuard,binOp,Op.intCmp,hn]
   ·cases h
  ·cases h
 ·cases h
def zr:AV->Value->Prop
 |.nil,v=>v=.slice none 0 0
 |.bool b,v=>v=.bool b
 |.int k n,v=>v=.int k n
 |.str s,v=>(v,decide (s.size<=1000000000))=(Value.string s,true)
 |_,_=>False
def zrs:List AV->List Value->Prop
 |[],vs=>vs=[]
 |x::l,vs=>∃v r,vs=v::r∧zr x v∧zrs l r
theorem aht {x:AV} {v:Value} (h:zr x v):AV.R lim bs w x v∧x.top=true∧x.one=true∧(x.isRow=true->v=.slice none 0 0):=by
 unfold zr at h;split at h
 ·subst h;exact ⟨by rw [AV.R],rfl,rfl,fun h=>by cases h⟩
 ·subst h;exact ⟨by rw [AV.R],rfl,rfl,fun h=>by cases h⟩
 ·subst h;exact ⟨by rw [AV.R],rfl,rfl,fun h=>by cases h⟩
 ·rw [Prod.mk.injEq] at h;obtain ⟨rfl,h2⟩:=h;exact ⟨by rw [AV.R];exact ⟨rfl,Nat.le_trans (of_decide_eq_true h2) nM.lo⟩,rfl,rfl,fun h=>by cases h⟩
 ·cases h
theorem adE:∀{x:List AV} {c:List Value},zrs x c->AV.Rs lim bs w x c∧x.all AV.top=true∧dZ x=true∧(∀(j:Nat) (y:AV) (v:Value),x[j]?=some y->c[j]?=some v->y.isRow=true->v=.slice none 0 0)
 |[],c,h=>by rw [zrs] at h;subst h;exact ⟨by rw [AV.Rs],rfl,rfl,fun j y v hy=>by simp at hy⟩
 |z::x,c,h=>by
  rw [zrs] at h;obtain ⟨v,r,rfl,h1,h2⟩:=h;obtain ⟨a1,a2,a3,a4⟩:=aht (lim:=lim) (bs:=bs) (w:=w) h1;obtain ⟨b1,b2,b3,b4⟩:=adE (x:=x) (c:=r) h2;refine ⟨by rw [AV.Rs];exact ⟨v,r,rfl,a1,b1⟩,by rw [List.all_cons,a2,b2];rfl,by rw [dZ,a3,b3];rfl,fun j y u hy hu hr=>?_⟩;cases j with
  |zero=>simp at hy hu;subst hy hu;exact a4 hr
  |succ j=>simp at hy hu;exact b4 j y u hy hu hr
theorem Oj:∀{x:List AV} {c:List Value},zrs x c->AV.Rs lim bs w x c∧AV.aj x=true
 |[],c,h=>by rw [zrs] at h;subst h;exact ⟨by rw [AV.Rs],rfl⟩
 |z::x,c,h=>by
  rw [zrs] at h;obtain ⟨v,r,rfl,h1,h2⟩:=h;obtain ⟨b1,b2⟩:=Oj (x:=x) (c:=r) h2;have hz:=(aht (lim:=lim) (bs:=bs) (w:=w) h1).1;have hf:z.flat=true:=by
   unfold zr at h1;split at h1<;>first|rfl|cases h1
  exact ⟨by rw [AV.Rs];exact ⟨v,r,rfl,hz,b1⟩,by rw [AV.aj,hf,b2];rfl⟩
structure mM (P:Program) (T:kZ):Prop where
 str:P.underlying 9=some .string
 u8:P.underlying 5=some (.int .u8)
 i64:P.underlying 3=some (.int .i64)
 mix:P.follows .mixedOrders=true
 boo:P.underlying 4=some .bool
 ceq:∀(w:World) (a b:ByteArray) (n m:Int),(Op.equalIn 10000 56 (.agg #[.string a,.int .i64 n]) (.agg #[.string b,.int .i64 m])).run P w=.ok (decide (a=b∧n=m)) w
 cgd:P.eqGuardType P.depth 56=false
 und:∀t d,T t=some d->∃u,P.underlying t=some u∧u.isRow=d.agg∧(∀e,d.elem=some e->u=.slice e)
 fld:∀t d,T t=some d->d.agg=true->∃fs:Array Field,P.underlying t=some (.struct fs)∧fs.size=d.jG.length∧∀(f:Nat) (q:Nat×Nat×Bool),d.jG[f]?=some q->∃(fl:Field) (i:TypeInfo) (u:TypeDesc),fs[f]?=some fl∧fl.offset=q.1∧P.info? fl.type=some i∧i.size=q.2.1∧P.underlying fl.type=some u∧u.isRow=q.2.2
 off:∀t d,T t=some d->d.agg=false->d.jG=[]
 info:∀t d,T t=some d->∃(i:TypeInfo) (z:Value),P.info? t=some i∧i.size=d.size∧i.bytes=d.bytes∧i.zero=some z∧z.cells.size=d.size∧zrs d.zero z.cells.toList
theorem anI {x y:AV} {v:Value} (h:AV.R lim bs w (.agg [x,y]) v):∃u1 u2,v=.agg #[u1,u2]∧AV.R lim bs w x u1∧AV.R lim bs w y u2:=by
 rw [AV.R] at h;obtain ⟨vs,rfl,h⟩:=h;rw [AV.Rs] at h;obtain ⟨u1,r,h1,h2,h⟩:=h;rw [AV.Rs] at h;obtain ⟨u2,r2,h3,h4,h⟩:=h;rw [AV.Rs] at h;refine ⟨u1,u2,?_,h2,h4⟩;obtain ⟨vs⟩:=vs;have:vs=[u1,u2]:=by rw [show vs=u1::r from h1,h3,h]
 rw [this]
theorem Po {T:kZ} (HT:mM P T) {op:BinOp} {t:Nat} {ox oy:Operand} {x y:AV} {b:Bool} {vx vy:Value} (h:Xe t x y=some b) (hop:op=.eql∨op=.neq) (hx:AV.R lim bs w x vx) (hy:AV.R lim bs w y vy):(do eqGuard op t ox oy vx vy;binOp op t vx vy).run P w=.ok (.bool (if op=.eql then b else !b)) w:=by
 unfold Xe at h;split at h
 ·rename_i a;split at h
  ·rename_i c;split at h
   ·rename_i ht;cases h;rw [AV.R] at hx hy;subst hx hy ht;have e:(Op.equalIn 10000 4 (.bool a) (.bool c)).run P w=.ok (a==c) w:=run_equalIn_bool' w 9999 4 a c HT.boo;rcases hop with rfl|rfl
    ·simp [eqGuard,binOp,Op.equal,Op.maxDepth,e];cases a<;>cases c<;>rfl
    ·simp [eqGuard,binOp,Op.equal,Op.maxDepth,e];cases a<;>cases c<;>rfl
   ·cases h
  ·cases h
 ·rename_i a n;split at h
  ·rename_i c m;split at h
   ·rename_i ht;cases h;obtain ⟨u1,u2,rfl,g1,g2⟩:=anI hx;obtain ⟨u3,u4,rfl,g3,g4⟩:=anI hy;rw [AV.R] at g1;rw [AV.R] at g2;rw [AV.R] at g3;rw [AV.R] at g4;obtain ⟨rfl,-⟩:=g1;obtain ⟨rfl,-⟩:=g3;subst g2 g4 ht;rcases hop with rfl|rfl
    ·rw [Sem.run_bind,run_eqGuard_agg w _ _ _ _ _ _ HT.cgd];show (binOp .eql 56 _ _).run P w=_;rw [run_eql_struct,HT.ceq];rfl
    ·rw [Sem.run_bind,run_eqGuard_agg w _ _ _ _ _ _ HT.cgd];show (binOp .neq 56 _ _).run P w=_;rw [run_neq_struct,HT.ceq];rfl
   ·cases h
  ·cases h
 ·cases h
variable {T : kZ}
theorem ZU {T:kZ} {t e:Nat} {d:TD} (h:AA T t=some (e,d)):(∃d0,T t=some d0∧d0.elem=some e)∧T e=some d:=by
 unfold AA at h;split at h
 ·cases h
 ·rename_i d0 h0;split at h
  ·cases h
  ·rename_i e0 he;split at h
   ·cases h
   ·rename_i d1 h1;cases h;exact ⟨⟨d0,h0,he⟩,h1⟩
theorem tY (HT:mM P T) {t e:Nat} {d:TD} (h:AA T t=some (e,d)):P.underlying t=some (.slice e)∧T e=some d:=by obtain ⟨⟨d0,h0,he⟩,h1⟩:=ZU h;obtain ⟨u,hu,-,hs⟩:=HT.und t d0 h0;rw [hs e he] at hu;exact ⟨hu,h1⟩
theorem add_mid (b o n:Nat):(⟨b,o,none⟩:Addr).add n=⟨b,o+n,none⟩:=by
 unfold Addr.add;split
 ·rename_i h;subst h;rfl
 ·rfl
theorem run_sizeOf {t:TypeId} {i:TypeInfo} (h:P.info? t=some i) (w:World):(sizeOf t).run P w=.ok i.size w:=by simp [sizeOf,typeInfo,h]
theorem Ad {t:TypeId} {u:TypeDesc} (h:P.underlying t=some u) (w:World):(isAgg t).run P w=.ok u.isRow w:=by unfold isAgg;rw [Sem.run_bind,run_underlying h w];cases u<;>rfl
theorem FU (HT:mM P T) {t f b o:Nat} {d:TD} {q:Nat×Nat×Bool} (ht:T t=some d) (hq:d.jG[f]?=some q) (hpos:0<q.2.1):
  (Instr.fieldAt t (.pointer (some ⟨b,o,none⟩)) f).run P w=.ok (.pointer (some ⟨b,o+q.1,none⟩)) w:=by
 cases ha:d.agg with
 |false=>rw [HT.off t d ht ha] at hq;cases hq
 |true=>
  obtain ⟨fs,hu,-,hf⟩:=HT.fld t d ht ha;obtain ⟨fl,i,u,h1,h2,h3,h4,-⟩:=hf f q hq;have hz:i.size≠0:=oM;simp only [Instr.fieldAt,Sem.run_bind,run_underlying hu,Result.andThen_ok,h1,Instr.sureAddr,Sem.run_pure,fieldPlace,run_sizeOf h3,hz,if_false,h2,add_mid]
theorem Wq (HT:mM P T) {s:ByteArray} {k:IntKind} {n:Int} (h0:0<=n) (h1:n<s.size):(Instr.index 9 (.string s) (.int k n)).run P w=.ok (.int .u8 (bt s n.toNat)) w:=by
 have h2:n.toNat<s.size:=oM;have h3:s[n.toNat]?=some (s[n.toNat]):=by exact getElem?_pos s n.toNat h2
 simp only [Instr.index,asIntOf,Sem.run_bind,Sem.run_pure,Result.andThen_ok,run_underlying HT.str,if_pos h0,h3];unfold bt;rw [dif_pos h2]
theorem FT (HT:mM P T) {t e:Nat} {d:TD} (h:AA T t=some (e,d)) {b o len cap:Nat} {k:IntKind} {n:Int} (h0:0<=n) (h1:n<len):
  (Instr.indexAt t (.slice (some ⟨b,o,none⟩) len cap) (.int k n)).run P w=.ok (.pointer (some ⟨b,o+n.toNat*d.size,none⟩)) w:=by
 obtain ⟨hu,he⟩:=tY HT h;obtain ⟨i,z,hi,hs,-⟩:=HT.info e d he;simp only [Instr.indexAt,asIntOf,Sem.run_bind,Sem.run_pure,Result.andThen_ok,run_underlying hu,if_pos (And.intro h0 h1),run_sizeOf hi,hs,add_mid]
theorem qL:∀{l:List AV} {n:Nat},AV.aj l=true->AV.aj (l.drop n)=true
 |[],n,_=>by simp [AV.aj]
 |x::l,0,h=>h
 |x::l,n+1,h=>by rw [AV.aj,Bool.and_eq_true] at h;exact qL (l:=l) (n:=n) h.2
theorem uJ:∀{l:List AV} {n:Nat},AV.aj l=true->AV.aj (l.take n)=true
 |[],n,_=>by simp [AV.aj]
 |x::l,0,h=>rfl
 |x::l,n+1,h=>by rw [AV.aj,Bool.and_eq_true] at h;rw [List.take_succ_cons,AV.aj,h.1,uJ (l:=l) (n:=n) h.2];rfl
theorem fJ:∀{l:List AV} {n:Nat} {v:AV},AV.aj l=true->l[n]?=some v->v.flat=true
 |[],n,v,_,hv=>by simp at hv
 |x::l,0,v,h,hv=>by rw [AV.aj,Bool.and_eq_true] at h;simp at hv;subst hv;exact h.1
 |x::l,n+1,v,h,hv=>by rw [AV.aj,Bool.and_eq_true] at h;exact fJ (l:=l) (n:=n) h.2 (by simpa using hv)
theorem nI:∀{l:List AV} {c:List Value},l.all AV.top=true->AV.Rs lim bs w l c->AV.aj (l.map AV.cO)=true
 |[],c,_,_=>rfl
 |x::l,c,h,hr=>by rw [List.all_cons,Bool.and_eq_true] at h;rw [AV.Rs] at hr;obtain ⟨v,r,rfl,h1,h2⟩:=hr;rw [List.map_cons,AV.aj,AV.R.qc h.1 h1,nI h.2 h2];rfl
theorem uQ:∀{l:List AV} {c:List Value},AV.Rs lim bs w l c->AV.Rs lim bs w (l.map AV.cO) c
 |[],c,h=>h
 |x::l,c,h=>by rw [AV.Rs] at h;obtain ⟨v,r,rfl,h1,h2⟩:=h;rw [List.map_cons,AV.Rs];exact ⟨v,r,rfl,h1.cO,uQ h2⟩
theorem AQ:∀{l:List AV} {c:List Value} {n:Nat},AV.Rs lim bs w l c->AV.Rs lim bs w (l.drop n) (c.drop n)
 |[],c,n,h=>by rw [AV.Rs] at h;subst h;simp only [List.drop_nil];rw [AV.Rs]
 |x::l,c,0,h=>h
 |x::l,c,n+1,h=>by rw [AV.Rs] at h;obtain ⟨v,r,rfl,h1,h2⟩:=h;exact AQ (n:=n) h2
theorem vO:∀{l:List AV} {c:List Value} {n:Nat},AV.Rs lim bs w l c->AV.Rs lim bs w (l.take n) (c.take n)
 |[],c,n,h=>by rw [AV.Rs] at h;subst h;simp only [List.take_nil];rw [AV.Rs]
 |x::l,c,0,h=>by rw [List.take_zero,List.take_zero,AV.Rs]
 |x::l,c,n+1,h=>by rw [AV.Rs] at h;obtain ⟨v,r,rfl,h1,h2⟩:=h;rw [List.take_succ_cons,List.take_succ_cons,AV.Rs];exact ⟨v,_,rfl,h1,vO (n:=n) h2⟩
theorem Hl:∀{l:List AV} {b o n:Nat},AV.Rm lim bs w b o l->AV.Rm lim bs w b (o+n) (l.drop n)
 |[],b,o,n,h=>by simp only [List.drop_nil];rw [AV.Rm];trivial
 |x::l,b,o,0,h=>h
 |x::l,b,o,n+1,h=>by rw [AV.Rm] at h;have:=Hl (n:=n) h.2;rw [show o+(n+1)=o+1+n by omega];exact this
theorem NV:∀{l:List AV} {b o n:Nat},AV.Rm lim bs w b o l->AV.Rm lim bs w b o (l.take n)
 |[],b,o,n,h=>by simp only [List.take_nil];exact h
 |x::l,b,o,0,h=>by rw [List.take_zero,AV.Rm];trivial
 |x::l,b,o,n+1,h=>by rw [AV.Rm] at h;rw [List.take_succ_cons,AV.Rm];exact ⟨h.1,NV h.2⟩
theorem yf:∀{l:List AV} {b o:Nat},AV.Rm lim bs w b o l->∃vs:List Value,vs.length=l.length∧AV.Rs lim bs w l vs∧∀(j:Nat) (v:Value),vs[j]?=some v->w.cell? ⟨b,o+j,none⟩=some v
 |[],b,o,h=>⟨[],rfl,by rw [AV.Rs],fun j v hj=>by simp at hj⟩
 |x::l,b,o,h=>by
  rw [AV.Rm] at h;obtain ⟨⟨v,h1,h2⟩,h3⟩:=h;obtain ⟨vs,h4,h5,h6⟩:=yf h3;refine ⟨v::vs,by simp [h4],by rw [AV.Rs];exact ⟨v,vs,rfl,h2,h5⟩,fun j u hj=>?_⟩;cases j with
  |zero=>simp at hj;subst hj;exact h1
  |succ j=>
   have:=h6 j u (by simpa using hj);rw [show o+(j+1)=o+1+j by omega];exact this
theorem qW:∀{l:List AV} {b o:Nat} {vs:List Value},AV.Rs lim bs w l vs->(∀(j:Nat) (v:Value),vs[j]?=some v->w.cell? ⟨b,o+j,none⟩=some v)->AV.Rm lim bs w b o l
 |[],b,o,vs,h,hc=>by rw [AV.Rm];trivial
 |x::l,b,o,vs,h,hc=>by rw [AV.Rs] at h;obtain ⟨v,r,rfl,h1,h2⟩:=h;rw [AV.Rm];refine ⟨⟨v,hc 0 v rfl,h1⟩,qW h2 (fun j u hj=>?_)⟩;have:=hc (j+1) u (by simpa using hj);rw [show o+1+j=o+(j+1) by omega];exact this
theorem tJ {ty:TypeId} {u:TypeDesc} {ad:Addr} {v:Value} (hu:P.underlying ty=some u) (hr:u.isRow=false) (hc:w.cell? ad=some v):(Instr.loadAt ty (.pointer (some ad))).run P w=.ok v w:=by simp [Instr.loadAt,Instr.sureAddr,loadVar,Sem.run_bind,Ad hu w,hr,hc]
theorem xE (HT:mM P T) {ty b o:Nat} {d:TD} (ht:T ty=some d) (ha:d.agg=true) {vs:List Value} (hl:vs.length=d.size) (hc:∀(j:Nat) (v:Value),vs[j]?=some v->w.cell? ⟨b,o+j,none⟩=some v):
  (Instr.loadAt ty (.pointer (some ⟨b,o,none⟩))).run P w=.ok (.agg vs.toArray) w:=by
 obtain ⟨u,hu,hr,-⟩:=HT.und ty d ht;obtain ⟨i,z,hi,hs,-⟩:=HT.info ty d ht;have:=run_loadAt_mid (P:=P) w b o ty vs u (fun j v hj=>hc j v hj) hu (by rw [hr,ha]) (by rw [hi,Option.map_some,hs,hl]);simp only [Instr.loadAt,Instr.sureAddr,Sem.run_bind,Sem.run_pure,Result.andThen_ok];exact this
end Ab
namespace Ab
open Bk (Cm)
def tyL:List (Nat×TD):=
 [(3,⟨1,8,false,[],none,[AV.int .i64 0]⟩),
  (4,⟨1,1,false,[],none,[AV.bool false]⟩),
  (5,⟨1,1,false,[],none,[AV.int .u8 0]⟩),
  (9,⟨1,16,false,[],none,[AV.str ByteArray.empty]⟩),
  (21,⟨1,4,false,[],none,[AV.int .i32 0]⟩),
  (28,⟨1,8,false,[],none,[AV.int .i64 0]⟩),
  (22,⟨1,24,false,[],some 3,[AV.nil]⟩),
  (24,⟨1,24,false,[],some 37,[AV.nil]⟩),
  (25,⟨1,24,false,[],some 56,[AV.nil]⟩),
  (32,⟨1,24,false,[],some 9,[AV.nil]⟩),
  (33,⟨1,24,false,[],some 35,[AV.nil]⟩),
  (152,⟨1,24,false,[],some 154,[AV.nil]⟩),
  (109,⟨1,24,false,[],some 25,[AV.nil]⟩),
  (27,⟨2,48,true,[(0,1,false),(1,1,false)],none,[AV.nil,AV.nil]⟩),
  (35,⟨12,176,true,[(0,1,false),(1,1,false),(2,1,false),(3,1,false),(4,1,false),(5,1,false),(6,1,false),(7,1,false),(8,1,false),(9,1,false),(10,1,false),(11,1,false)],none,[AV.int .i64 0,AV.int .i64 0,AV.int .i64 0,AV.int .i64 0,AV.str ByteArray.empty,AV.str ByteArray.empty,AV.str ByteArray.empty,AV.nil,AV.nil,AV.nil,AV.bool false,AV.str ByteArray.empty]⟩),
  (37,⟨16,256,true,[(0,1,false),(1,1,false),(2,1,false),(3,12,true),(15,1,false)],none,[AV.nil,AV.nil,AV.bool false,AV.int .i64 0,AV.int .i64 0,AV.int .i64 0,AV.int .i64 0,AV.str ByteArray.empty,AV.str ByteArray.empty,AV.str ByteArray.empty,AV.nil,AV.nil,AV.nil,AV.bool false,AV.str ByteArray.empty,AV.nil]⟩),
  (56,⟨2,24,true,[(0,1,false),(1,1,false)],none,[AV.str ByteArray.empty,AV.int .i64 0]⟩),
  (80,⟨2,32,true,[(0,1,false),(1,1,false)],none,[AV.nil,AV.bool false]⟩),
  (72,⟨2,32,true,[(0,1,false),(1,1,false)],none,[AV.bool false,AV.nil]⟩),
  (83,⟨5,64,true,[(0,1,false),(1,1,false),(2,1,false),(3,1,false),(4,1,false)],none,[AV.nil,AV.int .i64 0,AV.str ByteArray.empty,AV.int .i64 0,AV.int .i64 0]⟩),
  (102,⟨4,56,true,[(0,1,false),(1,1,false),(2,1,false),(3,1,false)],none,[AV.str ByteArray.empty,AV.int .i64 0,AV.nil,AV.int .i64 0]⟩),
  (106,⟨7,40,true,[(0,1,false),(1,1,false),(2,1,false),(3,1,false),(4,1,false),(5,1,false),(6,1,false)],none,[AV.int .i64 0,AV.int .i64 0,AV.bool false,AV.bool false,AV.bool false,AV.int .i64 0,AV.bool false]⟩),
  (154,⟨3,32,true,[(0,1,false),(1,1,false),(2,1,false)],none,[AV.str ByteArray.empty,AV.int .i64 0,AV.bool false]⟩),
  (161,⟨5,64,true,[(0,1,false),(1,1,false),(2,1,false),(3,1,false),(4,1,false)],none,[AV.str ByteArray.empty,AV.int .i64 0,AV.int .i64 0,AV.nil,AV.int .i64 0]⟩),
  (170,⟨3,40,true,[(0,1,false),(1,1,false),(2,1,false)],none,[AV.nil,AV.bool false,AV.int .i64 0]⟩),
  (180,⟨16,192,true,[(0,12,true),(12,1,false),(13,1,false),(14,1,false),(15,1,false)],none,[AV.int .i64 0,AV.int .i64 0,AV.int .i64 0,AV.int .i64 0,AV.str ByteArray.empty,AV.str ByteArray.empty,AV.str ByteArray.empty,AV.nil,AV.nil,AV.nil,AV.bool false,AV.str ByteArray.empty,AV.bool false,AV.bool false,AV.bool false,AV.int .i64 0]⟩)]
def jJ:kZ:=assoc tyL
def eU:List Cm->List AV
 |[]=>[]
 |c::l=> .str c.t::.int .i64 c.b::eU l
def pI (f:Int->AV):List AV->Option AV
 |[.int .u8 c]=>some (f c)
 |_=>none
def Oa (f:ByteArray->Int->Option AV):List AV->Option AV
 |[.str s,.int .i64 a]=>if s.size<=900000 then f s a else none
 |_=>none
def Wx (f:ByteArray->Int->Int->Option AV):List AV->Option AV
 |[.str s,.int .i64 a,.int .i64 b]=>if s.size<=900000 then f s a b else none
 |_=>none
def inT (s:ByteArray) (a:Int) (f:Nat->AV):Option AV:=if 0<=a∧a<=s.size then some (f a.toNat) else none
def QG:Option (List Cm×Bool×Nat)->AV
 |some (l,same,p)=> .bW [.sl l.length (eU l),.bool same,.int .i64 p,.int .i64 0]
 |none=> .bW [.nil,.bool false,.ql .i64,.nz .i64]
def UE:List (Nat×(List AV->Option AV)):=
 [(29,(Oa fun s a=>inT s a fun q=>QG (Bk.sK s q 0 false))),
  (30,(Oa fun s a=>some (.int .i64 (Bk.fE s (Bk.aP s a))))),
  (31,(Oa fun s a=>some (.int .i64 ((Bk.aP s a:Nat)-(Bk.bI s (Bk.aP s a):Nat))))),
  (32,(Oa fun s a=>some (.bW [.int .i64 (Bk.bI s (Bk.aP s a):Nat),.int .i64 (Bk.oI s (Bk.aP s a):Nat)]))),
  (33,(Wx fun s a b=>if 0<=a∧0<=b∧b<=s.size then some (.int .i64 (Bk.iV s a.toNat b.toNat:Nat)) else none)),
  (34,fun xs=>match xs with
  |[.str s]=>if s.size<=900000 then some (.str (Bk.ET s)) else none
  |_=>none),
  (61,(Oa fun s a=>some (.bool (Bk.mG s a)))),
  (63,(pI fun c=> .bool (Bk.dB c))),
  (88,(Oa fun s a=>some (.int .i64 (Bk.uH s (Bk.aP s a):Nat)))),
  (90,(Oa fun s a=>some (.int .i64 (Bk.oC s (Bk.aP s a):Nat)))),
  (93,(pI fun c=> .bool (Bk.wI c))),
  (146,fun xs=>match xs with
  |[.int .i64 n]=>if n<=100000000 then some (.str (Bk.Dq 10 n.toNat)) else none
  |_=>none),
  (159,(Wx fun s a n=>inT s a fun q=>QG (Bk.sK s q n true)))]
def ai8:Nat->Option (List AV->Option AV):=assoc UE
end Ab
end
end Go.Proofs.YtlmjabnkjmfcmaaGreat
