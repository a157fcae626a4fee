/- Own texts, joined and shortened by a program; no condition. -/
import Derived.PlainAid
import Derived.Test.YtlmjabnkjmfcmaaGreatProg
import Derived.WalkKit
import Derived.WalkSpells
import Derived.WalkLawsBesides
import Derived.Handy
import Derived.Outline
import Derived.Lib.Hide
import Derived.Shelf.Strings.Repeat
import Derived.Shelf.Strings.LastIndex
import Derived.Shelf.Strings.Search1
import Derived.Lib.Builder
import Derived.Lib.IndexLaws
import Derived.BigQuiet
import Derived.Laws.RangeAny
import Derived.Lib.AppendZerosOnto
import Derived.Deep.RegionLaw
import Derived.Laws.AppendOwnNone
import Derived.Deep.AppendLies
import Derived.Below
import Derived.Deep.MidRow
import Derived.Laws.Tables
import Derived.Laws.Entries
import Derived.Great.BuildSlice
import Derived.Laws.StructEq
import Derived.Test.YtlmjabnkjmfcmaaGreatK0
namespace Go.Proofs.YtlmjabnkjmfcmaaGreat
open Go Go.RowKit Go.PlainAid
set_option linter.unusedVariables false
set_option linter.unusedSimpArgs false
set_option maxHeartbeats 20000000
set_option linter.defProp false
namespace Bk
def oG (p:Nat->Bool):Nat->Nat->Nat
 |0,_=>0
 |f+1,k=>if p k then oG p f (k+1)+1 else 0
theorem yu (p:Nat->Bool):∀f k,oG p f k<=f
 |0,_=>Nat.le_refl _
 |f+1,k=>by
  unfold oG;split
  ·have:=yu p f (k+1);omega
  ·omega
theorem Je (p:Nat->Bool):∀f k j,j<oG p f k->p (k+j)=true
 |0,k,j,h=>by simp [oG] at h
 |f+1,k,j,h=>by
  unfold oG at h;split at h
  ·rename_i hp;cases j with
   |zero=>exact hp
   |succ j=>have:=Je p f (k+1) j oM;rw [show k+(j+1)=k+1+j from by omega];exact this
  ·omega
theorem yw (p:Nat->Bool):∀f k,oG p f k<f->p (k+oG p f k)=false
 |0,k,h=>by simp [oG] at h
 |f+1,k,h=>by
  unfold oG at h⊢;split
  ·rename_i hp;rw [if_pos hp] at h;have:=yw p f (k+1) oM;rw [show k+(oG p f (k+1)+1)=k+1+oG p f (k+1) from by omega];exact this
  ·rename_i hp;simpa using hp
theorem Bq {p:Nat->Bool} {f k n:Nat} (h:n<=f) (h1:∀j,j<n->p (k+j)=true) (h2:n<f->p (k+n)=false):oG p f k=n:=by
 have a:=yu p f k;rcases Nat.lt_trichotomy (oG p f k) n with h3|h3|h3
 ·have:=yw p f k oM;rw [h1 _ h3] at this;exact absurd this dE
 ·exact h3
 ·have b:=Je p f k n h3;rw [h2 oM] at b;exact absurd b dE
def nu (p:Nat->Bool):Nat->Nat
 |0=>0
 |k+1=>if p k then nu p k else k+1
theorem DK (p:Nat->Bool):∀k,nu p k<=k
 |0=>Nat.le_refl _
 |k+1=>by
  unfold nu;split
  ·have:=DK p k;omega
  ·omega
theorem FO (p:Nat->Bool):∀k j,nu p k<=j->j<k->p j=true
 |0,j,_,h=>by omega
 |k+1,j,h0,h=>by
  unfold nu at h0;split at h0
  ·rename_i hp;by_cases e:j=k
   ·subst e;exact hp
   ·exact FO p k j h0 oM
  ·omega
theorem FN (p:Nat->Bool):∀k,0<nu p k->p (nu p k-1)=false
 |0,h=>by simp [nu] at h
 |k+1,h=>by
  unfold nu at h⊢;split
  ·rename_i hp;rw [if_pos hp] at h;exact FN p k h
  ·rename_i hp;simpa using hp
theorem UI {p:Nat->Bool} {k n:Nat} (h:n<=k) (h1:∀j,n<=j->j<k->p j=true) (h2:0<n->p (n-1)=false):nu p k=n:=by
 have a:=DK p k;rcases Nat.lt_trichotomy (nu p k) n with h3|h3|h3
 ·have:=FO p k (n-1) oM oM;rw [h2 oM] at this;exact absurd this dE
 ·exact h3
 ·have b:=FN p k oM;rw [h1 _ oM oM] at b;exact absurd b dE
def lF (s:ByteArray) (k:Nat):Bool:=bt s k !=10
def aY (s:ByteArray) (a:Int):Nat:=min a.toNat s.size
theorem mG (s:ByteArray) (a:Int):aY s a<=s.size:=Nat.min_le_right _ _
def bG (s:ByteArray) (k:Nat):Nat:=nu (lF s) k
def l7 (s:ByteArray) (k:Nat):Nat:=k+oG (lF s) (s.size-k) k
theorem fT (s:ByteArray) (k:Nat):bG s k<=k:=DK _ _
theorem rM (s:ByteArray) (k:Nat):k<=l7 s k:=Nat.le_add_right _ _
theorem tC {s:ByteArray} {k:Nat} (h:k<=s.size):l7 s k<=s.size:=by unfold l7;have:=yu (lF s) (s.size-k) k;omega
theorem QK {s:ByteArray} {k n:Nat} (h:k<=n) (h0:n<=s.size) (h1:∀j,k<=j->j<n->bt s j≠10) (h2:n<s.size->bt s n=10):l7 s k=n:=by
 unfold l7;have:oG (lF s) (s.size-k) k=n-k:=by
  refine Bq oM (fun j hj=>?_) (fun hj=>?_)
  ·unfold lF;simpa using h1 (k+j) oM oM
  ·unfold lF;rw [show k+(n-k)=n from by omega];simpa using h2 oM
 omega
theorem TK {s:ByteArray} {k n:Nat} (h:n<=k) (h1:∀j,n<=j->j<k->bt s j≠10) (h2:0<n->bt s (n-1)=10):bG s k=n:=by
 refine UI h (fun j a b=>?_) (fun a=>?_)
 ·unfold lF;simpa using h1 j a b
 ·unfold lF;simpa using h2 a
theorem F3 {s:ByteArray} {k:Nat} (h:l7 s k<s.size):bt s (l7 s k)=10:=by unfold l7 at h⊢;have:=yw (lF s) (s.size-k) k oM;change (bt s (k+oG (lF s) (s.size-k) k) !=10)=false at this;simpa using this
def cZ (c:Int):Bool:=c==32||c==9
def sI (c:Int):Bool:=c==44||c==91||c==93||c==123||c==125
def kD (s:ByteArray) (a:Int):Bool:=decide (a<0)||decide ((s.size:Int)<=a)||cZ (bt s a.toNat)||bt s a.toNat==10
def LJ (s:ByteArray) (k:Nat):Nat:=oG (fun i=>bt s i==32) (l7 s k-bG s k) (bG s k)
def gD (s:ByteArray) (k m:Nat):Nat:=k+oG (fun i=>cZ (bt s i)) (m-k) k
theorem z8 {s:ByteArray} {k m:Nat} (h:k<=m):gD s k m<=m:=by unfold gD;have:=yu (fun i=>cZ (bt s i)) (m-k) k;omega
theorem Aa (s:ByteArray) (k m:Nat):k<=gD s k m:=Nat.le_add_right _ _
theorem L6 {s:ByteArray} {k m:Nat} (h:gD s k m<m):cZ (bt s (gD s k m))=false:=by unfold gD at h⊢;exact yw (fun i=>cZ (bt s i)) (m-k) k oM
theorem Fv {s:ByteArray} {k m n:Nat} (h:k<=n) (h0:n<=m) (h1:∀j,k<=j->j<n->cZ (bt s j)=true) (h2:n<m->cZ (bt s n)=false):gD s k m=n:=by
 unfold gD;have:oG (fun i=>cZ (bt s i)) (m-k) k=n-k:=by refine Bq oM (fun j hj=>h1 (k+j) oM oM) (fun hj=>?_);rw [show k+(n-k)=n from by omega];exact h2 oM
 omega
def sJ (s:ByteArray) (k:Nat) (c:Int):Bool:=decide (k+3<=s.size) && bt s k==c && bt s (k+1)==c && bt s (k+2)==c
def jV (s:ByteArray) (k:Nat) (c:Int):Bool:=sJ s k c && kD s ((k:Int)+3)
def eD (s:ByteArray) (k:Nat):Int:=
 if jV s (bG s k) 45 then 3 else if jV s (bG s k) 46 then 4
 else if gD s (bG s k) (l7 s k)=l7 s k then 1 else if bt s (gD s (bG s k) (l7 s k))=35 then 2 else 5
def oQ (s:ByteArray):Nat->Nat->Nat
 |0,_=>0
 |f+1,k=>if k=0 then 0 else if eD s (bG s (k-1))=1 then oQ s f (bG s (k-1))+1 else 0
def lQ (s:ByteArray) (k:Nat):Nat:=if gD s (bG s k) k<k then 0 else oQ s s.size (bG s k)
theorem FQ (s:ByteArray):∀f k,oQ s f k<=k
 |0,_=>Nat.zero_le _
 |f+1,k=>by
  unfold oQ;split
  ·omega
  ·split
   ·have h1:=FQ s f (bG s (k-1));have h2:=fT s (k-1);omega
   ·omega
def hasB (l:ByteArray) (c:Int):Bool:=l.data.toList.any fun b=>(b.toNat:Int)==c
theorem TB {l:ByteArray} {c:Int} {k:Nat} (h:k<l.size) (e:bt l k=c):hasB l c=true:=by
 unfold hasB;rw [List.any_eq_true];refine ⟨l[k],?_,?_⟩
 ·exact Array.mem_toList_iff.2 (Array.getElem_mem h)
 ·have:=get_bt l k h;simp [this,e]
theorem Xa {l:ByteArray} {c:Int} (h:∀k,k<l.size->bt l k≠c):hasB l c=false:=by unfold hasB;rw [List.any_eq_false];intro b hb;obtain ⟨k,hk,rfl⟩:=Array.getElem_of_mem (Array.mem_toList_iff.1 hb);have h1:=h k hk;have h2:=get_bt l k hk;simp only [beq_iff_eq];intro h3;exact h1 (by rw [←h2];exact h3)
theorem Df (l:List UInt8) (c:Int):hasB ⟨l.toArray⟩ c=(l.map fun b=>(b.toNat:Int)).contains c:=by unfold hasB;rw [Bool.eq_iff_iff];simp [List.any_eq_true]
def LH (c:Int):Bool:=[45,63,58,35,38,42,33,124,62,39,34,37,64,96].contains c||sI c
def MV (c:Int):Bool:=decide (97<=c∧c<=122)||decide (65<=c∧c<=90)||decide (48<=c∧c<=57)||c==45
def Z4 (c:Int):Bool:=[35,59,47,63,58,64,38,61,43,36,95,46,33,126,42,39,40,41,37,44,91,93].contains c||MV c
theorem WY (c:Int):hasB ⟨#[45,63,58,44,91,93,123,125,35,38,42,33,124,62,39,34,37,64,96]⟩ c=LH c:=by rw [Df [45,63,58,44,91,93,123,125,35,38,42,33,124,62,39,34,37,64,96]];rw [Bool.eq_iff_iff];simp [LH,sI];omega
end Bk
theorem fG {a b:Bool} (h:a=b):Ending.returned (.bool a)=.returned (.bool b):=by rw [h]
theorem dH (c:Int) (w:World):
  Calls Tryz.prog 63 #[.int .u8 c] w fun e w'=>e=.returned (.bool (Bk.cZ c))∧w=w':=by
 go_enter Tryz.func63,Tryz.ntmps63
 go_wp2
 all_goals (go_ret;refine ⟨?_,rfl⟩;simp_all [Bk.cZ])
theorem Cs (l:ByteArray) (c:Int) (w:World) (hs:l.size<=4611686018427387904):
  Calls Tryz.prog 109 #[.string l,.int .u8 c] w fun e w'=>e=.returned (.bool (Bk.hasB l c))∧w=w':=by
 have hb:=get_bt l
 go_enter Tryz.func109,Tryz.ntmps109
 go_wp2
 go_loop [5] (fun i=>∃k:Nat,k<=l.size∧i=.int .i64 k∧∀j,j<k->bt l j≠c) (fun i=>l.size-(intOf i).toNat)
 case atStart=>exact ⟨0,Nat.zero_le _,rfl,fun j h=>absurd h oM⟩
 case round=>
  obtain ⟨k,hk,rfl,hall⟩:=hrel;have H:=Lib.hid hall;clear hall;by_cases hlt:k<l.size
  ·by_cases hc:bt l k=c
   ·have HY:=Lib.hid (Bk.TB hlt hc);subst hc
    go_wp2
    go_ret
    exact ⟨fG HY.out.symm,rfl⟩
   ·have h1:(bt l k==c)=false:=by simp [hc]
    have hc':=Lib.hid hc;clear hc
    go_wp2
    go_round
    case rel=>
     refine ⟨k+1,oM,by go_num,?_⟩;intro j hj;by_cases e:j=k
     ·subst e;exact hc'.out
     ·exact H.out j oM
    case measure=>simp [intOf];omega
  ·have HN:=Lib.hid (Bk.Xa (l:=l) (c:=c) (fun j hj=>H.out j oM))
   go_wp2
   go_ret
   exact ⟨fG HN.out.symm,rfl⟩
theorem RI (c:Int) (w:World):
  Calls Tryz.prog 142 #[.int .u8 c] w fun e w'=>e=.returned (.bool (Bk.LH c))∧w=w':=by
 go_enter Tryz.func142,Tryz.ntmps142
 go_wp2_with (go_at_call 109;refine (Cs _ _ _ dE).mono ?_;rintro e w' ⟨rfl,rfl⟩)
 go_ret
 exact ⟨fG (Bk.WY c),rfl⟩
namespace Bk
theorem TA (c:Int):hasB ⟨#[44,91,93,123,125]⟩ c=sI c:=by rw [Df [44,91,93,123,125]];rw [Bool.eq_iff_iff];simp [sI];omega
theorem WX (c:Int):hasB ⟨#[35,59,47,63,58,64,38,61,43,36,95,46,33,126,42,39,40,41,37,44,91,93]⟩ c=[35,59,47,63,58,64,38,61,43,36,95,46,33,126,42,39,40,41,37,44,91,93].contains c:=by rw [Df [35,59,47,63,58,64,38,61,43,36,95,46,33,126,42,39,40,41,37,44,91,93]];rfl
end Bk
theorem O4 (c:Int) (w:World):
  Calls Tryz.prog 93 #[.int .u8 c] w fun e w'=>e=.returned (.bool (Bk.sI c))∧w=w':=by
 go_enter Tryz.func93,Tryz.ntmps93
 go_wp2_with (go_at_call 109;refine (Cs _ _ _ dE).mono ?_;rintro e w' ⟨rfl,rfl⟩)
 go_ret
 exact ⟨fG (Bk.TA c),rfl⟩
theorem EO (c:Int) (w:World):
  Calls Tryz.prog 108 #[.int .u8 c] w fun e w'=>e=.returned (.bool (Bk.MV c))∧w=w':=by
 go_enter Tryz.func108,Tryz.ntmps108
 go_wp2
 all_goals (go_ret;refine ⟨fG ?_,rfl⟩;rw [Bool.eq_iff_iff];simp [Bk.MV];omega)
theorem RD (c:Int) (w:World):
  Calls Tryz.prog 95 #[.int .u8 c] w fun e w'=>e=.returned (.bool (Bk.Z4 c))∧w=w':=by
 go_enter Tryz.func95,Tryz.ntmps95
 go_wp2_with first|(go_at_call 108;refine (EO _ _).mono ?_;rintro e w' ⟨rfl,rfl⟩)|(go_at_call 109;refine (Cs _ _ _ dE).mono ?_;rintro e w' ⟨rfl,rfl⟩)
 all_goals (go_ret;refine ⟨fG ?_,rfl⟩;simp_all [Bk.Z4,Bk.WX])
theorem p8 (s:ByteArray) (a:Int) (w:World):
  Calls Tryz.prog 61 #[.string s,.int .i64 a] w fun e w'=>e=.returned (.bool (Bk.kD s a))∧w=w':=by
 have hb:=get_bt s;by_cases h0:a<0
 ·go_enter Tryz.func61,Tryz.ntmps61
  go_wp2
  go_ret
  exact ⟨fG (by simp [Bk.kD,h0]),rfl⟩
 ·obtain ⟨k,rfl⟩:=Int.eq_ofNat_of_zero_le (by omega:0<=a);by_cases h1:k<s.size
  ·go_enter Tryz.func61,Tryz.ntmps61
   go_wp2_with (go_at_call 63;refine (dH _ _).mono ?_;rintro e w' ⟨rfl,rfl⟩)
   all_goals (go_ret;refine ⟨fG ?_,rfl⟩;rw [Bool.eq_iff_iff];simp [Bk.kD, *];try omega)
  ·go_enter Tryz.func61,Tryz.ntmps61
   go_wp2
   go_ret
   exact ⟨fG (by simp [Bk.kD];omega),rfl⟩
namespace Bk
def Al:Int:=18446744073709551616
def rP (x n:Int):Nat:=(x % Al % n).toNat
theorem Wj {x:Int} {n:Int} (h:0<n):(rP x n:Int)<n:=by unfold rP;have h1:=Int.emod_nonneg (x % Al) (by omega:n≠0);have h2:=Int.emod_lt_of_pos (x % Al) h;omega
theorem SG {x n:Int} (hn:1<=n) (hn':n<=1000000000):wrap64 ((IntKind.u64.wrap x).tmod n)=(rP x n:Int):=by
 have hl:=Wj (x:=x) (n:=n) oM;have h0:0<=IntKind.u64.wrap x:=by rw [IntKind.wrap_u64];omega
 rw [Int.tmod_eq_emod_of_nonneg h0];have e:IntKind.u64.wrap x % n=(rP x n:Int):=by unfold rP Al;rw [IntKind.wrap_u64];have h1:=Int.emod_nonneg (x % 18446744073709551616) (by omega:n≠0);omega
 rw [e];exact IntWalk.wrap64_in _ ⟨oM,oM⟩
end Bk
theorem gP {k:IntKind} {a b:Int} (h:a=b):Ending.returned (.int k a)=.returned (.int k b):=by rw [h]
theorem Gu (x n:Int) (w:World) (hn:1<=n) (hn':n<=1000000000):
  Calls Tryz.prog 22 #[.int .i64 x,.int .i64 n] w fun e w'=>e=.returned (.int .i64 (Bk.rP x n:Nat))∧w=w':=by
 go_enter Tryz.func22,Tryz.ntmps22
 go_wp2
 go_ret
 exact ⟨gP (Bk.SG hn hn'),rfl⟩
namespace Bk
theorem QW (s:ByteArray) (a b:Nat) (h:b<=s.size):(s.extract a b).size=b-a:=by simp [ByteArray.size_extract];omega
end Bk
theorem Jg {k l:IntKind} {a b c d:Int} (h:a=b) (h':c=d):Ending.returned (.tuple #[.int k a,.int l c])=.returned (.tuple #[.int k b,.int l d]):=by rw [h,h']
theorem vW (s:ByteArray) (a:Int) (w:World):
  Calls Tryz.prog 62 #[.string s,.int .i64 a] w fun e w'=>e=.returned (.int .i64 (Bk.aY s a:Nat))∧w=w':=by
 go_enter Tryz.func62,Tryz.ntmps62
 go_wp2
 go_ret
 exact ⟨gP (by unfold Bk.aY;omega),rfl⟩
theorem dh (s:ByteArray) (a:Int) (w:World) (hs:s.size<=4611686018427387903):
  Calls Tryz.prog 32 #[.string s,.int .i64 a] w fun e w'=>e=.returned (.tuple #[.int .i64 (Bk.bG s (Bk.aY s a):Nat),.int .i64 (Bk.l7 s (Bk.aY s a):Nat)])∧w=w':=by
 have hb:=get_bt s;have hh:=Bk.mG s a;obtain ⟨h,hq⟩:∃h,h=Bk.aY s a:=⟨_,rfl⟩;rw [←hq] at hh⊢;have HQ:=Lib.hid hq;clear hq
 go_enter Tryz.func32,Tryz.ntmps32
 go_wp2_with (go_at_call 62;refine (vW _ _ _).mono ?_;rintro e w' ⟨rfl,rfl⟩;rw [←HQ.out])
 go_loop [6] (fun i=>∃k:Nat,k<=h∧i=.int .i64 k∧Hid (∀j,k<=j->j<h->bt s j≠10)) (fun i=>(intOf i).toNat)
 case atStart=>exact ⟨h,Nat.le_refl _,rfl,Lib.hid fun j _ _=>by omega⟩
 case round=>
  obtain ⟨k,hk,rfl,H⟩:=hrel;by_cases hp:0<k∧bt s (k-1)≠10
  ·obtain ⟨hp,hq⟩:=hp;have h1:(bt s (k-1) !=10)=true:=by simpa using hq
   have HQ2:=Lib.hid hq;clear hq;have e1:((k:Int)-1).toNat=k-1:=oM
   go_wp2
   go_round
   case rel=>
    refine ⟨k-1,oM,by rw [Int.ofNat_sub oM];rfl,Lib.hid fun j hj hj'=>?_⟩;by_cases e:j=k-1
    ·subst e;exact HQ2.out
    ·exact H.out j oM hj'
   case measure=>simp [intOf];omega
  ·have HF:=Lib.hid (Bk.TK hk H.out (fun h0=>by
    by_cases e:bt s (k-1)=10
    ·exact e
    ·exact absurd ⟨h0,e⟩ hp))
   have h1:0<k->(bt s (k-1) !=10)=false:=fun h0=>by
    by_cases e:bt s (k-1)=10
    ·simp [e]
    ·exact absurd ⟨h0,e⟩ hp
   clear hp;by_cases h0:0<k
   all_goals
    (try have h2:=h1 h0)
    clear h1
    go_wp2
    go_loop [7] (fun i=>∃m:Nat,h<=m∧m<=s.size∧i=.int .i64 m∧Hid (∀j,h<=j->j<m->bt s j≠10)) (fun i=>s.size-(intOf i).toNat)
    case atStart=>exact ⟨h,Nat.le_refl _,hh,rfl,Lib.hid fun j _ _=>by omega⟩
    case round=>
     obtain ⟨m,hm0,hm,rfl,HM⟩:=hrel;by_cases hlt:m<s.size
     ·by_cases hc:bt s m=10
      ·have HT:=Lib.hid (Bk.QK hm0 hm HM.out (fun _=>hc));have h3:(bt s m !=10)=false:=by simp [hc]
       clear hc
       go_wp2
       go_ret2
       exact ⟨Jg (by rw [HF.out]) (by rw [HT.out]),rfl⟩
      ·have h3:(bt s m !=10)=true:=by simpa using hc
       have HC:=Lib.hid hc;clear hc
       go_wp2
       go_round
       case rel=>
        refine ⟨m+1,oM,oM,by go_num,Lib.hid fun j hj hj'=>?_⟩;by_cases e:j=m
        ·subst e;exact HC.out
        ·exact HM.out j hj oM
       case measure=>simp [intOf];omega
     ·have HT:=Lib.hid (Bk.QK hm0 hm HM.out (fun h=>absurd h hlt))
      go_wp2
      go_ret2
      exact ⟨Jg (by rw [HF.out]) (by rw [HT.out]),rfl⟩
theorem F7 (s:ByteArray) (a:Int) (w:World) (hs:s.size<=4611686018427387903):
  Calls Tryz.prog 88 #[.string s,.int .i64 a] w fun e w'=>e=.returned (.int .i64 (Bk.LJ s (Bk.aY s a):Nat))∧w=w':=by
 have hb:=get_bt s;have hh:=Bk.mG s a;have hf:=Bk.fT s (Bk.aY s a);have hg:=Bk.rM s (Bk.aY s a);have ht:=Bk.tC hh;have HIN:Hid (Bk.LJ s (Bk.aY s a)=Bk.oG (fun i=>bt s i==32) (Bk.l7 s (Bk.aY s a)-Bk.bG s (Bk.aY s a)) (Bk.bG s (Bk.aY s a))):=Lib.hid rfl
 go_enter Tryz.func88,Tryz.ntmps88
 go_wp2_with (go_at_call 32;refine (dh _ _ _ hs).mono ?_;rintro e w' ⟨rfl,rfl⟩)
 generalize Bk.bG s (Bk.aY s a)=f at*;generalize Bk.l7 s (Bk.aY s a)=t at*
 go_loop [7] (fun i=>∃n:Nat,f+n<=t∧i=.int .i64 n∧Hid (∀j,j<n->(bt s (f+j)==32)=true)) (fun i=>t-f-(intOf i).toNat)
 case atStart=>exact ⟨0,oM,rfl,Lib.hid fun j h=>absurd h oM⟩
 case round=>
  obtain ⟨n,hn,rfl,H⟩:=hrel;by_cases hlt:f+n<t
  ·by_cases hc:bt s (f+n)=32
   ·have h1:(bt s (f+n)==32)=true:=by simp [hc]
    have HC:=Lib.hid hc;clear hc
    go_wp2
    go_round
    case rel=>
     refine ⟨n+1,oM,by go_num,Lib.hid fun j hj=>?_⟩;by_cases e:j=n
     ·subst e;rw [HC.out];rfl
     ·exact H.out j oM
    case measure=>simp [intOf];omega
   ·have h1:(bt s (f+n)==32)=false:=by simpa using hc
    have HE:=Lib.hid (HIN.out.trans (Bk.Bq oM H.out (fun _=>by simpa using hc)));clear hc
    go_wp2
    go_ret
    exact ⟨gP (by rw [HE.out]),rfl⟩
  ·have HE:=Lib.hid (HIN.out.trans (Bk.Bq oM H.out (fun _=>by omega)))
   go_wp2
   go_ret
   exact ⟨gP (by rw [HE.out]),rfl⟩
theorem RN (s:ByteArray) (a:Int) (w:World) (hs:s.size<=4611686018427387903):
  Calls Tryz.prog 31 #[.string s,.int .i64 a] w fun e w'=>e=.returned (.int .i64 ((Bk.aY s a:Nat)-(Bk.bG s (Bk.aY s a):Nat)))∧w=w':=by
 have hh:=Bk.mG s a;have hf:=Bk.fT s (Bk.aY s a)
 go_enter Tryz.func31,Tryz.ntmps31
 go_wp2_with first
  |(go_at_call 32;refine (dh _ _ _ hs).mono ?_;rintro e w' ⟨rfl,rfl⟩)
  |(go_at_call 62;refine (vW _ _ _).mono ?_;rintro e w' ⟨rfl,rfl⟩)
 go_ret
 exact ⟨rfl,rfl⟩
theorem lN (s:ByteArray) (f t:Nat) (w:World) (hs:s.size<=4611686018427387903) (ht:t<=s.size):
  Calls Tryz.prog 33 #[.string s,.int .i64 f,.int .i64 t] w fun e w'=>e=.returned (.int .i64 (Bk.gD s f t:Nat))∧w=w':=by
 have hb:=get_bt s
 go_enter Tryz.func33,Tryz.ntmps33
 go_wp2
 go_loop [1] (fun i=>∃p:Nat,f<=p∧(p=f∨p<=t)∧i=.int .i64 p∧Hid (∀j,f<=j->j<p->Bk.cZ (bt s j)=true)) (fun i=>t-(intOf i).toNat)
 case atStart=>exact ⟨f,oM,oM,rfl,Lib.hid fun j _ _=>by omega⟩
 case round=>
  obtain ⟨p,hp,hp',rfl,H⟩:=hrel;by_cases hlt:p<t
  ·cases hw:Bk.cZ (bt s p) with
   |true=>
    have HC:Hid (Bk.cZ (bt s p)=true):=Lib.hid hw
    go_wp2_with (go_at_call 63;refine (dH _ _).mono ?_;rintro e w' ⟨rfl,rfl⟩)
    go_round
    case rel=>
     refine ⟨p+1,oM,oM,by go_num,Lib.hid fun j hj hj'=>?_⟩;by_cases e:j=p
     ·subst e;exact HC.out
     ·exact H.out j hj oM
    case measure=>simp [intOf];omega
   |false=>
    have HE:=Lib.hid (Bk.Fv (m:=t) hp oM H.out (fun _=>hw))
    go_wp2_with (go_at_call 63;refine (dH _ _).mono ?_;rintro e w' ⟨rfl,rfl⟩)
    go_ret
    exact ⟨gP (by rw [HE.out]),rfl⟩
  ·have HE:Hid (Bk.gD s f t=p):=Lib.hid (by
    by_cases e:f<=t
    ·exact Bk.Fv (m:=t) hp oM H.out (fun h=>absurd h hlt)
    ·unfold Bk.gD;rw [show t-f=0 from by omega];show f+0=p;omega)
   go_wp2
   go_ret
   exact ⟨gP (by rw [HE.out]),rfl⟩
theorem tN {a b:ByteArray} (h:a=b):Ending.returned (.string a)=.returned (.string b):=by rw [h]
namespace Bk
def De (c:Int):Int:=if 48<=c∧c<=57 then c-48 else if 97<=c∧c<=102 then c-97+10 else if 65<=c∧c<=70 then c-65+10 else -1
end Bk
theorem kW (c:Int) (w:World) (h0:0<=c) (h1:c<=255):Calls Tryz.prog 107 #[.int .u8 c] w fun e w'=>e=.returned (.int .i32 (Bk.De c))∧w=w':=by
 have HX:Hid (Bk.De c=if 48<=c∧c<=57 then c-48 else if 97<=c∧c<=102 then c-97+10 else if 65<=c∧c<=70 then c-65+10 else -1):=Lib.hid rfl;rcases (by omega:(48<=c∧c<=57)∨(97<=c∧c<=102)∨(65<=c∧c<=70)∨c<48∨(58<=c∧c<=64)∨(71<=c∧c<=96)∨103<=c) with h|h|h|h|h|h|h
 all_goals
  go_enter Tryz.func107,Tryz.ntmps107
  go_wp2
  go_ret
  exact ⟨gP (by rw [HX.out];(repeat' split)<;>omega),rfl⟩
namespace Bk
theorem GQ {s:ByteArray} {k:Nat} {c:Int} (h:sJ s k c=true):k+3<=s.size∧bt s k=c∧bt s (k+1)=c∧bt s (k+2)=c:=by simpa [sJ,and_assoc] using h
theorem Fe {s:ByteArray} {k f t:Nat} {c:Int} (hf:f<=k) (hg:k<=t) (ht:t<=s.size) (he:t<s.size->bt s t=10) (hc:c≠10) (h:sJ s f c=true):f+3<=t:=by obtain ⟨h0,h1,h2,h3⟩:=GQ h;apply Nat.le_of_not_lt;intro hlt;have:=he oM;rcases (by omega:t=f∨t=f+1∨t=f+2) with e|e|e<;>rw [e] at this<;>omega
theorem TW {s:ByteArray} {k:Nat} (h:k+3<=s.size) (c:UInt8):((s.extract k (k+3)).toList==[c,c,c])=sJ s k (c.toNat:Int):=by
 have e0:=get_bt s k oM;have e1:=get_bt s (k+1) oM;have e2:=get_bt s (k+2) oM;have hl:(s.extract k (k+3)).toList=[s[k],s[k+1],s[k+2]]:=by
  rw [Lib.toList_data];have hlen:s.data.toList.length=s.size:=by simp
  simp only [ByteArray.data_extract,Array.toList_extract,List.extract_eq_take_drop];rw [show k+3-k=3 from by omega,List.drop_eq_getElem_cons oM,List.drop_eq_getElem_cons oM,List.drop_eq_getElem_cons oM];rfl
 rw [hl];unfold sJ;rw [←e0,←e1,←e2,Bool.eq_iff_iff];have q:∀(a b:UInt8),((a.toNat:Int)=(b.toNat:Int))↔a=b:=fun a b=>⟨fun e=>(UInt8.toNat_inj.1 oM),fun e=>by rw [e]⟩;simp [h,q,and_assoc]
end Bk
theorem iL (s:ByteArray) (a:Int) (w:World) (hs:s.size<=4611686018427387903):
  Calls Tryz.prog 30 #[.string s,.int .i64 a] w fun e w'=>e=.returned (.int .i64 (Bk.eD s (Bk.aY s a)))∧w=w':=by
 have hb:=get_bt s;have hh:=Bk.mG s a;have hf:=Bk.fT s (Bk.aY s a);have hg:=Bk.rM s (Bk.aY s a);have ht:=Bk.tC hh;have hend:=@Bk.F3 s (Bk.aY s a);have hp:=Bk.z8 (s:=s) (k:=Bk.bG s (Bk.aY s a)) (m:=Bk.l7 s (Bk.aY s a)) oM;have hp0:=Bk.Aa s (Bk.bG s (Bk.aY s a)) (Bk.l7 s (Bk.aY s a));have HK:Hid (Bk.eD s (Bk.aY s a)=if Bk.jV s (Bk.bG s (Bk.aY s a)) 45 then 3 else if Bk.jV s (Bk.bG s (Bk.aY s a)) 46 then 4
  else if Bk.gD s (Bk.bG s (Bk.aY s a)) (Bk.l7 s (Bk.aY s a))=Bk.l7 s (Bk.aY s a) then 1 else if bt s (Bk.gD s (Bk.bG s (Bk.aY s a)) (Bk.l7 s (Bk.aY s a)))=35 then 2 else 5):=Lib.hid rfl
 obtain ⟨K,hK⟩:∃K,K=Bk.eD s (Bk.aY s a):=⟨_,rfl⟩;rw [←hK] at HK⊢;clear hK;obtain ⟨f,hF⟩:∃f,f=Bk.bG s (Bk.aY s a):=⟨_,rfl⟩;obtain ⟨t,hT⟩:∃t,t=Bk.l7 s (Bk.aY s a):=⟨_,rfl⟩;rw [←hF,←hT] at hp hp0 HK;rw [←hF] at hf;rw [←hT] at hg ht hend;obtain ⟨p,hP⟩:∃p,p=Bk.gD s f t:=⟨_,rfl⟩;rw [←hP] at hp hp0 HK;have HF:=Lib.hid hF;have HT:=Lib.hid hT;have HP:=Lib.hid hP;clear hF hT hP;have WE:Bk.sJ s f 45=true->f+3<=t:=Bk.Fe hf hg ht hend dE;have WC:Bk.sJ s f 46=true->f+3<=t:=Bk.Fe hf hg ht hend dE;clear hend;cases hm:Bk.jV s f 45 with
 |true=>
  have HE:Hid (K=3):=Lib.hid (by rw [HK.out,hm];rfl);have hm':Bk.sJ s f 45=true∧Bk.kD s ((f:Int)+3)=true:=by simpa [Bk.jV] using hm
  obtain ⟨hd,he⟩:=hm';have h3:=WE hd;have h1:((s.extract f (f+3)).toList==[45,45,45])=true:=(Bk.TW oM 45).trans hd;clear WE WC hm hd
  go_enter Tryz.func30,Tryz.ntmps30
  go_wp2_with first
   |(go_at_call 32;refine (dh _ _ _ hs).mono ?_;rintro e w' ⟨rfl,rfl⟩;rw [←HF.out,←HT.out])
   |(go_at_call 61;refine (p8 _ _ _).mono ?_;rintro e w' ⟨rfl,rfl⟩)
  go_ret
  exact ⟨gP HE.out.symm,rfl⟩
 |false=>
  cases hm2:Bk.jV s f 46 with
  |true=>
   have HE:Hid (K=4):=Lib.hid (by rw [HK.out,hm,hm2];rfl);have hm':Bk.sJ s f 46=true∧Bk.kD s ((f:Int)+3)=true:=by simpa [Bk.jV] using hm2
   obtain ⟨hd,he⟩:=hm';have h3:=WC hd;have h1:((s.extract f (f+3)).toList==[46,46,46])=true:=(Bk.TW oM 46).trans hd;have h2:((s.extract f (f+3)).toList==[45,45,45])=false:=by
    refine (Bk.TW oM 45).trans ?_;show Bk.sJ s f 45=false;cases h4:Bk.sJ s f 45 with
    |false=>rfl
    |true=>have:=(Bk.GQ h4).2.1;have:=(Bk.GQ hd).2.1;omega
   clear WE WC hm hm2 hd
   go_enter Tryz.func30,Tryz.ntmps30
   go_wp2_with first
    |(go_at_call 32;refine (dh _ _ _ hs).mono ?_;rintro e w' ⟨rfl,rfl⟩;rw [←HF.out,←HT.out])
    |(go_at_call 61;refine (p8 _ _ _).mono ?_;rintro e w' ⟨rfl,rfl⟩)
   go_ret
   exact ⟨gP HE.out.symm,rfl⟩
  |false=>
   have Wx:t<f+3∨(f+3<=t∧Bk.kD s ((f:Int)+3)=false)∨(f+3<=t∧Bk.kD s ((f:Int)+3)=true∧((s.extract f (f+3)).toList==[45,45,45])=false∧((s.extract f (f+3)).toList==[46,46,46])=false):=by
    by_cases h3:f+3<=t
    ·cases he:Bk.kD s ((f:Int)+3) with
     |false=>exact .inr (.inl ⟨h3,rfl⟩)
     |true=>
      refine .inr (.inr ⟨h3,rfl,(Bk.TW oM 45).trans ?_,(Bk.TW oM 46).trans ?_⟩)
      ·simpa [Bk.jV,he] using hm
      ·simpa [Bk.jV,he] using hm2
    ·exact .inl oM
   clear WE WC;have HMM:=Lib.hid (And.intro hm hm2);clear hm hm2;rcases Wx with hw|⟨hw,hw2⟩|⟨hw,hw2,hw3,hw4⟩
   all_goals
    by_cases hpt:p=t
    ·have HE:Hid (K=1):=Lib.hid (by rw [HK.out,HMM.out.1,HMM.out.2,if_pos hpt];rfl);have h1:(((p:Int))==(t:Int))=true:=by simp [hpt]
     have apo:=Lib.hid hpt;clear hpt
     go_enter Tryz.func30,Tryz.ntmps30
     go_wp2_with first
      |(go_at_call 32;refine (dh _ _ _ hs).mono ?_;rintro e w' ⟨rfl,rfl⟩;rw [←HF.out,←HT.out])
      |(go_at_call 61;refine (p8 _ _ _).mono ?_;rintro e w' ⟨rfl,rfl⟩)
      |(go_at_call 33;refine (lN s f t _ hs ht).mono ?_;rintro e w' ⟨rfl,rfl⟩;rw [←HP.out])
     go_ret
     exact ⟨gP HE.out.symm,rfl⟩
    ·have hlt:p<t:=oM;cases hc:(bt s p==35) with
     |true=>
      have HE:Hid (K=2):=Lib.hid (by rw [HK.out,HMM.out.1,HMM.out.2];simp [hpt];simpa using hc)
      go_enter Tryz.func30,Tryz.ntmps30
      go_wp2_with first
       |(go_at_call 32;refine (dh _ _ _ hs).mono ?_;rintro e w' ⟨rfl,rfl⟩;rw [←HF.out,←HT.out])
       |(go_at_call 61;refine (p8 _ _ _).mono ?_;rintro e w' ⟨rfl,rfl⟩)
       |(go_at_call 33;refine (lN s f t _ hs ht).mono ?_;rintro e w' ⟨rfl,rfl⟩;rw [←HP.out])
      go_ret
      exact ⟨gP HE.out.symm,rfl⟩
     |false=>
      have HE:Hid (K=5):=Lib.hid (by rw [HK.out,HMM.out.1,HMM.out.2];simp [hpt];simpa using hc)
      go_enter Tryz.func30,Tryz.ntmps30
      go_wp2_with first
       |(go_at_call 32;refine (dh _ _ _ hs).mono ?_;rintro e w' ⟨rfl,rfl⟩;rw [←HF.out,←HT.out])
       |(go_at_call 61;refine (p8 _ _ _).mono ?_;rintro e w' ⟨rfl,rfl⟩)
       |(go_at_call 33;refine (lN s f t _ hs ht).mono ?_;rintro e w' ⟨rfl,rfl⟩;rw [←HP.out])
      go_ret
      exact ⟨gP HE.out.symm,rfl⟩
namespace Bk
theorem zW {s:ByteArray} {k:Nat} (h:k<=s.size):aY s (k:Int)=k:=by unfold aY;omega
theorem rT (s:ByteArray):∀(f g k:Nat),k<=f->k<=g->oQ s f k=oQ s g k
 |0,0,_,_,_=>rfl
 |0,g+1,k,h,_=>by unfold oQ;rw [if_pos oM]
 |f+1,0,k,_,h=>by unfold oQ;rw [if_pos oM]
 |f+1,g+1,k,h1,h2=>by
  unfold oQ;by_cases h0:k=0
  ·rw [if_pos h0,if_pos h0]
  ·have:=fT s (k-1);rw [if_neg h0,if_neg h0,rT s f g (bG s (k-1)) oM oM]
def Vs (s:ByteArray) (k:Nat):Nat:=oQ s k k
theorem Qz (s:ByteArray):Vs s 0=0:=rfl
theorem QA {s:ByteArray} {k:Nat} (h0:0<k):Vs s k=if eD s (bG s (k-1))=1 then Vs s (bG s (k-1))+1 else 0:=by obtain ⟨m,rfl⟩:∃m,k=m+1:=⟨k-1,oM⟩;have:=fT s (m+1-1);unfold Vs;rw [show oQ s (m+1) (m+1)=if m+1=0 then 0 else if eD s (bG s (m+1-1))=1 then oQ s m (bG s (m+1-1))+1 else 0 from rfl,if_neg oM];rw [rT s m (bG s (m+1-1)) _ oM (Nat.le_refl _)]
theorem P6 {s:ByteArray} {k:Nat} (h:k<=s.size):lQ s k=if gD s (bG s k) k<k then 0 else Vs s (bG s k):=by have:=fT s k;unfold lQ Vs;rw [rT s s.size (bG s k) _ oM (Nat.le_refl _)]
end Bk
theorem ql (s:ByteArray) (a:Int) (w:World) (hs:s.size<=4611686018427387903):
  Calls Tryz.prog 90 #[.string s,.int .i64 a] w fun e w'=>e=.returned (.int .i64 (Bk.lQ s (Bk.aY s a):Nat))∧w=w':=by
 have hh:=Bk.mG s a;have HA:=Lib.hid (Bk.P6 hh);obtain ⟨h,hH⟩:∃h,h=Bk.aY s a:=⟨_,rfl⟩;rw [←hH] at hh HA⊢;have HH:=Lib.hid hH;clear hH;have hn:=Bk.zW hh;have hf:=Bk.fT s h;have hp0:=Bk.Aa s (Bk.bG s h) h;have hp:=Bk.z8 (s:=s) hf;by_cases hlt:Bk.gD s (Bk.bG s h) h<h
 ·have HE:Hid (Bk.lQ s h=0):=Lib.hid (by rw [HA.out,if_pos hlt])
  go_enter Tryz.func90,Tryz.ntmps90
  go_wp2_with first
   |(go_at_call 62;refine (vW _ _ _).mono ?_;rintro e w' ⟨rfl,rfl⟩;rw [←HH.out])
   |(go_at_call 32;refine (dh s h _ hs).mono ?_;rintro e w' ⟨rfl,rfl⟩;rw [hn])
   |(go_at_call 33;refine (lN s (Bk.bG s h) h _ hs hh).mono ?_;rintro e w' ⟨rfl,rfl⟩)
  go_ret
  exact ⟨gP (by rw [HE.out];rfl),rfl⟩
 ·have HE:Hid (Bk.lQ s h=Bk.Vs s (Bk.bG s h)):=Lib.hid (by rw [HA.out,if_neg hlt])
  go_enter Tryz.func90,Tryz.ntmps90
  go_wp2_with first
   |(go_at_call 62;refine (vW _ _ _).mono ?_;rintro e w' ⟨rfl,rfl⟩;rw [←HH.out])
   |(go_at_call 32;refine (dh s h _ hs).mono ?_;rintro e w' ⟨rfl,rfl⟩;rw [hn])
   |(go_at_call 33;refine (lN s (Bk.bG s h) h _ hs hh).mono ?_;rintro e w' ⟨rfl,rfl⟩)
  clear hlt hp hp0 hn
  go_loop [5,7] (fun i n=>∃k m:Nat,k<=s.size∧i=.int .i64 k∧n=.int .i64 m∧k+m<=s.size∧Hid (Bk.lQ s h=Bk.Vs s k+m)) (fun i _=>(intOf i).toNat)
  case atStart=>exact ⟨Bk.bG s h,0,oM,rfl,rfl,oM,Lib.hid (by rw [HE.out,Nat.add_zero])⟩
  case round=>
   obtain ⟨k,m,hk,rfl,rfl,hkm,H⟩:=hrel;by_cases h0:0<k
   ·have e1:((k:Int)-1)=((k-1:Nat):Int):=oM;have hn:=Bk.zW (s:=s) (k:=k-1) oM;have hq:=Bk.fT s (k-1);have hn2:=Bk.zW (s:=s) (k:=Bk.bG s (k-1)) oM;have HS:=Lib.hid (Bk.QA (s:=s) h0);have HN:=Lib.hid hn;have HN2:=Lib.hid hn2;have E1:=Lib.hid e1;clear hn hn2 e1;cases hc:(Bk.eD s (Bk.bG s (k-1)) !=1) with
    |true=>
     have HE2:=Lib.hid (show Bk.lQ s h=m from by rw [H.out,HS.out,if_neg (by simpa using hc)];omega)
     go_wp2_with first
      |(go_at_call 32;rw [E1.out];refine (dh s _ _ hs).mono ?_;rintro e w' ⟨rfl,rfl⟩;rw [HN.out])
      |(go_at_call 30;refine (iL s _ _ hs).mono ?_;rintro e w' ⟨rfl,rfl⟩;rw [HN2.out])
     go_ret
     exact ⟨gP (by rw [HE2.out]),rfl⟩
    |false=>
     have HE2:=Lib.hid (show Bk.lQ s h=Bk.Vs s (Bk.bG s (k-1))+(m+1) from by rw [H.out,HS.out,if_pos (by simpa using hc)];omega)
     go_wp2_with first
      |(go_at_call 32;rw [E1.out];refine (dh s _ _ hs).mono ?_;rintro e w' ⟨rfl,rfl⟩;rw [HN.out])
      |(go_at_call 30;refine (iL s _ _ hs).mono ?_;rintro e w' ⟨rfl,rfl⟩;rw [HN2.out])
     go_round
     case rel=>exact ⟨Bk.bG s (k-1),m+1,oM,rfl,by go_num,oM,HE2⟩
     case measure=>simp [intOf];omega
   ·have HE2:=Lib.hid (show Bk.lQ s h=m from by rw [H.out,show k=0 from by omega,Bk.Qz];omega)
    go_wp2
    go_ret
    exact ⟨gP (by rw [HE2.out]),rfl⟩
namespace Bk
def yn (c:Int):Bool:=c==45||c==63||c==58
theorem bA (a b:ByteArray):(a++b).size=a.size+b.size:=by simp
def yI (c:UInt8):Nat->ByteArray
 |0=>ByteArray.empty
 |n+1=>yI c n++⟨#[c]⟩
theorem xz (c:UInt8):∀n,(yI c n).size=n
 |0=>rfl
 |n+1=>by rw [yI,bA,xz c n];rfl
def alm (n:Nat):ByteArray:=if n=0 then ⟨#[32]⟩ else yI 10 n
end Bk
theorem Ld (n:Int) (w:World) (hn:n<=140737488355328):
  Calls Tryz.prog 146 #[.int .i64 n] w fun e w'=>e=.returned (.string (Bk.yI 10 n.toNat))∧w=w':=by
 have hone:({data:=#[10]}:ByteArray).size<=1:=dE
 go_enter Tryz.func146,Tryz.ntmps146
 go_wp2
 go_loop [3,4] (fun s i=>∃k:Nat,(k=0∨(k:Int)<=n)∧i=.int .i64 k∧s=.string (Bk.yI 10 k)) (fun _ i=>n.toNat-(intOf i).toNat)
 case atStart=>exact ⟨0,.inl rfl,rfl,rfl⟩
 case round=>
  obtain ⟨k,hk,rfl,rfl⟩:=hrel;have hz:(Bk.yI 10 k).size<=k:=by rw [Bk.xz];omega
  by_cases hlt:(k:Int)<n
  ·go_wp2
   go_round
   case rel=>exact ⟨k+1,.inr oM,by go_num,rfl⟩
   case measure=>simp [intOf];omega
  ·have hE:Hid (k=n.toNat):=Lib.hid oM
   go_wp2
   go_ret
   exact ⟨tN (by rw [hE.out]),rfl⟩
def MK (w:World) (a:Option Addr) (len:Nat) (xs:List ByteArray):Prop:=
 xs.length=len∧len<=140737488355328∧(len=0∨∃b off,a=some ⟨b,off,none⟩∧b<w.heap.size∧∀j,j<len->w.cell? ⟨b,off+j,none⟩=some (.string (xs.getD j ByteArray.empty)))
theorem MK.below {w w':World} {a:Option Addr} {len:Nat} {xs:List ByteArray} (h:MK w a len xs) (k:Below w.heap.size w w'):MK w' a len xs:=by
 obtain ⟨h1,h2,h3⟩:=h;refine ⟨h1,h2,?_⟩;rcases h3 with h3|⟨b,off,rfl,hb,hc⟩
 ·exact .inl h3
 ·refine .inr ⟨b,off,rfl,Nat.lt_of_lt_of_le hb k.size,fun j hj=>?_⟩;rw [k.cell (p:=⟨b,off+j,none⟩) hb];exact hc j hj
namespace Bk
def rowAt (xs:List ByteArray) (i:Nat):ByteArray:=xs.getD i ByteArray.empty
def Dk (xs:List ByteArray):Nat->ByteArray×Nat
 |0=>(ByteArray.empty,0)
 |i+1=>if (rowAt xs i).size=0∧0<i∧i+1<xs.length then ((Dk xs i).1,(Dk xs i).2+1)
  else ((if 0<i then (Dk xs i).1++alm (Dk xs i).2 else (Dk xs i).1)++rowAt xs i,0)
def gy (xs:List ByteArray):Nat->Nat
 |0=>0
 |i+1=>gy xs i+(rowAt xs i).size+1
theorem vQ (xs:List ByteArray) (i:Nat):∀d,gy xs i<=gy xs (i+d)
 |0=>Nat.le_refl _
 |d+1=>by have:=vQ xs i d;show _<=gy xs (i+d)+_+1;omega
theorem yj (xs ys:List ByteArray):∀j,gy (xs++ys) (xs.length+j)=gy xs xs.length+gy ys j
 |0=>by
  rw [Nat.add_zero];have:∀i,i<=xs.length->gy (xs++ys) i=gy xs i:=by
   intro i
   induction i with
   |zero=>intro _;rfl
   |succ i ih=>
    intro h;have e:rowAt (xs++ys) i=rowAt xs i:=by unfold rowAt;rw [List.getD_eq_getElem?_getD,List.getD_eq_getElem?_getD,List.getElem?_append_left oM]
    rw [gy,gy,ih oM,e]
  rw [this _ (Nat.le_refl _)];rfl
 |j+1=>by
  have e:rowAt (xs++ys) (xs.length+j)=rowAt ys j:=by unfold rowAt;rw [List.getD_eq_getElem?_getD,List.getD_eq_getElem?_getD,List.getElem?_append_right oM,Nat.add_sub_cancel_left]
  rw [←Nat.add_assoc,gy,gy,yj xs ys j,e];omega
end Bk
def Own (B:Nat) (v:Value) (xs:List ByteArray) (w:World):Prop:=w.ownsRow B 9 1 v xs.length (xs.map Value.string)
theorem Own.below {B:Nat} {v:Value} {xs:List ByteArray} {w w':World} (h:Own B v xs w) (k:Below w.heap.size w w'):Own B v xs w':=by
 refine ⟨h.1,?_⟩;rcases h.2 with hn|⟨g,cap,cur,hv,hg,hgb,rest⟩
 ·exact .inl hn
 ·refine .inr ⟨g,cap,cur,hv,hg,(k.block g ?_).trans hgb,rest⟩;rcases Nat.lt_or_ge g w.heap.size with h'|h'
  ·exact h'
  ·simp [Array.getElem?_eq_none h'] at hgb
namespace Bk
def Xp (s:ByteArray):Nat:=nu (fun i=>cZ (bt s i)) s.size
def Eo (s:ByteArray):ByteArray:=s.extract 0 (Xp s)
def oV (s:ByteArray) (p:Nat):Bool:=bt s p==35 && (p==0||cZ (bt s (p-1))||bt s (p-1)==10)
def Iz (s:ByteArray) (t:Nat):Nat->Nat->Int
 |0,_=> -1
 |f+1,p=>if p<t then (if cZ (bt s p)=true then (if bt s p=9 then (p:Int) else Iz s t f (p+1)) else -1) else -1
def IA (s:ByteArray) (p t:Nat):Int:=Iz s t (t-p) p
end Bk
theorem y5 (s:ByteArray) (w:World) (hs:s.size<=1000000000):
  Calls Tryz.prog 34 #[.string s] w fun e w'=>e=.returned (.string (Bk.Eo s))∧w=w':=by
 have hb:=get_bt s;have HC:Hid (Bk.Xp s=Bk.nu (fun i=>Bk.cZ (bt s i)) s.size):=Lib.hid rfl
 go_enter Tryz.func34,Tryz.ntmps34
 go_wp2_with fail
 go_loop [3] (fun n=>∃k:Nat,k<=s.size∧n=.int .i64 k∧Hid (Bk.Xp s=Bk.nu (fun i=>Bk.cZ (bt s i)) k)) (fun n=>(intOf n).toNat)
 case atStart=>exact ⟨s.size,Nat.le_refl _,rfl,HC⟩
 case round=>
  obtain ⟨k,hk,rfl,H⟩:=hrel;cases k with
  |zero=>
   have HE:Hid (Bk.Eo s=s.extract 0 0):=Lib.hid (by unfold Bk.Eo;rw [H.out];rfl)
   go_wp2_with fail
   go_ret
   exact ⟨tN (by rw [HE.out];simp),rfl⟩
  |succ k=>
   cases hq:Bk.cZ (bt s k) with
   |true=>
    have H2:Hid (Bk.Xp s=Bk.nu (fun i=>Bk.cZ (bt s i)) k):=Lib.hid (by rw [H.out,Bk.nu,if_pos hq]);have HQ:=Lib.hid hq
    go_wp2_with (go_at_call 63;refine (dH _ _).mono ?_;rintro e w' ⟨rfl,rfl⟩;rw [HQ.out])
    go_round
    case rel=>exact ⟨k,oM,by go_num,H2⟩
    case measure=>simp [intOf]
   |false=>
    have HE:Hid (Bk.Eo s=s.extract 0 (k+1)):=Lib.hid (by unfold Bk.Eo;rw [H.out,Bk.nu,if_neg (by rw [hq];decide)]);have HQ:=Lib.hid hq
    go_wp2_with (go_at_call 63;refine (dH _ _).mono ?_;rintro e w' ⟨rfl,rfl⟩;rw [HQ.out])
    go_ret
    exact ⟨tN (by rw [HE.out]),rfl⟩
theorem uY (s:ByteArray) (p:Nat) (w:World) (hs:s.size<=1000000000) (hp:p<s.size):
  Calls Tryz.prog 89 #[.string s,.int .i64 p] w fun e w'=>e=.returned (.bool (Bk.oV s p))∧w=w':=by
 have hb:=get_bt s;have HN:Hid (Bk.oV s p=(bt s p==35 && (p==0||Bk.cZ (bt s (p-1))||bt s (p-1)==10))):=Lib.hid rfl;cases q1:(bt s p==35) with
 |false=>
  have HE:Hid (Bk.oV s p=false):=Lib.hid (by rw [HN.out,q1];rfl)
  go_enter Tryz.func89,Tryz.ntmps89
  go_wp2_with fail
  go_ret
  exact ⟨fG (by rw [HE.out]),rfl⟩
 |true=>
  cases p with
  |zero=>
   have HE:Hid (Bk.oV s 0=true):=Lib.hid (by rw [HN.out,q1];rfl)
   go_enter Tryz.func89,Tryz.ntmps89
   go_wp2_with fail
   go_ret
   exact ⟨fG (by rw [HE.out]),rfl⟩
  |succ k=>
   have HE:Hid (Bk.oV s (k+1)=(Bk.cZ (bt s k)||bt s k==10)):=Lib.hid (by rw [HN.out,q1];simp);cases q2:Bk.cZ (bt s k) with
   |true=>
    have HQ:=Lib.hid q2;have HE2:Hid (Bk.oV s (k+1)=true):=Lib.hid (by rw [HE.out,q2];rfl)
    go_enter Tryz.func89,Tryz.ntmps89
    go_wp2_with (go_at_call 63;refine (dH _ _).mono ?_;rintro e w' ⟨rfl,rfl⟩;rw [HQ.out])
    go_ret
    exact ⟨fG (by rw [HE2.out]),rfl⟩
   |false=>
    have HQ:=Lib.hid q2;cases q3:(bt s k==10) with
    |true=>
     have HE2:Hid (Bk.oV s (k+1)=true):=Lib.hid (by rw [HE.out,q2,q3];rfl)
     go_enter Tryz.func89,Tryz.ntmps89
     go_wp2_with (go_at_call 63;refine (dH _ _).mono ?_;rintro e w' ⟨rfl,rfl⟩;rw [HQ.out])
     go_ret
     exact ⟨fG (by rw [HE2.out]),rfl⟩
    |false=>
     have HE2:Hid (Bk.oV s (k+1)=false):=Lib.hid (by rw [HE.out,q2,q3];rfl)
     go_enter Tryz.func89,Tryz.ntmps89
     go_wp2_with (go_at_call 63;refine (dH _ _).mono ?_;rintro e w' ⟨rfl,rfl⟩;rw [HQ.out])
     go_ret
     exact ⟨fG (by rw [HE2.out];simp;omega),rfl⟩
theorem M8 (s:ByteArray) (p t:Nat) (w:World) (hs:s.size<=1000000000) (hp:p<=t) (ht:t<=s.size):
  Calls Tryz.prog 87 #[.string s,.int .i64 p,.int .i64 t] w fun e w'=>e=.returned (.int .i64 (Bk.IA s p t))∧w=w':=by
 have hb:=get_bt s;obtain ⟨R,hR⟩:∃R,R=Bk.IA s p t:=⟨_,rfl⟩;rw [←hR];have HR:Hid (R=Bk.Iz s t (t-p) p):=Lib.hid (by rw [hR];rfl);clear hR
 go_enter Tryz.func87,Tryz.ntmps87
 go_wp2_with fail
 go_loop [7] (fun n=>∃k:Nat,k<=t∧n=.int .i64 k∧Hid (R=Bk.Iz s t (t-k) k)) (fun n=>t-(intOf n).toNat)
 case atStart=>exact ⟨p,hp,rfl,HR⟩
 case round=>
  obtain ⟨k,hk,rfl,H⟩:=hrel;by_cases hlt:k<t
  ·obtain ⟨f,hf⟩:∃f,t-k=f+1:=⟨t-k-1,oM⟩;have hf2:t-(k+1)=f:=oM;cases hq:Bk.cZ (bt s k) with
   |true=>
    have HQ:=Lib.hid hq;by_cases h9:bt s k=9
    ·have HE:Hid (R=k):=Lib.hid (by rw [H.out,hf,Bk.Iz,if_pos hlt,if_pos hq,if_pos h9]);have q9:(bt s k==9)=true:=by simp [h9]
     have W9:Bk.cZ 9=true:=rfl;clear hf hf2
     go_wp2_with (go_at_call 63;refine (dH _ _).mono ?_;rintro e w' ⟨rfl,rfl⟩;first|rw [HQ.out]|rw [W9])
     go_ret
     exact ⟨gP (by rw [HE.out]),rfl⟩
    ·have HE:Hid (R=Bk.Iz s t (t-(k+1)) (k+1)):=Lib.hid (by rw [H.out,hf,Bk.Iz,if_pos hlt,if_pos hq,if_neg h9,hf2]);have q9:(bt s k==9)=false:=by simp [h9]
     clear hf hf2
     go_wp2_with (go_at_call 63;refine (dH _ _).mono ?_;rintro e w' ⟨rfl,rfl⟩;rw [HQ.out])
     go_round
     case rel=>exact ⟨k+1,oM,by go_num,HE⟩
     case measure=>simp [intOf];omega
   |false=>
    have HQ:=Lib.hid hq;have HE:Hid (R=-1):=Lib.hid (by rw [H.out,hf,Bk.Iz,if_pos hlt,if_neg (by rw [hq];decide)]);clear hf hf2
    go_wp2_with (go_at_call 63;refine (dH _ _).mono ?_;rintro e w' ⟨rfl,rfl⟩;rw [HQ.out])
    go_ret
    exact ⟨gP (by rw [HE.out]),rfl⟩
  ·have HE:Hid (R=-1):=Lib.hid (by rw [H.out,show t-k=0 from by omega];rfl)
   go_wp2_with fail
   go_ret
   exact ⟨gP (by rw [HE.out]),rfl⟩
namespace Bk
structure Cm where
 t:ByteArray
 b:Int
def vF (s:ByteArray) (p:Nat):Cm:=⟨Eo (s.extract (p+1) (l7 s p)),lQ s p⟩
def jw (s:ByteArray) (q:Nat) (n:Int) (wi:Bool):Nat->Nat->Bool->Nat->List Cm->Bool->Option (List Cm×Bool×Nat)
 |0,_,_,_,_,_=>none
 |f+1,p,met,row,out,same=>
  if p<s.size then
   if met=true∧(eD s p=3∨eD s p=4) then (if wi=true∧p≠q then none else some (out,same,p))
   else if met=true∧eD s p=5∧wi=false∧0<=IA s (bG s p) (l7 s p) then none
   else if met=true∧eD s p=5∧wi=true∧p≠q∧(LJ s p:Int)<=n then none
   else if cZ (bt s p)=true then jw s q n wi f (p+1) false (if met=true then bG s p else row) out same
   else if bt s p=10 then jw s q n wi f (p+1) true (if met=true then bG s p else row) out same
   else if oV s p=true then jw s q n wi f (l7 s p) false (if met=true then bG s p else row) (out++[vF s p])
    (if out.length=0 then decide (bG s q≠q) && decide (bG s q=(if met=true then bG s p else row)) else same)
   else some (out,same,p)
  else some (out,same,p)
def qE (s:ByteArray) (q:Nat) (n:Int) (wi:Bool):Option (List Cm×Bool×Nat):=jw s q n wi (s.size+1) q (decide (q=bG s q)) (bG s q) [] false
theorem M5 {s:ByteArray} {p:Nat} (hp:p<s.size) (h:bt s p≠10):p+1<=l7 s p:=by
 unfold l7;obtain ⟨f,hf⟩:∃f,s.size-p=f+1:=⟨s.size-p-1,oM⟩;rw [hf,oG];have:lF s p=true:=by unfold lF;simp [h]
 rw [if_pos this];omega
theorem BF (s:ByteArray) (q:Nat) (n:Int) (wi:Bool):∀(f p:Nat) (met:Bool) (row:Nat) (out:List Cm) (same:Bool) (r:List Cm×Bool×Nat),p<=s.size->jw s q n wi f p met row out same=some r->p<=r.2.2∧r.2.2<=s.size∧r.1.length+p<=out.length+r.2.2
 |0,p,met,row,out,same,r,_,h=>by cases h
 |f+1,p,met,row,out,same,r,hp,h=>by
  unfold jw at h;split at h
  ·rename_i hlt;split at h
   ·split at h
    ·cases h
    ·cases h;exact ⟨Nat.le_refl _,hp,Nat.le_refl _⟩
   split at h
   ·cases h
   split at h
   ·cases h
   split at h
   ·have:=BF s q n wi f (p+1) _ _ _ _ r oM h;omega
   split at h
   ·have:=BF s q n wi f (p+1) _ _ _ _ r oM h;omega
   split at h
   ·rename_i hn h10 hnt;have h1:=M5 hlt h10;have h2:=tC (s:=s) (k:=p) hp;have:=BF s q n wi f (l7 s p) _ _ _ _ r h2 h;rw [List.length_append] at this;simp only [lL] at this;omega
   ·cases h;exact ⟨Nat.le_refl _,hp,Nat.le_refl _⟩
  ·cases h;exact ⟨Nat.le_refl _,hp,Nat.le_refl _⟩
theorem DC {s:ByteArray} {q:Nat} {n:Int} {wi:Bool} {l:List Cm} {same:Bool} {p:Nat} (hq:q<=s.size) (h:qE s q n wi=some (l,same,p)):q<=p∧p<=s.size∧l.length+q<=p:=by have:=BF s q n wi _ _ _ _ _ _ _ hq h;simpa using this
def D6:List Cm->List Value
 |[]=>[]
 |c::l=> .string c.t::.int .i64 c.b::D6 l
theorem Og:∀l,(D6 l).length=l.length*2
 |[]=>rfl
 |c::l=>by simp only [D6,List.length_cons,Og l];omega
theorem Oh:∀a b,D6 (a++b)=D6 a++D6 b
 |[],b=>rfl
 |c::a,b=>by simp only [List.cons_append,D6,Oh a b]
end Bk
section
open Bk (Cm)
def OG (w:World):List Cm->Nat->Nat->Prop
 |[],_,_=>True
 |c::l,b,off=>w.cell? ⟨b,off,none⟩=some (.string c.t)∧w.cell? ⟨b,off+1,none⟩=some (.int .i64 c.b)∧OG w l b (off+2)
def Ve (w:World) (ok:Nat->Prop) (l:List Cm) (a:Option Addr):Prop:=l.length=0∨∃b off,a=some ⟨b,off,none⟩∧b<w.heap.size∧ok b∧OG w l b off
def Kv (ok:Nat->Prop) (w w':World):Prop:=w.heap.size<=w'.heap.size∧∀i,i<w.heap.size->ok i->w'.heap[i]?=w.heap[i]?
theorem Kv.cell {ok:Nat->Prop} {w w':World} (h:Kv ok w w') {b o:Nat} (hb:b<w.heap.size) (hk:ok b):w'.cell? ⟨b,o,none⟩=w.cell? ⟨b,o,none⟩:=World.cell?_of_block (h.2 b hb hk)
theorem Km {ok:Nat->Prop} {w w':World} (k:Below w.heap.size w w'):Kv ok w w':=⟨k.size,fun i hi _=>k.block i hi⟩
theorem OG.agree {ok:Nat->Prop} {w w':World} (k:Kv ok w w'):∀{l:List Cm} {b off:Nat},b<w.heap.size->ok b->OG w l b off->OG w' l b off
 |[],_,_,_,_,_=>trivial
 |c::l,b,off,hb,hk,⟨h1,h2,h3⟩=>⟨(k.cell hb hk).trans h1,(k.cell hb hk).trans h2,OG.agree k hb hk h3⟩
theorem Ve.agree {ok:Nat->Prop} {w w':World} {l:List Cm} {a:Option Addr} (h:Ve w ok l a) (k:Kv ok w w'):Ve w' ok l a:=by
 rcases h with h|⟨b,off,rfl,hb,hk,h⟩
 ·exact .inl h
 ·exact .inr ⟨b,off,rfl,Nat.lt_of_lt_of_le hb k.1,hk,h.agree k hb hk⟩
theorem Ve.below {ok:Nat->Prop} {w w':World} {l:List Cm} {a:Option Addr} (h:Ve w ok l a) (k:Below w.heap.size w w'):Ve w' ok l a:=h.agree (Km k)
theorem OG.JA {w:World} {b:Nat}:∀{l:List Cm} {off:Nat},(∀j,j<(Bk.D6 l).length->w.cell? ⟨b,off+j,none⟩=(Bk.D6 l)[j]?)->OG w l b off
 |[],off,h=>trivial
 |c::l,off,h=>by
  refine ⟨?_,?_,OG.JA (fun j hj=>?_)⟩
  ·have:=h 0 (by simp [Bk.D6]);simpa [Bk.D6] using this
  ·have:=h 1 (by simp [Bk.D6]);simpa [Bk.D6] using this
  ·have:=h (j+2) (by simpa [Bk.D6] using hj);rw [show off+2+j=off+(j+2) from by omega,this];rfl
theorem OG.cells {w:World} {b:Nat}:∀{l:List Cm} {off:Nat},OG w l b off->∀j u,(Bk.D6 l)[j]?=some u->w.cell? ⟨b,off+j,none⟩=some u
 |[],off,_,j,u,h=>by simp [Bk.D6] at h
 |c::l,off,⟨h1,h2,h3⟩,j,u,h=>by
  match j,h with
  |0,h=>simp [Bk.D6] at h;subst h;exact h1
  |1,h=>simp [Bk.D6] at h;subst h;exact h2
  |j+2,h=>
   have:=OG.cells h3 j u (by simpa [Bk.D6] using h);rw [show off+(j+2)=off+2+j from by omega];exact this
def Bc (B:Nat) (v:Value) (l:List Cm) (w:World):Prop:=w.ownsRow B 56 2 v l.length (Bk.D6 l)
theorem Ll {B:Nat} {e:TypeId} {size n:Nat} {v:Value} {xs:List Value} {w w':World} (h:w.ownsRow B e size v n xs) (k:Below w.heap.size w w'):w'.ownsRow B e size v n xs:=by
 refine ⟨h.1,?_⟩;rcases h.2 with hn|⟨g,cap,cur,hv,hg,hgb,rest⟩
 ·exact .inl hn
 ·refine .inr ⟨g,cap,cur,hv,hg,(k.block g ?_).trans hgb,rest⟩;rcases Nat.lt_or_ge g w.heap.size with h'|h'
  ·exact h'
  ·simp [Array.getElem?_eq_none h'] at hgb
theorem ab7 {w:World} {i:Nat} {x:Obj} (h:w.heap[i]?=some x):i<w.heap.size:=by
 rcases Nat.lt_or_ge i w.heap.size with h'|h'
 ·exact h'
 ·simp [Array.getElem?_eq_none h'] at h
theorem Bc.below {B:Nat} {v:Value} {l:List Cm} {w w':World} (h:Bc B v l w) (k:Below w.heap.size w w'):Bc B v l w':=Ll h k
theorem Ub (B:Nat) (w:World):Bc B (.slice none 0 0) [] w:=World.ownsRow_nil _ _ _ _
theorem Bc.slice {B:Nat} {v:Value} {l:List Cm} {w:World} (h:Bc B v l w):∃a cp,v=.slice a l.length cp∧Ve w (fun i=>B<=i) l a:=by
 have hl:=Bk.Og l;rcases h.2 with ⟨hv,h0⟩|⟨g,cap,cur,hv,hg,hgb,hn,hm,hs,ht⟩
 ·exact ⟨none,0,by rw [hv,h0],.inl h0⟩
 ·refine ⟨some ⟨g,0,none⟩,cap,hv,.inr ⟨g,0,rfl,ab7 hgb,hg,OG.JA (fun j hj=>?_)⟩⟩;rw [Nat.zero_add];have h1:w.cell? ⟨g,j,none⟩=cur[j]?:=by simp [World.cell?,hgb]
  have h2:(cur.toList.take (l.length*2))[j]?=(Bk.D6 l)[j]?:=by rw [ht]
  rw [List.getElem?_take_of_lt oM,Array.getElem?_toList] at h2;rw [h1,h2]
theorem Tryz.LG:(Tryz.prog.info? 56).map (fun i=>(i.zero,i.size,i.bytes))=some (some (.agg #[.string ByteArray.empty,.int .i64 0]),2,24):=by kernel_rfl
theorem Ha {ops:Array Oper} {rest:List Oper} {o:Oper} {a:Act} {Q:Exit->Act->World->Prop} {w0 wr wx:World} (hgd:o.guard=none) (s x:Operand)
  (ho:o.op=.call {callee:=.builtin .append,args:=#[s,x],argTypes:=#[25,25]}) (v:Value) (l:List Cm) (c:Cm) (hs:a.eval s=v)
  (hx:a.eval x=.slice (some ⟨wr.heap.size,0,none⟩) 1 1) (hown:Hid (Bc w0.heap.size v l wr)) (hlen:l.length<=1000000000) (hwx:wx=wr.alloc (.cells #[.string c.t,.int .i64 c.b] 56)) (hb:Hid (Below w0.heap.size w0 wr))
  (h:∀v' w',Hid (Bc w0.heap.size v' (l++[c]) w')->Hid (Below w0.heap.size w0 w')->wpList Tryz.prog ops Q rest (a.put o.dst v') w'):
  wpList Tryz.prog ops Q (o::rest) a wx:=by
 subst hwx;obtain ⟨i0,hi,hz0,hz1,hz2⟩:=info_parts Tryz.LG;have hB:w0.heap.size<=wr.heap.size:=hb.out.size;refine wpList_append_lies _ hgd s x 25 ho w0.heap.size 56 i0 _ 2 24 Tryz.underlying25 hi hz0 hz1 hz2 rfl dE v l.length (Bk.D6 l) hs (World.ownsRow.alloc hown.out _) ⟨wr.heap.size,0,none⟩ 1 1 [.string c.t,.int .i64 c.b] hx rfl ?_ ?_ dE ?_ ?_ ?_ (wr.heap.size+1) (by simp) ?_
 ·exact fun j u hu=>World.news_of_block (heap_alloc_new wr (.cells #[.string c.t,.int .i64 c.b] 56)) j u (by simpa using hu)
 ·simp [Value.oneCell']
 ·unfold maxLen;omega
 ·omega
 ·simp;omega
 ·intro g cap w' hown' hgrow hg hlt;refine h _ w' (Lib.hid ?_) (Lib.hid ((hb.out.alloc hB _).grown hgrow (by simp;omega) (fun k hk=>(World.ownsRow.lt hown.out k hk).1)));show w'.ownsRow _ _ _ _ _ _;rw [List.length_append,Bk.Oh];exact hown'
theorem fH {fn:Func} {t u v x:Tmp} (h:fn.results=#[.tmp t,.tmp u,.tmp v,.tmp x]) (tmps:Array Value) (P:Program) (w:World):
  (results fn tmps).run P w=.ok (.tuple #[tmps.getD t undef,tmps.getD u undef,tmps.getD v undef,tmps.getD x undef]) w:=by
 simp [results,h]
end
inductive AV where
 |bool (b:Bool)
 |int (k:IntKind) (n:Int)
 |str (s:ByteArray)
 |ptr (i o:Nat)
 |nil
 |sl (n:Nat) (l:List AV)
 |row (e z n:Nat) (l:List AV)
 |el (l:List AV)
 |agg (l:List AV)
 |bX (l:List AV)
 |fn (f:Nat) (c:List AV)
 |nz (k:IntKind)
 |nP (k:IntKind)
 |low (k:IntKind) (d m:Int)
 |bU (i e z n:Nat)
 |bad
 deriving Inhabited
namespace AV
def age (n d:Int):Int:=n % 18446744073709551616 % d
mutual
def flat:AV->Bool
 |.row .. =>false
 |.sl _ l|.el l|.agg l|.bX l|.fn _ l=>ak l
 |_=>true
def ak:List AV->Bool
 |[]=>true
 |x::l=>flat x && ak l
end
mutual
def R (lim:Nat->Nat) (bs:List Nat) (w:World):AV->Value->Prop
 |.bool b,v=>v=.bool b
 |.int k n,v=>v=.int k n
 |.str s,v=>v=.string s
 |.ptr i o,v=>∃b,bs[i]?=some b∧v=.pointer (some ⟨b,o,none⟩)
 |.nil,v=>v=.slice none 0 0
 |.sl n l,v=>∃a c,v=.slice a n c∧n<=c∧(l=[]∨∃b o,a=some ⟨b,o,none⟩∧b<w.heap.size∧o+l.length<=lim b∧Rm lim bs w b o l)
 |.row e z n l,v=>l.length=n*z∧ak l=true∧((v=.slice none 0 0∧n=0)∨
   ∃g c cur,v=.slice (some ⟨g,0,none⟩) n c∧w.heap[g]?=some (.cells cur e (0,0))∧n<=c∧c<=maxLen∧cur.size=c*z∧lim g=l.length∧Rm lim bs w g 0 l)
 |.el l,v=>∃b o,v=.pointer (some ⟨b,o,none⟩)∧b<w.heap.size∧o+l.length<=lim b∧Rm lim bs w b o l
 |.agg l,v=>∃vs,v=.agg vs∧Rs lim bs w l vs.toList
 |.bX l,v=>∃vs,v=.tuple vs∧Rs lim bs w l vs.toList
 |.fn f c,v=>∃vs,v=.func (.func f) #[] vs∧Rs lim bs w c vs.toList
 |.nz k,v=>∃n,n≠0∧v=.int k n
 |.nP k,v=>∃n,v=.int k n
 |.low k d m,v=>∃n,age n d=m∧v=.int k n
 |.bU i e z n,v=>∃b c cur,bs[i]?=some b∧w.heap[b]?=some (.cells cur e (0,0))∧cur.size=c*z∧n<=c∧c<=maxLen∧v=.slice (some ⟨b,0,none⟩) n c
 |.bad,_=>True
def Rs (lim:Nat->Nat) (bs:List Nat) (w:World):List AV->List Value->Prop
 |[],vs=>vs=[]
 |x::l,vs=>∃v r,vs=v::r∧R lim bs w x v∧Rs lim bs w l r
def Rm (lim:Nat->Nat) (bs:List Nat) (w:World) (b o:Nat):List AV->Prop
 |[]=>True
 |x::l=>(∃v,w.cell? ⟨b,o,none⟩=some v∧R lim bs w x v)∧Rm lim bs w b (o+1) l
end
structure Ext (lim:Nat->Nat) (bs:List Nat) (w:World) (lim':Nat->Nat) (bs':List Nat) (w':World):Prop where
 ids:∀(i b:Nat),bs[i]?=some b->bs'[i]?=some b
 size:w.heap.size<=w'.heap.size
 le:∀b,b<w.heap.size->lim b<=lim' b
 cell:∀b j,b<w.heap.size->j<lim b->w'.cell? ⟨b,j,none⟩=w.cell? ⟨b,j,none⟩
 shape:∀(b:Nat) (cur:Array Value) (e:TypeId) (p:Nat×Nat),w.heap[b]?=some (Obj.cells cur e p)->∃cur':Array Value,w'.heap[b]?=some (.cells cur' e p)∧cur'.size=cur.size
def bY:AV->AV
 |.row _ _ n l=> .sl n l
 |v=>v
def one:AV->Bool
 |.agg _|.bX _|.bad=>false
 |_=>true
variable {lim lim' : Nat -> Nat} {bs bs' : List Nat} {w w' : World}
theorem fB:∀{l:List AV} {vs:List Value},Rs lim bs w l vs->vs.length=l.length
 |[],vs,h=>by rw [Rs] at h;rw [h];rfl
 |x::l,vs,h=>by rw [Rs] at h;obtain ⟨v,r,rfl,-,h2⟩:=h;rw [List.length_cons,List.length_cons,fB h2]
mutual
theorem R.ext (k:Ext lim bs w lim' bs' w'):∀{x:AV} {v:Value},flat x=true->R lim bs w x v->R lim' bs' w' x v
 |.bool b,v,_,h=>h
 |.int _ _,v,_,h=>h
 |.str s,v,_,h=>h
 |.nz _,v,_,h=>h
 |.nil,v,_,h=>h
 |.nP _,v,_,h=>h
 |.low _ _ _,v,_,h=>h
 |.ptr i o,v,_,h=>by rw [R] at h⊢;obtain ⟨b,h1,h2⟩:=h;exact ⟨b,k.ids _ _ h1,h2⟩
 |.bU i e z n,v,_,h=>by rw [R] at h⊢;obtain ⟨b,c,cur,h1,h2,h3,h4⟩:=h;obtain ⟨cur',e1,e2⟩:=k.shape b cur e _ h2;exact ⟨b,c,cur',k.ids _ _ h1,e1,e2.trans h3,h4⟩
 |.sl n l,v,hf,h=>by rw [R] at h⊢;rw [flat] at hf;obtain ⟨a,c,h1,h2,h3⟩:=h;refine ⟨a,c,h1,h2,h3.imp id ?_⟩;rintro ⟨b,o,h4,h5,h6,h7⟩;exact ⟨b,o,h4,Nat.lt_of_lt_of_le h5 k.size,Nat.le_trans h6 (k.le _ h5),Rm.ext k hf h5 h6 h7⟩
 |.row ..,v,hf,h=>by rw [flat] at hf;cases hf
 |.el l,v,hf,h=>by rw [R] at h⊢;rw [flat] at hf;obtain ⟨b,o,h4,h5,h6,h7⟩:=h;exact ⟨b,o,h4,Nat.lt_of_lt_of_le h5 k.size,Nat.le_trans h6 (k.le _ h5),Rm.ext k hf h5 h6 h7⟩
 |.agg l,v,hf,h=>by rw [R] at h⊢;rw [flat] at hf;obtain ⟨vs,h1,h2⟩:=h;exact ⟨vs,h1,Rs.ext k hf h2⟩
 |.bX l,v,hf,h=>by rw [R] at h⊢;rw [flat] at hf;obtain ⟨vs,h1,h2⟩:=h;exact ⟨vs,h1,Rs.ext k hf h2⟩
 |.fn f l,v,hf,h=>by rw [R] at h⊢;rw [flat] at hf;obtain ⟨vs,h1,h2⟩:=h;exact ⟨vs,h1,Rs.ext k hf h2⟩
 |.bad,v,_,_=>by rw [R];trivial
theorem Rs.ext (k:Ext lim bs w lim' bs' w'):∀{l:List AV} {vs:List Value},ak l=true->Rs lim bs w l vs->Rs lim' bs' w' l vs
 |[],vs,_,h=>h
 |x::l,vs,hf,h=>by rw [Rs] at h⊢;rw [ak,Bool.and_eq_true] at hf;obtain ⟨v,r,h1,h2,h3⟩:=h;exact ⟨v,r,h1,R.ext k hf.1 h2,Rs.ext k hf.2 h3⟩
theorem Rm.ext (k:Ext lim bs w lim' bs' w'):∀{l:List AV} {b o:Nat},ak l=true->b<w.heap.size->o+l.length<=lim b->Rm lim bs w b o l->Rm lim' bs' w' b o l
 |[],b,o,_,_,_,_=>by rw [Rm];trivial
 |x::l,b,o,hf,hb,hl,h=>by rw [Rm] at h⊢;rw [ak,Bool.and_eq_true] at hf;rw [List.length_cons] at hl;obtain ⟨⟨v,h1,h2⟩,h3⟩:=h;exact ⟨⟨v,(k.cell b o hb oM).trans h1,R.ext k hf.1 h2⟩,Rm.ext k hf.2 hb oM h3⟩
end
def isRow:AV->Bool
 |.row .. =>true
 |_=>false
def top (x:AV):Bool:=x.isRow||x.flat
theorem R.mE (k:Ext lim bs w lim' bs' w') {x:AV} {v:Value} (ht:x.top=true) (hr:∀g,x.isRow=true->v.ownBlock=some g->w'.heap[g]?=w.heap[g]?∧lim' g=lim g) (h:R lim bs w x v):R lim' bs' w' x v:=by
 cases hx:x.isRow with
 |false=>rw [top,hx,Bool.false_or] at ht;exact R.ext k ht h
 |true=>
  cases x<;>simp only [isRow,Bool.false_eq_true] at hx;rename_i e z n l;rw [R] at h⊢;obtain ⟨h1,h2,h3⟩:=h;refine ⟨h1,h2,h3.imp id ?_⟩;rintro ⟨g,c,cur,rfl,hb,hn,hc,hs,hl,hm⟩;obtain ⟨h4,h5⟩:=hr g rfl rfl;have hlt:g<w.heap.size:=by
   rcases Nat.lt_or_ge g w.heap.size with h'|h'
   ·exact h'
   ·simp [Array.getElem?_eq_none h'] at hb
  exact ⟨g,c,cur,rfl,h4.trans hb,hn,hc,hs,h5.trans hl,Rm.ext k h2 hlt oM hm⟩
theorem R.bY {x:AV} {v:Value} (h:R lim bs w x v):R lim bs w x.bY v:=by
 cases hx:x.isRow with
 |false=>cases x<;>first|exact h|cases hx
 |true=>
 cases x<;>simp only [isRow,Bool.false_eq_true] at hx;rename_i e z n l;show R lim bs w (.sl n l) v;rw [R] at h;rw [R];obtain ⟨h1,h2,h3⟩:=h;rcases h3 with ⟨rfl,rfl⟩|⟨g,c,cur,rfl,hb,hn,hc,hs,hl,hm⟩
 ·refine ⟨none,0,rfl,Nat.le_refl _,.inl (List.eq_nil_of_length_eq_zero (by simpa using h1))⟩
 ·have hlt:g<w.heap.size:=by
   rcases Nat.lt_or_ge g w.heap.size with h'|h'
   ·exact h'
   ·simp [Array.getElem?_eq_none h'] at hb
  exact ⟨_,c,rfl,hn,.inr ⟨g,0,rfl,hlt,oM,hm⟩⟩
theorem oo {x:AV} (h:x.top=true) (hr:∀e z n l,x=.row e z n l->ak l=true):x.bY.flat=true:=by
 cases x<;>simp only [AV.bY,flat,top,isRow,Bool.false_or] at h⊢<;>first|exact h|skip
 exact hr _ _ _ _ rfl
theorem R.ER {e z n:Nat} {l:List AV} {v:Value} (h:R lim bs w (.row e z n l) v):ak l=true:=by rw [R] at h;exact h.2.1
theorem R.oo {x:AV} {v:Value} (ht:x.top=true) (h:R lim bs w x v):x.bY.flat=true:=by refine AV.oo ht ?_;rintro e z n l rfl;exact h.ER
mutual
def pf:AV->Bool
 |.ptr .. |.bU .. =>false
 |.sl _ l|.row _ _ _ l|.el l|.agg l|.bX l|.fn _ l=>wN l
 |_=>true
def wN:List AV->Bool
 |[]=>true
 |x::l=>pf x && wN l
end
mutual
def ids:AV->List Nat
 |.ptr i _=>[i]
 |.bU i _ _ _=>[i]
 |.sl _ l|.row _ _ _ l|.el l|.agg l|.bX l|.fn _ l=>aN l
 |_=>[]
def aN:List AV->List Nat
 |[]=>[]
 |x::l=>ids x++aN l
end
mutual
def bK (f:Nat->Nat):AV->AV
 |.ptr i o=> .ptr (f i) o
 |.bU i e z n=> .bU (f i) e z n
 |.sl n l=> .sl n (aO f l)
 |.row e z n l=> .row e z n (aO f l)
 |.el l=> .el (aO f l)
 |.agg l=> .agg (aO f l)
 |.bX l=> .bX (aO f l)
 |.fn g l=> .fn g (aO f l)
 |v=>v
def aO (f:Nat->Nat):List AV->List AV
 |[]=>[]
 |x::l=>bK f x::aO f l
end
theorem uV (f:Nat->Nat):∀(l:List AV),(aO f l).length=l.length
 |[]=>rfl
 |x::l=>by rw [aO,List.length_cons,List.length_cons,uV f l]
theorem si (f:Nat->Nat):∀(l:List AV),aO f l=l.map (bK f)
 |[]=>rfl
 |x::l=>by rw [aO,List.map_cons,si f l]
theorem iT {i:Nat}:∀{l:List AV},i ∈ aN l↔∃x ∈ l,i ∈ ids x
 |[]=>by simp [aN]
 |x::l=>by rw [aN,List.mem_append,iT (l:=l)];simp
mutual
theorem yV (f:Nat->Nat):∀(x:AV),(bK f x).flat=x.flat
 |.ptr .. =>rfl
 |.bU .. =>rfl
 |.bool _=>rfl
 |.int _ _=>rfl
 |.str _=>rfl
 |.nz _=>rfl
 |.nil=>rfl
 |.nP _=>rfl
 |.low _ _ _=>rfl
 |.bad=>rfl
 |.row .. =>rfl
 |.sl n l=>by rw [bK,flat,flat,kC f l]
 |.el l=>by rw [bK,flat,flat,kC f l]
 |.agg l=>by rw [bK,flat,flat,kC f l]
 |.bX l=>by rw [bK,flat,flat,kC f l]
 |.fn g l=>by rw [bK,flat,flat,kC f l]
theorem kC (f:Nat->Nat):∀(l:List AV),ak (aO f l)=ak l
 |[]=>rfl
 |x::l=>by rw [aO,ak,ak,yV f x,kC f l]
end
theorem lY (f:Nat->Nat) (x:AV):(bK f x).isRow=x.isRow:=by cases x<;>rfl
theorem vP (f:Nat->Nat) (x:AV):(bK f x).top=x.top:=by unfold top;rw [yV,lY]
mutual
theorem R.bK {f:Nat->Nat}:∀{x:AV} {v:Value},(∀i ∈ ids x,∀b,bs[i]?=some b->bs'[f i]?=some b)->R lim bs w x v->R lim bs' w (bK f x) v
 |.bool b,v,_,h=>h
 |.int _ _,v,_,h=>h
 |.str s,v,_,h=>h
 |.nz _,v,_,h=>h
 |.nil,v,_,h=>h
 |.nP _,v,_,h=>h
 |.low _ _ _,v,_,h=>h
 |.ptr i o,v,hf,h=>by rw [AV.bK,R];rw [R] at h;obtain ⟨b,h1,h2⟩:=h;exact ⟨b,hf i (by simp [ids]) b h1,h2⟩
 |.bU i e z n,v,hf,h=>by rw [AV.bK,R];rw [R] at h;obtain ⟨b,c,cur,h1,h2⟩:=h;exact ⟨b,c,cur,hf i (by simp [ids]) b h1,h2⟩
 |.sl n l,v,hf,h=>by rw [AV.bK,R];rw [R] at h;obtain ⟨a,c,h1,h2,h3⟩:=h;refine ⟨a,c,h1,h2,h3.imp (fun e=>by subst e;rfl) ?_⟩;rintro ⟨b,o,h4,h5,h6,h7⟩;exact ⟨b,o,h4,h5,by rw [uV];exact h6,Rm.bK (by simpa [ids] using hf) h7⟩
 |.row e z n l,v,hf,h=>by rw [AV.bK,R];rw [R] at h;rw [uV,kC];obtain ⟨h1,h2,h3⟩:=h;refine ⟨h1,h2,h3.imp id ?_⟩;rintro ⟨g,c,cur,e1,e2,e3,e4,e5,e6,hm⟩;exact ⟨g,c,cur,e1,e2,e3,e4,e5,e6,Rm.bK (by simpa [ids] using hf) hm⟩
 |.el l,v,hf,h=>by rw [AV.bK,R];rw [R] at h;obtain ⟨b,o,h4,h5,h6,h7⟩:=h;exact ⟨b,o,h4,h5,by rw [uV];exact h6,Rm.bK (by simpa [ids] using hf) h7⟩
 |.agg l,v,hf,h=>by rw [AV.bK,R];rw [R] at h;obtain ⟨vs,h1,h2⟩:=h;exact ⟨vs,h1,Rs.bK (by simpa [ids] using hf) h2⟩
 |.bX l,v,hf,h=>by rw [AV.bK,R];rw [R] at h;obtain ⟨vs,h1,h2⟩:=h;exact ⟨vs,h1,Rs.bK (by simpa [ids] using hf) h2⟩
 |.fn g l,v,hf,h=>by rw [AV.bK,R];rw [R] at h;obtain ⟨vs,h1,h2⟩:=h;exact ⟨vs,h1,Rs.bK (by simpa [ids] using hf) h2⟩
 |.bad,v,_,_=>by show R lim bs' w .bad v;rw [R];trivial
theorem Rs.bK {f:Nat->Nat}:∀{l:List AV} {vs:List Value},(∀i ∈ aN l,∀b,bs[i]?=some b->bs'[f i]?=some b)->Rs lim bs w l vs->Rs lim bs' w (aO f l) vs
 |[],vs,_,h=>by rw [Rs] at h;rw [aO,Rs];exact h
 |x::l,vs,hf,h=>by rw [Rs] at h;rw [aO,Rs];rw [aN] at hf;obtain ⟨v,r,h1,h2,h3⟩:=h;exact ⟨v,r,h1,R.bK (fun i hi=>hf i (List.mem_append_left _ hi)) h2,Rs.bK (fun i hi=>hf i (List.mem_append_right _ hi)) h3⟩
theorem Rm.bK {f:Nat->Nat}:∀{l:List AV} {b o:Nat},(∀i ∈ aN l,∀b,bs[i]?=some b->bs'[f i]?=some b)->Rm lim bs w b o l->Rm lim bs' w b o (aO f l)
 |[],b,o,_,_=>by rw [aO,Rm];trivial
 |x::l,b,o,hf,h=>by rw [Rm] at h;rw [aO,Rm];rw [aN] at hf;obtain ⟨⟨v,h1,h2⟩,h3⟩:=h;exact ⟨⟨v,h1,R.bK (fun i hi=>hf i (List.mem_append_left _ hi)) h2⟩,Rm.bK (fun i hi=>hf i (List.mem_append_right _ hi)) h3⟩
end
mutual
theorem RL {f:Nat->Nat}:∀{x:AV},pf x=true->bK f x=x
 |.ptr ..,h=>by rw [pf] at h;cases h
 |.bU ..,h=>by rw [pf] at h;cases h
 |.bool _,_=>rfl
 |.int _ _,_=>rfl
 |.str _,_=>rfl
 |.nz _,_=>rfl
 |.nil,_=>rfl
 |.nP _,_=>rfl
 |.low _ _ _,_=>rfl
 |.bad,_=>rfl
 |.sl n l,h=>by rw [pf] at h;rw [bK,jT h]
 |.row e z n l,h=>by rw [pf] at h;rw [bK,jT h]
 |.el l,h=>by rw [pf] at h;rw [bK,jT h]
 |.agg l,h=>by rw [pf] at h;rw [bK,jT h]
 |.bX l,h=>by rw [pf] at h;rw [bK,jT h]
 |.fn g l,h=>by rw [pf] at h;rw [bK,jT h]
theorem jT {f:Nat->Nat}:∀{l:List AV},wN l=true->aO f l=l
 |[],_=>rfl
 |x::l,h=>by rw [wN,Bool.and_eq_true] at h;rw [aO,RL h.1,jT h.2]
end
mutual
theorem SV:∀{x:AV},pf x=true->ids x=[]
 |.ptr ..,h=>by rw [pf] at h;cases h
 |.bU ..,h=>by rw [pf] at h;cases h
 |.bool _,_=>rfl
 |.int _ _,_=>rfl
 |.str _,_=>rfl
 |.nz _,_=>rfl
 |.nil,_=>rfl
 |.nP _,_=>rfl
 |.low _ _ _,_=>rfl
 |.bad,_=>rfl
 |.sl n l,h=>by rw [pf] at h;rw [ids,pJ h]
 |.row e z n l,h=>by rw [pf] at h;rw [ids,pJ h]
 |.el l,h=>by rw [pf] at h;rw [ids,pJ h]
 |.agg l,h=>by rw [pf] at h;rw [ids,pJ h]
 |.bX l,h=>by rw [pf] at h;rw [ids,pJ h]
 |.fn g l,h=>by rw [pf] at h;rw [ids,pJ h]
theorem pJ:∀{l:List AV},wN l=true->aN l=[]
 |[],_=>rfl
 |x::l,h=>by rw [wN,Bool.and_eq_true] at h;rw [aN,SV h.1,pJ h.2];rfl
end
theorem R.free {x:AV} {v:Value} (hp:pf x=true) (h:R lim bs w x v):R lim bs' w x v:=by have:=R.bK (f:=id) (bs':=bs') (fun i hi=>by rw [SV hp] at hi;cases hi) h;rw [RL hp] at this;exact this
theorem Rs.free {x:List AV} {v:List Value} (hp:wN x=true) (h:Rs lim bs w x v):Rs lim bs' w x v:=by have:=Rs.bK (f:=id) (bs':=bs') (fun i hi=>by rw [pJ hp] at hi;cases hi) h;rw [jT hp] at this;exact this
end AV
namespace Ab
structure TD where
 size:Nat
 bytes:Nat
 agg:Bool
 iG:List (Nat×Nat×Bool)
 elem:Option Nat
 zero:List AV
abbrev jL:=Nat->Option TD
abbrev Tm:=List (Nat×AV)
structure aJ where
 tm:Tm
 bx:List (List AV)
def get:Tm->Nat->AV
 |[],_=> .bad
 |(k,v)::r,n=>
  match Nat.beq n k with
  |true=>v
  |false=>get r n
def put:Tm->Nat->AV->Tm
 |[],n,v=>[(n,v)]
 |(k,u)::r,n,v=>
  match Nat.ble n k with
  |false=>(n,v)::(k,u)::r
  |true=>
   match Nat.beq n k with
   |true=>(n,v)::r
   |false=>(k,u)::put r n v
def TZ:Value->AV
 |.bool b=> .bool b
 |.int k n=> .int k n
 |.string s=> .str s
 |.slice none 0 0=> .nil
 |_=> .bad
def val (tm:Tm):Operand->AV
 |.tmp t=>get tm t
 |.const v=>TZ v
 |.func f=> .fn f []
 |.global _=> .bad
def cells:AV->List AV
 |.agg l=>l
 |v=>[v]
def dI:List AV->Bool
 |[]=>true
 |v::l=>v.one && dI l
def setAt {α:Type}:List α->Nat->List α->List α
 |[],_,_=>[]
 |x::l,0,[]=>x::l
 |x::l,0,v::vs=>v::setAt l 0 vs
 |x::l,o+1,vs=>x::setAt l o vs
def assoc {α:Type}:List (Nat×α)->Nat->Option α
 |[],_=>none
 |(k,v)::r,n=>
  match Nat.beq n k with
  |true=>some v
  |false=>assoc r n
def mem (n:Nat):List Nat->Bool
 |[]=>false
 |k::r=>
  match Nat.beq n k with
  |true=>true
  |false=>mem n r
structure Out where
 v:AV
 bs:List (List AV)
 nw:List (List AV)
 ok:Bool
def yes (v:AV) (bs:List (List AV)):Option Out:=some ⟨v,bs,[],true⟩
def fC (v:AV) (bs:List (List AV)) (ok:Bool):Option Out:=some ⟨v,bs,[],ok⟩
def ab9 (op:BinOp) (k:IntKind) (a b:Int):Option (AV×Bool):=
 match op with
 |.add=>some (.int k (k.wrap (a+b)),true)
 |.sub=>some (.int k (k.wrap (a-b)),true)
 |.mul=>some (.int k (k.wrap (a*b)),true)
 |.rem=>some (.int k (a.tmod b),decide (b≠0))
 |.quo=>some (.int k (k.wrap (a.tdiv b)),decide (b≠0))
 |.eql=>some (.bool (a==b),true)
 |.neq=>some (.bool (a !=b),true)
 |.lss=>some (.bool (decide (a<b)),true)
 |.leq=>some (.bool (decide (a<=b)),true)
 |.gtr=>some (.bool (decide (b<a)),true)
 |.geq=>some (.bool (decide (b<=a)),true)
 |_=>none
def aja (op:BinOp) (a b:ByteArray):Option (AV×Bool):=
 match op with
 |.add=>some (.str (a++b),decide (a.size+b.size<=1000000000))
 |.eql=>some (.bool (decide (a=b)),true)
 |.neq=>some (.bool (!decide (a=b)),true)
 |_=>none
def ajb (op:BinOp):Option (AV×Bool):=
 match op with
 |.eql=>some (.bool false,true)
 |.neq=>some (.bool true,true)
 |_=>none
def bin (op:BinOp) (x y:AV):Option (AV×Bool):=
 match x with
 |.int k a=>
  match y with
  |.int k' b=>if k=k' then ab9 op k a b else none
  |_=>none
 |.str a=>
  match y with
  |.str b=>aja op a b
  |_=>none
 |.nz k=>
  match y with
  |.int k' b=>if k=k'∧b=0 then ajb op else none
  |_=>none
 |_=>none
def elems:AV->Option (Nat×List AV)
 |.nil=>some (0,[])
 |.sl n l=>some (n,l)
 |.row _ _ n l=>some (n,l)
 |_=>none
def SA (e z:Nat):AV->Option (Nat×List AV)
 |.nil=>some (0,[])
 |.row e' z' n l=>if e'=e∧z'=z then some (n,l) else none
 |_=>none
def mH (iG:List (Nat×Nat×Bool)):List AV->List (Nat×AV)->Option (List AV)
 |cs,[]=>some cs
 |cs,(i,v)::r=>
  match iG[i]? with
  |none=>none
  |some (o,n,_)=>if (cells v).length=n∧o+n<=cs.length∧v.flat=true∧dI (cells v)=true then mH iG (setAt cs o (cells v)) r else none
def parts:Nat->List (Nat×AV)->Option (List AV)
 |_,[]=>some []
 |k,(i,v)::r=>if i=k then (parts (k+1) r).map (cells v++·) else none
def qL:AV->List Nat
 |.ptr i _=>[i]
 |_=>[]
def reach:Nat->List (List AV)->List Nat->List Nat->List Nat
 |0,_,_,seen=>seen
 |_+1,_,[],seen=>seen
 |n+1,bx,i::r,seen=>
  match mem i seen with
  |true=>reach n bx r seen
  |false=>reach n bx (AV.aN (bx.getD i [])++r) (seen++[i])
def ym (l ids:List Nat):Bool:=l.all fun i=>mem i ids
def dS (ρ:Operand->AV) (bx:List (List AV)) (op:Op):List Nat:=
 match op with
 |.load _ a=>qL (ρ a)
 |.store _ a _=>qL (ρ a)
 |.call c=>
  match c.callee with
  |.value f=>reach 1000000 bx (AV.ids (ρ f)++AV.aN (c.args.toList.map ρ)) []
  |_=>[]
 |_=>[]
def below (n:Nat) (l:List Nat):Bool:=l.all fun i=>Nat.blt i n
def ic (ids:List Nat) (L j:Nat):Nat:=
 match ids[j]? with
 |some i=>i
 |none=>L+(j-ids.length)
abbrev xR:=Nat->List AV->List (List AV)->Option (AV×List (List AV))
def GK (mx:Bool):AV->AV->Option AV
 |.int k a,.int k' b=>if k=k' then some (.int k (if mx then (if b>a then b else a) else (if b<a then b else a))) else none
 |_,_=>none
def vC (T:jL) (t:Nat):Option (Nat×TD):=
 match T t with
 |none=>none
 |some d=>
  match d.elem with
  |none=>none
  |some e=>
   match T e with
   |none=>none
   |some d'=>some (e,d')
def ou (d:TD) (ad:Bool) (a:AV) (bs:List (List AV)):Option Out:=
 match a with
 |.ptr _ o=>
  match bs with
  |[c]=>
   if d.agg=true then fC (.agg (((c.drop o).take d.size).map AV.bY)) bs (decide (o+d.size<=c.length))
   else match c[o]? with
    |some v=>some ⟨if ad=true then v else v.bY,[if ad=true then setAt c o [v.bY] else c],[],true⟩
    |none=>none
  |_=>none
 |.el l=>
  if d.agg=true then fC (.agg (l.take d.size)) bs (decide (d.size<=l.length))
  else match l with
   |v::_=>yes v bs
   |[]=>none
 |_=>none
def qD (T:jL) (t:Nat) (d:TD) (a x:AV) (bs:List (List AV)):Option Out:=
 match a with
 |.ptr _ o=>
  match bs with
  |[c]=>some ⟨.bad,[setAt c o (cells x)],[],decide ((cells x).length=d.size) && decide (o+d.size<=c.length) && (if d.agg=true then dI (cells x) && AV.ak (cells x) else x.one)⟩
  |_=>none
 |_=>none
def Dy (T:jL) (t:Nat) (x:AV) (lo hi:Option AV) (bs:List (List AV)):Option Out:=
 match x with
 |.str s=>
  match lo.getD (.int .i64 0) with
  |.int _ a=>
   match hi.getD (.int .i64 s.size) with
   |.int _ b=>fC (.str (s.extract a.toNat b.toNat)) bs (decide (0<=a) && decide (a<=b) && decide (b<=s.size) && decide (t=9))
   |_=>none
  |_=>none
 |v=>
  match vC T t with
  |none=>none
  |some (_,d)=>
   match elems v with
   |none=>none
   |some (n,l)=>
    match lo.getD (.int .i64 0) with
    |.int _ a=>
     match hi.getD (.int .i64 n) with
     |.int _ b=>fC (.sl (b.toNat-a.toNat) ((l.drop (a.toNat*d.size)).take ((b.toNat-a.toNat)*d.size))) bs (decide (0<=a) && decide (a<=b) && decide (b<=n))
     |_=>none
    |_=>none
def jd (q:Nat×Nat×Bool) (x:AV) (bs:List (List AV)):Option Out:=
 match x with
 |.ptr i o=>fC (.ptr i (o+q.1)) bs (decide (0<q.2.1))
 |.el l=>fC (.el (l.drop q.1)) bs (decide (0<q.2.1) && decide (q.1<l.length))
 |_=>none
def xK (q:Nat×Nat×Bool) (x:AV) (bs:List (List AV)):Option Out:=
 match x with
 |.agg l=>
  if q.2.2=true then fC (.agg ((l.drop q.1).take q.2.1)) bs (decide (q.1+q.2.1<=l.length)) else
  match l[q.1]? with
  |some v=>yes v bs
  |none=>none
 |_=>none
def nM (d:TD) (x i:AV) (bs:List (List AV)):Option Out:=
 match x with
 |.bU b _ z m=>
  match i with
  |.int _ n=>fC (.ptr b (n.toNat*z)) bs (decide (0<=n) && decide (n<m) && decide (d.size=z))
  |_=>none
 |x=>
  match elems x with
  |none=>none
  |some (m,l)=>
   match i with
   |.int _ n=>fC (.el (l.drop (n.toNat*d.size))) bs (decide (0<=n) && decide (n<m) && decide (n.toNat*d.size<l.length))
   |_=>none
def Dz (t:Nat) (x i:AV) (bs:List (List AV)):Option Out:=
 match x with
 |.str s=>
  match i with
  |.int _ n=>fC (.int .u8 (bt s n.toNat)) bs (decide (0<=n) && decide (n<s.size) && decide (t=9))
  |_=>none
 |_=>none
def MH (s:AV) (e z n m:Nat) (l:List AV):AV:=
 match s with
 |.nil=>
  match m with
  |0=> .nil
  |_+1=> .row e z n l
 |_=> .row e z n l
def pR (e:Nat) (d:TD) (s x:AV) (ok:Bool) (bs:List (List AV)):Option Out:=
 match SA e d.size s with
 |none=>none
 |some (n,l)=>
  match elems x with
  |none=>none
  |some (m,k)=>fC (MH s e d.size (n+m) m (l++k)) bs (ok && decide (n+m<=10000000000) && decide (k.length=m*d.size) && decide (0<d.size) && decide (d.bytes<=1000) && dI k && AV.ak k)
def Ut (T:jL) (ts:List Nat) (x:AV) (bs:List (List AV)):Option Out:=
 match ts with
 |[t]=>
  match x with
  |.str s=>fC (.int .i64 s.size) bs (decide (t=9))
  |.bU _ _ _ n=>fC (.int .i64 n) bs (vC T t).isSome
  |v=>
   match elems v with
   |none=>none
   |some (n,_)=>fC (.int .i64 n) bs (vC T t).isSome
 |_=>none
def zf (T:jL) (b:Builtin) (xs:List AV) (ts:List Nat) (bs:List (List AV)):Option Out:=
 match b with
 |.len=>
  match xs with
  |[x]=>Ut T ts x bs
  |_=>none
 |.max=>
  match xs with
  |[x,y]=>(GK true x y).bind fun v=>yes v bs
  |_=>none
 |.min=>
  match xs with
  |[x,y]=>(GK false x y).bind fun v=>yes v bs
  |_=>none
 |.append=>
  match xs with
  |[s,x]=>
   match ts with
   |[t,t']=>
    match vC T t with
    |none=>none
    |some (e,d)=>pR e d s x (decide (t'=t)) bs
   |_=>none
  |_=>none
 |_=>none
def FK (cal:xR) (ids:List Nat) (L:Nat) (f:AV) (xs:List AV) (bs:List (List AV)):Option Out:=
 match f with
 |.fn f c=>
  if AV.ak c=true∧ym (AV.aN (xs.map AV.bY++c)) ids=true∧(bs.all fun b=>ym (AV.aN b) ids)=true then
   match cal f (AV.aO ids.idxOf (xs.map AV.bY++c)) (bs.map (AV.aO ids.idxOf)) with
   |some (v,bs')=>some ⟨v.bK (ic ids L),(bs'.take ids.length).map (AV.aO (ic ids L)),(bs'.drop ids.length).map (AV.aO (ic ids L)),decide (ids.length<=bs'.length) && (below bs'.length v.ids && bs'.all fun c=>below bs'.length (AV.aN c))⟩
   |none=>none
  else none
 |_=>none
def vH (d:TD) (ps:List (Nat×AV)) (bs:List (List AV)):Option Out:=
 match mH d.iG d.zero ps with
 |none=>none
 |some l=>fC (.agg l) bs (d.agg && AV.ak l)
def fq (mt:Bool) (L e:Nat) (d:TD) (len:Nat) (ps:List (Nat×AV)) (bs:List (List AV)):Option Out:=
 match parts 0 ps with
 |none=>none
 |some l=>some ⟨if mt=true then .bU L e d.size len else .row e d.size len l,bs,if mt=true then [l] else [],decide (0<d.size) && decide (ps.length=len) && decide (l.length=len*d.size) && decide (len*d.size<=1000000) && dI l && AV.ak l && ps.all fun p=>decide ((cells p.2).length=d.size)⟩
def FJ (L:Nat) (bs:List (List AV)) (c:List AV) (ok:Bool):Option Out:=some ⟨.ptr L 0,bs,[c],ok⟩
def nL (e:Nat) (d:TD) (n c:AV) (bs:List (List AV)):Option Out:=
 match n with
 |.int _ n=>
  match c with
  |.int _ c=>fC (.row e d.size 0 []) bs (decide (n=0) && decide (0<=c) && decide (c<=100000) && decide (0<d.size) && decide (d.size<=100) && decide (d.bytes<=1000))
  |_=>none
 |_=>none
def Ol (c a b:AV) (bs:List (List AV)):Option Out:=
 match c with
 |.bool t=>yes (if t=true then a.bY else b.bY) bs
 |_=>none
def XD (x:AV) (bs:List (List AV)):Option Out:=
 match x with
 |.ptr i o=>yes (.ptr i o) bs
 |.el l=>yes (.el l) bs
 |_=>none
def XC (op:UnOp) (x:AV) (bs:List (List AV)):Option Out:=
 match x with
 |.bool b=>match op with
  |.not=>yes (.bool !b) bs
  |_=>none
 |_=>none
def J9 (s t:Nat) (x:AV) (bs:List (List AV)):Option Out:=
 match x with
 |.int _ n=>fC (.int .i64 (IntKind.i64.wrap n)) bs (decide (s=5) && decide (t=3))
 |_=>none
def PR (t:Nat) (x y:AV):Option Bool:=
 match x with
 |.bool a=>
  match y with
  |.bool b=>if t=4 then some (decide (a=b)) else none
  |_=>none
 |.agg [.str a,.int .i64 n]=>
  match y with
  |.agg [.str b,.int .i64 m]=>if t=56 then some (decide (a=b∧n=m)) else none
  |_=>none
 |_=>none
def G5 (op:BinOp) (t:Nat) (x y:AV) (bs:List (List AV)):Option Out:=
 match bin op x y with
 |some (v,ok)=>fC v bs ok
 |none=>
  match PR t x y with
  |none=>none
  |some b=>
   match op with
   |.eql=>yes (.bool b) bs
   |.neq=>yes (.bool !b) bs
   |_=>none
def vG (x:AV) (i:Nat) (bs:List (List AV)):Option Out:=
 match x with
 |.bX l=>match l[i]? with
  |some v=>yes v bs
  |none=>none
 |_=>none
def qm (ρ:Operand->AV):List (Nat×Operand)->List (Nat×AV)
 |[]=>[]
 |(i,x)::r=>(i,(ρ x).bY)::qm ρ r
def eO {α β:Type} (x:Option α) (f:α->Option β):Option β:=
 match x with
 |none=>none
 |some a=>f a
def core (cal:xR) (T:jL) (ad mt:Bool) (L:Nat) (ρ:Operand->AV) (bs:List (List AV)) (ids:List Nat) (ty:Nat) (op:Op):Option Out:=
 match op with
 |.move x=>yes (if ad=true then ρ x else (ρ x).bY) bs
 |.assign x=>yes (ρ x) bs
 |.pick c a b=>Ol (ρ c) (ρ a) (ρ b) bs
 |.alloc t=>eO (T t) fun d=>FJ L bs d.zero true
 |.box t x=>FJ L bs (cells (ρ x).bY) (dI (cells (ρ x).bY) && (ρ x).bY.flat)
 |.build t ps=>eO (T t) fun d=>vH d (qm ρ ps.toList) bs
 |.buildSlice t len ps=>eO (vC T t) fun q=>fq mt L q.1 q.2 len (qm ρ ps.toList) bs
 |.makeSlice t n c=>eO (vC T t) fun q=>nL q.1 q.2 (ρ n) (ρ c) bs
 |.load t a=>eO (T t) fun d=>ou d ad (ρ a) bs
 |.store t a x=>eO (T t) fun d=>qD T t d (ρ a) (ρ x) bs
 |.nilCheck x=>XD (ρ x) bs
 |.binOp op t x y _=>G5 op t (ρ x) (ρ y) bs
 |.unOp op _ x=>XC op (ρ x) bs
 |.convert s t x=>J9 s t (ρ x) bs
 |.makeFunc fn first cap=>
  match fn with
  |.func f=>if first.size=0 then yes (.fn f (cap.toList.map fun x=>(ρ x).bY)) bs else none
  |_=>none
 |.slice t x lo hi mx=>if mx.isSome=true then none else Dy T t (ρ x) (lo.map ρ) (hi.map ρ) bs
 |.fieldAddr t x f=>eO (T t) fun d=>eO (d.iG[f]?) fun q=>jd q (ρ x) bs
 |.field t x f=>eO (T t) fun d=>eO (d.iG[f]?) fun q=>xK q (ρ x) bs
 |.indexAddr t x i=>eO (vC T t) fun q=>nM q.2 (ρ x) (ρ i) bs
 |.index t x i=>Dz t (ρ x) (ρ i) bs
 |.extract x i=>vG (ρ x) i bs
 |.call c=>
  match c.callee with
  |.builtin b=>zf T b (c.args.toList.map ρ) c.argTypes.toList bs
  |.value f=>FK cal ids L (ρ f) (c.args.toList.map ρ) bs
  |_=>none
 |_=>none
def eP:Operand->List Nat
 |.tmp t=>[t]
 |_=>[]
def Bz:List Operand->List Nat
 |x::_=>eP x
 |[]=>[]
def FP (c:Call):List Nat:=
 match c.callee with
 |.builtin b=>match b with
  |.append=>Bz c.args.toList
  |_=>[]
 |_=>[]
def jD (ad:Bool) (op:Op):List Nat:=
 match op with
 |.move x=>if ad=true then eP x else []
 |.assign x=>eP x
 |.store _ _ x=>eP x
 |.call c=>FP c
 |_=>[]
def eZ (tm:Tm):List Nat->Tm
 |[]=>tm
 |t::r=>
  match get tm t with
  |.row _ _ n l=>eZ (put tm t (.sl n l)) r
  |_=>eZ tm r
def aB (bx:List (List AV)):List Nat->List (List AV)->List (List AV)
 |i::r,c::cs=>aB (bx.set i c) r cs
 |_,_=>bx
def bn (bx:List (List AV)):List Nat->Option (List (List AV))
 |[]=>some []
 |i::r=>match bx[i]?,bn bx r with
  |some c,some cs=>some (c::cs)
  |_,_=>none
def dW (tm:Tm) (dst:Option Nat) (v:AV):Tm:=
 match dst with
 |some d=>put tm d v
 |none=>tm
def fin (dst:Option Nat) (out:Out) (ids gv:List Nat) (σ:aJ):aJ:=⟨dW (eZ σ.tm gv) dst out.v,aB σ.bx ids out.bs++out.nw⟩
structure Md where
 ad:List Nat
 arr:List Nat
 base:Nat
def gJ (ad:List Nat):Option Nat->Bool
 |some d=>mem d ad
 |none=>false
def wQ (cal:xR) (T:jL) (ad mt:Bool) (o:Oper) (σ:aJ) (ids:List Nat):Option aJ:=
 match bn σ.bx ids with
 |none=>none
 |some cs=>
  match core cal T ad mt σ.bx.length (val σ.tm) cs ids o.type o.op with
  |none=>none
  |some out=>if out.ok=true then some (fin o.dst out ids (jD ad o.op) σ) else none
def OA (cal:xR) (T:jL) (md:Md) (o:Oper) (σ:aJ):Option aJ:=wQ cal T (gJ md.ad o.dst) (gJ md.arr o.dst) o σ (dS (val σ.tm) σ.bx o.op)
def ow:List Oper->List Nat
 |[]=>[]
 |o::r=>
  match o.op with
  |.call c=>FP c++ow r
  |_=>ow r
def Cj (o:Oper) (σ:aJ):aJ:=⟨dW σ.tm o.dst (.bX []),σ.bx⟩
def pg (all:List Oper) (o:Oper) (σ:aJ):Option Bool:=
 match o.guard with
 |none=>some true
 |some (j,want)=>
  match (all[j]?).bind (·.dst) with
  |none=>none
  |some t=>match get σ.tm t with
   |.bool b=>some (b==want)
   |.bX []=>some false
   |_=>none
def lg (cal:xR) (T:jL) (md:Md) (all:List Oper) (o:Oper) (σ:aJ):Option aJ:=
 match pg all o σ with
 |none=>none
 |some true=>OA cal T md o σ
 |some false=>some (Cj o σ)
def dJ (all:List Oper) (o:Oper) (σ:aJ):List Nat:=
 match pg all o σ with
 |some true=>dS (val σ.tm) σ.bx o.op
 |_=>[]
def eB (i:Nat) (v:AV):AV:=
 match mem i v.ids with
 |true=> .bad
 |false=>v
def kill (i:Nat) (σ:aJ):aJ:=⟨σ.tm.map fun p=>(p.1,eB i p.2),σ.bx.map fun c=>c.map (eB i)⟩
def BH (c:Call):Option (Operand×Operand×Nat):=
 match c.callee with
 |.builtin b=>
  match b with
  |.append=>
   match c.args.toList with
   |[x,y]=>match c.argTypes.toList with
    |[t,t']=>if t'=t then some (x,y,t) else none
    |_=>none
   |_=>none
  |_=>none
 |_=>none
def vJ (T:jL) (md:Md) (d:Nat) (σ:aJ) (x y:Operand) (t:Nat):Option aJ:=
 match vC T t with
 |none=>none
 |some (e,q)=>
  match elems (val σ.tm y) with
  |none=>none
  |some (m,k)=>
   if 0<m∧k.length=m*q.size∧0<q.size∧q.bytes<=1000∧dI k=true∧AV.ak k=true then
    match val σ.tm x with
    |.nil=>if m<=10000000000 then some ⟨put σ.tm d (.bU σ.bx.length e q.size m),σ.bx++[k]⟩ else none
    |.row e' z' 0 []=>if m<=10000000000∧e'=e∧z'=q.size then some ⟨put (eZ σ.tm (eP x)) d (.bU σ.bx.length e q.size m),σ.bx++[k]⟩ else none
    |.bU i e' z' n=>
     match σ.bx[i]? with
     |none=>none
     |some c=>
      if md.base<=i∧e'=e∧z'=q.size∧n+m<=10000000000∧c.length=n*q.size∧mem i (AV.aN (c++k))=false∧AV.ak c=true then
       some ⟨put (kill i σ).tm d (.bU i e q.size (n+m)),(kill i σ).bx.set i (c++k)⟩
      else none
    |_=>none
   else none
def uM (cal:xR) (T:jL) (md:Md) (all:List Oper) (o:Oper) (σ:aJ):Option aJ:=
 match o.op with
 |.call c=>
  match BH c with
  |some (x,y,t)=>
   match o.dst with
   |some d=>match mem d md.arr with
    |true=>match o.guard with
     |none=>vJ T md d σ x y t
     |some _=>none
    |false=>lg cal T md all o σ
   |none=>lg cal T md all o σ
  |none=>lg cal T md all o σ
 |_=>lg cal T md all o σ
def dw (cal:xR) (T:jL) (all:List Oper) (md:Md):List Oper->aJ->Option aJ
 |[],σ=>some σ
 |o::r,σ=>
  match uM cal T md all o σ with
  |none=>none
  |some σ'=>dw cal T all md r σ'
def dx (o:Oper):List Nat:=o.after.toList.filterMap fun e=>if Region.binds .any e then some e.on else none
def u6 (acc:List Nat):List Nat->Nat
 |[]=>0
 |i::r=>(2 ^ i|||acc.getD i 0)|||u6 acc r
def iW:List Nat->List Oper->List Nat
 |acc,[]=>acc
 |acc,o::r=>iW (acc++[u6 acc (dx o)]) r
def tmpsOf (o:Oper):List Nat:=o.op.operands.toList.filterMap fun x=>match x with|.tmp t=>some t|_=>none
def AR (all:List Oper) (o:Oper):List Nat:=tmpsOf o++(match o.guard with|some (j,_)=>((all[j]?).bind (·.dst)).toList|none=>[])
def Ic (ad:List Nat) (o:Oper):List Nat:=o.dst.toList++jD (gJ ad o.dst) o.op
def meets (a b:List Nat):Bool:=a.any fun x=>mem x b
def jH (all:List Oper) (ad:List Nat) (a b:Oper):Bool:=meets (Ic ad a) (AR all b)||meets (Ic ad a) (Ic ad b)||meets (Ic ad b) (AR all a)
def nH (all:List Oper):Bool:=
 ((List.range all.length).all fun j=>match all[j]? with
  |some o=>(dx o).all fun i=>decide (i<j)
  |none=>false) &&
 (List.range all.length).all fun j=>(List.range j).all fun i=>((iW [] all).getD j 0).testBit i||match all[i]?,all[j]? with
  |some a,some b=>!jH all (ow all) a b
  |_,_=>false
mutual
def beq:AV->AV->Bool
 |.bool a,.bool b=>a==b
 |.int k a,.int k' b=>decide (k=k') && decide (a=b)
 |.str a,.str b=>decide (a=b)
 |.ptr i o,.ptr i' o'=>Nat.beq i i' && Nat.beq o o'
 |.nil,.nil=>true
 |.sl n l,.sl n' l'=>Nat.beq n n' && xN l l'
 |.row e z n l,.row e' z' n' l'=>Nat.beq e e' && Nat.beq z z' && Nat.beq n n' && xN l l'
 |.el l,.el l'=>xN l l'
 |.agg l,.agg l'=>xN l l'
 |.bX l,.bX l'=>xN l l'
 |.fn f l,.fn f' l'=>Nat.beq f f' && xN l l'
 |.nz k,.nz k'=>decide (k=k')
 |.nP k,.nP k'=>decide (k=k')
 |.low k d m,.low k' d' m'=>decide (k=k') && decide (d=d') && decide (m=m')
 |.bU i e z n,.bU i' e' z' n'=>Nat.beq i i' && Nat.beq e e' && Nat.beq z z' && Nat.beq n n'
 |.bad,.bad=>true
 |_,_=>false
def xN:List AV->List AV->Bool
 |[],[]=>true
 |x::l,y::r=>beq x y && xN l r
 |_,_=>false
end
def PT:List (List AV)->List (List AV)->Bool
 |[],[]=>true
 |x::l,y::r=>xN x y && PT l r
 |_,_=>false
def PS:Tm->Tm->Bool
 |[],[]=>true
 |(k,x)::l,(j,y)::r=>Nat.beq k j && beq x y && PS l r
 |_,_=>false
def UF (a b:aJ):Bool:=PS a.tm b.tm && PT a.bx b.bx
structure gU where
 at_:Nat
 ids:List Nat
 wr:Bool
 al:Bool
 ld:Option (Nat×Nat×Nat)
 ch:List (Nat×List AV×List AV)
def jO (ad:List Nat) (o:Oper):Bool:=
 match o.op with
 |.load _ _=>gJ ad o.dst
 |_=>true
def wO (T:jL) (ad:List Nat) (all:List Oper) (o:Oper) (σ:aJ):Option (Nat×Nat×Nat):=
 match pg all o σ with
 |some true=>
  match o.op with
  |.load t a=>
   match gJ ad o.dst with
   |true=>none
   |false=>
    match val σ.tm a with
    |.ptr i c=>
     match T t with
     |some d=>some (i,c,if d.agg=true then d.size else 1)
     |none=>none
    |_=>none
  |_=>none
 |_=>none
def Ae (σ σ':aJ):List Nat->List (Nat×List AV×List AV)
 |[]=>[]
 |i::r=>(i,σ.bx.getD i [],σ'.bx.getD i [])::Ae σ σ' r
def news (n m:Nat):List Nat:=List.range' n (m-n)
def iH (T:jL) (ad:List Nat) (all:List Oper) (k:Nat) (o:Oper) (σ σ':aJ):gU:=
 ⟨k,dJ all o σ++news σ.bx.length σ'.bx.length,jO ad o,!Nat.ble σ'.bx.length σ.bx.length,wO T ad all o σ,if jO ad o=true then Ae σ σ' (dJ all o σ) else []⟩
def gU.uJ (a b:gU):Bool:=
 match a.ld with
 |some (i,o,n)=>
  match assoc b.ch i with
  |some (c,c')=>Nat.beq c.length c'.length && xN ((c.drop o).take n) ((c'.drop o).take n)
  |none=>false
 |none=>false
def gU.kF (a b:gU):Bool:=((a.wr||b.wr) && meets a.ids b.ids && !(a.uJ b||b.uJ a))||(a.al && b.al)
def dV (a:gU) (l:List gU):List gU:=if a.ids.isEmpty && !a.al then l else a::l
def rO (cal:xR) (T:jL) (all:List Oper) (md:Md):List (Nat×Oper)->aJ->Option (List gU×aJ)
 |[],σ=>some ([],σ)
 |(k,o)::r,σ=>
  match lg cal T md all o σ with
  |none=>none
  |some σ'=>
   match rO cal T all md r σ' with
   |none=>none
   |some (l,ZN)=>some (dV (iH T md.ad all k o σ σ') l,ZN)
def yL (two:Option (Nat×Nat)) (a b:Nat):Bool:=
 match two with
 |some (p,q)=>(Nat.beq a p && Nat.beq b q)||(Nat.beq a q && Nat.beq b p)
 |none=>false
def qX (an:List Nat) (two:Option (Nat×Nat)):List gU->Bool
 |[]=>true
 |a::l=>(l.all fun b=>(an.getD b.at_ 0).testBit a.at_||!a.kF b||yL two a.at_ b.at_) && qX an two l
def dD (k:Nat):List Oper->List (Nat×Oper)
 |[]=>[]
 |o::r=>(k,o)::dD (k+1) r
def vV (cal:xR) (T:jL) (md:Md) (all:List Oper) (σ:aJ):Option aJ:=
 match rO cal T all md (dD 0 all) σ with
 |some (amC,σ')=>if qX (iW [] all) none amC=true then some σ' else none
 |none=>none
def iA (q:Nat):List (Nat×Oper)->List (Nat×Oper)
 |[]=>[]
 |(k,o)::r=>
  match Nat.beq k q with
  |true=>iA q r
  |false=>(k,o)::iA q r
def Cr (cal:xR) (T:jL) (md:Md) (all:List Oper) (p q:Nat) (σ:aJ):Option (aJ×aJ):=
 match all[q]? with
 |none=>none
 |some oq=>
  match rO cal T all md (dD 0 all) σ with
  |none=>none
  |some (A,σa)=>
   match rO cal T all md ((q,oq)::iA q (dD 0 all)) σ with
   |none=>none
   |some (B,σb)=>if Nat.blt p q=true∧(dx oq).isEmpty=true∧qX (iW [] all) (some (p,q)) A=true∧qX (iW [] all) (some (p,q)) B=true then some (σa,σb) else none
inductive wL where
 |normal
 |exit (i:Nat)
 |ret
def prune (ks:List Nat):Tm->Tm
 |[]=>[]
 |(k,v)::r=>if mem k ks=true then (k,v)::prune ks r else prune ks r
def lI (n:Nat) (bx:List (List AV)) (l:List Nat):List Nat:=reach 1000000 bx (AV.aN ((bx.take n).flatMap id)++l) (List.range n)
def pick (n:Nat) (bx:List (List AV)) (l:List Nat):Option (List Nat×List (List AV)):=
 match bn bx (lI n bx l) with
 |none=>none
 |some cs=>if (cs.all fun c=>ym (AV.aN c) (lI n bx l))=true∧ym l (lI n bx l)=true then some (lI n bx l,cs.map (AV.aO (lI n bx l).idxOf)) else none
def M6:Tm->List Nat
 |[]=>[]
 |(_,v)::r=>v.ids++M6 r
def EH (f:Nat->Nat):Tm->Tm
 |[]=>[]
 |(k,v)::r=>(k,v.bK f)::EH f r
def back (n:Nat) (σ:aJ):Option aJ:=
 match pick n σ.bx (M6 σ.tm) with
 |none=>none
 |some (ids,bx)=>some ⟨EH ids.idxOf σ.tm,bx⟩
structure zy where
 live:List (List Nat)
 arr:List Nat
 Qe:Bool
 two:List (Nat×Nat×Nat)
 ZF:List Nat
def zJ (an:zy) (i:Nat) (σ:aJ):aJ:=⟨prune (an.live.getD i []) σ.tm,σ.bx⟩
def uU (cal:xR) (T:jL) (an:zy) (base i:Nat) (ops:Array Oper) (draw:Bool) (σ:aJ):Option aJ:=
 match draw with
 |false=>(dw cal T ops.toList ⟨ow ops.toList++an.ZF,an.arr,base⟩ ops.toList σ).map (zJ an i)
 |true=>
  match assoc an.two i with
  |none=>(vV cal T ⟨ow ops.toList,an.arr,base⟩ ops.toList σ).map (zJ an i)
  |some (p,q)=>
   match Cr cal T ⟨ow ops.toList,an.arr,base⟩ ops.toList p q σ with
   |none=>none
   |some (σa,σb)=>
    match back σ.bx.length (zJ an i σa),back σ.bx.length (zJ an i σb) with
    |some τ,some τ'=>if UF τ τ'=true then some τ else none
    |_,_=>none
def uH (cal:xR) (T:jL) (an:zy) (base:Nat):Nat->Code->aJ->Option (wL×aJ)
 |0,_,_=>none
 |n+1,c,σ=>
  match c with
  |.skip=>some (.normal,σ)
  |.region i ops draw=>
   match uU cal T an base i ops draw σ with
   |some σ'=>some (.normal,σ')
   |none=>none
  |.seq a b=>
   match uH cal T an base n a σ with
   |some (.normal,σ')=>uH cal T an base n b σ'
   |r=>r
  |.cond x a b=>
   match val σ.tm x with
   |.bool t=>uH cal T an base n (if t=true then a else b) σ
   |_=>none
  |.block i a=>
   match uH cal T an base n a σ with
   |some (.exit j,σ')=>some (if j=i then .normal else .exit j,σ')
   |r=>r
  |.loop a=>
   match uH cal T an base n a σ with
   |some (.normal,σ')=>
    match back σ.bx.length σ' with
    |some ZN=>uH cal T an base n (.loop a) ZN
    |none=>none
   |r=>r
  |.exit i=>some (.exit i,σ)
  |.ret=>some (.ret,σ)
  |_=>none
def jA (n:Nat):Code->Bool
 |.region _ ops draw=>(ops.toList.all fun o=>match o.dst with
  |some d=>decide (d<n)
  |none=>true) && (!draw||nH ops.toList)
 |.seq a b=>jA n a && jA n b
 |.cond _ a b=>jA n a && jA n b
 |.block _ a=>jA n a
 |.loop a=>jA n a
 |_=>true
def AP (T:jL) (n:Nat) (σ:aJ):ResultVar->Option AV
 |.tmp t=>some (get σ.tm t)
 |.cell a t=>eO (T t) fun d=>
  match get σ.tm a with
  |.ptr i o=>eO (σ.bx[i]?) fun c=>
   if d.agg=true then (if o+d.size<=c.length then some (.agg (((c.drop o).take d.size).map AV.bY)) else none) else (c[o]?).map AV.bY
  |_=>none
def qG (T:jL) (n:Nat) (σ:aJ):List ResultVar->Option (List AV)
 |[]=>some []
 |r::l=>match AP T n σ r,qG T n σ l with
  |some v,some vs=>some (v::vs)
  |_,_=>none
def jg (vs:List AV):AV:=
 match vs with
 |[v]=>v
 |vs=> .bX (vs.map AV.bY)
def l8 (g:AV->Option AV):List AV->Option (List AV)
 |[]=>some []
 |x::l=>
  match g x,l8 g l with
  |some y,some r=>some (y::r)
  |_,_=>none
def jJ (bx:List (List AV)) (n:Nat):Nat->AV->Option AV
 |0,_=>none
 |k+1,v=>
  match v.pf with
  |true=>some v
  |false=>
   match v with
   |.bU j _ z m=>
    match bx[j]? with
    |some c=>if n<=j∧m*z<=c.length then (l8 (jJ bx n k) ((c.take (m*z)).map AV.bY)).map (.sl m) else none
    |none=>none
   |.agg l=>(l8 (jJ bx n k) l).map .agg
   |.bX l=>(l8 (jJ bx n k) l).map .bX
   |.sl m l=>(l8 (jJ bx n k) l).map (.sl m)
   |_=>none
def Es (T:jL) (Qe:Bool) (σ:aJ) (l:List ResultVar) (n:Nat):Option (AV×List (List AV)):=
 match qG T n σ l with
 |none=>none
 |some vs=>
  match Qe with
  |true=>
   match jJ σ.bx n 1000 (jg vs) with
   |some v=>if n<=σ.bx.length∧((σ.bx.take n).all AV.wN)=true then some (v,σ.bx.take n) else none
   |none=>none
  |false=>
   match pick n σ.bx (jg vs).ids with
   |some (ids,bx)=>some ((jg vs).bK ids.idxOf,bx)
   |none=>none
def params:Tm->Nat->List AV->Tm
 |tm,_,[]=>tm
 |tm,k,v::l=>params ((k,v)::tm) (k+1) l
def acf (cal:xR) (T:jL) (an:zy) (n:Nat) (fn:Func) (args:List AV) (XM:List (List AV)):Option (AV×List (List AV)):=
 match fn.body with
 |none=>none
 |some c=>
  match uH cal T an XM.length n c ⟨params [] 0 args,XM⟩ with
  |some (.normal,σ)=>Es T an.Qe σ fn.results.toList XM.length
  |some (.ret,σ)=>Es T an.Qe σ fn.results.toList XM.length
  |_=>none
structure X3 where
 T:jL
 fns:Nat->Option Func
 ann:Nat->zy
 VX:Nat->Option (List AV->Option AV)
 VE:Nat->Option (xR->List AV->List (List AV)->Option (AV×List (List AV)))
def DV (K:X3):Nat->xR
 |0,_,_,_=>none
 |n+1,f,args,XM=>
  match K.VX f with
  |some g=>
   match g args with
   |none=>none
   |some v=>if v.pf=true∧v.flat=true∧XM.isEmpty=true then some (v,XM) else none
  |none=>
   match K.VE f with
   |some g=>g (DV K n) args XM
   |none=>
    match K.fns f with
    |some fn=>acf (DV K n) K.T (K.ann f) n fn args XM
    |none=>none
theorem DF {n k:Nat} (h:n≠k):Nat.beq n k=false:=by
 cases hb:Nat.beq n k with
 |false=>rfl
 |true=>exact absurd (Nat.eq_of_beq_eq_true hb) h
theorem qF (n:Nat):Nat.beq n n=true:=Nat.beq_refl n
theorem bD (k:Nat) (v:AV) (r:Tm) (n:Nat):get ((k,v)::r) n=if n=k then v else get r n:=by
 rw [get];by_cases h:n=k
 ·subst h;rw [qF,if_pos rfl]
 ·rw [DF h,if_neg h]
theorem ik (k:Nat) (u:AV) (r:Tm) (n:Nat) (v:AV):put ((k,u)::r) n v=if k<n then (n,v)::(k,u)::r else if n=k then (n,v)::r else (k,u)::put r n v:=by
 rw [put];by_cases h1:k<n
 ·have:Nat.ble n k=false:=by
   cases hb:Nat.ble n k with
   |false=>rfl
   |true=>have:=Nat.le_of_ble_eq_true hb;omega
  rw [this,if_pos h1]
 ·have:Nat.ble n k=true:=Nat.ble_eq_true_of_le oM;rw [this,if_neg h1];by_cases h:n=k
  ·subst h;rw [qF,if_pos rfl]
  ·rw [DF h,if_neg h]
theorem ah (tm:Tm) (d:Nat) (v:AV) (n:Nat):get (put tm d v) n=if n=d then v else get tm n:=by
 induction tm with
 |nil=>rw [put,bD]
 |cons p r ih=>
  obtain ⟨k,u⟩:=p;rw [ik];split
  ·rw [bD]
  ·split
   ·rename_i h;subst h;rw [bD];split
    ·rfl
    ·rename_i h;rw [bD,if_neg h]
   ·rw [bD,ih,bD];split
    ·rename_i h1 h2 h;subst h;rw [if_neg (fun e=>h2 e.symm)]
    ·rfl
theorem Pq (ks:List Nat) (tm:Tm) (n:Nat):get (prune ks tm) n=get tm n∨get (prune ks tm) n=.bad:=by
 induction tm with
 |nil=>exact .inl rfl
 |cons p r ih=>
  obtain ⟨k,u⟩:=p;rw [prune];split
  ·rw [bD,bD];split
   ·exact .inl rfl
   ·exact ih
  ·rename_i hm;rw [bD];by_cases h:n=k
   ·subst h;right;have:∀r:Tm,get (prune ks r) n=.bad:=by
     intro r
     induction r with
     |nil=>rfl
     |cons q r ih2=>
      obtain ⟨k2,u2⟩:=q;rw [prune];split
      ·rename_i h2;rw [bD];split
       ·rename_i e;subst e;exact absurd h2 hm
       ·exact ih2
      ·exact ih2
    exact this r
   ·rw [if_neg h];exact ih
inductive Loc where
 |t (k:Nat)
 |b (i j:Nat)
abbrev rE:=Nat->AV×Value
def Sl (tm:Tm) (a:Act):rE:=fun k=>(get tm k,a.tmps.getD k undef)
def up (S:rE) (d:Nat) (x:AV×Value):rE:=fun k=>if k=d then x else S k
theorem mR {tm:Tm} {a:Act} {d:Nat} (hd:d<a.tmps.size) (v:AV) (u:Value):Sl (put tm d v) (a.put (some d) u)=up (Sl tm a) d (v,u):=by
 funext k;unfold Sl up Act.put;rw [ah];by_cases h:k=d
 ·subst h;simp [hd]
 ·simp [h,Ne.symm h]
def Own (w:World) (bs:List Nat) (bx:List (List AV)) (S:rE):Loc->Nat->Prop
 |.t k,g=>(S k).1.isRow=true∧(S k).2.ownBlock=some g
 |.b i j,g=>∃b x y v,bs[i]?=some b∧bx[i]?=some x∧x[j]?=some y∧y.isRow=true∧w.cell? ⟨b,j,none⟩=some v∧v.ownBlock=some g
structure aM (lim:Nat->Nat) (bs:List Nat) (w:World) (bx:List (List AV)) (S:rE) (m:Nat->Prop):Prop where
 len:bs.length=bx.length
 xV:bs.Nodup
 free:∀b ∈ bs,lim b=0
 mb:∀b ∈ bs,m b
 box:∀(i b:Nat) (x:List AV),bs[i]?=some b->bx[i]?=some x->∃(c tl:List Value) (t:TypeId),w.heap[b]?=some (Obj.cells (c++tl).toArray t (0,0))∧AV.Rs lim bs w x c∧x.all AV.top=true
 slot:∀k,AV.R lim bs w (S k).1 (S k).2
 jm:∀k,(S k).1.top=true
 top:∀b,w.heap.size<=b->lim b=0
 own:∀(p:Loc) (g:Nat),Own w bs bx S p g->m g∧g ∉ bs
 nK:∀(p q:Loc) (g:Nat),Own w bs bx S p g->Own w bs bx S q g->p=q
structure Fr (m:Nat->Prop) (nY:Nat->Nat) (w0:World) (lim:Nat->Nat) (w:World):Prop where
 qJ:Below 0 w0 w
 mE:∀b,b<w0.heap.size->¬m b->w.heap[b]?=w0.heap[b]?∧lim b=nY b
 le:∀b,b<w0.heap.size->nY b<=lim b
 cell:∀b j,b<w0.heap.size->j<nY b->w.cell? ⟨b,j,none⟩=w0.cell? ⟨b,j,none⟩
 shape:∀(b:Nat) (cur:Array Value) (e:TypeId) (p:Nat×Nat),w0.heap[b]?=some (Obj.cells cur e p)->∃cur':Array Value,w.heap[b]?=some (.cells cur' e p)∧cur'.size=cur.size
variable {m m' : Nat -> Prop} {lim nY dN lim' : Nat -> Nat} {bs bs' : List Nat} {w w0 w1 w' : World} {bx bx' : List (List AV)} {S S' : rE}
theorem Fr.refl:Fr m lim w lim w:=⟨Below.refl _ _,fun _ _ _=>⟨rfl,rfl⟩,fun _ _=>Nat.le_refl _,fun _ _ _ _=>rfl,fun b cur e p h=>⟨cur,h,rfl⟩⟩
theorem Fr.trans (h:Fr m nY w0 dN w1) (k:Fr m dN w1 lim w):Fr m nY w0 lim w:=by
 refine ⟨h.qJ.trans k.qJ,fun b hb hm=>?_,fun b hb=>?_,fun b j hb hj=>?_,fun b cur e p hb=>?_⟩
 ·have hb1:=Nat.lt_of_lt_of_le hb h.qJ.size;have h1:=h.mE b hb hm;have h2:=k.mE b hb1 hm;exact ⟨h2.1.trans h1.1,h2.2.trans h1.2⟩
 ·exact Nat.le_trans (h.le b hb) (k.le b (Nat.lt_of_lt_of_le hb h.qJ.size))
 ·exact (k.cell b j (Nat.lt_of_lt_of_le hb h.qJ.size) (Nat.lt_of_lt_of_le hj (h.le b hb))).trans (h.cell b j hb hj)
 ·obtain ⟨c1,e1,s1⟩:=h.shape b cur e p hb;obtain ⟨c2,e2,s2⟩:=k.shape b c1 e p e1;exact ⟨c2,e2,s2.trans s1⟩
theorem Fr.ext (h:Fr m lim w lim' w') (hb:∀(i b:Nat),bs[i]?=some b->bs'[i]?=some b):AV.Ext lim bs w lim' bs' w':=⟨hb,h.qJ.size,h.le,h.cell,h.shape⟩
theorem Fr.aU (h:Fr m' nY w0 lim w) (hm:∀b,b<w0.heap.size->m' b->m b):Fr m nY w0 lim w:=
 ⟨h.qJ,fun b hb hn=>h.mE b hb (fun e=>hn (hm b hb e)),h.le,h.cell,h.shape⟩
theorem lh (v:Value):AV.R lim bs w .bad v:=by rw [AV.R];trivial
theorem aM.sub (H:aM lim bs w bx S m) (h:∀k,(S' k).2=(S k).2∧((S' k).1=(S k).1∨(S' k).1=(S k).1.bY∨(S' k).1=.bad)):aM lim bs w bx S' m∧∀p g,Own w bs bx S' p g->Own w bs bx S p g:=by
 have hr:∀x:AV,x.bY.isRow=false:=fun x=>by cases x<;>rfl
 have ho:∀p g,Own w bs bx S' p g->Own w bs bx S p g:=by
  intro p g hp;cases p with
  |b i j=>exact hp
  |t k=>
   obtain ⟨h1,h2⟩:=hp;obtain ⟨e,h3⟩:=h k;rcases h3 with h3|h3|h3
   ·exact ⟨by rw [←h3];exact h1,by rw [←e];exact h2⟩
   ·rw [h3,hr] at h1;cases h1
   ·rw [h3] at h1;cases h1
 refine ⟨⟨H.len,H.xV,H.free,H.mb,H.box,fun k=>?_,fun k=>?_,H.top,fun p g hp=>H.own p g (ho p g hp),fun p q g hp hq=>H.nK p q g (ho p g hp) (ho q g hq)⟩,ho⟩
 ·obtain ⟨e,h3⟩:=h k;rw [e];rcases h3 with h3|h3|h3<;>rw [h3]
  ·exact H.slot k
  ·exact (H.slot k).bY
  ·exact lh _
 ·obtain ⟨e,h3⟩:=h k;rcases h3 with h3|h3|h3<;>rw [h3]
  ·exact H.jm k
  ·unfold AV.top;rw [AV.R.oo (H.jm k) (H.slot k)];simp
  ·rfl
theorem aM.put (H:aM lim bs w bx S m) {d:Nat} {v:AV} {u:Value} (hv:AV.R lim bs w v u) (ht:v.top=true)
  (hrow:∀g,v.isRow=true->u.ownBlock=some g->m g∧g ∉ bs∧∀p,Own w bs bx S p g->p=.t d):aM lim bs w bx (up S d (v,u)) m:=by
 have ho:∀p g,Own w bs bx (up S d (v,u)) p g->(p=.t d∧v.isRow=true∧u.ownBlock=some g)∨(p≠.t d∧Own w bs bx S p g):=by
  intro p g hp;cases p with
  |b i j=>exact .inr ⟨by simp,hp⟩
  |t k=>
   obtain ⟨h1,h2⟩:=hp;unfold up at h1 h2;by_cases e:k=d
   ·rw [if_pos e] at h1 h2;exact .inl ⟨by rw [e],h1,h2⟩
   ·rw [if_neg e] at h1 h2;exact .inr ⟨by simpa using e,h1,h2⟩
 refine ⟨H.len,H.xV,H.free,H.mb,H.box,fun k=>?_,fun k=>?_,H.top,fun p g hp=>?_,fun p q g hp hq=>?_⟩
 ·unfold up;split
  ·exact hv
  ·exact H.slot k
 ·unfold up;split
  ·exact ht
  ·exact H.jm k
 ·rcases ho p g hp with ⟨-,h1,h2⟩|⟨-,h1⟩
  ·exact ⟨(hrow g h1 h2).1,(hrow g h1 h2).2.1⟩
  ·exact H.own p g h1
 ·rcases ho p g hp with ⟨e1,h1,h2⟩|⟨e1,h1⟩
  ·rcases ho q g hq with ⟨e2,-,-⟩|⟨e2,h3⟩
   ·rw [e1,e2]
   ·exact absurd ((hrow g h1 h2).2.2 q h3) e2
  ·rcases ho q g hq with ⟨e2,h3,h4⟩|⟨e2,h3⟩
   ·exact absurd ((hrow g h3 h4).2.2 p h1) e1
   ·exact H.nK p q g h1 h3
theorem jc {w:World} {b off:Nat} {cs:List Value} {t:TypeId} (hb:w.heap[b]?=some (.cells cs.toArray t (0,0))):w.cell? ⟨b,off,none⟩=cs[off]?:=by simp [World.cell?,hb]
theorem dP {w:World} {b off:Nat} {cs tl:List Value} {t:TypeId} {v:Value} (hb:w.heap[b]?=some (.cells (cs++tl).toArray t (0,0))) (hv:cs[off]?=some v):w.cell? ⟨b,off,none⟩=some v:=by rw [jc hb,List.getElem?_append_left (List.getElem?_eq_some_iff.1 hv).1];exact hv
theorem di {w:World} {i:Nat} {x:Obj} (h:w.heap[i]?=some x):i<w.heap.size:=by
 rcases Nat.lt_or_ge i w.heap.size with h'|h'
 ·exact h'
 ·simp [Array.getElem?_eq_none h'] at h
theorem AQ {x:AV} {v:Value} {g:Nat} (h:AV.R lim bs w x v) (hr:x.isRow=true) (hg:v.ownBlock=some g):g<w.heap.size:=by
 cases x<;>simp only [AV.isRow,Bool.false_eq_true] at hr;rw [AV.R] at h;obtain ⟨-,-,h3⟩:=h;rcases h3 with ⟨rfl,-⟩|⟨g',c,cur,rfl,hb,-⟩
 ·cases hg
 ·cases hg;exact di hb
theorem kU:∀{x:List AV} {c:List Value} {j:Nat} {y:AV},AV.Rs lim bs w x c->x[j]?=some y->∃v,c[j]?=some v∧AV.R lim bs w y v
 |[],c,j,y,_,hy=>by simp at hy
 |z::x,c,0,y,h,hy=>by rw [AV.Rs] at h;obtain ⟨v,r,rfl,h1,-⟩:=h;simp at hy;subst hy;exact ⟨v,rfl,h1⟩
 |z::x,c,j+1,y,h,hy=>by rw [AV.Rs] at h;obtain ⟨v,r,rfl,-,h2⟩:=h;simp at hy;obtain ⟨v',h3,h4⟩:=kU h2 hy;exact ⟨v',by simpa using h3,h4⟩
theorem Own.lt (H:aM lim bs w bx S m) {p:Loc} {g:Nat} (h:Own w bs bx S p g):g<w.heap.size:=by
 cases p with
 |t k=>exact AQ (H.slot k) h.1 h.2
 |b i j=>
  obtain ⟨b,x,y,v,h1,h2,h3,h4,h5,h6⟩:=h;obtain ⟨c,tl,t,hb,hx,-⟩:=H.box i b x h1 h2;obtain ⟨v',h7,h8⟩:=kU hx h3;rw [dP hb h7] at h5;cases h5;exact AQ h8 h4 h6
theorem mU (k:AV.Ext lim bs w lim' bs' w'):∀{x:List AV} {c:List Value},x.all AV.top=true->(∀(j:Nat) (y:AV) (v:Value) (g:Nat),x[j]?=some y->c[j]?=some v->y.isRow=true->v.ownBlock=some g->w'.heap[g]?=w.heap[g]?∧lim' g=lim g)->AV.Rs lim bs w x c->AV.Rs lim' bs' w' x c
 |[],c,_,_,h=>by rw [AV.Rs] at h⊢;exact h
 |z::x,c,ht,hr,h=>by rw [AV.Rs] at h⊢;obtain ⟨v,r,rfl,h1,h2⟩:=h;rw [List.all_cons,Bool.and_eq_true] at ht;refine ⟨v,r,rfl,AV.R.mE k ht.1 (fun g hg1 hg2=>hr 0 z v g rfl rfl hg1 hg2) h1,mU k ht.2 (fun j y v' g hy hv hg1 hg2=>hr (j+1) y v' g (by simpa using hy) (by simpa using hv) hg1 hg2) h2⟩
theorem aM.world (H:aM lim bs w bx S m) (k:AV.Ext lim bs w lim' bs w') (yQ:∀b ∈ bs,w'.heap[b]?=w.heap[b]?∧lim' b=0) (hrow:∀p g,Own w bs bx S p g->w'.heap[g]?=w.heap[g]?∧lim' g=lim g) (htop:∀b,w'.heap.size<=b->lim' b=0):
  aM lim' bs w' bx S m∧∀p g,Own w' bs bx S p g->Own w bs bx S p g:=by
 have hc:∀i b j,bs[i]?=some b->w'.cell? ⟨b,j,none⟩=w.cell? ⟨b,j,none⟩:=fun i b j hi=>World.cell?_of_block (yQ b (List.mem_of_getElem? hi)).1;have ho:∀p g,Own w' bs bx S p g->Own w bs bx S p g:=by
  intro p g hp;cases p with
  |t k=>exact hp
  |b i j=>
   obtain ⟨b,x,y,v,h1,h2,h3,h4,h5,h6⟩:=hp;exact ⟨b,x,y,v,h1,h2,h3,h4,by rw [←hc i b j h1];exact h5,h6⟩
 refine ⟨⟨H.len,H.xV,fun b hb=>(yQ b hb).2,H.mb,fun i b x hi hx=>?_,fun k'=>?_,H.jm,htop,fun p g hp=>H.own p g (ho p g hp),fun p q g hp hq=>H.nK p q g (ho p g hp) (ho q g hq)⟩,ho⟩
 ·obtain ⟨c,tl,t,hb,hr,ht⟩:=H.box i b x hi hx;refine ⟨c,tl,t,(yQ b (List.mem_of_getElem? hi)).1.trans hb,mU k ht (fun j y v g hy hv h1 h2=>hrow (.b i j) g ⟨b,x,y,v,hi,hx,hy,h1,dP hb hv,h2⟩) hr,ht⟩
 ·exact AV.R.mE k (H.jm k') (fun g h1 h2=>hrow (.t k') g ⟨h1,h2⟩) (H.slot k')
end Ab
namespace Ab
variable {lim : Nat -> Nat} {bs : List Nat} {w : World} {P : Program}
theorem toList_data (a:ByteArray):a.toList=a.data.toList:=by
 have key:∀(n i:Nat) (r:List UInt8),a.size-i=n->ByteArray.toList.loop a i r=r.reverse++a.data.toList.drop i:=by
  intro n
  induction n with
  |zero=>
   intro i r h;unfold ByteArray.toList.loop;rw [if_neg oM];have hl:a.data.toList.length<=i:=by have:a.data.toList.length=a.size:=Array.length_toList;omega
   rw [List.drop_eq_nil_of_le hl,List.append_nil]
  |succ n ih=>
   intro i r h;unfold ByteArray.toList.loop;rw [if_pos oM,ih (i+1) _ oM];have hi:i<a.data.toList.length:=by have:a.data.toList.length=a.size:=Array.length_toList;omega
   rw [List.drop_eq_getElem_cons hi];have hg:a.get! i=a.data.toList[i]:=by
    have h2:i<a.data.size:=by simpa using hi
    simp only [ByteArray.get!,Array.getElem_toList];exact getElem!_pos a.data i h2
   rw [hg];simp
 have:=key a.size 0 [] (by simp);unfold ByteArray.toList;rw [this];simp
theorem KZ (a b:ByteArray):(a.toList==b.toList)=decide (a=b):=by
 rw [Bool.eq_iff_iff,beq_iff_eq,decide_eq_true_eq,toList_data,toList_data];constructor
 ·intro h;cases a;cases b;simp only [ByteArray.mk.injEq];exact Array.toList_inj.1 h
 ·rintro rfl;rfl
theorem VL {op:BinOp} {t:TypeId} {ox oy:Operand} {x y v:AV} {vx vy:Value} {ok:Bool} (h:bin op x y=some (v,ok)) (hok:ok=true) (hx:AV.R lim bs w x vx) (hy:AV.R lim bs w y vy):
  ∃u,(do eqGuard op t ox oy vx vy;binOp op t vx vy).run P w=.ok u w∧AV.R lim bs w v u∧v.flat=true∧v.isRow=false:=by
 unfold bin at h;split at h
 ·rename_i k a;split at h
  ·rename_i k' b;split at h
   ·rename_i hk;subst hk;rw [AV.R] at hx hy;subst hx hy;unfold ab9 at h;cases op<;>simp only [Option.some.injEq,Prod.mk.injEq,reduceCtorEq] at h<;>obtain ⟨rfl,rfl⟩:=h<;>
     first
     |(refine ⟨_,?_,by rw [AV.R],rfl,rfl⟩;simp [eqGuard,binOp,Op.intArith,Op.intCmp];done)
     |(refine ⟨_,?_,by rw [AV.R],rfl,rfl⟩;have hb:b≠0:=by simpa using hok
       simp [eqGuard,binOp,Op.intDiv,hb];done)
   ·cases h
  ·cases h
 ·rename_i a;split at h
  ·rename_i b;rw [AV.R] at hx hy;subst hx hy;unfold aja at h;cases op<;>simp only [Option.some.injEq,Prod.mk.injEq,reduceCtorEq] at h<;>obtain ⟨rfl,rfl⟩:=h
   ·refine ⟨_,?_,by rw [AV.R],rfl,rfl⟩;have hb:a.size+b.size<=1000000000:=by simpa using hok
    have:¬((a.size:Int)+(b.size:Int)>IntKind.i64.max):=by have:IntKind.i64.max=9223372036854775807:=dE;omega
    simp [eqGuard,binOp,Op.stringOp];omega
   ·refine ⟨_,?_,by rw [AV.R],rfl,rfl⟩;simp [eqGuard,binOp,Op.stringOp,KZ]
   ·refine ⟨_,?_,by rw [AV.R],rfl,rfl⟩;simp [eqGuard,binOp,Op.stringOp,KZ]
  ·cases h
 ·rename_i k;split at h
  ·rename_i k' b;split at h
   ·rename_i hk;obtain ⟨rfl,rfl⟩:=hk;rw [AV.R] at hx;rw [AV.R] at hy;obtain ⟨n,hn,rfl⟩:=hx;subst hy;unfold ajb at h;cases op<;>simp only [Option.some.injEq,Prod.mk.injEq,reduceCtorEq] at h<;>obtain ⟨rfl,rfl⟩:=h
    ·refine ⟨_,?_,by rw [AV.R],rfl,rfl⟩;simp [eqGuard,binOp,Op.intCmp,hn]
    ·refine ⟨_,?_,by rw [AV.R],rfl,rfl⟩;simp [eqGuard,binOp,Op.intCmp,hn]
   ·cases h
  ·cases h
 ·cases h
def zr:AV->Value->Prop
 |.nil,v=>v=.slice none 0 0
 |.bool b,v=>v=.bool b
 |.int k n,v=>v=.int k n
 |.str s,v=>v=.string s
 |_,_=>False
def U3:List AV->List Value->Prop
 |[],vs=>vs=[]
 |x::l,vs=>∃v r,vs=v::r∧zr x v∧U3 l r
theorem acI {x:AV} {v:Value} (h:zr x v):AV.R lim bs w x v∧x.top=true∧x.one=true∧(x.isRow=true->v=.slice none 0 0):=by
 unfold zr at h;split at h
 ·subst h;exact ⟨by rw [AV.R],rfl,rfl,fun h=>by cases h⟩
 ·subst h;exact ⟨by rw [AV.R],rfl,rfl,fun h=>by cases h⟩
 ·subst h;exact ⟨by rw [AV.R],rfl,rfl,fun h=>by cases h⟩
 ·subst h;exact ⟨by rw [AV.R],rfl,rfl,fun h=>by cases h⟩
 ·cases h
theorem X9:∀{x:List AV} {c:List Value},U3 x c->AV.Rs lim bs w x c∧x.all AV.top=true∧dI x=true∧(∀(j:Nat) (y:AV) (v:Value),x[j]?=some y->c[j]?=some v->y.isRow=true->v=.slice none 0 0)
 |[],c,h=>by rw [U3] at h;subst h;exact ⟨by rw [AV.Rs],rfl,rfl,fun j y v hy=>by simp at hy⟩
 |z::x,c,h=>by
  rw [U3] at h;obtain ⟨v,r,rfl,h1,h2⟩:=h;obtain ⟨a1,a2,a3,a4⟩:=acI (lim:=lim) (bs:=bs) (w:=w) h1;obtain ⟨b1,b2,b3,b4⟩:=X9 (x:=x) (c:=r) h2;refine ⟨by rw [AV.Rs];exact ⟨v,r,rfl,a1,b1⟩,by rw [List.all_cons,a2,b2];rfl,by rw [dI,a3,b3];rfl,fun j y u hy hu hr=>?_⟩;cases j with
  |zero=>simp at hy hu;subst hy hu;exact a4 hr
  |succ j=>simp at hy hu;exact b4 j y u hy hu hr
theorem H7:∀{x:List AV} {c:List Value},U3 x c->AV.Rs lim bs w x c∧AV.ak x=true
 |[],c,h=>by rw [U3] at h;subst h;exact ⟨by rw [AV.Rs],rfl⟩
 |z::x,c,h=>by
  rw [U3] at h;obtain ⟨v,r,rfl,h1,h2⟩:=h;obtain ⟨b1,b2⟩:=H7 (x:=x) (c:=r) h2;have hz:=(acI (lim:=lim) (bs:=bs) (w:=w) h1).1;have hf:z.flat=true:=by
   unfold zr at h1;split at h1<;>first|rfl|cases h1
  exact ⟨by rw [AV.Rs];exact ⟨v,r,rfl,hz,b1⟩,by rw [AV.ak,hf,b2];rfl⟩
structure kN (P:Program) (T:jL):Prop where
 str:P.underlying 9=some .string
 u8:P.underlying 5=some (.int .u8)
 i64:P.underlying 3=some (.int .i64)
 mix:P.follows .mixedOrders=true
 boo:P.underlying 4=some .bool
 ceq:∀(w:World) (a b:ByteArray) (n m:Int),(Op.equalIn 10000 56 (.agg #[.string a,.int .i64 n]) (.agg #[.string b,.int .i64 m])).run P w=.ok (decide (a=b∧n=m)) w
 cgd:P.eqGuardType P.depth 56=false
 und:∀t d,T t=some d->∃u,P.underlying t=some u∧u.isRow=d.agg∧(∀e,d.elem=some e->u=.slice e)
 fld:∀t d,T t=some d->d.agg=true->∃fs:Array Field,P.underlying t=some (.struct fs)∧fs.size=d.iG.length∧∀(f:Nat) (q:Nat×Nat×Bool),d.iG[f]?=some q->∃(fl:Field) (i:TypeInfo) (u:TypeDesc),fs[f]?=some fl∧fl.offset=q.1∧P.info? fl.type=some i∧i.size=q.2.1∧P.underlying fl.type=some u∧u.isRow=q.2.2
 off:∀t d,T t=some d->d.agg=false->d.iG=[]
 info:∀t d,T t=some d->∃(i:TypeInfo) (z:Value),P.info? t=some i∧i.size=d.size∧i.bytes=d.bytes∧i.zero=some z∧z.cells.size=d.size∧U3 d.zero z.cells.toList
theorem ajl {x y:AV} {v:Value} (h:AV.R lim bs w (.agg [x,y]) v):∃u1 u2,v=.agg #[u1,u2]∧AV.R lim bs w x u1∧AV.R lim bs w y u2:=by
 rw [AV.R] at h;obtain ⟨vs,rfl,h⟩:=h;rw [AV.Rs] at h;obtain ⟨u1,r,h1,h2,h⟩:=h;rw [AV.Rs] at h;obtain ⟨u2,r2,h3,h4,h⟩:=h;rw [AV.Rs] at h;refine ⟨u1,u2,?_,h2,h4⟩;obtain ⟨vs⟩:=vs;have:vs=[u1,u2]:=by rw [show vs=u1::r from h1,h3,h]
 rw [this]
theorem Jd {T:jL} (HT:kN P T) {op:BinOp} {t:Nat} {ox oy:Operand} {x y:AV} {b:Bool} {vx vy:Value} (h:PR t x y=some b) (hop:op=.eql∨op=.neq) (hx:AV.R lim bs w x vx) (hy:AV.R lim bs w y vy):(do eqGuard op t ox oy vx vy;binOp op t vx vy).run P w=.ok (.bool (if op=.eql then b else !b)) w:=by
 unfold PR at h;split at h
 ·rename_i a;split at h
  ·rename_i c;split at h
   ·rename_i ht;cases h;rw [AV.R] at hx hy;subst hx hy ht;have e:(Op.equalIn 10000 4 (.bool a) (.bool c)).run P w=.ok (a==c) w:=run_equalIn_bool' w 9999 4 a c HT.boo;rcases hop with rfl|rfl
    ·simp [eqGuard,binOp,Op.equal,Op.maxDepth,e];cases a<;>cases c<;>rfl
    ·simp [eqGuard,binOp,Op.equal,Op.maxDepth,e];cases a<;>cases c<;>rfl
   ·cases h
  ·cases h
 ·rename_i a n;split at h
  ·rename_i c m;split at h
   ·rename_i ht;cases h;obtain ⟨u1,u2,rfl,g1,g2⟩:=ajl hx;obtain ⟨u3,u4,rfl,g3,g4⟩:=ajl hy;rw [AV.R] at g1;rw [AV.R] at g2;rw [AV.R] at g3;rw [AV.R] at g4;subst g1 g2 g3 g4 ht;rcases hop with rfl|rfl
    ·rw [Sem.run_bind,run_eqGuard_agg w _ _ _ _ _ _ HT.cgd];show (binOp .eql 56 _ _).run P w=_;rw [run_eql_struct,HT.ceq];rfl
    ·rw [Sem.run_bind,run_eqGuard_agg w _ _ _ _ _ _ HT.cgd];show (binOp .neq 56 _ _).run P w=_;rw [run_neq_struct,HT.ceq];rfl
   ·cases h
  ·cases h
 ·cases h
variable {T : jL}
theorem TV {T:jL} {t e:Nat} {d:TD} (h:vC T t=some (e,d)):(∃d0,T t=some d0∧d0.elem=some e)∧T e=some d:=by
 unfold vC at h;split at h
 ·cases h
 ·rename_i d0 h0;split at h
  ·cases h
  ·rename_i e0 he;split at h
   ·cases h
   ·rename_i d1 h1;cases h;exact ⟨⟨d0,h0,he⟩,h1⟩
theorem pO (HT:kN P T) {t e:Nat} {d:TD} (h:vC T t=some (e,d)):P.underlying t=some (.slice e)∧T e=some d:=by obtain ⟨⟨d0,h0,he⟩,h1⟩:=TV h;obtain ⟨u,hu,-,hs⟩:=HT.und t d0 h0;rw [hs e he] at hu;exact ⟨hu,h1⟩
theorem add_mid (b o n:Nat):(⟨b,o,none⟩:Addr).add n=⟨b,o+n,none⟩:=by
 unfold Addr.add;split
 ·rename_i h;subst h;rfl
 ·rfl
theorem run_sizeOf {t:TypeId} {i:TypeInfo} (h:P.info? t=some i) (w:World):(sizeOf t).run P w=.ok i.size w:=by simp [sizeOf,typeInfo,h]
theorem vT {t:TypeId} {u:TypeDesc} (h:P.underlying t=some u) (w:World):(isAgg t).run P w=.ok u.isRow w:=by unfold isAgg;rw [Sem.run_bind,run_underlying h w];cases u<;>rfl
theorem Aw (HT:kN P T) {t f b o:Nat} {d:TD} {q:Nat×Nat×Bool} (ht:T t=some d) (hq:d.iG[f]?=some q) (hpos:0<q.2.1):
  (Instr.fieldAt t (.pointer (some ⟨b,o,none⟩)) f).run P w=.ok (.pointer (some ⟨b,o+q.1,none⟩)) w:=by
 cases ha:d.agg with
 |false=>rw [HT.off t d ht ha] at hq;cases hq
 |true=>
  obtain ⟨fs,hu,-,hf⟩:=HT.fld t d ht ha;obtain ⟨fl,i,u,h1,h2,h3,h4,-⟩:=hf f q hq;have hz:i.size≠0:=oM;simp only [Instr.fieldAt,Sem.run_bind,run_underlying hu,Result.andThen_ok,h1,Instr.sureAddr,Sem.run_pure,fieldPlace,run_sizeOf h3,hz,if_false,h2,add_mid]
theorem O3 (HT:kN P T) {s:ByteArray} {k:IntKind} {n:Int} (h0:0<=n) (h1:n<s.size):(Instr.index 9 (.string s) (.int k n)).run P w=.ok (.int .u8 (bt s n.toNat)) w:=by
 have h2:n.toNat<s.size:=oM;have h3:s[n.toNat]?=some (s[n.toNat]):=by exact getElem?_pos s n.toNat h2
 simp only [Instr.index,asIntOf,Sem.run_bind,Sem.run_pure,Result.andThen_ok,run_underlying HT.str,if_pos h0,h3];unfold bt;rw [dif_pos h2]
theorem Au (HT:kN P T) {t e:Nat} {d:TD} (h:vC T t=some (e,d)) {b o len cap:Nat} {k:IntKind} {n:Int} (h0:0<=n) (h1:n<len):
  (Instr.indexAt t (.slice (some ⟨b,o,none⟩) len cap) (.int k n)).run P w=.ok (.pointer (some ⟨b,o+n.toNat*d.size,none⟩)) w:=by
 obtain ⟨hu,he⟩:=pO HT h;obtain ⟨i,z,hi,hs,-⟩:=HT.info e d he;simp only [Instr.indexAt,asIntOf,Sem.run_bind,Sem.run_pure,Result.andThen_ok,run_underlying hu,if_pos (And.intro h0 h1),run_sizeOf hi,hs,add_mid]
theorem nI:∀{l:List AV} {n:Nat},AV.ak l=true->AV.ak (l.drop n)=true
 |[],n,_=>by simp [AV.ak]
 |x::l,0,h=>h
 |x::l,n+1,h=>by rw [AV.ak,Bool.and_eq_true] at h;exact nI (l:=l) (n:=n) h.2
theorem qB:∀{l:List AV} {n:Nat},AV.ak l=true->AV.ak (l.take n)=true
 |[],n,_=>by simp [AV.ak]
 |x::l,0,h=>rfl
 |x::l,n+1,h=>by rw [AV.ak,Bool.and_eq_true] at h;rw [List.take_succ_cons,AV.ak,h.1,qB (l:=l) (n:=n) h.2];rfl
theorem eH:∀{l:List AV} {n:Nat} {v:AV},AV.ak l=true->l[n]?=some v->v.flat=true
 |[],n,v,_,hv=>by simp at hv
 |x::l,0,v,h,hv=>by rw [AV.ak,Bool.and_eq_true] at h;simp at hv;subst hv;exact h.1
 |x::l,n+1,v,h,hv=>by rw [AV.ak,Bool.and_eq_true] at h;exact eH (l:=l) (n:=n) h.2 (by simpa using hv)
theorem kY:∀{l:List AV} {c:List Value},l.all AV.top=true->AV.Rs lim bs w l c->AV.ak (l.map AV.bY)=true
 |[],c,_,_=>rfl
 |x::l,c,h,hr=>by rw [List.all_cons,Bool.and_eq_true] at h;rw [AV.Rs] at hr;obtain ⟨v,r,rfl,h1,h2⟩:=hr;rw [List.map_cons,AV.ak,AV.R.oo h.1 h1,kY h.2 h2];rfl
theorem qH:∀{l:List AV} {c:List Value},AV.Rs lim bs w l c->AV.Rs lim bs w (l.map AV.bY) c
 |[],c,h=>h
 |x::l,c,h=>by rw [AV.Rs] at h;obtain ⟨v,r,rfl,h1,h2⟩:=h;rw [List.map_cons,AV.Rs];exact ⟨v,r,rfl,h1.bY,qH h2⟩
theorem wJ:∀{l:List AV} {c:List Value} {n:Nat},AV.Rs lim bs w l c->AV.Rs lim bs w (l.drop n) (c.drop n)
 |[],c,n,h=>by rw [AV.Rs] at h;subst h;simp only [List.drop_nil];rw [AV.Rs]
 |x::l,c,0,h=>h
 |x::l,c,n+1,h=>by rw [AV.Rs] at h;obtain ⟨v,r,rfl,h1,h2⟩:=h;exact wJ (n:=n) h2
theorem rH:∀{l:List AV} {c:List Value} {n:Nat},AV.Rs lim bs w l c->AV.Rs lim bs w (l.take n) (c.take n)
 |[],c,n,h=>by rw [AV.Rs] at h;subst h;simp only [List.take_nil];rw [AV.Rs]
 |x::l,c,0,h=>by rw [List.take_zero,List.take_zero,AV.Rs]
 |x::l,c,n+1,h=>by rw [AV.Rs] at h;obtain ⟨v,r,rfl,h1,h2⟩:=h;rw [List.take_succ_cons,List.take_succ_cons,AV.Rs];exact ⟨v,_,rfl,h1,rH (n:=n) h2⟩
theorem BM:∀{l:List AV} {b o n:Nat},AV.Rm lim bs w b o l->AV.Rm lim bs w b (o+n) (l.drop n)
 |[],b,o,n,h=>by simp only [List.drop_nil];rw [AV.Rm];trivial
 |x::l,b,o,0,h=>h
 |x::l,b,o,n+1,h=>by rw [AV.Rm] at h;have:=BM (n:=n) h.2;rw [show o+(n+1)=o+1+n by omega];exact this
theorem Hm:∀{l:List AV} {b o n:Nat},AV.Rm lim bs w b o l->AV.Rm lim bs w b o (l.take n)
 |[],b,o,n,h=>by simp only [List.take_nil];exact h
 |x::l,b,o,0,h=>by rw [List.take_zero,AV.Rm];trivial
 |x::l,b,o,n+1,h=>by rw [AV.Rm] at h;rw [List.take_succ_cons,AV.Rm];exact ⟨h.1,Hm h.2⟩
theorem uw:∀{l:List AV} {b o:Nat},AV.Rm lim bs w b o l->∃vs:List Value,vs.length=l.length∧AV.Rs lim bs w l vs∧∀(j:Nat) (v:Value),vs[j]?=some v->w.cell? ⟨b,o+j,none⟩=some v
 |[],b,o,h=>⟨[],rfl,by rw [AV.Rs],fun j v hj=>by simp at hj⟩
 |x::l,b,o,h=>by
  rw [AV.Rm] at h;obtain ⟨⟨v,h1,h2⟩,h3⟩:=h;obtain ⟨vs,h4,h5,h6⟩:=uw h3;refine ⟨v::vs,by simp [h4],by rw [AV.Rs];exact ⟨v,vs,rfl,h2,h5⟩,fun j u hj=>?_⟩;cases j with
  |zero=>simp at hj;subst hj;exact h1
  |succ j=>
   have:=h6 j u (by simpa using hj);rw [show o+(j+1)=o+1+j by omega];exact this
theorem nO:∀{l:List AV} {b o:Nat} {vs:List Value},AV.Rs lim bs w l vs->(∀(j:Nat) (v:Value),vs[j]?=some v->w.cell? ⟨b,o+j,none⟩=some v)->AV.Rm lim bs w b o l
 |[],b,o,vs,h,hc=>by rw [AV.Rm];trivial
 |x::l,b,o,vs,h,hc=>by rw [AV.Rs] at h;obtain ⟨v,r,rfl,h1,h2⟩:=h;rw [AV.Rm];refine ⟨⟨v,hc 0 v rfl,h1⟩,nO h2 (fun j u hj=>?_)⟩;have:=hc (j+1) u (by simpa using hj);rw [show o+1+j=o+(j+1) by omega];exact this
theorem tL {ty:TypeId} {u:TypeDesc} {ad:Addr} {v:Value} (hu:P.underlying ty=some u) (hr:u.isRow=false) (hc:w.cell? ad=some v):(Instr.loadAt ty (.pointer (some ad))).run P w=.ok v w:=by simp [Instr.loadAt,Instr.sureAddr,loadVar,Sem.run_bind,vT hu w,hr,hc]
theorem tK (HT:kN P T) {ty b o:Nat} {d:TD} (ht:T ty=some d) (ha:d.agg=true) {vs:List Value} (hl:vs.length=d.size) (hc:∀(j:Nat) (v:Value),vs[j]?=some v->w.cell? ⟨b,o+j,none⟩=some v):
  (Instr.loadAt ty (.pointer (some ⟨b,o,none⟩))).run P w=.ok (.agg vs.toArray) w:=by
 obtain ⟨u,hu,hr,-⟩:=HT.und ty d ht;obtain ⟨i,z,hi,hs,-⟩:=HT.info ty d ht;have:=run_loadAt_mid (P:=P) w b o ty vs u (fun j v hj=>hc j v hj) hu (by rw [hr,ha]) (by rw [hi,Option.map_some,hs,hl]);simp only [Instr.loadAt,Instr.sureAddr,Sem.run_bind,Sem.run_pure,Result.andThen_ok];exact this
end Ab
namespace Ab
open Bk (Cm)
def tyL:List (Nat×TD):=
 [(3,⟨1,8,false,[],none,[AV.int .i64 0]⟩),
  (4,⟨1,1,false,[],none,[AV.bool false]⟩),
  (5,⟨1,1,false,[],none,[AV.int .u8 0]⟩),
  (9,⟨1,16,false,[],none,[AV.str ByteArray.empty]⟩),
  (21,⟨1,4,false,[],none,[AV.int .i32 0]⟩),
  (28,⟨1,8,false,[],none,[AV.int .i64 0]⟩),
  (22,⟨1,24,false,[],some 3,[AV.nil]⟩),
  (24,⟨1,24,false,[],some 37,[AV.nil]⟩),
  (25,⟨1,24,false,[],some 56,[AV.nil]⟩),
  (32,⟨1,24,false,[],some 9,[AV.nil]⟩),
  (33,⟨1,24,false,[],some 35,[AV.nil]⟩),
  (152,⟨1,24,false,[],some 154,[AV.nil]⟩),
  (109,⟨1,24,false,[],some 25,[AV.nil]⟩),
  (27,⟨2,48,true,[(0,1,false),(1,1,false)],none,[AV.nil,AV.nil]⟩),
  (35,⟨12,176,true,[(0,1,false),(1,1,false),(2,1,false),(3,1,false),(4,1,false),(5,1,false),(6,1,false),(7,1,false),(8,1,false),(9,1,false),(10,1,false),(11,1,false)],none,[AV.int .i64 0,AV.int .i64 0,AV.int .i64 0,AV.int .i64 0,AV.str ByteArray.empty,AV.str ByteArray.empty,AV.str ByteArray.empty,AV.nil,AV.nil,AV.nil,AV.bool false,AV.str ByteArray.empty]⟩),
  (37,⟨16,256,true,[(0,1,false),(1,1,false),(2,1,false),(3,12,true),(15,1,false)],none,[AV.nil,AV.nil,AV.bool false,AV.int .i64 0,AV.int .i64 0,AV.int .i64 0,AV.int .i64 0,AV.str ByteArray.empty,AV.str ByteArray.empty,AV.str ByteArray.empty,AV.nil,AV.nil,AV.nil,AV.bool false,AV.str ByteArray.empty,AV.nil]⟩),
  (56,⟨2,24,true,[(0,1,false),(1,1,false)],none,[AV.str ByteArray.empty,AV.int .i64 0]⟩),
  (80,⟨2,32,true,[(0,1,false),(1,1,false)],none,[AV.nil,AV.bool false]⟩),
  (72,⟨2,32,true,[(0,1,false),(1,1,false)],none,[AV.bool false,AV.nil]⟩),
  (83,⟨5,64,true,[(0,1,false),(1,1,false),(2,1,false),(3,1,false),(4,1,false)],none,[AV.nil,AV.int .i64 0,AV.str ByteArray.empty,AV.int .i64 0,AV.int .i64 0]⟩),
  (102,⟨4,56,true,[(0,1,false),(1,1,false),(2,1,false),(3,1,false)],none,[AV.str ByteArray.empty,AV.int .i64 0,AV.nil,AV.int .i64 0]⟩),
  (106,⟨7,40,true,[(0,1,false),(1,1,false),(2,1,false),(3,1,false),(4,1,false),(5,1,false),(6,1,false)],none,[AV.int .i64 0,AV.int .i64 0,AV.bool false,AV.bool false,AV.bool false,AV.int .i64 0,AV.bool false]⟩),
  (154,⟨3,32,true,[(0,1,false),(1,1,false),(2,1,false)],none,[AV.str ByteArray.empty,AV.int .i64 0,AV.bool false]⟩),
  (161,⟨5,64,true,[(0,1,false),(1,1,false),(2,1,false),(3,1,false),(4,1,false)],none,[AV.str ByteArray.empty,AV.int .i64 0,AV.int .i64 0,AV.nil,AV.int .i64 0]⟩),
  (170,⟨3,40,true,[(0,1,false),(1,1,false),(2,1,false)],none,[AV.nil,AV.bool false,AV.int .i64 0]⟩),
  (180,⟨16,192,true,[(0,12,true),(12,1,false),(13,1,false),(14,1,false),(15,1,false)],none,[AV.int .i64 0,AV.int .i64 0,AV.int .i64 0,AV.int .i64 0,AV.str ByteArray.empty,AV.str ByteArray.empty,AV.str ByteArray.empty,AV.nil,AV.nil,AV.nil,AV.bool false,AV.str ByteArray.empty,AV.bool false,AV.bool false,AV.bool false,AV.int .i64 0]⟩)]
def gW:jL:=assoc tyL
def fQ:List Cm->List AV
 |[]=>[]
 |c::l=> .str c.t::.int .i64 c.b::fQ l
def pI (f:Int->AV):List AV->Option AV
 |[.int .u8 c]=>some (f c)
 |_=>none
def Hy (f:ByteArray->Int->Option AV):List AV->Option AV
 |[.str s,.int .i64 a]=>if s.size<=900000 then f s a else none
 |_=>none
def O6 (f:ByteArray->Int->Int->Option AV):List AV->Option AV
 |[.str s,.int .i64 a,.int .i64 b]=>if s.size<=900000 then f s a b else none
 |_=>none
def inT (s:ByteArray) (a:Int) (f:Nat->AV):Option AV:=if 0<=a∧a<=s.size then some (f a.toNat) else none
def Ke:Option (List Cm×Bool×Nat)->AV
 |some (l,same,p)=> .bX [.sl l.length (fQ l),.bool same,.int .i64 p,.int .i64 0]
 |none=> .bX [.nil,.bool false,.nP .i64,.nz .i64]
def Nj:List (Nat×(List AV->Option AV)):=
 [(29,(Hy fun s a=>inT s a fun q=>Ke (Bk.qE s q 0 false))),
  (30,(Hy fun s a=>some (.int .i64 (Bk.eD s (Bk.aY s a))))),
  (31,(Hy fun s a=>some (.int .i64 ((Bk.aY s a:Nat)-(Bk.bG s (Bk.aY s a):Nat))))),
  (32,(Hy fun s a=>some (.bX [.int .i64 (Bk.bG s (Bk.aY s a):Nat),.int .i64 (Bk.l7 s (Bk.aY s a):Nat)]))),
  (33,(O6 fun s a b=>if 0<=a∧0<=b∧b<=s.size then some (.int .i64 (Bk.gD s a.toNat b.toNat:Nat)) else none)),
  (34,fun xs=>match xs with
  |[.str s]=>if s.size<=900000 then some (.str (Bk.Eo s)) else none
  |_=>none),
  (61,(Hy fun s a=>some (.bool (Bk.kD s a)))),
  (63,(pI fun c=> .bool (Bk.cZ c))),
  (88,(Hy fun s a=>some (.int .i64 (Bk.LJ s (Bk.aY s a):Nat)))),
  (90,(Hy fun s a=>some (.int .i64 (Bk.lQ s (Bk.aY s a):Nat)))),
  (93,(pI fun c=> .bool (Bk.sI c))),
  (146,fun xs=>match xs with
  |[.int .i64 n]=>if n<=100000000 then some (.str (Bk.yI 10 n.toNat)) else none
  |_=>none),
  (159,(O6 fun s a n=>inT s a fun q=>Ke (Bk.qE s q n true)))]
def aeH:Nat->Option (List AV->Option AV):=assoc Nj
end Ab
end Go.Proofs.YtlmjabnkjmfcmaaGreat
