/- Own texts, joined and shortened by a program; no condition. -/
import Derived.Test.YtlmjabnkjmfcmaaGreatK24
import Derived.Deep.AppendLies
import Derived.BigQuiet
import Derived.Shelf.Strings.Repeat
import Derived.Shelf.Strings.LastIndex
import Derived.Shelf.Strings.Search1
import Derived.Lib.Builder
import Derived.Lib.IndexLaws
import Derived.Test.YtlmjabnkjmfcmaaGreatProg
import Derived.WalkKit
import Derived.WalkSpells
import Derived.WalkLawsBesides
import Derived.PlainAid
import Derived.Handy
import Derived.Outline
import Derived.Lib.Hide
import Derived.Laws.RangeAny
import Derived.Lib.AppendZerosOnto
import Derived.Deep.RegionLaw
import Derived.Laws.AppendOwnNone
import Derived.Laws.Cover3
import Derived.LoopN
import Derived.Laws.Sem
import Derived.RegionTactic
import Derived.Orders
import Derived.Laws.CopyOwn
import Derived.Deep.MidRow
import Derived.Laws.Tables
import Derived.Laws.Entries
import Derived.Great.BuildSlice
import Derived.Laws.StructEq
import Derived.Below
import Derived.Deep.DeepCutAuto
import Derived.Laws.BytesArg
import Derived.Laws.BitsLemmas
import Derived.Deep.QuietTactic
namespace Go.Proofs.YtlmjabnkjmfcmaaGreat
open Go Go.RowKit Go.PlainAid
set_option linter.unusedVariables false
set_option linter.unusedSimpArgs false
set_option maxHeartbeats 20000000
set_option linter.defProp false
namespace V
open Ab
open Bk (Cm)
theorem NK (x:Nd):x.ld x.lead=x:=by cases x;rfl
theorem Cf (x:Nd) (l:List Cm):aj (x.ld l)=((aj x).1.ld l,(aj x).2):=by cases x;rw [Nd.ld,aj,aj];rfl
mutual
theorem EJ:∀x:Nd,aj (aj x).1=((aj x).1,[])
 |.mk k y p b an tg tx kids lead ae h tr=>by rw [aj];simp only [];rw [aj,Cg kids];rfl
theorem Cg:∀l:List Nd,aP (aP l).1=((aP l).1,[])
 |[]=>rfl
 |x::l=>by rw [aP];simp only [];rw [aP,Cf,EJ x,Cg l,wB,Y0];rfl
end
mutual
def Ef (blk:Bool):Nd->Prop
 |.mk k y _ _ _ _ _ kids _ ae _ _=>(k=3∨k=4)->(kids=[]->ae=[])∧(kids≠[]->¬(blk=true∧y=7))∧(y=6->∀z,kids.head?=some z->z.lead=[])∧(k=3->Qb blk kids)∧(k≠3->Ng blk kids)
def Qb (blk:Bool):List Nd->Prop
 |[]=>True
 |x::l=>Ef blk x∧Qb blk l
def Ng (blk:Bool):List Nd->Prop
 |[]=>True
 |[_]=>True
 |x::v::l=>aj x=(x,[])∧Ef blk v∧(oU v=true->v.lead=[])∧Ng blk l
end
theorem aal {blk:Bool} {x:Nd} {l:List Cm}:Ef blk (x.ld l)↔Ef blk x:=by cases x;rw [Nd.ld,Ef,Ef]
theorem Wn {x:Nd} (h:x.lead=[]):x.ld []=x:=by rw [←h];exact NK x
theorem Pf {b:Bool} {l:List Nd} (h:b=true->∀z,l.head?=some z->z.lead=[]):bC b l=(l,[]):=by
 unfold bC;split
 ·rename_i x r;have:=h rfl x rfl;rw [this,Wn this]
 ·rfl
theorem TU {blk:Bool} {k y p b:Int} {an tg tx:ByteArray} {kids:List Nd} {lead ae:List Cm} {h:Bool} {tr:ByteArray} (hn:¬(blk=true∧y=7)):mK blk k y p b an tg tx kids lead ae h tr []=(.mk k y p b an tg tx kids lead ae h tr,[]):=by
 unfold mK;rw [if_neg hn];split
 ·rfl
 ·rfl
mutual
theorem K7 (blk:Bool):∀x:Nd,Ef blk x->aL blk [] [] x=(x,[])
 |.mk k y p b an tg tx [] lead ae h tr,hs=>by
  rw [aL];split
  ·rename_i hk;rw [Ef] at hs;rw [(hs hk).1 rfl];simp
  ·rfl
 |.mk k y p b an tg tx (x::l) lead ae h tr,hs=>by
  rw [aL];split
  ·rename_i hk;rw [Ef] at hs;obtain ⟨-,h2,h3,h4,h5⟩:=hs hk;have h2:=h2 (by simp);have hb:(decide (y=6)||(blk && decide (y=7)))=true->y=6:=by
    intro e;rw [Bool.or_eq_true,Bool.and_eq_true,decide_eq_true_eq,decide_eq_true_eq] at e;rcases e with e|e
    ·exact e
    ·exact absurd e h2
   have hr:(if k=3 then bP blk [] (x::l) else bO blk [] (x::l))=(x::l,[]):=by
    split
    ·rename_i h6;exact Rw blk _ (h4 h6)
    ·rename_i h6;exact SC blk _ (h5 h6)
   simp only [];rw [hr];rw [Pf (fun e z hz=>h3 (hb e) z hz)];rw [TU h2];simp
  ·rfl
theorem Rw (blk:Bool):∀l:List Nd,Qb blk l->bP blk [] l=(l,[])
 |[],_=>by rw [bP]
 |x::l,hs=>by rw [Qb] at hs;rw [bP,K7 blk x hs.1];simp only [];rw [Rw blk l hs.2]
theorem SC (blk:Bool):∀l:List Nd,Ng blk l->bO blk [] l=(l,[])
 |[],_=>by rw [bO]
 |[x],_=>by rw [bO]
 |x::v::l,hs=>by rw [Ng] at hs;obtain ⟨h1,h2,h3,h4⟩:=hs;rw [bO,h1];simp only [];rw [K7 blk v h2];simp only [];rw [Jz h3];simp only [];rw [SC blk l h4,List.nil_append,NK]
end
theorem RA {blk:Bool} {x:Nd} (h:oU x=true):Ef blk x.bare:=by cases x;have h1:=(of_decide_eq_true h).1;rw [Nd.bare,Ef];intro hk;have h2:(1:Int)=3∨(1:Int)=4:=hk.imp (fun e=>h1.symm.trans e) (fun e=>h1.symm.trans e);exact absurd h2 dE
theorem aaW {blk:Bool} {x:Nd} {c:List Cm} (h:Ef blk x):Ef blk (gY x c).1∧(oU (gY x c).1=true->(gY x c).1.lead=[]):=by
 unfold gY;split
 ·rename_i m l h1 h2;exact ⟨RA h1,fun _=>EC h1⟩
 ·rename_i hn;refine ⟨h,fun hv=>?_⟩;cases hl:x.lead with
  |nil=>rfl
  |cons m l=>exact (hn m l hv hl).elim
theorem Tp {blk b:Bool} {l:List Nd} (h:Qb blk l):Qb blk (bC b l).1:=by
 unfold bC;split
 ·rename_i x r;rw [Qb] at h⊢;exact ⟨aal.2 h.1,h.2⟩
 ·exact h
theorem Tq {blk b:Bool} {l:List Nd} (h:Ng blk l):Ng blk (bC b l).1:=by
 unfold bC;split
 ·rename_i x r;cases r with
  |nil=>rw [Ng];trivial
  |cons v l=>
   rw [Ng] at h⊢;refine ⟨?_,h.2⟩;rw [Cf,h.1]
 ·exact h
theorem Pg:∀{l:List Nd} {z:Nd},(bC true l).1.head?=some z->z.lead=[]
 |[],z,h=>by simp [bC] at h
 |x::r,z,h=>by have h:some (x.ld [])=some z:=h;cases h;exact wB _ _
theorem aaf {blk:Bool} {k y p b:Int} {an tg tx:ByteArray} {kids:List Nd} {lead ae:List Cm} {h:Bool} {tr:ByteArray} {c:List Cm} (hne:kids≠[]) (hh:(decide (y=6)||(blk && decide (y=7)))=true->∀z,kids.head?=some z->z.lead=[]) (h3:k=3->Qb blk kids) (h4:k≠3->Ng blk kids):Ef blk (mK blk k y p b an tg tx kids lead ae h tr c).1:=by
 unfold mK;split
 ·rename_i hc;rw [Ef];refine fun _=>⟨fun e=>absurd e hne,fun _ e=>absurd e.2 dE,fun _=>hh (by rw [hc.1,hc.2];decide),h3,h4⟩
 ·rename_i hc;split
  ·rename_i h7;rw [Ef];exact fun _=>⟨fun e=>absurd e hne,fun _=>hc,fun e=>by omega,h3,h4⟩
  ·rename_i h7;rw [Ef];exact fun _=>⟨fun e=>absurd e hne,fun _=>hc,fun e=>hh (by rw [e];simp),h3,h4⟩
mutual
theorem K5 (blk:Bool):∀(pre c:List Cm) (x:Nd),Ef blk (aL blk pre c x).1
 |pre,c,.mk k y p b an tg tx [] lead ae h tr=>by
  rw [aL];split
  ·rw [Ef];exact fun _=>⟨fun _=>rfl,fun e=>absurd rfl e,fun _ z hz=>by simp at hz,fun _=>by rw [Qb];trivial,fun _=>by rw [Ng];trivial⟩
  ·rename_i hk;rw [Ef];exact fun e=>absurd e hk
 |pre,c,.mk k y p b an tg tx (x::l) lead ae h tr=>by
  rw [aL];split
  ·rename_i hk;simp only [];refine aaf ?_ ?_ (fun h3=>?_) (fun h3=>?_)
   ·intro e;have:=eY (decide (y=6)||(blk && decide (y=7))) (if k=3 then bP blk c (x::l) else bO blk c (x::l)).1;rw [e] at this;split at this
    ·rw [jS] at this;simp at this
    ·rw [iQ] at this;simp at this
   ·intro e z hz;rw [e] at hz;exact Pg hz
   ·rw [if_pos h3];exact Tp (QS blk c (x::l))
   ·rw [if_neg h3];exact Tq (QT blk c (x::l))
  ·rename_i hk;rw [Ef];exact fun e=>absurd e hk
theorem QS (blk:Bool):∀(c:List Cm) (l:List Nd),Qb blk (bP blk c l).1
 |c,[]=>by rw [bP];rw [Qb];trivial
 |c,x::l=>by rw [bP];simp only [];rw [Qb];exact ⟨K5 blk c [] x,QS blk _ l⟩
theorem QT (blk:Bool):∀(c:List Cm) (l:List Nd),Ng blk (bO blk c l).1
 |c,[]=>by rw [bO];rw [Ng];trivial
 |c,[x]=>by rw [bO];rw [Ng];trivial
 |c,x::v::l=>by rw [bO];simp only [];rw [Ng];have h:=aaW (c:=(aL blk (aj x).2 [] v).2) (K5 blk (aj x).2 [] v);refine ⟨?_,h.1,h.2,QT blk _ l⟩;rw [Cf,EJ]
end
theorem VB (blk:Bool) (pre c:List Cm) (x:Nd):aL blk [] [] (aL blk pre c x).1=((aL blk pre c x).1,[]):=K7 blk _ (K5 blk pre c x)
def Mi (x:Nd):Bool:=yX x && Bh x
def Ky (l:List Nd):Bool:=uK l && zD l
def WR (k y:Int) (n:Nat) (h:Bool) (tr:ByteArray):Bool:=((!decide (k=4)||decide (n % 2=0)) && (!(decide (k=3)||decide (k=4))||(decide (y=6)||decide (y=7)))) && (h||decide (tr=ByteArray.empty))
theorem mI {k y p b:Int} {an tg tx:ByteArray} {kids:List Nd} {lead ae:List Cm} {h:Bool} {tr:ByteArray}:Mi (.mk k y p b an tg tx kids lead ae h tr)=(WR k y kids.length h tr && Ky kids):=by unfold Mi Ky WR;rw [yX,Bh];cases (!decide (k=4)||decide (kids.length % 2=0))<;>cases (!(decide (k=3)||decide (k=4))||(decide (y=6)||decide (y=7)))<;>cases (h||decide (tr=ByteArray.empty))<;>cases uK kids<;>cases zD kids<;>rfl
theorem mJ {x:Nd} {l:List Nd}:Ky (x::l)=(Mi x && Ky l):=by unfold Mi Ky;rw [uK,zD];cases yX x<;>cases Bh x<;>cases uK l<;>cases zD l<;>rfl
theorem GM:Ky []=true:=by unfold Ky;rw [uK,zD];rfl
theorem LV {k y:Int} {n:Nat} {h:Bool} {tr:ByteArray} (e:WR k y n h tr=true):WR k y n false ByteArray.empty=true:=by unfold WR at e⊢;rw [Bool.and_eq_true] at e;rw [e.1];rfl
theorem WO {k y:Int} {n:Nat} {h:Bool} {tr:ByteArray} (e:WR k y n h tr=true):WR k 6 n h tr=true:=by unfold WR at e⊢;simp only [Bool.and_eq_true] at e;rw [e.1.1,e.2];simp
theorem Mh {x:Nd} {l:List Cm}:Mi (x.ld l)=Mi x:=by cases x;rw [Nd.ld,mI,mI]
mutual
theorem JV:∀x:Nd,Mi x=true->Mi (aj x).1=true
 |.mk k y p b an tg tx kids lead ae h tr,e=>by rw [mI,Bool.and_eq_true] at e;rw [aj];simp only [];rw [mI,xq,Fw kids e.2,LV e.1];rfl
theorem Fw:∀l:List Nd,Ky l=true->Ky (aP l).1=true
 |[],_=>GM
 |x::l,e=>by rw [mJ,Bool.and_eq_true] at e;rw [aP];simp only [];rw [mJ,Mh,JV x e.1,Fw l e.2];rfl
end
theorem abK {x:Nd} {c:List Cm} (e:Mi x=true):Mi (gY x c).1=true:=by
 unfold gY;split
 ·cases x;rw [mI,Bool.and_eq_true] at e;rw [Nd.bare,mI,e.2,LV e.1];rfl
 ·exact e
theorem Xl {b:Bool} {l:List Nd} (e:Ky l=true):Ky (bC b l).1=true:=by
 unfold bC;split
 ·rw [mJ] at e⊢;rw [Mh];exact e
 ·exact e
theorem abL {blk:Bool} {k y p b:Int} {an tg tx:ByteArray} {kids:List Nd} {lead ae:List Cm} {h:Bool} {tr:ByteArray} {c:List Cm} (e:Ky kids=true) (e2:WR k y kids.length h tr=true):Mi (mK blk k y p b an tg tx kids lead ae h tr c).1=true:=by
 unfold mK;split
 ·rw [mI,e,WO (LV e2)];rfl
 ·split
  ·rw [mI,e,e2];rfl
  ·rw [mI,e,e2];rfl
mutual
theorem Mg (blk:Bool):∀(pre c:List Cm) (x:Nd),Mi x=true->Mi (aL blk pre c x).1=true
 |pre,c,.mk k y p b an tg tx [] lead ae h tr,e=>by
  rw [aL];rw [mI] at e;split
  ·rw [mI];exact e
  ·rw [mI];exact e
 |pre,c,.mk k y p b an tg tx (x::l) lead ae h tr,e=>by
  rw [aL];rw [mI,Bool.and_eq_true] at e;split
  ·simp only [];refine abL (Xl ?_) ?_
   ·split
    ·exact TS blk c _ e.2
    ·exact TT blk c _ e.2
   ·rw [eY];split
    ·rw [jS];exact e.1
    ·rw [iQ];exact e.1
  ·rw [mI,e.1,e.2];rfl
theorem TS (blk:Bool):∀(c:List Cm) (l:List Nd),Ky l=true->Ky (bP blk c l).1=true
 |c,[],_=>by rw [bP];exact GM
 |c,x::l,e=>by rw [mJ,Bool.and_eq_true] at e;rw [bP];simp only [];rw [mJ,Mg blk c [] x e.1,TS blk _ l e.2];rfl
theorem TT (blk:Bool):∀(c:List Cm) (l:List Nd),Ky l=true->Ky (bO blk c l).1=true
 |c,[],_=>by rw [bO];exact GM
 |c,[x],e=>by rw [bO];exact e
 |c,x::v::l,e=>by rw [mJ,mJ,Bool.and_eq_true,Bool.and_eq_true] at e;rw [bO];simp only [];rw [mJ,mJ,Mh,JV x e.1,abK (Mg blk _ [] v e.2.1),TT blk _ l e.2.2];rfl
end
theorem aak (blk:Bool) (x:Nd) (h1:yX x=true) (h2:Bh x=true):yX (aL blk [] [] x).1=true∧Bh (aL blk [] [] x).1=true:=by have:=Mg blk [] [] x (by unfold Mi;rw [h1,h2];rfl);unfold Mi at this;rw [Bool.and_eq_true] at this;exact this
end V
section
set_option maxRecDepth 100000
namespace V
open Ab
open Bk (Cm)
theorem yt (blk:Bool) (d:Dc):nU blk (nU blk d)=nU blk d:=by obtain ⟨hd,ds,mk,rt,ft⟩:=d;unfold nU;simp only [VB,List.nil_append]
def fn4:=fN 4 Tryz.f4 57 [.tmp 8]
theorem acT.xt {p:Prop} (g:p:=by ((first|((with_reducible intro h);exfalso;simp at h;first|done|fail)|exact IL|exact Yr|((with_reducible refine (?_:_=rR _));rfl)|((with_reducible refine (?_:_=rR _));rw [yt];rfl)|exact mf|exact uT|exact Na|(first|(show (nU blk (nU blk d0)).ae.length<=_;rw [yt];omega)|exact q6|exact q7|exact q11|exact q12|exact Nat.le_trans q4 dE|exact Nat.le_trans q5 dE|(show fD (nU blk (nU blk d0)).root<=_;rw [yt];omega)|(show iI (nU blk (nU blk d0)).root<=_;rw [yt];omega))|exact Yq|((with_reducible refine (?_:WP _ _ _ (.loop _) _ _));(apply WP.loop (LU2 t (.int .i64 aa) (.int .u8 bb) blk i _ _));(case h0=>first|exact ⟨(by intro d hd;simp at hd),[],[],rfl,rfl,rfl⟩|exact ⟨Di aZ,[],_,(List.nil_append _).symm,rfl,rfl⟩);(case' h=>(rintro j τ ⟨hds,a,r,hk,rfl,rfl⟩;have e1:=congrArg List.length hk;rw [List.length_append] at e1;rcases r with _|⟨d0,post⟩;all_goals (first|(rw [List.length_cons] at*;obtain ⟨q1,q2,q3,q4,q5⟩:=GI hds hk;obtain ⟨q6,q7⟩:=NU _ q1;obtain ⟨q11,q12⟩:=aak blk _ q6 q7;have q8:=IY blk d0;have q9:=IX blk d0)|(rw [List.length_nil] at e1)))))|exact Q0|exact IK|exact IJ|fail);(repeat' (first|exact bN|fail));first|done|fail)):p:=g
theorem ok4 (LX:aC.OK Tryz.prog 13 c13) (h16:aC.OK Tryz.prog 16 c16):aC.OK Tryz.prog 4 c4:=by
 intro args bx K0 h;unfold c4 at h;split at h
 ·rename_i n l aa bb blk;obtain ⟨⟨ks,⟨rfl,rfl⟩⟩,-⟩:=h;refine fn4.okW (base:=0) rfl (by simp [gZ,wv,mF]) uI ?_;have B:=V.base (af.cons LX (af.cons h16 (af.cons Sj (af.cons Sb (af.cons afZ (af.cons R6 af.nil))))))
  conv=>whnf
  let zA:=(aH 4)
  open acT in exact bN
 ·exact h.elim
end V
end
end Go.Proofs.YtlmjabnkjmfcmaaGreat
