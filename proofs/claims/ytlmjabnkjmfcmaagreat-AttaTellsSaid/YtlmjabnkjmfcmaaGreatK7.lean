/- Own texts, joined and shortened by a program; no condition. -/
import Derived.Test.YtlmjabnkjmfcmaaGreatK6
import Derived.Laws.BytesArg
import Derived.Laws.BitsLemmas
import Derived.Deep.QuietTactic
import Derived.Deep.DeepCutAuto
namespace Go.Proofs.YtlmjabnkjmfcmaaGreat
open Go Go.RowKit Go.PlainAid
set_option linter.unusedVariables false
set_option linter.unusedSimpArgs false
set_option maxHeartbeats 20000000
set_option linter.defProp false
section
set_option maxRecDepth 100000
namespace V
open Ab
open Bk (Cm)
def rB (s:ByteArray) (p n:Int):List AV:=[.str s,.int .i64 p,.int .i64 n,.nil,.int .i64 0]
def rF (s:ByteArray) (n:Int):List AV:=[.str s,.nP .i64,.int .i64 n,.nil,.nz .i64]
def Hq (a:AV):Prop:=(∃k,a=.int .i64 k)∨a=.nP .i64
def ZJ (a:AV):Prop:=(∃k,k≠0∧a=.int .i64 k)∨a=.nz .i64
theorem Hq.int (k:Int):Hq (.int .i64 k):=.inl ⟨k,rfl⟩
theorem Hq.nP:Hq (.nP .i64):=.inr rfl
theorem ZJ.int {k:Int} (h:k≠0):ZJ (.int .i64 k):=.inl ⟨k,h,rfl⟩
theorem ZJ.nz:ZJ (.nz .i64):=.inr rfl
theorem vK.nil:vK [] []:=rfl
theorem vK.cons {a b:List AV} {r q:List (List AV)} (h:mQ a b) (k:vK r q):vK (a::r) (b::q):=⟨b,q,rfl,h,k⟩
def dC (n:Nat) (l:List AV) (L:List Cm):Prop:=n=L.length∧l=fQ L
theorem dC.mk (L:List Cm):dC L.length (fQ L) L:=⟨rfl,rfl⟩
theorem dC.nil:dC 0 [] []:=⟨rfl,rfl⟩
theorem dC.app {n m:Nat} {l k:List AV} {L M:List Cm} (h:dC n l L) (h':dC m k M):dC (n+m) (l++k) (L++M):=⟨by rw [List.length_append,h.1,h'.1],by rw [vE,h.2,h'.2]⟩
theorem dC.inj {n:Nat} {l:List AV} {L M:List Cm} (h:dC n l L) (k:dC n l M):M=L:=uq (by rw [←h.2,←k.2])
theorem BA {n:Nat} {l:List AV} {L:List Cm} {Q:List Cm->Prop} (hL:dC n l L) (h:∃M,dC n l M∧Q M):Q L:=by obtain ⟨M,h1,h2⟩:=h;rw [dC.inj hL h1] at h2;exact h2
theorem Wk.isc {n:Nat} {l:List AV} {L:List Cm} (h:dC n l L):Wk (.sl n l) (cs L):=by rw [h.1,h.2];exact .refl _
theorem Wk.sK:Wk .nil (cs []):=.nil
theorem Wk.akv:Wk .nil (.sl ([]:List Nd).length (au [])):=.nil
theorem Wk.agi:Wk (.sl 0 []) (.sl ([]:List Nd).length (au [])):=.refl _
theorem Wk.ieq {k:IntKind} {a b:Int} (h:a=b):Wk (.int k a) (.int k b):=by rw [h];exact .refl _
theorem Wk.bt {b:Bool} (h:b=true):Wk (.bool b) (.bool true):=by rw [h];exact Wk.refl _
theorem Wk.bf {b:Bool} (h:b=false):Wk (.bool b) (.bool false):=by rw [h];exact Wk.refl _
def XJ:aC:=fun args bx K=>match args,bx with
 |[.ptr 0 0,.int .u8 c],[[.str s,.int .i64 p,.int .i64 n,.nil,.int .i64 e]]=>(0<=p∧e=0)∧(p<s.size∧bt s p.toNat=c->K (.bool true) [rB s p n])∧(¬(p<s.size∧bt s p.toNat=c)->K (.bool false) [rB s p n])
 |_,_=>False
def ahz:=fN 150 Tryz.f150 28 [.tmp 4]
theorem Jy:aC.OK Tryz.prog 150 XJ:=by
 intro args bx K0 h;unfold XJ at h;split at h
 ·rename_i c s p n e;obtain ⟨⟨h0,rfl⟩,-⟩:=h;refine ahz.okW (base:=1) rfl wV wV ?_;have B:=V.base af.nil
  conv=>whnf
  repeat' (first
  |with_reducible refine WP.seq ?_
  |(with_reducible first|refine Go.mk ?_|refine WP.oC B (aH 150) ?_|refine WP.draw B (aH 150) ?_|refine WP.cond ?_|refine WP.exit ?_|refine WP.skip ?_|refine WP.ret ?_);conv=>whnf
  |with_reducible refine WP.block ?_
  |with_reducible assumption
  |with_reducible refine And.intro ?_ ?_
  |exact cL
  |(with_reducible intro h);first|(cases h;done)|(try simp only [lG,reduceCtorEq] at h);first|done|(exfalso;omega)|replace h:=h trivial aZ|replace h:=h aZ|skip
  |fail)
  ·refine ag.bool (fun hb=>?_) (fun hb=>?_)
   ·exact ag.mk rfl rfl fun K hK=>hK.2.1 ⟨aZ,of_decide_eq_true hb⟩
   ·exact ag.mk rfl rfl fun K hK=>hK.2.2 fun hh=>of_decide_eq_false hb hh.2
  ·exact ag.mk rfl rfl fun K hK=>hK.2.2 oM
 ·exact h.elim
def aiA:aC:=fun args bx K=>match args,bx with
 |[.ptr 0 0],[[.str s,.int .i64 p,.int .i64 n,.nil,.int .i64 e]]=>(s.size<=900000∧0<=p∧e=0)∧(p<s.size->K (.bool true) [rB s p n])∧K (.bool false) [rB s p n]
 |_,_=>False
def ahr:=fN 160 Tryz.f160 17 [.tmp 2]
theorem YP:aC.OK Tryz.prog 160 aiA:=by
 intro args bx K0 h;unfold aiA at h;split at h
 ·rename_i s p n e;obtain ⟨⟨h00,h0,rfl⟩,-⟩:=h;refine ahr.okW (base:=1) rfl wV wV ?_;have B:=V.base (af.cons Jy (af.cons Jw af.nil))
  conv=>whnf
  repeat' (first
  |with_reducible refine WP.seq ?_
  |(with_reducible first|refine Go.mk ?_|refine WP.oC B (aH 160) ?_|refine WP.draw B (aH 160) ?_|refine WP.cond ?_|refine WP.exit ?_|refine WP.skip ?_|refine WP.ret ?_);conv=>whnf
  |with_reducible refine WP.block ?_
  |with_reducible assumption
  |with_reducible refine And.intro ?_ ?_
  |exact cL
  |(with_reducible intro h);first|(cases h;done)|(try simp only [lG,reduceCtorEq] at h);first|done|(exfalso;omega)|replace h:=h trivial aZ|replace h:=h aZ|skip
  |fail)
  all_goals first
   |exact ag.mk rfl rfl fun K hK=>hK.2.1 oM
   |exact ag.mk rfl rfl fun K hK=>hK.2.2
 ·exact h.elim
def yn (s:ByteArray) (p:Int) (near:Bool):Bool:=decide (p<s.size) && decide (bt s p.toNat=58) && (near||Bk.kD s (p+1)||Bk.sI (bt s (p+1).toNat))
def aiy:aC:=fun args bx K=>match args,bx with
 |[.ptr 0 0,.bool near],[[.str s,.int .i64 p,.int .i64 n,.nil,.int .i64 e]]=>(s.size<=900000∧0<=p∧e=0)∧(yn s p near=true->(p<s.size∧bt s p.toNat=58)->Bk.cZ (bt s p.toNat)=false->K (.bool true) [rB s p n])∧(yn s p near=false->K (.bool false) [rB s p n])
 |_,_=>False
theorem MX {s:ByteArray} {p:Int} (h:p<s.size∧bt s p.toNat=58):Bk.cZ (bt s p.toNat)=false:=by rw [h.2];rfl
def ahn:=fN 164 Tryz.f164 35 [.tmp 4]
theorem Nr:aC.OK Tryz.prog 164 aiy:=by
 intro args bx K0 h;unfold aiy at h;split at h
 ·rename_i near s p n e;obtain ⟨⟨h00,h0,rfl⟩,-⟩:=h;refine ahn.okW (base:=1) rfl wV wV ?_;have B:=V.base (af.cons Jy (af.cons Jw (af.cons Ls af.nil)))
  conv=>whnf
  repeat' (first
  |with_reducible refine WP.seq ?_
  |(with_reducible first|refine Go.mk ?_|refine WP.oC B (aH 164) ?_|refine WP.draw B (aH 164) ?_|refine WP.cond ?_|refine WP.exit ?_|refine WP.skip ?_|refine WP.ret ?_);conv=>whnf
  |with_reducible refine WP.block ?_
  |with_reducible assumption
  |with_reducible refine And.intro ?_ ?_
  |exact cL
  |(with_reducible intro h);first|(cases h;done)|(try simp only [lG,reduceCtorEq] at h);first|done|(exfalso;omega)|replace h:=h trivial aZ|replace h:=h aZ|skip
  |fail)
  all_goals first
   |exact ag.mk rfl rfl fun K hK=>hK.2.1 (by simp [yn, *]) aZ (MX aZ)
   |exact ag.mk rfl rfl fun K hK=>hK.2.2 (by cases hh:yn s p near<;>simp_all [yn])
   |(refine ag.bool (fun hb=>?_) (fun hb=>?_)
     ·exact ag.mk rfl rfl fun K hK=>hK.2.1 (by simp [yn, *]) aZ (MX aZ)
     ·exact ag.mk rfl rfl fun K hK=>hK.2.2 (by simp [yn, *]))
 ·exact h.elim
def XG:aC:=fun args bx K=>match args,bx with
 |[.ptr 0 0],[[.str s,.int .i64 p,.int .i64 n,.nil,.int .i64 e]]=>(0<=p∧e=0)∧(p<s.size->K (.bool true) [rB s p n])∧K (.bool false) [rB s p n]
 |_,_=>False
def ahw:=fN 153 Tryz.f153 13 [.tmp 2]
theorem R5:aC.OK Tryz.prog 153 XG:=by
 intro args bx K0 h;unfold XG at h;split at h
 ·rename_i s p n e;obtain ⟨⟨h0,rfl⟩,-⟩:=h;refine ahw.okW (base:=1) rfl wV wV ?_;have B:=V.base (af.cons Jy af.nil)
  conv=>whnf
  repeat' (first
  |with_reducible refine WP.seq ?_
  |(with_reducible first|refine Go.mk ?_|refine WP.oC B (aH 153) ?_|refine WP.draw B (aH 153) ?_|refine WP.cond ?_|refine WP.exit ?_|refine WP.skip ?_|refine WP.ret ?_);conv=>whnf
  |with_reducible refine WP.block ?_
  |with_reducible assumption
  |with_reducible refine And.intro ?_ ?_
  |exact cL
  |(with_reducible intro h);first|(cases h;done)|(try simp only [lG,reduceCtorEq] at h);first|done|(exfalso;omega)|replace h:=h trivial aZ|replace h:=h aZ|skip
  |fail)
  all_goals first
   |exact ag.mk rfl rfl fun K hK=>hK.2.1 oM
   |exact ag.mk rfl rfl fun K hK=>hK.2.2
 ·exact h.elim
def XF:aC:=fun args bx K=>match args,bx with
 |[.ptr 0 0,.int .i64 a],[[.str s,.int .i64 p,.int .i64 n,.nil,.int .i64 e]]=>(s.size<=900000∧e=0)∧∀f:Int,(0<=f∧f<=s.size)->K (.int .i64 f) [rB s p n]
 |_,_=>False
def aht:=fN 156 Tryz.f156 17 [.tmp 4]
theorem R4:aC.OK Tryz.prog 156 XF:=by
 intro args bx K0 h;unfold XF at h;split at h
 ·rename_i a s p n e;obtain ⟨⟨h0,rfl⟩,-⟩:=h;refine aht.okW (base:=1) rfl wV wV ?_;have B:=V.base (af.cons Gp af.nil)
  conv=>whnf
  repeat' (first
  |with_reducible refine WP.seq ?_
  |(with_reducible first|refine Go.mk ?_|refine WP.oC B (aH 156) ?_|refine WP.draw B (aH 156) ?_|refine WP.cond ?_|refine WP.exit ?_|refine WP.skip ?_|refine WP.ret ?_);conv=>whnf
  |with_reducible refine WP.block ?_
  |with_reducible assumption
  |with_reducible refine And.intro ?_ ?_
  |exact cL
  |(with_reducible intro h);first|(cases h;done)|(try simp only [lG,reduceCtorEq] at h);first|done|(exfalso;omega)|replace h:=h trivial aZ|replace h:=h aZ|skip
  |fail)
  all_goals exact ag.mk rfl rfl fun K hK=>hK.2 _ oM
 ·exact h.elim
def XI:aC:=fun args bx K=>match args,bx with
 |[.ptr 0 0,a,e],[[.str s,.int .i64 p,.int .i64 n,.nil,.int .i64 c]]=>(Hq a∧ZJ e∧c=0)∧K (.bool false) [rF s n]
 |_,_=>False
def ahy:=fN 151 Tryz.f151 20 [.tmp 6]
theorem CO:aC.OK Tryz.prog 151 XI:=by
 intro args bx K0 h;unfold XI at h;split at h
 ·rename_i a e s p n c;obtain ⟨⟨ha,he,rfl⟩,-⟩:=h;have B:=V.base af.nil;rcases ha with ⟨k,rfl⟩|rfl<;>rcases he with ⟨j,hj,rfl⟩|rfl
  all_goals
   refine ahy.okW (base:=1) rfl wV wV ?_
   conv=>whnf
   repeat' (first
   |with_reducible refine WP.seq ?_
   |(with_reducible first|refine Go.mk ?_|refine WP.oC B (aH 151) ?_|refine WP.draw B (aH 151) ?_|refine WP.cond ?_|refine WP.exit ?_|refine WP.skip ?_|refine WP.ret ?_);conv=>whnf
   |with_reducible refine WP.block ?_
   |with_reducible assumption
   |with_reducible refine And.intro ?_ ?_
   |exact cL
   |(with_reducible intro h);first|(cases h;done)|(try simp only [lG,reduceCtorEq] at h);first|done|(exfalso;omega)|replace h:=h trivial aZ|replace h:=h aZ|skip
   |fail)
   all_goals exact ag.aU kV kV rfl rfl fun K hK=>hK.2
 ·exact h.elim
def XH:aC:=fun args bx K=>match args,bx with
 |[.ptr 0 0],[[.str s,.int .i64 p,.int .i64 n,.nil,.int .i64 e]]=>(s.size<=900000∧0<=p∧p<=s.size∧e=0)∧(∀(l:List Cm) (same:Bool) (q:Int),(p<=q∧q<=s.size∧l.length+p<=q)->K (.bX [.agg [cs l,.bool same,.int .i64 p],.bool true]) [rB s q n])∧K (.bX [.agg [.sl 0 [],.bool false,.int .i64 0],.bool false]) [rF s n]
 |_,_=>False
def ahx:=fN 152 Tryz.f152 46 [.cell 2 170,.tmp 3]
theorem E9:aC.OK Tryz.prog 152 XH:=by
 intro args bx K0 h;unfold XH at h;split at h
 ·rename_i s p n e;obtain ⟨⟨h0,h1,h2,rfl⟩,-⟩:=h;have B:=V.base (af.cons afC (af.cons CO af.nil));refine ahx.okW (base:=1) rfl wV wV ?_
  conv=>whnf
  repeat' (first
  |with_reducible refine WP.seq ?_
  |(with_reducible first|refine Go.mk ?_|refine WP.oC B (aH 152) ?_|refine WP.draw B (aH 152) ?_|refine WP.cond ?_|refine WP.exit ?_|refine WP.skip ?_|refine WP.ret ?_);conv=>whnf
  |with_reducible refine WP.block ?_
  |with_reducible assumption
  |with_reducible refine And.intro ?_ ?_
  |exact cL
  |(with_reducible intro h);first|(cases h;done)|(try simp only [lG,reduceCtorEq] at h);first|done|(exfalso;omega)|replace h:=h trivial aZ|replace h:=h aZ|skip
  |fail)
  all_goals first
   |exact ag.aU kV kV wV wV fun K hK=>hK.2.1 _ _ _ aZ
   |exact ag.aU kV kV wV wV fun K hK=>hK.2.2
 ·exact h.elim
def XE:aC:=fun args bx K=>match args,bx with
 |[.sl n l,.sl m k],[]=>(n+m<=100000000∧l.length=n*2∧k.length=m*2∧jR l=true∧jR k=true)∧K (.sl (n+m) (l++k)) []
 |_,_=>False
def ahs:=fN 157 Tryz.f157 9 [.tmp 4]
theorem Ns:aC.OK Tryz.prog 157 XE:=by
 intro args bx K0 h;unfold XE at h;split at h
 ·rename_i n l m k;obtain ⟨⟨h0,h1,h2,h3,h4⟩,-⟩:=h;have hw:gZ [AV.sl n l,AV.sl m k]=true:=by rw [gZ,gZ,gZ,wv,wv,h3,h4];rfl
  refine ahs.okW (base:=0) rfl hw rfl ?_;have B:=V.base af.nil
  conv=>whnf
  repeat' (first
  |with_reducible refine WP.seq ?_
  |(with_reducible first|refine Go.mk ?_|refine WP.oC B (aH 157) ?_|refine WP.draw B (aH 157) ?_|refine WP.cond ?_|refine WP.exit ?_|refine WP.skip ?_|refine WP.ret ?_);conv=>whnf
  |with_reducible refine WP.block ?_
  |with_reducible assumption
  |with_reducible refine And.intro ?_ ?_
  |exact cL
  |(with_reducible intro h);first|(cases h;done)|(try simp only [lG,reduceCtorEq] at h);first|done|(exfalso;omega)|replace h:=h trivial aZ|replace h:=h aZ|skip
  |fail)
  all_goals exact ag.aU Wk.row (vK.refl _) (fV h3 h4) rfl fun K hK=>hK.2
 ·exact h.elim
def xH:Nd:=.mk 1 1 (-1) 0 ByteArray.empty ByteArray.empty ByteArray.empty [] [] [] false ByteArray.empty
def abO:List AV:=[.int .i64 1,.int .i64 1,.int .i64 (-1),.int .i64 0,.str ByteArray.empty,.str ByteArray.empty,.str ByteArray.empty,.sl 0 [],.sl 0 [],.sl 0 [],.bool false,.str ByteArray.empty]
def ai2:aC:=fun args bx K=>match args,bx with
 |[],[]=>K (.agg abO) []
 |_,_=>False
def ah4:=fN 112 Tryz.f112 2 [.cell 0 35]
theorem yF:aC.OK Tryz.prog 112 ai2:=by
 intro args bx K0 h;unfold ai2 at h;split at h
 ·refine ah4.okW (base:=0) rfl rfl rfl ?_;have B:=V.base af.nil
  conv=>whnf
  repeat' (first
  |with_reducible refine WP.seq ?_
  |(with_reducible first|refine Go.mk ?_|refine WP.oC B (aH 112) ?_|refine WP.draw B (aH 112) ?_|refine WP.cond ?_|refine WP.exit ?_|refine WP.skip ?_|refine WP.ret ?_);conv=>whnf
  |with_reducible refine WP.block ?_
  |with_reducible assumption
  |with_reducible refine And.intro ?_ ?_
  |exact cL
  |(with_reducible intro h);first|(cases h;done)|(try simp only [lG,reduceCtorEq] at h);first|done|(exfalso;omega)|replace h:=h trivial aZ|replace h:=h aZ|skip
  |fail)
  all_goals exact ag.aU kV kV rfl wV fun K hK=>hK
 ·exact h.elim
def c76:aC:=fun args bx K=>match args,bx with
 |[.agg [.int .i64 k,.int .i64 y,.int .i64 p,.int .i64 b,.str an,.str tg,.str tx,.sl n l,.sl n1 l1,.sl n2 l2,.bool h,.str tr]],[]=>(jR l=true∧jR l1=true∧jR l2=true)∧(k=1∧y=1∧tx=ByteArray.empty->K (.bool true) [])∧(¬(k=1∧y=1∧tx=ByteArray.empty)->K (.bool false) [])
 |_,_=>False
def alG:=fN 76 Tryz.f76 16 [.tmp 2]
theorem Ju:aC.OK Tryz.prog 76 c76:=by
 intro args bx K0 h;unfold c76 at h;split at h
 ·rename_i k y p b an tg tx n l n1 l1 n2 l2 h tr;obtain ⟨⟨h0,h1,h2⟩,-⟩:=h;have hw:gZ [AV.agg [.int .i64 k,.int .i64 y,.int .i64 p,.int .i64 b,.str an,.str tg,.str tx,.sl n l,.sl n1 l1,.sl n2 l2,.bool h,.str tr]]=true:=by simp [gZ,wv,qI,AV.flat,AV.one,h0,h1,h2,bB h0,bB h1,bB h2]
  refine alG.okW (base:=0) rfl hw rfl ?_;have B:=V.base af.nil
  conv=>whnf
  repeat' (first
  |with_reducible refine WP.seq ?_
  |(with_reducible first|refine Go.mk ?_|refine WP.oC B (aH 76) ?_|refine WP.draw B (aH 76) ?_|refine WP.cond ?_|refine WP.exit ?_|refine WP.skip ?_|refine WP.ret ?_);conv=>whnf
  |with_reducible refine WP.block ?_
  |with_reducible assumption
  |with_reducible refine And.intro ?_ ?_
  |exact cL
  |(with_reducible intro h);first|(cases h;done)|(try simp only [lG,reduceCtorEq] at h);first|done|(exfalso;omega)|replace h:=h trivial aZ|replace h:=h aZ|skip
  |fail)
  all_goals first
   |(refine ag.bool (fun hb=>?_) (fun hb=>?_)
     ·exact ag.mk rfl rfl fun K hK=>hK.2.1 ⟨aZ,aZ,of_decide_eq_true hb⟩
     ·exact ag.mk rfl rfl fun K hK=>hK.2.2 fun hh=>of_decide_eq_false hb hh.2.2)
   |exact ag.mk rfl rfl fun K hK=>hK.2.2 oM
 ·exact h.elim
mutual
def wt:Nd->Nat
 |.mk k y p b an tg tx kids lead ae h tr=>1+lead.length+ae.length+gm kids
def gm:List Nd->Nat
 |[]=>0
 |x::l=>wt x+gm l
end
theorem uR (x:Nd):wt x=1+x.lead.length+x.ae.length+gm x.kids:=by cases x;rw [wt];rfl
theorem MU:∀{l:List Nd} {i:Nat} {x:Nd},l[i]?=some x->wt x<=gm l
 |[],i,x,h=>by simp at h
 |y::l,i,x,h=>by
  rw [gm];cases i with
  |zero=>simp at h;subst h;omega
  |succ i=>have:=MU (l:=l) (i:=i) (x:=x) (by simpa using h);omega
theorem sV:∀(l m:List Nd),gm (l++m)=gm l+gm m
 |[],m=>by rw [List.nil_append,gm];omega
 |x::l,m=>by rw [List.cons_append,gm,gm,sV l m];omega
theorem wz:∀(l:List Nd),l.length<=gm l
 |[]=>Nat.zero_le _
 |x::l=>by have:=wz l;have h:=uR x;rw [gm,List.length_cons];omega
theorem Su:∀{l:List Nd} {i:Nat} (h:i<l.length),∃r,(au l).drop (i*12)=bF l[i]++r
 |[],i,h=>by simp at h
 |x::l,0,h=>⟨au l,by rw [Nat.zero_mul,List.drop_zero,au,mq];rfl⟩
 |x::l,i+1,h=>by obtain ⟨r,hr⟩:=Su (l:=l) (i:=i) (by simpa using h);refine ⟨r,?_⟩;rw [au,Nat.add_mul,Nat.one_mul,Nat.add_comm,←List.drop_drop,mq,List.drop_left' (by rfl)];exact hr
def ab2 (m:Nat):aC:=fun args bx K=>match args,bx with
 |[.agg c],[]=>∃x:Nd,c=bF x∧(wt x<m∧m<=100000000)∧∀h:Int,(0<=h∧h<=wt x)->K (.int .i64 h) []
 |_,_=>False
def ahl:=fN 166 Tryz.f166 31 [.tmp 2]
theorem adZ.xt {p:Prop} (g:p:=by ((first|(obtain ⟨r,hr⟩:=Su (l:=x.kids) (i:=i.toNat) oM;refine ⟨_,r,hr,rfl,?_⟩)|(refine ⟨x.kids[i.toNat]'oM,rfl,?_⟩;have hw:=MU (l:=x.kids) (List.getElem?_eq_getElem (show i.toNat<x.kids.length by omega)))|(refine ⟨_,_,?_,Rx.refl,_,_,rfl,⟨?_,?_,rfl⟩,?_,?_⟩)|((with_reducible refine (?_:ag _ _ _ _ _));first|exact ag.mk rfl rfl fun K hK=>by obtain ⟨y,he,_,hK⟩:=hK;cases tX he;exact hK _ oM)|fail);(repeat' (first|exact bN|fail));first|done|fail)):p:=g
theorem afx:∀m,aC.OK Tryz.prog 166 (ab2 m):=by
 intro m
 induction m with
 |zero=>
  intro args bx K0 h;unfold ab2 at h;split at h
  ·obtain ⟨x,-,h1,-⟩:=h;omega
  ·exact h.elim
 |succ m ih=>
  intro args bx K0 h;unfold ab2 at h;split at h
  ·rename_i c;obtain ⟨x,rfl,⟨h1,h2⟩,-⟩:=h;refine ahl.okW (base:=0) rfl wV rfl ?_;have B:=V.base (af.cons ih af.nil);have hx:=uR x
   conv=>whnf
   repeat' (first
   |with_reducible refine WP.seq ?_
   |(with_reducible first|refine Go.mk ?_|refine WP.oC B (aH 166) ?_|refine WP.draw B (aH 166) ?_|refine WP.cond ?_|refine WP.exit ?_|refine WP.skip ?_|refine WP.ret ?_);conv=>whnf
   |with_reducible refine WP.block ?_
   |with_reducible assumption
   |with_reducible refine And.intro ?_ ?_
   |exact cL
   |(with_reducible intro h);first|(cases h;done)|(try simp only [lG,reduceCtorEq] at h);first|done|(exfalso;omega)|replace h:=h trivial aZ|replace h:=h aZ|skip
   |fail)
   have hl:=bT x.kids;have hlw:=wz x.kids;refine WP.loop (fun k τ=>∃i h:Int,τ=⟨[(4,.int .i64 i),(3,.int .i64 h),(1,.ptr 0 0)],[bF x]⟩∧(0<=i∧i<=x.kids.length∧k=(x.kids.length-i).toNat)∧0<=h∧h<=gm x.kids) (k:=x.kids.length) ⟨0,0,rfl,⟨oM,oM,oM⟩,oM,oM⟩ ?_;rintro k _ ⟨i,h,rfl,⟨hi,hik,rfl⟩,hh,hhw⟩;let zA:=(aH 166)
   open adZ in exact bN
  ·exact h.elim
end V
end
namespace Bk
def ad8:List Int:=[0,7,8,9,10,11,12,13,27,9,32,34,47,92,133,160,8232,8233]
def Iw (i:Nat):Int:=ad8.getD i 0
def LET:ByteArray:=⟨#[48,97,98,116,110,118,102,114,101,9,32,34,47,92,78,95,76,80]⟩
def CS (c:Int):Nat->Nat->Option Nat
 |0,_=>none
 |f+1,k=>if bt LET k=c then some k else CS c f (k+1)
def fu (r:Int):Bool:=decide (0<=r) && decide (r<=1114111) && (decide (r<55296)||decide (57343<r))
def loI (x:Int):Int:=bits BinOp.or IntKind.i32 128 (bits BinOp.and IntKind.i32 x 63) % 256
def Af (r:Int):List Int:=
 if r<128 then [r] else if r<2048 then [192+r/64,loI r] else if r<65536 then [bits BinOp.or IntKind.i32 224 (r/4096) % 256,loI (r/64),loI r]
 else [bits BinOp.or IntKind.i32 240 (r/262144) % 256,loI (r/4096),loI (r/64),loI r]
def oP (r:Int):ByteArray:=strOfNums (Af r)
theorem Kb (r:Int):(oP r).size<=4:=by
 unfold oP;rw [strOfNums_size];unfold Af;split
 ·show 1<=4;omega
 split
 ·show 2<=4;omega
 split
 ·show 3<=4;omega
 ·show 4<=4;omega
end Bk
set_option maxRecDepth 20000 in
theorem QJ (i:Nat) (w:World) (hi:i<18):Calls Tryz.prog 148 #[.int .i64 i] w fun e w'=>e=.returned (.int .i32 (Bk.Iw i))∧w=w':=by
 rcases (by omega:i=0∨i=1∨i=2∨i=3∨i=4∨i=5∨i=6∨i=7∨i=8∨i=9∨i=10∨i=11∨i=12∨i=13∨i=14∨i=15∨i=16∨i=17) with rfl|rfl|rfl|rfl|rfl|rfl|rfl|rfl|rfl|rfl|rfl|rfl|rfl|rfl|rfl|rfl|rfl|rfl
 all_goals
  go_enter Tryz.func148,Tryz.ntmps148
  go_wp2_with fail
  go_ret
  first
   |exact ⟨rfl,rfl⟩
   |exact ⟨gP dK,rfl⟩
theorem ja (r:Int) (w:World):Calls Tryz.prog 149 #[.int .i32 r] w fun e w'=>e=.returned (.bool (Bk.fu r))∧w=w':=by
 by_cases h0:0<=r
 ·by_cases h1:r<=1114111
  ·by_cases h2:r<55296
   ·have HE:Hid (Bk.fu r=true):=Lib.hid (by unfold Bk.fu;simp [h0,h1,h2])
    go_enter Tryz.func149,Tryz.ntmps149
    go_wp2_with fail
    go_ret
    exact ⟨fG (by rw [HE.out]),rfl⟩
   ·by_cases h3:57343<r
    ·have HE:Hid (Bk.fu r=true):=Lib.hid (by unfold Bk.fu;simp [h0,h1,h3])
     go_enter Tryz.func149,Tryz.ntmps149
     go_wp2_with fail
     go_ret
     exact ⟨fG (by rw [HE.out]),rfl⟩
    ·have HE:Hid (Bk.fu r=false):=Lib.hid (by unfold Bk.fu;simp [h2,h3])
     go_enter Tryz.func149,Tryz.ntmps149
     go_wp2_with fail
     go_ret
     exact ⟨fG (by rw [HE.out]),rfl⟩
  ·have HE:Hid (Bk.fu r=false):=Lib.hid (by unfold Bk.fu;simp [h1])
   go_enter Tryz.func149,Tryz.ntmps149
   go_wp2_with fail
   go_ret
   exact ⟨fG (by rw [HE.out]),rfl⟩
 ·have HE:Hid (Bk.fu r=false):=Lib.hid (by unfold Bk.fu;simp [h0])
  go_enter Tryz.func149,Tryz.ntmps149
  go_wp2_with fail
  go_ret
  exact ⟨fG (by rw [HE.out]),rfl⟩
theorem y8 (xs:List Int) (w:World):(convert 90 9 (.slice (some ⟨w.heap.size,0,none⟩) xs.length xs.length)).run Tryz.prog (w.alloc (.cells (xs.map (Value.int .u8)).toArray 5))=.ok (.string (strOfNums xs)) (w.alloc (.cells (xs.map (Value.int .u8)).toArray 5)):=by refine run_convert_bytes_arg (P:=Tryz.prog) _ 90 5 Tryz.underlying90 Tryz.underlying5 w.heap.size 0 xs.length xs.length xs rfl (fun i hi=>?_) 9 Tryz.underlying9;rw [Nat.zero_add,Lib.cell_of_heap (heap_alloc_new w (.cells (xs.map (Value.int .u8)).toArray 5))];simp [List.getElem?_map,List.getElem?_eq_getElem hi,List.getD_eq_getElem?_getD]
set_option maxRecDepth 100000 in
theorem PQ (r:Int) (w:World) (hr:Bk.fu r=true):Calls Tryz.prog 139 #[.int .i32 r] w fun e w'=>e=.returned (.string (Bk.oP r))∧Below w.heap.size w w':=by
 have cv1:∀a:Int,(convert 90 9 (.slice (some ⟨w.heap.size,0,none⟩) 1 1)).run Tryz.prog (w.alloc (.cells #[.int .u8 a] 5))=.ok (.string (strOfNums [a])) (w.alloc (.cells #[.int .u8 a] 5)):=fun a=>y8 [a] w;have cv2:∀a b:Int,(convert 90 9 (.slice (some ⟨w.heap.size,0,none⟩) 2 2)).run Tryz.prog (w.alloc (.cells #[.int .u8 a,.int .u8 b] 5))=.ok (.string (strOfNums [a,b])) (w.alloc (.cells #[.int .u8 a,.int .u8 b] 5)):=fun a b=>y8 [a,b] w;have cv3:∀a b c:Int,(convert 90 9 (.slice (some ⟨w.heap.size,0,none⟩) 3 3)).run Tryz.prog (w.alloc (.cells #[.int .u8 a,.int .u8 b,.int .u8 c] 5))=.ok (.string (strOfNums [a,b,c])) (w.alloc (.cells #[.int .u8 a,.int .u8 b,.int .u8 c] 5)):=fun a b c=>y8 [a,b,c] w;have cv4:∀a b c d:Int,(convert 90 9 (.slice (some ⟨w.heap.size,0,none⟩) 4 4)).run Tryz.prog (w.alloc (.cells #[.int .u8 a,.int .u8 b,.int .u8 c,.int .u8 d] 5))=.ok (.string (strOfNums [a,b,c,d])) (w.alloc (.cells #[.int .u8 a,.int .u8 b,.int .u8 c,.int .u8 d] 5)):=fun a b c d=>y8 [a,b,c,d] w;have h0:0<=r:=by unfold Bk.fu at hr;simp at hr;omega
 have h4:r<=1114111:=by unfold Bk.fu at hr;simp at hr;omega
 by_cases h1:r<128
 ·have HE:Hid (Bk.oP r=strOfNums ([r])):=Lib.hid (by unfold Bk.oP Bk.Af;rw [if_pos h1])
  go_enter Tryz.func139,Tryz.ntmps139
  go_wp2_with (go_at_call 149;refine (ja _ _).mono ?_;rintro e w' ⟨rfl,rfl⟩;rw [hr])
  go_ret
  exact ⟨tN (by rw [HE.out]),(Below.refl _ _).alloc (Nat.le_refl _) _⟩
 ·by_cases h2:r<2048
  ·have HE:Hid (Bk.oP r=strOfNums ([192+r/64,bits BinOp.or IntKind.i32 128 (bits BinOp.and IntKind.i32 r 63) % 256])):=Lib.hid (by unfold Bk.oP Bk.Af;rw [if_neg h1,if_pos h2];rfl)
   go_enter Tryz.func139,Tryz.ntmps139
   go_wp2_with (go_at_call 149;refine (ja _ _).mono ?_;rintro e w' ⟨rfl,rfl⟩;rw [hr])
   go_ret
   exact ⟨tN (by rw [HE.out]),(Below.refl _ _).alloc (Nat.le_refl _) _⟩
  ·by_cases h3:r<65536
   ·have HE:Hid (Bk.oP r=strOfNums ([bits BinOp.or IntKind.i32 224 (r/4096) % 256,bits BinOp.or IntKind.i32 128 (bits BinOp.and IntKind.i32 (r/64) 63) % 256,bits BinOp.or IntKind.i32 128 (bits BinOp.and IntKind.i32 r 63) % 256])):=Lib.hid (by unfold Bk.oP Bk.Af;rw [if_neg h1,if_neg h2,if_pos h3];rfl)
    go_enter Tryz.func139,Tryz.ntmps139
    go_wp2_with (go_at_call 149;refine (ja _ _).mono ?_;rintro e w' ⟨rfl,rfl⟩;rw [hr])
    go_ret
    exact ⟨tN (by rw [HE.out]),(Below.refl _ _).alloc (Nat.le_refl _) _⟩
   ·have HE:Hid (Bk.oP r=strOfNums ([bits BinOp.or IntKind.i32 240 (r/262144) % 256,bits BinOp.or IntKind.i32 128 (bits BinOp.and IntKind.i32 (r/4096) 63) % 256,bits BinOp.or IntKind.i32 128 (bits BinOp.and IntKind.i32 (r/64) 63) % 256,bits BinOp.or IntKind.i32 128 (bits BinOp.and IntKind.i32 r 63) % 256])):=Lib.hid (by unfold Bk.oP Bk.Af;rw [if_neg h1,if_neg h2,if_neg h3];rfl)
    go_enter Tryz.func139,Tryz.ntmps139
    go_wp2_with (go_at_call 149;refine (ja _ _).mono ?_;rintro e w' ⟨rfl,rfl⟩;rw [hr])
    go_ret
    exact ⟨tN (by rw [HE.out]),(Below.refl _ _).alloc (Nat.le_refl _) _⟩
namespace Bk
def oJ (s:ByteArray) (q n:Nat):Nat->Nat->Int->Option Int
 |0,_,_=>none
 |f+1,i,r=>if i<n then (if De (bt s (q+2+i))<0∨1114111<r then none else oJ s q n f (i+1) (r*16+De (bt s (q+2+i)))) else some r
theorem uh (c:Int):-1<=De c∧De c<=15:=by
 unfold De
 repeat' split
 all_goals omega
def uL (c:Int):Nat:=if c=120 then 2 else if c=117 then 4 else if c=85 then 8 else 0
def Mk (s:ByteArray) (q:Nat):Option (Int×Nat):=
 if s.size<q+2 then none
 else match CS (bt s (q+1)) 18 0 with
  |some i=>some (Iw i,q+2)
  |none=>
   if uL (bt s (q+1))=0∨s.size<q+2+uL (bt s (q+1)) then none
   else match oJ s q (uL (bt s (q+1))) 9 0 0 with
    |some r=>if fu r=true then some (r,q+2+uL (bt s (q+1))) else none
    |none=>none
end Bk
theorem Bk.below_drewN (w:World) (n:Nat):Below w.heap.size w (w.drewN n):=⟨rfl,rfl,rfl,Nat.le_refl _,fun _ _=>rfl⟩
def X7 (r:Option (Int×Nat)) (q:Nat) (w:World) (e:Ending) (w':World):Prop:=
 (match r with
 |some (r,p)=>e=.returned (.tuple #[.int .i32 r,.int .i64 p,.int .i64 0])
 |none=>e=.returned (.tuple #[.int .i32 0,.int .i64 q,.int .i64 5]))∧Below w.heap.size w w'
set_option maxRecDepth 100000 in
theorem Mj (s:ByteArray) (q:Nat) (w:World) (hs:s.size<=1000000) (hq:q<s.size) (h92:bt s q=92):
  Calls Tryz.prog 138 #[.string s,.int .i64 q] w (X7 (Bk.Mk s q) q w):=by
 have hb:=get_bt s;have hbl:∀(n:Nat) (h:n<(⟨#[48,97,98,116,110,118,102,114,101,9,32,34,47,92,78,95,76,80]⟩:ByteArray).size),(((⟨#[48,97,98,116,110,118,102,114,101,9,32,34,47,92,78,95,76,80]⟩:ByteArray)[n].toNat:Nat):Int)=bt Bk.LET n:=get_bt Bk.LET;have apn:(bt s q !=92)=false:=by simp [h92]
 obtain ⟨R,hR⟩:∃R,R=Bk.Mk s q:=⟨_,rfl⟩;rw [←hR];by_cases hz:s.size<q+2
 ·have HE:Hid (R=none):=Lib.hid (by rw [hR,Bk.Mk,if_pos hz]);clear hR
  go_enter Tryz.func138,Tryz.ntmps138
  go_wp2_with fail
  go_ret3
  rw [HE.out];exact ⟨rfl,Below.refl _ _⟩
 ·obtain ⟨c,hc⟩:∃c,c=bt s (q+1):=⟨_,rfl⟩;have HR:Hid (R=match Bk.CS c 18 0 with
   |some i=>some (Bk.Iw i,q+2)
   |none=>
    if Bk.uL c=0∨s.size<q+2+Bk.uL c then none
    else match Bk.oJ s q (Bk.uL c) 9 0 0 with
     |some r=>if Bk.fu r=true then some (r,q+2+Bk.uL c) else none
     |none=>none):=Lib.hid (by rw [hR,Bk.Mk,if_neg hz,hc])
  have HC:=Lib.hid hc;have hls:Bk.LET.size=18:=rfl;clear hR hc;obtain ⟨N0,hN0⟩:∃N0,N0=Bk.CS c 18 0:=⟨_,rfl⟩;rw [←hN0] at HR;have HN0:=Lib.hid hN0;have d1:decide ((q:Int)<0)=false:=decide_eq_false oM;have d2:decide (s.size<=q)=false:=decide_eq_false oM;have d3:decide ((s.size:Int)-(q:Int)<2)=false:=decide_eq_false oM;clear hN0
  go_enter Tryz.func138,Tryz.ntmps138
  go_wp2_with fail
  go_loopg [7] 18 (fun g iv wr=>∃(k:Nat),g=18-k∧k<=18∧iv=.int .i64 k∧Hid (N0=Bk.CS c (18-k) k)∧Hid (Below w.heap.size w wr))
  case atStart=>exact ⟨0,rfl,oM,rfl,HN0,Lib.hid (Below.refl _ _)⟩
  case round=>
   obtain ⟨k,rfl,hk,rfl,HK,HW⟩:=hrel;by_cases Tj:k<18
   ·have am7:k<(⟨#[48,97,98,116,110,118,102,114,101,9,32,34,47,92,78,95,76,80]⟩:ByteArray).size:=Tj;obtain ⟨f,hf⟩:∃f,18-k=f+1:=⟨18-k-1,oM⟩;have hf2:18-(k+1)=f:=oM;by_cases heq:bt Bk.LET k=c
    ·have hcq:(bt Bk.LET k==bt s (q+1))=true:=by rw [←HC.out];simp [heq]
     have HE:Hid (R=some (Bk.Iw k,q+2)):=Lib.hid (by rw [HR.out,HK.out,hf,Bk.CS,if_pos heq]);clear hf hf2 heq
     go_wp2_with fail
     go_quiet (fail)
     go_wp2_with (go_at_call 148;refine (QJ k _ Tj).mono ?_;rintro e w' ⟨rfl,rfl⟩)
     go_ret3
     rw [HE.out];exact ⟨rfl,HW.out.trans ((Bk.below_drewN _ _).mono HW.out.size)⟩
    ·have hcq:(bt Bk.LET k==bt s (q+1))=false:=by rw [←HC.out];simp [heq]
     have HK2:Hid (N0=Bk.CS c (18-(k+1)) (k+1)):=Lib.hid (by rw [HK.out,hf,Bk.CS,if_neg heq,hf2]);clear hf hf2 heq
     go_wp2_with fail
     go_quiet (fail)
     go_wp2_with fail
     go_roundg (18-(k+1))
     case measure=>omega
     case rel=>exact ⟨k+1,rfl,oM,by go_num,HK2,Lib.hid (HW.out.trans ((Bk.below_drewN _ _).mono HW.out.size))⟩
   ·have HNN:Hid (N0=none):=Lib.hid (by rw [HK.out,show 18-k=0 from by omega];rfl);have HR2:Hid (R=if Bk.uL c=0∨s.size<q+2+Bk.uL c then none
     else match Bk.oJ s q (Bk.uL c) 9 0 0 with
      |some r=>if Bk.fu r=true then some (r,q+2+Bk.uL c) else none
      |none=>none):=Lib.hid (by rw [HR.out,HNN.out])
    have Wx:(c=120∧Bk.uL c=2)∨(c=117∧Bk.uL c=4)∨(c=85∧Bk.uL c=8)∨((bt s (q+1)==120)=false∧(bt s (q+1)==117)=false∧(bt s (q+1)==85)=false∧Bk.uL c=0):=by
     rw [←HC.out];unfold Bk.uL;by_cases h1:c=120
     ·exact .inl ⟨h1,by rw [if_pos h1]⟩
     ·by_cases h2:c=117
      ·exact .inr (.inl ⟨h2,by rw [if_neg h1,if_pos h2]⟩)
      ·by_cases h3:c=85
       ·exact .inr (.inr (.inl ⟨h3,by rw [if_neg h1,if_neg h2,if_pos h3]⟩))
       ·exact .inr (.inr (.inr ⟨by simp [h1],by simp [h2],by simp [h3],by rw [if_neg h1,if_neg h2,if_neg h3]⟩))
    obtain ⟨M,hM⟩:∃M,Bk.uL c=M:=⟨_,rfl⟩;rw [hM] at HR2 Wx;clear hM HNN HK HR;rcases Wx with ⟨hc,rfl⟩|⟨hc,rfl⟩|⟨hc,rfl⟩|⟨q1,q2,q3,rfl⟩
    ·have hcq:bt s (q+1)=120:=HC.out.symm.trans hc;clear hc;by_cases hz2:s.size<q+2+2
     ·have HE:Hid (R=none):=Lib.hid (by rw [HR2.out,if_pos (.inr hz2)])
      go_wp2_with fail
      go_ret3
      rw [HE.out];exact ⟨rfl,HW.out⟩
     ·have HR3:=Lib.hid (HR2.out.trans (if_neg (by rintro (h|h);omega;exact hz2 h)));obtain ⟨X,hX⟩:∃X,X=Bk.oJ s q 2 9 0 0:=⟨_,rfl⟩;rw [←hX] at HR3;have HX:=Lib.hid hX;clear hX HR2
      go_wp2_with fail
      go_loopg [9,10] 2 (fun g rv iv wx=>wr=wx∧∃(i:Nat) (r:Int) (f:Nat),g=2-i∧i<=2∧i+f=9∧0<=r∧r<=17825791∧rv=.int .i32 r∧iv=.int .i64 i∧Hid (X=Bk.oJ s q 2 f i r))
      case atStart=>exact ⟨rfl,0,0,9,rfl,oM,rfl,oM,oM,rfl,rfl,HX⟩
      case round=>
       obtain ⟨rfl,i,r,f,rfl,hi,hif,hr0,hr1,rfl,rfl,HI⟩:=hrel;by_cases hlt:i<2
       ·obtain ⟨f,rfl⟩:∃g,f=g+1:=⟨f-1,oM⟩;have hb0:=bt_nonneg s (q+2+i);have hb1:=bt_le s (q+2+i);have hdr:=Bk.uh (bt s (q+2+i));obtain ⟨d,hd⟩:∃d,d=Bk.De (bt s (q+2+i)):=⟨_,rfl⟩;rw [←hd] at hdr;have HD:=Lib.hid hd;by_cases hd0:d<0
        ·have HE:Hid (R=none):=Lib.hid (by rw [HR3.out,HI.out,Bk.oJ,if_pos hlt,if_pos (.inl (by rw [←hd];exact hd0))]);clear hd
         go_wp2_with (go_at_call 107;refine (kW _ _ hb0 hb1).mono ?_;rintro e w' ⟨rfl,rfl⟩;rw [←HD.out])
         go_ret3
         rw [HE.out];exact ⟨rfl,HW.out⟩
        ·by_cases hrr:1114111<r
         ·have HE:Hid (R=none):=Lib.hid (by rw [HR3.out,HI.out,Bk.oJ,if_pos hlt,if_pos (.inr hrr)]);clear hd
          go_wp2_with (go_at_call 107;refine (kW _ _ hb0 hb1).mono ?_;rintro e w' ⟨rfl,rfl⟩;rw [←HD.out])
          go_ret3
          rw [HE.out];exact ⟨rfl,HW.out⟩
         ·have HI2:Hid (X=Bk.oJ s q 2 f (i+1) (r*16+d)):=Lib.hid (by rw [HI.out,Bk.oJ,if_pos hlt,if_neg (by rw [←hd];omega),hd]);have hor:bits BinOp.or IntKind.i32 (r*16) d=r*16+d:=bits_join .i32 31 dE wraps_i32 4 (r*16) d oM (by show r*16 % 16=0;omega) (by show r*16<2147483648;omega) oM (by show d<16;omega) (by show d<2147483648;omega);clear hd
          go_wp2_with (go_at_call 107;refine (kW _ _ hb0 hb1).mono ?_;rintro e w' ⟨rfl,rfl⟩;rw [←HD.out])
          go_roundg (2-(i+1))
          case measure=>omega
          case rel=>exact ⟨rfl,i+1,r*16+d,f,rfl,oM,oM,oM,oM,by first|rfl|rw [hor],by go_num,HI2⟩
       ·have ZK:Hid (X=some r):=Lib.hid (by
         obtain ⟨f,rfl⟩:∃g,f=g+1:=⟨f-1,oM⟩;rw [HI.out,Bk.oJ,if_neg hlt])
        cases hsc:Bk.fu r with
        |true=>
         have HE:Hid (R=some (r,q+2+2)):=Lib.hid (by rw [HR3.out,ZK.out];exact if_pos hsc);have U0:=Lib.hid hsc;clear hsc
         go_wp2_with (go_at_call 149;refine (ja _ _).mono ?_;rintro e w' ⟨rfl,rfl⟩;rw [U0.out])
         go_ret3
         rw [HE.out];exact ⟨rfl,HW.out⟩
        |false=>
         have HE:Hid (R=none):=Lib.hid (by rw [HR3.out,ZK.out];exact if_neg (by rw [hsc];decide));have U0:=Lib.hid hsc;clear hsc
         go_wp2_with (go_at_call 149;refine (ja _ _).mono ?_;rintro e w' ⟨rfl,rfl⟩;rw [U0.out])
         go_ret3
         rw [HE.out];exact ⟨rfl,HW.out⟩
    ·have hcq:bt s (q+1)=117:=HC.out.symm.trans hc;clear hc;by_cases hz2:s.size<q+2+4
     ·have HE:Hid (R=none):=Lib.hid (by rw [HR2.out,if_pos (.inr hz2)])
      go_wp2_with fail
      go_ret3
      rw [HE.out];exact ⟨rfl,HW.out⟩
     ·have HR3:=Lib.hid (HR2.out.trans (if_neg (by rintro (h|h);omega;exact hz2 h)));obtain ⟨X,hX⟩:∃X,X=Bk.oJ s q 4 9 0 0:=⟨_,rfl⟩;rw [←hX] at HR3;have HX:=Lib.hid hX;clear hX HR2
      go_wp2_with fail
      go_loopg [9,10] 4 (fun g rv iv wx=>wr=wx∧∃(i:Nat) (r:Int) (f:Nat),g=4-i∧i<=4∧i+f=9∧0<=r∧r<=17825791∧rv=.int .i32 r∧iv=.int .i64 i∧Hid (X=Bk.oJ s q 4 f i r))
      case atStart=>exact ⟨rfl,0,0,9,rfl,oM,rfl,oM,oM,rfl,rfl,HX⟩
      case round=>
       obtain ⟨rfl,i,r,f,rfl,hi,hif,hr0,hr1,rfl,rfl,HI⟩:=hrel;by_cases hlt:i<4
       ·obtain ⟨f,rfl⟩:∃g,f=g+1:=⟨f-1,oM⟩;have hb0:=bt_nonneg s (q+2+i);have hb1:=bt_le s (q+2+i);have hdr:=Bk.uh (bt s (q+2+i));obtain ⟨d,hd⟩:∃d,d=Bk.De (bt s (q+2+i)):=⟨_,rfl⟩;rw [←hd] at hdr;have HD:=Lib.hid hd;by_cases hd0:d<0
        ·have HE:Hid (R=none):=Lib.hid (by rw [HR3.out,HI.out,Bk.oJ,if_pos hlt,if_pos (.inl (by rw [←hd];exact hd0))]);clear hd
         go_wp2_with (go_at_call 107;refine (kW _ _ hb0 hb1).mono ?_;rintro e w' ⟨rfl,rfl⟩;rw [←HD.out])
         go_ret3
         rw [HE.out];exact ⟨rfl,HW.out⟩
        ·by_cases hrr:1114111<r
         ·have HE:Hid (R=none):=Lib.hid (by rw [HR3.out,HI.out,Bk.oJ,if_pos hlt,if_pos (.inr hrr)]);clear hd
          go_wp2_with (go_at_call 107;refine (kW _ _ hb0 hb1).mono ?_;rintro e w' ⟨rfl,rfl⟩;rw [←HD.out])
          go_ret3
          rw [HE.out];exact ⟨rfl,HW.out⟩
         ·have HI2:Hid (X=Bk.oJ s q 4 f (i+1) (r*16+d)):=Lib.hid (by rw [HI.out,Bk.oJ,if_pos hlt,if_neg (by rw [←hd];omega),hd]);have hor:bits BinOp.or IntKind.i32 (r*16) d=r*16+d:=bits_join .i32 31 dE wraps_i32 4 (r*16) d oM (by show r*16 % 16=0;omega) (by show r*16<2147483648;omega) oM (by show d<16;omega) (by show d<2147483648;omega);clear hd
          go_wp2_with (go_at_call 107;refine (kW _ _ hb0 hb1).mono ?_;rintro e w' ⟨rfl,rfl⟩;rw [←HD.out])
          go_roundg (4-(i+1))
          case measure=>omega
          case rel=>exact ⟨rfl,i+1,r*16+d,f,rfl,oM,oM,oM,oM,by first|rfl|rw [hor],by go_num,HI2⟩
       ·have ZK:Hid (X=some r):=Lib.hid (by
         obtain ⟨f,rfl⟩:∃g,f=g+1:=⟨f-1,oM⟩;rw [HI.out,Bk.oJ,if_neg hlt])
        cases hsc:Bk.fu r with
        |true=>
         have HE:Hid (R=some (r,q+2+4)):=Lib.hid (by rw [HR3.out,ZK.out];exact if_pos hsc);have U0:=Lib.hid hsc;clear hsc
         go_wp2_with (go_at_call 149;refine (ja _ _).mono ?_;rintro e w' ⟨rfl,rfl⟩;rw [U0.out])
         go_ret3
         rw [HE.out];exact ⟨rfl,HW.out⟩
        |false=>
         have HE:Hid (R=none):=Lib.hid (by rw [HR3.out,ZK.out];exact if_neg (by rw [hsc];decide));have U0:=Lib.hid hsc;clear hsc
         go_wp2_with (go_at_call 149;refine (ja _ _).mono ?_;rintro e w' ⟨rfl,rfl⟩;rw [U0.out])
         go_ret3
         rw [HE.out];exact ⟨rfl,HW.out⟩
    ·have hcq:bt s (q+1)=85:=HC.out.symm.trans hc;clear hc;by_cases hz2:s.size<q+2+8
     ·have HE:Hid (R=none):=Lib.hid (by rw [HR2.out,if_pos (.inr hz2)])
      go_wp2_with fail
      go_ret3
      rw [HE.out];exact ⟨rfl,HW.out⟩
     ·have HR3:=Lib.hid (HR2.out.trans (if_neg (by rintro (h|h);omega;exact hz2 h)));obtain ⟨X,hX⟩:∃X,X=Bk.oJ s q 8 9 0 0:=⟨_,rfl⟩;rw [←hX] at HR3;have HX:=Lib.hid hX;clear hX HR2
      go_wp2_with fail
      go_loopg [9,10] 8 (fun g rv iv wx=>wr=wx∧∃(i:Nat) (r:Int) (f:Nat),g=8-i∧i<=8∧i+f=9∧0<=r∧r<=17825791∧rv=.int .i32 r∧iv=.int .i64 i∧Hid (X=Bk.oJ s q 8 f i r))
      case atStart=>exact ⟨rfl,0,0,9,rfl,oM,rfl,oM,oM,rfl,rfl,HX⟩
      case round=>
       obtain ⟨rfl,i,r,f,rfl,hi,hif,hr0,hr1,rfl,rfl,HI⟩:=hrel;by_cases hlt:i<8
       ·obtain ⟨f,rfl⟩:∃g,f=g+1:=⟨f-1,oM⟩;have hb0:=bt_nonneg s (q+2+i);have hb1:=bt_le s (q+2+i);have hdr:=Bk.uh (bt s (q+2+i));obtain ⟨d,hd⟩:∃d,d=Bk.De (bt s (q+2+i)):=⟨_,rfl⟩;rw [←hd] at hdr;have HD:=Lib.hid hd;by_cases hd0:d<0
        ·have HE:Hid (R=none):=Lib.hid (by rw [HR3.out,HI.out,Bk.oJ,if_pos hlt,if_pos (.inl (by rw [←hd];exact hd0))]);clear hd
         go_wp2_with (go_at_call 107;refine (kW _ _ hb0 hb1).mono ?_;rintro e w' ⟨rfl,rfl⟩;rw [←HD.out])
         go_ret3
         rw [HE.out];exact ⟨rfl,HW.out⟩
        ·by_cases hrr:1114111<r
         ·have HE:Hid (R=none):=Lib.hid (by rw [HR3.out,HI.out,Bk.oJ,if_pos hlt,if_pos (.inr hrr)]);clear hd
          go_wp2_with (go_at_call 107;refine (kW _ _ hb0 hb1).mono ?_;rintro e w' ⟨rfl,rfl⟩;rw [←HD.out])
          go_ret3
          rw [HE.out];exact ⟨rfl,HW.out⟩
         ·have HI2:Hid (X=Bk.oJ s q 8 f (i+1) (r*16+d)):=Lib.hid (by rw [HI.out,Bk.oJ,if_pos hlt,if_neg (by rw [←hd];omega),hd]);have hor:bits BinOp.or IntKind.i32 (r*16) d=r*16+d:=bits_join .i32 31 dE wraps_i32 4 (r*16) d oM (by show r*16 % 16=0;omega) (by show r*16<2147483648;omega) oM (by show d<16;omega) (by show d<2147483648;omega);clear hd
          go_wp2_with (go_at_call 107;refine (kW _ _ hb0 hb1).mono ?_;rintro e w' ⟨rfl,rfl⟩;rw [←HD.out])
          go_roundg (8-(i+1))
          case measure=>omega
          case rel=>exact ⟨rfl,i+1,r*16+d,f,rfl,oM,oM,oM,oM,by first|rfl|rw [hor],by go_num,HI2⟩
       ·have ZK:Hid (X=some r):=Lib.hid (by
         obtain ⟨f,rfl⟩:∃g,f=g+1:=⟨f-1,oM⟩;rw [HI.out,Bk.oJ,if_neg hlt])
        cases hsc:Bk.fu r with
        |true=>
         have HE:Hid (R=some (r,q+2+8)):=Lib.hid (by rw [HR3.out,ZK.out];exact if_pos hsc);have U0:=Lib.hid hsc;clear hsc
         go_wp2_with (go_at_call 149;refine (ja _ _).mono ?_;rintro e w' ⟨rfl,rfl⟩;rw [U0.out])
         go_ret3
         rw [HE.out];exact ⟨rfl,HW.out⟩
        |false=>
         have HE:Hid (R=none):=Lib.hid (by rw [HR3.out,ZK.out];exact if_neg (by rw [hsc];decide));have U0:=Lib.hid hsc;clear hsc
         go_wp2_with (go_at_call 149;refine (ja _ _).mono ?_;rintro e w' ⟨rfl,rfl⟩;rw [U0.out])
         go_ret3
         rw [HE.out];exact ⟨rfl,HW.out⟩
    ·have HE:Hid (R=none):=Lib.hid (by rw [HR2.out,if_pos (.inl rfl)])
     go_wp2_with fail
     go_ret3
     rw [HE.out];exact ⟨rfl,HW.out⟩
section
set_option maxRecDepth 100000
namespace V
open Ab
open Bk (Cm)
def aji:zy:=⟨[[0,1,2],[0,1,2,14],[6],[0,1,2,7],[0,1,2,7,20],[6],[0,1,2,30],[6],[6]],[],false,[],[]⟩
def ajh:zy:=⟨[[0,1,2],[0,1,2,16],[6],[0,1,2,7],[0,1,2,7,28],[0,1,2,7,8],[0,1,2,7,8,51],[0,1,2,7,69],[0,1,2,7],[0,1,7,81],[0,1,7],[6]],[],false,[],[]⟩
def ajg:zy:=⟨[[0,1,2,3],[0,1,2,3,27],[8,9,10,11],[0,1,2,3,12],[0,2,3,12,13],[0,2,3,12,13,14],[0,2,3,12,13,14,16],[0,2,3,12,13,14,16,55],[0,2,3,12,13,14,17,18],[0,2,3,12,13,14,17,18,67],[0,2,3,12,13,14,16,17],[0,2,3,12,13,14,16,17],[0,2,3,12,13,14,17,18],[0,2,3,12,13,14,17,18,94],[0,2,3,12,13,14,16,17,18],[0,2,3,12,13,14,16,17,19],[0,2,3,12,13,14,16,17,19,20],[0,2,3,12,13,14,16,17,19,20,111],[0,2,3,13,16,17,19,20,21],[0,2,3,13,16,17,19,20,21,114],[0,2,3,13,16,17,19,20,21],[0,2,3,13,16,17,19,20,21],[0,2,3,13,16,20],[0,2,3,12,13,14,16,20],[0,2,3,12,13,14,16,22],[0,2,3,12,13,14,22,150],[8,9,10,11],[8,9,10,11]],[],false,[],[]⟩
def ajk:zy:=⟨[[0,1,2],[0,1,2,10,11,12],[0,2,10,11,12,13],[0,2,10,11,12,13,39],[0,2,10,11,13],[0,2,10,11,13,44],[0,2,10,11,13,15],[0,2,11,13,15,54],[6,7,8,9],[0,2,10,11,13,15],[0,2,10,11,14],[0,2,10,13,69],[6,7,8,9],[0,2,10,13,14],[0,2,10,11,14],[0,2,10,11,14,93],[6,7,8,9],[0,2,10,11,12,14],[0,2,10,11,12,14,17],[0,2,10,11,12,13,14],[0,2,10,11,12,13,108],[6,7,8,9]],[],false,[],[]⟩
def ajj:zy:=⟨[[0,1],[0,1,28],[4,5,6],[0,1,7],[4,5,6]],[],false,[],[]⟩
def c30:aC:=fun args bx K=>match args,bx with
 |[.str s,.int .i64 a],[]=>s.size<=900000∧K (.int .i64 (Bk.eD s (Bk.aY s a))) []
 |_,_=>False
theorem R3:aC.OK Tryz.prog 30 c30:=by
 refine il (g:=Hy fun s a=>some (.int .i64 (Bk.eD s (Bk.aY s a)))) rfl fun args bx K0 h=>?_;unfold c30 at h;split at h
 ·rename_i s a;exact ⟨rfl,_,by show (if _ then _ else _)=_;rw [if_pos h.1],rfl,fun K hK=>hK.2⟩
 ·exact h.elim
def c88:aC:=fun args bx K=>match args,bx with
 |[.str s,.int .i64 a],[]=>s.size<=900000∧((Bk.LJ s (Bk.aY s a):Int)<=s.size->(Bk.bG s (Bk.aY s a)+Bk.LJ s (Bk.aY s a):Int)<=Bk.l7 s (Bk.aY s a)->K (.int .i64 (Bk.LJ s (Bk.aY s a):Nat)) [])
 |_,_=>False
theorem V3:aC.OK Tryz.prog 88 c88:=by
 refine il (g:=Hy fun s a=>some (.int .i64 (Bk.LJ s (Bk.aY s a):Nat))) rfl fun args bx K0 h=>?_;unfold c88 at h;split at h
 ·rename_i s a;have hin:Bk.bG s (Bk.aY s a)+Bk.LJ s (Bk.aY s a)<=Bk.l7 s (Bk.aY s a):=by have h1:=Bk.fT s (Bk.aY s a);have h2:=Bk.rM s (Bk.aY s a);have h3:Bk.LJ s (Bk.aY s a)<=Bk.l7 s (Bk.aY s a)-Bk.bG s (Bk.aY s a):=Bk.yu _ _ _;omega
  have h3:=Bk.tC (Bk.mG s a);exact ⟨rfl,_,by show (if _ then _ else _)=_;rw [if_pos h.1],rfl,fun K hK=>hK.2 oM oM⟩
 ·exact h.elim
def aiD:aC:=fun args bx K=>match args,bx with
 |[.int .i64 n],[]=>n<=100000000∧(∀t:ByteArray,t.size<=n.toNat->K (.str t) [])
 |_,_=>False
theorem Nt:aC.OK Tryz.prog 146 aiD:=by
 refine il (g:=fun xs=>match xs with
  |[.int .i64 n]=>if n<=100000000 then some (.str (Bk.yI 10 n.toNat)) else none
  |_=>none) rfl fun args bx K0 h=>?_
 unfold aiD at h;split at h
 ·exact ⟨rfl,_,by show (if _ then _ else _)=_;rw [if_pos h.1],rfl,fun K hK=>hK.2 _ (by rw [Bk.xz];omega)⟩
 ·exact h.elim
def aiH:aC:=fun args bx K=>match args,bx with
 |[.int .u8 c],[]=>K (.bool (Bk.LH c)) []
 |_,_=>False
theorem afK:aC.OK Tryz.prog 142 aiH:=by
 intro args bx K0 h;unfold aiH at h;split at h
 ·exact ⟨.bool (Bk.LH _),[],ig ⟨_,rfl,rfl,rfl⟩ rfl P7 (fun _ _=>Ai) fun w=>RI _ w,rfl,rfl,fun K hK=>hK⟩
 ·exact h.elim
structure BG (s:ByteArray) (a:Int) (fl:Bool):Prop where
 e:Bk.kD s a=false
 h:bt s a.toNat≠35
 f:fl=true->Bk.sI (bt s a.toNat)=false
 c:bt s a.toNat=58->Bk.kD s (a+1)=false∧(fl=true->Bk.sI (bt s (a+1).toNat)=false)
def ZA:aC:=fun args bx K=>match args,bx with
 |[.str s,.int .i64 a,.bool fl],[]=>(s.size<=900000∧0<=a)∧((a<s.size∧BG s a fl)->K (.bool true) [])∧K (.bool false) []
 |_,_=>False
theorem abe {c:Int} (h:Bk.LH c=false):c≠35∧Bk.sI c=false∧c≠58:=by unfold Bk.LH at h;simp at h;obtain ⟨h1,h2⟩:=h;exact ⟨oM,h2,oM⟩
theorem Xj {c:Int} (h:c=45∨c=63∨c=58):Bk.sI c=false:=by rcases h with rfl|rfl|rfl<;>decide
def ahN:=fN 129 Tryz.f129 47 [.tmp 6]
theorem aeG.xt {p:Prop} (g:p:=by ((first|((with_reducible refine (?_:ag _ _ _ _ _));first|exact ag.aU kV kV wV wV fun K hK=>hK.2.2|exact ag.aU kV kV wV wV fun K hK=>hK.2.1 ⟨oM,(by first|exact (have q:=abe aZ;⟨aZ,q.1,fun _=>q.2.1,fun e=>absurd e q.2.2⟩)|exact ⟨aZ,oM,fun _=>Xj oM,fun _=>⟨aZ,by intro hf;first|(simpa using hb;done)|(simp_all;done)⟩⟩)⟩|(refine ag.bool (fun hb=>?_) (fun hb=>?_)))|fail);(repeat' (first|exact bN|fail));first|done|fail)):p:=g
theorem R8:aC.OK Tryz.prog 129 ZA:=by
 intro args bx K0 h;unfold ZA at h;split at h
 ·rename_i s a fl;obtain ⟨⟨h0,h1⟩,-⟩:=h;refine ahN.okW (base:=0) rfl wV wV ?_;have B:=V.base (af.cons Jw (af.cons Ls (af.cons afK af.nil)))
  conv=>whnf
  let zA:=aji
  open aeG in exact bN
 ·exact h.elim
theorem N7 {s:ByteArray} {a:Int} (h:Bk.kD s a=false):bt s a.toNat≠10∧Bk.cZ (bt s a.toNat)=false:=by unfold Bk.kD at h;simp only [Bool.or_eq_false_iff,decide_eq_false_iff_not] at h;exact ⟨fun e=>by simp_all,by simp_all⟩
def Zz:aC:=fun args bx K=>match args,bx with
 |[.str s,.int .i64 a,.bool fl],[]=>(s.size<=900000∧0<=a∧a<=s.size)∧(∀p:Int,(a<=p∧p<=s.size)->(BG s a fl->a<s.size->a<p)->K (.int .i64 p) [])
 |_,_=>False
def P1L (s:ByteArray) (a:Int) (fl:Bool) (j:Nat) (τ:aJ):Prop:=∃p:Int,(a<=p∧p<=s.size)∧j=((s.size:Int)-p).toNat∧τ=⟨[(7,.int .i64 p),(2,.bool fl),(1,.int .i64 a),(0,.str s)],[]⟩
def P2L (s:ByteArray) (a:Int) (fl:Bool) (j:Nat) (τ:aJ):Prop:=∃p:Int,(a<=p∧p<=s.size)∧(BG s a fl->a<s.size->a<p)∧j=p.toNat∧τ=⟨[(7,.int .i64 p),(1,.int .i64 a),(0,.str s)],[]⟩
def ahM:=fN 130 Tryz.f130 85 [.tmp 6]
theorem aeF.xt {p:Prop} (g:p:=by ((first|((with_reducible refine (?_:WP _ _ _ (.loop _) ⟨[(7,_),(2,_),_,_],_⟩ _));(apply WP.loop (P1L s a fl));(case h0=>exact ⟨_,⟨oM,oM⟩,rfl,rfl⟩);(case' h=>(rintro j τ ⟨p,⟨g1,g2⟩,rfl,rfl⟩)))|((with_reducible refine (?_:WP _ _ _ (.loop _) _ _));refine WP.jB (Rx.prune [0,1,7]) ?_;(apply WP.loop (P2L s a fl));(case h0=>exact ⟨_,⟨oM,oM⟩,(by intro hb hs;apply Decidable.byContradiction;intro hc;have e:p=a:=oM;subst e;have q:=N7 hb.e;have q2:=hb.c;have q3:=hb.f;have q4:=hb.h;first|omega|(simp_all;done)|(simp_all;omega)),rfl,rfl⟩);(case' h=>(rintro j τ ⟨p,⟨g1,g2⟩,g3,rfl,rfl⟩)))|((with_reducible refine (?_:∃(j:Nat) (τ':aJ),j<_∧Rx 0 _ τ'∧_));first|(refine ⟨_,_,?_,Rx.refl,p+1,⟨oM,oM⟩,rfl,rfl⟩;omega)|(refine ⟨_,_,?_,Rx.refl,p-1,⟨oM,oM⟩,(by intro hb hs;apply Decidable.byContradiction;intro hc;have q:=N7 hb.e;have q1:=g3 hb hs;have e:p-1=a:=oM;simp_all),rfl,rfl⟩;omega))|((with_reducible refine (?_:ag _ _ _ _ _));first|exact ag.aU kV kV wV wV fun K hK=>hK.2 _ ⟨oM,oM⟩ (by intro hb hs;omega)|exact ag.aU kV kV wV wV fun K hK=>hK.2 _ ⟨oM,oM⟩ g3)|fail);(repeat' (first|exact bN|fail));first|done|fail)):p:=g
theorem R7:aC.OK Tryz.prog 130 Zz:=by
 intro args bx K0 h;unfold Zz at h;split at h
 ·rename_i s a fl;obtain ⟨⟨h0,h1,h2⟩,-⟩:=h;refine ahM.okW (base:=0) rfl wV wV ?_;have B:=V.base (af.cons Jw (af.cons RY (af.cons Ls af.nil)))
  conv=>whnf
  let zA:=ajh
  open aeF in exact bN
 ·exact h.elim
def aiQ:aC:=fun args bx K=>match args,bx with
 |[.str s,.int .i64 a,.bool fl],[]=>(s.size<=900000∧0<=a∧a<=s.size)∧(∀p:Int,(a<=p∧p<=s.size)->K (.int .i64 p) [])
 |_,_=>False
theorem YS:aC.OK Tryz.prog 130 aiQ:=by
 intro args bx K0 h;unfold aiQ at h;split at h
 ·rename_i s a fl;obtain ⟨r,b,h1,h2,h3,h4⟩:=R7 [.str s,.int .i64 a,.bool fl] [] K0 ⟨h.1,fun p hp _=>h.2 p hp⟩;exact ⟨r,b,h1,h2,h3,fun K hK=>h4 K ⟨hK.1,fun p hp _=>hK.2 p hp⟩⟩
 ·exact h.elim
theorem Nu:aC.OK Tryz.prog 129 aiR:=by
 intro args bx K0 h;unfold aiR at h;split at h
 ·rename_i s a fl;obtain ⟨r,b,h1,h2,h3,h4⟩:=R8 [.str s,.int .i64 a,.bool fl] [] K0 ⟨h.1,fun hp=>h.2.1 hp.1,h.2.2⟩;exact ⟨r,b,h1,h2,h3,fun K hK=>h4 K ⟨hK.1,fun hp=>hK.2.1 hp.1,hK.2.2⟩⟩
 ·exact h.elim
def ai5:aC:=fun args bx K=>match args,bx with
 |[.int .u8 c],[]=>∀b:Bool,K (.bool b) []
 |_,_=>False
theorem af5:aC.OK Tryz.prog 108 ai5:=by
 intro args bx K0 h;unfold ai5 at h;split at h
 ·exact ⟨.bool (Bk.MV _),[],ig ⟨_,rfl,rfl,rfl⟩ rfl P7 (fun _ _=>Ai) fun w=>EO _ w,rfl,rfl,fun K hK=>hK _⟩
 ·exact h.elim
def c95:aC:=fun args bx K=>match args,bx with
 |[.int .u8 c],[]=>∀b:Bool,K (.bool b) []
 |_,_=>False
theorem aeN:aC.OK Tryz.prog 95 c95:=by
 intro args bx K0 h;unfold c95 at h;split at h
 ·exact ⟨.bool (Bk.Z4 _),[],ig ⟨_,rfl,rfl,rfl⟩ rfl P7 (fun _ _=>Ai) fun w=>RD _ w,rfl,rfl,fun K hK=>hK _⟩
 ·exact h.elim
def ai6:aC:=fun args bx K=>match args,bx with
 |[.int .u8 c],[]=>(0<=c∧c<=255)∧∀r:Int,(-1<=r∧r<=15)->K (.int .i32 r) []
 |_,_=>False
theorem Sd:aC.OK Tryz.prog 107 ai6:=by
 intro args bx K0 h;unfold ai6 at h;split at h
 ·rename_i c;refine ⟨.int .i32 (Bk.De c),[],ig ⟨_,rfl,rfl,rfl⟩ rfl P7 (fun _ _=>FR) fun w=>kW c w h.1.1 h.1.2,rfl,rfl,fun K hK=>hK.2 _ ?_⟩;exact Bk.uh c
 ·exact h.elim
theorem Bn {s:ByteArray} (h:¬s={data:=#[]}):(0:Int)<s.size:=by
 rcases Nat.eq_zero_or_pos s.size with e|e
 ·exact absurd (by cases s;rename_i d;cases d;rename_i l;cases l with|nil=>rfl|cons x r=>simp [ByteArray.size,Array.size] at e) h
 ·omega
def c92:aC:=fun args bx K=>match args,bx with
 |[.str s,.int .i64 a],[]=>(s.size<=900000∧0<=a∧a<s.size)∧∀n:Int,(0<=n∧a+n<=s.size)->K (.int .i64 n) []
 |_,_=>False
def HD (s:ByteArray) (a:Int) (j:Nat) (τ:aJ):Prop:=∃n:Int,(1<=n∧a+n<=s.size)∧j=((s.size:Int)-n).toNat∧τ=⟨[(5,.int .i64 n),(1,.int .i64 a),(0,.str s)],[]⟩
def aly:=fN 92 Tryz.f92 38 [.tmp 4]
theorem aeE.xt {p:Prop} (g:p:=by ((first|exact Rp|exact VA|fail);(repeat' (first|exact bN|fail));first|done|fail)):p:=g
theorem aeO:aC.OK Tryz.prog 92 c92:=by
 intro args bx K0 h;unfold c92 at h;split at h
 ·rename_i s a;obtain ⟨⟨h0,h1,h2⟩,-⟩:=h;refine aly.okW (base:=0) rfl wV wV ?_;have B:=V.base (af.cons af5 af.nil)
  conv=>whnf
  repeat' (first
  |with_reducible refine WP.seq ?_
  |(with_reducible first|refine Go.mk ?_|refine WP.oC B (aH 92) ?_|refine WP.draw B (aH 92) ?_|refine WP.cond ?_|refine WP.exit ?_|refine WP.skip ?_|refine WP.ret ?_);conv=>whnf
  |with_reducible refine WP.block ?_
  |with_reducible assumption
  |with_reducible refine And.intro ?_ ?_
  |exact cL
  |(with_reducible intro h);first|(cases h;done)|(try simp only [lG,reduceCtorEq] at h);first|done|(exfalso;omega)|replace h:=h trivial aZ|replace h:=h aZ|skip
  |fail)
  refine WP.loop (HD s a) ⟨1,⟨oM,oM⟩,rfl,rfl⟩ ?_;rintro j τ ⟨n,⟨g1,g2⟩,rfl,rfl⟩;let zA:=(aH 92)
  open aeE in exact bN
 ·exact h.elim
def aiX:aC:=fun args bx K=>match args,bx with
 |[.str s,.int .i64 a],[]=>(s.size<=900000∧0<=a∧a<=s.size)∧∀n:Int,(0<=n∧a+n<=s.size)->K (.int .i64 n) []
 |_,_=>False
def NmL (s:ByteArray) (a:Int) (j:Nat) (τ:aJ):Prop:=∃n:Int,(0<=n∧a+n<=s.size)∧j=((s.size:Int)-n).toNat∧τ=⟨[(5,.int .i64 n),(1,.int .i64 a),(0,.str s)],[]⟩
def ahU:=fN 122 Tryz.f122 34 [.tmp 4]
theorem aeD.xt {p:Prop} (g:p:=by ((first|exact aeh|exact Rp|exact VA|fail);(repeat' (first|exact bN|fail));first|done|fail)):p:=g
theorem YV:aC.OK Tryz.prog 122 aiX:=by
 intro args bx K0 h;unfold aiX at h;split at h
 ·rename_i s a;obtain ⟨⟨h0,h1,h2⟩,-⟩:=h;refine ahU.okW (base:=0) rfl wV wV ?_;have B:=V.base (af.cons Jw (af.cons Ls af.nil))
  conv=>whnf
  let zA:=(aH 122)
  open aeD in exact bN
 ·exact h.elim
def aiO:aC:=fun args bx K=>match args,bx with
 |[.str s,.int .i64 a],[]=>(s.size<=900000∧0<=a)∧∀n:Int,(0<=n∧(0<n->a+n<=s.size))->K (.int .i64 n) []
 |_,_=>False
def ahJ:=fN 133 Tryz.f133 41 [.tmp 4]
theorem aeC.xt {p:Prop} (g:p:=by ((first|exact aai|exact aaj|exact VA|fail);(repeat' (first|exact bN|fail));first|done|fail)):p:=g
theorem YR:aC.OK Tryz.prog 133 aiO:=by
 intro args bx K0 h;unfold aiO at h;split at h
 ·rename_i s a;obtain ⟨⟨h0,h1⟩,-⟩:=h;refine ahJ.okW (base:=0) rfl wV wV ?_;have B:=V.base (af.cons aeN (af.cons Sd af.nil))
  conv=>whnf
  let zA:=(aH 133)
  open aeC in exact bN
 ·exact h.elim
def aiN:aC:=fun args bx K=>match args,bx with
 |[.str s,.int .i64 a],[]=>(s.size<=900000∧0<=a∧a<=s.size)∧∀n:Int,(0<=n∧a+n<=s.size)->K (.int .i64 n) []
 |_,_=>False
def ahI:=fN 134 Tryz.f134 34 [.tmp 4]
theorem aeB.xt {p:Prop} (g:p:=by ((first|exact aeh|exact aeg|exact VA|fail);(repeat' (first|exact bN|fail));first|done|fail)):p:=g
theorem afS:aC.OK Tryz.prog 134 aiN:=by
 intro args bx K0 h;unfold aiN at h;split at h
 ·rename_i s a;obtain ⟨⟨h0,h1,h2⟩,-⟩:=h;refine ahI.okW (base:=0) rfl wV wV ?_;have B:=V.base (af.cons Ls (af.cons YR af.nil))
  conv=>whnf
  let zA:=(aH 134)
  open aeB in exact bN
 ·exact h.elim
def Zy (F:ByteArray->Int->Int):aC:=fun args bx K=>match args,bx with
 |[.str s,.int .i64 a],[]=>(s.size<=900000∧0<=a)∧((0<=F s a∧(0<F s a->a+F s a<=s.size))->K (.int .i64 (F s a)) [])
 |_,_=>False
theorem QB:∃F:ByteArray->Int->Int,aC.OK Tryz.prog 133 (Zy F):=by
 have hh:∀(s:ByteArray) (p:Int),∃q:Int,(s.size<=900000∧0<=p)->aW Tryz.prog 133 [.str s,.int .i64 p] [] (.int .i64 q) []∧(0<=q∧(0<q->p+q<=s.size)):=by
  intro s p;by_cases h:s.size<=900000∧0<=p
  ·obtain ⟨r,b,h1,-,-,h4⟩:=YR [.str s,.int .i64 p] [] (fun _ _=>True) ⟨h,fun _ _=>trivial⟩;obtain ⟨q,rfl,rfl,h5⟩:=h4 (fun v bx=>∃q:Int,v=.int .i64 q∧bx=[]∧(0<=q∧(0<q->p+q<=s.size))) ⟨h,fun q hq=>⟨q,rfl,rfl,hq⟩⟩;exact ⟨q,fun _=>⟨h1,h5⟩⟩
  ·exact ⟨0,fun h'=>absurd h' h⟩
 refine ⟨fun s p=>Classical.choose (hh s p),fun args bx K0 h=>?_⟩;unfold Zy at h;split at h
 ·rename_i s p;obtain ⟨h1,h2⟩:=Classical.choose_spec (hh s p) h.1;exact ⟨_,[],h1,rfl,rfl,fun K hK=>hK.2 h2⟩
 ·exact h.elim
def aiW:aC:=fun args bx K=>match args,bx with
 |[.str s,.int .i64 a],[]=>(s.size<=900000∧0<=a∧a<=s.size)∧∀n:Int,(0<=n∧a+n<=s.size)->(a<s.size->bt s a.toNat=33->1<=n)->K (.int .i64 n) []
 |_,_=>False
def SzL (s:ByteArray) (a:Int) (j:Nat) (τ:aJ):Prop:=∃n:Int,(2<=n∧a+n<=s.size)∧j=((s.size:Int)-n).toNat∧τ=⟨[(5,.int .i64 n),(1,.int .i64 a),(0,.str s)],[]⟩
def ahT:=fN 123 Tryz.f123 89 [.tmp 4]
theorem aeA.xt {p:Prop} (g:p:=by ((first|((with_reducible refine (?_:WP _ _ _ (.loop _) _ _));refine WP.jB (Rx.prune [0,1,5]) ?_;(apply WP.loop (SzL s a));(case h0=>exact ⟨2,⟨oM,oM⟩,rfl,rfl⟩);(case' h=>(rintro j τ ⟨n,⟨g1,g2⟩,rfl,rfl⟩)))|exact aeg|((with_reducible refine (?_:ag _ _ _ _ _));first|exact ag.aU kV kV wV wV fun K hK=>hK.2 _ ⟨oM,oM⟩ (by intros;omega))|fail);(repeat' (first|exact bN|fail));first|done|fail)):p:=g
theorem afW:aC.OK Tryz.prog 123 aiW:=by
 obtain ⟨F,i133⟩:=QB;intro args bx K0 h;unfold aiW at h;split at h
 ·rename_i s a;obtain ⟨⟨h0,h1,h2⟩,-⟩:=h;refine ahT.okW (base:=0) rfl wV wV ?_;have B:=V.base (af.cons i133 (af.cons aeO (af.cons afS af.nil)))
  conv=>whnf
  let zA:=(aH 123)
  open aeA in exact bN
 ·exact h.elim
def ahQ:=fN 126 Tryz.f126 46 [.tmp 4,.tmp 5,.tmp 6]
theorem aez.xt {p:Prop} (g:p:=by ((first|((with_reducible refine (?_:ag _ _ _ _ _));first|exact ag.aU kV kV wV wV fun K hK=>hK.2.1 _ _ ⟨oM,oM⟩|exact ag.aU kV kV wV wV fun K hK=>hK.2.2 _ _ _ dE)|fail);(repeat' (first|exact bN|fail));first|done|fail)):p:=g
theorem R9:aC.OK Tryz.prog 126 aiT:=by
 intro args bx K0 h;unfold aiT at h;split at h
 ·rename_i s a;obtain ⟨⟨h0,h1,h2⟩,-⟩:=h;refine ahQ.okW (base:=0) rfl wV wV ?_;have B:=V.base (af.cons YV af.nil)
  conv=>whnf
  let zA:=ajj
  open aez in exact bN
 ·exact h.elim
def PrL (s:ByteArray) (a:Int) (fl:Bool) (j:Nat) (τ:aJ):Prop:=∃(an tg:ByteArray) (e p:Int),(a<=e∧e<=s.size)∧(e<=p∧p<=s.size)∧j=((s.size:Int)-p).toNat∧τ=⟨[(13,.int .i64 p),(12,.int .i64 e),(11,.str tg),(10,.str an),(2,.bool fl),(0,.str s)],[]⟩
def ah1:=fN 115 Tryz.f115 112 [.tmp 6,.tmp 7,.tmp 8,.tmp 9]
theorem aey.xt {p:Prop} (g:p:=by ((first|((with_reducible refine (?_:WP _ _ _ (.loop _) _ _));refine WP.jB (Rx.prune [0,2,10,11,12,13]) ?_;(apply WP.loop (PrL s a fl));(case h0=>exact ⟨_,_,_,_,⟨oM,oM⟩,⟨oM,oM⟩,rfl,rfl⟩);(case' h=>(rintro j τ ⟨u1,u2,e,p,⟨g1,g2⟩,⟨g3,g4⟩,rfl,rfl⟩)))|((with_reducible refine (?_:_->bt _ _=33->_));intro h5 h6;first|assumption|omega)|((with_reducible refine (?_:∃(j:Nat) (τ':aJ),j<_∧Rx 0 _ τ'∧_));first|((refine ⟨_,_,?_,Rx.refl,_,_,_,_,⟨?_,?_⟩,⟨?_,?_⟩,rfl,rfl⟩)<;>omega)|((refine ⟨_,_,?_,Rx.prune [0,2,10,11,12,13],_,_,_,_,⟨?_,?_⟩,⟨?_,?_⟩,rfl,rfl⟩)<;>omega))|exact aef|fail);(repeat' (first|exact bN|fail));first|done|fail)):p:=g
theorem Nw:aC.OK Tryz.prog 115 ai0:=by
 intro args bx K0 h;unfold ai0 at h;split at h
 ·rename_i s a fl;obtain ⟨⟨h0,h1,h2⟩,-⟩:=h;refine ah1.okW (base:=0) rfl wV wV ?_;have B:=V.base (af.cons Gp (af.cons Eh (af.cons Jw (af.cons Ls (af.cons YV (af.cons afW af.nil))))))
  conv=>whnf
  let zA:=ajk
  open aey in exact bN
 ·exact h.elim
def cO (ts:List ByteArray):List AV:=ts.map AV.str
def ma:List ByteArray->Nat
 |[]=>0
 |t::l=>t.size+ma l
theorem ek:∀(ts:List ByteArray),jR (cO ts)=true
 |[]=>rfl
 |t::ts=>by have:=ek ts;rw [cO,List.map_cons,jR];rw [cO] at this;rw [this];rfl
theorem rW {ts:List ByteArray} {t:ByteArray}:cO ts++[.str t]=cO (ts++[t]):=by rw [cO,cO,List.map_append];rfl
theorem Ci {ts:List ByteArray}:(cO ts).length=ts.length:=List.length_map _
theorem nT:∀a b,ma (a++b)=ma a+ma b
 |[],b=>by rw [List.nil_append,ma,Nat.zero_add]
 |t::a,b=>by rw [List.cons_append,ma,ma,nT a b,Nat.add_assoc]
theorem exT {ts:List ByteArray} {i j:Nat} {Q:AV->List AV->Prop} (hj:j=i) (hi:i<ts.length) (h:∀t r,ma (ts.take (i+1))=ma (ts.take i)+t.size->ma (ts.take (i+1))<=ma ts->Q (.str t) r):∃v r,List.drop (j*1) (cO ts)=v::r∧Q v r:=by
 subst hj;have h1:ts.take (j+1)=ts.take j++[ts[j]]:=by rw [List.take_append_getElem]
 have h2:ma (ts.take (j+1))=ma (ts.take j)+ts[j].size:=by rw [h1,nT];rfl
 have h3:ma (ts.take (j+1))<=ma ts:=by have:=congrArg ma (List.take_append_drop (j+1) ts);rw [nT] at this;omega
 refine ⟨.str ts[j],(cO ts).drop (j+1),?_,h _ _ h2 h3⟩;rw [Nat.mul_one,List.drop_eq_getElem_cons (by rw [Ci];exact hi)];congr 1;exact List.getElem_map _
def aiC:aC:=fun args bx K=>match args,bx with
 |[.sl n l],[]=>∃ts:List ByteArray,(n=ts.length∧l=cO ts)∧ma ts+2*ts.length<=90000000∧∀t:ByteArray,K (.str t) []
 |_,_=>False
def FfL (ts:List ByteArray) (j:Nat) (τ:aJ):Prop:=∃(i b:Int) (t:ByteArray),(0<=i∧i<=ts.length)∧0<=b∧(t.size+b<=ma (ts.take i.toNat)+2*i)∧j=((ts.length:Int)-i).toNat∧τ=⟨[(5,.int .i64 i),(4,.int .i64 b),(3,.str t),(0,.sl ts.length (cO ts))],[]⟩
def ahA:=fN 147 Tryz.f147 45 [.tmp 2]
theorem aaD.xt {p:Prop} (g:p:=by ((first|exact K6|exact aah|((with_reducible refine (?_:∃(v:AV) (r:List AV),_=v::r∧_));refine exT rfl oM ?_;intro t1 r1 f1 f2)|((with_reducible refine (?_:WP _ _ _ (.loop _) _ _));(apply WP.loop (FfL ts));(case h0=>exact ⟨0,0,_,⟨oM,oM⟩,oM,by (have e0:({data:=#[]}:ByteArray).size=0:=rfl);simp [e0],rfl,rfl⟩);(case' h=>(rintro j τ ⟨i,b,t,⟨p1,p2⟩,p3,p4,rfl,rfl⟩)))|((with_reducible refine (?_:∃(j:Nat) (τ':aJ),j<_∧Rx 0 _ τ'∧_));first|(have e0:Int.toNat 0=i.toNat:=oM;rw [e0] at f1 f2;refine ⟨_,_,?_,Rx.prune [0,3,4,5],i+1,_,_,⟨oM,oM⟩,?_,?_,rfl,rfl⟩<;>((try rw [show (i+1).toNat=i.toNat+1 by omega]);(try simp only [Bk.bA] at*);omega))|(refine ⟨_,_,?_,Rx.prune [0,3,4,5],i+1,_,_,⟨oM,oM⟩,?_,?_,rfl,rfl⟩<;>((try rw [show (i+1).toNat=i.toNat+1 by omega]);(try simp only [Bk.bA] at*);omega)))|((with_reducible refine (?_:ag _ _ _ _ _));first|exact ag.aU kV kV wV wV fun K hK=>(hK.elim fun L h=>h.2.2 _))|fail);(repeat' (first|exact bN|fail));first|done|fail)):p:=g
theorem afG:aC.OK Tryz.prog 147 aiC:=by
 intro args bx K0 h;unfold aiC at h;split at h
 ·obtain ⟨ts,⟨rfl,rfl⟩,h1,-⟩:=h;refine ahA.okW (base:=0) rfl (by simp [gZ,wv,ek]) rfl ?_;have B:=V.base (af.cons Nt af.nil);have e32:({data:=#[32]}:ByteArray).size=1:=rfl
  conv=>whnf
  let zA:=(aH 147)
  open aaD in exact bN
 ·exact h.elim
theorem UH {k j:Nat} {τ τ':aJ} {I:Nat->aJ->Prop} (hi:I j τ') (hr:Rx 0 τ τ') (hj:j<k):∃j τ',j<k∧Rx 0 τ τ'∧I j τ':=⟨j,τ',hj,hr,hi⟩
def ReL (s:ByteArray) (a n:Int) (fl:Bool) (j:Nat) (τ:aJ):Prop:=∃(ts:List ByteArray) (e:Int) (o:Bool),(a<e∧e<=s.size)∧((ma ts:Int)+ts.length<=2*e)∧j=((s.size:Int)-e).toNat∧τ=⟨[(14,.bool o),(13,.row 9 1 ts.length (cO ts)),(12,.int .i64 e),(3,.bool fl),(2,.int .i64 n),(0,.str s)],[]⟩
theorem ReL.mk {s:ByteArray} {a n e:Int} {fl o:Bool} {ts:List ByteArray} {N:Nat} {C:List AV} (h1:a<e∧e<=s.size) (h2:(ma ts:Int)+ts.length<=2*e) (hN:N=ts.length) (hC:C=cO ts):ReL s a n fl ((s.size:Int)-e).toNat ⟨[(14,.bool o),(13,.row 9 1 N C),(12,.int .i64 e),(3,.bool fl),(2,.int .i64 n),(0,.str s)],[]⟩:=by subst hN hC;exact ⟨ts,e,o,h1,h2,rfl,rfl⟩
def BlL (s:ByteArray) (n e:Int) (fl o:Bool) (ts:List ByteArray) (j:Nat) (τ:aJ):Prop:=∃(b f:Int),(0<=b∧e+b+1<=f∧f<=s.size+1)∧j=((s.size:Int)+1-f).toNat∧τ=⟨[(18,.int .i64 f),(17,.int .i64 b),(14,.bool o),(13,.row 9 1 ts.length (cO ts)),(12,.int .i64 e),(3,.bool fl),(2,.int .i64 n),(0,.str s)],[]⟩
def ApL (s:ByteArray) (n b p q t:Int) (fl:Bool) (ts:List ByteArray) (j:Nat) (τ:aJ):Prop:=∃(i:Int) (us:List ByteArray),(0<=i∧(i<=b∨i=0))∧(ma us=ma ts∧(us.length:Int)=ts.length+i)∧j=(b-i).toNat∧τ=⟨[(21,.int .i64 i),(20,.int .i64 q),(19,.int .i64 p),(17,.int .i64 b),(16,.int .i64 t),(13,.row 9 1 us.length (cO us)),(3,.bool fl),(2,.int .i64 n),(0,.str s)],[]⟩
theorem ApL.mk {s:ByteArray} {n b p q t i:Int} {fl:Bool} {ts us:List ByteArray} {N:Nat} {C:List AV} (h1:0<=i∧(i<=b∨i=0)) (h2:ma us=ma ts∧(us.length:Int)=ts.length+i) (hN:N=us.length) (hC:C=cO us):ApL s n b p q t fl ts (b-i).toNat ⟨[(21,.int .i64 i),(20,.int .i64 q),(19,.int .i64 p),(17,.int .i64 b),(16,.int .i64 t),(13,.row 9 1 N C),(3,.bool fl),(2,.int .i64 n),(0,.str s)],[]⟩:=by subst hN hC;exact ⟨i,us,h1,h2,rfl,rfl⟩
theorem szE:({data:=#[]}:ByteArray).size=0:=rfl
def ahG:=fN 136 Tryz.f136 156 [.tmp 8,.tmp 9,.tmp 10,.tmp 11]
theorem aaC.xt {p:Prop} (g:p:=by ((first|((with_reducible refine (?_:_∧BG _ _ _->_));rintro ⟨u1,u2⟩)|exact rX|((with_reducible refine (?_:WP _ _ _ (.loop _) ⟨(14,_)::_,_⟩ _));(apply WP.loop (ReL s a n fl));(case h0=>exact ReL.mk (ts:=[_]) ⟨oM,oM⟩ (by (try simp only [lL,nT,ma,ByteArray.size_extract,ByteArray.size_empty,szE] at*);omega) rfl rfl);(case' h=>(rintro j τ ⟨ts,e,o,⟨g1,g2⟩,g3,rfl,rfl⟩)))|((with_reducible refine (?_:WP _ _ _ (.loop _) ⟨(18,_)::_,_⟩ _));(apply WP.loop (BlL s n e fl o ts));(case h0=>exact ⟨0,_,⟨oM,oM,oM⟩,rfl,rfl⟩);(case' h=>(rintro j τ ⟨b,f,⟨q1,q2,q3⟩,rfl,rfl⟩)))|((with_reducible refine (?_:WP _ _ _ (.loop _) ⟨(21,_)::_,_⟩ _));(apply WP.loop (ApL s n b _ _ _ fl ts));(case h0=>exact ⟨0,ts,⟨oM,oM⟩,⟨rfl,oM⟩,rfl,rfl⟩);(case' h=>(rintro j τ ⟨i,us,⟨w1,w2⟩,⟨w3,w4⟩,rfl,rfl⟩)))|((with_reducible refine (?_:∃(j:Nat) (τ':aJ),j<_∧Rx 0 _ τ'∧_));first|(refine ⟨_,_,?_,Rx.refl,b+1,_,⟨oM,oM,oM⟩,rfl,rfl⟩;omega)|(refine UH (ApL.mk (i:=i+1) (us:=us++[_]) ⟨oM,oM⟩ ⟨(by (try simp only [lL,nT,ma,ByteArray.size_extract,ByteArray.size_empty,szE] at*);omega),(by (try simp only [lL,nT,ma,ByteArray.size_extract,ByteArray.size_empty,szE] at*);omega)⟩ (by rw [List.length_append];rfl) rW) Rx.refl oM)|(refine UH (ReL.mk (ts:=us++[_]) ⟨oM,oM⟩ (by (try simp only [lL,nT,ma,ByteArray.size_extract,ByteArray.size_empty,szE] at*);omega) (by rw [List.length_append];rfl) rW) Rx.refl oM)|(refine UH (ReL.mk (ts:=us++[_]) ⟨oM,oM⟩ (by (try simp only [lL,nT,ma,ByteArray.size_extract,ByteArray.size_empty,szE] at*);omega) (by rw [List.length_append];rfl) rW) (Rx.prune [0,2,3,12,13,14]) oM))|((with_reducible refine (?_:∃ts:List ByteArray,(_∧_)∧_));refine ⟨ts,⟨rfl,rfl⟩,oM,?_⟩)|exact aef|fail);(repeat' (first|exact bN|fail));first|done|fail)):p:=g
theorem YQ:aC.OK Tryz.prog 136 aiM:=by
 intro args bx K0 h;unfold aiM at h;split at h
 ·rename_i s a n fl;obtain ⟨⟨h0,h1,h2⟩,-⟩:=h;refine ahG.okW (base:=0) rfl wV wV ?_;have B:=V.base (af.cons R8 (af.cons R7 (af.cons R3 (af.cons V3 (af.cons Gp (af.cons Eh (af.cons Jw (af.cons afG af.nil))))))))
  conv=>whnf
  let zA:=ajg
  open aaC in exact bN
 ·exact h.elim
def wfF (k y:Int) (kids:List Nd) (ae:List Cm) (h:Bool) (tr:ByteArray):Prop:=((k=1∧1<=y∧y<=5∧kids=[]∧ae=[])∨(k=2∧y=0∧kids=[]∧ae=[])∨(k=3∧y=7)∨(k=4∧y=7∧kids.length % 2=0))∧(h=false->tr=ByteArray.empty)
inductive xX:Int->Int->List Nd->List Cm->Bool->ByteArray->Prop
 |mk {k y:Int} {kids:List Nd} {ae:List Cm} {t:Bool} {tr:ByteArray} (h:wfF k y kids ae t tr) (hk:∀z ∈ kids,xX z.k z.y z.kids z.ae z.h z.tr):xX k y kids ae t tr
abbrev FW (x:Nd):Prop:=xX x.k x.y x.kids x.ae x.h x.tr
theorem xX.out {k y:Int} {kids:List Nd} {ae:List Cm} {t:Bool} {tr:ByteArray} (h:xX k y kids ae t tr):wfF k y kids ae t tr∧∀z ∈ kids,FW z:=by
 cases h with
 |mk h hk=>exact ⟨h,hk⟩
theorem xX.leaf {k y:Int} (h1:k=1∧1<=y∧y<=5∨k=2∧y=0):xX k y [] [] false ByteArray.empty:=by
 refine .mk ⟨?_,fun _=>rfl⟩ (by intro z hz;cases hz);rcases h1 with ⟨a,b,c⟩|⟨a,b⟩
 ·exact .inl ⟨a,b,c,rfl,rfl⟩
 ·exact .inr (.inl ⟨a,b,rfl,rfl⟩)
theorem xX.QH {k y:Int} {kids:List Nd} {ae:List Cm} {t:Bool} {tr EF:ByteArray} (h:xX k y kids ae t tr):xX k y kids ae true EF:=.mk ⟨h.out.1.1,fun h=>by cases h⟩ h.out.2
theorem xX.plain:xX 1 1 [] [] false ByteArray.empty:=.leaf (.inl ⟨rfl,dE,dE⟩)
theorem xX.sq:xX 1 2 [] [] false ByteArray.empty:=.leaf (.inl ⟨rfl,dE,dE⟩)
theorem xX.dq:xX 1 3 [] [] false ByteArray.empty:=.leaf (.inl ⟨rfl,dE,dE⟩)
theorem xX.al:xX 2 0 [] [] false ByteArray.empty:=.leaf (.inr ⟨rfl,rfl⟩)
def BO:Nd:=.mk 0 0 0 0 ByteArray.empty ByteArray.empty ByteArray.empty [] [] [] false ByteArray.empty
def acJ:List AV:=[.int .i64 0,.int .i64 0,.int .i64 0,.int .i64 0,.str ByteArray.empty,.str ByteArray.empty,.str ByteArray.empty,.sl 0 [],.sl 0 [],.sl 0 [],.bool false,.str ByteArray.empty,.bool false,.bool false,.bool false,.int .i64 0]
def MB (m:Nat):aC:=fun args bx K=>match args,bx with
 |[.ptr 0 0,.int .i64 deep],[[.str s,.int .i64 p,.int .i64 n,.nil,.int .i64 e]]=>(s.size<=900000∧0<=p∧p<s.size∧e=0∧0<=deep∧deep<=40∧10*(45-deep)+1<=m)∧
  (∀(x:Nd) (q:Int),FW x->x.lead.length=0->(p<q∧q<=s.size∧wt x+4<=8*(q-p))->K (.bX [.agg (bF x),.bool true]) [rB s q n])∧
  (∀x:Nd,K (.bX [.agg (bF x),.bool false]) [rF s n])
 |_,_=>False
def Uv (m:Nat):aC:=fun args bx K=>match args,bx with
 |[.ptr 0 0,.int .i64 deep,.bool prop],[[.str s,.int .i64 p,.int .i64 n,.nil,.int .i64 e]]=>(s.size<=900000∧0<=p∧p<=s.size∧e=0∧0<=deep∧deep<=40∧10*(45-deep)+2<=m)∧
  (∀(x:Nd) (near one:Bool) (q:Int),FW x->x.lead.length=0->(p<q∧q<=s.size∧wt x+4<=8*(q-p))->K (.bX [.agg (fd x true near one q),.bool true]) [rB s q n])∧
  K (.bX [.agg acJ,.bool true]) [rB s p n]∧
  (∀(x:Nd) (any near one:Bool) (e:Int),K (.bX [.agg (fd x any near one e),.bool false]) [rF s n])
 |_,_=>False
def Uw (m:Nat):aC:=fun args bx K=>match args,bx with
 |[.ptr 0 0,.int .i64 deep],[[.str s,.int .i64 p,.int .i64 n,.nil,.int .i64 e]]=>(s.size<=900000∧0<=p∧p<=s.size∧e=0∧0<=deep∧deep<=40∧10*(45-deep)+3<=m)∧
  (∀(x:Nd) (near one:Bool) (q:Int),FW x->(p<q∧q<=s.size∧wt x+4<=8*(q-p))->K (.bX [.agg (fd x true near one q),.bool true]) [rB s q n])∧
  (∀(x:Nd) (near one:Bool) (e:Int),K (.bX [.agg (fd x false near one e),.bool true]) [rB s p n])∧
  (∀(x:Nd) (any near one:Bool) (e:Int),K (.bX [.agg (fd x any near one e),.bool false]) [rF s n])
 |_,_=>False
def Ka (m:Nat):aC:=fun args bx K=>match args,bx with
 |[.ptr 0 0,.int .i64 deep],[[.str s,.int .i64 p,.int .i64 n,.nil,.int .i64 e]]=>(s.size<=900000∧0<=p∧p<=s.size∧e=0∧0<=deep∧deep<=40∧10*(45-deep)+4<=m)∧
  (∀(x:Nd) (near one:Bool) (q:Int),FW x->(p<q∧q<=s.size∧wt x+4<=8*(q-p))->K (.bX [.agg (fd x true near one q),.bool true]) [rB s q n])∧
  (∀(x:Nd) (any near one:Bool) (e:Int),K (.bX [.agg (fd x any near one e),.bool false]) [rF s n])
 |_,_=>False
def PH (m:Nat):aC:=fun args bx K=>match args,bx with
 |[.ptr 0 0,.sl nl ll,.int .i64 deep],[[.str s,.int .i64 p,.int .i64 n,.nil,.int .i64 e]]=>∃L:List Cm,dC nl ll L∧(s.size<=900000∧0<=p∧p<=s.size∧e=0∧0<=deep∧deep<=40∧L.length<=10000000∧10*(45-deep)+5<=m)∧
  (∀(x:Nd) (l:List Cm) (same:Bool) (e q:Int),FW x->(p<=q∧q<=s.size∧wt x+l.length<=8*(q-p)+1+L.length)->K (.bX [.agg (bF x),Hw l same e,.bool true]) [rB s q n])∧
  (∀(x:Nd) (l:List Cm) (same:Bool) (e:Int),K (.bX [.agg (bF x),Hw l same e,.bool false]) [rF s n])
 |_,_=>False
def PN (m:Nat):aC:=fun args bx K=>match args,bx with
 |[.ptr 0 0,.int .i64 deep],[[.str s,.int .i64 p,.int .i64 n,.nil,.int .i64 e]]=>(s.size<=900000∧0<=p∧p<s.size∧e=0∧0<=deep∧deep<=40∧10*(45-deep)+5<=m)∧
  (∀(l:List Cm) (x:Nd) (any near one:Bool) (e q:Int),FW x->(p<q∧q<=s.size∧wt x+l.length+4<=8*(q-p))->K (.bX [cs l,.agg (fd x any near one e),.bool true]) [rB s q n])∧
  (∀(l:List Cm) (x:Nd) (any near one:Bool) (e:Int),K (.bX [cs l,.agg (fd x any near one e),.bool false]) [rF s n])
 |_,_=>False
def PM (m:Nat):aC:=fun args bx K=>match args,bx with
 |[.ptr 0 0,.agg [.int .i64 k1,.int .i64 y1,.int .i64 p1,.int .i64 b1,.str ed,.str dZ,.str dY,.sl n1 l1,.sl n2 l2,.sl n3 l3,.bool h1,.str dU,.bool any,.bool near,.bool one,.int .i64 e1],.int .i64 deep],[[.str s,.int .i64 p,.int .i64 n,.nil,.int .i64 e]]=>(jR l1=true∧jR l2=true∧jR l3=true)∧(s.size<=900000∧0<=p∧p<=s.size∧e=0∧0<=deep∧deep<=40∧10*(45-deep)+6<=m)∧
  (∀(x:Nd) (l:List Cm) (same:Bool) (e q:Int),FW x->(p<=q∧q<=s.size∧wt x+l.length<=8*(q-p)+1)->(any=false->yn s p near=true->p<q∧wt x+l.length+4<=8*(q-p))->K (.bX [.agg (bF x),Hw l same e,.bool true]) [rB s q n])∧
  (∀(x:Nd) (l:List Cm) (same:Bool) (e:Int),K (.bX [.agg (bF x),Hw l same e,.bool false]) [rF s n])
 |_,_=>False
def Uz:aC:=fun args bx K=>match args,bx with
 |[.str s,.int .i64 a,.int .i64 n],[]=>(s.size<=900000∧0<=a∧a<s.size)∧(∀(t:ByteArray) (p:Int) (one:Bool),(a<p∧p<=s.size)->K (.bX [.str t,.int .i64 p,.bool one,.int .i64 0]) [])∧K (.bX [.str ByteArray.empty,.nP .i64,.bool false,.nz .i64]) []
 |_,_=>False
def ML (c:AV):Prop:=(∃k,c=.int .i64 k)∨c=.nz .i64
theorem ML.int (k:Int):ML (.int .i64 k):=.inl ⟨k,rfl⟩
theorem ML.nz:ML (.nz .i64):=.inr rfl
def U6 (first b:Int) (n:Nat) (l:List AV):List AV:=[.int .i64 4,.int .i64 7,.int .i64 first,.int .i64 b,.str ByteArray.empty,.str ByteArray.empty,.str ByteArray.empty,.bU 1 35 12 2,.sl n l,.nil,.bool false,.str ByteArray.empty]
def aiz:aC:=fun args bx K=>match args,bx with
 |[.ptr 0 0,.int .i64 first,.sl nl ll,.agg kc,.agg vc],[[.str s,a,.int .i64 n,.nil,c]]=>∃(L:List Cm) (x y:Nd),dC nl ll L∧kc=bF x∧vc=bF y∧(s.size<=900000∧Hq a∧ML c)∧
  (∀b:Int,(0<=b∧b<=900000)->K (.agg (U6 first b L.length (fQ L))) [[.str s,a,.int .i64 n,.nil,c],bF x++bF y])
 |_,_=>False
def Mx (m:Nat):aC:=fun args bx K=>match args,bx with
 |[.ptr 0 0,.sl nl ll,.int .i64 deep],[[.str s,.int .i64 p,.int .i64 n,.nil,.int .i64 e]]=>∃L:List Cm,dC nl ll L∧(s.size<=900000∧0<=p∧p<=s.size∧e=0∧0<=deep∧deep<=39∧L.length<=10000000∧10*(45-deep)<=m)∧
  (∀(x:Nd) (l:List Cm) (same:Bool) (e q:Int),FW x->(p<q∧q<=s.size∧wt x+l.length<=8*(q-p)+L.length)->K (.bX [.agg (bF x),Hw l same e,.bool false,.bool true]) [rB s q n])∧
  (∀(x y:Nd) (M l:List Cm) (first b:Int) (same:Bool) (e q:Int),FW x->FW y->(p<q∧q<=s.size∧1+M.length+wt x+wt y+l.length<=8*(q-p)+L.length)->K (.bX [.agg (U6 first b M.length (fQ M)),Hw l same e,.bool true,.bool true]) [rB s q n,bF x++bF y])∧
  (∀(x:Nd) (l:List Cm) (same two:Bool) (e:Int),K (.bX [.agg (bF x),Hw l same e,.bool two,.bool false]) [rF s n])∧
  (∀(x y:Nd) (M l:List Cm) (first b:Int) (same:Bool) (e:Int),K (.bX [.agg (U6 first b M.length (fQ M)),Hw l same e,.bool true,.bool false]) [rF s n,bF x++bF y])
 |_,_=>False
def Mw (m:Nat):aC:=fun args bx K=>match args,bx with
 |[.ptr 0 0,.sl nl ll,.int .i64 deep],[[.str s,.int .i64 p,.int .i64 n,.nil,.int .i64 e]]=>∃L:List Cm,dC nl ll L∧(s.size<=900000∧0<=p∧p<=s.size∧e=0∧0<=deep∧deep<=39∧L.length<=10000000∧10*(45-deep)<=m)∧
  (∀(x y:Nd) (l:List Cm) (same:Bool) (e q:Int),FW x->FW y->(p<q∧q<=s.size∧wt x+wt y+l.length<=8*(q-p)+L.length)->K (.bX [.agg (bF x),.agg (bF y),Hw l same e,.bool true]) [rB s q n])∧
  (∀(x y:Nd) (l:List Cm) (same:Bool) (e:Int),K (.bX [.agg (bF x),.agg (bF y),Hw l same e,.bool false]) [rF s n])
 |_,_=>False
def ahm:=fN 165 Tryz.f165 29 [.cell 4 180,.tmp 5]
theorem adY.xt {p:Prop} (g:p:=by ((first|((with_reducible refine (?_:ag _ _ _ _ _));first|exact ag.mk fU fU fun K hK=>hK.2.1 _ _ _ _ aZ aZ|exact ag.mk fU fU fun K hK=>hK.2.2 _ _ _ _ _)|fail);(repeat' (first|exact bN|fail));first|done|fail)):p:=g
theorem afy {m:Nat} (i168:aC.OK Tryz.prog 168 (Uw m)):aC.OK Tryz.prog 165 (Ka (m+1)):=by
 intro args bx K0 h;unfold Ka at h;split at h
 ·rename_i deep s p n e;obtain ⟨⟨h0,h1,h2,rfl,h3,h4,h5⟩,-⟩:=h;refine ahm.okW (base:=1) rfl fU fU ?_;have B:=V.base (af.cons i168 (af.cons CO af.nil))
  conv=>whnf
  let zA:=(aH 165)
  open adY in exact bN
 ·exact h.elim
def ahj:=fN 168 Tryz.f168 122 [.cell 4 180,.tmp 5]
theorem adX.xt {p:Prop} (g:p:=by ((first|((with_reducible refine (?_:ag _ _ _ _ _));first|exact ag.aU kV kV fU fU fun K hK=>hK.2.2.2 _ _ _ _ _|exact ag.aU kV kV fU fU fun K hK=>hK.2.2.2 BO _ _ _ _|exact ag.aU kV kV fU fU fun K hK=>hK.2.2.1 _ _ _ _|exact ag.aU kV kV fU fU fun K hK=>hK.2.2.1 xH _ _ _|exact ag.aU kV kV fU fU fun K hK=>hK.2.1 (.mk _ _ _ _ _ _ _ _ _ _ _ _) _ _ _ Px oW)|fail);(repeat' (first|exact bN|fail));first|done|fail)):p:=g
theorem afv {m:Nat} (i169:aC.OK Tryz.prog 169 (Uv m)):aC.OK Tryz.prog 168 (Uw (m+1)):=by
 intro args bx K0 h;unfold Uw at h;split at h
 ·rename_i deep s p n e;obtain ⟨⟨h0,h1,h2,rfl,h3,h4,h5⟩,-⟩:=h;refine ahj.okW (base:=1) rfl fU fU ?_;have B:=V.base (af.cons i169 (af.cons Nw (af.cons CO (af.cons E9 (af.cons yF (af.cons R4 af.nil))))))
  conv=>whnf
  let zA:=(aH 168)
  open adX in exact bN
 ·exact h.elim
end V
end
end Go.Proofs.YtlmjabnkjmfcmaaGreat
