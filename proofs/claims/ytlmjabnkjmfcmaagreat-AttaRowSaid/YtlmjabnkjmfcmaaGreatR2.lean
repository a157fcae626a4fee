/- Parts of a proof; no condition. -/
import Derived.Test.YtlmjabnkjmfcmaaGreatR1
import Derived.Laws.CopyOwn
namespace Go.Proofs.YtlmjabnkjmfcmaaGreat
open Go Go.RowKit Go.PlainAid
set_option linter.unusedVariables false
set_option linter.unusedSimpArgs false
set_option linter.unusedSectionVars false
set_option maxHeartbeats 20000000
set_option linter.defProp false
section
variable [nM]
namespace Ab
variable {lim : Nat -> Nat} {bs : List Nat} {w : World} {P : Program} {T : kZ} {a : Act} {o : Oper} {cs : List (List AV)} {out : Out}
theorem nJ {x:AV} (h:x.flat=true):x.isRow=false:=by cases x<;>first|rfl|(rw [AV.flat] at h;cases h)
structure PO (P:Program) (lim:Nat->Nat) (bs:List Nat) (w:World) (a:Act) (o:Oper) (cs:List (List AV)) (out:Out):Prop where
 bs_:out.bs=cs
 nw:out.nw=[]
 fl:out.v.flat=true
 run:∃u,(execOp a.eval o).run P w=.ok (.value u) w∧AV.R lim bs w out.v u
structure Av (lim:Nat->Nat) (bs:List Nat) (w:World) (x:AV) (u:Value):Prop where
 r:AV.R lim bs w x u
 t:x.top=true
theorem Av.flat {x:AV} {u:Value} (h:Av lim bs w x u):x.cO.flat=true:=AV.R.qc h.t h.r
theorem dS {v:AV} {cs:List (List AV)} {ok:Bool} (h:gQ v cs ok=some out):out=⟨v,cs,[],ok⟩:=by unfold gQ at h;cases h;rfl
theorem kK {v:AV} {cs:List (List AV)} (h:yes v cs=some out):out=⟨v,cs,[],true⟩:=by unfold yes at h;cases h;rfl
theorem aiO (HT:mM P T) {op:BinOp} {t t':TypeId} {x y:Operand} {X Y:AV} (ho:o.op=.binOp op t x y t') (hx:Av lim bs w X (a.eval x)) (hy:Av lim bs w Y (a.eval y)) (h:NH op t X Y cs=some out) (hok:out.ok=true):PO P lim bs w a o cs out:=by
 unfold NH at h;split at h
 ·rename_i v ok hb;have:=dS h;subst this;obtain ⟨u,h1,h2,h3,-⟩:=abD (P:=P) (t:=t) (ox:=x) (oy:=y) hb hok hx.r hy.r;refine ⟨rfl,rfl,h3,u,?_,h2⟩;unfold execOp;simp only [ho];rw [Sem.run_bind,h1];rfl
 ·split at h
  ·cases h
  ·rename_i b hb;split at h
   ·have:=kK h;subst this;refine ⟨rfl,rfl,rfl,.bool b,?_,by rw [AV.R]⟩;unfold execOp;simp only [ho];rw [Sem.run_bind,Po HT hb (.inl rfl) hx.r hy.r];rfl
   ·have:=kK h;subst this;refine ⟨rfl,rfl,rfl,.bool !b,?_,by rw [AV.R]⟩;unfold execOp;simp only [ho];rw [Sem.run_bind,Po HT hb (.inr rfl) hx.r hy.r];rfl
   ·cases h
theorem afl {c x y:Operand} {C X Y:AV} (ho:o.op=.pick c x y) (hc:Av lim bs w C (a.eval c)) (hx:Av lim bs w X (a.eval x)) (hy:Av lim bs w Y (a.eval y)) (h:VC C X Y cs=some out):PO P lim bs w a o cs out:=by
 unfold VC at h;split at h
 ·rename_i t;have:=kK h;subst this;have h1:=hc.r;rw [AV.R] at h1;refine ⟨rfl,rfl,?_,if t=true then a.eval x else a.eval y,?_,?_⟩
  ·show (if t=true then X.cO else Y.cO).flat=true;split
   ·exact hx.flat
   ·exact hy.flat
  ·unfold execOp;simp only [ho,h1,asBool];cases t<;>rfl
  ·show AV.R lim bs w (if t=true then X.cO else Y.cO) _;split
   ·exact hx.r.cO
   ·exact hy.r.cO
 ·cases h
theorem aiM {x:Operand} {X:AV} (ho:o.op=.nilCheck x) (hx:Av lim bs w X (a.eval x)) (h:ac5 X cs=some out):PO P lim bs w a o cs out:=by
 unfold ac5 at h;split at h
 ·rename_i i o';have:=kK h;subst this;have h1:=hx.r;rw [AV.R] at h1;obtain ⟨b,h2,h3⟩:=h1;refine ⟨rfl,rfl,rfl,a.eval x,?_,hx.r⟩;unfold execOp;simp only [ho,h3];rfl
 ·rename_i l;have:=kK h;subst this;have h1:=hx.r;have hf:=hx.t;rw [AV.R] at h1;obtain ⟨b,o',h3,-⟩:=h1;refine ⟨rfl,rfl,by simpa [AV.top,AV.isRow] using hf,a.eval x,?_,hx.r⟩;unfold execOp;simp only [ho,h3];rfl
 ·cases h
theorem aiL {op:UnOp} {t:TypeId} {x:Operand} {X:AV} (ho:o.op=.unOp op t x) (hx:Av lim bs w X (a.eval x)) (h:ac4 op X cs=some out):PO P lim bs w a o cs out:=by
 unfold ac4 at h;split at h
 ·rename_i b;split at h
  ·have:=kK h;subst this;have h1:=hx.r;rw [AV.R] at h1;refine ⟨rfl,rfl,rfl,.bool !b,?_,by rw [AV.R]⟩;unfold execOp;simp only [ho,h1];rfl
  ·cases h
 ·cases h
theorem afo (HT:mM P T) {s t:TypeId} {x:Operand} {X:AV} (ho:o.op=.convert s t x) (hx:Av lim bs w X (a.eval x)) (h:QE s t X cs=some out) (hok:out.ok=true):PO P lim bs w a o cs out:=by
 unfold QE at h;split at h
 ·rename_i k n;have:=dS h;subst this;have h1:=hx.r;rw [AV.R] at h1;obtain ⟨e1,e2⟩:s=5∧t=3:=by simpa using hok
  subst e1 e2;refine ⟨rfl,rfl,rfl,.int .i64 (IntKind.i64.wrap n),?_,by rw [AV.R]⟩;unfold execOp;simp only [ho,h1,convert,Sem.run_bind,run_underlying HT.u8,run_underlying HT.i64,Result.andThen_ok,Conv.intToInt,Sem.run_pure]
 ·cases h
theorem afm {x:Operand} {X:AV} (ho:o.op=.move x) (hx:Av lim bs w X (a.eval x)) (h:yes X.cO cs=some out):PO P lim bs w a o cs out:=by have:=kK h;subst this;refine ⟨rfl,rfl,hx.flat,a.eval x,?_,hx.r.cO⟩;unfold execOp;simp only [ho];rfl
theorem Pg (HT:mM P T) {t f:Nat} {x:Operand} {X:AV} {d:TD} {q:Nat×Nat×Bool} (ho:o.op=.fieldAddr t x f) (ht:T t=some d) (hq:d.jG[f]?=some q) (hx:Av lim bs w X (a.eval x)) (h:kE q X cs=some out) (hok:out.ok=true):PO P lim bs w a o cs out:=by
 unfold kE at h;split at h
 ·rename_i i o';have:=dS h;subst this;have hp:0<q.2.1:=by simpa using hok
  have h1:=hx.r;rw [AV.R] at h1;obtain ⟨b,h2,h3⟩:=h1;refine ⟨rfl,rfl,rfl,.pointer (some ⟨b,o'+q.1,none⟩),?_,by rw [AV.R];exact ⟨b,h2,rfl⟩⟩;unfold execOp;simp only [ho,h3];rw [Sem.run_bind,FU HT ht hq hp];rfl
 ·rename_i l;have:=dS h;subst this;obtain ⟨hp,hl⟩:0<q.2.1∧q.1<l.length:=by simpa using hok
  have h1:=hx.r;have hf:=hx.t;rw [AV.R] at h1;obtain ⟨b,o',h3,h4,h5,h6⟩:=h1;refine ⟨rfl,rfl,?_,.pointer (some ⟨b,o'+q.1,none⟩),?_,?_⟩
  ·show AV.aj (l.drop q.1)=true;exact qL (by simpa [AV.top,AV.isRow,AV.flat] using hf)
  ·unfold execOp;simp only [ho,h3];rw [Sem.run_bind,FU HT ht hq hp];rfl
  ·show AV.R lim bs w (.el (l.drop q.1)) _;rw [AV.R];exact ⟨b,o'+q.1,rfl,h4,by rw [List.length_drop];omega,Hl h6⟩
 ·cases h
theorem aby (HT:mM P T) {t:TypeId} {x i:Operand} {X I:AV} (ho:o.op=.index t x i) (hx:Av lim bs w X (a.eval x)) (hi:Av lim bs w I (a.eval i)) (h:Jl t X I cs=some out) (hok:out.ok=true):PO P lim bs w a o cs out:=by
 unfold Jl at h;split at h
 ·rename_i s;split at h
  ·rename_i k n;have:=dS h;subst this;obtain ⟨⟨h0,h1⟩,rfl⟩:(0<=n∧n<s.size)∧t=9:=by simpa using hok
   have e1:=hx.r;have e2:=hi.r;rw [AV.R] at e1;rw [AV.R] at e2;refine ⟨rfl,rfl,rfl,.int .u8 (bt s n.toNat),?_,by rw [AV.R]⟩;unfold execOp;simp only [ho,e1,e2];rw [Sem.run_bind,Wq HT h0 h1];rfl
  ·cases h
 ·cases h
theorem D5 {X:AV} {u:Value} {n:Nat} {l:List AV} (hx:Av lim bs w X u) (h:elems X=some (n,l)):
  ∃ad c,u=.slice ad n c∧n<=c∧AV.aj l=true∧(l=[]∨∃b o,ad=some ⟨b,o,none⟩∧b<w.heap.size∧o+l.length<=lim b∧AV.Rm lim bs w b o l):=by
 have hr:=hx.r.cO;have hf:=hx.flat;unfold elems at h;split at h
 ·cases h;replace hr:AV.R lim bs w .nil u:=hr;rw [AV.R] at hr;subst hr;exact ⟨none,0,rfl,Nat.le_refl _,rfl,.inl rfl⟩
 ·cases h;replace hr:AV.R lim bs w (.sl n l) u:=hr;rw [AV.R] at hr;obtain ⟨ad,c,h1,h2,h3⟩:=hr;exact ⟨ad,c,h1,h2,hf,h3⟩
 ·cases h;replace hr:AV.R lim bs w (.sl n l) u:=hr;rw [AV.R] at hr;obtain ⟨ad,c,h1,h2,h3⟩:=hr;exact ⟨ad,c,h1,h2,hf,h3⟩
 ·cases h
theorem Pe (HT:mM P T) {t e:Nat} {x i:Operand} {X I:AV} {d:TD} (ho:o.op=.indexAddr t x i) (he:AA T t=some (e,d)) (hx:Av lim bs w X (a.eval x)) (hi:Av lim bs w I (a.eval i)) (h:qQ d X I cs=some out) (hok:out.ok=true):PO P lim bs w a o cs out:=by
 unfold qQ at h;split at h
 ·rename_i b e' z m;split at h
  ·rename_i k n;have:=dS h;subst this;obtain ⟨⟨h0,h1⟩,h2⟩:(0<=n∧n<m)∧d.size=z:=by simpa using hok
   subst h2;have e1:=hx.r;rw [AV.R] at e1;obtain ⟨bb,c,cur,f1,-,-,f2,-,f3⟩:=e1;have e5:=hi.r;rw [AV.R] at e5;refine ⟨rfl,rfl,rfl,.pointer (some ⟨bb,0+n.toNat*d.size,none⟩),?_,?_⟩
   ·unfold execOp;simp only [ho,f3,e5];rw [Sem.run_bind,FT HT he h0 h1];rfl
   ·rw [AV.R,Nat.zero_add];exact ⟨bb,f1,rfl⟩
  ·cases h
 ·split at h
  ·cases h
  ·rename_i m l hl;split at h
   ·rename_i k n;have:=dS h;subst this;obtain ⟨⟨h0,h1⟩,h2⟩:(0<=n∧n<m)∧n.toNat*d.size<l.length:=by simpa using hok
    obtain ⟨ad,c,e1,e2,e3,e4⟩:=D5 hx hl;have e5:=hi.r;rw [AV.R] at e5;rcases e4 with e4|⟨b,o',rfl,f1,f2,f3⟩
    ·subst e4;simp at h2
    refine ⟨rfl,rfl,qL e3,.pointer (some ⟨b,o'+n.toNat*d.size,none⟩),?_,?_⟩
    ·unfold execOp;simp only [ho,e1,e5];rw [Sem.run_bind,FT HT he h0 h1];rfl
    ·show AV.R lim bs w (.el (l.drop _)) _;rw [AV.R];exact ⟨b,_,rfl,f1,by rw [List.length_drop];omega,Hl f3⟩
   ·cases h
theorem Wp {x:Operand} {X:AV} {i:Nat} (ho:o.op=.extract x i) (hx:Av lim bs w X (a.eval x)) (h:zN X i cs=some out):PO P lim bs w a o cs out:=by
 unfold zN at h;split at h
 ·rename_i l;split at h
  ·rename_i v hv;have:=kK h;subst this;have h1:=hx.r;have hf:=hx.t;rw [AV.R] at h1;obtain ⟨vs,h2,h3⟩:=h1;obtain ⟨u,h4,h5⟩:=mO h3 hv;refine ⟨rfl,rfl,fJ (by simpa [AV.top,AV.isRow,AV.flat] using hf) hv,u,?_,h5⟩;have h6:vs[i]?=some u:=by simpa using h4
   unfold execOp;simp only [ho,h2,Instr.extract,h6];rfl
  ·cases h
 ·cases h
theorem Wn (HT:mM P T) {t:Nat} {x:Operand} {l:List AV} {d:TD} {ad:Bool} (ho:o.op=.load t x) (ht:T t=some d) (hx:Av lim bs w (.el l) (a.eval x)) (h:rV d ad (.el l) cs=some out) (hok:out.ok=true):PO P lim bs w a o cs out:=by
 have h1:=hx.r;have hf:AV.aj l=true:=by simpa [AV.top,AV.isRow,AV.flat] using hx.t
 rw [AV.R] at h1;obtain ⟨b,o',h3,h4,h5,h6⟩:=h1;unfold rV at h;simp only [] at h;split at h
 ·rename_i ha;have:=dS h;subst this;have hl:d.size<=l.length:=by simpa using hok
  obtain ⟨vs,v1,v2,v3⟩:=yf (NV (n:=d.size) h6);refine ⟨rfl,rfl,uJ hf,.agg vs.toArray,?_,?_⟩
  ·unfold execOp;simp only [ho,h3];rw [Sem.run_bind,xE HT ht ha (by rw [v1,List.length_take];omega) v3];rfl
  ·show AV.R lim bs w (.agg _) _;rw [AV.R];exact ⟨_,rfl,by simpa using v2⟩
 ·rename_i ha;split at h
  ·rename_i v r;have:=kK h;subst this;rw [AV.Rm] at h6;obtain ⟨⟨u,e1,e2⟩,-⟩:=h6;obtain ⟨ud,hu,hr,-⟩:=HT.und t d ht;rw [AV.aj,Bool.and_eq_true] at hf;refine ⟨rfl,rfl,hf.1,u,?_,e2⟩;unfold execOp;simp only [ho,h3];rw [Sem.run_bind,tJ hu (by rw [hr];simpa using ha) e1];rfl
  ·cases h
theorem Ym {t:TypeId} {u:TypeDesc} {i:TypeInfo} (hu:P.underlying t=some u) (hi:P.info? t=some i) (vs:Array Value) (o:Nat) (hl:o+i.size<=vs.size):
  (u.isRow=true->(part t vs o).run P w=.ok (.agg (vs.extract o (o+i.size))) w)∧(∀v,u.isRow=false->vs[o]?=some v->(part t vs o).run P w=.ok v w):=by
 constructor
 ·intro h;simp [part,Sem.run_bind,Ad hu w,h,run_sizeOf hi]
 ·intro v h hv;simp [part,Sem.run_bind,Ad hu w,h,hv]
theorem abz (HT:mM P T) {t f:Nat} {x:Operand} {X:AV} {d:TD} {q:Nat×Nat×Bool} (ho:o.op=.field t x f) (ht:T t=some d) (hq:d.jG[f]?=some q) (hx:Av lim bs w X (a.eval x)) (h:BN q X cs=some out) (hok:out.ok=true):PO P lim bs w a o cs out:=by
 cases ha:d.agg with
 |false=>rw [HT.off t d ht ha] at hq;cases hq
 |true=>
 obtain ⟨fs,hu,-,hfl⟩:=HT.fld t d ht ha;obtain ⟨fl,i,u,h1,h2,h3,h4,h5,h6⟩:=hfl f q hq;unfold BN at h;split at h
 ·rename_i l;have e1:=hx.r;have hf:AV.aj l=true:=by simpa [AV.top,AV.isRow,AV.flat] using hx.t
  rw [AV.R] at e1;obtain ⟨vs,e2,e3⟩:=e1;have hlen:=AV.gK e3;have hlen2:vs.size=l.length:=by simpa using hlen
  split at h
  ·rename_i hr;have:=dS h;subst this;have hl:q.1+q.2.1<=l.length:=by simpa using hok
   refine ⟨rfl,rfl,uJ (qL hf),.agg (vs.extract q.1 (q.1+q.2.1)),?_,?_⟩
   ·unfold execOp;simp only [ho,e2,Instr.field,Sem.run_bind,run_underlying hu,Result.andThen_ok,h1,asAgg,Sem.run_pure,h2];rw [(Ym h5 h3 vs q.1 oM).1 (by rw [h6,hr]),h4];rfl
   ·show AV.R lim bs w (.agg _) _;rw [AV.R];refine ⟨_,rfl,?_⟩;have:(vs.extract q.1 (q.1+q.2.1)).toList=(vs.toList.drop q.1).take q.2.1:=by rw [Array.toList_extract,List.extract_eq_take_drop];congr 1;omega
    rw [this];exact vO (AQ e3)
  ·rename_i hr;split at h
   ·rename_i v hv;have:=kK h;subst this;obtain ⟨u',f1,f2⟩:=mO e3 hv;have hlt:q.1<l.length:=by
     rcases Nat.lt_or_ge q.1 l.length with h'|h'
     ·exact h'
     ·rw [List.getElem?_eq_none h'] at hv;cases hv
    refine ⟨rfl,rfl,fJ hf hv,u',?_,f2⟩;have f3:vs[q.1]?=some u':=by simpa using f1
    have hr2:u.isRow=false:=by rw [h6];simpa using hr
    unfold execOp;simp only [ho,e2,Instr.field,Sem.run_bind,run_underlying hu,Result.andThen_ok,h1,asAgg,Sem.run_pure,h2];have:(part fl.type vs q.1).run P w=.ok u' w:=by simp [part,Sem.run_bind,Ad h5 w,hr2,f3]
    rw [this];rfl
   ·cases h
 ·cases h
theorem abx (HT:mM P T) {t:TypeId} {x:Operand} {lo hi:Option Operand} {X:AV} {L H:Option AV} (ho:o.op=.slice t x lo hi none) (hx:Av lim bs w X (a.eval x)) (hL:∀y,lo=some y->∃Y,L=some Y∧Av lim bs w Y (a.eval y)) (hL0:lo=none->L=none) (hH:∀y,hi=some y->∃Y,H=some Y∧Av lim bs w Y (a.eval y)) (hH0:hi=none->H=none)
  (h:Jk T t X L H cs=some out) (hok:out.ok=true):PO P lim bs w a o cs out:=by
 have bnd:∀(y:Option Operand) (Y:Option AV) (dflt:Int) (k:IntKind) (n:Int),(∀z,y=some z->∃Z,Y=some Z∧Av lim bs w Z (a.eval z))->(y=none->Y=none)->Y.getD (.int .i64 dflt)=.int k n->(y=none∧n=dflt)∨(∃z k',y=some z∧a.eval z=.int k' n):=by
  intro y Y dflt k n h1 h2 h3;cases y with
  |none=>rw [h2 rfl] at h3;cases h3;exact .inl ⟨rfl,rfl⟩
  |some z=>
   obtain ⟨Z,rfl,hz⟩:=h1 z rfl;simp only [Option.getD_some] at h3;subst h3;have:=hz.r;rw [AV.R] at this;exact .inr ⟨z,k,rfl,this⟩
 have key:∀(isS:Bool) (len cap:Nat) (A B:Int),((lo=none∧A=0)∨(∃z k',lo=some z∧a.eval z=.int k' A))->((hi=none∧B=len)∨(∃z k',hi=some z∧a.eval z=.int k' B))->0<=A->A<=B->B<=len->len<=cap->
   (Instr.sliceBounds isS len cap (lo.map a.eval) (hi.map a.eval) none).run P w=.ok (A.toNat,B.toNat,cap) w:=by
  intro isS len cap A B h1 h2 h3 h4 h5 h6;have hsb:∀(k:IntKind) (n:Int) (y:Nat) (c:BoundsCode),0<=n->n<=y->(Instr.sliceBound (.int k n) y c).run P w=.ok n.toNat w:=by intro k n y c g1 g2;simp [Instr.sliceBound,asIntOf,g1,g2]
  have hB:((B.toNat:Nat):Int)=B:=oM;rcases h1 with ⟨rfl,rfl⟩|⟨z,k,rfl,e1⟩
  ·rcases h2 with ⟨rfl,rfl⟩|⟨z',k',rfl,e2⟩
   ·simp [Instr.sliceBounds]
   ·simp only [Instr.sliceBounds,Option.map_some,Option.map_none,e2,Sem.run_bind,Sem.run_pure,Result.andThen_ok];rw [hsb k' B cap _ oM oM];rfl
  ·rcases h2 with ⟨rfl,rfl⟩|⟨z',k',rfl,e2⟩
   ·simp only [Instr.sliceBounds,Option.map_some,Option.map_none,e1,Sem.run_bind,Sem.run_pure,Result.andThen_ok];rw [hsb k A len _ h3 h4];rfl
   ·simp only [Instr.sliceBounds,Option.map_some,Option.map_none,e1,e2,Sem.run_bind,Sem.run_pure,Result.andThen_ok];rw [hsb k' B cap _ oM oM];simp only [Result.andThen_ok,Sem.run_bind];rw [hsb k A B.toNat _ h3 oM];rfl
 unfold Jk at h;split at h
 ·rename_i s;split at h
  ·rename_i k A hA;split at h
   ·rename_i k' B hB;have:=dS h;subst this;obtain ⟨⟨⟨h0,h1⟩,h2⟩,rfl⟩:((0<=A∧A<=B)∧B<=s.size)∧t=9:=by simpa using hok
    have e1:=hx.r;rw [AV.R] at e1;have hb:=key false s.size s.size A B (bnd lo L 0 _ A hL hL0 hA) (bnd hi H _ _ B hH hH0 hB) h0 h1 h2 (Nat.le_refl _);refine ⟨rfl,rfl,rfl,.string (s.extract A.toNat B.toNat),?_,by rw [AV.R];exact ⟨rfl,by have:=e1.2;rw [ByteArray.size_extract];omega⟩⟩;unfold execOp;simp only [ho,e1.1,Instr.sliceAt,Instr.slice,Sem.run_bind,run_underlying HT.str,Result.andThen_ok,Option.map_none,hb,Option.isSome_none,Bool.false_eq_true,if_false,Sem.run_pure]
   ·cases h
  ·cases h
 ·rename_i V hV;split at h
  ·cases h
  ·rename_i e d he;split at h
   ·cases h
   ·rename_i n l hl;split at h
    ·rename_i k A hA;split at h
     ·rename_i k' B hB;have:=dS h;subst this;obtain ⟨⟨h0,h1⟩,h2⟩:(0<=A∧A<=B)∧B<=n:=by simpa using hok
      obtain ⟨ad,c,e1,e2,e3,e4⟩:=D5 hx hl;obtain ⟨hu,hT2⟩:=tY HT he;obtain ⟨i,z,hi2,hs,-⟩:=HT.info e d hT2;have hb:=key true n c A B (bnd lo L 0 _ A hL hL0 hA) (bnd hi H _ _ B hH hH0 hB) h0 h1 h2 e2;refine ⟨rfl,rfl,uJ (qL e3),.slice (if c=A.toNat then ad else ad.map (·.add (A.toNat*d.size))) (B.toNat-A.toNat) (c-A.toNat),?_,?_⟩
      ·unfold execOp;simp only [ho,e1,Instr.sliceAt,Instr.slice,Sem.run_bind,run_underlying hu,Result.andThen_ok,Option.map_none,hb,run_sizeOf hi2,hs,Sem.run_pure]
      ·show AV.R lim bs w (.sl _ _) _;rw [AV.R];refine ⟨_,_,rfl,oM,?_⟩;rcases e4 with e4|⟨b,o',rfl,f1,f2,f3⟩
       ·left;rw [e4];simp
       ·by_cases hg:l.length<=A.toNat*d.size
        ·left;rw [List.drop_eq_nil_of_le hg];simp
        by_cases hc:c=A.toNat
        ·left;have:B.toNat-A.toNat=0:=oM;rw [this];simp
        ·rw [if_neg hc];right;refine ⟨b,o'+A.toNat*d.size,by simp [add_mid],f1,?_,NV (Hl f3)⟩;rw [List.length_take,List.length_drop];have:min ((B.toNat-A.toNat)*d.size) (l.length-A.toNat*d.size)<=l.length-A.toNat*d.size:=Nat.min_le_right _ _;omega
     ·cases h
    ·cases h
theorem aiN (HT:mM P T) {c:Call} {x:Operand} {X:AV} (ho:o.op=.call c) (hc:c.callee=.builtin .len) (ha:c.args=#[x]) (hx:Av lim bs w X (a.eval x)) (h:aaq T c.argTypes.toList X cs=some out) (hok:out.ok=true):PO P lim bs w a o cs out:=by
 obtain ⟨cb,hres⟩:∃cb,(resolve a.eval c o.type).run P w=.ok {target:=.builtin .len c.argTypes o.type cb,args:=#[a.eval x]} w:=⟨_,by simp [resolve,hc,ha];rfl⟩;unfold aaq at h;split at h
 ·rename_i t ht;have hat:c.argTypes[0]?=some t:=by
   have:c.argTypes.toList[0]?=some t:=by rw [ht];rfl
   simpa using this
  split at h
  ·rename_i s;have:=dS h;subst this;have ht9:t=9:=by simpa using hok
   subst ht9;have e1:=hx.r;rw [AV.R] at e1;refine ⟨rfl,rfl,rfl,.int .i64 s.size,?_,by rw [AV.R]⟩;unfold execOp;simp only [ho,Sem.run_bind,hres,Result.andThen_ok,invoke,builtin,Builtin.len_,hat];simp [e1,run_underlying HT.str,goInt]
  ·rename_i bi be bz n;have:=dS h;subst this;obtain ⟨⟨e,d⟩,he⟩:=Option.isSome_iff_exists.1 hok;obtain ⟨hu,-⟩:=tY HT he;have e1:=hx.r;rw [AV.R] at e1;obtain ⟨bb,cp,cur,f1,-,-,f2,-,f3⟩:=e1;refine ⟨rfl,rfl,rfl,.int .i64 n,?_,by rw [AV.R]⟩;unfold execOp;simp only [ho,Sem.run_bind,hres,Result.andThen_ok,invoke,builtin,Builtin.len_,hat];simp [f3,run_underlying hu,goInt]
  ·split at h
   ·cases h
   ·rename_i n l hl;have:=dS h;subst this;obtain ⟨⟨e,d⟩,he⟩:=Option.isSome_iff_exists.1 hok;obtain ⟨hu,-⟩:=tY HT he;obtain ⟨ad,cp,e1,-⟩:=D5 hx hl;refine ⟨rfl,rfl,rfl,.int .i64 n,?_,by rw [AV.R]⟩;unfold execOp;simp only [ho,Sem.run_bind,hres,Result.andThen_ok,invoke,builtin,Builtin.len_,hat];simp [e1,run_underlying hu,goInt]
 ·cases h
theorem adN {mx:Bool} {c:Call} {x y:Operand} {X Y V:AV} (ho:o.op=.call c) (hc:c.callee=.builtin (if mx=true then .max else .min)) (ha:c.args=#[x,y]) (hx:Av lim bs w X (a.eval x)) (hy:Av lim bs w Y (a.eval y)) (h:Nu mx X Y=some V):PO P lim bs w a o cs ⟨V,cs,[],true⟩:=by
 unfold Nu at h;split at h
 ·rename_i k A k' B;split at h
  ·rename_i hk;subst hk;cases h;have e1:=hx.r;have e2:=hy.r;rw [AV.R] at e1;rw [AV.R] at e2;refine ⟨rfl,rfl,rfl,_,?_,by rw [AV.R]⟩;unfold execOp;cases mx
   ·simp [ho,resolve,hc,ha,invoke,builtin,Builtin.min_,Builtin.min2,e1,e2]
   ·simp [ho,resolve,hc,ha,invoke,builtin,Builtin.max_,Builtin.max2,e1,e2]
  ·cases h
 ·cases h
theorem afn {f:FuncId} {first cap:Array Operand} {X:List AV} (ho:o.op=.makeFunc (.func f) first cap) (hf:first.size=0) (hx:AV.Rs lim bs w X (cap.toList.map a.eval)) (hfl:AV.aj X=true) (h:yes (.fn f X) cs=some out):PO P lim bs w a o cs out:=by
 have:=kK h;subst this;have h0:first=#[]:=Array.eq_empty_of_size_eq_zero hf
 subst h0;refine ⟨rfl,rfl,hfl,.func (.func f) #[] (cap.map a.eval),?_,?_⟩
 ·unfold execOp;simp [ho,Instr.makeFunc]
 ·show AV.R lim bs w (.fn f X) _;rw [AV.R];exact ⟨_,rfl,by simpa using hx⟩
theorem jo {α:Type}:∀(l:List α) (o:Nat),setAt l o []=l
 |[],o=>by rw [setAt]
 |x::l,0=>by rw [setAt]
 |x::l,o+1=>by rw [setAt,jo l o]
theorem Ac {α:Type}:∀(l:List α) (o:Nat) (vs:List α),(setAt l o vs).length=l.length
 |[],o,vs=>by rw [setAt]
 |x::l,0,[]=>by rw [setAt]
 |x::l,0,v::vs=>by rw [setAt,List.length_cons,List.length_cons,Ac l 0 vs]
 |x::l,o+1,vs=>by rw [setAt,List.length_cons,List.length_cons,Ac l o vs]
theorem jZ {α:Type} (x v:α) (l vs:List α):setAt (x::l) 0 (v::vs)=v::setAt l 0 vs:=by rw [setAt]
theorem ja {α:Type} (x:α) (l vs:List α) (o:Nat):setAt (x::l) (o+1) vs=x::setAt l o vs:=by rw [setAt]
theorem Ew {α:Type}:∀(l:List α) (o:Nat) (v:α) (vs:List α),o<l.length->setAt (l.set o v) (o+1) vs=setAt l o (v::vs)
 |[],o,v,vs,h=>by simp at h
 |x::l,0,v,vs,h=>by rw [List.set_cons_zero,ja,jZ]
 |x::l,o+1,v,vs,h=>by rw [List.set_cons_succ,ja,ja,Ew l o v vs (by simpa using h)]
theorem foldl_set (off:Nat):∀(xs:List Value) (k:Nat) (V:Array Value),off+k+xs.length<=V.size->
  ((xs.zipIdx k).foldl (fun (cs:Array Value) x=>cs.setIfInBounds (off+x.2) x.1) V).toList=setAt V.toList (off+k) xs
 |[],k,V,h=>by simp [jo]
 |x::xs,k,V,h=>by rw [List.length_cons] at h;rw [List.zipIdx_cons,List.foldl_cons,foldl_set off xs (k+1) _ (by simp;omega)];simp only [Array.toList_setIfInBounds];rw [←Ew V.toList (off+k) x xs (by simp;omega)];rfl
theorem JU (xs:Array Value) (off:Nat) (V:Array Value) (h:off+xs.size<=V.size):
  (xs.zipIdx.foldl (fun (cs:Array Value) (c,j)=>cs.setIfInBounds (off+j) c) V).toList=setAt V.toList off xs.toList:=by
 have e:xs.zipIdx=(xs.toList.zipIdx 0).toArray:=by rw [←Array.toList_inj];simp
 rw [e,List.foldl_toArray];have:=foldl_set off xs.toList 0 V (by simpa using h);rw [Nat.add_zero] at this;exact this
theorem zU:∀{l:List AV} {c:List Value} {o:Nat} {x:List AV} {u:List Value},AV.Rs lim bs w l c->AV.Rs lim bs w x u->AV.Rs lim bs w (setAt l o x) (setAt c o u)
 |[],c,o,x,u,h,h2=>by rw [AV.Rs] at h;subst h;rw [setAt,setAt,AV.Rs]
 |y::l,c,0,[],u,h,h2=>by rw [AV.Rs] at h2;subst h2;rw [jo,jo];exact h
 |y::l,c,0,z::x,u,h,h2=>by rw [AV.Rs] at h h2;obtain ⟨v,r,rfl,h3,h4⟩:=h;obtain ⟨v',r',rfl,h5,h6⟩:=h2;rw [jZ,jZ,AV.Rs];exact ⟨v',_,rfl,h5,zU h4 h6⟩
 |y::l,c,o+1,x,u,h,h2=>by rw [AV.Rs] at h;obtain ⟨v,r,rfl,h3,h4⟩:=h;rw [ja,ja,AV.Rs];exact ⟨v,_,rfl,h3,zU h4 h2⟩
theorem vK:∀{l:List AV} {o:Nat} {x:List AV},AV.aj l=true->AV.aj x=true->AV.aj (setAt l o x)=true
 |[],o,x,h,h2=>by rw [setAt];exact h
 |y::l,0,[],h,h2=>by rw [jo];exact h
 |y::l,0,z::x,h,h2=>by rw [AV.aj,Bool.and_eq_true] at h h2;rw [jZ,AV.aj,h2.1,vK h.2 h2.2];rfl
 |y::l,o+1,x,h,h2=>by rw [AV.aj,Bool.and_eq_true] at h;rw [ja,AV.aj,h.1,vK h.2 h2];rfl
theorem xn:∀{l:List AV} {o:Nat} {x:List AV},l.all AV.top=true->x.all AV.top=true->(setAt l o x).all AV.top=true
 |[],o,x,h,h2=>by rw [setAt];exact h
 |y::l,0,[],h,h2=>by rw [jo];exact h
 |y::l,0,z::x,h,h2=>by rw [List.all_cons,Bool.and_eq_true] at h h2;rw [jZ,List.all_cons,h2.1,xn h.2 h2.2];rfl
 |y::l,o+1,x,h,h2=>by rw [List.all_cons,Bool.and_eq_true] at h;rw [ja,List.all_cons,h.1,xn h.2 h2];rfl
theorem lH:∀{l:List AV},AV.aj l=true->l.all AV.top=true
 |[],_=>rfl
 |x::l,h=>by rw [AV.aj,Bool.and_eq_true] at h;rw [List.all_cons,lH h.2,AV.top,h.1];simp
theorem G8 {v:AV} {u:Value} (h1:dZ (cells v)=true) (h:AV.R lim bs w v u):AV.Rs lim bs w (cells v) u.cells.toList:=by
 cases v with
 |agg l=>rw [AV.R] at h;obtain ⟨vs,rfl,h2⟩:=h;exact h2
 |bool b=>rw [AV.R] at h;subst h;rw [cells,AV.Rs];exact ⟨_,[],rfl,by rw [AV.R],by rw [AV.Rs]⟩;intros;simp_all
 |int k n=>rw [AV.R] at h;subst h;rw [cells,AV.Rs];exact ⟨_,[],rfl,by rw [AV.R],by rw [AV.Rs]⟩;intros;simp_all
 |str s=>have h':=h;rw [AV.R] at h';obtain ⟨rfl,-⟩:=h';rw [cells,AV.Rs];exact ⟨_,[],rfl,h,by rw [AV.Rs]⟩;intros;simp_all
 |nil=>rw [AV.R] at h;subst h;rw [cells,AV.Rs];exact ⟨_,[],rfl,by rw [AV.R],by rw [AV.Rs]⟩;intros;simp_all
 |bad=>cases h1
 |bW l=>cases h1
 |nz k=>have h':=h;rw [AV.R] at h';obtain ⟨n,-,rfl⟩:=h';rw [cells,AV.Rs];exact ⟨_,[],rfl,h,by rw [AV.Rs]⟩;intros;simp_all
 |ql k=>have h':=h;rw [AV.R] at h';obtain ⟨n,rfl⟩:=h';rw [cells,AV.Rs];exact ⟨_,[],rfl,h,by rw [AV.Rs]⟩;intros;simp_all
 |low k d m=>have h':=h;rw [AV.R] at h';obtain ⟨n,-,rfl⟩:=h';rw [cells,AV.Rs];exact ⟨_,[],rfl,h,by rw [AV.Rs]⟩;intros;simp_all
 |dm i e z n=>have h':=h;rw [AV.R] at h';obtain ⟨b,c,cur,-,-,-,-,-,rfl⟩:=h';rw [cells,AV.Rs];exact ⟨_,[],rfl,h,by rw [AV.Rs]⟩;intros;simp_all
 |ptr i o=>have h':=h;rw [AV.R] at h';obtain ⟨b,-,rfl⟩:=h';rw [cells,AV.Rs];exact ⟨_,[],rfl,h,by rw [AV.Rs]⟩;intros;simp_all
 |el l=>have h':=h;rw [AV.R] at h';obtain ⟨b,o',rfl,-⟩:=h';rw [cells,AV.Rs];exact ⟨_,[],rfl,h,by rw [AV.Rs]⟩;intros;simp_all
 |sl n l=>have h':=h;rw [AV.R] at h';obtain ⟨b,o',rfl,-⟩:=h';rw [cells,AV.Rs];exact ⟨_,[],rfl,h,by rw [AV.Rs]⟩;intros;simp_all
 |fn f c=>have h':=h;rw [AV.R] at h';obtain ⟨vs,rfl,-⟩:=h';rw [cells,AV.Rs];exact ⟨_,[],rfl,h,by rw [AV.Rs]⟩;intros;simp_all
 |row e z n l=>
  have h':=h;rw [AV.R] at h';obtain ⟨-,-,h3⟩:=h';have hu:u.cells.toList=[u]:=by rcases h3 with ⟨rfl,-⟩|⟨g,c,cur,rfl,-⟩<;>rfl
  rw [hu,cells,AV.Rs];exact ⟨_,[],rfl,h,by rw [AV.Rs]⟩
  intros;simp_all
theorem adT {v:AV} {u:Value} (h1:v.one=true) (h:AV.R lim bs w v u):u.oneCell'=true:=by
 cases v with
 |agg l=>cases h1
 |bad=>cases h1
 |bW l=>cases h1
 |bool b=>rw [AV.R] at h;subst h;rfl
 |int k n=>rw [AV.R] at h;subst h;rfl
 |str s=>rw [AV.R] at h;obtain ⟨rfl,-⟩:=h;rfl
 |nil=>rw [AV.R] at h;subst h;rfl
 |nz k=>rw [AV.R] at h;obtain ⟨n,-,rfl⟩:=h;rfl
 |ql k=>rw [AV.R] at h;obtain ⟨n,rfl⟩:=h;rfl
 |low k d m=>rw [AV.R] at h;obtain ⟨n,-,rfl⟩:=h;rfl
 |dm i e z n=>rw [AV.R] at h;obtain ⟨b,c,cur,-,-,-,-,-,rfl⟩:=h;rfl
 |ptr i o=>rw [AV.R] at h;obtain ⟨b,-,rfl⟩:=h;rfl
 |el l=>rw [AV.R] at h;obtain ⟨b,o',rfl,-⟩:=h;rfl
 |sl n l=>rw [AV.R] at h;obtain ⟨b,o',rfl,-⟩:=h;rfl
 |fn f c=>rw [AV.R] at h;obtain ⟨vs,rfl,-⟩:=h;rfl
 |row e z n l=>
  rw [AV.R] at h;obtain ⟨-,-,h3⟩:=h;rcases h3 with ⟨rfl,-⟩|⟨g,c,cur,rfl,-⟩<;>rfl
theorem EF:∀{l:List AV} {c:List Value},dZ l=true->AV.Rs lim bs w l c->∀v ∈ c,v.oneCell'=true
 |[],c,_,h,v,hv=>by rw [AV.Rs] at h;subst h;cases hv
 |x::l,c,h1,h,v,hv=>by
  rw [AV.Rs] at h;rw [dZ,Bool.and_eq_true] at h1;obtain ⟨u,r,rfl,h2,h3⟩:=h;rcases List.mem_cons.1 hv with rfl|hv
  ·exact adT h1.1 h2
  ·exact EF h1.2 h3 v hv
inductive Ps (lim:Nat->Nat) (bs:List Nat) (w:World):List (Nat×AV)->List (Nat×Value)->Prop
 |nil:Ps lim bs w [] []
 |cons {i:Nat} {x:AV} {u:Value} {ps:List (Nat×AV)} {vs:List (Nat×Value)} (h:Av lim bs w x u) (hr:Ps lim bs w ps vs):Ps lim bs w ((i,x.cO)::ps) ((i,u)::vs)
theorem agG {jG:List (Nat×Nat×Bool)} {place:Nat->Option (Nat×Nat)} (hp:∀(i:Nat) (q:Nat×Nat×Bool),jG[i]?=some q->place i=some (q.1,q.2.1)):
  ∀{ps:List (Nat×AV)} {vs:List (Nat×Value)} {c:List AV} {V:Array Value} {l:List AV},Ps lim bs w ps vs->AV.Rs lim bs w c V.toList->AV.aj c=true->pX jG c ps=some l->∃V',Instr.fill place V vs=some V'∧AV.Rs lim bs w l V'.toList∧AV.aj l=true:=by
 intro ps vs c V l hps
 induction hps generalizing c V l with
 |nil=>intro hc hf h;rw [pX] at h;cases h;exact ⟨V,rfl,hc,hf⟩
 |@cons i x u ps vs hx hr ih=>
  intro hc hf h;rw [pX] at h;split at h
  ·cases h
  ·rename_i o' n b hq;split at h
   ·rename_i hk;obtain ⟨h1,h2,h3,h4⟩:=hk;have hcells:=G8 h4 hx.r.cO;have hlen:=AV.gK hcells;have hsz:u.cells.size=n:=by
     have:u.cells.toList.length=n:=by rw [hlen,h1]
     simpa using this
    have hVl:V.size=c.length:=by have:=AV.gK hc;simpa using this
    have hfl:AV.aj (cells x.cO)=true:=by
     have:∀y:AV,y.flat=true->AV.aj (cells y)=true:=by
      intro y hy;cases y<;>first
       |(show AV.aj [_]=true;rw [AV.aj,hy];rfl)
       |exact hy
     exact this _ h3
    have hfold:=JU u.cells o' V oM;obtain ⟨V',e1,e2,e3⟩:=ih (V:=u.cells.zipIdx.foldl (fun (cs:Array Value) (c,j)=>cs.setIfInBounds (o'+j) c) V) (by rw [hfold];exact zU hc hcells) (vK hf hfl) h;refine ⟨V',?_,e2,e3⟩;rw [Instr.fill,hp i _ hq];simp only [];rw [if_neg (by simp [hsz];omega)];exact e1
   ·cases h
theorem abA (HT:mM P T) {t:Nat} {d:TD} {ps:Array (Nat×Operand)} {X:List (Nat×AV)} (ho:o.op=.build t ps) (ht:T t=some d) (hx:Ps lim bs w X (ps.toList.map fun p=>(p.1,a.eval p.2))) (h:zO d X cs=some out) (hok:out.ok=true):PO P lim bs w a o cs out:=by
 unfold zO at h;split at h
 ·cases h
 ·rename_i l hl;have:=dS h;subst this;obtain ⟨ha,hfl⟩:d.agg=true∧AV.aj l=true:=by simpa using hok
  obtain ⟨fs,hu,hn,hf⟩:=HT.fld t d ht ha;obtain ⟨i,z,hi,hs,hby,hz,hzc,hzr⟩:=HT.info t d ht;have hzn:=Oj (lim:=lim) (bs:=bs) (w:=w) hzr;obtain ⟨pl,hpl0⟩:∃pl:Field->Sem (Nat×Nat),pl=fun f=>(do pure (f.offset,←sizeOf f.type):Sem (Nat×Nat)):=⟨_,rfl⟩;have hpl:∀(f:Field) (i:TypeInfo),P.info? f.type=some i->(pl f).run P w=.ok (f.offset,((P.info? f.type).map (·.size)).getD 0) w:=by intro f i hi;rw [hpl0];simp only [Sem.run_bind,run_sizeOf hi w,Result.andThen_ok,Sem.run_pure,hi,Option.map_some,Option.getD_some]
  have acx:∀(fl:List Field),(∀f ∈ fl,∃i,P.info? f.type=some i)->(fl.mapM pl).run P w=.ok (fl.map fun f=>(f.offset,((P.info? f.type).map (·.size)).getD 0)) w:=by
   intro fl
   induction fl with
   |nil=>intro _;rfl
   |cons f fl ih=>
    intro hh;obtain ⟨i,hi⟩:=hh f List.mem_cons_self;have h2:=ih (fun g hg=>hh g (List.mem_cons_of_mem _ hg));simp only [List.mapM_cons,Sem.run_bind,hpl f i hi,h2,Result.andThen_ok,Sem.run_pure,List.map_cons]
  have hall:∀f ∈ fs.toList,∃i,P.info? f.type=some i:=by
   intro f hf2;obtain ⟨k,hk,rfl⟩:=List.getElem_of_mem hf2;have hk2:k<d.jG.length:=by rw [←hn];simpa using hk
   obtain ⟨fl,i,u,g1,g2,g3,-⟩:=hf k (d.jG[k]) (List.getElem?_eq_getElem hk2);have:fs[k]?=some (fs.toList[k]):=by simp
   rw [this] at g1;cases g1;exact ⟨i,g3⟩
  have aej:(fs.mapM pl).run P w=.ok ((fs.toList.map fun f=>(f.offset,((P.info? f.type).map (·.size)).getD 0)).toArray) w:=by rw [Array.mapM_eq_mapM_toList,map_eq_pure_bind,Sem.run_bind,acx fs.toList hall];rfl
  rw [hpl0] at aej;have hp:∀(i:Nat) (q:Nat×Nat×Bool),d.jG[i]?=some q->((fs.toList.map fun f=>(f.offset,((P.info? f.type).map (·.size)).getD 0)).toArray[·]?) i=some (q.1,q.2.1):=by
   intro k q hq;obtain ⟨fl,i,u,g1,g2,g3,g4,-⟩:=hf k q hq;have g5:fs.toList[k]?=some fl:=by simpa using g1
   simp [g1,g2,g3,g4]
  obtain ⟨V',e1,e2,e3⟩:=agG hp hx (V:=z.cells) hzn.1 hzn.2 hl;refine ⟨rfl,rfl,hfl,.agg V',?_,by rw [AV.R];exact ⟨_,rfl,e2⟩⟩;unfold execOp;have hzv:(zeroValue t).run P w=.ok z w:=by simp [zeroValue,typeInfo,hi,hz]
  simp only [ho,Instr.build,Sem.run_bind,hzv,Sem.run_pure,Result.andThen_ok,run_underlying hu,aej,Array.toList_map,e1]
end Ab
namespace Ab
variable {lim lim' : Nat -> Nat} {bs bs' : List Nat} {w w' : World} {P : Program} {T : kZ} {a : Act} {o : Oper} {cs : List (List AV)} {out : Out} {m : Nat -> Prop} {bx bx' : List (List AV)} {S S' : uP} {K : Act -> World -> Prop} {Q : Exit -> Act -> World -> Prop} {cal : BR} {σ σ' : aF}
structure N9 (m:Nat->Prop) (lim:Nat->Nat) (bs:List Nat) (w:World) (a:Act) (σ':aF) (lim':Nat->Nat) (bs':List Nat) (w':World) (a':Act):Prop where
 hold:aB lim' bs' w' σ'.bx (Sl σ'.tm a') m
 fr:Fr m lim w lim' w'
 pre:∀(i b:Nat),bs[i]?=some b->bs'[i]?=some b
 nt:a'.tmps.size=a.tmps.size
 df:a'.defers=a.defers
abbrev yA (m:Nat->Prop) (lim:Nat->Nat) (bs:List Nat) (w:World) (a:Act) (σ':aF) (K:Act->World->Prop):Prop:=∀lim' bs' w' a',N9 m lim bs w a σ' lim' bs' w' a'->K a' w'
theorem jq {u:Value} (h:(execOp a.eval o).run P w=.ok (.value u) w') (hK:K (a.put o.dst u) w'):o.wp P a w K Q:=by unfold Oper.wp;rw [h];exact hK
theorem ae7 (h:(execOp a.eval o).run P w=.ok .skip w') (hK:K (a.put o.dst undef) w'):o.wp P a w K Q:=by unfold Oper.wp;rw [h];exact hK
theorem bY (a:Act) (d:Option Nat) (u:Value):(a.put d u).tmps.size=a.tmps.size:=by cases d<;>simp [Act.put]
theorem put_defers (a:Act) (d:Option Nat) (u:Value):(a.put d u).defers=a.defers:=by cases d<;>rfl
def upD (S:uP) (d:Option Nat) (x:AV×Value):uP:=
 match d with
 |some d=>up S d x
 |none=>S
theorem jh {tm:Tm} {d:Option Nat} (hd:∀k,d=some k->k<a.tmps.size) (v:AV) (u:Value):Sl (eG tm d v) (a.put d u)=upD (Sl tm a) d (v,u):=by
 cases d with
 |none=>rfl
 |some k=>exact vX (hd k rfl) v u
theorem aB.eG (H:aB lim bs w bx S m) {d:Option Nat} {v:AV} {u:Value} (hv:AV.R lim bs w v u) (ht:v.top=true)
  (hrow:∀k g,d=some k->v.isRow=true->u.ownBlock=some g->m g∧g ∉ bs∧∀p,Own w bs bx S p g->p=.t k):aB lim bs w bx (upD S d (v,u)) m:=by
 cases d with
 |none=>exact H
 |some k=>exact H.put hv ht (fun g=>hrow k g rfl)
theorem xW (x:AV):x.cO.isRow=false:=by cases x<;>rfl
theorem wH:∀(ks:List Nat) (tm:Tm) (n:Nat),(get (gu tm ks) n=get tm n∨get (gu tm ks) n=(get tm n).cO)∧(n ∈ ks->(get (gu tm ks) n).isRow=false)
 |[],tm,n=>⟨.inl rfl,fun h=>by cases h⟩
 |t::r,tm,n=>by
  have hdd:∀x:AV,x.cO.cO=x.cO:=fun x=>by cases x<;>rfl
  rw [gu];split
  ·rename_i e z k l hrow;have ih:=wH r (put tm t (.sl k l)) n;have hp:=ah tm t (.sl k l) n;by_cases h:n=t
   ·subst h;rw [if_pos rfl] at hp;rw [hp] at ih;have h1:get (gu (put tm n (.sl k l)) r) n=(get tm n).cO:=by
     rw [hrow];rcases ih.1 with h|h
     ·exact h
     ·exact h
    exact ⟨.inr h1,fun _=>by rw [h1];exact xW _⟩
   ·rw [if_neg h] at hp;rw [hp] at ih;exact ⟨ih.1,fun hm=>ih.2 (by rcases List.mem_cons.1 hm with e|e;exact absurd e h;exact e)⟩
  ·rename_i hno;have ih:=wH r tm n;refine ⟨ih.1,fun hm=>?_⟩;rcases List.mem_cons.1 hm with e|e
   ·subst e;have hr:(get tm n).isRow=false:=by
     cases hx:get tm n<;>first|rfl|exact absurd hx (hno _ _ _ _)
    rcases ih.1 with h|h
    ·rw [h];exact hr
    ·rw [h];exact xW _
   ·exact ih.2 e
theorem yM (H:aB lim bs w bx (Sl σ.tm a) m) (ks:List Nat):aB lim bs w bx (Sl (gu σ.tm ks) a) m∧(∀p g,Own w bs bx (Sl (gu σ.tm ks) a) p g->Own w bs bx (Sl σ.tm a) p g)∧∀t g,t ∈ ks->¬Own w bs bx (Sl (gu σ.tm ks) a) (.t t) g:=by have h:=H.sub (S':=Sl (gu σ.tm ks) a) (fun k=>⟨rfl,(wH ks σ.tm k).1.elim .inl (fun h=> .inr (.inl h))⟩);refine ⟨h.1,h.2,fun t g ht ho=>?_⟩;have:=(wH ks σ.tm t).2 ht;have h1:(get (gu σ.tm ks) t).isRow=true:=ho.1;rw [this] at h1;cases h1
theorem aC (bx:List (List AV)) (cs:List (List AV)):ak bx [] cs=bx:=by unfold ak;rfl
theorem fH (H:aB lim bs w σ.bx (Sl σ.tm a) m) (hd:∀k,o.dst=some k->k<a.tmps.size) (h:PO P lim bs w a o cs out) (gv:List Nat) (hK:yA m lim bs w a (fin o.dst out [] gv σ) K):o.wp P a w K Q:=by obtain ⟨u,h1,h2⟩:=h.run;refine jq h1 (hK lim bs w _ ⟨?_,Fr.refl,fun _ _ h=>h,bY _ _ _,put_defers _ _ _⟩);have hr:out.v.isRow=false:=nJ h.fl;unfold fin;rw [h.nw];show aB lim bs w (ak σ.bx [] out.bs++[]) (Sl (eG (gu σ.tm gv) o.dst out.v) (a.put o.dst u)) m;rw [List.append_nil,aC,jh hd];exact (yM H gv).1.eG h2 (by rw [AV.top,h.fl];simp) (fun k g _ hh=>by rw [hr] at hh;cases hh)
theorem KE (H:aB lim bs w σ.bx (Sl σ.tm a) m) (hd:∀k,o.dst=some k->k<a.tmps.size) {x:Operand} {v:AV} (ho:o.op=.move x∨o.op=.assign x) (hv:AV.R lim bs w v (a.eval x)) (ht:v.top=true)
  (hsrc:v.isRow=true->(∃t,x=.tmp t∧v=get σ.tm t)∨(a.eval x).ownBlock=none) (hK:yA m lim bs w a (fin o.dst ⟨v,cs,[],true⟩ [] (fM x) σ) K):o.wp P a w K Q:=by
 have hrun:(execOp a.eval o).run P w=.ok (.value (a.eval x)) w:=by unfold execOp;rcases ho with ho|ho<;>simp only [ho]<;>rfl
 refine jq hrun (hK lim bs w _ ⟨?_,Fr.refl,fun _ _ h=>h,bY _ _ _,put_defers _ _ _⟩);show aB lim bs w (ak σ.bx [] cs++[]) (Sl (eG (gu σ.tm (fM x)) o.dst v) (a.put o.dst (a.eval x))) m;rw [List.append_nil,aC,jh hd];obtain ⟨H2,h3,h4⟩:=yM H (fM x);refine H2.eG hv ht (fun k g _ hr hg=>?_);rcases hsrc hr with ⟨t,rfl,hvt⟩|hn
 ·have ho1:Own w bs σ.bx (Sl σ.tm a) (.t t) g:=⟨by show (get σ.tm t).isRow=true;rw [←hvt];exact hr,hg⟩;refine ⟨(H.own _ _ ho1).1,(H.own _ _ ho1).2,fun p hp=>?_⟩;have:=H.qO p (.t t) g (h3 p g hp) ho1;subst this;exact absurd hp (h4 t g (by simp [fM]))
 ·rw [hn] at hg;cases hg
theorem RZ {H:aB lim bs w bx S m} (src:Loc->Loc) (h1:∀p g,Own w' bs' bx' S' p g->Own w bs bx S (src p) g) (h2:∀p q g,Own w' bs' bx' S' p g->Own w' bs' bx' S' q g->src p=src q->p=q):
  (∀p g,Own w' bs' bx' S' p g->m g∧g ∉ bs)∧(∀p q g,Own w' bs' bx' S' p g->Own w' bs' bx' S' q g->p=q):=
 ⟨fun p g hp=>H.own _ g (h1 p g hp),fun p q g hp hq=>h2 p q g hp hq (H.qO _ _ g (h1 p g hp) (h1 q g hq))⟩
theorem Ld {bx:List (List AV)} {i:Nat} {cs:List (List AV)} (h:bD bx [i]=some cs):∃c,bx[i]?=some c∧cs=[c]:=by
 unfold bD at h;split at h
 ·rename_i c cs' hc hcs;unfold bD at hcs;cases hcs;cases h;exact ⟨c,hc,rfl⟩
 ·cases h
theorem vg (bx:List (List AV)) (i:Nat) (c:List AV):ak bx [i] [c]=bx.set i c:=by rw [ak,aC]
theorem uy {α:Type} {l:List α} {i:Nat} {c:α} (h:l[i]?=some c):l.set i c=l:=by
 apply List.ext_getElem?;intro k;rw [List.getElem?_set];split
 ·rename_i e;subst e;split
  ·exact h.symm
  ·rename_i hlt;rw [List.getElem?_eq_none oM]
 ·rfl
theorem dX {α:Type}:∀(l:List α) (o j:Nat) (vs:List α),(setAt l o vs)[j]?=if o<=j∧j<o+vs.length∧j<l.length then vs[j-o]? else l[j]?
 |[],o,j,vs=>by rw [setAt];simp
 |x::l,0,j,[]=>by rw [jo];simp
 |x::l,0,0,v::vs=>by rw [jZ];simp
 |x::l,0,j+1,v::vs=>by rw [jZ,List.getElem?_cons_succ,dX l 0 j vs];simp only [List.length_cons,List.getElem?_cons_succ,Nat.zero_le,true_and,Nat.zero_add,Nat.sub_zero,Nat.add_lt_add_iff_right]
 |x::l,o+1,0,vs=>by rw [ja];simp
 |x::l,o+1,j+1,vs=>by
  rw [ja,List.getElem?_cons_succ,dX l o j vs,List.getElem?_cons_succ];have e:j+1-(o+1)=j-o:=oM;have c:(o+1<=j+1∧j+1<o+1+vs.length∧j+1<(x::l).length)↔(o<=j∧j<o+vs.length∧j<l.length):=by rw [List.length_cons];omega
  simp only [c,e]
theorem gm:∀{l:List Nat} {i j x:Nat},l.Nodup->l[i]?=some x->l[j]?=some x->i=j
 |[],i,j,x,_,h,_=>by simp at h
 |y::l,0,0,x,_,_,_=>rfl
 |y::l,0,j+1,x,hn,h1,h2=>by rw [List.nodup_cons] at hn;simp at h1 h2;subst h1;exact absurd (List.mem_of_getElem? h2) hn.1
 |y::l,i+1,0,x,hn,h1,h2=>by rw [List.nodup_cons] at hn;simp at h1 h2;subst h2;exact absurd (List.mem_of_getElem? h1) hn.1
 |y::l,i+1,j+1,x,hn,h1,h2=>by rw [List.nodup_cons] at hn;exact congrArg (·+1) (gm (x:=x) hn.2 (by simpa using h1) (by simpa using h2))
theorem aB.Ye (H:aB lim bs w bx S m) {i b:Nat} {c c':List AV} {V' tl:List Value} {t:TypeId} (hi:bs[i]?=some b) (hc:bx[i]?=some c) (hV:w'.heap[b]?=some (.cells (V'++tl).toArray t (0,0))) (hsh:∃cur:Array Value,w.heap[b]?=some (.cells cur t (0,0))∧cur.size=(V'++tl).length) (ho:∀k,k≠b->w'.heap[k]?=w.heap[k]?) (hs:w'.heap.size=w.heap.size)
  (hR:AV.Rs lim bs w' c' V') (ht:c'.all AV.top=true) (hS:∀k,AV.R lim bs w' (S' k).1 (S' k).2∧(S' k).1.top=true)
  (src:Loc->Loc) (h1:∀p g,Own w' bs (bx.set i c') S' p g->Own w bs bx S (src p) g) (h2:∀p q g,Own w' bs (bx.set i c') S' p g->Own w' bs (bx.set i c') S' q g->src p=src q->p=q):
  aB lim bs w' (bx.set i c') S' m:=by
 obtain ⟨h3,h4⟩:=RZ (H:=H) src h1 h2;have hmem:b ∈ bs:=List.mem_of_getElem? hi;have qm:AV.Ext lim bs w lim bs w':=⟨fun _ _ h=>h,oM,fun _ _=>Nat.le_refl _,fun k j hk hj=>World.cell?_of_block (ho k (fun e=>by subst e;rw [H.free k hmem] at hj;omega)),fun k cur e p hk=>by
  by_cases hkb:k=b
  ·subst hkb;obtain ⟨WV,q1,q2⟩:=hsh;rw [q1] at hk;cases hk;exact ⟨_,hV,by simpa using q2.symm⟩
  ·exact ⟨cur,(ho k hkb).trans hk,rfl⟩⟩
 refine ⟨by rw [List.length_set];exact H.len,H.BX,H.free,H.mb,fun i2 b2 x hi2 hx2=>?_,fun k=>(hS k).1,fun k=>(hS k).2,fun k hk=>H.top k oM,h3,h4⟩;rw [List.getElem?_set] at hx2;split at hx2
 ·rename_i e;subst e;split at hx2
  ·cases hx2;rw [hi] at hi2;cases hi2;exact ⟨V',tl,t,hV,hR,ht⟩
  ·cases hx2
 ·rename_i e;have hne:b2≠b:=by rintro rfl;exact e (gm H.BX hi hi2)
  obtain ⟨C,tl2,t2,g1,g2,g3⟩:=H.box i2 b2 x hi2 hx2;refine ⟨C,tl2,t2,(ho b2 hne).trans g1,qj qm g3 (fun j y v g hy hv hr hg=>?_) g2,g3⟩;have hown:Own w bs bx S (.b i2 j) g:=⟨b2,x,y,v,hi2,hx2,hy,hr,dV g1 hv,hg⟩;exact ⟨ho g (fun e=>by subst e;exact (H.own _ _ hown).2 hmem),rfl⟩
theorem WE (HT:mM P T) (H:aB lim bs w σ.bx (Sl σ.tm a) m) (hd:∀k,o.dst=some k->k<a.tmps.size) {t:Nat} {x:Operand} {d:TD} {i o':Nat} {c:List AV} {ad:Bool} (ho:o.op=.load t x) (ht:T t=some d) (hx:AV.R lim bs w (.ptr i o') (a.eval x)) (hc:σ.bx[i]?=some c)
  (h:rV d ad (.ptr i o') [c]=some out) (hok:out.ok=true) (hdd:ad=true->o.dst.isSome=true) (hK:yA m lim bs w a (fin o.dst out [i] [] σ) K):o.wp P a w K Q:=by
 rw [AV.R] at hx;obtain ⟨b,hb,hx⟩:=hx;obtain ⟨C,tl,tt,h1,h2,h3⟩:=H.box i b c hb hc;have hcell:∀(j:Nat) (v:Value),C[j]?=some v->w.cell? ⟨b,j,none⟩=some v:=fun j v hv=>dV h1 hv;unfold rV at h;simp only [] at h;split at h
 ·rename_i ha;have:=dS h;subst this;have hl:o'+d.size<=c.length:=by simpa using hok
  have hlen:=AV.gK h2;have hrun:(execOp a.eval o).run P w=.ok (.value (.agg ((C.drop o').take d.size).toArray)) w:=by
   unfold execOp;simp only [ho,hx];have hl2:((C.drop o').take d.size).length=d.size:=by rw [List.length_take,List.length_drop];omega
   have hcc:∀(j:Nat) (v:Value),((C.drop o').take d.size)[j]?=some v->w.cell? ⟨b,o'+j,none⟩=some v:=by
    intro j v hj;rw [List.getElem?_take] at hj;split at hj
    ·rw [List.getElem?_drop] at hj;exact hcell _ v hj
    ·cases hj
   rw [Sem.run_bind,xE HT ht ha hl2 hcc];rfl
  refine jq hrun (hK lim bs w _ ⟨?_,Fr.refl,fun _ _ h=>h,bY _ _ _,put_defers _ _ _⟩);show aB lim bs w (ak σ.bx [i] [c]++[]) (Sl (eG σ.tm o.dst _) (a.put o.dst _)) m;rw [List.append_nil,vg,uy hc,jh hd];have htop:((c.drop o').take d.size).all AV.top=true:=by rw [List.all_eq_true] at h3⊢;exact fun y hy=>h3 y (List.mem_of_mem_drop (List.mem_of_mem_take hy))
  refine H.eG ?_ ?_ (fun k g _ hh=>by cases hh)
  ·rw [AV.R];exact ⟨_,rfl,by simpa using uQ (vO (AQ h2))⟩
  ·show (false||AV.aj _)=true;rw [nI htop (vO (AQ h2))];rfl
 ·rename_i ha;split at h
  ·rename_i v hv;cases h;obtain ⟨u,e1,e2⟩:=mO h2 hv;obtain ⟨ud,hu,hr,-⟩:=HT.und t d ht;have hvt:v.top=true:=by rw [List.all_eq_true] at h3;exact h3 v (List.mem_of_getElem? hv)
   have hrun:(execOp a.eval o).run P w=.ok (.value u) w:=by unfold execOp;simp only [ho,hx];rw [Sem.run_bind,tJ hu (by rw [hr];simpa using ha) (hcell o' u e1)];rfl
   refine jq hrun (hK lim bs w _ ⟨?_,Fr.refl,fun _ _ h=>h,bY _ _ _,put_defers _ _ _⟩);show aB lim bs w (ak σ.bx [i] [if ad=true then setAt c o' [v.cO] else c]++[]) (Sl (eG σ.tm o.dst (if ad=true then v else v.cO)) (a.put o.dst u)) m;rw [List.append_nil,vg,jh hd];cases ad with
   |false=>
    simp only [Bool.false_eq_true,if_false];rw [uy hc];exact H.eG e2.cO (by rw [AV.top,AV.R.qc hvt e2];simp) (fun k g _ hh=>by rw [xW] at hh;cases hh)
   |true=>
    simp only [if_true];obtain ⟨dk,hdk⟩:=Option.isSome_iff_exists.1 (hdd rfl);rw [hdk];show aB lim bs w _ (up (Sl σ.tm a) dk (v,u)) m;have hol:o'<c.length:=by
     rcases Nat.lt_or_ge o' c.length with h'|h'
     ·exact h'
     ·rw [List.getElem?_eq_none h'] at hv;cases hv
    have ael:∀j,(setAt c o' [v.cO])[j]?=if j=o' then some v.cO else c[j]?:=by
     intro j;rw [dX];by_cases e:j=o'
     ·subst e;rw [if_pos ⟨Nat.le_refl _,by simp,hol⟩,if_pos rfl];simp
     ·rw [if_neg e,if_neg (by simp only [lL];omega)]
    have hvd:AV.R lim bs w v.cO u:=e2.cO;have hV':setAt C o' [u]=C:=by
     apply List.ext_getElem?;intro j;rw [dX];split
     ·rename_i hj;have:j=o':=by simp only [lL] at hj;omega
      subst this;simp [e1]
     ·rfl
    refine H.Ye hb hc h1 ⟨_,h1,by simp⟩ (fun _ _=>rfl) rfl ?_ ?_ ?_ (fun p=>match p with|.t k=>if k=dk then (if v.isRow=true then .b i o' else .t k) else .t k|p=>p) ?_ ?_
    ·have:=zU (o:=o') h2 (show AV.Rs lim bs w [v.cO] [u] by rw [AV.Rs];exact ⟨u,[],rfl,hvd,by rw [AV.Rs]⟩);rw [hV'] at this;exact this
    ·exact xn h3 (by rw [List.all_cons,AV.top,AV.R.qc hvt e2];simp)
    ·intro k;unfold up;split
     ·exact ⟨e2,hvt⟩
     ·exact ⟨H.slot k,H.kN k⟩
    ·intro p g hp;cases p with
     |t k=>
      obtain ⟨p1,p2⟩:=hp;unfold up at p1 p2;by_cases e:k=dk
      ·rw [if_pos e] at p1 p2;simp only [e,if_true];have p1':v.isRow=true:=p1;rw [if_pos p1'];exact ⟨b,c,v,u,hb,hc,hv,p1,hcell o' u e1,p2⟩
      ·rw [if_neg e] at p1 p2;simp only [e,if_false];exact ⟨p1,p2⟩
     |b i2 j=>
      obtain ⟨b2,x2,y2,v2,q1,q2,q3,q4,q5,q6⟩:=hp;rw [List.getElem?_set] at q2;split at q2
      ·rename_i e;subst e;split at q2
       ·cases q2;rw [ael] at q3;split at q3
        ·cases q3;rw [xW] at q4;cases q4
        ·exact ⟨b2,c,y2,v2,q1,hc,q3,q4,q5,q6⟩
       ·cases q2
      ·exact ⟨b2,x2,y2,v2,q1,q2,q3,q4,q5,q6⟩
    ·have hno:∀g,¬Own w bs (σ.bx.set i (setAt c o' [v.cO])) (up (Sl σ.tm a) dk (v,u)) (.b i o') g:=by
      rintro g ⟨b2,x2,y2,v2,q1,q2,q3,q4,q5,q6⟩;rw [List.getElem?_set] at q2;simp only [if_true] at q2;split at q2
      ·cases q2;rw [ael,if_pos rfl] at q3;cases q3;rw [xW] at q4;cases q4
      ·cases q2
     intro p q g hp hq he;cases p with
     |t k=>
      cases q with
      |t k2=>
       by_cases e:k=dk
       ·by_cases e2:k2=dk
        ·rw [e,e2]
        ·simp only [e,e2,if_true,if_false] at he;split at he
         ·cases he
         ·cases he;exact absurd rfl e2
       ·by_cases e2:k2=dk
        ·simp only [e,e2,if_true,if_false] at he;split at he
         ·cases he
         ·cases he;exact absurd rfl e
        ·simp only [e,e2,if_false] at he;exact he
      |b i2 j=>
       simp only [] at he;split at he
       ·split at he
        ·rw [←he] at hq;exact absurd hq (hno g)
        ·cases he
       ·cases he
     |b i2 j=>
      cases q with
      |t k2=>
       simp only [] at he;split at he
       ·split at he
        ·rw [he] at hp;exact absurd hp (hno g)
        ·cases he
       ·cases he
      |b i3 j3=>exact he
  ·cases h
theorem FN {b:Nat} {t:TypeId}:∀(vs cur:List Value) (o:Nat) (w:World),o+vs.length<=cur.length->w.heap[b]?=some (.cells cur.toArray t (0,0))->
  (w.setCells b o vs).heap[b]?=some (.cells (setAt cur o vs).toArray t (0,0))∧(∀k,k≠b->(w.setCells b o vs).heap[k]?=w.heap[k]?)∧(w.setCells b o vs).heap.size=w.heap.size∧Below 0 w (w.setCells b o vs)
 |[],cur,o,w,hl,hb=>⟨by rw [jo];exact hb,fun _ _=>rfl,rfl,Below.refl _ _⟩
 |v::vs,cur,o,w,hl,hb=>by
  simp only [List.length_cons] at hl;have hb2:(w.setCell ⟨b,o,none⟩ v).heap[b]?=some (.cells (cur.set o v).toArray t (0,0)):=by simp [World.setCell,Array.getElem?_modify,hb]
  obtain ⟨h1,h2,h3,h4⟩:=FN vs (cur.set o v) (o+1) _ (by simp;omega) hb2;refine ⟨?_,fun k hk=>?_,?_,?_⟩
  ·show ((w.setCell ⟨b,o,none⟩ v).setCells b (o+1) vs).heap[b]?=_;rw [h1,Ew cur o v vs oM]
  ·show ((w.setCell ⟨b,o,none⟩ v).setCells b (o+1) vs).heap[k]?=_;rw [h2 k hk];exact Below.heap_setCell w ⟨b,o,none⟩ v k hk
  ·show ((w.setCell ⟨b,o,none⟩ v).setCells b (o+1) vs).heap.size=_;rw [h3];simp [World.setCell]
  ·exact ((Below.refl 0 w).setCell (p:=⟨b,o,none⟩) (Nat.zero_le _) v).trans h4
theorem mV {α:Type}:∀(l:List α) (o:Nat) (vs:List α),(setAt l o vs).length=l.length
 |[],o,vs=>by rw [setAt]
 |x::l,0,[]=>by rw [jo]
 |x::l,0,v::vs=>by rw [jZ,List.length_cons,List.length_cons,mV l 0 vs]
 |x::l,o+1,vs=>by rw [ja,List.length_cons,List.length_cons,mV l o vs]
theorem xC {α:Type}:∀(l r:List α) (o:Nat) (vs:List α),o+vs.length<=l.length->setAt (l++r) o vs=setAt l o vs++r
 |[],r,o,vs,h=>by
  have h':vs.length=0:=by rw [List.length_nil] at h;omega
  obtain rfl:=List.eq_nil_of_length_eq_zero h';rw [jo,jo]
 |x::l,r,0,[],h=>by rw [jo,jo]
 |x::l,r,0,v::vs,h=>by rw [List.cons_append,jZ,jZ,xC l r 0 vs (by simp at h⊢;omega),List.cons_append]
 |x::l,r,o+1,vs,h=>by rw [List.cons_append,ja,ja,xC l r o vs (by simp at h;omega),List.cons_append]
theorem LY {ty b o':Nat} {i:TypeInfo} {u:Value} {C:List Value} {t:TypeId} (hi:P.info? ty=some i) (hs:u.cells.size=i.size) (hb:w.heap[b]?=some (.cells C.toArray t (0,0))) (hl:o'+i.size<=C.length) (h1:∀v ∈ u.cells.toList,v.oneCell'=true):
  (Instr.storeAt ty (.pointer (some ⟨b,o',none⟩)) u).run P w=.ok () (w.setCells b o' u.cells.toList):=by
 have hth:w.there b o' u.cells.size:=fun j hj=>by
  constructor
  ·rw [kD hb];simp;omega
  ·simp [World.frozen?,hb]
 have:=run_storeVar_mid (P:=P) w b o' ty u.cells hth (by rw [hi,Option.map_some,hs]) (by rw [Array.all_eq_true_iff_forall_mem];intro v hv;exact h1 v (by simpa using hv));have e:storeVar ty ⟨b,o',none⟩ u=storeVar ty ⟨b,o',none⟩ (.agg u.cells):=rfl;simp only [Instr.storeAt,Instr.sureAddr,Sem.run_bind,Sem.run_pure,Result.andThen_ok,e,this]
def afc (x:Operand) (d:Loc):Loc:=
 match x with
 |.tmp k=> .t k
 |_=>d
theorem Ry (HT:mM P T) (H:aB lim bs w σ.bx (Sl σ.tm a) m) (hd:∀k,o.dst=some k->k<a.tmps.size) {t:Nat} {p x:Operand} {X:AV} {d:TD} {i o':Nat} {c:List AV} (ho:o.op=.store t p x) (ht:T t=some d) (hp:AV.R lim bs w (.ptr i o') (a.eval p)) (hx:Av lim bs w X (a.eval x)) (hsrc:X.isRow=true->∃k,x=.tmp k∧X=get σ.tm k)
  (hc:σ.bx[i]?=some c) (h:uM T t d (.ptr i o') X [c]=some out) (hok:out.ok=true) (hK:yA m lim bs w a (fin o.dst out [i] (fM x) σ) K):o.wp P a w K Q:=by
 rw [AV.R] at hp;obtain ⟨b,hb,hp⟩:=hp;obtain ⟨C,tl,tt,h1,h2,h3⟩:=H.box i b c hb hc;have hmem:b ∈ bs:=List.mem_of_getElem? hb;unfold uM at h;simp only [] at h;cases h;simp only [Bool.and_eq_true,decide_eq_true_eq] at hok;obtain ⟨⟨e1,e2⟩,e3⟩:=hok;have Va:dZ (cells X)=true:=by
  cases ha:d.agg with
  |true=>rw [ha,if_pos rfl,Bool.and_eq_true] at e3;exact e3.1
  |false=>
   rw [ha,if_neg (by simp)] at e3;cases X<;>first|(show dZ [_]=true;rw [dZ,e3];rfl)|cases e3
 have hcells:=G8 Va hx.r;have hlen:=AV.gK hcells;have arQ:=AV.gK h2;obtain ⟨inf,z,hi,hs,-⟩:=HT.info t d ht;have hrun:(execOp a.eval o).run P w=.ok .skip (w.setCells b o' (a.eval x).cells.toList):=by unfold execOp;simp only [ho,hp];rw [Sem.run_bind,LY hi (by rw [hs,←e1,←hlen];simp) h1 (by rw [hs,List.length_append];omega) (EF Va hcells)];rfl
 obtain ⟨g1,g2,g3,g4⟩:=FN (a.eval x).cells.toList (C++tl) o' w (by rw [hlen,List.length_append];omega) h1;rw [xC _ _ _ _ (by rw [hlen];omega)] at g1;have hfr:Fr m lim w lim (w.setCells b o' (a.eval x).cells.toList):=by
  refine ⟨g4,fun k hk hm=>⟨g2 k (fun e=>by subst e;exact hm (H.mb k hmem)),rfl⟩,fun _ _=>Nat.le_refl _,fun k j hk hj=>?_,fun k cur e p hk=>?_⟩
  ·exact World.cell?_of_block (g2 k (fun e=>by subst e;rw [H.free k hmem] at hj;omega))
  ·by_cases hkb:k=b
   ·subst hkb;rw [h1] at hk;cases hk;exact ⟨_,g1,by simp [mV]⟩
   ·exact ⟨cur,(g2 k hkb).trans hk,rfl⟩
 have qm:AV.Ext lim bs w lim bs (w.setCells b o' (a.eval x).cells.toList):=hfr.ext (fun _ _ h=>h);obtain ⟨w2,hw2⟩:∃w2,w2=w.setCells b o' (a.eval x).cells.toList:=⟨_,rfl⟩;rw [←hw2] at hrun g1 g2 g3 g4 hfr qm;have hkeep:∀k:Nat,AV.R lim bs w2 (get σ.tm k) (a.tmps.getD k undef):=fun k=>
  AV.R.pV qm (H.kN k) (fun g hg1 hg2=>⟨g2 g (fun e=>by subst e;exact (H.own (.t k) _ ⟨hg1,hg2⟩).2 hmem),rfl⟩) (H.slot k)
 refine ae7 hrun (hK lim bs w2 _ ⟨?_,hfr,fun _ _ h=>h,bY _ _ _,put_defers _ _ _⟩);show aB lim bs w2 (ak σ.bx [i] [setAt c o' (cells X)]++[]) (Sl (eG (gu σ.tm (fM x)) o.dst .bad) (a.put o.dst undef)) m;rw [List.append_nil,vg,jh hd];obtain ⟨H2,hg3,hg4⟩:=yM H (fM x);have hstop:∀k,AV.R lim bs w2 (upD (Sl (gu σ.tm (fM x)) a) o.dst (.bad,undef) k).1 (upD (Sl (gu σ.tm (fM x)) a) o.dst (.bad,undef) k).2∧(upD (Sl (gu σ.tm (fM x)) a) o.dst (.bad,undef) k).1.top=true:=by
  intro k;have h1:AV.R lim bs w2 (get (gu σ.tm (fM x)) k) (a.tmps.getD k undef)∧(get (gu σ.tm (fM x)) k).top=true:=by
   refine ⟨?_,H2.kN k⟩;rcases (wH (fM x) σ.tm k).1 with e|e
   ·rw [e];exact hkeep k
   ·rw [e];exact (hkeep k).cO
  cases hdst:o.dst with
  |none=>exact h1
  |some dk=>
   show AV.R lim bs w2 (up _ dk (.bad,undef) k).1 (up _ dk (.bad,undef) k).2∧(up _ dk (.bad,undef) k).1.top=true;unfold up;split
   ·exact ⟨oV _,rfl⟩
   ·exact h1
 have sQ:∀k g,Own w2 bs (σ.bx.set i (setAt c o' (cells X))) (upD (Sl (gu σ.tm (fM x)) a) o.dst (.bad,undef)) (.t k) g->Own w bs σ.bx (Sl σ.tm a) (.t k) g∧k ∉ fM x:=by
  intro k g hp;have h1:Own w bs σ.bx (Sl (gu σ.tm (fM x)) a) (.t k) g:=by
   cases hdst:o.dst with
   |none=>rw [hdst] at hp;exact hp
   |some dk=>
    rw [hdst] at hp;obtain ⟨p1,p2⟩:=hp;have p1':(up (Sl (gu σ.tm (fM x)) a) dk (.bad,undef) k).1.isRow=true:=p1;have p2':(up (Sl (gu σ.tm (fM x)) a) dk (.bad,undef) k).2.ownBlock=some g:=p2;unfold up at p1' p2';split at p1'
    ·cases p1'
    ·rename_i e;rw [if_neg e] at p2';exact ⟨p1',p2'⟩
  exact ⟨hg3 _ _ h1,fun hk=>hg4 k g hk h1⟩
 obtain ⟨NW,hNW⟩:∃l,l=cells X:=⟨_,rfl⟩;rw [←hNW] at sQ⊢;have hNR:AV.Rs lim bs w NW (a.eval x).cells.toList:=by rw [hNW];exact hcells
 have hone:d.agg=false->cells X=[X]∧(a.eval x).cells.toList=[a.eval x]:=by
  intro ha;rw [ha,if_neg (by simp)] at e3;have hc1:cells X=[X]:=by
   cases X<;>first|rfl|cases e3
  refine ⟨hc1,?_⟩;have:=adT e3 hx.r;cases hh:a.eval x<;>first|rfl|(rw [hh] at this;cases this)
 have hNT:NW.all AV.top=true:=by
  rw [hNW];cases ha:d.agg with
  |true=>
   rw [ha,if_pos rfl,Bool.and_eq_true] at e3;exact lH e3.2
  |false=>rw [(hone ha).1,List.all_cons,hx.t];rfl
 have aeo:∀(j:Nat) (y:AV) (v:Value) (g:Nat),NW[j]?=some y->(a.eval x).cells.toList[j]?=some v->y.isRow=true->v.ownBlock=some g->j=0∧∃k,x=.tmp k∧Own w bs σ.bx (Sl σ.tm a) (.t k) g:=by
  intro j y v g hy hv hr hg;rw [hNW] at hy;cases ha:d.agg with
  |true=>
   rw [ha,if_pos rfl,Bool.and_eq_true] at e3;rw [nJ (fJ e3.2 hy)] at hr;cases hr
  |false=>
   obtain ⟨u1,u2⟩:=hone ha;rw [u1] at hy;rw [u2] at hv;have hj:j=0:=by
    cases j with
    |zero=>rfl
    |succ j=>simp at hy
   subst hj;simp at hy hv;subst hy hv;obtain ⟨k,hk,hXk⟩:=hsrc hr;exact ⟨rfl,k,hk,by show (get σ.tm k).isRow=true;rw [←hXk];exact hr,by subst hk;exact hg⟩
 have ar0:NW.length=(a.eval x).cells.toList.length:=(AV.gK hNR).symm;have arJ:∀g,¬∃k,k ∈ fM x∧Own w2 bs (σ.bx.set i (setAt c o' NW)) (upD (Sl (gu σ.tm (fM x)) a) o.dst (.bad,undef)) (.t k) g:=fun g ⟨k,hk,ho⟩=>(sQ k g ho).2 hk;have agt:∀b2 j,b2≠b->w2.cell? ⟨b2,j,none⟩=w.cell? ⟨b2,j,none⟩:=fun b2 j hne=>World.cell?_of_block (g2 b2 hne);have hcell:∀i2 j g,Own w2 bs (σ.bx.set i (setAt c o' NW)) (upD (Sl (gu σ.tm (fM x)) a) o.dst (.bad,undef)) (.b i2 j) g->
   (i2=i∧j=o'∧0<NW.length∧∃k,x=.tmp k∧Own w bs σ.bx (Sl σ.tm a) (.t k) g)∨(¬(i2=i∧o'<=j∧j<o'+NW.length)∧Own w bs σ.bx (Sl σ.tm a) (.b i2 j) g):=by
  rintro i2 j g ⟨b2,x2,y2,v2,q1,q2,q3,q4,q5,q6⟩;rw [List.getElem?_set] at q2;split at q2
  ·rename_i e;subst e;split at q2
   ·cases q2;rw [hb] at q1;cases q1;have hjc:j<C.length:=by have:=(List.getElem?_eq_some_iff.1 q3).1;rw [mV] at this;omega
    have q5':(setAt C o' (a.eval x).cells.toList)[j]?=some v2:=by rw [kD g1,List.getElem?_append_left (by rw [mV];exact hjc)] at q5;exact q5
    rw [dX] at q3 q5';by_cases hr:o'<=j∧j<o'+NW.length
    ·have hjl:j<c.length:=oM;rw [if_pos ⟨hr.1,hr.2,hjl⟩] at q3;rw [if_pos ⟨hr.1,oM,oM⟩] at q5';obtain ⟨hj0,k,hk,hown⟩:=aeo (j-o') y2 v2 g q3 q5' q4 q6;exact .inl ⟨rfl,oM,oM,k,hk,hown⟩
    ·rw [if_neg oM] at q3;rw [if_neg oM] at q5';exact .inr ⟨fun hh=>hr ⟨hh.2.1,hh.2.2⟩,b,c,y2,v2,hb,hc,q3,q4,dV h1 q5',q6⟩
   ·cases q2
  ·rename_i e;have hne:b2≠b:=fun hh=>e (by subst hh;exact gm H.BX hb q1);exact .inr ⟨fun hh=>e hh.1.symm,b2,x2,y2,v2,q1,q2,q3,q4,by rw [←agt b2 j hne];exact q5,q6⟩
 have hcx:∀(j:Nat) (y:AV) (v:Value) (g:Nat),c[j]?=some y->C[j]?=some v->y.isRow=true->v.ownBlock=some g->w2.heap[g]?=w.heap[g]?∧lim g=lim g:=by intro j y v g hy hv hr hg;have hown:Own w bs σ.bx (Sl σ.tm a) (.b i j) g:=⟨b,c,y,v,hb,hc,hy,hr,dV h1 hv,hg⟩;exact ⟨g2 g (fun e=>by subst e;exact (H.own _ _ hown).2 hmem),rfl⟩
 have hNx:AV.Rs lim bs w2 NW (a.eval x).cells.toList:=by refine qj qm hNT (fun j y v g hy hv hr hg=>?_) hNR;obtain ⟨-,k,-,hown⟩:=aeo j y v g hy hv hr hg;exact ⟨g2 g (fun e=>by subst e;exact (H.own _ _ hown).2 hmem),rfl⟩
 refine H.Ye hb hc g1 ⟨_,h1,by simp [mV]⟩ g2 g3 (zU (qj qm h3 hcx h2) hNx) (xn h3 hNT) hstop (fun p=>match p with|.b i2 j=>if i2=i∧o'<=j∧j<o'+NW.length then (afc x (.b i2 j)) else .b i2 j|p=>p) ?_ ?_
 ·intro p g hp;cases p with
  |t k=>exact (sQ k g hp).1
  |b i2 j=>
   rcases hcell i2 j g hp with ⟨r1,r2,r3,k,hk,hown⟩|⟨r1,r2⟩
   ·have hne:=r3;subst r1 r2;simp only [true_and,Nat.le_refl];rw [if_pos oM,hk];exact hown
   ·simp only [];rw [if_neg r1];exact r2
 ·intro p q g hp hq he;cases p with
  |t k=>
   cases q with
   |t k2=>exact he
   |b i2 j=>
    simp only [] at he;split at he
    ·cases x with
     |tmp k'=>cases he;exact absurd (by simp [fM]) (sQ k g hp).2
     |_=>cases he
    ·cases he
  |b i2 j=>
   cases q with
   |t k2=>
    simp only [] at he;split at he
    ·cases x with
     |tmp k'=>cases he;exact absurd (by simp [fM]) (sQ k2 g hq).2
     |_=>cases he
    ·cases he
   |b i3 j3=>
    rcases hcell i2 j g hp with ⟨r1,r2,-,k,hk,hown⟩|⟨r1,r2⟩
    ·rcases hcell i3 j3 g hq with ⟨r3,r4,-⟩|⟨r3,r4⟩
     ·rw [r1,r2,r3,r4]
     ·exact absurd (H.qO _ _ g hown r4) (by simp)
    ·rcases hcell i3 j3 g hq with ⟨r3,r4,-,k,hk,hown⟩|⟨r3,r4⟩
     ·exact absurd (H.qO _ _ g r2 hown) (by simp)
     ·exact H.qO _ _ g r2 r4
theorem alloc_old (w:World) (x:Obj) {k:Nat} (h:k<w.heap.size):(w.alloc x).heap[k]?=w.heap[k]?:=((Below.refl w.heap.size w).alloc (Nat.le_refl _) x).block k h
theorem uo (w:World) (x:Obj):(w.alloc x).heap[w.heap.size]?=some x:=heap_alloc_new w x
theorem kG (w:World) (x:Obj):(w.alloc x).heap.size=w.heap.size+1:=by simp
theorem AP (w:World) (x:Obj):Below 0 w (w.alloc x):=(Below.refl 0 w).alloc (Nat.zero_le _) x
theorem lU (H:aB lim bs w bx S m) {b:Nat} (h:b ∈ bs):b<w.heap.size:=by
 obtain ⟨i,hi,rfl⟩:=List.getElem_of_mem h;have hi2:i<bx.length:=by rw [←H.len];exact hi
 obtain ⟨c,tl,t,h1,-⟩:=H.box i _ (bx[i]) (List.getElem?_eq_getElem hi) (List.getElem?_eq_getElem hi2);exact dO h1
theorem I5 (x:Obj):Fr m lim w lim (w.alloc x):=
 ⟨AP w x,fun k hk _=>⟨alloc_old w x hk,rfl⟩,fun _ _=>Nat.le_refl _,fun k j hk _=>World.cell?_of_block (alloc_old w x hk),fun b cur e p h=>⟨cur,(alloc_old w x (dO h)).trans h,rfl⟩⟩
theorem di {α:Type} (l:List α) (x:α) (i:Nat):(l++[x])[i]?=if i=l.length then some x else l[i]?:=by
 rw [List.getElem?_append];split
 ·rename_i h;rw [if_neg oM]
 ·rename_i h;by_cases e:i=l.length
  ·subst e;simp
  ·rw [if_neg e,List.getElem?_eq_none (show [x].length<=i-l.length by simp;omega),List.getElem?_eq_none oM]
theorem aB.alloc (H:aB lim bs w bx S m) (hm:∀b,w.heap.size<=b->m b) {c:List AV} {V:List Value} (tl:List Value) {t:TypeId} (hR:AV.Rs lim bs w c V) (hT:c.all AV.top=true) (hn:∀(j:Nat) (y:AV) (v:Value),c[j]?=some y->V[j]?=some v->y.isRow=true->v.ownBlock=none):
  aB lim (bs++[w.heap.size]) (w.alloc (.cells (V++tl).toArray t)) (bx++[c]) S m:=by
 have hnb:w.heap.size ∉ bs:=fun h=>Nat.lt_irrefl _ (lU H h);have tX:∀(i b:Nat),bs[i]?=some b->(bs++[w.heap.size])[i]?=some b:=fun i b h=>by rw [di,if_neg (fun e=>by subst e;simp at h)];exact h
 have hfr:Fr m lim w lim (w.alloc (.cells (V++tl).toArray t)):=I5 _;have qm:=hfr.ext tX;have hrow:∀p g,Own w bs bx S p g->(w.alloc (.cells (V++tl).toArray t)).heap[g]?=w.heap[g]?∧lim g=lim g:=fun p g hp=>⟨alloc_old w _ (Own.lt H hp),rfl⟩;have ho:∀p g,Own (w.alloc (.cells (V++tl).toArray t)) (bs++[w.heap.size]) (bx++[c]) S p g->Own w bs bx S p g:=by
  intro p g hp;cases p with
  |t k=>exact hp
  |b i j=>
   obtain ⟨b,x,y,v,q1,q2,q3,q4,q5,q6⟩:=hp;rw [di] at q1 q2;rw [←H.len] at q2;split at q1
   ·rename_i e;cases q1;rw [if_pos e] at q2;cases q2;have hjv:j<V.length:=by rw [AV.gK hR];exact (List.getElem?_eq_some_iff.1 q3).1
    have q5':V[j]?=some v:=by rw [kD (uo w _),List.getElem?_append_left hjv] at q5;exact q5
    rw [hn j y v q3 q5' q4] at q6;cases q6
   ·rename_i e;rw [if_neg e] at q2;exact ⟨b,x,y,v,q1,q2,q3,q4,by rw [←World.cell?_of_block (w':=w.alloc (.cells (V++tl).toArray t)) (alloc_old w _ (lU H (List.mem_of_getElem? q1)))];exact q5,q6⟩
 refine ⟨by simp [H.len],?_,fun b hb=>?_,fun b hb=>?_,fun i b x hi hx=>?_,fun k=>?_,H.kN,fun b hb=>H.top b (by rw [kG] at hb;omega),fun p g hp=>?_,fun p q g hp hq=>H.qO p q g (ho p g hp) (ho q g hq)⟩
 ·rw [List.nodup_append];exact ⟨H.BX,by simp,fun x hx y hy e=>by rw [List.mem_singleton.1 hy] at e;exact hnb (e▸hx)⟩
 ·rcases List.mem_append.1 hb with hb|hb
  ·exact H.free b hb
  ·rw [List.mem_singleton.1 hb];exact H.top _ (Nat.le_refl _)
 ·rcases List.mem_append.1 hb with hb|hb
  ·exact H.mb b hb
  ·rw [List.mem_singleton.1 hb];exact hm _ (Nat.le_refl _)
 ·rw [di] at hi hx;rw [←H.len] at hx;split at hi
  ·rename_i e;cases hi;rw [if_pos e] at hx;cases hx;refine ⟨V,tl,t,uo w _,qj qm hT (fun j y v g hy hv hr hg=>?_) hR,hT⟩;rw [hn j y v hy hv hr] at hg;cases hg
  ·rename_i e;rw [if_neg e] at hx;obtain ⟨C,tl2,t2,g1,g2,g3⟩:=H.box i b x hi hx;refine ⟨C,tl2,t2,(alloc_old w _ (dO g1)).trans g1,qj qm g3 (fun j y v g hy hv hr hg=>?_) g2,g3⟩;exact hrow (.b i j) g ⟨b,x,y,v,hi,hx,hy,hr,dV g1 hv,hg⟩
 ·exact AV.R.pV qm (H.kN k) (fun g h1 h2=>hrow (.t k) g ⟨h1,h2⟩) (H.slot k)
 ·refine ⟨(H.own p g (ho p g hp)).1,fun hb=>?_⟩;rcases List.mem_append.1 hb with hb|hb
  ·exact (H.own p g (ho p g hp)).2 hb
  ·rw [List.mem_singleton.1 hb] at hp;exact Nat.lt_irrefl _ (Own.lt H (ho p _ hp))
theorem KG (H:aB lim bs w σ.bx (Sl σ.tm a) m) (hm:∀b,w.heap.size<=b->m b) (hd:∀k,o.dst=some k->k<a.tmps.size) {c:List AV} {V:List Value} {t:TypeId} (hrun:(execOp a.eval o).run P w=.ok (.value (.pointer (some ⟨w.heap.size,0,none⟩))) (w.alloc (.cells V.toArray t)))
  (hR:AV.Rs lim bs w c V) (hT:c.all AV.top=true) (hn:∀(j:Nat) (y:AV) (v:Value),c[j]?=some y->V[j]?=some v->y.isRow=true->v.ownBlock=none) {ok:Bool} (hK:yA m lim bs w a (fin o.dst ⟨.ptr σ.bx.length 0,cs,[c],ok⟩ [] [] σ) K):o.wp P a w K Q:=by
 have H2:=H.alloc hm [] (t:=t) hR hT hn;rw [List.append_nil] at H2;refine jq hrun (hK lim (bs++[w.heap.size]) _ _ ⟨?_,I5 _,fun i b h=>?_,bY _ _ _,put_defers _ _ _⟩)
 ·show aB lim _ _ (ak σ.bx [] cs++[c]) (Sl (eG σ.tm o.dst (.ptr σ.bx.length 0)) (a.put o.dst _)) m;rw [aC,jh hd];refine H2.eG ?_ rfl (fun k g _ hh=>by cases hh);rw [AV.R];exact ⟨w.heap.size,by rw [di,if_pos H.len.symm],rfl⟩
 ·rw [di,if_neg (fun e=>by subst e;simp at h)];exact h
theorem Xk (HT:mM P T) {t:Nat} {d:TD} (ho:o.op=.alloc t) (ht:T t=some d):∃V:List Value,(execOp a.eval o).run P w=.ok (.value (.pointer (some ⟨w.heap.size,0,none⟩))) (w.alloc (.cells V.toArray t))∧zrs d.zero V:=by obtain ⟨i,z,hi,hs,hb,hz,hc,hzr⟩:=HT.info t d ht;refine ⟨z.cells.toList,?_,hzr⟩;unfold execOp;simp [ho,Instr.alloc,zeroValue,typeInfo,hi,hz,newVar,newRow]
theorem adi {t:Nat} {x:Operand} (ho:o.op=.box t x):(execOp a.eval o).run P w=.ok (.value (.pointer (some ⟨w.heap.size,0,none⟩))) (w.alloc (.cells (a.eval x).cells.toList.toArray t)):=by unfold execOp;simp [ho,Instr.box,newVar,newRow]
theorem aB.grow (H:aB lim bs w bx S m) {g:Nat} (hg:g ∉ bs) (Qo:m g) (hgl:g<w'.heap.size) {n:Nat} (hsz:w.heap.size<=w'.heap.size) (hb:Below 0 w w') (hoth:∀k,k<w.heap.size->k≠g->w'.heap[k]?=w.heap[k]?) (hown:∀p,¬Own w bs bx S p g)
  (hnew:w'.heap.size<=w.heap.size∨g=w.heap.size∧w'.heap.size=w.heap.size+1) (hle:lim g<=n) (hcell:∀j,g<w.heap.size->j<lim g->w'.cell? ⟨g,j,none⟩=w.cell? ⟨g,j,none⟩) (hsh:∀(cur:Array Value) (e:TypeId) (p:Nat×Nat),w.heap[g]?=some (Obj.cells cur e p)->∃cur':Array Value,w'.heap[g]?=some (.cells cur' e p)∧cur'.size=cur.size):
  aB (fun b=>if b=g then n else lim b) bs w' bx S m∧Fr m lim w (fun b=>if b=g then n else lim b) w'∧∀p k,Own w' bs bx S p k->Own w bs bx S p k:=by
 have hfr:Fr m lim w (fun b=>if b=g then n else lim b) w':=by
  refine ⟨hb,fun k hk hm=>?_,fun k hk=>?_,fun k j hk hj=>?_,fun k cur e p hk=>?_⟩
  ·have hne:k≠g:=fun e=>hm (e▸Qo);exact ⟨hoth k hk hne,by simp only [if_neg hne]⟩
  ·show lim k<=if k=g then n else lim k;split
   ·rename_i e;subst e;exact hle
   ·exact Nat.le_refl _
  ·by_cases e:k=g
   ·subst e;exact hcell j hk hj
   ·exact World.cell?_of_block (hoth k hk e)
  ·by_cases he:k=g
   ·subst he;exact hsh cur e p hk
   ·exact ⟨cur,(hoth k (dO hk) he).trans hk,rfl⟩
 have h:=H.world (lim':=fun b=>if b=g then n else lim b) (hfr.ext (fun _ _ h=>h)) (fun b hbm=>?_) (fun p k hp=>?_) (fun b hbb=>?_)
 ·exact ⟨h.1,hfr,h.2⟩
 ·have hne:b≠g:=fun e=>hg (e▸hbm);exact ⟨hoth b (lU H hbm) hne,by simp only [if_neg hne];exact H.free b hbm⟩
 ·have hne:k≠g:=fun e=>hown p (e▸hp);exact ⟨hoth k (Own.lt H hp) hne,by simp only [if_neg hne]⟩
 ·show (if b=g then n else lim b)=0;rw [if_neg oM];exact H.top b oM
theorem ng:∀{x y:List AV} {c d:List Value},AV.Rs lim bs w x c->AV.Rs lim bs w y d->AV.Rs lim bs w (x++y) (c++d)
 |[],y,c,d,h,h2=>by rw [AV.Rs] at h;subst h;exact h2
 |z::x,y,c,d,h,h2=>by rw [AV.Rs] at h;obtain ⟨v,r,rfl,h3,h4⟩:=h;rw [List.cons_append,List.cons_append,AV.Rs];exact ⟨v,_,rfl,h3,ng h4 h2⟩
theorem Td {z len:Nat} {place:Nat->Option (Nat×Nat)} (hp:∀i,place i=some (i*z,z)):
  ∀{ps:List (Nat×AV)} {vs:List (Nat×Value)} {k:Nat} {V:Array Value} {l:List AV},Ps lim bs w ps vs->parts k ps=some l->dZ l=true->(ps.all fun p=>decide ((cells p.2).length=z))=true->k+ps.length=len->V.size=len*z->
   ∃V',Instr.fill place V vs=some V'∧V'.size=V.size∧V'.toList.take (k*z)=V.toList.take (k*z)∧AV.Rs lim bs w l (V'.toList.drop (k*z)):=by
 intro ps vs k V l hps
 induction hps generalizing k V l with
 |nil=>
  intro h _ _ hk hV;rw [parts] at h;cases h;refine ⟨V,rfl,rfl,rfl,?_⟩;rw [List.drop_eq_nil_of_le (by simp [hV];simp at hk;rw [hk];exact Nat.le_refl _),AV.Rs]
 |@cons i x u ps vs hx hr ih=>
  intro h h1 hz hk hV;rw [parts] at h;split at h
  ·rename_i hik;subst hik;cases hl2:parts (i+1) ps with
   |none=>rw [hl2] at h;cases h
   |some l2=>
    rw [hl2] at h;cases h;have Va:∀(a b:List AV),dZ (a++b)=true->dZ a=true∧dZ b=true:=by
     intro a
     induction a with
     |nil=>intro b hb;exact ⟨rfl,hb⟩
     |cons y a iha=>
      intro b hb;rw [List.cons_append,dZ,Bool.and_eq_true] at hb;have:=iha b hb.2;exact ⟨by rw [dZ,hb.1,this.1];rfl,this.2⟩
    obtain ⟨o1,o2⟩:=Va _ _ h1;rw [List.all_cons,Bool.and_eq_true,decide_eq_true_eq] at hz;have hc:=G8 o1 hx.r.cO;have hcl:=AV.gK hc;have hcs:u.cells.size=z:=by
     have h5:u.cells.toList.length=z:=by rw [hcl];exact hz.1
     simpa using h5
    rw [List.length_cons] at hk;have hroom:i*z+z<=V.size:=by rw [hV,←Nat.succ_mul];exact Nat.mul_le_mul_right z oM
    have hfold:=JU u.cells (i*z) V oM;obtain ⟨V',e1,e2,e3,e4⟩:=ih (k:=i+1) (V:=u.cells.zipIdx.foldl (fun (cs:Array Value) (c,j)=>cs.setIfInBounds (i*z+j) c) V) hl2 o2 hz.2 oM (by
     have:=congrArg List.length hfold;rw [Ac] at this;simp only [Array.length_toList] at this;rw [this,hV])
    have hsz2:(u.cells.zipIdx.foldl (fun (cs:Array Value) (c,j)=>cs.setIfInBounds (i*z+j) c) V).size=V.size:=by have:=congrArg List.length hfold;rw [Ac] at this;simpa using this
    rw [hfold] at e3;refine ⟨V',?_,by rw [e2,hsz2],?_,?_⟩
    ·rw [Instr.fill,hp i];simp only [];rw [if_neg (by simp [hcs];omega)];exact e1
    ·apply List.ext_getElem?;intro j;rw [List.getElem?_take,List.getElem?_take];split
     ·rename_i hj;have h6:=congrArg (fun l:List Value=>l[j]?) e3;simp only [List.getElem?_take] at h6;have:j<(i+1)*z:=by rw [Nat.succ_mul];omega
      rw [if_pos this,if_pos this,dX,if_neg oM] at h6;exact h6
     ·rfl
    ·have hsplit:V'.toList.drop (i*z)=u.cells.toList++V'.toList.drop ((i+1)*z):=by
      apply List.ext_getElem?;intro j;rw [List.getElem?_drop,List.getElem?_append];split
      ·rename_i hj;have h6:=congrArg (fun l:List Value=>l[i*z+j]?) e3;simp only [List.getElem?_take] at h6;have hjz:j<z:=by simpa [hcs] using hj
       have:i*z+j<(i+1)*z:=by rw [Nat.succ_mul];omega
       rw [if_pos this,if_pos this,dX,if_pos ⟨oM,by simp [hcs];omega,by simp;omega⟩] at h6;rw [h6];congr 1;omega
      ·rename_i hj;rw [List.getElem?_drop];congr 1;have:u.cells.toList.length=z:=by simp [hcs]
       rw [Nat.succ_mul];omega
     rw [hsplit];exact ng hc e4
  ·cases h
theorem Px {g n c e z:Nat} {l:List AV} {V:Array Value} (hl:l.length=n*z) (hf:AV.aj l=true) (hb:w.heap[g]?=some (.cells V e (0,0))) (hn:n<=c) (hc:c<=maxLen) (hs:V.size=c*z) (hlim:lim g=l.length) (hR:∃vs:List Value,AV.Rs lim bs w l vs∧V.toList.take (n*z)=vs):
  AV.R lim bs w (.row e z n l) (.slice (some ⟨g,0,none⟩) n c):=by
 obtain ⟨vs,h1,h2⟩:=hR;rw [AV.R];refine ⟨hl,hf,.inr ⟨g,c,V,rfl,hb,hn,hc,hs,hlim,qW h1 (fun j v hj=>?_)⟩⟩;have hb2:w.heap[g]?=some (.cells V.toList.toArray e (0,0)):=by simpa using hb
 rw [kD hb2,Nat.zero_add];have h3:(V.toList.take (n*z))[j]?=some v:=by rw [h2];exact hj
 rw [List.getElem?_take] at h3;split at h3
 ·exact h3
 ·cases h3
theorem ag6 {ps:List (Nat×AV)} {vs:List (Nat×Value)} (h:Ps lim bs w ps vs):ps.length=vs.length:=by
 induction h with
 |nil=>rfl
 |cons _ _ ih=>rw [List.length_cons,List.length_cons,ih]
theorem QH (HT:mM P T) (H:aB lim bs w σ.bx (Sl σ.tm a) m) (hm:∀b,w.heap.size<=b->m b) (hd:∀k,o.dst=some k->k<a.tmps.size) {t e len:Nat} {d:TD} {ps:Array (Nat×Operand)} {X:List (Nat×AV)} (ho:o.op=.buildSlice t len ps) (ht:AA T t=some (e,d)) (hx:Ps lim bs w X (ps.toList.map fun p=>(p.1,a.eval p.2)))
  {mt:Bool} (h:gy mt σ.bx.length e d len X cs=some out) (hok:out.ok=true) (hK:yA m lim bs w a (fin o.dst out [] [] σ) K):o.wp P a w K Q:=by
 unfold gy at h;split at h
 ·cases h
 ·rename_i l hl;cases h;simp only [Bool.and_eq_true,decide_eq_true_eq] at hok;obtain ⟨⟨⟨⟨⟨⟨k1,k2⟩,k3⟩,k4⟩,k5⟩,k6⟩,k8⟩:=hok;obtain ⟨hu,he⟩:=tY HT ht;obtain ⟨i,z,hi,hs,hby,hz,hzc,hzr⟩:=HT.info e d he;obtain ⟨V',e1,e2,e3,e4⟩:=Td (z:=d.size) (len:=len) (place:=fun i=>some (i*d.size,d.size)) (fun i=>rfl) (k:=0) (V:=(Array.range (len*d.size)).map (z.cells[·% z.cells.size]!)) hx hl k5 (by
   rw [List.all_eq_true] at k8⊢;intro p hp;simpa using k8 p hp) oM (by simp)
  simp only [Nat.zero_mul,List.drop_zero] at e4;have hVl:=AV.gK e4;have hVs:V'.size=len*d.size:=by rw [e2];simp
  have akP:len=0->(execOp a.eval o).run P w=.ok (.value (.slice (some ⟨w.heap.size,0,none⟩) len len)) (w.alloc (.cells V' e)):=by
   intro hlen0;subst hlen0;have hX0:X=[]:=List.eq_nil_of_length_eq_zero k2;have hps:ps.toList=[]:=by have:=ag6 hx;rw [hX0] at this;exact List.eq_nil_of_length_eq_zero (by simpa using this.symm)
   have apw:ps=#[]:=by simpa using hps
   have hV0:V'=#[]:=Array.eq_empty_of_size_eq_zero (by rw [hVs];simp);unfold execOp;simp [ho,apw,Instr.buildSlice,run_underlying hu,run_sizeOf hi,Instr.fill,newRow,hV0];have e0:Array.map (fun _=>(default:Value)) (Array.range 0)=#[]:=Array.eq_empty_of_size_eq_zero (by simp);rw [e0]
  have hrunA:(execOp a.eval o).run P w=.ok (.value (.slice (some ⟨w.heap.size,0,none⟩) len len)) (w.alloc (.cells V' e)):=by
   by_cases hlen0:len=0
   ·exact akP hlen0
   ·have hpos:0<len*d.size:=Nat.mul_pos oM k1;unfold execOp;simp only [ho];rw [Sem.run_bind,run_buildSlice w t e len _ V' i z hu hi hz (by rw [hs];omega) (by rw [hs];omega) (by rw [hs];simpa using e1)];rfl
  have hcap:len<=maxLen:=by unfold maxLen;have:len<=len*d.size:=Nat.le_mul_of_pos_right _ k1;omega
  cases mt with
  |true=>
   have H2:=H.alloc hm [] (t:=e) e4 (lH k6) (fun j y v hy hv hr=>by
    have:=nJ (fJ k6 hy);rw [this] at hr;cases hr)
   rw [List.append_nil,show V'.toList.toArray=V' by simp] at H2;refine jq hrunA (hK lim (bs++[w.heap.size]) _ _ ⟨?_,I5 _,fun i b h=>?_,bY _ _ _,put_defers _ _ _⟩)
   ·show aB lim _ _ (ak σ.bx [] cs++[l]) (Sl (eG σ.tm o.dst (.dm σ.bx.length e d.size len)) (a.put o.dst _)) m;rw [aC,jh hd];refine H2.eG ?_ rfl (fun k g _ hh=>by cases hh);rw [AV.R];exact ⟨w.heap.size,len,V',by rw [di,if_pos H.len.symm],uo w _,hVs,Nat.le_refl _,hcap,rfl⟩
   ·rw [di,if_neg (fun e=>by subst e;simp at h)];exact h
  |false=>
   obtain ⟨H2,hfr,hown⟩:=H.grow (w':=w.alloc (.cells V' e)) (g:=w.heap.size) (n:=l.length) (fun hb=>Nat.lt_irrefl _ (lU H hb)) (hm _ (Nat.le_refl _)) (by rw [kG];omega) (by rw [kG];omega) (AP w _) (fun k hk _=>alloc_old w _ hk) (fun p hp=>Nat.lt_irrefl _ (Own.lt H hp)) (.inr ⟨rfl,kG w _⟩) (by rw [H.top _ (Nat.le_refl _)];omega) (fun j hj=>absurd hj (Nat.lt_irrefl _)) (fun cur e p hh=>absurd (dO hh) (Nat.lt_irrefl _));refine jq hrunA (hK _ bs _ _ ⟨?_,hfr,fun _ _ h=>h,bY _ _ _,put_defers _ _ _⟩);show aB _ bs _ (ak σ.bx [] cs++[]) (Sl (eG σ.tm o.dst (.row e d.size len l)) (a.put o.dst _)) m;rw [List.append_nil,aC,jh hd];refine H2.eG (Px k3 k6 (uo w _) (Nat.le_refl _) ?_ hVs (by simp) ⟨V'.toList,AV.Rs.ext (hfr.ext (fun _ _ h=>h)) k6 e4,?_⟩) ?_ (fun k g _ _ hg=>?_)
   ·unfold maxLen;have:len<=len*d.size:=Nat.le_mul_of_pos_right _ k1;omega
   ·rw [←hVs];exact List.take_of_length_le (by simp)
   ·rw [AV.top];rfl
   ·have hg':w.heap.size=g:=by simpa [Value.ownBlock] using hg
    subst hg';exact ⟨hm _ (Nat.le_refl _),fun hb=>Nat.lt_irrefl _ (lU H hb),fun p hp=>absurd (Own.lt H (hown p _ hp)) (Nat.lt_irrefl _)⟩
theorem GL {t ty e z by_ n m' c:Nat} {i:TypeInfo} {zv:Value} (ht:P.underlying t=some (.slice e)) (hi:P.info? e=some i) (hz:i.zero=some zv) (hs:i.size=z) (hby:i.bytes=by_) (hzs:zv.cells.size=z) (hpos:0<z) (agv:by_<=1000)
  {u:Value} {xs news:List Value} (hxs:xs.length=n*z)
  (hu:(u=.slice none 0 0∧n=0)∨∃g cap cur,u=.slice (some ⟨g,0,none⟩) n cap∧w.heap[g]?=some (.cells cur e (0,0))∧n<=cap∧cap<=maxLen∧cur.size=cap*z∧cur.toList.take (n*z)=xs)
  {b o':Nat} (hl:news.length=m'*z) (hnews:∀(j:Nat) (v:Value),news[j]?=some v->w.cell? ⟨b,o'+j,none⟩=some v) (h1:∀v ∈ news,v.oneCell'=true) (hm0:0<m') (hlen:n+m'<=10000000000):
  ∃g cap cur' w',(Builtin.append_ #[t,t] ty #[u,.slice (some ⟨b,o',none⟩) m' c]).run P w=.ok (.slice (some ⟨g,0,none⟩) (n+m') cap) w'∧w'.heap[g]?=some (.cells cur' e (0,0))∧n+m'<=cap∧cap<=maxLen∧cur'.size=cap*z∧cur'.toList.take ((n+m')*z)=xs++news∧Below 0 w w'∧
   ((u.ownBlock=some g∧w'.heap.size=w.heap.size∧(∀k,k≠g->w'.heap[k]?=w.heap[k]?)∧∃WV:Array Value,w.heap[g]?=some (.cells WV e (0,0))∧WV.size=cur'.size)∨(g=w.heap.size∧w'.heap.size=w.heap.size+1∧∀k,k<w.heap.size->w'.heap[k]?=w.heap[k]?)):=by
 subst hs hby
 have hml:n+m'<=maxLen:=by unfold maxLen;omega
 have hbytes:(n+m')*i.bytes<=140737488355328:=Nat.le_trans (Nat.mul_le_mul hlen agv) dE;have hnw:∀(j:Nat) (v:Value),news[j]?=some v->w.cell? ((⟨b,o',none⟩:Addr).add j)=some v:=fun j v hj=>by rw [add_mid];exact hnews j v hj
 have hlx:(xs++news).length=(n+m')*i.size:=by rw [List.length_append,hxs,hl,Nat.add_mul]
 have grown:∀old,old<n+m'->∃cur':Array Value,cur'=(xs.toArray++news.toArray++Builtin.zeroCells zv.cells (grownCap w (n+m') old e-(n+m')))∧cur'.size=grownCap w (n+m') old e*i.size∧cur'.toList.take ((n+m')*i.size)=xs++news:=by
  intro old ho;refine ⟨_,rfl,?_,?_⟩
  ·have:=grownCap_ge w (n+m') old e;simp only [Array.size_append,List.size_toArray,size_zeroCells,hzs,hxs,hl,←Nat.add_mul];congr 1;omega
  ·rw [Array.toList_append,Array.toList_append,←hlx];exact List.take_left
 rcases hu with ⟨rfl,rfl⟩|⟨g,cap,cur,rfl,hg,hnc,hcm,hcs,htake⟩
 ·have hx:xs=[]:=List.eq_nil_of_length_eq_zero (by simpa using hxs);subst hx;obtain ⟨cur',e1,e2,e3⟩:=grown 0 oM;simp only [Nat.zero_add] at e1 e2 e3 hbytes hml;have hr:=run_append_nil (P:=P) w t ty e i zv ht hi hz ⟨b,o',none⟩ m' c news hl hnw oM oM oM;refine ⟨w.heap.size,_,cur',w.drew.alloc (.cells cur' e),?_,?_,?_,?_,e2,by rw [Nat.zero_add];exact e3,?_,.inr ⟨rfl,?_,fun k hk=>?_⟩⟩
  ·rw [hr,e1];simp
  ·exact heap_alloc_new w.drew _
  ·rw [Nat.zero_add];exact grownCap_ge w _ 0 e
  ·exact grownCap_le_maxLen w _ 0 e hml
  ·exact ((Below.refl 0 w).drew).alloc (Nat.zero_le _) _
  ·simp
  ·exact heap_alloc_old w.drew _ hk
 ·by_cases hroom:n+m'<=cap
  ·have hfit:n*i.size+news.length<=cur.size:=by rw [hl,hcs,←Nat.add_mul];exact Nat.mul_le_mul_right _ hroom
   have hr:=run_append_room (P:=P) w t ty e i ht hi g n cap cur hg ⟨b,o',none⟩ m' c news hl hnw h1 hroom hfit;refine ⟨g,cap,_,_,hr,setRow_heap w g cur _ e _ hg,hroom,hcm,?_,?_,below_setRow (Below.refl 0 w) (Nat.zero_le _) _,.inl ⟨rfl,by simp,fun k hk=>setRow_other w g k _ hk,cur,hg,?_⟩⟩
   ·simp only [List.size_toArray,List.length_append,List.length_take,List.length_drop,Array.length_toList];omega
   ·rw [htake,←hlx];exact List.take_left
   ·simp only [List.size_toArray,List.length_append,List.length_take,List.length_drop,Array.length_toList];omega
  ·obtain ⟨cur',e1,e2,e3⟩:=grown cap oM;have holds:∀(j:Nat) (v:Value),xs[j]?=some v->w.cell? ((⟨g,0,none⟩:Addr).add j)=some v:=by
    intro j v hj;rw [add_mid,Nat.zero_add];have hb2:w.heap[g]?=some (.cells cur.toList.toArray e (0,0)):=by simpa using hg
    rw [kD hb2];have h3:(cur.toList.take (n*i.size))[j]?=some v:=by rw [htake];exact hj
    rw [List.getElem?_take] at h3;split at h3
    ·exact h3
    ·cases h3
   have hr:=run_append_grow (P:=P) w t ty e i zv ht hi hz ⟨g,0,none⟩ n cap xs hxs holds ⟨b,o',none⟩ m' c news hl hnw oM (by unfold maxLen at hml;omega) (growslice_fits oM hbytes);refine ⟨w.heap.size,_,cur',w.drew.alloc (.cells cur' e),?_,heap_alloc_new w.drew _,grownCap_ge w _ cap e,grownCap_le_maxLen w _ cap e hml,e2,e3,((Below.refl 0 w).drew).alloc (Nat.zero_le _) _,.inr ⟨rfl,by simp,fun k hk=>heap_alloc_old w.drew _ hk⟩⟩;rw [hr,e1]
theorem Yn {t ty e:TypeId} {i:TypeInfo} (ht:P.underlying t=some (.slice e)) (hi:P.info? e=some i) (base ax:Option Addr) (n cap c:Nat) (hn:n<=cap):
  (Builtin.append_ #[t,t] ty #[.slice base n cap,.slice ax 0 c]).run P w=.ok (.slice base n cap) w:=by
 cases ax<;>cases base<;>simp [Builtin.append_,run_underlying ht,sizeOf,typeInfo,hi,Builtin.lenOf,Builtin.firstCells,hn,storeCells,loadCells,loadCellsFrom]
theorem fA:∀{x y:List AV},AV.aj x=true->AV.aj y=true->AV.aj (x++y)=true
 |[],y,_,h=>h
 |z::x,y,h,h2=>by rw [AV.aj,Bool.and_eq_true] at h;rw [List.cons_append,AV.aj,h.1,fA h.2 h2];rfl
theorem aaH (HT:mM P T) (H:aB lim bs w σ.bx (Sl σ.tm a) m) (hm:∀b,w.heap.size<=b->m b) (hd:∀k,o.dst=some k->k<a.tmps.size) {c:Call} {t e:Nat} {d:TD} {s x:Operand} {Sv X:AV} (ho:o.op=.call c) (Gp:c.callee=.builtin .append) (hargs:c.args=#[s,x]) (SL:c.argTypes=#[t,t]) (ht:AA T t=some (e,d))
  (hs:Av lim bs w Sv (a.eval s)) (hsrc:Sv.isRow=true->∃k,s=.tmp k∧Sv=get σ.tm k) (hx:Av lim bs w X (a.eval x)) (h:tZ e d Sv X true cs=some out) (hok:out.ok=true) (hK:yA m lim bs w a (fin o.dst out [] (fM s) σ) K):o.wp P a w K Q:=by
 unfold tZ at h;split at h
 ·cases h
 ·rename_i n l IX;split at h
  ·cases h
  ·rename_i m' k hel;have:=dS h;subst this;simp only [Bool.and_eq_true,decide_eq_true_eq,true_and] at hok;obtain ⟨⟨⟨⟨⟨k1,k2⟩,k3⟩,k4⟩,k5⟩,k7⟩:=hok;obtain ⟨hu,he⟩:=tY HT ht;obtain ⟨i,zv,hi,hsz,hby,hz,hzc,hzr⟩:=HT.info e d he;obtain ⟨H2,hg3,hg4⟩:=yM H (fM s);have hsv:l.length=n*d.size∧AV.aj l=true∧AV.R lim bs w (.row e d.size n l) (a.eval s)∧((a.eval s).ownBlock=none∨Sv.isRow=true):=by
    unfold YY at IX;split at IX
    ·cases IX;have h1:=hs.r;rw [AV.R] at h1;rw [h1];exact ⟨by simp,rfl,by rw [AV.R];exact ⟨by simp,rfl,.inl ⟨rfl,rfl⟩⟩,.inl rfl⟩
    ·rename_i e' z' n' l';split at IX
     ·rename_i heq;obtain ⟨rfl,rfl⟩:=heq;cases IX;have h1:=hs.r;refine ⟨?_,h1.Kr,h1,.inr rfl⟩;rw [AV.R] at h1;exact h1.1
     ·cases IX
    ·cases IX
   obtain ⟨v1,v2,v3,v4⟩:=hsv;obtain ⟨ad,cp,e1,e2,e3,e4⟩:=D5 hx hel;have KQ:∀v w2,(Builtin.append_ #[t,t] o.type #[a.eval s,a.eval x]).run P w=.ok v w2->(execOp a.eval o).run P w=.ok (.value v) w2:=by intro v w2 hr;unfold execOp;simp [ho,resolve,Gp,hargs,SL,invoke,builtin,hr]
   have Nk:∀g,(a.eval s).ownBlock=some g->m g∧g ∉ bs∧g<w.heap.size∧∀p,¬Own w bs σ.bx (Sl (gu σ.tm (fM s)) a) p g:=by
    intro g hg;rcases v4 with v4|v4
    ·rw [v4] at hg;cases hg
    ·obtain ⟨ks,rfl,hSk⟩:=hsrc v4;have ho1:Own w bs σ.bx (Sl σ.tm a) (.t ks) g:=⟨by show (get σ.tm ks).isRow=true;rw [←hSk];exact v4,hg⟩;refine ⟨(H.own _ _ ho1).1,(H.own _ _ ho1).2,Own.lt H ho1,fun p hp=>?_⟩;have:=H.qO p (.t ks) g (hg3 p g hp) ho1;subst this;exact hg4 ks g (by simp [fM]) hp
   rcases Nat.eq_zero_or_pos m' with hm0|hm0
   ·
    subst hm0;have hk0:k=[]:=List.eq_nil_of_length_eq_zero (by rw [k2];simp);subst hk0;have hform:∃base cap,a.eval s=.slice base n cap∧n<=cap:=by
     rw [AV.R] at v3;rcases v3.2.2 with ⟨q1,q2⟩|⟨g,c',cur,q1,-,q2,-⟩
     ·exact ⟨none,0,by rw [q1,q2],oM⟩
     ·exact ⟨_,c',q1,q2⟩
    obtain ⟨base,cap,q1,q2⟩:=hform;have hr:=KQ _ w (by rw [q1,e1];exact Yn hu hi base ad n cap cp q2);rw [←q1] at hr;refine jq hr (hK lim bs w _ ⟨?_,Fr.refl,fun _ _ h=>h,bY _ _ _,put_defers _ _ _⟩);show aB lim bs w (ak σ.bx [] cs++[]) (Sl (eG (gu σ.tm (fM s)) o.dst (TN Sv e d.size (n+0) 0 (l++[]))) (a.put o.dst (a.eval s))) m;rw [List.append_nil,aC,jh hd,Nat.add_zero,List.append_nil];unfold TN;split
    ·exact H2.eG hs.r rfl (fun kk g _ hh=>by cases hh)
    ·exact H2.eG v3 (by rw [AV.top];rfl) (fun kk g _ _ hg=>⟨(Nk g hg).1,(Nk g hg).2.1,fun p hp=>absurd hp ((Nk g hg).2.2.2 p)⟩)
   ·rcases e4 with e4|⟨b,o',rfl,f1,f2,f3⟩
    ·subst e4;have:0<m'*d.size:=Nat.mul_pos hm0 k3;simp at k2;omega
    obtain ⟨news,n1,n2,n3⟩:=yf f3;have hxs:∃xs:List Value,AV.Rs lim bs w l xs∧((a.eval s=.slice none 0 0∧n=0)∨∃g cap cur,a.eval s=.slice (some ⟨g,0,none⟩) n cap∧w.heap[g]?=some (.cells cur e (0,0))∧n<=cap∧cap<=maxLen∧cur.size=cap*d.size∧cur.toList.take (n*d.size)=xs)∧(∀g,(a.eval s).ownBlock=some g->lim g=l.length):=by
     rw [AV.R] at v3;rcases v3.2.2 with ⟨q1,q2⟩|⟨g,c',cur,q1,q2,q3,q4,q5,q6,q7⟩
     ·refine ⟨[],?_,.inl ⟨q1,q2⟩,fun g hg=>by rw [q1] at hg;cases hg⟩;have:l=[]:=List.eq_nil_of_length_eq_zero (by rw [v1,q2];simp);rw [this,AV.Rs]
     ·obtain ⟨xs,x1,x2,x3⟩:=yf q7;have hb2:w.heap[g]?=some (.cells cur.toList.toArray e (0,0)):=by simpa using q2
      refine ⟨xs,x2,.inr ⟨g,c',cur,q1,q2,q3,q4,q5,?_⟩,fun g2 hg=>by rw [q1] at hg;cases hg;exact q6⟩;have hle:n*d.size<=cur.size:=by rw [q5];exact Nat.mul_le_mul_right _ q3
      apply List.ext_getElem?;intro j;rw [List.getElem?_take];split
      ·rename_i hj;have hjx:j<xs.length:=by rw [x1,v1];exact hj
       have h5:=x3 j _ (List.getElem?_eq_getElem hjx);rw [kD hb2,Nat.zero_add] at h5;rw [h5,List.getElem?_eq_getElem hjx]
      ·rename_i hj;rw [List.getElem?_eq_none (by rw [x1,v1];omega)]
    obtain ⟨xs,x1,x2,x3⟩:=hxs;have hxl:=AV.gK x1;obtain ⟨g,cap,cur',w2,r1,r2,r3,r4,r5,r6,r7,r8⟩:=GL (P:=P) (w:=w) (ty:=o.type) (b:=b) (o':=o') (c:=cp) hu hi hz hsz hby hzc k3 k4 (by rw [hxl,v1]) x2 (by rw [n1,k2]) n3 (EF k5 n2) hm0 k1;have hr:=KQ _ w2 (by rw [e1];exact r1);have hnR:AV.Rs lim bs w (l++k) (xs++news):=ng x1 n2;have hgm:m g∧g ∉ bs∧(∀p,¬Own w bs σ.bx (Sl (gu σ.tm (fM s)) a) p g)∧(w2.heap.size<=w.heap.size∨g=w.heap.size∧w2.heap.size=w.heap.size+1)∧w.heap.size<=w2.heap.size∧g<w2.heap.size∧lim g<=(l++k).length∧(∀j,g<w.heap.size->j<lim g->w2.cell? ⟨g,j,none⟩=w.cell? ⟨g,j,none⟩)∧(∀kk,kk<w.heap.size->kk≠g->w2.heap[kk]?=w.heap[kk]?)∧(∀(cur:Array Value) (e:TypeId) (p:Nat×Nat),w.heap[g]?=some (Obj.cells cur e p)->∃cur':Array Value,w2.heap[g]?=some (.cells cur' e p)∧cur'.size=cur.size):=by
     rcases r8 with ⟨g1,g2,g3,WV,s5,s6⟩|⟨g1,g2,g3⟩
     ·obtain ⟨s1,s2,s3,s4⟩:=Nk g g1;refine ⟨s1,s2,s4,.inl oM,oM,oM,by rw [x3 g g1,List.length_append];omega,fun j _ hj=>?_,fun kk _ hk=>g3 kk hk,fun cur e p hh=>by rw [s5] at hh;cases hh;exact ⟨cur',r2,s6.symm⟩⟩;rw [x3 g g1] at hj;have hb2:w2.heap[g]?=some (.cells cur'.toList.toArray e (0,0)):=by simpa using r2
      rw [kD hb2];rcases x2 with ⟨q1,-⟩|⟨g',cap',cur,q1,q2,q3,q4,q5,q6⟩
      ·rw [q1] at g1;cases g1
      ·rw [q1] at g1;have hgg:g'=g:=by simpa [Value.ownBlock] using g1
       subst hgg;have hb3:w.heap[g']?=some (.cells cur.toList.toArray e (0,0)):=by simpa using q2
       rw [kD hb3];have hj2:j<(n+m')*d.size:=by rw [Nat.add_mul];omega
       have t1:(cur'.toList.take ((n+m')*d.size))[j]?=(xs++news)[j]?:=by rw [r6]
       have t2:(cur.toList.take (n*d.size))[j]?=xs[j]?:=by rw [q6]
       rw [List.getElem?_take,if_pos hj2,List.getElem?_append_left oM] at t1;rw [List.getElem?_take,if_pos oM] at t2;rw [t1,t2]
     ·refine ⟨by rw [g1];exact hm _ (Nat.le_refl _),by rw [g1];exact fun hb=>Nat.lt_irrefl _ (lU H hb),fun p hp=>?_,.inr ⟨g1,g2⟩,oM,oM,by rw [g1,H.top _ (Nat.le_refl _)];omega,fun j hj=>by omega,fun kk hk _=>g3 kk hk,fun cur e p hh=>by have:=dO hh;omega⟩;have:=Own.lt H2 hp;omega
    obtain ⟨a1,a2,a3,a4,a5,a6,a7,a8,a9,a10⟩:=hgm;obtain ⟨H3,hfr,hown⟩:=H2.grow (w':=w2) (g:=g) (n:=(l++k).length) a2 a1 a6 a5 r7 a9 a3 a4 a7 a8 a10;refine jq hr (hK _ bs w2 _ ⟨?_,hfr,fun _ _ h=>h,bY _ _ _,put_defers _ _ _⟩);have hav:TN Sv e d.size (n+m') m' (l++k)=.row e d.size (n+m') (l++k):=by
     unfold TN;split
     ·obtain ⟨m2,rfl⟩:∃m2,m'=m2+1:=⟨m'-1,oM⟩;rfl
     ·rfl
    show aB _ bs w2 (ak σ.bx [] cs++[]) (Sl (eG (gu σ.tm (fM s)) o.dst (TN Sv e d.size (n+m') m' (l++k))) (a.put o.dst _)) m;rw [hav];rw [List.append_nil,aC,jh hd];refine H3.eG (Px (by rw [List.length_append,v1,k2,Nat.add_mul]) (fA v2 k7) r2 r3 r4 r5 (by simp) ⟨xs++news,AV.Rs.ext (hfr.ext (fun _ _ h=>h)) (fA v2 k7) hnR,r6⟩) (by rw [AV.top];rfl) (fun kk g2 _ _ hg=>?_);have hgg:g=g2:=by simpa [Value.ownBlock] using hg
    subst hgg;exact ⟨a1,a2,fun p hp=>absurd (hown p _ hp) (a3 p)⟩
def aS (args:List AV) (vs:List Value):uP:=fun k=>(args.getD k .bad,vs.getD k undef)
def rS (r:AV) (v:Value):uP:=fun k=>if k=0 then (r,v) else (.bad,undef)
def Ent (P:Program) (f:Nat):Prop:=∃fn,P.funcs[f]?=some fn∧(fn.name== "runtime.NumGoroutine")=false∧fn.body.isNone=false
structure aV (P:Program) (f:Nat) (args:List AV) (bx:List (List AV)) (r:AV) (bx':List (List AV)):Prop where
 Og:Ent P f
 len:bx.length<=bx'.length
 call:∀(lim:Nat->Nat) (bs:List Nat) (w:World) (vs:List Value) (m:Nat->Prop),vs.length=args.length->(∀b,w.heap.size<=b->m b)->aB lim bs w bx (aS args vs) m->
  Calls P f vs.toArray w fun e w'=>∃v lim' bs',e=.returned v∧aB lim' bs' w' bx' (rS r v) m∧Fr m lim w lim' w'∧∀i,i<bx.length->bs'[i]?=bs[i]?
def fB (P:Program) (cal:BR):Prop:=∀(f:Nat) (args:List AV) (bx:List (List AV)) (r:AV) (bx':List (List AV)),cal f args bx=some (r,bx')->aV P f args bx r bx'
theorem qh {f:Nat} (h:Ent P f) (args:Array Value):(callFunc f args).run P w=.ok (.enter f args) w:=by
 obtain ⟨fn,h1,h2,h3⟩:=h;have h2':¬fn.name= "runtime.NumGoroutine":=by simpa using h2
 have h3':¬fn.body=none:=by intro e;rw [e] at h3;cases h3
 unfold callFunc;simp [h1,h2',h3']
theorem U9:∀{l:List Nat} {i:Nat},i ∈ l->l[l.idxOf i]?=some i
 |[],i,h=>by cases h
 |x::l,i,h=>by
  rw [List.idxOf_cons];by_cases e:x=i
  ·subst e;simp
  ·have he:(x==i)=false:=by simpa using e
   rw [he];rcases List.mem_cons.1 h with h|h
   ·exact absurd h.symm e
   ·simpa using U9 h
theorem oP:∀{ids:List Nat} {cs:List (List AV)},bD bx ids=some cs->cs.length=ids.length∧∀(k i:Nat),ids[k]?=some i->∃c,bx[i]?=some c∧cs[k]?=some c
 |[],cs,h=>by rw [bD] at h;cases h;exact ⟨rfl,fun k i hk=>by simp at hk⟩
 |j::r,cs,h=>by
  rw [bD] at h;split at h
  ·rename_i c cs' hc hcs;cases h;obtain ⟨h1,h2⟩:=oP hcs;refine ⟨by simp [h1],fun k i hk=>?_⟩;cases k with
   |zero=>simp at hk;subst hk;exact ⟨c,hc,rfl⟩
   |succ k=>obtain ⟨c2,h3,h4⟩:=h2 k i (by simpa using hk);exact ⟨c2,h3,by simpa using h4⟩
  ·cases h
theorem oK:∀{ids:List Nat} {cs:List (List AV)} {bx:List (List AV)},ids.Nodup->cs.length=ids.length->(ak bx ids cs).length=bx.length∧(∀i,i ∉ ids->(ak bx ids cs)[i]?=bx[i]?)∧(∀(k i:Nat) (c:List AV),ids[k]?=some i->cs[k]?=some c->i<bx.length->(ak bx ids cs)[i]?=some c)
 |[],cs,bx,_,_=>by rw [aC];exact ⟨rfl,fun _ _=>rfl,fun k i c hk=>by simp at hk⟩
 |j::r,[],bx,_,h=>by simp at h
 |j::r,c::cs,bx,hn,h=>by
  rw [List.nodup_cons] at hn;rw [ak];obtain ⟨h1,h2,h3⟩:=oK (bx:=bx.set j c) hn.2 (by simpa using h);refine ⟨by rw [h1,List.length_set],fun i hi=>?_,fun k i c2 hk hc hl=>?_⟩
  ·rw [List.mem_cons,not_or] at hi;rw [h2 i hi.2,List.getElem?_set,if_neg (fun e=>hi.1 e.symm)]
  ·cases k with
   |zero=>
    simp at hk hc;subst hk hc;rw [h2 j hn.1,List.getElem?_set,if_pos rfl,if_pos hl]
   |succ k=>exact h3 k i c2 (by simpa using hk) (by simpa using hc) (by rw [List.length_set];exact hl)
theorem mem_iff {n:Nat}:∀{l:List Nat},mem n l=true↔n ∈ l
 |[]=>by simp [mem]
 |k::r=>by
  rw [mem];by_cases h:n=k
  ·subst h;rw [uN];simp
  ·rw [Jo h];simp only [List.mem_cons,h,false_or];exact mem_iff
theorem CO {l r:List Nat}:CP l r=true↔∀i ∈ l,i ∈ r:=by
 unfold CP;rw [List.all_eq_true];constructor
 ·intro h i hi;exact mem_iff.1 (h i hi)
 ·intro h i hi;exact mem_iff.2 (h i hi)
theorem vz:∀(n:Nat) (bx:List (List AV)) (todo seen:List Nat),seen.Nodup->(reach n bx todo seen).Nodup
 |0,_,_,seen,h=>h
 |n+1,bx,[],seen,h=>h
 |n+1,bx,i::r,seen,h=>by
  rw [reach];split
  ·exact vz n bx r seen h
  ·rename_i hm;refine vz n bx _ _ ?_;rw [List.nodup_append];refine ⟨h,by simp,fun y hy z hz e=>?_⟩;rw [List.mem_singleton.1 hz] at e;subst e;rw [mem_iff.2 hy] at hm;cases hm
theorem Iu {ids bsc:List Nat} (hb:∀(k i b:Nat),ids[k]?=some i->bs[i]?=some b->bsc[k]?=some b) {l:List Nat} (hl:∀i ∈ l,i ∈ ids):∀i ∈ l,∀b,bs[i]?=some b->bsc[ids.idxOf i]?=some b:=
 fun i hi b h=>hb _ i b (U9 (hl i hi)) h
def mC (lim:Nat->Nat) (w:World) (bsc:List Nat) (cs:List (List AV)) (S:uP) (b:Nat):Prop:=b ∈ bsc∨(∃p,Own w bsc cs S p b)∨w.heap.size<=b
theorem GV (bs ids:List Nat) (tX:∀i ∈ ids,i<bs.length) (k i b:Nat) (hk:ids[k]?=some i) (hb:bs[i]?=some b):(ids.map fun i=>bs.getD i 0)[k]?=some b:=by rw [List.getElem?_map,hk];simp [hb]
theorem aB.enter (H:aB lim bs w bx S m) {ids:List Nat} (hn:ids.Nodup) (hc:bD bx ids=some cs) (hcl:∀c ∈ cs,∀i ∈ AV.aA c,i ∈ ids) {args:List AV} {vs:List Value} (hl:vs.length=args.length) (yj:∀(k:Nat) (x:AV),args[k]?=some x->x.flat=true) (hR:∀(k:Nat) (x:AV) (v:Value),args[k]?=some x->vs[k]?=some v->AV.R lim (ids.map fun i=>bs.getD i 0) w x v):
  aB lim (ids.map fun i=>bs.getD i 0) w (cs.map (AV.aG ids.idxOf)) (aS args vs) (mC lim w (ids.map fun i=>bs.getD i 0) (cs.map (AV.aG ids.idxOf)) (aS args vs))∧(∀i j g,Own w (ids.map fun i=>bs.getD i 0) (cs.map (AV.aG ids.idxOf)) (aS args vs) (.b i j) g->∃i',ids[i]?=some i'∧Own w bs bx S (.b i' j) g)∧(∀k g,¬Own w (ids.map fun i=>bs.getD i 0) (cs.map (AV.aG ids.idxOf)) (aS args vs) (.t k) g)∧(∀b,b ∈ (ids.map fun i=>bs.getD i 0)↔∃i ∈ ids,bs[i]?=some b):=by
 obtain ⟨IZ,hcg⟩:=oP hc;have hin:∀i ∈ ids,i<bs.length:=by intro i hi;obtain ⟨k,hk,rfl⟩:=List.getElem_of_mem hi;obtain ⟨c,h1,-⟩:=hcg k _ (List.getElem?_eq_getElem hk);rw [H.len];exact (List.getElem?_eq_some_iff.1 h1).1
 have hmem:∀b,b ∈ (ids.map fun i=>bs.getD i 0)↔∃i ∈ ids,bs[i]?=some b:=by
  intro b;rw [List.mem_map];constructor
  ·rintro ⟨i,hi,rfl⟩;have:=hin i hi;exact ⟨i,hi,by simp [this]⟩
  ·rintro ⟨i,hi,hb⟩;exact ⟨i,hi,by simp [hb]⟩
 have hget:∀(k b:Nat),(ids.map fun i=>bs.getD i 0)[k]?=some b->∃i,ids[k]?=some i∧bs[i]?=some b:=by
  intro k b hk;rw [List.getElem?_map] at hk;cases hi:ids[k]? with
  |none=>rw [hi] at hk;cases hk
  |some i=>
   rw [hi] at hk;simp only [Option.map_some,Option.some.injEq] at hk;have hlt:=hin i (List.mem_of_getElem? hi);refine ⟨i,rfl,?_⟩;rw [←hk];simp [hlt]
 have Qp:∀(k:Nat) (x:List AV),(cs.map (AV.aG ids.idxOf))[k]?=some x->∃c,cs[k]?=some c∧x=AV.aG ids.idxOf c:=by
  intro k x hk;rw [List.getElem?_map] at hk;cases hi:cs[k]? with
  |none=>rw [hi] at hk;cases hk
  |some c=>rw [hi] at hk;cases hk;exact ⟨c,rfl,rfl⟩
 have hsub:∀b,b ∈ (ids.map fun i=>bs.getD i 0)->b ∈ bs:=fun b hb=>by obtain ⟨i,-,h⟩:=(hmem b).1 hb;exact List.mem_of_getElem? h
 have sQ:∀k g,¬Own w (ids.map fun i=>bs.getD i 0) (cs.map (AV.aG ids.idxOf)) (aS args vs) (.t k) g:=by
  rintro k g ⟨h1,-⟩;have h1':(args.getD k .bad).isRow=true:=h1;rw [List.getD_eq_getElem?_getD] at h1';cases hx:args[k]? with
  |none=>rw [hx] at h1';cases h1'
  |some x=>
   rw [hx] at h1';have h2:x.isRow=true:=h1';rw [nJ (yj k x hx)] at h2;cases h2
 have hbox:∀i j g,Own w (ids.map fun i=>bs.getD i 0) (cs.map (AV.aG ids.idxOf)) (aS args vs) (.b i j) g->∃i',ids[i]?=some i'∧Own w bs bx S (.b i' j) g:=by
  rintro i j g ⟨b,x,y,v,q1,q2,q3,q4,q5,q6⟩;obtain ⟨i',h1,h2⟩:=hget i b q1;obtain ⟨c,h3,h4⟩:=hcg i i' h1;obtain ⟨c',h5,h6⟩:=Qp i x q2;rw [h4] at h5;cases h5;subst h6;rw [AV.wu,List.getElem?_map] at q3;cases hy:c[j]? with
  |none=>rw [hy] at q3;cases q3
  |some y'=>
   rw [hy] at q3;simp only [Option.map_some,Option.some.injEq] at q3;subst q3;rw [AV.oO] at q4;exact ⟨i',h1,b,c,y',v,h2,h3,hy,q4,q5,q6⟩
 refine ⟨⟨by rw [List.length_map,List.length_map,IZ],?_,fun b hb=>H.free b (hsub b hb),fun b hb=> .inl hb,fun k b x hk hx=>?_,fun k=>?_,fun k=>?_,H.top,fun p g hp=>⟨.inr (.inl ⟨p,hp⟩),fun hb=>?_⟩,fun p q g hp hq=>?_⟩,hbox,sQ,hmem⟩
 ·rw [List.nodup_iff_pairwise_ne,List.pairwise_iff_getElem];intro i j hi hj hij e;have h1:=hget i _ (List.getElem?_eq_getElem hi);have h2:=hget j _ (List.getElem?_eq_getElem hj);obtain ⟨i1,a1,a2⟩:=h1;obtain ⟨j1,b1,b2⟩:=h2;rw [←e] at b2;have:=gm H.BX a2 b2;subst this;have:=gm hn a1 b1;omega
 ·obtain ⟨i,h1,h2⟩:=hget k b hk;obtain ⟨c,h3,h4⟩:=hcg k i h1;obtain ⟨c',h5,h6⟩:=Qp k x hx;rw [h4] at h5;cases h5;subst h6;obtain ⟨C,tl,t,g1,g2,g3⟩:=H.box i b c h2 h3;refine ⟨C,tl,t,g1,AV.Rs.bP (Iu (fun k' i' b' e1 e2=>GV bs ids hin k' i' b' e1 e2) (hcl c (List.mem_of_getElem? h4))) g2,?_⟩;rw [AV.wu,List.all_map,List.all_eq_true];rw [List.all_eq_true] at g3;intro y hy;show (y.bP _).top=true;rw [AV.zY];exact g3 y hy
 ·show AV.R lim _ w (args.getD k .bad) (vs.getD k undef);rw [List.getD_eq_getElem?_getD,List.getD_eq_getElem?_getD];cases hx:args[k]? with
  |none=>exact oV _
  |some x=>
   have hlt:k<vs.length:=by rw [hl];exact (List.getElem?_eq_some_iff.1 hx).1
   rw [List.getElem?_eq_getElem hlt];exact hR k x _ hx (List.getElem?_eq_getElem hlt)
 ·show (args.getD k .bad).top=true;rw [List.getD_eq_getElem?_getD];cases hx:args[k]? with
  |none=>rfl
  |some x=>
   show x.top=true;rw [AV.top,yj k x hx];simp
 ·cases p with
  |t k=>exact sQ k g hp
  |b i j=>
   obtain ⟨i',-,ho⟩:=hbox i j g hp;exact (H.own _ _ ho).2 (hsub g hb)
 ·cases p with
  |t k=>exact absurd hp (sQ k g)
  |b i j=>
   cases q with
   |t k=>exact absurd hq (sQ k g)
   |b i2 j2=>
    obtain ⟨i',h1,ho⟩:=hbox i j g hp;obtain ⟨i2',h2,ho2⟩:=hbox i2 j2 g hq;have:=H.qO _ _ g ho ho2;cases this;have:=gm hn h1 h2;rw [this]
theorem PD {f:Nat->Nat} {l:List AV} {j:Nat} {y:AV} (h:(AV.aG f l)[j]?=some y):∃z,l[j]?=some z∧y=z.bP f:=by
 rw [AV.wu,List.getElem?_map] at h;cases hy:l[j]? with
 |none=>rw [hy] at h;cases h
 |some z=>rw [hy] at h;cases h;exact ⟨z,rfl,rfl⟩
theorem JZ {f:Nat->Nat} {l:List AV} (h:l.all AV.top=true):(AV.aG f l).all AV.top=true:=by rw [AV.wu,List.all_map,List.all_eq_true];rw [List.all_eq_true] at h;intro y hy;show (y.bP _).top=true;rw [AV.zY];exact h y hy
theorem aB.leave (H:aB lim bs w bx S m) (hm:∀b,w.heap.size<=b->m b) {ids:List Nat} (hn:ids.Nodup) (hc:bD bx ids=some cs) {bx':List (List AV)} (hlen:ids.length<=bx'.length) {r:AV} {v:Value} {Sc:uP} {bsc bsn:List Nat} (apL:bsc=ids.map fun i=>bs.getD i 0) (hpre:∀i,i<ids.length->bsn[i]?=bsc[i]?)
  (hbox:∀i j g,Own w bsc (cs.map (AV.aG ids.idxOf)) Sc (.b i j) g->∃i',ids[i]?=some i'∧Own w bs bx S (.b i' j) g) (sQ:∀k g,¬Own w bsc (cs.map (AV.aG ids.idxOf)) Sc (.t k) g) (hmem:∀b,b ∈ bsc↔∃i ∈ ids,bs[i]?=some b)
  (H':aB lim' bsn w' bx' (rS r v) (mC lim w bsc (cs.map (AV.aG ids.idxOf)) Sc)) (hfr:Fr (mC lim w bsc (cs.map (AV.aG ids.idxOf)) Sc) lim w lim' w') (d:Option Nat):
  aB lim' (bs++bsn.drop ids.length) w' (ak bx ids ((bx'.take ids.length).map (AV.aG (jr ids bx.length)))++(bx'.drop ids.length).map (AV.aG (jr ids bx.length))) (upD S d (r.bP (jr ids bx.length),v)) m∧Fr m lim w lim' w':=by
 subst apL;obtain ⟨hcl,hcg⟩:=oP hc;obtain ⟨NB,hNB⟩:∃l,l=(bx'.take ids.length).map (AV.aG (jr ids bx.length)):=⟨_,rfl⟩;rw [←hNB];have apQ:NB.length=ids.length:=by rw [hNB,List.length_map,List.length_take];omega
 have apR:∀(k:Nat) (c:List AV),NB[k]?=some c->∃c',bx'[k]?=some c'∧c=AV.aG (jr ids bx.length) c':=by
  intro k c hk;rw [hNB,List.getElem?_map] at hk;cases hh:(bx'.take ids.length)[k]? with
  |none=>rw [hh] at hk;cases hk
  |some c'=>
   rw [hh] at hk;cases hk;rw [List.getElem?_take] at hh;split at hh
   ·exact ⟨c',hh,rfl⟩
   ·cases hh
 obtain ⟨hs1,hs2,hs3⟩:=oK (bx:=bx) hn apQ;have hin:∀i ∈ ids,i<bs.length:=by intro i hi;obtain ⟨k,hk,rfl⟩:=List.getElem_of_mem hi;obtain ⟨c,h1,-⟩:=hcg k _ (List.getElem?_eq_getElem hk);rw [H.len];exact (List.getElem?_eq_some_iff.1 h1).1
 have hsub:∀b,b ∈ (ids.map fun i=>bs.getD i 0)->b ∈ bs:=fun b hb=>by obtain ⟨i,-,h⟩:=(hmem b).1 hb;exact List.mem_of_getElem? h
 have hnl:bsn.length=bx'.length:=H'.len;have hun:∀(j b:Nat),bsn[j]?=some b->(bs++bsn.drop ids.length)[jr ids bx.length j]?=some b:=by
  intro j b hj;unfold jr;cases hi:ids[j]? with
  |some i=>
   have hjl:j<ids.length:=(List.getElem?_eq_some_iff.1 hi).1;rw [hpre j hjl,List.getElem?_map,hi] at hj;simp only [Option.map_some,Option.some.injEq] at hj;have hlt:=hin i (List.mem_of_getElem? hi);simp only [];rw [List.getElem?_append_left hlt,←hj];simp [hlt]
  |none=>
   have hjl:ids.length<=j:=List.getElem?_eq_none_iff.1 hi;simp only [];rw [List.getElem?_append_right (by rw [H.len];omega),List.getElem?_drop,H.len];rw [show ids.length+(bx.length+(j-ids.length)-bx.length)=j by omega];exact hj
 have hmC:∀b,b<w.heap.size->mC lim w (ids.map fun i=>bs.getD i 0) (cs.map (AV.aG ids.idxOf)) Sc b->m b:=by
  intro b hb hmc;rcases hmc with h|⟨p,hp⟩|h
  ·exact H.mb b (hsub b h)
  ·cases p with
   |t k=>exact absurd hp (sQ k b)
   |b i j=>obtain ⟨i',-,ho⟩:=hbox i j b hp;exact (H.own _ _ ho).1
  ·omega
 have akV:∀b,mC lim w (ids.map fun i=>bs.getD i 0) (cs.map (AV.aG ids.idxOf)) Sc b->m b:=fun b h=>by
  rcases Nat.lt_or_ge b w.heap.size with h'|h'
  ·exact hmC b h' h
  ·exact hm b h'
 have ak4:Fr m lim w lim' w':=hfr.aW hmC;have ak2:∀(i b:Nat),bs[i]?=some b->(bs++bsn.drop ids.length)[i]?=some b:=fun i b h=>by rw [List.getElem?_append_left (List.getElem?_eq_some_iff.1 h).1];exact h
 have qm:AV.Ext lim bs w lim' (bs++bsn.drop ids.length) w':=ak4.ext ak2;have rQ:∀p g,Own w bs bx S p g->(∀i j,p=.b i j->i ∉ ids)->¬mC lim w (ids.map fun i=>bs.getD i 0) (cs.map (AV.aG ids.idxOf)) Sc g:=by
  intro p g hp hpi hmc;rcases hmc with h|⟨q,hq⟩|h
  ·exact (H.own p g hp).2 (hsub g h)
  ·cases q with
   |t k=>exact absurd hq (sQ k g)
   |b i j=>
    obtain ⟨i',h1,ho⟩:=hbox i j g hq;have:=H.qO p _ g hp ho;exact hpi i' j this (List.mem_of_getElem? h1)
  ·exact absurd (Own.lt H hp) oM
 have Zo:∀i b,i ∉ ids->bs[i]?=some b->¬mC lim w (ids.map fun i=>bs.getD i 0) (cs.map (AV.aG ids.idxOf)) Sc b:=by
  intro i b hi hb hmc;have hbm:=List.mem_of_getElem? hb;rcases hmc with h|⟨q,hq⟩|h
  ·obtain ⟨i2,h1,h2⟩:=(hmem b).1 h;have:=gm H.BX hb h2;subst this;exact hi h1
  ·cases q with
   |t k=>exact absurd hq (sQ k b)
   |b i2 j=>
    obtain ⟨i',h1,ho⟩:=hbox i2 j b hq;exact (H.own _ _ ho).2 hbm
  ·exact absurd (lU H hbm) oM
 have akS:∀b,b ∈ bsn.drop ids.length->b ∉ bs:=by
  intro b hb hbs;obtain ⟨k,hk,rfl⟩:=List.getElem_of_mem hb;have hk2:bsn[ids.length+k]?=some ((bsn.drop ids.length)[k]):=by rw [←List.getElem?_drop];exact List.getElem?_eq_getElem hk
  rcases H'.mb _ (List.mem_of_getElem? hk2) with h|⟨q,hq⟩|h
  ·obtain ⟨k0,h0,e⟩:=List.getElem_of_mem h;have hk0:k0<ids.length:=by simpa using h0
   have:bsn[k0]?=some ((bsn.drop ids.length)[k]):=by rw [hpre k0 hk0,List.getElem?_eq_getElem h0,e]
   have:=gm H'.BX hk2 this;omega
  ·cases q with
   |t k=>exact absurd hq (sQ k _)
   |b i2 j=>
    obtain ⟨i',h1,ho⟩:=hbox i2 j _ hq;exact (H.own _ _ ho).2 hbs
  ·exact absurd (lU H hbs) oM
 have hcase:∀(i b:Nat) (x:List AV),(bs++bsn.drop ids.length)[i]?=some b->(ak bx ids NB++(bx'.drop ids.length).map (AV.aG (jr ids bx.length)))[i]?=some x->
   (∃j c,jr ids bx.length j=i∧bsn[j]?=some b∧bx'[j]?=some c∧x=AV.aG (jr ids bx.length) c∧(j<ids.length∨i=bx.length+(j-ids.length)))∨(i ∉ ids∧bs[i]?=some b∧bx[i]?=some x):=by
  intro i b x hb hx;rcases Nat.lt_or_ge i bx.length with hi|hi
  ·rw [List.getElem?_append_left (by rw [H.len];exact hi)] at hb;rw [List.getElem?_append_left (by rw [hs1];exact hi)] at hx;by_cases hii:i ∈ ids
   ·obtain ⟨k,hk,hki⟩:=List.getElem_of_mem hii;have hk2:ids[k]?=some i:=by rw [←hki];exact List.getElem?_eq_getElem hk
    rw [hs3 k i (NB[k]'oM) hk2 (List.getElem?_eq_getElem oM) hi] at hx;cases hx;obtain ⟨c',h1,h2⟩:=apR k _ (List.getElem?_eq_getElem oM);refine .inl ⟨k,c',by unfold jr;rw [hk2],?_,h1,h2,.inl hk⟩;rw [hpre k hk,List.getElem?_map,hk2];simp [hb]
   ·rw [hs2 i hii] at hx;exact .inr ⟨hii,hb,hx⟩
  ·rw [List.getElem?_append_right (by rw [H.len];exact hi),List.getElem?_drop,H.len] at hb;rw [List.getElem?_append_right (by rw [hs1];exact hi),hs1,List.getElem?_map,List.getElem?_drop] at hx;cases hh:bx'[ids.length+(i-bx.length)]? with
   |none=>rw [hh] at hx;cases hx
   |some c=>
    rw [hh] at hx;cases hx;refine .inl ⟨ids.length+(i-bx.length),c,?_,hb,hh,rfl,.inr oM⟩;unfold jr;rw [List.getElem?_eq_none oM];simp only [];omega
 have hinj:∀j k,j<bsn.length->k<bsn.length->jr ids bx.length j=jr ids bx.length k->j=k:=by intro j k hj hk e;have h1:=hun j _ (List.getElem?_eq_getElem hj);have h2:=hun k _ (List.getElem?_eq_getElem hk);rw [e,h2] at h1;simp only [Option.some.injEq] at h1;exact gm H'.BX (List.getElem?_eq_getElem hj) (by rw [List.getElem?_eq_getElem hk,h1])
 have hcls:∀p g,Own w' (bs++bsn.drop ids.length) (ak bx ids NB++(bx'.drop ids.length).map (AV.aG (jr ids bx.length))) (upD S d (r.bP (jr ids bx.length),v)) p g->(∃q,Own w' bsn bx' (rS r v) q g∧((∃k,d=some k∧p=.t k∧q=.t 0)∨∃k j,k<bsn.length∧p=.b (jr ids bx.length k) j∧q=.b k j))∨(Own w bs bx S p g∧¬mC lim w (ids.map fun i=>bs.getD i 0) (cs.map (AV.aG ids.idxOf)) Sc g):=by
  intro p g hp;cases p with
  |t k=>
   have hold:∀(h:Own w bs bx S (.t k) g),(∃q,Own w' bsn bx' (rS r v) q g∧((∃k',d=some k'∧Loc.t k=.t k'∧q=.t 0)∨∃k' j,k'<bsn.length∧Loc.t k=.b (jr ids bx.length k') j∧q=.b k' j))∨(Own w bs bx S (.t k) g∧¬mC lim w (ids.map fun i=>bs.getD i 0) (cs.map (AV.aG ids.idxOf)) Sc g):=fun h=> .inr ⟨h,rQ _ g h (fun i j e=>by cases e)⟩;cases d with
   |none=>exact hold hp
   |some dk=>
    obtain ⟨p1,p2⟩:=hp;have p1':(up S dk (r.bP (jr ids bx.length),v) k).1.isRow=true:=p1;have p2':(up S dk (r.bP (jr ids bx.length),v) k).2.ownBlock=some g:=p2;unfold up at p1' p2';by_cases e:k=dk
    ·rw [if_pos e] at p1' p2';exact .inl ⟨.t 0,⟨by rw [AV.oO] at p1';exact p1',p2'⟩,.inl ⟨dk,rfl,by rw [e],rfl⟩⟩
    ·rw [if_neg e] at p1' p2';exact hold ⟨p1',p2'⟩
  |b i j=>
   obtain ⟨b,x,y,u,q1,q2,q3,q4,q5,q6⟩:=hp;rcases hcase i b x q1 q2 with ⟨k,c,e1,e2,e3,e4,-⟩|⟨hi,e1,e2⟩
   ·subst e4;obtain ⟨z,hz,rfl⟩:=PD q3;rw [AV.oO] at q4;exact .inl ⟨.b k j,⟨b,c,z,u,e2,e3,hz,q4,q5,q6⟩,.inr ⟨k,j,(List.getElem?_eq_some_iff.1 e2).1,by rw [e1],rfl⟩⟩
   ·have hnb:=Zo i b hi e1;have hsame:=(hfr.pV b (lU H (List.mem_of_getElem? e1)) hnb).1;have ho:Own w bs bx S (.b i j) g:=⟨b,x,y,u,e1,e2,q3,q4,by rw [←World.cell?_of_block (w':=w') hsame];exact q5,q6⟩;exact .inr ⟨ho,rQ _ g ho (fun i2 j2 e=>by cases e;exact hi)⟩
 have agl:∀q g,Own w' bsn bx' (rS r v) q g->m g∧g ∉ bs++bsn.drop ids.length:=by
  intro q g hq;obtain ⟨h1,h2⟩:=H'.own q g hq;have hd2:g ∉ bsn.drop ids.length:=fun h=>h2 (List.mem_of_mem_drop h);refine ⟨akV g h1,fun hh=>?_⟩;rcases List.mem_append.1 hh with hh|hh
  ·rcases h1 with h|⟨p,hp⟩|h
   ·
    obtain ⟨k0,h0,e⟩:=List.getElem_of_mem h;have hk0:k0<ids.length:=by simpa using h0
    exact h2 (List.mem_of_getElem? (show bsn[k0]?=some g by rw [hpre k0 hk0,List.getElem?_eq_getElem h0,e]))
   ·cases p with
    |t k=>exact absurd hp (sQ k g)
    |b i j=>obtain ⟨i',-,ho⟩:=hbox i j g hp;exact (H.own _ _ ho).2 hh
   ·have:=lU H hh;omega
  ·exact hd2 hh
 refine ⟨⟨?_,?_,fun b hb=>?_,fun b hb=>?_,fun i b x hi hx=>?_,fun k=>?_,fun k=>?_,H'.top,fun p g hp=>?_,fun p q g hp hq=>?_⟩,ak4⟩
 ·rw [List.length_append,List.length_append,hs1,H.len,List.length_map,List.length_drop,List.length_drop,hnl]
 ·rw [List.nodup_append];exact ⟨H.BX,H'.BX.sublist (List.drop_sublist _ _),fun x hx y hy e=>akS y hy (e▸hx)⟩
 ·rcases List.mem_append.1 hb with hb|hb
  ·by_cases hbi:b ∈ (ids.map fun i=>bs.getD i 0)
   ·obtain ⟨k0,h0,e⟩:=List.getElem_of_mem hbi;have hk0:k0<ids.length:=by simpa using h0
    exact H'.free b (List.mem_of_getElem? (show bsn[k0]?=some b by rw [hpre k0 hk0,List.getElem?_eq_getElem h0,e]))
   ·obtain ⟨i,hi,rfl⟩:=List.getElem_of_mem hb;have hnot:i ∉ ids:=fun h=>hbi ((hmem _).2 ⟨i,h,List.getElem?_eq_getElem hi⟩);have:=Zo i _ hnot (List.getElem?_eq_getElem hi);rw [(hfr.pV _ (lU H hb) this).2];exact H.free _ hb
  ·exact H'.free b (List.mem_of_mem_drop hb)
 ·rcases List.mem_append.1 hb with hb|hb
  ·exact H.mb b hb
  ·exact akV b (H'.mb b (List.mem_of_mem_drop hb))
 ·rcases hcase i b x hi hx with ⟨k,c,e1,e2,e3,e4,-⟩|⟨hii,e1,e2⟩
  ·subst e4;obtain ⟨C,tl,t,g1,g2,g3⟩:=H'.box k b c e2 e3;exact ⟨C,tl,t,g1,AV.Rs.bP (fun j _ b2 hb2=>hun j b2 hb2) g2,JZ g3⟩
  ·have hnb:=Zo i b hii e1;obtain ⟨C,tl,t,g1,g2,g3⟩:=H.box i b x e1 e2;have hkeep:=hfr.pV b (dO g1) hnb;refine ⟨C,tl,t,hkeep.1.trans g1,qj qm g3 (fun j y u g hy hu hr hg=>?_) g2,g3⟩;have ho:Own w bs bx S (.b i j) g:=⟨b,x,y,u,e1,e2,hy,hr,dV g1 hu,hg⟩;exact hfr.pV g (Own.lt H ho) (rQ _ g ho (fun i2 j2 e=>by cases e;exact hii))
 ·have hS:∀k,AV.R lim' (bs++bsn.drop ids.length) w' (S k).1 (S k).2:=fun k=>AV.R.pV qm (H.kN k) (fun g h1 h2=>hfr.pV g (Own.lt H (p:=.t k) ⟨h1,h2⟩) (rQ (.t k) g ⟨h1,h2⟩ (fun i j e=>by cases e))) (H.slot k);cases d with
  |none=>exact hS k
  |some dk=>
   show AV.R lim' _ w' (up S dk (r.bP _,v) k).1 (up S dk (r.bP _,v) k).2;unfold up;split
   ·exact AV.R.bP (fun j _ b2 hb2=>hun j b2 hb2) (H'.slot 0)
   ·exact hS k
 ·cases d with
  |none=>exact H.kN k
  |some dk=>
   show (up S dk (r.bP _,v) k).1.top=true;unfold up;split
   ·show (r.bP _).top=true;rw [AV.zY];exact H'.kN 0
   ·exact H.kN k
 ·rcases hcls p g hp with ⟨q,hq,-⟩|⟨ho,n1⟩
  ·exact agl q g hq
  ·refine ⟨(H.own p g ho).1,fun hh=>?_⟩;rcases List.mem_append.1 hh with hh|hh
   ·exact (H.own p g ho).2 hh
   ·exact n1 (H'.mb g (List.mem_of_mem_drop hh))
 ·rcases hcls p g hp with ⟨p',hp',e1⟩|⟨ho,n1⟩
  ·rcases hcls q g hq with ⟨q',hq',e2⟩|⟨ho2,n2⟩
   ·have:=H'.qO p' q' g hp' hq';subst this;rcases e1 with ⟨k,a1,a2,a3⟩|⟨k,j,a1,a2,a3⟩
    ·rcases e2 with ⟨k2,b1,b2,b3⟩|⟨k2,j2,b1,b2,b3⟩
     ·rw [a1] at b1;cases b1;rw [a2,b2]
     ·rw [a3] at b3;cases b3
    ·rcases e2 with ⟨k2,b1,b2,b3⟩|⟨k2,j2,b1,b2,b3⟩
     ·rw [a3] at b3;cases b3
     ·rw [a3] at b3;cases b3;rw [a2,b2]
   ·exact absurd (H'.own p' g hp').1 n2
  ·rcases hcls q g hq with ⟨q',hq',e2⟩|⟨ho2,n2⟩
   ·exact absurd (H'.own q' g hq').1 n1
   ·exact H.qO p q g ho ho2
theorem pg (H:aB lim bs w bx (Sl σ.tm a) m) (x:Operand):Av lim bs w (val σ.tm x) (a.eval x)∧((val σ.tm x).isRow=true->∃t,x=.tmp t∧val σ.tm x=get σ.tm t):=by
 cases x with
 |tmp t=>exact ⟨⟨H.slot t,H.kN t⟩,fun _=>⟨t,rfl,rfl⟩⟩
 |const v=>
  have key:AV.R lim bs w (cst v) v∧(cst v).top=true∧(cst v).isRow=false:=by
   unfold cst;split
   ·exact ⟨by rw [AV.R],rfl,rfl⟩
   ·exact ⟨by rw [AV.R],rfl,rfl⟩
   ·split
    ·rename_i hz;exact ⟨by rw [AV.R];exact ⟨rfl,Nat.le_trans hz nM.lo⟩,rfl,rfl⟩
    ·exact ⟨oV _,rfl,rfl⟩
   ·exact ⟨by rw [AV.R],rfl,rfl⟩
   ·exact ⟨oV _,rfl,rfl⟩
  exact ⟨⟨key.1,key.2.1⟩,fun h=>by rw [show val σ.tm (.const v)=cst v from rfl,key.2.2] at h;cases h⟩
 |func f=>
  refine ⟨⟨?_,rfl⟩,fun h=>by cases h⟩;show AV.R lim bs w (.fn f []) _;rw [AV.R];exact ⟨#[],rfl,by rw [AV.Rs]⟩
 |global g=>exact ⟨⟨oV _,rfl⟩,fun h=>by cases h⟩
theorem qV (H:aB lim bs w bx (Sl σ.tm a) m):∀(l:List Operand),AV.Rs lim bs w ((l.map (val σ.tm)).map AV.cO) (l.map a.eval)∧AV.aj ((l.map (val σ.tm)).map AV.cO)=true
 |[]=>⟨by rw [List.map_nil,List.map_nil,List.map_nil,AV.Rs],rfl⟩
 |x::l=>by obtain ⟨h1,h2⟩:=qV H l;have hv:=(pg H x).1;simp only [List.map_cons] at h1 h2⊢;rw [AV.Rs,AV.aj,hv.flat,h2];exact ⟨⟨_,_,rfl,hv.r.cO,h1⟩,rfl⟩
theorem aaS (H:aB lim bs w bx (Sl σ.tm a) m):∀(l:List (Nat×Operand)),Ps lim bs w (uB (val σ.tm) l) (l.map fun p=>(p.1,a.eval p.2))
 |[]=> .nil
 |(i,x)::l=> .cons (pg H x).1 (aaS H l)
theorem WY (HC:fB P cal) (H:aB lim bs w σ.bx (Sl σ.tm a) m) (hm:∀b,w.heap.size<=b->m b) (hd:∀k,o.dst=some k->k<a.tmps.size) {c:Call} {f:Operand} (ho:o.op=.call c) (hc:c.callee=.value f) {ids:List Nat} (hnd:ids.Nodup) (hcs:bD σ.bx ids=some cs)
  (h:Lp cal ids σ.bx.length (val σ.tm f) (c.args.toList.map (val σ.tm)) cs=some out) (hok:out.ok=true) (hK:yA m lim bs w a (fin o.dst out ids [] σ) K):o.wp P a w K Q:=by
 unfold Lp at h;split at h
 ·rename_i g cap hf;split at h
  ·rename_i hk;obtain ⟨k1,k2,k3⟩:=hk;split at h
   ·rename_i r bx' Gp;cases h;have adk:ids.length<=bx'.length:=by have h1:=hok;simp only [Bool.and_eq_true,decide_eq_true_eq] at h1;exact h1.1
    obtain ⟨Og,-,hcall⟩:=HC g _ _ r bx' Gp;have hfr:=(pg H f).1.r;rw [hf,AV.R] at hfr;obtain ⟨vc,hfe,hcap⟩:=hfr;obtain ⟨hargs,yj⟩:=qV H c.args.toList;obtain ⟨ys,hys⟩:∃ys,ys=(c.args.toList.map (val σ.tm)).map AV.cO++cap:=⟨_,rfl⟩;rw [←hys] at Gp hcall k2;have hall:AV.Rs lim bs w ys (c.args.toList.map a.eval++vc.toList):=by rw [hys];exact ng hargs hcap
    have hyf:AV.aj ys=true:=by rw [hys];exact fA yj k1
    have arH:=AV.gK hall;rw [CO] at k2;rw [List.all_eq_true] at k3;obtain ⟨hcl,hcg⟩:=oP hcs;have hin:∀i ∈ ids,i<bs.length:=by intro i hi;obtain ⟨k,hk,rfl⟩:=List.getElem_of_mem hi;obtain ⟨c2,h1,-⟩:=hcg k _ (List.getElem?_eq_getElem hk);rw [H.len];exact (List.getElem?_eq_some_iff.1 h1).1
    have F6:AV.Rs lim (ids.map fun i=>bs.getD i 0) w (AV.aG ids.idxOf ys) (c.args.toList.map a.eval++vc.toList):=AV.Rs.bP (Iu (fun k i b e1 e2=>GV bs ids hin k i b e1 e2) k2) hall;have hlen2:(c.args.toList.map a.eval++vc.toList).length=(AV.aG ids.idxOf ys).length:=AV.gK F6;have DK:∀(k:Nat) (x:AV) (v:Value),(AV.aG ids.idxOf ys)[k]?=some x->(c.args.toList.map a.eval++vc.toList)[k]?=some v->AV.R lim (ids.map fun i=>bs.getD i 0) w x v:=by intro k x v hk hv;obtain ⟨v',h1,h2⟩:=mO F6 hk;rw [hv] at h1;cases h1;exact h2
    have DN:∀(k:Nat) (x:AV),(AV.aG ids.idxOf ys)[k]?=some x->x.flat=true:=fun k x hk=>fJ (by rw [AV.mF];exact hyf) hk;obtain ⟨HE,hE1,hE2,hE3⟩:=H.enter hnd hcs (fun c hc i hi=>CO.1 (k3 c hc) i hi) (args:=AV.aG ids.idxOf ys) (vs:=c.args.toList.map a.eval++vc.toList) hlen2 DN DK;have hrun:(execOp a.eval o).run P w=.ok (.enter g (c.args.map a.eval++vc)) w:=by unfold execOp;simp only [ho,resolve,hc,hfe,Deferred.ofValue,Sem.run_bind,Sem.run_pure,Result.andThen_ok,invoke,Array.empty_append];exact qh Og _
    have hvs:(c.args.toList.map a.eval++vc.toList).toArray=c.args.map a.eval++vc:=by rw [←Array.toList_inj];simp
    unfold Oper.wp;rw [hrun];show Calls P g (c.args.map a.eval++vc) w _;rw [←hvs];refine (hcall lim _ w _ _ hlen2 (fun b hb=> .inr (.inr hb)) HE).mono ?_;rintro e w' ⟨v,lim',bsn,rfl,H',Nl,hpre⟩;obtain ⟨HL,hfl⟩:=H.leave hm hnd hcs adk rfl (fun i hi=>hpre i (by rw [List.length_map,hcl];exact hi)) hE1 hE2 hE3 H' Nl o.dst;refine hK lim' (bs++bsn.drop ids.length) w' _ ⟨?_,hfl,fun i b hi=>by rw [List.getElem?_append_left (List.getElem?_eq_some_iff.1 hi).1];exact hi,bY _ _ _,put_defers _ _ _⟩;show aB lim' _ w' _ (Sl (eG σ.tm o.dst (r.bP (jr ids σ.bx.length))) (a.put o.dst v)) m;rw [jh hd];exact HL
   ·cases h
  ·cases h
 ·cases h
end Ab
end
end Go.Proofs.YtlmjabnkjmfcmaaGreat
